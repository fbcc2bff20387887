import Derived.Test.YtpdllgbfemnemaaGreatZKm
import Derived.Test.YtpdllgbfemnemaaGreatZGeoC
namespace Go.Proofs.YtpdllgbfemnemaaGreat.Sx
open Go.RowKit
section
def sumK(f:Nat->Int):Nat->Int
 |0=>1
 |j+1=>sumK f j+f j
theorem z7p(s:Lean_)(hs:s.fitN)(h:Nat)(hh:h+1<=16)
  (ih: ∀(k:Nat) (whole:Bool) (late:List Int),k<2^(16-h)->late.length<=100000000->(∀u∈late,za6 u)->zaf Tryz.prog 59 [.ag (zce s),I (nd h k), .b whole,is late] (.r (I (zbp s.opn s.shut h k whole late))))
  (k:Nat) (hk:k<2^(16-(h+1))) (whole:Bool) (late:List Int) (hlen:late.length<=100000000) (hlate: ∀u∈late,za6 u):
  zaf Tryz.prog 59 [.ag (zce s),I (nd (h+1) k), .b whole,is late] (.r (I (zbp s.opn s.shut (h+1) k whole late))):=by
 refine zac (T:=Tab) mixed Tab_ok Tryz.func59 rfl (by kernel_rfl) ?_
 have hleft:=zdk (d:=16) (by omega) (show h+1<=16 by omega) hk
 have hright:=zc7 (d:=16) (by omega) (show h+1<=16 by omega) hk
 have hk2:2^(16-h)=2*2^(16-(h+1)):=by rw[show 16-h=(16-(h+1))+1 by omega,Nat.pow_succ];omega
 refine Vstep.node2 rfl rfl rfl (λn hn=>?_) (λhn=>?_)
 ·obtain⟨sp,hsp,_,rfl⟩:=za7 hn
  have hfit:=hs.2.2.1 sp hsp
  refine zw rfl ?_
  refine za rfl rfl ?_
  refine Vcall.bool (zz2 _ _ hfit) (λhf=>zw rfl (zt ?_)) (λhf=>zu rfl (zq ?_))
  ·have hright':sp.node.right=true:=by simp only[za2,Bool.and_eq_true]at hf;exact hf.1
   have hnl:=Node.right_late hright'
   refine⟨by decide,_,rfl,?_⟩
   refine zw (by rw[zc5];rfl) (zt ?_)
   have goal3: ∀(all:Bool) (L:List Int),all=(whole&&decide (sp.node.kind.toNat=0))->L=(if whole then sp.node.par.late else late)->
     zbp s.opn s.shut (h+1) k whole late=max (1+kidP s.shut (λj w l=>zbp s.opn s.shut h j w l) h all L (2*k)+kidP s.shut (λj w l=>zbp s.opn s.shut h j w l) h all L (2*k+1)) zbh:=λall L e1 e2=>by
    subst e1;subst e2
    simp[zbp,hn,hf]
   have hpow:(1:Int)<=2^h/\(2:Int)^(h+1)<=131072:=by
    have e:(2:Int)^h=((2^h:Nat):Int):=by simp
    have e':(2:Int)^(h+1)=((2^(h+1):Nat):Int):=by simp
    have:=zag h
    have h2:2^(h+1)<=2^17:=Nat.pow_le_pow_right (by omega) (by omega)
    omega
   have prep:(∃(all:Bool) (L:List Int),all=(whole&&decide (sp.node.kind.toNat=0))/\L=(if whole then sp.node.par.late else late)/\L.length<=100000000/\∀u∈L,za6 u):=
    ⟨_,_,rfl,rfl,by split;exact hfit.2.2.2.1;exact hlen,by split;exact hnl;exact hlate⟩
   obtain⟨all,L,eall,eL,hLl,hLd⟩:=prep
   have hend:=goal3 all L eall eL
   clear goal3
   have hkid:=λj=>znp (ziy s.opn s.shut h) all L j
   obtain⟨f,hfdef⟩: ∃f:Nat->Int,f= λj=>kidP s.shut (λj w l=>zbp s.opn s.shut h j w l) h all L (2*k+j):=⟨_,rfl⟩
   have hfb: ∀j,zbh<=f j/\f j<=131072:=λj=>by
    have:=hkid (2*k+j)
    simp only[hfdef]
    exact⟨this.1,by omega⟩
   have hend2:zbp s.opn s.shut (h+1) k whole late=max (sumK f 2) zbh:=by
    rw[hend]
    simp only[sumK,hfdef,Nat.add_zero]
   cases whole with
   |false=>
    simp only[Bool.false_and,Bool.false_eq_true,if_false]at eall eL
    refine zt ?_
    refine ze (zii _) ?_
    refine ze (zg5 _) ?_
    refine zx ?_
    refine zy (λj:Nat=>{F:=[(3, .r (is L)),(4, .own 0),(11, .r (.b all)),(12, .r (I (sumK f j))),(47, .r (is [(nd h (2*k):Int),(nd h (2*k+1):Int)])),(48, .r (I 2)),(49, .r (I j))],O:=[(0,some (.box ((zce s).map .r)))],nx:=1}) (λj=>j<=2) (λj=>2-j) 0 (by omega)
     (zad [(0,0)] rfl ⟨zf (by subst eL;rfl),rfl,zf (by subst eall;rfl),cr,zf (by simp[is,zb8,cellsOf,hleft,hright,ofC]),cr,cr,trivial⟩ ⟨zab _,trivial⟩) ?_
    intro j hj
    refine zh (λh1=>zq ?_) (λh1=>zt ?_)
    ·simp only[zb]at h1
     have hj':j<2:=by omega
     have hsum:sumK f j+f j=sumK f (j+1):=rfl
     have hsb:2*zbh<=sumK f j/\sumK f j<=1000000:=by
      have a0:=hfb 0
      have a1:=hfb 1
      have:j=0\/j=1:=by omega
      rcases this with rfl |rfl<;>simp only[sumK,zbh]at* <;>omega
     have hjb:=hfb j
     simp only[zbh]at hsb hjb
     refine zm (by omega) (by omega) (zai rfl hj') (zg rfl ?_)
     have hc:([(nd h (2*k):Int),(nd h (2*k+1):Int)]:List Int)[j]=(nd h (2*k+j):Int):=by
      have:j=0\/j=1:=by omega
      rcases this with rfl |rfl<;>rfl
     have hkj:2*k+j<2^(16-h):=by omega
     cases all with
     |true=>
      refine zq ?_
      refine za rfl rfl ?_
      refine Vcall.mk' (ih (2*k+j) true [] hkj (by simp) (by simp)) (zk (cr) (zk (zf (by rw[hc])) (zk (cr) (zk (Cv.nil 1) Cvs.nil)))) ?_
      have hv:zbp s.opn s.shut h (2*k+j) true []=f j:=by rw[hfdef];simp[kidP]
      rw[hv]
      refine zd rfl (by omega) ?_
      refine zd (m:=((j+1:Nat):Int)) (by omega) (by omega) ?_
      exact⟨j+1,by omega,by omega,zad [(0,0)] rfl ⟨cr,rfl,cr,cr,cr,cr,cr,trivial⟩ ⟨zab _,trivial⟩⟩
     |false=>
      refine zt ?_
      refine Vstep.sub (ze4 (t:=14) [I _] rfl rfl) (Vstep.mkfun I za6 _ rfl rfl (λu hu=>zv3 u _ hu) ?_)
      refine Vcall.bool (zc3 L za6 _ (by omega) hLd) (λha=>zq ?_) (λha=>zt ?_)
      ·refine za rfl rfl ?_
       refine zg rfl ?_
       refine Vcall.mk' (ih (2*k+j) false L hkj hLl hLd) (zk (cr) (zk (zf (by rw[hc])) (zn _))) ?_
       rw[hc]at ha
       have hv:zbp s.opn s.shut h (2*k+j) false L=f j:=by rw[hfdef];simp only[kidP,ha,Bool.false_eq_true,if_false,if_true]
       rw[hv]
       refine zd rfl (by omega) ?_
       refine zd (m:=((j+1:Nat):Int)) (by omega) (by omega) ?_
       exact⟨j+1,by omega,by omega,zad [(0,0)] rfl ⟨cr,rfl,cr,cr,cr,cr,cr,trivial⟩ ⟨zab _,trivial⟩⟩
      ·refine za rfl rfl ?_
       refine zg rfl ?_
       refine Vcall.mk' (zu8 s (nd h (2*k+j))) (zk (cr) (zk (zf (by rw[hc])) (zn _))) ?_
       rw[hc]at ha
       have hv:zfu s.shut (nd h (2*k+j))=f j:=by rw[hfdef];simp only[kidP,ha,Bool.false_eq_true,if_false]
       rw[hv]
       refine zd rfl (by omega) ?_
       refine zd (m:=((j+1:Nat):Int)) (by omega) (by omega) ?_
       exact⟨j+1,by omega,by omega,zad [(0,0)] rfl ⟨cr,rfl,cr,cr,cr,cr,cr,trivial⟩ ⟨zab _,trivial⟩⟩
    ·simp only[zb]at h1
     obtain rfl:j=2:=by omega
     refine Vstep.max rfl rfl rfl ?_
     exact zf (by rw[hend2,maxI])
   |true=>
    simp only[Bool.true_and,if_true]at eall eL
    refine zh (λhk0=>zq ?_) (λhk0=>zq ?_)
    ·simp only[zb]at hk0
     rw[decide_eq_true (by omega)]at eall
     refine ze (zii _) ?_
     refine ze (zg5 _) ?_
     refine zx ?_
     refine zy (λj:Nat=>{F:=[(3, .r (is L)),(4, .own 0),(11, .r (.b all)),(12, .r (I (sumK f j))),(47, .r (is [(nd h (2*k):Int),(nd h (2*k+1):Int)])),(48, .r (I 2)),(49, .r (I j))],O:=[(0,some (.box ((zce s).map .r)))],nx:=1}) (λj=>j<=2) (λj=>2-j) 0 (by omega)
      (zad [(0,0)] rfl ⟨zf (by subst eL;rfl),rfl,zf (by subst eall;rfl),cr,zf (by simp[is,zb8,cellsOf,hleft,hright,ofC]),cr,cr,trivial⟩ ⟨zab _,trivial⟩) ?_
     intro j hj
     refine zh (λh1=>zq ?_) (λh1=>zt ?_)
     ·simp only[zb]at h1
      have hj':j<2:=by omega
      have hsum:sumK f j+f j=sumK f (j+1):=rfl
      have hsb:2*zbh<=sumK f j/\sumK f j<=1000000:=by
       have a0:=hfb 0
       have a1:=hfb 1
       have:j=0\/j=1:=by omega
       rcases this with rfl |rfl<;>simp only[sumK,zbh]at* <;>omega
      have hjb:=hfb j
      simp only[zbh]at hsb hjb
      refine zm (by omega) (by omega) (zai rfl hj') (zg rfl ?_)
      have hc:([(nd h (2*k):Int),(nd h (2*k+1):Int)]:List Int)[j]=(nd h (2*k+j):Int):=by
       have:j=0\/j=1:=by omega
       rcases this with rfl |rfl<;>rfl
      have hkj:2*k+j<2^(16-h):=by omega
      cases all with
      |true=>
       refine zq ?_
       refine za rfl rfl ?_
       refine Vcall.mk' (ih (2*k+j) true [] hkj (by simp) (by simp)) (zk (cr) (zk (zf (by rw[hc])) (zk (cr) (zk (Cv.nil 1) Cvs.nil)))) ?_
       have hv:zbp s.opn s.shut h (2*k+j) true []=f j:=by rw[hfdef];simp[kidP]
       rw[hv]
       refine zd rfl (by omega) ?_
       refine zd (m:=((j+1:Nat):Int)) (by omega) (by omega) ?_
       exact⟨j+1,by omega,by omega,zad [(0,0)] rfl ⟨cr,rfl,cr,cr,cr,cr,cr,trivial⟩ ⟨zab _,trivial⟩⟩
      |false=>
       refine zt ?_
       refine Vstep.sub (ze4 (t:=14) [I _] rfl rfl) (Vstep.mkfun I za6 _ rfl rfl (λu hu=>zv3 u _ hu) ?_)
       refine Vcall.bool (zc3 L za6 _ (by omega) hLd) (λha=>zq ?_) (λha=>zt ?_)
       ·refine za rfl rfl ?_
        refine zg rfl ?_
        refine Vcall.mk' (ih (2*k+j) false L hkj hLl hLd) (zk (cr) (zk (zf (by rw[hc])) (zn _))) ?_
        rw[hc]at ha
        have hv:zbp s.opn s.shut h (2*k+j) false L=f j:=by rw[hfdef];simp only[kidP,ha,Bool.false_eq_true,if_false,if_true]
        rw[hv]
        refine zd rfl (by omega) ?_
        refine zd (m:=((j+1:Nat):Int)) (by omega) (by omega) ?_
        exact⟨j+1,by omega,by omega,zad [(0,0)] rfl ⟨cr,rfl,cr,cr,cr,cr,cr,trivial⟩ ⟨zab _,trivial⟩⟩
       ·refine za rfl rfl ?_
        refine zg rfl ?_
        refine Vcall.mk' (zu8 s (nd h (2*k+j))) (zk (cr) (zk (zf (by rw[hc])) (zn _))) ?_
        rw[hc]at ha
        have hv:zfu s.shut (nd h (2*k+j))=f j:=by rw[hfdef];simp only[kidP,ha,Bool.false_eq_true,if_false]
        rw[hv]
        refine zd rfl (by omega) ?_
        refine zd (m:=((j+1:Nat):Int)) (by omega) (by omega) ?_
        exact⟨j+1,by omega,by omega,zad [(0,0)] rfl ⟨cr,rfl,cr,cr,cr,cr,cr,trivial⟩ ⟨zab _,trivial⟩⟩
     ·simp only[zb]at h1
      obtain rfl:j=2:=by omega
      refine Vstep.max rfl rfl rfl ?_
      exact zf (by rw[hend2,maxI])
    ·simp only[zb]at hk0
     rw[decide_eq_false (by omega)]at eall
     refine ze (zii _) ?_
     refine ze (zg5 _) ?_
     refine zx ?_
     refine zy (λj:Nat=>{F:=[(3, .r (is L)),(4, .own 0),(11, .r (.b all)),(12, .r (I (sumK f j))),(47, .r (is [(nd h (2*k):Int),(nd h (2*k+1):Int)])),(48, .r (I 2)),(49, .r (I j))],O:=[(0,some (.box ((zce s).map .r)))],nx:=1}) (λj=>j<=2) (λj=>2-j) 0 (by omega)
      (zad [(0,0)] rfl ⟨zf (by subst eL;rfl),rfl,zf (by subst eall;rfl),cr,zf (by simp[is,zb8,cellsOf,hleft,hright,ofC]),cr,cr,trivial⟩ ⟨zab _,trivial⟩) ?_
     intro j hj
     refine zh (λh1=>zq ?_) (λh1=>zt ?_)
     ·simp only[zb]at h1
      have hj':j<2:=by omega
      have hsum:sumK f j+f j=sumK f (j+1):=rfl
      have hsb:2*zbh<=sumK f j/\sumK f j<=1000000:=by
       have a0:=hfb 0
       have a1:=hfb 1
       have:j=0\/j=1:=by omega
       rcases this with rfl |rfl<;>simp only[sumK,zbh]at* <;>omega
      have hjb:=hfb j
      simp only[zbh]at hsb hjb
      refine zm (by omega) (by omega) (zai rfl hj') (zg rfl ?_)
      have hc:([(nd h (2*k):Int),(nd h (2*k+1):Int)]:List Int)[j]=(nd h (2*k+j):Int):=by
       have:j=0\/j=1:=by omega
       rcases this with rfl |rfl<;>rfl
      have hkj:2*k+j<2^(16-h):=by omega
      cases all with
      |true=>
       refine zq ?_
       refine za rfl rfl ?_
       refine Vcall.mk' (ih (2*k+j) true [] hkj (by simp) (by simp)) (zk (cr) (zk (zf (by rw[hc])) (zk (cr) (zk (Cv.nil 1) Cvs.nil)))) ?_
       have hv:zbp s.opn s.shut h (2*k+j) true []=f j:=by rw[hfdef];simp[kidP]
       rw[hv]
       refine zd rfl (by omega) ?_
       refine zd (m:=((j+1:Nat):Int)) (by omega) (by omega) ?_
       exact⟨j+1,by omega,by omega,zad [(0,0)] rfl ⟨cr,rfl,cr,cr,cr,cr,cr,trivial⟩ ⟨zab _,trivial⟩⟩
      |false=>
       refine zt ?_
       refine Vstep.sub (ze4 (t:=14) [I _] rfl rfl) (Vstep.mkfun I za6 _ rfl rfl (λu hu=>zv3 u _ hu) ?_)
       refine Vcall.bool (zc3 L za6 _ (by omega) hLd) (λha=>zq ?_) (λha=>zt ?_)
       ·refine za rfl rfl ?_
        refine zg rfl ?_
        refine Vcall.mk' (ih (2*k+j) false L hkj hLl hLd) (zk (cr) (zk (zf (by rw[hc])) (zn _))) ?_
        rw[hc]at ha
        have hv:zbp s.opn s.shut h (2*k+j) false L=f j:=by rw[hfdef];simp only[kidP,ha,Bool.false_eq_true,if_false,if_true]
        rw[hv]
        refine zd rfl (by omega) ?_
        refine zd (m:=((j+1:Nat):Int)) (by omega) (by omega) ?_
        exact⟨j+1,by omega,by omega,zad [(0,0)] rfl ⟨cr,rfl,cr,cr,cr,cr,cr,trivial⟩ ⟨zab _,trivial⟩⟩
       ·refine za rfl rfl ?_
        refine zg rfl ?_
        refine Vcall.mk' (zu8 s (nd h (2*k+j))) (zk (cr) (zk (zf (by rw[hc])) (zn _))) ?_
        rw[hc]at ha
        have hv:zfu s.shut (nd h (2*k+j))=f j:=by rw[hfdef];simp only[kidP,ha,Bool.false_eq_true,if_false]
        rw[hv]
        refine zd rfl (by omega) ?_
        refine zd (m:=((j+1:Nat):Int)) (by omega) (by omega) ?_
        exact⟨j+1,by omega,by omega,zad [(0,0)] rfl ⟨cr,rfl,cr,cr,cr,cr,cr,trivial⟩ ⟨zab _,trivial⟩⟩
     ·simp only[zb]at h1
      obtain rfl:j=2:=by omega
      refine Vstep.max rfl rfl rfl ?_
      exact zf (by rw[hend2,maxI])
  ·exact zf (by simp[zbp,hn,hf,ofC])
 ·refine zu rfl (zq ?_)
  exact zf (by simp[zbp,hn,ofC])
end
section
theorem Vsem.field{P:Program}{T:TT}{S:St}{o:Oper}(hT:TOk P T){t:TypeId}{x:Operand}{i off:Nat}{ft:TypeId}{ti tf:TI}{fs:List (Nat×TypeId)}{cells:List RV}{rv:RV}{K:TF->Option Ow->Prop}(hop:o.op= .field t x i)(hti:tget T t=some ti)(hk:ti.k= .struct fs)(hfs:lget fs i=some (off,ft))(htf:tget T ft=some tf)(hag:tf.agg=false)
  (hx:opr S x=some (.r (.ag cells))) (hc:lget cells off=some rv) (hK:K (.r rv) none):Vsem P S o K:=by
 refine⟨_,_,λB N a w k Q ⟨g,hs⟩ hd=>?_,hK⟩
 have hv:=(zak hs hx).2
 simp only[TF.at_,RV.at_]at hv
 obtain⟨us,e,hl⟩:=hv
 rw[zb0]at hc hfs
 have hul:=(RV.listAt_iff _ _).1 hl
 have hlt:off<us.toList.length:=by rw[hul.1];exact(List.getElem?_eq_some_iff.1 hc).1
 have hu:us.toList[off]?=some us.toList[off]:=List.getElem?_eq_getElem hlt
 have h1:=hul.2 off rv _ hc hu
 obtain⟨q,hq⟩:=hT.get hti
 obtain⟨d,hdd,hko,_⟩:=q.desc
 rw[hq]at hdd
 rw[hk]at hko
 obtain⟨fields,rfl,hfl⟩:=hko
 obtain⟨qf,hqf⟩:=hT.get htf
 obtain⟨df,hdf,_,hrow⟩:=qf.desc
 rw[hqf]at hdf
 rw[hag]at hrow
 have hagg:(isAgg ft).run P w= .ok false w:=by
  unfold isAgg
  rw[Sem.run_bind,run_underlying hdf w]
  cases df<;>simp_all [TypeDesc.isRow]
 rw[<-hfl,List.getElem?_map]at hfs
 cases hfi:fields.toList[i]? with
 |none=>simp[hfi]at hfs
 |some fd=>
  simp only[hfi,Option.map_some,Option.some.injEq,Prod.mk.injEq]at hfs
  obtain⟨rfl,rfl⟩:=hfs
  have hfa:fields[i]?=some fd:=by simpa using hfi
  have hua:us[fd.offset]?=some us.toList[fd.offset]:=by rw[<-Array.getElem?_toList];exact hu
  refine zbr (v:=us.toList[fd.offset]) (w':=w) ?_ ⟨k,g,hs.put hd trivial h1.2⟩
  simp[execOp,hop,Instr.field,run_underlying hdd w,hfa,e,part,hagg,hua,asAgg]
def zkw(O:List Spot)(H:List Stub)(x:Int):Int:=zbp O H (lv x.toNat) (x.toNat/2^(lv x.toNat+1)) true []
def valP(s:Lean_)(c:Int):Int:=match zae s.opn c with
 |some _=>zkw s.opn s.shut c
 |none=>zfu s.shut c
def okN(s:Lean_)(x:Int):Bool:=match zae s.opn x with
 |some n=>za2 x n
 |none=>false
def sumI(f:Int->Int):List Int->Int
 |[]=>0
 |x::r=>f x+sumI f r
def ze6(s:Lean_):Bool:=match zae s.opn (2*s.own)with
 |some n=>decide (n.kind.toNat=1)
 |none=>false
def zbf(s:Lean_):Bool:=
 s.lookOk&&(za0 s.leaves&&(decide (0<=s.own)&&(decide (s.own<s.leaves)&&(ze6 s&&((2*s.own::za4 (2*s.own) s.leaves).all (okN s)&&((zau (2*s.own) s.leaves).all (λc=>decide (0<=valP s c))&&
  decide (1+(za4 (2*s.own) s.leaves).length+sumI (valP s) (zau (2*s.own) s.leaves)=s.opn.length+s.shut.length)))))))
theorem zfm{x:Int}(hx:za1 x=true): ∃h k,h<=16/\k<2^(16-h)/\x=(nd h k:Int)/\lv x.toNat=h/\x.toNat/2^(lv x.toNat+1)=k:=by
 rw[zk9]at hx
 obtain⟨d,h,k,hd,hn,hh,hk,rfl⟩:=zex hx
 have:d=16:=by
  rcases Nat.lt_or_ge d 16 with hlt |hge
  ·have:=Nat.pow_le_pow_right (n:=2) (by omega) (show d<=15 by omega)
   omega
  ·omega
 subst this
 have hle:=z2w hd hh hk
 have:=z6e hle
 have h2:=zfk (h:=h) (h':=lv (nd h k)) (by omega) (zg6 hle).1 this
 exact⟨h,k,hh,hk,rfl,by rw[Int.toNat_natCast];exact h2.1.symm,by rw[Int.toNat_natCast];exact h2.2.symm⟩
theorem z7v(s:Lean_)(hs:s.fitN): ∀(h k:Nat) (whole:Bool) (late:List Int),h<=16->k<2^(16-h)->late.length<=100000000->(∀u∈late,za6 u)->
  zaf Tryz.prog 59 [.ag (zce s),I (nd h k), .b whole,is late] (.r (I (zbp s.opn s.shut h k whole late)))
 |0,k,whole,late,_,hk,_,_=>z2d s hs k (by simpa using hk) whole late
 |h+1,k,whole,late,hh,hk,hl,hd=>z7p s hs h hh (λk w l hk hl hd=>z7v s hs h k w l (by omega) hk hl hd) k hk whole late hl hd
theorem zd8b(s:Lean_)(hs:s.fitN)(x:Int)(hx:za1 x=true):zaf Tryz.prog 59 [.ag (zce s),I x, .b true,is []] (.r (I (zkw s.opn s.shut x))):=by
 obtain⟨h,k,hh,hk,e,e1,e2⟩:=zfm hx
 unfold zkw
 rw[e1]at e2⊢
 rw[e2]
 have:=z7v s hs h k true [] hh hk (by simp) (by simp)
 rw[<-e]at this
 exact this
theorem zarb(O:List Spot)(H:List Stub){x:Int}(hx:za1 x=true):zbh<=zkw O H x/\zkw O H x<=131072:=by
 obtain⟨h,k,hh,hk,e,e1,e2⟩:=zfm hx
 unfold zkw
 rw[e1]
 have:=ziy O H h (x.toNat/2^(h+1)) true []
 have e':(2:Int)^(h+1)=((2^(h+1):Nat):Int):=by simp
 have h2:2^(h+1)<=2^17:=Nat.pow_le_pow_right (by omega) (by omega)
 omega
theorem z3p(s:Lean_){x:Int}(hx:za1 x=true):zbh<=valP s x/\valP s x<=131072:=by
 unfold valP
 split
 ·exact zarb _ _ hx
 ·rcases z02 s.shut x with e |e<;>rw[e]<;>simp only[zbh]<;>omega
theorem zoz{n o:Int}(hf:za0 n=true)(h0:0<=o)(h1:o<n): ∃d k:Nat,d<=16/\n=((2^d:Nat):Int)/\k<2^d/\o=(k:Int)/\2*o=(nd 0 k:Int):=by
 obtain⟨d,hd,rfl⟩:=zde hf
 obtain⟨k,rfl⟩:=Int.eq_ofNat_of_zero_le h0
 exact⟨d,k,hd,rfl,by omega,rfl,by rw[zd1];omega⟩
theorem zjr{n o:Int}(hf:za0 n=true)(h0:0<=o)(h1:o<n): ∀c∈zau (2*o) n,za1 c=true:=by
 obtain⟨d,k,hd,rfl,hk,rfl,e⟩:=zoz hf h0 h1
 rw[e,zgl hd hk]
 intro c hc
 obtain⟨h,hh,rfl⟩:=List.mem_map.1 hc
 rw[List.mem_range]at hh
 refine zcg (d:=d) hd (by omega) ?_
 rw[show d-h=d-h-1+1 by omega]
 exact z2t (by rw[show d-h-1+1=d-h by omega];exact zep hk (by omega))
theorem z92{f:Int->Int}{l:List Int}{j:Nat}(hj:j<l.length):sumI f (l.take (j+1))=sumI f (l.take j)+f l[j]:=by
 rw[List.take_add_one,List.getElem?_eq_getElem hj]
 generalize l.take j=m
 simp only[Option.toList]
 induction m with
 |nil=>simp[sumI]
 |cons y m ih=>simp only[List.cons_append,sumI,ih];omega
theorem z2v{f:Int->Int}: ∀{l:List Int},(∀x∈l,0<=f x/\f x<=131072)->0<=sumI f l/\sumI f l<=131072*l.length
 |[],_=>by simp[sumI]
 |x::r,h=>by
  have h1:=h x (by simp)
  have h2:=z2v (l:=r) λy hy=>h y (by simp[hy])
  simp only[sumI,List.length_cons]
  omega
theorem zh6{α:Type}{p:α->Bool}{l:List α}{x:α}(hx:x∈l)(h:p x=false):l.all p=false:=by
 rw[List.all_eq_false];exact⟨x,hx,by simp[h]⟩
theorem ztb(s:Lean_)(hs:s.fitN):zaf Tryz.prog 17 [.ag s.c] (.r (.b (zbf s))):=by
 refine zac (T:=Tab) mixed Tab_ok Tryz.func17 rfl (by kernel_rfl) ?_
 obtain⟨hs1,hs2,hs3,hs4⟩:=id hs
 have glook:=zny s (by omega) (by omega)
 refine za rfl rfl ?_
 cases hl:s.lookOk with
 |false=>
  simp only[zkm,hl,Bool.false_eq_true,if_false]at glook
  refine ze glook ?_
  refine zu rfl (zq ?_)
  exact zf (by simp[zbf,hl,ofC])
 |true=>
  simp only[zkm,hl,if_true]at glook
  refine ze glook ?_
  refine zw rfl ?_
  refine Vcall.bool (zpi s.leaves) (λhf=>zw rfl ?_) (λhf=>zu rfl (zq ?_))
  rotate_left
  ·exact zf (by simp[zbf,hf,ofC])
  have hn:=zc4 hf
  refine zh (λh0=>zq ?_) (λh0=>?_)
  ·simp only[zb]at h0
   refine zf (congrArg RV.b (Eq.symm ?_))
   have: ¬0<=s.own:=by omega
   simp[zbf,this]
  simp only[zb]at h0
  have h0':0<=s.own:=by omega
  refine zh (λh1=>zq ?_) (λh1=>?_)
  ·simp only[zb]at h1
   refine zf (congrArg RV.b (Eq.symm ?_))
   have: ¬s.own<s.leaves:=by omega
   simp[zbf,this]
  simp only[zb]at h1
  have h1':s.own<s.leaves:=by omega
  refine zd rfl (by omega) ?_
  refine Vstep.node1 rfl rfl rfl (λm hm=>?_) (λhm=>?_)
  rotate_left
  ·refine Vsem.field Tab_ok rfl rfl rfl rfl rfl rfl rfl rfl ?_
   refine zu rfl (zq ?_)
   exact zf (by simp[zbf,ze6,hm,ofC])
  refine Vsem.field Tab_ok rfl rfl rfl rfl rfl rfl rfl rfl ?_
  refine zh (λhk=>zq ?_) (λhk=>zt ?_)
  ·simp only[zb]at hk
   refine zf (congrArg RV.b (Eq.symm ?_))
   have: ¬m.kind.toNat=1:=by omega
   simp[zbf,ze6,hm,this]
  simp only[zb]at hk
  have hleaf:ze6 s=true:=by simp only[ze6,hm,decide_eq_true_eq];omega
  have hrp:zbf s=((2*s.own::za4 (2*s.own) s.leaves).all (okN s)&&((zau (2*s.own) s.leaves).all (λc=>decide (0<=valP s c))&&
   decide (1+(za4 (2*s.own) s.leaves).length+sumI (valP s) (zau (2*s.own) s.leaves)=s.opn.length+s.shut.length))):=by
   simp[zbf,hl,hf,h0',h1',hleaf]
  rw[hrp]
  have hcn:=zjr hf h0' h1'
  have hpl:=zd2 (2*s.own) s.leaves
  have hcl:=zee (2*s.own) s.leaves
  obtain⟨P,hP⟩: ∃P,P=za4 (2*s.own) s.leaves:=⟨_,rfl⟩
  obtain⟨C,hC⟩: ∃C,C=zau (2*s.own) s.leaves:=⟨_,rfl⟩
  rw[<-hP,<-hC]at hcl
  rw[<-hP]at hpl
  rw[<-hC]at hcn
  rw[<-hP,<-hC]
  refine Vdraw.mk' (by kernel_rfl) ?_
  refine zd rfl (by omega) ?_
  refine zx ?_
  refine zd rfl (by omega) ?_
  refine ze (zun _ _) ?_
  refine Vapp.mk' (j:=(2*s.own::P).length) (zs:=(2*s.own::P).map I) (by rw[<-hP];simp[maxLen];omega) (by rw[<-hP];simp;omega) (by rw[<-hP];simp;omega) (by rw[<-hP];rfl) ?_
  refine zy (λj:Nat=>{F:=[(1, .own 0),(3, .own 1),(5, .r (I j)),(60, .r (is (2*s.own::P))),(61, .r (I (2*s.own::P).length)),(62, .r (I j))],O:=[(0,some (.box (s.c.map .r))),(1,some (.box ((zce s).map .r)))],nx:=2})
   (λj=>j<=(2*s.own::P).length/\∀x∈(2*s.own::P).take j,okN s x=true) (λj=>(2*s.own::P).length-j) 0 ⟨by omega,by simp⟩
   (zad [(0,0),(1,1)] rfl ⟨rfl,rfl,cr,cr,cr,cr,trivial⟩ ⟨zab _,zab (zce s),trivial⟩) ?_
  have hlen:(2*s.own::P).length=P.length+1:=rfl
  rintro j ⟨hj,hok⟩
  refine zh (λh2=>zq ?_) (λh2=>zt ?_)
  ·simp only[zb]at h2
   have hj':j< (2*s.own::P).length:=by omega
   refine zm (by omega) (by omega) (zai rfl hj') (zg rfl ?_)
   refine Vstep.node2 rfl rfl rfl (λn hn=>?_) (λhn=>?_)
   ·obtain⟨sp,hsp,_,rfl⟩:=za7 hn
    refine zw rfl ?_
    refine za rfl rfl ?_
    refine Vcall.bool (zz2 _ _ (hs3 sp hsp)) (λh=>zw rfl (zt ?_)) (λh=>zu rfl (zq ?_))
    ·refine zd (m:=((j+1:Nat):Int)) (by omega) (by omega) ?_
     refine zd (m:=((j+1:Nat):Int)) (by omega) (by omega) ?_
     exact⟨j+1,⟨hj',zdq hj' hok (by simp[okN,hn,h])⟩,by omega,zad [(0,0),(1,1)] rfl ⟨rfl,rfl,cr,cr,cr,cr,trivial⟩ ⟨zab _,zab (zce s),trivial⟩⟩
    ·refine zf (congrArg RV.b (Eq.symm ?_))
     rw[zh6 (List.getElem_mem hj') (by simp[okN,hn,h])]
     rfl
   ·refine zu rfl (zq ?_)
    refine zf (congrArg RV.b (Eq.symm ?_))
    rw[zh6 (List.getElem_mem hj') (by simp[okN,hn])]
    rfl
  simp only[zb]at h2
  rw[List.take_of_length_le (by omega)]at hok
  have hjl:j=P.length+1:=by omega
  have hall:(2*s.own::P).all (okN s)=true:=by rw[List.all_eq_true];exact hok
  rw[hall,Bool.true_and]
  refine zd rfl (by omega) ?_
  refine ze (zatb _ _) ?_
  refine zy (λi:Nat=>{F:=[(1, .own 0),(3, .own 1),(5, .r (I (P.length+1+sumI (valP s) (C.take i)))),(89, .r (is C)),(90, .r (I C.length)),(91, .r (I i))],O:=[(0,some (.box (s.c.map .r))),(1,some (.box ((zce s).map .r)))],nx:=2})
   (λi=>i<=C.length/\∀x∈C.take i,0<=valP s x) (λi=>C.length-i) 0 ⟨by omega,by simp⟩
   (zad [(0,0),(1,1)] rfl ⟨rfl,rfl,zf (by simp[sumI,hjl]),zf (by subst hC;rfl),zf (by subst hC;rfl),cr,trivial⟩ ⟨zab _,zab (zce s),trivial⟩) ?_
  rintro i ⟨hi,hok2⟩
  refine zh (λh3=>zq ?_) (λh3=>zt ?_)
  ·simp only[zb]at h3
   have hi':i<C.length:=by omega
   have hcm:=hcn C[i] (List.getElem_mem hi')
   have hvb:=z3p s hcm
   have hsb:=z2v (f:=valP s) (l:=C.take i) λx hx=>⟨hok2 x hx,(z3p s (hcn x (List.mem_of_mem_take hx))).2⟩
   have hst:=z92 (f:=valP s) hi'
   have htl:(C.take i).length<=17:=by rw[List.length_take];omega
   have hstep: ∀v,v=valP s C[i]->0<=v->∃i',(i'<=C.length/\∀x∈C.take i',0<=valP s x)/\C.length-i'<C.length-i/\i'=i+1/\((P.length:Int)+1+sumI (valP s) (C.take i))+v=(P.length:Int)+1+sumI (valP s) (C.take i'):=λv hv h0=>
    ⟨i+1,⟨hi',zdq hi' hok2 (by omega)⟩,by omega,rfl,by omega⟩
   refine zm (by omega) (by omega) (zai rfl hi') (zg rfl ?_)
   refine za rfl rfl ?_
   refine ze (zu8 s _) ?_
   refine Vstep.node2 rfl rfl rfl (λn hn=>zq ?_) (λhn=>zt ?_)
   ·refine za rfl rfl ?_
    refine Vcall.mk' (zd8b s hs C[i] hcm) (zk (cr) (zk (cr) (zk (cr) (zk (Cv.nil 1) Cvs.nil)))) ?_
    have hv:zkw s.opn s.shut C[i]=valP s C[i]:=by simp[valP,hn]
    rw[hv]
    refine zh (λh4=>zq ?_) (λh4=>zt ?_)
    ·simp only[zb]at h4
     refine zf (congrArg RV.b (Eq.symm ?_))
     rw[zh6 (List.getElem_mem hi') (by simp only[decide_eq_false_iff_not];omega)]
     rfl
    ·simp only[zb]at h4
     simp only[zbh]at hvb
     refine zd rfl (by omega) ?_
     refine zd (m:=((i+1:Nat):Int)) (by omega) (by omega) ?_
     exact⟨i+1,⟨hi',zdq hi' hok2 (by omega)⟩,by omega,zad [(0,0),(1,1)] rfl ⟨rfl,rfl,zf (by rw[hst];congr 1;omega),cr,cr,cr,trivial⟩ ⟨zab _,zab (zce s),trivial⟩⟩
   ·have hv:zfu s.shut C[i]=valP s C[i]:=by simp[valP,hn]
    rw[hv]
    refine zh (λh4=>zq ?_) (λh4=>zt ?_)
    ·simp only[zb]at h4
     refine zf (congrArg RV.b (Eq.symm ?_))
     rw[zh6 (List.getElem_mem hi') (by simp only[decide_eq_false_iff_not];omega)]
     rfl
    ·simp only[zb]at h4
     simp only[zbh]at hvb
     refine zd rfl (by omega) ?_
     refine zd (m:=((i+1:Nat):Int)) (by omega) (by omega) ?_
     exact⟨i+1,⟨hi',zdq hi' hok2 (by omega)⟩,by omega,zad [(0,0),(1,1)] rfl ⟨rfl,rfl,zf (by rw[hst];congr 1;omega),cr,cr,cr,trivial⟩ ⟨zab _,zab (zce s),trivial⟩⟩
  simp only[zb]at h3
  rw[List.take_of_length_le (by omega)]at hok2
  rw[List.take_of_length_le (by omega)]
  have hall2:C.all (λc=>decide (0<=valP s c))=true:=by rw[List.all_eq_true];intro x hx;exact decide_eq_true (hok2 x hx)
  rw[hall2,Bool.true_and]
  refine za rfl rfl ?_
  refine ze (zekb s ⟨hs1,hs2⟩) ?_
  refine Vcmp.mk' rfl (zf (congrArg RV.b ?_))
  rw[Bool.eq_iff_iff]
  simp only[zb]
  omega
end
end Go.Proofs.YtpdllgbfemnemaaGreat.Sx
