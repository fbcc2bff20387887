import Derived.Test.YtebhngeddnnpkaaGreatZTm
import Derived.Test.YtebhngeddnnpkaaGreatZKg
import Derived.Test.YtebhngeddnnpkaaGreatZWire
import Derived.Shelf.RegionOpenPlain
import Derived.Lib.Walk
import Derived.Lib.SliceRun
import Derived.Lib.Overlaps
import Derived.Laws.Externs
import Derived.Laws.IdiomCopy
import Derived.Lib.AppendZerosOnto
import Derived.Laws.NewBlocks
import Derived.Test.YtebhngeddnnpkaaGreatZMe
import Derived.Test.YtebhngeddnnpkaaGreatZQa
namespace Go.Proofs.YtebhngeddnnpkaaGreat.Sx
open Go.RowKit
set_option linter.unusedVariables false
section
theorem zqu(l m:List Int)(hl:l.length<=1000000000)(hm:m.length<=1000000000):zab Tryz.prog 331 [is l,is m] (.r (.b (decide (l=m)))):=by
 refine zaa (T:=Tab) mixed Tab_ok Tryz.func331 rfl (by kernel_rfl) ?_
 by_cases hlen:l.length=m.length
 ·refine zu (by simp only[zb];omega) (zq ?_)
  refine zy (λi:Nat=>⟨[(0, .r (is l)),(1, .r (is m)),(12, .r (I l.length)),(13, .r (I i))],[],0⟩) (λi=>i<=l.length/\l.take i=m.take i) (λi=>l.length-i) 0 ⟨by omega,by simp⟩ (zad [] rfl ⟨cr,cr,cr,cr,trivial⟩ trivial) ?_
  rintro i ⟨hi,he⟩
  refine zh (λh=>zp ?_) (λh=>zq ?_)
  ·simp only[zb]at h
   have h1:i<l.length:=by omega
   have h2:i<m.length:=by omega
   refine Vdraw.mk' (by kernel_rfl) ?_
   refine zm (by omega) (by omega) (zca rfl h1) (zg rfl ?_)
   refine zm (by omega) (by omega) (zca rfl h2) (zg rfl ?_)
   refine zh (λh3=>zp ?_) (λh3=>zq ?_)
   ·simp only[zb]at h3
    refine zf (congrArg RV.b (Eq.symm ?_))
    rw[decide_eq_false_iff_not]
    intro e
    subst e
    exact h3 rfl
   ·simp only[zb]at h3
    refine zd (m:=((i+1:Nat):Int)) (by omega) (by omega) ?_
    refine⟨i+1,⟨h1,?_⟩,by omega,zad [] rfl ⟨cr,cr,cr,cr,trivial⟩ trivial⟩
    rw[List.take_succ_eq_append_getElem h1,List.take_succ_eq_append_getElem h2,he,h3]
  ·simp only[zb]at h
   refine zf (congrArg RV.b (Eq.symm ?_))
   rw[decide_eq_true_eq,<-List.take_of_length_le (show l.length<=i by omega),he,List.take_of_length_le (by omega)]
 ·refine zt (by simp only[zb];omega) (zp ?_)
  refine zf (congrArg RV.b (Eq.symm ?_))
  rw[decide_eq_false_iff_not]
  exactλe=>hlen (by rw[e])
def zgw(O:List Spot)(x:Int):Bool:=match za6 O x with
 |some n=>decide (n.kind.toNat=1)
 |none=>false
def zdb(leaves own:Int)(O:List Spot)(H:List Stub)(only:Bool):Bool:=
 zc6 leaves&&(decide (0<=own)&&(decide (own<leaves)&&(zgw O (2*own)&&(O.all (λs=>zdw s.at_ s.node)&&(H.all (λs=>decide (s.hash.length=32))&&
  ((visV O own only leaves.toNat.log2 0 0 []).2.2&&(decide ((visV O own only leaves.toNat.log2 0 0 []).1=za8 (O.map (·.at_)))&&decide ((visV O own only leaves.toNat.log2 0 0 []).2.1=za8 (H.map (·.at_))))))))))
abbrev zrz(leaves own:Int)(O:List Spot)(H:List Stub):RV:= .ag [I leaves,I own, .s (mapS (zbg O)), .s (mapS (zbj H))]
theorem zio(O:List Spot):(zbg O).map (·.1)=O.map (·.at_):=by simp[zbg]
theorem zig(H:List Stub):(zbj H).map (·.1)=H.map (·.at_):=by simp[zbj]
theorem ztn{α:Type}{p:α->Bool}{l:List α}(h: ∀j,j<l.length->∀x,l[j]?=some x->p x=true):l.all p=true:=by
 rw[List.all_eq_true]
 intro x hx
 obtain⟨j,hj⟩:=List.getElem?_of_mem hx
 exact h j (List.getElem?_eq_some_iff.1 hj).1 x hj
set_option maxHeartbeats 4000000 in
theorem z0k(leaves own:Int)(hl:i64 leaves)(ho:i64 own)(O:List Spot)(H:List Stub)(only:Bool)(hOn:O.length<=1000000)(hHn:H.length<=1000000)(hOf: ∀s∈O,s.node.fit)(hOi: ∀s∈O,i64 s.at_)(hHi: ∀s∈H,i64 s.at_)(hHl: ∀s∈H,s.hash.length<=1000000000):
  zab Tryz.prog 201 [zrz leaves own O H, .b only] (.r (.b (zdb leaves own O H only))):=by
 refine zaa (T:=Tab) mixed Tab_ok Tryz.func201 rfl (by kernel_rfl) ?_
 refine Vcall.bool (zxh leaves) (λhf=>zu rfl ?_) (λhf=>zt rfl (zp ?_))
 rotate_left
 ·exact zf (by simp[zdb,hf,ofC])
 have hn:=znx hf
 refine zh (λh0=>zp ?_) (λh0=>?_)
 ·simp only[zb]at h0
  refine zf (congrArg RV.b (Eq.symm ?_))
  have: ¬0<=own:=by omega
  simp[zdb,this]
 simp only[zb]at h0
 have h0':0<=own:=by omega
 refine zh (λh1=>zp ?_) (λh1=>?_)
 ·simp only[zb]at h1
  refine zf (congrArg RV.b (Eq.symm ?_))
  have: ¬own<leaves:=by omega
  simp[zdb,this]
 simp only[zb]at h1
 have h1':own<leaves:=by omega
 refine zd rfl (by omega) ?_
 refine Vstep.node1 rfl rfl rfl (λm hm=>?_) (λhm=>?_)
 rotate_left
 ·refine Vsem.field Tab_ok rfl rfl rfl rfl rfl rfl rfl rfl ?_
  refine zt rfl (zp ?_)
  exact zf (by simp[zdb,zgw,hm,ofC])
 refine Vsem.field Tab_ok rfl rfl rfl rfl rfl rfl rfl rfl ?_
 refine zh (λhk=>zp ?_) (λhk=>zq ?_)
 ·simp only[zb]at hk
  refine zf (congrArg RV.b (Eq.symm ?_))
  have: ¬m.kind.toNat=1:=by omega
  simp[zdb,zgw,hm,this]
 simp only[zb]at hk
 have hleaf:zgw O (2*own)=true:=by simp only[zgw,hm,decide_eq_true_eq];omega
 refine Vstep.range rfl rfl zh2 ?_
 refine Vloop.mkx (λdn:List Nat=>⟨[(1, .r (.b only)),(2, .own 0),(40, .own 1)],[(0,some (pbox leaves own O H)),(1,some (.gen (itO (zbg O) dn none)))],2⟩) (λdn=>dn.Nodup/\∀j∈dn,∃s,O[j]?=some s/\zdw s.at_ s.node=true) (λdn=>O.length-dn.length) [] ⟨List.nodup_nil,by simp⟩ (zad [(0,0),(1,1)] rfl ⟨cr,rfl,rfl,trivial⟩ ⟨⟨_,_,rfl,cr,_,_,rfl,cr,_,_,rfl,cr,_,_,rfl,cr,rfl⟩,λ_ _ _ hh=>hh,trivial⟩) ?_
 rintro dn ⟨hnd,hdn⟩
 refine Vstep.next rfl rfl rfl (λhall=>?_) (λj x hj hjn=>?_)
 rotate_left
 ·have hjO: ∃s,O[j]?=some s/\x=(s.at_, .ag s.node.c):=by
   simp only[zbg,List.getElem?_map,Option.map_eq_some_iff]at hj
   obtain⟨s,hs,rfl⟩:=hj
   exact⟨s,hs,rfl⟩
  obtain⟨s,hs,rfl⟩:=hjO
  have hsm:=List.mem_of_getElem? hs
  refine zp ?_
  refine Vstep.entry rfl rfl rfl hj ?_
  refine za rfl rfl ?_
  refine Vcall.bool (z0j s.at_ s.node (hOf s hsm)) (λhp=>zu rfl (zq ?_)) (λhp=>zt rfl (zp ?_))
  ·have hlen:(dn++[j]).length<=O.length:=zg6 _ (by
    rw[List.nodup_append]
    exact⟨hnd,by simp,λy hy z hz e=>hjn (by rw[List.mem_singleton.1 hz]at e;exact e▸hy)⟩) λy hy=>by
     rcases List.mem_append.1 hy with hy |hy
     ·obtain⟨s',h',_⟩:=hdn y hy
      exact(List.getElem?_eq_some_iff.1 h').1
     ·rw[List.mem_singleton.1 hy];exact(List.getElem?_eq_some_iff.1 hs).1
   rw[List.length_append]at hlen
   refine⟨dn++[j],⟨?_,λy hy=>?_⟩,by simp only[List.length_append,List.length_cons,List.length_nil]at*;omega,zad [(0,0),(1,1)] rfl ⟨cr,rfl,rfl,trivial⟩ ⟨⟨_,_,rfl,cr,_,_,rfl,cr,_,_,rfl,cr,_,_,rfl,cr,rfl⟩,zmx,trivial⟩⟩
   ·rw[List.nodup_append]
    exact⟨hnd,by simp,λy hy z hz e=>hjn (by rw[List.mem_singleton.1 hz]at e;exact e▸hy)⟩
   ·rcases List.mem_append.1 hy with hy |hy
    ·exact hdn y hy
    ·rw[List.mem_singleton.1 hy];exact⟨s,hs,hp⟩
  ·refine⟨_,zo _,zf (congrArg RV.b (Eq.symm ?_))⟩
   have:O.all (λs=>zdw s.at_ s.node)=false:=zoi hsm hp
   simp[zdb,this]
 ·have hallO:O.all (λs=>zdw s.at_ s.node)=true:=ztn λj hjl x hx=>by
   obtain⟨s,hs,hp⟩:=hdn j (hall j (by simpa[zbg]using hjl))
   rw[hx]at hs
   cases hs
   exact hp
  refine zq ?_
  refine⟨_,zo _,?_⟩
  refine Vstep.range rfl rfl zl6 ?_
  refine Vloop.mkx (λdn:List Nat=>⟨[(1, .r (.b only)),(2, .own 0),(52, .own 1)],[(0,some (pbox leaves own O H)),(1,some (.gen (itO (zbj H) dn none)))],2⟩) (λdn=>dn.Nodup/\∀j∈dn,∃s,H[j]?=some s/\s.hash.length=32) (λdn=>H.length-dn.length) [] ⟨List.nodup_nil,by simp⟩ (zad [(0,0),(1,2)] rfl ⟨cr,rfl,rfl,trivial⟩ ⟨⟨_,_,rfl,cr,_,_,rfl,cr,_,_,rfl,cr,_,_,rfl,cr,rfl⟩,λ_ _ _ hh=>hh,trivial⟩) ?_
  clear hnd hdn hall
  rintro dn ⟨hnd,hdn⟩
  refine Vstep.next rfl rfl rfl (λhall=>?_) (λj x hj hjn=>?_)
  rotate_left
  ·have hjH: ∃s,H[j]?=some s/\x=(s.at_,bs s.hash):=by
    simp only[zbj,List.getElem?_map,Option.map_eq_some_iff]at hj
    obtain⟨s,hs,rfl⟩:=hj
    exact⟨s,hs,rfl⟩
   obtain⟨s,hs,rfl⟩:=hjH
   have hsm:=List.mem_of_getElem? hs
   have hsl:=hHl s hsm
   refine zp ?_
   refine Vstep.entry rfl rfl rfl hj ?_
   refine zh (λh3=>zp ?_) (λh3=>zq ?_)
   ·simp only[zb]at h3
    refine⟨_,zo _,zf (congrArg RV.b (Eq.symm ?_))⟩
    have:H.all (λs=>decide (s.hash.length=32))=false:=zoi hsm (by simp;omega)
    simp[zdb,this]
   ·simp only[zb]at h3
    have hlen:(dn++[j]).length<=H.length:=zg6 _ (by
     rw[List.nodup_append]
     exact⟨hnd,by simp,λy hy z hz e=>hjn (by rw[List.mem_singleton.1 hz]at e;exact e▸hy)⟩) λy hy=>by
      rcases List.mem_append.1 hy with hy |hy
      ·obtain⟨s',h',_⟩:=hdn y hy
       exact(List.getElem?_eq_some_iff.1 h').1
      ·rw[List.mem_singleton.1 hy];exact(List.getElem?_eq_some_iff.1 hs).1
    rw[List.length_append]at hlen
    refine⟨dn++[j],⟨?_,λy hy=>?_⟩,by simp only[List.length_append,List.length_cons,List.length_nil]at*;omega,zad [(0,0),(1,1)] rfl ⟨cr,rfl,rfl,trivial⟩ ⟨⟨_,_,rfl,cr,_,_,rfl,cr,_,_,rfl,cr,_,_,rfl,cr,rfl⟩,zmx,trivial⟩⟩
    ·rw[List.nodup_append]
     exact⟨hnd,by simp,λy hy z hz e=>hjn (by rw[List.mem_singleton.1 hz]at e;exact e▸hy)⟩
    ·rcases List.mem_append.1 hy with hy |hy
     ·exact hdn y hy
     ·rw[List.mem_singleton.1 hy];exact⟨s,hs,by omega⟩
  ·have hallH:H.all (λs=>decide (s.hash.length=32))=true:=ztn λj hjl x hx=>by
    obtain⟨s,hs,hp⟩:=hdn j (hall j (by simpa[zbj]using hjl))
    rw[hx]at hs
    cases hs
    simpa using hp
   refine zq ?_
   refine⟨_,zo _,?_⟩
   obtain⟨d,hd,hd2⟩:=zln hf
   have hdl:leaves.toNat.log2=d:=by rw[hd2,Int.toNat_natCast,Nat.log2_two_pow]
   have hlate: ∀x n,za6 O x=some n->n.par.late.length<=100000000/\∀u∈n.par.late,zb4 u:=λx n hx=>by
    obtain⟨sp,hsp,_,rfl⟩:=zop hx
    have hfi:=List.all_eq_true.1 hallO sp hsp
    simp only[zdw,Bool.and_eq_true]at hfi
    have hfit:=hOf sp hsp
    exact⟨hfit.2.2.2.1,Node.right_late hfi.1⟩
   obtain⟨r,hr⟩: ∃r,r=visV O own only d 0 0 []:=⟨_,rfl⟩
   have hrl:=zi2 O own only d 0 0 []
   rw[<-hr]at hrl
   have hp17:2^(d+1)<=131072:=Nat.pow_le_pow_right (n:=2) (by omega) (show d+1<=17 by omega)
   have hfin:zdb leaves own O H only=(r.2.2&&(decide (r.1=za8 (O.map (·.at_)))&&decide (r.2.1=za8 (H.map (·.at_))))):=by
    simp[zdb,hf,h0',h1',hleaf,hallO,hallH,hdl,<-hr]
   rw[hfin]
   have hop:=λp0=>z0n leaves own O H p0 hlate d hd leaves own hd2 ⟨h0',by omega⟩ only r hr
   obtain⟨A,B,okv⟩:=r
   simp only at hop hrl⊢
   refine Vstep.nm 0 1000000 rfl λp0=>Vstep.mkfunX [p0] rfl ⟨_,_,rfl,⟨0,1000000,rfl,rfl⟩,rfl⟩ ?_
   refine zj [(0,0)] [0] (λvs hv=>zbq (by simp only[List.map];rw[hv 0 0 1000000 _ rfl rfl]) (hop p0)) (zi rfl ⟨_,_,rfl,cr,_,_,rfl,cr,_,_,rfl,cr,_,_,rfl,cr,rfl⟩) rfl ⟨⟨_,_,rfl,cr,_,_,rfl,cr,_,_,rfl,cr,_,_,rfl,cr,rfl⟩,trivial⟩ ⟨zac,trivial⟩ ?_
   have hsn:(za8 (O.map (·.at_))).length<=1000000:=by unfold za8;rw[List.length_mergeSort,List.length_map];exact hOn
   have hsh:(za8 (H.map (·.at_))).length<=1000000:=by unfold za8;rw[List.length_mergeSort,List.length_map];exact hHn
   have kN:=zot (zbg O) (by simpa[zbg]using hOn) (λx hx=>by
    simp only[zbg,List.mem_map]at hx
    obtain⟨s,hs,rfl⟩:=hx
    exact hOi s hs)
   have kH:=zos (zbj H) (by simpa[zbj]using hHn) (λx hx=>by
    simp only[zbj,List.mem_map]at hx
    obtain⟨s,hs,rfl⟩:=hx
    exact hHi s hs)
   rw[zio]at kN
   rw[zig]at kH
   cases okv with
   |false=>exact zf rfl
   |true=>
    refine ze (ztx (zbg O)) ?_
    refine ze kN ?_
    refine Vcall.bool (zqu A (za8 (O.map λs:Spot=>s.at_)) (by omega) (by omega)) (λhe=>?_) (λhe=>?_)
    ·refine ze (ztw (zbj H)) ?_
     refine ze kH ?_
     refine ze (zqu B (za8 (H.map λs:Stub=>s.at_)) (by omega) (by omega)) ?_
     exact zf (congrArg RV.b (by rw[he];simp))
    ·exact zf (congrArg RV.b (by rw[he];simp))
end
section
def putN(O:List Spot)(x:Int):Spot:=⟨x,(za6 O x).getD Node.zero⟩
def putH(H:List Stub)(x:Int):Stub:=⟨x,zwp H x⟩
def zkv(leaves own:Int)(O:List Spot)(H:List Stub):Lean_:=⟨leaves,own,(za8 (O.map λs=>s.at_)).map (putN O),(za8 (H.map λs=>s.at_)).map (putH H)⟩
theorem zpi{l:List Int}{x:Int}:x∈za8 l↔x∈l:=by unfold za8;exact List.mem_mergeSort
theorem zph(l:List Int):(za8 l).length=l.length:=by unfold za8;exact List.length_mergeSort l
theorem zu9{O:List Spot}{x:Int}(h:x∈O.map λs=>s.at_): ∃s∈O,za6 O x=some s.node:=by
 cases hf:za6 O x with
 |none=>
  simp only[za6,Option.map_eq_none_iff,List.find?_eq_none,decide_eq_true_eq]at hf
  obtain⟨s,hs,e⟩:=List.mem_map.1 h
  exact absurd e (hf s hs)
 |some n=>
  obtain⟨s,hs,_,rfl⟩:=zop hf
  exact⟨s,hs,rfl⟩
theorem zwm{H:List Stub}{x:Int}(h:x∈H.map λs=>s.at_): ∃s∈H,zft H x=some s.hash:=by
 cases hf:zft H x with
 |none=>
  simp only[zft,Option.map_eq_none_iff,List.find?_eq_none,decide_eq_true_eq]at hf
  obtain⟨s,hs,e⟩:=List.mem_map.1 h
  exact absurd e (hf s hs)
 |some n=>
  obtain⟨_,s,hs,_,rfl⟩:=zpg hf
  exact⟨s,hs,rfl⟩
set_option maxHeartbeats 4000000 in
theorem z0o(leaves own:Int)(O:List Spot)(H:List Stub)(hOn:O.length<=1000000)(hHn:H.length<=1000000)(hOf: ∀s∈O,s.node.fit)(hOi: ∀s∈O,i64 s.at_)(hHi: ∀s∈H,i64 s.at_)(hHl: ∀s∈H,s.hash.length<=1000000000):
  zab Tryz.prog 104 [zrz leaves own O H] (.r (.ag (zkv leaves own O H).c)):=by
 refine zaa (T:=Tab) mixed Tab_ok Tryz.func104 rfl (by kernel_rfl) ?_
 have kN:=zot (zbg O) (by simpa[zbg]using hOn) (λx hx=>by
  simp only[zbg,List.mem_map]at hx
  obtain⟨s,hs,rfl⟩:=hx
  exact hOi s hs)
 have kH:=zos (zbj H) (by simpa[zbj]using hHn) (λx hx=>by
  simp only[zbj,List.mem_map]at hx
  obtain⟨s,hs,rfl⟩:=hx
  exact hHi s hs)
 rw[zio]at kN
 rw[zig]at kH
 obtain⟨K,hK⟩: ∃K,K=za8 (O.map λs=>s.at_):=⟨_,rfl⟩
 obtain⟨M,hM⟩: ∃M,M=za8 (H.map λs=>s.at_):=⟨_,rfl⟩
 have hKl:K.length<=1000000:=by rw[hK,zph,List.length_map];exact hOn
 have hMl:M.length<=1000000:=by rw[hM,zph,List.length_map];exact hHn
 have hKm: ∀x∈K,∃s∈O,za6 O x=some s.node:=λx hx=>zu9 (zpi.1 (hK▸hx))
 have hMm: ∀x∈M,∃s∈H,zft H x=some s.hash:=λx hx=>zwm (zpi.1 (hM▸hx))
 rw[<-hK]at kN
 rw[<-hM]at kH
 have hL:zkv leaves own O H=⟨leaves,own,K.map (putN O),M.map (putH H)⟩:=by rw[hK,hM];rfl
 rw[hL]
 clear hL hK hM
 refine ze (ztx (zbg O)) ?_
 refine ze kN ?_
 refine zy (λj:Nat=>{F:=[(1, .own 0),(2, .own 1),(3, .own 2),(16, .r (is K)),(17, .r (I K.length)),(18, .r (I j))],O:=[(0,some (pbox leaves own O H)),(1,some (.box (zero4.map .r))),(2,some (.box [.r (I leaves), .r (I own), .own 3, .own 4])),(3,some (zcf ((K.take j).map (putN O)))),(4,some (zcg []))],nx:=5})
  (λj=>j<=K.length) (λj=>K.length-j) 0 (by omega)
  ((zcc true 2 2 268 11 (cells:=[.r (I leaves), .r (I own), .r (.x (.slice none 0 0)), .r (.x (.slice none 0 0))]) rfl rfl).trans ((zcc true 2 3 304 2 (cells:=[.r (I leaves), .r (I own), .own 4, .r (.x (.slice none 0 0))]) rfl rfl).trans (zad [(0,0),(1,1),(2,2),(3,4),(4,5)] rfl ⟨rfl,rfl,rfl,cr,cr,cr,trivial⟩ ⟨⟨_,_,rfl,cr,_,_,rfl,cr,_,_,rfl,cr,_,_,rfl,cr,rfl⟩,zae zero4,cvc (zbr _) (cvc (zbr _) (cvc rfl (cvc rfl rfl))),⟨rfl,rfl,rfl,rfl,zn _⟩,⟨rfl,rfl,rfl,rfl,zn _⟩,trivial⟩))) ?_
 intro j hj
 refine zh (λh=>zp ?_) (λh=>zq ?_)
 ·simp only[zb]at h
  have hj':j<K.length:=by omega
  obtain⟨s,hs,hfs⟩:=hKm K[j] (List.getElem_mem hj')
  refine zm (by omega) (by omega) (zca rfl hj') (zg rfl ?_)
  refine Vdraw.code (Vcode.float mixed Tab_ok 10 [⟨0,22, .adr 2 2,[]⟩,⟨1,23, .own 3,[0]⟩,⟨2,24, .r (I K[j]),[]⟩,⟨5,27, .r (I K[j]),[]⟩] [(3,[]),(4,[]),(6,[5]),(7,[]),(8,[2]),(9,[])] (by kernel_rfl) (F:=[(1, .own 0),(2, .own 1),(3, .own 2),(5, .r (I K[j])),(16, .r (is K)),(17, .r (I K.length)),(18, .r (I j))]) (O:=[(0,some (pbox leaves own O H)),(1,some (.box (zero4.map .r))),(2,some (.box [.r (I leaves), .r (I own), .own 3, .own 4])),(3,some (zcf ((K.take j).map (putN O)))),(4,some (zcg []))]) (nx:=5) (zad [(0,0),(1,1),(2,2),(3,3),(4,4)] rfl ⟨rfl,rfl,rfl,cr,cr,cr,cr,trivial⟩ ⟨⟨_,_,rfl,cr,_,_,rfl,cr,_,_,rfl,cr,_,_,rfl,cr,rfl⟩,zae zero4,cvc (zbr _) (cvc (zbr _) (cvc rfl (cvc rfl rfl))),⟨rfl,rfl,rfl,rfl,zn _⟩,⟨rfl,rfl,rfl,rfl,zn _⟩,trivial⟩) ?_)
  refine⟨rfl,⟨λY=>zo _,λY=>zo _,λY=>zo _,λY=>zo _,trivial⟩,(25, .adr 0 2)::[(1, .own 0),(2, .own 1),(3, .own 2),(5, .r (I K[j])),(16, .r (is K)),(17, .r (I K.length)),(18, .r (I j))],[(0,some (pbox leaves own O H)),(1,some (.box (zero4.map .r))),(2,some (.box [.r (I leaves), .r (I own), .own 3, .own 4])),(3,some (zcf ((K.take j).map (putN O)))),(4,some (zcg []))],5,λY=>zo _,?_⟩
  refine⟨rfl,⟨λY=>zo _,λY=>zo _,λY=>zo _,λY=>zo _,trivial⟩,(26, .r (.s (mapS (zbg O))))::(25, .adr 0 2)::[(1, .own 0),(2, .own 1),(3, .own 2),(5, .r (I K[j])),(16, .r (is K)),(17, .r (I K.length)),(18, .r (I j))],[(0,some (pbox leaves own O H)),(1,some (.box (zero4.map .r))),(2,some (.box [.r (I leaves), .r (I own), .own 3, .own 4])),(3,some (zcf ((K.take j).map (putN O)))),(4,some (zcg []))],5,λY=>zo _,?_⟩
  refine⟨rfl,⟨λY=>zo _,λY=>zo _,λY=>zo _,λY=>zo _,trivial⟩,(28, .r (.ag s.node.c))::(26, .r (.s (mapS (zbg O))))::(25, .adr 0 2)::[(1, .own 0),(2, .own 1),(3, .own 2),(5, .r (I K[j])),(16, .r (is K)),(17, .r (I K.length)),(18, .r (I j))],[(0,some (pbox leaves own O H)),(1,some (.box (zero4.map .r))),(2,some (.box [.r (I leaves), .r (I own), .own 3, .own 4])),(3,some (zcf ((K.take j).map (putN O)))),(4,some (zcg []))],5,λY=>Vstep.node1 rfl rfl rfl (λn hn=>by rw[hfs]at hn;cases hn;exact zo _) (λhn=>by rw[hfs]at hn;cases hn),?_⟩
  refine⟨rfl,⟨λY=>zo _,λY=>zo _,λY=>zo _,λY=>zo _,trivial⟩,(29, .r (.ag s.node.c))::(28, .r (.ag s.node.c))::(26, .r (.s (mapS (zbg O))))::(25, .adr 0 2)::[(1, .own 0),(2, .own 1),(3, .own 2),(5, .r (I K[j])),(16, .r (is K)),(17, .r (I K.length)),(18, .r (I j))],[(0,some (pbox leaves own O H)),(1,some (.box (zero4.map .r))),(2,some (.box [.r (I leaves), .r (I own), .own 3, .own 4])),(3,some (zcf ((K.take j).map (putN O)))),(4,some (zcg []))],5,λY=>ze (zn2 s.node (hOf s hs) (zdf _ (hOf s hs).1)) (zo _),?_⟩
  refine⟨rfl,⟨λY=>zo _,λY=>zo _,λY=>zo _,λY=>zo _,trivial⟩,(30, .r (.ag (Spot.c ⟨K[j],s.node⟩)))::(29, .r (.ag s.node.c))::(28, .r (.ag s.node.c))::(26, .r (.s (mapS (zbg O))))::(25, .adr 0 2)::[(1, .own 0),(2, .own 1),(3, .own 2),(5, .r (I K[j])),(16, .r (is K)),(17, .r (I K.length)),(18, .r (I j))],[(0,some (pbox leaves own O H)),(1,some (.box (zero4.map .r))),(2,some (.box [.r (I leaves), .r (I own), .own 3, .own 4])),(3,some (zcf ((K.take j).map (putN O)))),(4,some (zcg []))],5,λY=>zo _,?_⟩
  refine⟨rfl,⟨λY=>zo _,λY=>zo _,λY=>zo _,λY=>zo _,trivial⟩,(31, .own 5)::(30, .r (.ag (Spot.c ⟨K[j],s.node⟩)))::(29, .r (.ag s.node.c))::(28, .r (.ag s.node.c))::(26, .r (.s (mapS (zbg O))))::(25, .adr 0 2)::[(1, .own 0),(2, .own 1),(3, .own 2),(5, .r (I K[j])),(16, .r (is K)),(17, .r (I K.length)),(18, .r (I j))],(5,some (.ch 268 11 1 (Spot.c ⟨K[j],s.node⟩) true))::[(0,some (pbox leaves own O H)),(1,some (.box (zero4.map .r))),(2,some (.box [.r (I leaves), .r (I own), .own 3, .own 4])),(3,some (zcf ((K.take j).map (putN O)))),(4,some (zcg []))],6,λY=>zw (zo _),?_⟩
  refine⟨rfl,⟨λY=>zo _,λY=>zo _,λY=>zo _,λY=>zo _,trivial⟩,?_⟩
  have hsn:(K.take (j+1)).map (putN O)=(K.take j).map (putN O)++[⟨K[j],s.node⟩]:=by
   rw[List.take_succ_eq_append_getElem hj',List.map_append]
   simp[putN,hfs]
  refine Vapp.mk' (j:=((K.take (j+1)).map (putN O)).length) (zs:=((K.take (j+1)).map (putN O)).flatMap Spot.c) (by simp only[maxLen,List.length_map,List.length_take];omega) (by simp;omega) (by rw[hsn];simp) (by rw[hsn];simp[zdv,cellsOf]) ?_
  refine zd (m:=((j+1:Nat):Int)) (by omega) (by omega) ?_
  exact⟨j+1,hj',by omega,zad [(0,0),(1,1),(2,2),(3,_),(4,4)] rfl ⟨rfl,rfl,rfl,cr,cr,cr,trivial⟩ ⟨⟨_,_,rfl,cr,_,_,rfl,cr,_,_,rfl,cr,_,_,rfl,cr,rfl⟩,zae zero4,cvc (zbr _) (cvc (zbr _) (cvc rfl (cvc rfl rfl))),⟨rfl,rfl,rfl,rfl,zn _⟩,⟨rfl,rfl,rfl,rfl,zn _⟩,trivial⟩⟩
 simp only[zb]at h
 rw[List.take_of_length_le (by omega)]
 clear h hj
 refine ze (ztw (zbj H)) ?_
 refine ze kH ?_
 refine zy (λj:Nat=>{F:=[(1, .own 0),(2, .own 1),(3, .own 2),(38, .r (is M)),(39, .r (I M.length)),(40, .r (I j))],O:=[(0,some (pbox leaves own O H)),(1,some (.box (zero4.map .r))),(2,some (.box [.r (I leaves), .r (I own), .own 3, .own 4])),(3,some (zcf (K.map (putN O)))),(4,some (zcg ((M.take j).map (putH H))))],nx:=5})
  (λj=>j<=M.length) (λj=>M.length-j) 0 (by omega)
  (zad [(0,0),(1,1),(2,2),(3,3),(4,4)] rfl ⟨rfl,rfl,rfl,cr,cr,cr,trivial⟩ ⟨⟨_,_,rfl,cr,_,_,rfl,cr,_,_,rfl,cr,_,_,rfl,cr,rfl⟩,zae zero4,cvc (zbr _) (cvc (zbr _) (cvc rfl (cvc rfl rfl))),⟨rfl,rfl,rfl,rfl,zn _⟩,⟨rfl,rfl,rfl,rfl,zn _⟩,trivial⟩) ?_
 intro j hj
 refine zh (λh=>zp ?_) (λh=>zq ?_)
 ·simp only[zb]at h
  have hj':j<M.length:=by omega
  obtain⟨s,hs,hfs⟩:=hMm M[j] (List.getElem_mem hj')
  have hsl:=hHl s hs
  refine zm (by omega) (by omega) (zca rfl hj') (zg rfl ?_)
  refine Vdraw.code (Vcode.float mixed Tab_ok 10 [⟨0,44, .adr 2 3,[]⟩,⟨1,45, .own 4,[0]⟩,⟨2,46, .r (I M[j]),[]⟩,⟨5,49, .r (I M[j]),[]⟩] [(3,[]),(4,[]),(6,[5]),(7,[]),(8,[2]),(9,[])] (by kernel_rfl) (F:=[(1, .own 0),(2, .own 1),(3, .own 2),(7, .r (I M[j])),(38, .r (is M)),(39, .r (I M.length)),(40, .r (I j))]) (O:=[(0,some (pbox leaves own O H)),(1,some (.box (zero4.map .r))),(2,some (.box [.r (I leaves), .r (I own), .own 3, .own 4])),(3,some (zcf (K.map (putN O)))),(4,some (zcg ((M.take j).map (putH H))))]) (nx:=5) (zad [(0,0),(1,1),(2,2),(3,3),(4,4)] rfl ⟨rfl,rfl,rfl,cr,cr,cr,cr,trivial⟩ ⟨⟨_,_,rfl,cr,_,_,rfl,cr,_,_,rfl,cr,_,_,rfl,cr,rfl⟩,zae zero4,cvc (zbr _) (cvc (zbr _) (cvc rfl (cvc rfl rfl))),⟨rfl,rfl,rfl,rfl,zn _⟩,⟨rfl,rfl,rfl,rfl,zn _⟩,trivial⟩) ?_)
  refine⟨rfl,⟨λY=>zo _,λY=>zo _,λY=>zo _,λY=>zo _,trivial⟩,(47, .adr 0 3)::[(1, .own 0),(2, .own 1),(3, .own 2),(7, .r (I M[j])),(38, .r (is M)),(39, .r (I M.length)),(40, .r (I j))],[(0,some (pbox leaves own O H)),(1,some (.box (zero4.map .r))),(2,some (.box [.r (I leaves), .r (I own), .own 3, .own 4])),(3,some (zcf (K.map (putN O)))),(4,some (zcg ((M.take j).map (putH H))))],5,λY=>zo _,?_⟩
  refine⟨rfl,⟨λY=>zo _,λY=>zo _,λY=>zo _,λY=>zo _,trivial⟩,(48, .r (.s (mapS (zbj H))))::(47, .adr 0 3)::[(1, .own 0),(2, .own 1),(3, .own 2),(7, .r (I M[j])),(38, .r (is M)),(39, .r (I M.length)),(40, .r (I j))],[(0,some (pbox leaves own O H)),(1,some (.box (zero4.map .r))),(2,some (.box [.r (I leaves), .r (I own), .own 3, .own 4])),(3,some (zcf (K.map (putN O)))),(4,some (zcg ((M.take j).map (putH H))))],5,λY=>zo _,?_⟩
  refine⟨rfl,⟨λY=>zo _,λY=>zo _,λY=>zo _,λY=>zo _,trivial⟩,(50, .r (bs s.hash))::(48, .r (.s (mapS (zbj H))))::(47, .adr 0 3)::[(1, .own 0),(2, .own 1),(3, .own 2),(7, .r (I M[j])),(38, .r (is M)),(39, .r (I M.length)),(40, .r (I j))],[(0,some (pbox leaves own O H)),(1,some (.box (zero4.map .r))),(2,some (.box [.r (I leaves), .r (I own), .own 3, .own 4])),(3,some (zcf (K.map (putN O)))),(4,some (zcg ((M.take j).map (putH H))))],5,λY=>Vstep.hash1 rfl rfl rfl (λn hn=>by rw[hfs]at hn;cases hn;exact zo _) (λhn=>by rw[hfs]at hn;cases hn),?_⟩
  refine⟨rfl,⟨λY=>zo _,λY=>zo _,λY=>zo _,λY=>zo _,trivial⟩,(51, .own 5)::(50, .r (bs s.hash))::(48, .r (.s (mapS (zbj H))))::(47, .adr 0 3)::[(1, .own 0),(2, .own 1),(3, .own 2),(7, .r (I M[j])),(38, .r (is M)),(39, .r (I M.length)),(40, .r (I j))],(5,some (.ch 5 1 s.hash.length (s.hash.map U8) true))::[(0,some (pbox leaves own O H)),(1,some (.box (zero4.map .r))),(2,some (.box [.r (I leaves), .r (I own), .own 3, .own 4])),(3,some (zcf (K.map (putN O)))),(4,some (zcg ((M.take j).map (putH H))))],6,λY=>ze (zbw s.hash (by omega)) (zo _),?_⟩
  refine⟨rfl,⟨λY=>zo _,λY=>zo _,λY=>zo _,λY=>zo _,trivial⟩,(52, .r (.ag (Stub.c ⟨M[j],s.hash⟩)))::(51, .own 5)::(50, .r (bs s.hash))::(48, .r (.s (mapS (zbj H))))::(47, .adr 0 3)::[(1, .own 0),(2, .own 1),(3, .own 2),(7, .r (I M[j])),(38, .r (is M)),(39, .r (I M.length)),(40, .r (I j))],(5,some (.ch 5 1 s.hash.length (s.hash.map U8) true))::[(0,some (pbox leaves own O H)),(1,some (.box (zero4.map .r))),(2,some (.box [.r (I leaves), .r (I own), .own 3, .own 4])),(3,some (zcf (K.map (putN O)))),(4,some (zcg ((M.take j).map (putH H))))],6,λY=>zo _,?_⟩
  refine⟨rfl,⟨λY=>zo _,λY=>zo _,λY=>zo _,λY=>zo _,trivial⟩,(53, .own 6)::(52, .r (.ag (Stub.c ⟨M[j],s.hash⟩)))::(51, .own 5)::(50, .r (bs s.hash))::(48, .r (.s (mapS (zbj H))))::(47, .adr 0 3)::[(1, .own 0),(2, .own 1),(3, .own 2),(7, .r (I M[j])),(38, .r (is M)),(39, .r (I M.length)),(40, .r (I j))],(6,some (.ch 304 2 1 (Stub.c ⟨M[j],s.hash⟩) true))::(5,some (.ch 5 1 s.hash.length (s.hash.map U8) true))::[(0,some (pbox leaves own O H)),(1,some (.box (zero4.map .r))),(2,some (.box [.r (I leaves), .r (I own), .own 3, .own 4])),(3,some (zcf (K.map (putN O)))),(4,some (zcg ((M.take j).map (putH H))))],7,λY=>zw (zo _),?_⟩
  refine⟨rfl,⟨λY=>zo _,λY=>zo _,λY=>zo _,λY=>zo _,trivial⟩,?_⟩
  have hsn:(M.take (j+1)).map (putH H)=(M.take j).map (putH H)++[⟨M[j],s.hash⟩]:=by
   rw[List.take_succ_eq_append_getElem hj',List.map_append]
   simp[putH,(zpg hfs).1]
  refine Vapp.mk' (j:=((M.take (j+1)).map (putH H)).length) (zs:=((M.take (j+1)).map (putH H)).flatMap Stub.c) (by simp only[maxLen,List.length_map,List.length_take];omega) (by simp;omega) (by rw[hsn];simp) (by rw[hsn];simp[zdv,cellsOf,bs]) ?_
  refine zd (m:=((j+1:Nat):Int)) (by omega) (by omega) ?_
  exact⟨j+1,hj',by omega,zad [(0,0),(1,1),(2,2),(3,3),(4,_)] rfl ⟨rfl,rfl,rfl,cr,cr,cr,trivial⟩ ⟨⟨_,_,rfl,cr,_,_,rfl,cr,_,_,rfl,cr,_,_,rfl,cr,rfl⟩,zae zero4,cvc (zbr _) (cvc (zbr _) (cvc rfl (cvc rfl rfl))),⟨rfl,rfl,rfl,rfl,zn _⟩,⟨rfl,rfl,rfl,rfl,zn _⟩,trivial⟩⟩
 simp only[zb]at h
 rw[List.take_of_length_le (by omega)]
 clear h hj
 refine za rfl rfl ?_
 refine za rfl rfl ?_
 exact zf rfl
end
end Go.Proofs.YtebhngeddnnpkaaGreat.Sx
