import Derived.Test.YtddokcpcpoihmaaGreatZEx
import Derived.Shelf.SlSortCmp.WholeK
import Derived.Ground.SlsfProg
import Derived.Test.YtddokcpcpoihmaaGreatZMe
import Derived.Test.YtddokcpcpoihmaaGreatZEq
import Derived.Maps.RangeRun
import Derived.Shelf.SlIterI.Nil
import Derived.Shelf.SortM.Plain
import Derived.Shelf.SortM.SortNone
import Derived.Ground.GgzProg
import Derived.Ground.SlgmProg
import Derived.WideShapes
import Derived.Test.YtddokcpcpoihmaaGreatZFb
import Derived.Test.YtddokcpcpoihmaaGreatZKi
import Derived.Test.YtddokcpcpoihmaaGreatZEa
import Derived.Shelf.RegionOpenPlain
import Derived.Lib.Walk
import Derived.Lib.SliceRun
import Derived.Lib.Overlaps
import Derived.Laws.Externs
import Derived.Laws.IdiomCopy
import Derived.Lib.AppendZerosOnto
import Derived.Laws.NewBlocks
import Derived.Test.YtddokcpcpoihmaaGreatZHg
import Derived.Shelf.SlicesG.Cmp
import Derived.Ground.SlgcProg
import Derived.Test.YtddokcpcpoihmaaGreatZFw
namespace Go.Proofs.YtddokcpcpoihmaaGreat.Sx
open Go.RowKit
set_option linter.unusedVariables false
section
structure KeyP where
 at_:Int
 key:List UInt8
 deriving DecidableEq
abbrev KeyP.c(k:KeyP):List RV:=[I k.at_,bs k.key]
def keyR(l:List KeyP):RV:= .sl 2 l.length (l.flatMap KeyP.c)
structure Wld where
 t:List Node
 keys:List (List KeyP)
 sign:List (List UInt8)
 n:Nat
abbrev wBx(t:List Node)(n:Int):Ow:= .box [.r (nods t), .own 1, .own 2, .r (I n)]
abbrev wK(keys:List (List KeyP)):Ow:= .ch 182 1 keys.length (keys.map keyR) false
abbrev wG(sign:List (List UInt8)):Ow:= .ch 25 1 sign.length (sign.map bs) false
abbrev wO(w:Wld):List (Nat×Ow):=[(0,wBx w.t w.n),(1,wK w.keys),(2,wG w.sign)]
theorem zcp{ρ:List (Nat×Nat)}{S:St}{t:List Node}{n:Int}{i j:Nat}(h1:za0 ρ 1=some i)(h2:za0 ρ 2=some j):cvOw ρ S (.box [.r (nods t), .own i, .own j, .r (I n)]) (wBx t n):=
 ⟨_,_,rfl,cr,_,_,rfl,by show(match za0 ρ 1,TF.own i with |some j, .own i=>i=j |_,_=>False);rw[h1],_,_,rfl,by show(match za0 ρ 2,TF.own j with |some j, .own i=>i=j |_,_=>False);rw[h2],_,_,rfl,cr,rfl⟩
theorem ze3(w:Wld):zpi (wO w):=⟨zrv,ztm,ztm,trivial⟩
def zbh(n:Nat):List UInt8:=((List.replicate 32 (0:UInt8)).set 0 (UInt8.ofNat n)).set 1 (UInt8.ofNat (n/256))
theorem zfi(n:Nat):(zbh n).length=32:=by simp[zbh]
theorem zwj(n:Nat)(hn:n<=1000000000):zab Tryz.prog 71 [I n] (bch (zbh n)):=by
 refine zba (T:=Tab) mixed Tab_ok Tryz.func71 rfl (by kernel_rfl) ?_
 refine⟨rfl,by decide,by decide,by decide,_,_,rfl,zs32,Vpub.own ?_⟩
 refine Vint.u8 n rfl ?_
 refine Vquo.i64 n 256 rfl rfl (by omega) (by omega) ?_
 refine Vint.u8 (n/256) rfl ?_
 refine Vadr.mk' 0 rfl (by decide) ?_
 refine⟨by decide,((List.replicate 32 (0:UInt8)).set 0 (UInt8.ofNat n)).map U8,zbj (by decide),?_⟩
 refine Vadr.mk' 1 rfl (by decide) ?_
 refine⟨by rw[List.length_map,List.length_set];decide,(zbh n).map U8,zbj (by rw[List.length_set];decide),?_⟩
 refine⟨_,zbe (id:=0) rfl,?_⟩
 exact congrArg (λm=>some (Ow.ch 5 1 m ((zbh n).map U8) true)) (zfi n).symm
theorem zsy(v:Value)(w:Wld)(hn:w.n<=100000000):Acts Tryz.prog 138 3 (wO w) [.own 0] [(0,v)] 3 (wO {w with n:=w.n+1}) (.r (bs (zbh (w.n+1)))):=by
 refine zc3 (T:=Tab) mixed Tab_ok Tryz.func138 rfl (by kernel_rfl) rfl ⟨⟨_,_,rfl,rfl,zc4,zc4⟩,trivial⟩ ?_
 refine zc (m:=((w.n+1:Nat):Int)) (by omega) (by omega) ?_
 refine zd (zwj (w.n+1) (by omega)) ?_
 exact zg0 (.inl rfl) [(0,0),(1,1),(2,2)] [(2, .r (bs (zbh (w.n+1))))] [] rfl ⟨cr,⟨rfl,rfl⟩,trivial⟩ ⟨zcp rfl rfl,⟨rfl,rfl,rfl,rfl,zm _⟩,⟨rfl,rfl,rfl,rfl,zm _⟩,trivial⟩ ⟨⟨1000000,rfl⟩,trivial⟩ (cr)
theorem zeh(k:List UInt8):(zf3 k).length=32:=by unfold zf3 ztw zjr;exact Fe.bytes_len _
def zbx(sig:List UInt8)(src ident:UInt8)(n:Nat):Leaf:=⟨zf3 (zdq (zbh (n+1))),pubS sig,[ident],src,[],[]⟩
theorem zov(sig:List UInt8)(src ident:UInt8)(n:Nat)(hs:src.toNat=1\/src.toNat=2):((zbx sig src ident n).with zS64).right=true:=by
 have h1:=zeh (zdq (zbh (n+1)))
 have h2:=zf9 sig
 simp only[Leaf.right,Leaf.with,zbx,h1,h2]
 simp[zS64]
 omega
set_option maxHeartbeats 1000000 in
theorem zy8(v:Value)(w:Wld)(sig group:List UInt8)(src ident:UInt8)(at_:Int)(hn:w.n<=100000000)(hsig:sig.length=32)(hg:group.length<=1000000)(hs:src.toNat=1\/src.toNat=2)(ha:0<=at_/\at_<65536):
  Acts Tryz.prog 139 3 (wO w) [.own 0, .r (bs sig), .r (bs group), .r (U8 src), .r (U8 ident), .r (I at_)] [(0,v)] 4 (wO {w with n:=w.n+1}) (.r (.tu [.ag (slOk (zbx sig src ident w.n) sig group at_).c,bs (zdq (zbh (w.n+1))), .b true])):=by
 refine zc3 (T:=Tab) mixed Tab_ok Tryz.func139 rfl (by kernel_rfl) rfl ⟨⟨_,_,rfl,rfl,zc4,zc4⟩,trivial⟩ ?_
 refine zi [(0,0),(1,1),(2,2)] [0] (λvs _=>zsy (vs 0) w hn) (zh rfl ⟨_,_,rfl,rfl,rfl⟩) rfl ⟨zcp rfl rfl,⟨rfl,rfl,rfl,rfl,zm _⟩,⟨rfl,rfl,rfl,rfl,zm _⟩,trivial⟩ (ze3 _) ?_
 have hb:=zeh (zdq (zbh (w.n+1)))
 have hp:=zf9 sig
 refine zd (zm7 (zbh (w.n+1)) (by rw[zfi];omega)) ?_
 refine zd (ziq sig hsig) ?_
 refine zu ?_
 have hL:=zl3 (zbx sig src ident w.n) sig group at_ ⟨by simp only[zbx];omega,by simp only[zbx];omega,by simp[zbx],by simp[zbx],by simp[zbx]⟩ (by omega) (by simp only[zbx,List.length_cons,List.length_nil];omega) (by unfold i64;omega)
 have hE:zdh (zbx sig src ident w.n) sig at_=0:=by
  unfold zdh
  rw[if_pos (zov sig src ident w.n hs),if_pos,if_pos hsig]
  simp[zc2,zbx]
  omega
 rw[zgl,if_pos hE]at hL
 refine Vcall.mk' hL (zj (Cv.ag (zj (cr) (zj (cr) (zj (cr) (zj (cr) (zj (Cv.nil 1) (zj (Cv.nil 1) Cvs.nil))))))) (zm _)) ?_
 generalize slOk (zbx sig src ident w.n) sig group at_=q
 refine za rfl rfl ?_
 refine zc (m:=0) rfl (by decide) ?_
 refine zc (m:=0) rfl (by decide) ?_
 refine zc (m:=0) rfl (by decide) ?_
 refine zq rfl ?_
 exact zg0 (.inl rfl) [(0,0),(1,5),(2,6),(3,3)] [(12, .own 3),(13, .r (bs (zdq (zbh (w.n+1))))),(14, .r (.b true))] [(3,some (.box (q.c.map .r)))] rfl ⟨rfl,cr,cr,⟨rfl,rfl⟩,trivial⟩ ⟨zcp rfl rfl,⟨rfl,rfl,rfl,rfl,zm _⟩,⟨rfl,rfl,rfl,rfl,zm _⟩,⟨_,_,rfl,cr,_,_,rfl,cr,_,_,rfl,cr,_,_,rfl,cr,_,_,rfl,cr,_,_,rfl,cr,rfl⟩,trivial⟩ ⟨⟨1000000,rfl⟩,trivial⟩ (za rfl rfl ⟨_,rfl,cr⟩)
def padL{α:Type}(z:α)(l:List α)(n:Nat):List α:=l++List.replicate (n-l.length) z
def Wld.put(w:Wld)(at_:Nat)(keys:List KeyP)(sig:List UInt8):Wld:={w with keys:=(padL [] w.keys (at_+1)).set at_ keys,sign:=(padL [] w.sign (at_+1)).set at_ sig}
theorem zra{α:Type}(l:List α)(z:α)(j:Nat):l++List.replicate (j+1) z=(l++List.replicate j z)++[z]:=by rw[List.replicate_succ',List.append_assoc]
abbrev putS(w:Wld)(v:Value)(at_:Nat)(keys:List KeyP)(sig:List UInt8)(j:Nat):St:=⟨[(0, .own 0),(1, .r (I at_)),(2, .r (keyR keys)),(3, .r (bs sig)),(1000000, .nm 0 v)],lift (wO {w with keys:=w.keys++List.replicate j [],sign:=w.sign++List.replicate j []}),3⟩
set_option maxHeartbeats 1000000 in
theorem z6c(v:Value)(w:Wld)(at_:Nat)(keys:List KeyP)(sig:List UInt8)(hl:w.keys.length=w.sign.length)(hk:w.keys.length<=1000000)(ha:at_<=1000000):
  Acts Tryz.prog 141 3 (wO w) [.own 0, .r (I at_), .r (keyR keys), .r (bs sig)] [(0,v)] 3 (wO (w.put at_ keys sig)) (.r (.tu [])):=by
 refine zc3 (T:=Tab) mixed Tab_ok Tryz.func141 rfl (by kernel_rfl) rfl ⟨⟨_,_,rfl,rfl,zc4,zc4⟩,trivial⟩ ?_
 refine zw (putS w v at_ keys sig) (λj=>j<=at_+1-w.keys.length) (λj=>at_+1-w.keys.length-j) 0 (by omega) (zac [(0,0),(1,1),(2,2)] rfl ⟨rfl,cr,cr,cr,⟨rfl,rfl⟩,trivial⟩ ⟨zcp rfl rfl,⟨rfl,rfl,by simp,rfl,Cvs.of_eq (by simp)⟩,⟨rfl,rfl,by simp,rfl,Cvs.of_eq (by simp)⟩,trivial⟩) ?_
 intro j hj
 have e1:(w.keys++List.replicate j ([]:List KeyP)).length=w.keys.length+j:=by simp
 have e2:(w.sign++List.replicate j ([]:List UInt8)).length=w.sign.length+j:=by simp
 refine zg (λh=>zo ?_) (λh=>zp ?_)
 ·simp only[zb]at h
  refine zu ?_
  refine Vapp.mk' (j:=w.keys.length+j+1) (zs:=(w.keys++List.replicate j ([]:List KeyP)).map keyR++[.x (.slice none 0 0)]) (by simp only[maxLen];omega) (by show((w.keys++List.replicate j ([]:List KeyP)).length+1)*24<=_;omega) (by rw[e1]) rfl ?_
  refine zu ?_
  refine Vapp.mk' (j:=w.sign.length+j+1) (zs:=(w.sign++List.replicate j ([]:List UInt8)).map bs++[.x (.slice none 0 0)]) (by simp only[maxLen];omega) (by show((w.sign++List.replicate j ([]:List UInt8)).length+1)*24<=_;omega) (by rw[e2]) rfl ?_
  refine⟨j+1,by omega,by omega,zac [(0,0),(1,4),(2,6)] rfl ⟨rfl,cr,cr,cr,⟨rfl,rfl⟩,trivial⟩ ⟨zcp rfl rfl,⟨rfl,rfl,by simp;omega,rfl,?_⟩,⟨rfl,rfl,by simp;omega,rfl,?_⟩,trivial⟩⟩
  ·have e:(w.keys++List.replicate (j+1) ([]:List KeyP)).map keyR=(w.keys++List.replicate j []).map keyR++[keyR []]:=by rw[zra,List.map_append];rfl
   show Cvs _ ((w.keys++List.replicate (j+1) ([]:List KeyP)).map keyR)
   rw[e]
   exact Cvs.app (zm _) (zj (Cv.nil 2) Cvs.nil)
  ·have e:(w.sign++List.replicate (j+1) ([]:List UInt8)).map bs=(w.sign++List.replicate j []).map bs++[bs []]:=by rw[zra,List.map_append];rfl
   show Cvs _ ((w.sign++List.replicate (j+1) ([]:List UInt8)).map bs)
   rw[e]
   exact Cvs.app (zm _) (zj (Cv.nil 1) Cvs.nil)
 ·simp only[zb]at h
  have hj2:j=at_+1-w.keys.length:=by omega
  have hp1:w.keys++List.replicate j []=padL [] w.keys (at_+1):=by unfold padL;rw[hj2]
  have hp2:w.sign++List.replicate j []=padL [] w.sign (at_+1):=by unfold padL;rw[hj2,hl]
  refine Vdraw.mk' (by kernel_rfl) ?_
  refine Vadr.mk' at_ rfl (by show at_< (w.keys++List.replicate j ([]:List KeyP)).length;rw[e1];omega) ?_
  refine⟨by show at_*1+1<=((w.keys++List.replicate j ([]:List KeyP)).map keyR).length;rw[List.length_map,e1];omega,((w.keys++List.replicate j []).set at_ keys).map keyR,by rw[Nat.mul_one];exact zbj (by rw[e1];omega),?_⟩
  refine Vadr.mk' at_ rfl (by show at_< (w.sign++List.replicate j ([]:List UInt8)).length;rw[e2];omega) ?_
  refine⟨by show at_*1+1<=((w.sign++List.replicate j ([]:List UInt8)).map bs).length;rw[List.length_map,e2];omega,((w.sign++List.replicate j []).set at_ sig).map bs,by rw[Nat.mul_one];exact zbj (by rw[e2];omega),?_⟩
  have hO:wO (w.put at_ keys sig)=[(0,wBx w.t w.n),(1,wK ((w.keys++List.replicate j []).set at_ keys)),(2,wG ((w.sign++List.replicate j []).set at_ sig))]:=by rw[hp1,hp2];rfl
  rw[hO]
  exact zg0 (.inr rfl) [(0,0),(1,1),(2,2)] [] [] rfl ⟨⟨rfl,rfl⟩,trivial⟩ ⟨zcp rfl rfl,⟨rfl,rfl,by simp,rfl,zm _⟩,⟨rfl,rfl,by simp,rfl,zm _⟩,trivial⟩ ⟨⟨1000000,rfl⟩,trivial⟩ ⟨_,rfl,cr⟩
end
section
open Go.RowKit Go.Sort Go.Shelf
abbrev KeyV:Type:=Int×{v:Value//v.oneCell'=true}
instance :Inhabited KeyV:=⟨(0,⟨.int .i64 0,rfl⟩)⟩
end
section
def zpr:Par:=⟨[],[],[]⟩
theorem z3s:zpr.fit:=⟨by decide,by decide,by decide,λy hy=>by cases hy⟩
end
section
abbrev nl:RV:= .x (.slice none 0 0)
end
section
def idxA{α:Type}(q:α->Bool):Nat->List α->Int
 |_,[]=> -1
 |j,x::r=>if q x then(j:Int)else idxA q (j+1) r
theorem zs1{α:Type}(q:α->Bool): ∀(l:List α) (j:Nat), -1<=idxA q j l/\idxA q j l< (j+l.length:Nat)/\(0<=idxA q j l↔l.any q=true)
 |[],j=>by simp[idxA];omega
 |x::r,j=>by
  have ih:=zs1 q r (j+1)
  rw[idxA,List.any_cons,List.length_cons]
  by_cases hq:q x=true
  ·rw[if_pos hq,hq]
   exact⟨by omega,by omega,by simp⟩
  ·rw[if_neg hq,Bool.eq_false_iff.2 hq,Bool.false_or]
   exact⟨ih.1,by omega,ih.2.2⟩
theorem Cv.fn{P:Program}{α:Type}{f:FuncId}{arg:α->RV}{D:α->Prop}{q:α->Bool}(h: ∀x,D x->zab P f [arg x] (.r (.b (q x)))):Cv (.x (.func (.func f) #[] #[])) (.s (cloS P arg D q)):=λw k v hv=>by
 simp only[RV.at_]at hv⊢
 exact⟨f,[], #[],hv,rfl,h⟩
abbrev nodA(n:Node):RV:= .ag n.c
theorem zrz(l:List Node)(D:Node->Prop)(q:Node->Bool)(hl:l.length<=1000000000)(hD: ∀x∈l,D x):zab Tryz.prog 212 [nods l, .s (cloS Tryz.prog nodA D q)] (.r (I (idxA q 0 l))):=by
 refine zaa (T:=Tab) mixed Tab_ok Tryz.func212 rfl (by kernel_rfl) ?_
 refine zw (λj:Nat=>{F:=[(0, .r (nods l)),(1, .r (.s (cloS Tryz.prog nodA D q))),(7, .r (I l.length)),(8, .r (I j))],O:=[],nx:=0}) (λj=>j<=l.length/\idxA q 0 l=idxA q j (l.drop j)) (λj=>l.length-j) 0 ⟨by omega,by simp⟩ (zac [] rfl ⟨cr,cr,cr,cr,trivial⟩ trivial) ?_
 rintro j ⟨hj,he⟩
 refine zg (λh=>zo ?_) (λh=>zp ?_)
 ·simp only[zb]at h
  have hj':j<l.length:=by omega
  rw[List.drop_eq_getElem_cons hj']at he
  simp only[idxA]at he
  refine zk (by omega) (by omega) (zg9 rfl hj') ?_
  refine za rfl rfl ?_
  refine Vstep.cloB l[j] rfl rfl rfl rfl (cr) (hD _ (List.getElem_mem hj')) (λhq=>zo ?_) (λhq=>zp ?_)
  ·rw[hq]at he
   exact ze (by rw[he];simp)
  ·rw[hq]at he
   refine zc (m:=((j+1:Nat):Int)) (by omega) (by omega) ?_
   exact⟨j+1,⟨hj',by rw[he];simp⟩,by omega,zac [] rfl ⟨cr,cr,cr,cr,trivial⟩ trivial⟩
 ·simp only[zb]at h
  rw[List.drop_eq_nil_of_le (by omega)]at he
  exact ze (by rw[he];rfl)
theorem zm5(l:List Node)(D:Node->Prop)(q:Node->Bool)(hl:l.length<=1000000000)(hD: ∀x∈l,D x):zab Tryz.prog 147 [nods l, .s (cloS Tryz.prog nodA D q)] (.r (.b (l.any q))):=by
 refine zaa (T:=Tab) mixed Tab_ok Tryz.func147 rfl (by kernel_rfl) ?_
 refine zd (zrz l D q hl hD) ?_
 exact Vcmp.mk' rfl (ze (congrArg RV.b (by rw[Bool.eq_iff_iff,decide_eq_true_eq];exact(zs1 q l 0).2.2)))
def isLf(n:Node):Bool:=decide (n.kind.toNat=1)
theorem zyz(n:Node):zab Tryz.prog 148 [nodA n] (.r (.b (isLf n))):=by
 refine zaa (T:=Tab) mixed Tab_ok Tryz.func148 rfl (by kernel_rfl) ?_
 refine Vcmp.mk' (m:=isLf n) ?_ (cr)
 unfold isLf
 rw[Bool.eq_iff_iff]
 simp only[zb]
 omega
theorem z1z(l:List Node)(hl:l.length<=1000000000):zab Tryz.prog 78 [nods l] (.r (.b (l.any isLf))):=by
 refine zaa (T:=Tab) mixed Tab_ok Tryz.func78 rfl (by kernel_rfl) ?_
 refine Vcall.mk' (zm5 l (λ_=>True) isLf hl λ_ _=>trivial) (zj (cr) (zj (Cv.fn λn _=>zyz n) Cvs.nil)) ?_
 exact cr
section
variable (lf:Leaf) (hlf:lf.fit) (hlr:lf.right=true)
abbrev L1(lf:Leaf):Node:=⟨1,lf,zpr⟩
theorem zvd{lf:Leaf}(h:lf.fit):(L1 lf).fit:=⟨h,z3s⟩
theorem zyb{lf:Leaf}(h:lf.right=true):(L1 lf).right=true:=by
 show(if(1:UInt8).toNat=0 then _ else if(1:UInt8).toNat=1 then lf.right&&zpr.none else _)=true
 rw[if_neg (by decide),if_pos (by decide),h]
 rfl
theorem i00:(0:Int)<=0:=by decide
theorem i01:(0:Int)< ((1:Nat):Int):=by decide
theorem i2b: -9223372036854775808<=(2:Int)/\(2:Int)<=9223372036854775807:=by decide
theorem n1b:1<=1000000000:=by decide
theorem idx0:(([L1 lf].flatMap Node.c).drop ((0:Int).toNat*10)).take 10=(L1 lf).c:=zg9 (l:=[L1 lf]) (j:=0) rfl (Nat.succ_pos _)
theorem zn4:zab Tryz.prog 76 [nods [L1 lf]] (.r (I 1)):=by
 refine zaa (T:=Tab) mixed Tab_ok Tryz.func76 rfl (by kernel_rfl) ?_
 refine zc (m:=2) rfl i2b ?_
 refine⟨by decide,1,by decide,?_⟩
 refine⟨by decide,1,rfl,?_⟩
 refine zt rfl ?_
 refine zy (z4b 1) (λ_=>zt rfl (zp ?_)) (λh=>absurd h (by decide))
 exact cr
include hlf hlr in
theorem zwc:zab Tryz.prog 77 [nods [L1 lf]] (.r (.b true)):=by
 refine zaa (T:=Tab) mixed Tab_ok Tryz.func77 rfl (by kernel_rfl) ?_
 have hb:=zyu (L1 lf) (zvd hlf)
 rw[if_pos (zyb hlr)]at hb
 generalize zma (L1 lf)=q at hb
 refine Vloop.rounds 2 ?_
 refine Vrounds.step mixed Tab_ok ?_
 refine zq rfl (zo ?_)
 refine zk i00 i01 (idx0 lf) ?_
 refine za rfl rfl ?_
 refine⟨by decide,0,by decide,?_⟩
 refine zt rfl (zp ?_)
 refine zt rfl (zp ?_)
 refine za rfl rfl ?_
 refine zd hb ?_
 refine zt rfl (zp ?_)
 refine zc (m:=1) rfl (by decide) ?_
 refine Vrounds.step mixed Tab_ok ?_
 refine zt rfl (zp ?_)
 exact cr
theorem z2a:zab Tryz.prog 79 [nods [L1 lf],I 0] (.r (.b true)):=by
 refine zaa (T:=Tab) mixed Tab_ok Tryz.func79 rfl (by kernel_rfl) ?_
 refine zd (zn4 lf) ?_
 refine zk i00 i01 (idx0 lf) ?_
 refine zf rfl ?_
 refine Vloop.rounds 1 ?_
 refine Vrounds.step mixed Tab_ok ?_
 refine zt rfl (zp ?_)
 exact cr
include hlf hlr in
theorem zqd:zab Tryz.prog 32 [nods [L1 lf]] (.r (.b true)):=by
 refine zaa (T:=Tab) mixed Tab_ok Tryz.func32 rfl (by kernel_rfl) ?_
 have hs:=z1z [L1 lf] n1b
 have e:[L1 lf].any isLf=true:=rfl
 rw[e]at hs
 refine zd (zn4 lf) ?_
 refine zt rfl ?_
 refine zd (zwc lf hlf hlr) ?_
 refine zt rfl ?_
 refine zq rfl ?_
 refine zd hs ?_
 refine zt rfl ?_
 refine zt rfl (zp ?_)
 refine Vloop.rounds 2 ?_
 refine Vrounds.step mixed Tab_ok ?_
 refine zq rfl (zo ?_)
 refine zd (z2a lf) ?_
 refine zt rfl (zp ?_)
 refine zc (m:=1) rfl (by decide) ?_
 refine Vrounds.step mixed Tab_ok ?_
 refine zt rfl (zp ?_)
 exact cr
theorem z4i:zab Tryz.prog 152 [nods [L1 lf]] (.r (is [0])):=by
 refine zaa (T:=Tab) mixed Tab_ok Tryz.func152 rfl (by kernel_rfl) ?_
 refine Vloop.rounds 2 ?_
 refine Vrounds.step mixed Tab_ok ?_
 refine zq rfl (zo ?_)
 refine zk i00 i01 (idx0 lf) ?_
 refine za rfl rfl ?_
 refine zq rfl (zo ?_)
 refine⟨by decide,0,by decide,?_⟩
 refine zu ?_
 refine Vapp.mk' (j:=1) (zs:=[I 0]) (by decide) (by decide) rfl rfl ?_
 refine zc (m:=1) rfl (by decide) ?_
 refine Vrounds.step mixed Tab_ok ?_
 refine zt rfl (zp ?_)
 exact cr
include hlf hlr in
theorem zuc:zab Tryz.prog 80 [nods [L1 lf]] (.r (is [0])):=by
 refine zaa (T:=Tab) mixed Tab_ok Tryz.func80 rfl (by kernel_rfl) ?_
 refine zd (zqd lf hlf hlr) ?_
 refine zt rfl (zp ?_)
 refine zd (z4i lf) ?_
 exact cr
include hlf in
theorem z15:zab Tryz.prog 35 [nods [L1 lf]] (.r (nods [L1 lf])):=by
 refine zaa (T:=Tab) mixed Tab_ok Tryz.func35 rfl (by kernel_rfl) ?_
 refine Vloop.rounds 2 ?_
 refine Vrounds.step mixed Tab_ok ?_
 refine zq rfl (zo ?_)
 refine zk i00 i01 (idx0 lf) ?_
 refine za rfl rfl ?_
 refine za rfl rfl ?_
 refine zd (z1x (L1 lf) (zvd hlf) (zel _ hlf)) ?_
 refine zu ?_
 refine Vapp.mk' (j:=1) (zs:=(L1 lf).c) (by decide) (by decide) rfl rfl ?_
 refine zc (m:=1) rfl (by decide) ?_
 refine Vrounds.step mixed Tab_ok ?_
 refine zt rfl (zp ?_)
 exact cr
end
end
section
structure Keys (P:Program) (kt:TypeId) {α:Type} (q:α->Value):Prop where
 desc: ∃kd,P.underlying kt=some kd/\∀a b,Instr.sameNow kd (q a) (q b)=some true/\a=b\/Instr.sameNow kd (q a) (q b)=some false/\a≠b
 bits: ∀a,Instr.sameBits 10000 (q a) (q a)=true
 chk: ∀(w:World) (e:Bool) a,(Instr.checkKey e 10000 kt (q a)).run P w= .ok () w
abbrev qI(n:Int):Value:= .int .i64 n
abbrev qS(l:List UInt8):Value:= .string ⟨l.toArray⟩
section
variable {P:Program} {T:TT} {B:Bs} {N:Nat} {S:St} {a:Act} {w:World} {k:Kp} {g:Env} {o:Oper} {Q:Exit->Act->World->Prop}
theorem beqB(x y:List UInt8):((⟨x.toArray⟩:ByteArray)==⟨y.toArray⟩)=decide (x=y):=by
 show((x.toArray:Array UInt8)==y.toArray)=_
 by_cases h:x=y
 ·subst h;simp
 ·simp[h]
theorem zo1{m:Nat}(l:List UInt8):Instr.sameBits m (qS l) (qS l)=true:=by simp[Instr.sameBits,beqB]
theorem zsd{kt:TypeId}{v:Value}{b:Bool}{m:Nat}(hk:P.underlying kt=some .string):(Instr.checkKey b (m+1) kt v).run P w= .ok () w:=by
 simp[Instr.checkKey,run_underlying hk w]
theorem zhw{kt:TypeId}(hk:P.underlying kt=some .string):Keys P kt qS:=by
 refine⟨⟨_,hk,λx y=>?_⟩,λx=>zo1 x,λw e x=>zsd (m:=9999) hk⟩
 simp only[Instr.sameNow]
 by_cases h:x=y
 ·exact .inl ⟨by simp[h,beqB],h⟩
 ·exact .inr ⟨by simp[h,beqB],h⟩
section
variable {α:Type} {q:α->Value}
def entsG(q:α->Value)(w:World)(k:Kp):List (α×RV)->List MapEntry->Prop
 |[],es=>es=[]
 |(n,r)::l,es=>∃e t,es=e::t/\e.key=q n/\r.at_ w k e.val/\entsG q w k l t
theorem entsG.mono{w':World}{k':Kp}(h:Le w k w' k'): ∀{l:List (α×RV)} {es:List MapEntry},entsG q w k l es->entsG q w' k' l es
 |[],_,he=>he
 |(n,r)::l,_,⟨e,t,he,h1,h2,h3⟩=>⟨e,t,he,h1,RV.mono h _ _ h2,entsG.mono h h3⟩
theorem entsG.len: ∀{l:List (α×RV)} {es:List MapEntry},entsG q w k l es->es.length=l.length
 |[],_,he=>by simp only[entsG]at he;subst he;rfl
 |(n,r)::l,_,⟨e,t,he,h1,h2,h3⟩=>by subst he;simp[entsG.len h3]
def mapG(q:α->Value)(ents:List (α×RV)):GOw where
 at_ w k vb:=∃b es c,vb=(.map (some b),some b)/\w.heap[b]?=some (.map es c)/\k b=0/\entsG q w k ents es.toList
 mono:=by
  rintro w k w' k' vb h hb ⟨b,es,c,rfl,hh,hk,he⟩
  have:=hb b rfl
  exact⟨b,es,c,rfl,this.1.trans hh,this.2.trans hk,he.mono h⟩
 len:=some ents.length
 lenOk:=by
  rintro w k vb n h ⟨b,es,c,rfl,hh,_,he⟩
  cases h
  exact⟨b,es,c,rfl,hh,by rw[<-Array.length_toList];exact he.len⟩
 one:=by rintro w k vb ⟨b,es,c,rfl,_⟩;rfl
theorem Yld.mapGMk(q:α->Value){t:TypeId}(hop:o.op= .makeMap t none):Yld P S o (S.new o.dst (.own S.nx) (some (.gen (mapG q [])))):=by
 intro B N a w k Q ⟨g,hs⟩ hd
 refine zau (v:= .map (some w.heap.size)) (w':=w.alloc (.map #[] 0)) (by simp[execOp,hop,Instr.makeMap,newObj];rfl) ⟨kset k w.heap.size 0,_,hs.make hd (zaw w _) (λb hb=>zb7 b hb) (vb:=(.map (some w.heap.size),some w.heap.size)) (o:= .gen (mapG q [])) trivial ?_ λb hb=>?_⟩
 ·simp only[Ow.at_]
  exact⟨w.heap.size, #[],0,rfl,heap_alloc_new w _,zbp,rfl⟩
 ·cases hb
  exact⟨Nat.le_refl _,by simp⟩
theorem Vstep.mapGMk(q:α->Value){t:TypeId}{K:St->Prop}(hop:o.op= .makeMap t none)(hK:newK S o.dst (.own S.nx) (some (.gen (mapG q []))) K):Vstep P S o K:=by
 rw[zas]at hK
 exact Vstep.one (Yld.mapGMk q hop) hK
end
variable {α:Type} [DecidableEq α] {q:α->Value}
def aget:List (α×RV)->α->Option RV
 |[],_=>none
 |(m,r)::l,n=>if m=n then some r else aget l n
def aput:List (α×RV)->α->RV->List (α×RV)
 |[],n,r=>[(n,r)]
 |(m,s)::l,n,r=>if m=n then(m,r)::l else(m,s)::aput l n r
theorem zty{kt:TypeId}(hK:Keys P kt q){kd:TypeDesc}(hd: ∀a b,Instr.sameNow kd (q a) (q b)=some true/\a=b\/Instr.sameNow kd (q a) (q b)=some false/\a≠b){n:α}{r:RV}{u:Value}(hr:r.at_ w k u):
  ∀{ents:List (α×RV)} {es:List MapEntry} (i:Nat),entsG q w k ents es->
  (aget ents n=none/\Instr.findNow kd (q n) es i=some none/\∀c:Nat,entsG q w k (aput ents n r) (es++[{key:=q n,val:=u,born:=c}]))\/
  (∃s j v,aget ents n=some s/\Instr.findNow kd (q n) es i=some (some (i+j,v))/\s.at_ w k v/\(es[j]?.map (·.key))=some (q n)/\entsG q w k (aput ents n r) (es.modify j λe=>{e with key:=q n,val:=u}))
 |[],es,i,he=>by
  simp only[entsG]at he
  subst he
  exact .inl ⟨rfl,rfl,λc=>⟨_,[],rfl,rfl,hr,rfl⟩⟩
 |(m,s)::l,es,i,he=>by
  obtain⟨e,t,rfl,h1,h2,h3⟩:=he
  rcases hd n m with⟨hs,rfl⟩ |⟨hs,hne⟩
  ·refine .inr ⟨s,0,e.val,by simp[aget],by simp[Instr.findNow,h1,hs],h2,by simp[h1],?_⟩
   simp only[aput,if_true,List.modify_zero_cons]
   exact⟨_,t,rfl,rfl,hr,h3⟩
  ·have hne': ¬m=n:=λe=>hne e.symm
   simp only[aget,aput,if_neg hne',Instr.findNow,h1,hs]
   rcases zty hK hd hr (i+1) h3 with⟨g1,g2,g3⟩ |⟨s',j,v,g1,g2,g3,g4,g5⟩
   ·exact .inl ⟨g1,g2,λc=>⟨e,_,rfl,h1,h2,g3 c⟩⟩
   ·refine .inr ⟨s',j+1,v,g1,by rw[g2,Nat.add_right_comm,Nat.add_assoc],g3,by simpa using g4,?_⟩
    rw[List.modify_succ_cons]
    exact⟨e,_,rfl,h1,h2,g5⟩
theorem Vstep.lookG{t kt et:TypeId}{x y:Operand}{id:Nat}{n:α}{ents:List (α×RV)}{z:Value}{f:TF}{K:St->Prop}(zr:RV)(hop:o.op= .lookup t x y false)(hx:opr S x=some (.own id))(ho:oget S.O id=some (.gen (mapG q ents)))(hy:opr S y=some f)(hf:S.rv f=some (ofC (q n)))(hq: ∀w k v,(ofC (q n)).at_ w k v->v=q n)
  (hu:P.underlying t=some (.map kt et)) (hk:Keys P kt q) (hz:(P.info? et).bind (·.zero)=some z) (hzr: ∀w k,zr.at_ w k z)
  (hK:newK S o.dst (.r ((aget ents n).getD zr)) none K):Vstep P S o K:=by
 rw[zas]at hK
 refine Vstep.one (λB N a w k Q ⟨g,hs⟩ hd=>?_) hK
 have hv:=(zad hs hx).2
 have hn:=hq _ _ _ (zdg hs hf (zad hs hy).2)
 simp only[TF.at_]at hv
 obtain⟨_,_,hat,_⟩:=hs.owns id _ ho
 simp only[Ow.at_]at hat
 obtain⟨b,es,c,e,hh,hkb,he⟩:=hat
 rw[e]at hv
 obtain⟨i,hi,hz⟩:=Option.bind_eq_some_iff.1 hz
 have zv:(zeroValue et).run P w= .ok z w:=by simp[zeroValue,typeInfo,hi,hz]
 obtain⟨kd,hkd,hd'⟩:=hk.desc
 rcases zty hk hd' (n:=n) (hzr w k) 0 he with⟨g1,g2,_⟩ |⟨s,j,v,g1,g2,g3,_,_⟩
 ·have hfk:(Instr.findKey kt (q n) es.toList).run P w= .ok none w:=by simp[Instr.findKey,run_underlying hkd w,g2]
  have hrun:(Instr.lookup t (.map (some b)) (q n) false).run P w= .ok z w:=by
   simp[Instr.lookup,run_underlying hu w,hk.chk,hfk,zv,hh,getObj,Sem.run]
  exact zau (v:=z) (w':=w) (by simp[execOp,hop,hv,hn,hrun]) ⟨k,g,hs.put hd trivial (by rw[g1];exact hzr w k)⟩
 ·have hfk:(Instr.findKey kt (q n) es.toList).run P w= .ok (some (0+j,v)) w:=by simp[Instr.findKey,run_underlying hkd w,g2]
  have hrun:(Instr.lookup t (.map (some b)) (q n) false).run P w= .ok v w:=by
   simp[Instr.lookup,run_underlying hu w,hk.chk,hfk,hh,getObj,Sem.run]
  exact zau (v:=v) (w':=w) (by simp[execOp,hop,hv,hn,hrun]) ⟨k,g,hs.put hd trivial (by rw[g1];exact g3)⟩
theorem Vstep.putG{t kt et:TypeId}{x y z:Operand}{id:Nat}{n:α}{ents:List (α×RV)}{f fy:TF}{r:RV}{K:St->Prop}(hop:o.op= .mapUpdate t x y z)(hx:opr S x=some (.own id))(ho:oget S.O id=some (.gen (mapG q ents)))(hy:opr S y=some fy)(hf:S.rv fy=some (ofC (q n)))(hq: ∀w k v,(ofC (q n)).at_ w k v->v=q n)(hz:opr S z=some f)(hr:S.rv f=some r)
  (hu:P.underlying t=some (.map kt et)) (hk:Keys P kt q) (hK:setK S id (some (.gen (mapG q (aput ents n r)))) o.dst K):Vstep P S o K:=by
 rw[zby]at hK
 refine Vstep.one (λB N a w k Q ⟨g,hs⟩ hd=>?_) hK
 have hv:=(zad hs hx).2
 have hn:=hq _ _ _ (zdg hs hf (zad hs hy).2)
 have hzv:=zdg hs hr (zad hs hz).2
 simp only[TF.at_]at hv
 obtain⟨_,_,hat,_⟩:=hs.owns id _ ho
 simp only[Ow.at_]at hat
 obtain⟨b,es,c,e,hh,hkb,he⟩:=hat
 rw[e]at hv
 have hb:b<w.heap.size:=(Array.getElem?_eq_some_iff.1 hh).1
 obtain⟨kd,hkd,hd'⟩:=hk.desc
 have fin: ∀(es':Array MapEntry) (c':Nat),entsG q w k (aput ents n r) es'.toList->(Instr.mapUpdate t (.map (some b)) (q n) (a.eval z)).run P w= .ok () {w with heap:=w.heap.setIfInBounds b (.map es' c')}->o.wp P a w (λa' w'=>∃k',Sat B N ((S.set id (some (.gen (mapG q (aput ents n r))))).put o.dst (.r .any)) a' w' k') Q:=λes' c' hen hrun=>by
  let w':World:={w with heap:=w.heap.setIfInBounds b (.map es' c')}
  have hw:Wrote w k w' k (some b):=⟨rfl,rfl,rfl,by simp[w'],λx _ hne=>⟨by simp only[w'];rw[Array.getElem?_setIfInBounds_ne (λh=>hne (by rw[h]))],rfl⟩,λx hx=>by
   cases hx
   exact⟨Nat.le_refl _,λo ho=>by omega,λh=>by omega⟩⟩
  have hnew:(Ow.gen (mapG q (aput ents n r))).at_ w' k g (g id):=by
   simp only[Ow.at_]
   exact⟨b,es',c',e,by simp only[w'];rw[Array.getElem?_setIfInBounds_self_of_lt hb],hkb,hen.mono hw.le⟩
  exact zld (w':=w') (by simp[execOp,hop,hv,hn,hrun,w']) ⟨k,g,(hs.redo (ow':= .gen (mapG q (aput ents n r))) ho (by rw[e]) hw trivial hnew).drop⟩
 rcases zty hk hd' (n:=n) hzv 0 he with⟨g1,g2,g3⟩ |⟨s,j,v,g1,g2,_,g4,g5⟩
 ·have hfk:(Instr.findKey kt (q n) es.toList).run P w= .ok none w:=by simp[Instr.findKey,run_underlying hkd w,g2]
  refine fin (es.push {key:=q n,val:=a.eval z,born:=c}) (c+1) (by rw[Array.toList_push];exact g3 c) ?_
  simp[Instr.mapUpdate,run_underlying hu w,hk.chk,hfk,hh,getObj,setObj,Sem.run]
 ·have hfk:(Instr.findKey kt (q n) es.toList).run P w= .ok (some (0+j,v)) w:=by simp[Instr.findKey,run_underlying hkd w,g2]
  refine fin (es.modify j λe=>{e with key:=q n,val:=a.eval z}) c (by rw[Array.toList_modify];exact g5) ?_
  have hkey:((es[j]?).map (·.key))=some (q n):=by rw[<-Array.getElem?_toList];exact g4
  have hst:(Instr.keyThatStays (q n) (q n)).run P w= .ok (q n) w:=by simp[Instr.keyThatStays,hk.bits]
  simp[Instr.mapUpdate,run_underlying hu w,hk.chk,hfk,hh,getObj,setObj,Sem.run,hkey,hst]
end
theorem zsh{S:St}{t im gh:Nat}{m:Value}{ents:List (Int×RV)}(ho:oget S.O im=some (.gen (mapO ents)))(hgh:fget S.F gh=some (.nm im m))(ht:fget S.F t=some (.r (.x m))):Sub S ⟨(t, .r (.s (mapS ents)))::S.F,(im,none)::S.O,S.nx⟩:=by
 rintro B N a w k ⟨g0,h0⟩
 have hv:=(h0.facts t _ ht).2
 simp only[TF.at_,RV.at_]at hv
 obtain⟨k',⟨g,hs⟩,hat,_⟩:=zsg ho hgh ⟨g0,h0⟩
 refine⟨k',g,hs.size,hs.defers,hs.keep,hs.kk,λt' f hf=>?_,hs.owns,hs.apart⟩
 rcases zav hf with⟨rfl,rfl⟩ |⟨_,hf⟩
 ·exact⟨trivial,by simp only[TF.at_,RV.at_];rw[hv];exact hat⟩
 ·exact hs.facts t' f hf
theorem zki{S:St}{j i id gh:Nat}{m:Value}{ow:Ow}{cells:List TF}(ho:oget S.O id=some ow)(hgh:fget S.F gh=some (.nm id m))(hj:oget S.O j=some (.box cells))(hi:cells[i]?=some (.r (.x m))):Sub S ⟨S.F,(j,some (.box (cells.set i (.own id))))::S.O,S.nx⟩:=by
 rintro B N a w k ⟨g,hs⟩
 have hnm:=(hs.facts gh _ hgh).2
 simp only[TF.at_]at hnm
 obtain⟨q1,q2,q3,q4⟩:=hs.owns j _ hj
 have hlo:=(hs.owns id _ ho).1
 have hnew:(Ow.box (cells.set i (.own id))).at_ w k g (g j):=by
  simp only[Ow.at_]at q3⊢
  obtain⟨b,cur,t,e1,e2,e3,e4,e5⟩:=q3
  refine⟨b,cur,t,e1,e2,e3,by rw[List.length_set];exact e4,λx f u hf hu=>?_⟩
  by_cases hx:i=x
  ·subst hx
   have hil:=(List.getElem?_eq_some_iff.1 hi).1
   rw[List.getElem?_set_self hil]at hf
   cases hf
   have h0:=e5 i _ u hi hu
   refine⟨h0.1,?_⟩
   have h1:=h0.2
   simp only[TF.at_,RV.at_]at h1⊢
   rw[h1,hnm]
  ·rw[List.getElem?_set_ne hx]at hf
   exact e5 x f u hf hu
 have hlt:(Ow.box (cells.set i (.own id))).lt S.nx:=λf hf=>by
  rcases List.mem_or_eq_of_mem_set hf with hf |rfl
  ·exact q2 f hf
  ·exact hlo
 have up: ∀x o',oget ((j,some (Ow.box (cells.set i (.own id))))::S.O) x=some o'->(x=j/\o'= .box (cells.set i (.own id)))\/(j≠x/\oget S.O x=some o'):=λx o' h=>by
  rcases zak h with⟨rfl,e⟩ |⟨hne,h⟩
  ·cases e;exact .inl ⟨rfl,rfl⟩
  ·exact .inr ⟨hne,h⟩
 have old: ∀x ox,oget ((j,some (Ow.box (cells.set i (.own id))))::S.O) x=some ox->∃ox',oget S.O x=some ox':=λx ox hx=>by
  rcases up x ox hx with⟨rfl,_⟩ |⟨_,hx⟩
  ·exact⟨_,hj⟩
  ·exact⟨ox,hx⟩
 refine⟨k,g,hs.size,hs.defers,hs.keep,hs.kk,hs.facts,λx o' hx=>?_,λx y o1 o2 b' hx hy hne hbx=>?_⟩
 ·rcases up x o' hx with⟨rfl,rfl⟩ |⟨_,hx⟩
  ·exact⟨q1,hlt,hnew,q4⟩
  ·exact hs.owns x o' hx
 ·obtain⟨p1,hp1⟩:=old x o1 hx
  obtain⟨p2,hp2⟩:=old y o2 hy
  exact hs.apart x y p1 p2 b' hp1 hp2 hne hbx
theorem Vstep.mapGMkN{P:Program}{S:St}{o:Oper}{α:Type}(q:α->Value){t:TypeId}{K:St->Prop}(gh:Nat)(hop:o.op= .makeMap t none)(hK: ∀b:Nat,newK ⟨(gh, .nm S.nx (.map (some b)))::S.F,(S.nx,some (.gen (mapG q [])))::S.O,S.nx+1⟩ o.dst (.r (.x (.map (some b)))) none K):Vstep P S o K:=by
 simp only[zas]at hK
 refine⟨Nat,_,λB N a w k Q hs0 hd=>Oper.wp_mono ?_ (show o.wp P a w (λa' w'=>∃b k',Sat B N (St.put ⟨(gh, .nm S.nx (.map (some b)))::S.F,(S.nx,some (.gen (mapG q [])))::S.O,S.nx+1⟩ o.dst (.r (.x (.map (some b))))) a' w' k') Q from ?_),hK⟩
 ·rintro a' w' ⟨b,k',h⟩;exact⟨b,k',h⟩
 obtain⟨g,hs⟩:=hs0
 refine zau (v:= .map (some w.heap.size)) (w':=w.alloc (.map #[] 0)) (by simp[execOp,hop,Instr.makeMap,newObj];rfl) ⟨w.heap.size,kset k w.heap.size 0,?_⟩
 have hat:Ow.at_ (w.alloc (.map #[] 0)) (kset k w.heap.size 0) g (.map (some w.heap.size),some w.heap.size) (.gen (mapG q [])):=by
  simp only[Ow.at_]
  exact⟨w.heap.size, #[],0,rfl,heap_alloc_new w _,zbp,rfl⟩
 have h:=hs.make (dst:=none) (λd e=>by cases e) (zaw w (.map #[] 0)) (λb hb=>zb7 b hb) (vb:=(.map (some w.heap.size),some w.heap.size)) (o:= .gen (mapG q [])) trivial hat (λb hb=>by
  cases hb
  exact⟨Nat.le_refl _,by simp⟩)
 have h2:SatE B N ⟨(gh, .nm S.nx (.map (some w.heap.size)))::S.F,(S.nx,some (.gen (mapG q [])))::S.O,S.nx+1⟩ a (w.alloc (.map #[] 0)) (kset k w.heap.size 0) (g.set S.nx (.map (some w.heap.size),some w.heap.size)):=by
  refine⟨h.size,h.defers,h.keep,h.kk,λt' f hf=>?_,h.owns,h.apart⟩
  rcases zav hf with⟨rfl,rfl⟩ |⟨_,hf⟩
  ·exact⟨Nat.lt_succ_self _,by simp only[TF.at_,Env.set_eq]⟩
  ·exact h.facts t' f hf
 exact⟨_,h2.put hd trivial (by simp only[TF.at_,RV.at_])⟩
end
end Go.Proofs.YtddokcpcpoihmaaGreat.Sx
