import Derived.Test.YtddokcpcpoihmaaGreatZHg
import Derived.Test.YtddokcpcpoihmaaGreatZEk
import Derived.Laws.ComplexArith
import Derived.Test.YtddokcpcpoihmaaGreatZEa
import Derived.Test.YtddokcpcpoihmaaGreatZWire
import Derived.Laws.Cover3
import Derived.Test.YtddokcpcpoihmaaGreatZKi
import Derived.Shelf.RegionOpenPlain
import Derived.Lib.Walk
import Derived.Lib.SliceRun
import Derived.Lib.Overlaps
import Derived.Laws.Externs
import Derived.Laws.IdiomCopy
import Derived.Lib.AppendZerosOnto
import Derived.Laws.NewBlocks
import Derived.Test.YtddokcpcpoihmaaGreatZMe
import Derived.Test.YtddokcpcpoihmaaGreatZFw
import Derived.Test.YtddokcpcpoihmaaGreatZFb
namespace Go.Proofs.YtddokcpcpoihmaaGreat.Sx
open Go.RowKit
set_option linter.unusedVariables false
section
theorem Cvs.app: ∀{a b c d:List RV},Cvs a b->Cvs c d->Cvs (a++c) (b++d)
 |[],b,c,d,h,h'=>by simp only[Cvs]at h;subst h;exact h'
 |x::a,b,c,d,h,h'=>by
  simp only[Cvs]at h
  obtain⟨g,r,rfl,h1,h2⟩:=h
  exact zj h1 (Cvs.app h2 h')
def u64N(n:Int):Nat:=(n%18446744073709551616).toNat
theorem zxz(x:Int)(h:i64 x):IntKind.u64.wrap x=((u64N x:Nat):Int):=by
 unfold i64 at h
 unfold IntKind.wrap u64N
 simp only[IntKind.bits,IntKind.signed]
 simp
 omega
def zet(l:Leaf)(group:List UInt8)(at_:Int):List UInt8:=if l.src.toNat=1 then za1 l else za1 l++vecB group++beB 4 (u64N at_)
def zc2(l:Leaf)(at_:Int):Bool:=decide (l.src.toNat=1)||(decide (0<=at_)&&decide (at_<65536))
theorem zgc(l:Leaf):(za1 l).length<=l.box.length+l.sign.length+l.ident.length+l.parent.length+17:=by
 have v1:=zam l.box
 have v2:=zam l.sign
 have v3:=zam l.ident
 have v4:=zam l.parent
 unfold za1
 split<;>simp only[List.length_append,List.length_cons,List.length_nil]<;>omega
theorem zrj(l:Leaf)(group:List UInt8)(at_:Int):(zet l group at_).length<=l.box.length+l.sign.length+l.ident.length+l.parent.length+group.length+25:=by
 have h:=zgc l
 have v:=zam group
 have b:=zar 4 (u64N at_)
 unfold zet
 split
 ·omega
 ·simp only[List.length_append]
  omega
theorem zwv(l:Leaf)(group:List UInt8)(at_:Int)(hl:l.fit)(hg:group.length<=1000000000)(ha:i64 at_):zab Tryz.prog 53 [.ag l.c,bs group,I at_] (.r (.tu [bs (zet l group at_), .b (zc2 l at_)])):=by
 refine zaa (T:=Tab) mixed Tab_ok Tryz.func53 rfl (by kernel_rfl) ?_
 obtain⟨h1,h2,h3,h4,h5⟩:=hl
 have hA:=zgc l
 have hv:=zam group
 refine za rfl rfl ?_
 refine Vcall.mk' (zhs [] l (by simp) ⟨h1,h2,h3,h4,h5⟩) (zj (Cv.nil _) (zm _)) ?_
 rw[List.nil_append]
 refine zg (λh=>zo ?_) (λh=>zp ?_)
 ·simp only[zb]at h
  have h':l.src.toNat=1:=by omega
  have e1:zet l group at_=za1 l:=if_pos h'
  have e2:zc2 l at_=true:=by simp[zc2,h']
  rw[e1,e2]
  exact⟨_,rfl,cr⟩
 ·simp only[zb]at h
  have h':l.src.toNat≠1:=by omega
  have e1:zet l group at_=za1 l++vecB group++beB 4 (u64N at_):=if_neg h'
  have e2:zc2 l at_=(decide (0<=at_)&&decide (at_<65536)):=by simp[zc2,h']
  refine zd (za8 (za1 l) group (by omega) (by omega)) ?_
  refine Vint.n ((u64N at_:Nat):Int) (zxz at_ ha).symm ?_
  refine zd (zeu (za1 l++vecB group) 4 (u64N at_) (by rw[List.length_append];omega) (.inr (.inr (.inl rfl)))) ?_
  rw[e1,e2]
  refine zg (λh0=>?_) (λh0=>?_)
  ·simp only[zb]at h0
   have h0':0<=at_:=h0
   refine Vcmp.mk' (m:=decide (at_<65536)) rfl ?_
   exact⟨_,rfl,ze (by rw[decide_eq_true h0'];rfl)⟩
  ·simp only[zb]at h0
   have h0': ¬0<=at_:=h0
   exact⟨_,rfl,ze (by rw[decide_eq_false h0'];rfl)⟩
def zS64:List UInt8:=List.replicate 64 0
def z06:List UInt8:=[76,101,97,102,78,111,100,101,84,66,83]
def Leaf.with(l:Leaf)(s:List UInt8):Leaf:={l with sig:=s}
def zdh(l:Leaf)(seed:List UInt8)(at_:Int):Nat:=if(l.with zS64).right=true then if zc2 l at_=true then if seed.length=32 then 0 else 1 else 1 else 3
def slOk(l:Leaf)(seed group:List UInt8)(at_:Int):Leaf:=l.with (zo8 seed z06 (zet l group at_))
def zgl(l:Leaf)(seed group:List UInt8)(at_:Int):RV:=if zdh l seed at_=0 then .tu [.ag (slOk l seed group at_).c,Er 0]else .tu [.ag zl.c,Er (zdh l seed at_)]
theorem znr:Cv (.ag [.x (.slice none 0 0), .x (.slice none 0 0), .x (.slice none 0 0), .i .u8 0, .x (.slice none 0 0), .x (.slice none 0 0)]) (.ag zl.c):=Cv.ag (zj (Cv.nil 1) (zj (Cv.nil 1) (zj (Cv.nil 1) (zj (cr) (zj (Cv.nil 1) (zj (Cv.nil 1) Cvs.nil))))))
theorem zgb:(List.replicate ((64:Int).toNat) ([Value.int .u8 0].map ofC)).flatten=zS64.map U8:=by simp[ofC,zS64]
abbrev lsS:ByteArray:=⟨#[76,101,97,102,78,111,100,101,84,66,83]⟩
section
variable (l:Leaf) (z seed group:List UInt8) (at_:Int) (hl:l.fit) (hz:zS64=z)
include hl hz
set_option maxRecDepth 100000 in
theorem zwl(hr:(l.with z).right=false):zab Tryz.prog 17 [.ag l.c,bs seed,bs group,I at_] (.r (.tu [.ag zl.c,Er 3])):=by
 refine zaa (T:=Tab) mixed Tab_ok Tryz.func17 rfl (by kernel_rfl) ?_
 have hzl:64=z.length:=by rw[<-hz];decide
 refine za rfl rfl ?_
 refine zd (zel l hl) ?_
 refine⟨rfl,by decide,by decide,by decide,z.length,z.map U8,hzl,by rw[zgb,hz],zu ?_⟩
 refine za rfl rfl ?_
 refine zy (zev (l.with z)) (λhr'=>absurd hr' (by rw[hr];simp)) (λ_=>zq rfl (zo ?_))
 refine za rfl rfl ?_
 exact⟨_,rfl,Cv.tu (zj znr (zm _))⟩
variable (T:List UInt8) (β:Bool) (hr:(l.with z).right=true) (hT:zab Tryz.prog 53 [.ag (l.with z).c,bs group,I at_] (.r (.tu [bs T, .b β])))
include hr hT
set_option maxRecDepth 100000 in
theorem zzd(hβ:β=false):zab Tryz.prog 17 [.ag l.c,bs seed,bs group,I at_] (.r (.tu [.ag zl.c,Er 1])):=by
 subst hβ
 refine zaa (T:=Tab) mixed Tab_ok Tryz.func17 rfl (by kernel_rfl) ?_
 have hzl:64=z.length:=by rw[<-hz];decide
 refine za rfl rfl ?_
 refine zd (zel l hl) ?_
 refine⟨rfl,by decide,by decide,by decide,z.length,z.map U8,hzl,by rw[zgb,hz],zu ?_⟩
 refine za rfl rfl ?_
 refine zy (zev (l.with z)) (λ_=>zt rfl (zp ?_)) (λhr'=>absurd hr' (by rw[hr];simp))
 refine za rfl rfl ?_
 refine zd hT ?_
 refine zq rfl (zo ?_)
 refine za rfl rfl ?_
 exact⟨_,rfl,Cv.tu (zj znr (zm _))⟩
set_option maxRecDepth 100000 in
theorem zze(q:List UInt8)(e:Nat)(hβ:β=true)(hq:zab Tryz.prog 23 [bs seed,Str lsS,bs T] (.r (.tu [bs q,Er e])))(he:e=1):zab Tryz.prog 17 [.ag l.c,bs seed,bs group,I at_] (.r (.tu [.ag zl.c,Er 1])):=by
 subst hβ;subst he
 refine zaa (T:=Tab) mixed Tab_ok Tryz.func17 rfl (by kernel_rfl) ?_
 have hzl:64=z.length:=by rw[<-hz];decide
 refine za rfl rfl ?_
 refine zd (zel l hl) ?_
 refine⟨rfl,by decide,by decide,by decide,z.length,z.map U8,hzl,by rw[zgb,hz],zu ?_⟩
 refine za rfl rfl ?_
 refine zy (zev (l.with z)) (λ_=>zt rfl (zp ?_)) (λhr'=>absurd hr' (by rw[hr];simp))
 refine za rfl rfl ?_
 refine zd hT ?_
 refine zt rfl (zp ?_)
 refine zd hq ?_
 refine zq rfl (zo ?_)
 refine za rfl rfl ?_
 exact⟨_,rfl,Cv.tu (zj znr (zm _))⟩
set_option maxRecDepth 100000 in
theorem z2i(q:List UInt8)(hβ:β=true)(hq:zab Tryz.prog 23 [bs seed,Str lsS,bs T] (.r (.tu [bs q,Er 0]))):zab Tryz.prog 17 [.ag l.c,bs seed,bs group,I at_] (.r (.tu [.ag (l.with q).c,Er 0])):=by
 subst hβ
 refine zaa (T:=Tab) mixed Tab_ok Tryz.func17 rfl (by kernel_rfl) ?_
 have hzl:64=z.length:=by rw[<-hz];decide
 refine za rfl rfl ?_
 refine zd (zel l hl) ?_
 refine⟨rfl,by decide,by decide,by decide,z.length,z.map U8,hzl,by rw[zgb,hz],zu ?_⟩
 refine za rfl rfl ?_
 refine zy (zev (l.with z)) (λ_=>zt rfl (zp ?_)) (λhr'=>absurd hr' (by rw[hr];simp))
 refine za rfl rfl ?_
 refine zd hT ?_
 refine zt rfl (zp ?_)
 refine zd hq ?_
 refine zt rfl (zp ?_)
 refine za rfl rfl ?_
 refine za rfl rfl ?_
 exact⟨_,rfl,cr⟩
end
theorem zl3(l:Leaf)(seed group:List UInt8)(at_:Int)(hl:l.fit)(hg:group.length<=100000000)(hb:l.box.length+l.sign.length+l.ident.length+l.parent.length<=100000000)(ha:i64 at_):
  zab Tryz.prog 17 [.ag l.c,bs seed,bs group,I at_] (.r (zgl l seed group at_)):=by
 have hl':=hl
 obtain⟨h1,h2,h3,h4,h5⟩:=hl'
 have hf:(l.with zS64).fit:=⟨h1,h2,h3,h4,by show zS64.length<=_;decide⟩
 have ht:=zrj l group at_
 have hT:zab Tryz.prog 53 [.ag (l.with zS64).c,bs group,I at_] (.r (.tu [bs (zet l group at_), .b (zc2 l at_)])):=zwv (l.with zS64) group at_ hf (by omega) ha
 have herr: ∀e:Nat,zdh l seed at_=e->e≠0->zgl l seed group at_= .tu [.ag zl.c,Er e]:=λe h h0=>by rw[zgl,h,if_neg h0]
 cases hr:(l.with zS64).right with
 |false=>
  rw[herr 3 (by unfold zdh;rw[if_neg (by rw[hr];simp)]) (by decide)]
  exact zwl l zS64 seed group at_ hl rfl hr
 |true=>
  cases ho:zc2 l at_ with
  |false=>
   rw[herr 1 (by unfold zdh;rw[if_pos hr,if_neg (by rw[ho];simp)]) (by decide)]
   exact zzd l zS64 seed group at_ hl rfl _ _ hr hT ho
  |true=>
   by_cases hs:seed.length=32
   ·have hS:zgl l seed group at_= .tu [.ag (slOk l seed group at_).c,Er 0]:=by
     have:zdh l seed at_=0:=by unfold zdh;rw[if_pos hr,if_pos ho,if_pos hs]
     rw[zgl,if_pos this]
    rw[hS]
    exact z2i l zS64 seed group at_ hl rfl _ _ hr hT _ ho (zm8 seed lsS (zet l group at_) hs (by decide) (by omega))
   ·rw[herr 1 (by unfold zdh;rw[if_pos hr,if_pos ho,if_neg hs]) (by decide)]
    exact zze l zS64 seed group at_ hl rfl _ _ hr hT _ _ ho (zr2 seed lsS (zet l group at_) hs (by decide) (by omega)) rfl
end
section
section
variable {P:Program} {S:St} {o:Oper}
theorem Vstep.callS0{t:Nat}{ts:Array TypeId}{f:FuncId}{rvs:List RV}{r:RV}{K:St->Prop}(hop:o.op= .call {callee:= .value (.tmp t),args:= #[],argTypes:=ts}) (hf:fget S.F t=some (.r (.s (funS f rvs)))) (hg:zab P f rvs (.r r)) (hK:newK S o.dst (.r r) none K):Vstep P S o K:=by
 rw[zas]at hK
 refine Vstep.one (λB N a w k Q ⟨g,hs⟩ hd=>?_) hK
 have hfv:=(hs.facts t _ hf).2
 simp only[TF.at_,RV.at_]at hfv
 obtain⟨cap,e,hp⟩:=hfv
 have:=zhn (o:=o) (Q:=Q) (K:=λf ow=>f= .r r/\ow=none) hs hp (zm rvs) hg (by
  have e2:a.eval (.tmp t)= .func (.func f) #[] cap:=by
   have:a.eval (.tmp t)=a.tmps.getD t undef:=by simp[Act.eval]
   rw[this,e]
  simp[execOp,hop,resolve,e2,Deferred.ofValue,invoke]) ⟨rfl,rfl⟩
 refine Oper.wp_mono ?_ this
 rintro a' w' ⟨f',ow,u,k',⟨rfl,rfl⟩,rfl,hl⟩
 exact⟨k',hl.sat hs hd⟩
end
def zpg(β:Bool)(l:List UInt8):RV:=cond β (.tu [bs l,Er 0]) (.tu [bs [],Er 3])
theorem z4o(β:Bool)(f:FuncId)(rvs:List RV)(l:List UInt8)(hg:β=true->zab Tryz.prog f rvs (.r (bs l))):zab Tryz.prog 109 [.b β, .s (funS f rvs)] (.r (zpg β l)):=by
 refine zaa (T:=Tab) mixed Tab_ok Tryz.func109 rfl (by kernel_rfl) ?_
 cases β with
 |false=>
  refine zq rfl (zo ?_)
  exact⟨_,rfl,Cv.tu (zj (Cv.nil 1) (zm _))⟩
 |true=>
  refine zt rfl (zp ?_)
  refine Vstep.callS0 rfl rfl (hg rfl) ?_
  exact⟨_,rfl,cr⟩
def zjn(l:Leaf):List UInt8:=za1 l++vecB l.sig
theorem zew(l:Leaf):(zjn l).length<=l.box.length+l.sign.length+l.ident.length+l.parent.length+l.sig.length+21:=by
 have:=zgc l
 have:=zam l.sig
 rw[zjn,List.length_append]
 omega
theorem zio(l:Leaf)(hl:l.fit):zab Tryz.prog 221 [.ag l.c] (.r (zpg l.right (zjn l))):=by
 refine zaa (T:=Tab) mixed Tab_ok Tryz.func221 rfl (by kernel_rfl) ?_
 have hA:=zgc l
 obtain⟨h1,h2,h3,h4,h5⟩:=id hl
 refine za rfl rfl ?_
 have hg:=zev l
 cases hr:l.right with
 |true=>
  rw[hr]at hg
  refine zd hg ?_
  refine zt rfl (zp ?_)
  refine Vdraw.mk' (by kernel_rfl) ?_
  refine za rfl rfl ?_
  refine Vcall.mk' (zhs [] l (by simp) hl) (zj (Cv.nil _) (zm _)) ?_
  rw[List.nil_append]
  refine zd (za8 (za1 l) l.sig (by omega) (by omega)) ?_
  exact⟨_,rfl,cr⟩
 |false=>
  rw[hr]at hg
  refine zd hg ?_
  refine zq rfl (zo ?_)
  exact⟨_,rfl,Cv.tu (zj (Cv.nil 1) (zm _))⟩
theorem zp5(l:Leaf)(hl:l.fit)(hr:l.right=true):zab Tryz.prog 182 [.ag l.c] (.r (bs (zjn l))):=by
 refine zaa (T:=Tab) mixed Tab_ok Tryz.func182 rfl (by kernel_rfl) ?_
 have h:=zio l hl
 rw[hr]at h
 refine za rfl rfl ?_
 refine zd h ?_
 exact cr
theorem zp6(l:Leaf)(s:UInt8)(hl:l.fit):zab Tryz.prog 179 [.ag l.c,U8 s] (.r (.b (l.right&&decide (l.src=s)))):=by
 refine zaa (T:=Tab) mixed Tab_ok Tryz.func179 rfl (by kernel_rfl) ?_
 have h:=zio l hl
 refine za rfl rfl ?_
 cases hr:l.right with
 |true=>
  rw[hr]at h
  refine zd h ?_
  refine zq rfl ?_
  refine Vcmp.mk' (m:=decide (l.src=s)) ?_ ?_
  ·rw[Bool.eq_iff_iff]
   simp only[zb,Int.natCast_inj,UInt8.toNat_inj]
  ·exact ze (by simp)
 |false=>
  rw[hr]at h
  refine zd h ?_
  refine zt rfl ?_
  exact cr
def PackP.right(p:PackP):Bool:=decide (p.init.length=32)&&((p.leaf.right&&decide (p.leaf.src=1))&&decide (p.sig.length=64))
def zbv(p:PackP):List UInt8:=(beB 2 1++beB 2 1)++vecB p.init++zjn p.leaf
def PackP.fit(p:PackP):Prop:=p.init.length<=1000000/\p.leaf.fit/\p.sig.length<=1000000
theorem z2e(p:PackP)(hp:p.fit):zab Tryz.prog 110 [.ag p.c] (.r (.b p.right)):=by
 refine zaa (T:=Tab) mixed Tab_ok Tryz.func110 rfl (by kernel_rfl) ?_
 have h:=zp6 p.leaf 1 hp.2.1
 refine zg (λh1=>?_) (λh1=>?_)
 ·simp only[zb]at h1
  refine za rfl rfl ?_
  have h1':p.init.length=32:=by omega
  cases hr:(p.leaf.right&&decide (p.leaf.src=1))with
  |true=>
   rw[hr]at h
   refine zd h ?_
   refine Vcmp.mk' (m:=decide (p.sig.length=64)) ?_ ?_
   ·rw[Bool.eq_iff_iff]
    simp only[zb]
    omega
   ·exact ze (by unfold PackP.right;rw[hr,decide_eq_true h1'];simp)
  |false=>
   rw[hr]at h
   refine zd h ?_
   exact ze (by unfold PackP.right;rw[hr];simp[ofC])
 ·simp only[zb]at h1
  have h1': ¬p.init.length=32:=by omega
  exact ze (by unfold PackP.right;rw[decide_eq_false h1'];rfl)
theorem zv8(l:List UInt8)(size m:Nat)(hl:l.length<=1000000000)(hs:size=1\/size=2\/size=4\/size=8):zab Tryz.prog 180 [bs l,I size, .i .u64 m] (bch (l++beB size m)):=by
 refine zaa (T:=Tab) mixed Tab_ok Tryz.func180 rfl (by kernel_rfl) ?_
 refine zd (zeu l size m (by omega) hs) ?_
 exact rfl
theorem z4j(l m:List UInt8)(hl:l.length<=1000000000)(hm:m.length<=1000000000):zab Tryz.prog 181 [bs l,bs m] (bch (l++vecB m)):=by
 refine zaa (T:=Tab) mixed Tab_ok Tryz.func181 rfl (by kernel_rfl) ?_
 refine zd (za8 l m (by omega) (by omega)) ?_
 exact rfl
theorem zr4(p:PackP)(hp:p.fit)(hr:p.leaf.right=true):zab Tryz.prog 112 [.ag p.c] (.r (bs (zbv p))):=by
 refine zaa (T:=Tab) mixed Tab_ok Tryz.func112 rfl (by kernel_rfl) ?_
 obtain⟨h1,h2,h3⟩:=hp
 have hv:=zam p.init
 have hL:=zew p.leaf
 obtain⟨k1,k2,k3,k4,k5⟩:=id h2
 refine Vcall.mk' (zv8 [] 2 1 (by simp) (.inr (.inl rfl))) (zj (Cv.nil _) (zm _)) ?_
 rw[List.nil_append]
 refine zd (zv8 (beB 2 1) 2 1 (by rw[zar];omega) (.inr (.inl rfl))) ?_
 refine Vdraw.mk' (by kernel_rfl) ?_
 refine zd (z4j (beB 2 1++beB 2 1) p.init (by rw[List.length_append,zar];omega) (by omega)) ?_
 refine za rfl rfl ?_
 refine zd (zp5 p.leaf h2 hr) ?_
 refine Vapp.mk' (j:=(zbv p).length) (zs:=(zbv p).map U8) (by simp only[maxLen,List.length_append,zar];omega) (by simp only[List.length_append,zar];show(_+_)*1<=_;omega) (by simp only[zbv,List.length_append]) (by simp only[zbv,List.map_append]) ?_
 exact cr
theorem zr5(p:PackP)(hp:p.fit)(hr:p.leaf.right=true):zab Tryz.prog 111 [.ptr p.c] (.r (bs (zbv p))):=by
 refine zaa (T:=Tab) mixed Tab_ok Tryz.func111 rfl (by kernel_rfl) ?_
 refine za rfl rfl ?_
 refine zd (zr4 p hp hr) ?_
 exact cr
theorem PackP.right_leaf{p:PackP}(h:p.right=true):p.leaf.right=true:=by
 unfold PackP.right at h
 simp only[Bool.and_eq_true]at h
 exact h.2.1.1
theorem zl0(p:PackP)(hp:p.fit):zab Tryz.prog 54 [.ag p.c] (.r (zpg p.right (zbv p))):=by
 refine zaa (T:=Tab) mixed Tab_ok Tryz.func54 rfl (by kernel_rfl) ?_
 refine za rfl rfl ?_
 refine zd (z2e p hp) ?_
 refine Vstep.sub (zhh (id:=0) (t:=1) p.c rfl rfl) (Vstep.mkfunS rfl rfl ?_)
 refine zd (z4o p.right _ _ (zbv p) λh=>zr5 p hp (PackP.right_leaf h)) ?_
 unfold zpg
 cases p.right with
 |true=>exact⟨_,rfl,cr⟩
 |false=>exact⟨_,rfl,cr⟩
theorem zkv(l m:List UInt8)(hl:l.length<=1000000000000)(hm:m.length<=1000000000000):zab Tryz.prog 64 [bs l,bs m] (bch (l++m)):=by
 refine zaa (T:=Tab) mixed Tab_ok Tryz.func64 rfl (by kernel_rfl) ?_
 refine zu ?_
 refine Vapp.mk' (j:=l.length) (zs:=l.map U8) (by simp only[maxLen];omega) (by show(0+l.length)*1<=_;omega) (by omega) rfl ?_
 refine Vapp.mk' (j:=(l++m).length) (zs:=(l++m).map U8) (by simp only[maxLen];omega) (by show(l.length+m.length)*1<=_;omega) (by rw[List.length_append]) (by rw[List.map_append]) ?_
 exact rfl
theorem zww(l m n:List UInt8)(hl:l.length<=10000000000)(hm:m.length<=10000000000)(hn:n.length<=10000000000):zab Tryz.prog 63 [bs l,bs m,bs n] (bch (l++m++n)):=by
 refine zaa (T:=Tab) mixed Tab_ok Tryz.func63 rfl (by kernel_rfl) ?_
 refine zd (zkv l m (by omega) (by omega)) ?_
 refine zd (zkv (l++m) n (by rw[List.length_append];omega) (by omega)) ?_
 exact rfl
theorem zsx(m:Nat)(hm:m<18446744073709551616):zab Tryz.prog 65 [.i .u64 m] (bch (beB 2 m)):=by
 refine zaa (T:=Tab) mixed Tab_ok Tryz.func65 rfl (by kernel_rfl) ?_
 refine zd (z1y 2 m (by omega) hm) ?_
 exact rfl
theorem z2j(m:List UInt8)(hm:m.length<=1000000000):zab Tryz.prog 66 [bs m] (bch (vecB m)):=by
 refine zaa (T:=Tab) mixed Tab_ok Tryz.func66 rfl (by kernel_rfl) ?_
 refine zd (zfv m (by omega)) ?_
 exact rfl
theorem zdl(p:PackP)(hp:p.fit):zab Tryz.prog 24 [.ag p.c] (.r (bs (zbv p))):=by
 refine zaa (T:=Tab) mixed Tab_ok Tryz.func24 rfl (by kernel_rfl) ?_
 obtain⟨h1,h2,h3⟩:=hp
 have hv:=zam p.init
 have hL:=zew p.leaf
 obtain⟨k1,k2,k3,k4,k5⟩:=id h2
 refine Vdraw.mk' (by kernel_rfl) ?_
 refine zd (zsx 1 (by decide)) ?_
 refine zd (zsx 1 (by decide)) ?_
 refine zd (zkv (beB 2 1) (beB 2 1) (by rw[zar];omega) (by rw[zar];omega)) ?_
 refine zd (z2j p.init (by omega)) ?_
 refine za rfl rfl ?_
 refine zd (zos p.leaf h2) ?_
 refine zd (zww (beB 2 1++beB 2 1) (vecB p.init) (zjn p.leaf) (by rw[List.length_append,zar];omega) (by omega) (by omega)) ?_
 exact cr
theorem zy7(l:Leaf)(s:UInt8):zab Tryz.prog 137 [.ag l.c,U8 s] (.r (.b (l.right&&decide (l.src=s)))):=by
 refine zaa (T:=Tab) mixed Tab_ok Tryz.func137 rfl (by kernel_rfl) ?_
 refine za rfl rfl ?_
 refine zy (zv0 l) (λhr=>?_) (λhr=>?_)
 ·refine Vcmp.mk' (m:=decide (l.src=s)) ?_ ?_
  ·rw[Bool.eq_iff_iff]
   simp only[zb,Int.natCast_inj,UInt8.toNat_inj]
  ·exact ze (by rw[hr];simp)
 ·exact ze (by rw[hr];rfl)
theorem zr3(p:PackP):zab Tryz.prog 72 [.ag p.c] (.r (.b p.right)):=by
 refine zaa (T:=Tab) mixed Tab_ok Tryz.func72 rfl (by kernel_rfl) ?_
 have h:=zy7 p.leaf 1
 refine zg (λh1=>?_) (λh1=>?_)
 ·simp only[zb]at h1
  refine za rfl rfl ?_
  have h1':p.init.length=32:=by omega
  cases hr:(p.leaf.right&&decide (p.leaf.src=1))with
  |true=>
   rw[hr]at h
   refine zd h ?_
   refine Vcmp.mk' (m:=decide (p.sig.length=64)) ?_ ?_
   ·rw[Bool.eq_iff_iff]
    simp only[zb]
    omega
   ·exact ze (by unfold PackP.right;rw[hr,decide_eq_true h1'];simp)
  |false=>
   rw[hr]at h
   refine zd h ?_
   exact ze (by unfold PackP.right;rw[hr];simp[ofC])
 ·simp only[zb]at h1
  have h1': ¬p.init.length=32:=by omega
  exact ze (by unfold PackP.right;rw[decide_eq_false h1'];rfl)
def zf1(l:Leaf)(group:List UInt8)(at_:Int):Bool:=zc2 l at_&&(l.right&&zfg l.sign (zd4 z06 (zet l group at_)) l.sig)
theorem zkb(l:Leaf)(group:List UInt8)(at_:Int)(hl:l.fit)(hg:group.length<=100000000)(hb:l.box.length+l.sign.length+l.ident.length+l.parent.length<=100000000)(ha:i64 at_):zab Tryz.prog 68 [.ag l.c,bs group,I at_] (.r (.b (zf1 l group at_))):=by
 refine zaa (T:=Tab) mixed Tab_ok Tryz.func68 rfl (by kernel_rfl) ?_
 have ht:=zrj l group at_
 have hT:=zwv l group at_ hl (by omega) ha
 have hC:=zm6 l.sign lsS (zet l group at_) l.sig hl.2.1 (by decide) (by omega)
 refine za rfl rfl ?_
 cases ho:zc2 l at_ with
 |false=>
  rw[ho]at hT
  refine zd hT ?_
  exact ze (by unfold zf1;rw[ho];rfl)
 |true=>
  rw[ho]at hT
  refine zd hT ?_
  refine za rfl rfl ?_
  refine zy (zev l) (λhr=>?_) (λhr=>?_)
  ·refine zd hC ?_
   exact ze (by unfold zf1;rw[ho,hr];simp;rfl)
  ·exact ze (by unfold zf1;rw[ho,hr];rfl)
abbrev kpS:ByteArray:=⟨#[75,101,121,80,97,99,107,97,103,101,84,66,83]⟩
def zcb(p:PackP):Bool:=p.right&&(!decide (p.init=p.leaf.box)&&(zf1 p.leaf [] 0&&zfg p.leaf.sign (zd4 (sB kpS) (zbv p)) p.sig))
section
variable (p:PackP) (hp:p.fit) (hb:p.leaf.box.length+p.leaf.sign.length+p.leaf.ident.length+p.leaf.parent.length+p.leaf.sig.length<=100000)
include hp hb
theorem zqa:zab Tryz.prog 26 [.ag p.c] (.r (.b (zcb p))):=by
 refine zaa (T:=Tab) mixed Tab_ok Tryz.func26 rfl (by kernel_rfl) ?_
 obtain⟨h1,h2,h3⟩:=id hp
 have hv:=zam p.init
 have hL:=zew p.leaf
 have hT:=zl0 p hp
 have hK:(zbv p).length<=500000000:=by simp only[zbv,List.length_append,zar];omega
 refine za rfl rfl ?_
 cases hr:p.right with
 |false=>
  rw[hr]at hT
  refine zd hT ?_
  refine zt rfl ?_
  exact ze (by unfold zcb;rw[hr];rfl)
 |true=>
  rw[hr]at hT
  refine zd hT ?_
  refine zq rfl ?_
  refine za rfl rfl ?_
  have hC:=zkb p.leaf [] 0 h2 (by decide) (by omega) (by unfold i64;omega)
  cases hk:zf1 p.leaf [] 0 with
  |false=>
   rw[hk]at hC
   refine Vcall.mk' hC (zj (cr) (zj (Cv.nil 1) (zm _))) ?_
   exact ze (by unfold zcb;rw[hr,hk];simp[ofC])
  |true=>
   rw[hk]at hC
   refine Vcall.mk' hC (zj (cr) (zj (Cv.nil 1) (zm _))) ?_
   refine zy (zpy p.init p.leaf.box) (λhe=>zt rfl ?_) (λhe=>zq rfl ?_)
   ·exact ze (by unfold zcb;rw[hr,hk,he];rfl)
   ·refine zd (zm6 p.leaf.sign kpS (zbv p) p.sig h2.2.1 (by decide) hK) ?_
    exact ze (by unfold zcb;rw[hr,hk,he];simp)
theorem zp3:zab Tryz.prog 29 [.ag p.c] (.r (.b (zcb p))):=by
 refine zaa (T:=Tab) mixed Tab_ok Tryz.func29 rfl (by kernel_rfl) ?_
 obtain⟨h1,h2,h3⟩:=id hp
 have hv:=zam p.init
 have hL:=zew p.leaf
 have hK:(zbv p).length<=500000000:=by simp only[zbv,List.length_append,zar];omega
 refine za rfl rfl ?_
 refine zy (zr3 p) (λhr=>zt rfl ?_) (λhr=>zq rfl ?_)
 ·refine zy (zhr p.init p.leaf.box) (λhe=>?_) (λhe=>?_)
  ·refine zo ?_
   exact ze (by unfold zcb;rw[hr,he];rfl)
  ·refine za rfl rfl ?_
   have hC:=zkb p.leaf [] 0 h2 (by decide) (by omega) (by unfold i64;omega)
   cases hk:zf1 p.leaf [] 0 with
   |false=>
    rw[hk]at hC
    refine Vcall.mk' hC (zj (cr) (zj (Cv.nil 1) (zm _))) ?_
    refine zq rfl (zo ?_)
    exact ze (by unfold zcb;rw[hr,hk];simp[ofC])
   |true=>
    rw[hk]at hC
    refine Vcall.mk' hC (zj (cr) (zj (Cv.nil 1) (zm _))) ?_
    refine zt rfl (zp ?_)
    refine Vdraw.mk' (by kernel_rfl) ?_
    refine za rfl rfl ?_
    refine zd (zdl p hp) ?_
    refine zd (zm6 p.leaf.sign kpS (zbv p) p.sig h2.2.1 (by decide) hK) ?_
    exact ze (by unfold zcb;rw[hr,hk,he];simp)
 ·refine zo ?_
  exact ze (by unfold zcb;rw[hr];rfl)
end
end
section
open Ieee
def fw(s:Bool)(n:Nat):Nat:=double.nearest s n 0
def fl(n:Int):Nat:=fw (decide (n<0)) n.natAbs
end
section
abbrev C2(a b:Int):RV:= .x (.complex .f64 (fl a) (fl b))
abbrev F1(a:Int):RV:= .x (.float .f64 (fl a))
end
section
instance {h k:Nat}{x:Int}:Decidable (inR h k x):=by unfold inR;infer_instance
end
section
abbrev d3r(t:D3):List RV:=[I t.at_,I t.lo,I t.hi]
def ds(l:List D3):RV:= .sl 3 l.length (l.flatMap d3r)
end
section
def nods(l:List Node):RV:= .sl 10 l.length (l.flatMap Node.c)
theorem zg9{l:List Node}{i:Int}{j:Nat}(h:i=j)(hj:j<l.length):((l.flatMap Node.c).drop (i.toNat*10)).take 10=l[j].c:=zzl (f:=Node.c) (sz:=10) (λ_=>rfl) h hj
def nT(t:List Node)(j:Nat):Node:=t.getD j Node.zero
theorem z08{t:List Node}{j:Nat}(hj:j<t.length):t[j]=nT t j:=by simp[nT,hj]
theorem z4p{l:List Node}{i:Int}{j:Nat}(h:i=j)(hj:j<l.length):((l.flatMap Node.c).drop (i.toNat*10)).take 10=(nT l j).c:=by rw[<-z08 hj];exact zg9 h hj
end
section
abbrev z5:Fe:=⟨0,0,0,0,0⟩
structure Lad where
 px:Fe
 pz:Fe
 qx:Fe
 qz:Fe
def Lad.next(b:Bool)(u:Fe)(s:Lad):Lad:=
 match b with
 |true=>⟨(zca s.qx s.qz s.px s.pz u).2.1,(zca s.qx s.qz s.px s.pz u).2.2,(zca s.qx s.qz s.px s.pz u).1.1,(zca s.qx s.qz s.px s.pz u).1.2⟩
 |false=>⟨(zca s.px s.pz s.qx s.qz u).1.1,(zca s.px s.pz s.qx s.qz u).1.2,(zca s.px s.pz s.qx s.qz u).2.1,(zca s.px s.pz s.qx s.qz u).2.2⟩
def ladN(k:List UInt8)(u:Fe):Nat->Lad
 |0=>⟨one,z5,u,one⟩
 |j+1=>(ladN k u j).next (bitE k (254-j)==1) u
theorem zw2(k:List UInt8)(u:Fe):ladN k u 0=⟨one,z5,u,one⟩:=rfl
theorem zn7(k:List UInt8)(u:Fe)(j:Nat):ladN k u (j+1)=(ladN k u j).next (bitE k (254-j)==1) u:=rfl
attribute [irreducible] ladN
def zjr(k:List UInt8)(u:Fe):List UInt8:=((ladN k u 255).px.mul (ladN k u 255).pz.inv).bytes
abbrev pbx(x z:Fe):Ow:= .box [.r (W x.a), .r (W x.b), .r (W x.c), .r (W x.d), .r (W x.e), .r (W z.a), .r (W z.b), .r (W z.c), .r (W z.d), .r (W z.e)]
def ladI(k:List UInt8)(u:Fe)(j:Nat):St:={F:=[(0, .r (bs k)),(3, .own 0),(5, .own 1),(6, .own 2),(7, .r (I ((254-j:Nat):Int)))],O:=[(0,some u.bx),(1,some (pbx (ladN k u j).px (ladN k u j).pz)),(2,some (pbx (ladN k u j).qx (ladN k u j).qz))],nx:=3}
theorem zq2(k:List UInt8)(u:Fe){b:Bool}(h:ladN k u (254+1)=(ladN k u 254).next b u){e:TypeId}:some (Ow.ch e 1 (((((ladN k u 254).next b u).px).mul (((ladN k u 254).next b u).pz).inv).bytes).length ((((((ladN k u 254).next b u).px).mul (((ladN k u 254).next b u).pz).inv).bytes).map U8) true)=some (Ow.ch e 1 (zjr k u).length ((zjr k u).map U8) true):=by
 rw[<-h]
 rfl
set_option maxHeartbeats 4000000 in
theorem zwg(k:List UInt8)(u:Fe)(hk:k.length=32):zab Tryz.prog 172 [bs k, .ag u.v] (bch (zjr k u)):=by
 refine zaa (T:=Tab) mixed Tab_ok Tryz.func172 rfl (by kernel_rfl) ?_
 refine Vcode.scope mixed Tab_ok 0 (ladI k u) (λj=>j<=254) (λj=>254-j) rfl ?_ ?_
 ·refine Vdraw.mk' (by kernel_rfl) ?_
  refine zd zhu ?_
  refine za rfl rfl ?_
  refine zd zhu ?_
  repeat' ((conv=>whnf);first |refine za rfl rfl ?_)
  refine Vquo.i64 254 8 rfl rfl (by omega) (by omega) ?_
  refine zk (by omega) (by omega) rfl (zf (f:=U8 (k.getD (254/8) 0)) (zjj (by omega)) ?_)
  refine Vrem.nat 254 8 rfl rfl (by omega) ?_
  refine Vshr.b _ (254%8) rfl rfl (by omega) ?_
  refine Vbits.and8 _ 1 rfl rfl ?_
  have hs:=zn7 k u 0
  rw[zw2]at hs
  refine zg (λh=>zo ?_) (λh=>zp ?_)
  ·have hb:(bitE k (254-0)==1)=true:=by rw[beq_iff_eq];exact zjh h
   rw[hb]at hs
   refine za rfl rfl ?_
   refine za rfl rfl ?_
   refine za rfl rfl ?_
   refine zd (zl4 u one one z5 u) ?_
   refine zc (m:=253) rfl (by decide) ?_
   refine zq rfl (zo ?_)
   exact⟨1,by decide,zac [(0,0),(1,1),(2,2)] rfl ⟨cr,rfl,rfl,rfl,cr,trivial⟩ ⟨⟨_,_,rfl,cr,_,_,rfl,cr,_,_,rfl,cr,_,_,rfl,cr,_,_,rfl,cr,rfl⟩,by rw[hs];exact⟨_,_,rfl,cr,_,_,rfl,cr,_,_,rfl,cr,_,_,rfl,cr,_,_,rfl,cr,_,_,rfl,cr,_,_,rfl,cr,_,_,rfl,cr,_,_,rfl,cr,_,_,rfl,cr,rfl⟩,by rw[hs];exact⟨_,_,rfl,cr,_,_,rfl,cr,_,_,rfl,cr,_,_,rfl,cr,_,_,rfl,cr,_,_,rfl,cr,_,_,rfl,cr,_,_,rfl,cr,_,_,rfl,cr,_,_,rfl,cr,rfl⟩,trivial⟩⟩
  ·have hb:(bitE k (254-0)==1)=false:=by rw[beq_eq_false_iff_ne];exact zhm h
   rw[hb]at hs
   refine za rfl rfl ?_
   refine za rfl rfl ?_
   refine za rfl rfl ?_
   refine zd (zl4 one z5 u one u) ?_
   refine zc (m:=253) rfl (by decide) ?_
   refine zq rfl (zo ?_)
   exact⟨1,by decide,zac [(0,0),(1,1),(2,2)] rfl ⟨cr,rfl,rfl,rfl,cr,trivial⟩ ⟨⟨_,_,rfl,cr,_,_,rfl,cr,_,_,rfl,cr,_,_,rfl,cr,_,_,rfl,cr,rfl⟩,by rw[hs];exact⟨_,_,rfl,cr,_,_,rfl,cr,_,_,rfl,cr,_,_,rfl,cr,_,_,rfl,cr,_,_,rfl,cr,_,_,rfl,cr,_,_,rfl,cr,_,_,rfl,cr,_,_,rfl,cr,rfl⟩,by rw[hs];exact⟨_,_,rfl,cr,_,_,rfl,cr,_,_,rfl,cr,_,_,rfl,cr,_,_,rfl,cr,_,_,rfl,cr,_,_,rfl,cr,_,_,rfl,cr,_,_,rfl,cr,_,_,rfl,cr,rfl⟩,trivial⟩⟩
 ·intro J hj
  refine Vquo.i64 (254-J) 8 rfl rfl (by omega) (by omega) ?_
  refine zk (by omega) (by omega) rfl (zf (f:=U8 (k.getD ((254-J)/8) 0)) (zjj (by omega)) ?_)
  refine Vrem.nat (254-J) 8 rfl rfl (by omega) ?_
  refine Vshr.b _ ((254-J)%8) rfl rfl (by omega) ?_
  refine Vbits.and8 _ 1 rfl rfl ?_
  have hs:=zn7 k u J
  refine zg (λh=>zo ?_) (λh=>zp ?_)
  ·have hb:(bitE k (254-J)==1)=true:=by rw[beq_iff_eq];exact zjh h
   rw[hb]at hs
   refine za rfl rfl ?_
   refine za rfl rfl ?_
   refine za rfl rfl ?_
   refine zd (zl4 (ladN k u J).qx (ladN k u J).qz (ladN k u J).px (ladN k u J).pz u) ?_
   refine zc (m:=((254-J:Nat):Int)-1) rfl (by omega) ?_
   refine zg (λh=>zo ?_) (λh=>zp ?_)
   ·simp only[zb]at h
    exact⟨J+1,by omega,by omega,zac [(0,0),(1,1),(2,2)] rfl ⟨cr,rfl,rfl,rfl,ze (by congr 1;omega),trivial⟩ ⟨⟨_,_,rfl,cr,_,_,rfl,cr,_,_,rfl,cr,_,_,rfl,cr,_,_,rfl,cr,rfl⟩,by rw[hs];exact⟨_,_,rfl,cr,_,_,rfl,cr,_,_,rfl,cr,_,_,rfl,cr,_,_,rfl,cr,_,_,rfl,cr,_,_,rfl,cr,_,_,rfl,cr,_,_,rfl,cr,_,_,rfl,cr,rfl⟩,by rw[hs];exact⟨_,_,rfl,cr,_,_,rfl,cr,_,_,rfl,cr,_,_,rfl,cr,_,_,rfl,cr,_,_,rfl,cr,_,_,rfl,cr,_,_,rfl,cr,_,_,rfl,cr,_,_,rfl,cr,rfl⟩,trivial⟩⟩
   ·simp only[zb]at h
    obtain rfl:J=254:=by omega
    refine Vdraw.mk' (by kernel_rfl) ?_
    refine za rfl rfl ?_
    refine za rfl rfl ?_
    refine zd (zjl (zca (ladN k u 254).qx (ladN k u 254).qz (ladN k u 254).px (ladN k u 254).pz u).2.2) ?_
    refine zd (zaz (zca (ladN k u 254).qx (ladN k u 254).qz (ladN k u 254).px (ladN k u 254).pz u).2.1 (zca (ladN k u 254).qx (ladN k u 254).qz (ladN k u 254).px (ladN k u 254).pz u).2.2.inv) ?_
    refine zd (zjk _) ?_
    exact zq2 k u hs
  ·have hb:(bitE k (254-J)==1)=false:=by rw[beq_eq_false_iff_ne];exact zhm h
   rw[hb]at hs
   refine za rfl rfl ?_
   refine za rfl rfl ?_
   refine za rfl rfl ?_
   refine zd (zl4 (ladN k u J).px (ladN k u J).pz (ladN k u J).qx (ladN k u J).qz u) ?_
   refine zc (m:=((254-J:Nat):Int)-1) rfl (by omega) ?_
   refine zg (λh=>zo ?_) (λh=>zp ?_)
   ·simp only[zb]at h
    exact⟨J+1,by omega,by omega,zac [(0,0),(1,1),(2,2)] rfl ⟨cr,rfl,rfl,rfl,ze (by congr 1;omega),trivial⟩ ⟨⟨_,_,rfl,cr,_,_,rfl,cr,_,_,rfl,cr,_,_,rfl,cr,_,_,rfl,cr,rfl⟩,by rw[hs];exact⟨_,_,rfl,cr,_,_,rfl,cr,_,_,rfl,cr,_,_,rfl,cr,_,_,rfl,cr,_,_,rfl,cr,_,_,rfl,cr,_,_,rfl,cr,_,_,rfl,cr,_,_,rfl,cr,rfl⟩,by rw[hs];exact⟨_,_,rfl,cr,_,_,rfl,cr,_,_,rfl,cr,_,_,rfl,cr,_,_,rfl,cr,_,_,rfl,cr,_,_,rfl,cr,_,_,rfl,cr,_,_,rfl,cr,_,_,rfl,cr,rfl⟩,trivial⟩⟩
   ·simp only[zb]at h
    obtain rfl:J=254:=by omega
    refine Vdraw.mk' (by kernel_rfl) ?_
    refine za rfl rfl ?_
    refine za rfl rfl ?_
    refine zd (zjl (zca (ladN k u 254).px (ladN k u 254).pz (ladN k u 254).qx (ladN k u 254).qz u).1.2) ?_
    refine zd (zaz (zca (ladN k u 254).px (ladN k u 254).pz (ladN k u 254).qx (ladN k u 254).qz u).1.1 (zca (ladN k u 254).px (ladN k u 254).pz (ladN k u 254).qx (ladN k u 254).qz u).1.2.inv) ?_
    refine zd (zjk _) ?_
    exact zq2 k u hs
attribute [irreducible] zjr
end
section
def baS(l:List UInt8):ByteArray:=⟨l.toArray⟩
theorem zu3(l:List UInt8):strOfNums (nums l)=baS l:=by
 unfold strOfNums baS nums
 rw[List.map_map]
 congr 2
 exact(List.map_congr_left (λx _=>by simp)).trans (List.map_id l)
theorem Vfun.str{S:St}{o:Oper}{x:Operand}{l:List UInt8}{K:RV->Prop}(hop:o.op= .convert 25 9 x)(hx:oprs S [x]=some [bs l])(hK:K (Str (baS l))):Vfun Tryz.prog S o [x] K:=
 ⟨_,hx,_,λa w k h=>by
  simp only[RV.partsAt,List.map_cons,List.map_nil]at h
  obtain⟨u,r,e,hat,_⟩:=h
  obtain⟨p,rfl,hp⟩:=zcv hat
  have hv:=(List.cons.inj e).1
  refine⟨.string (baS l),?_,by simp only[RV.at_]⟩
  have hc:=zm0 p l w hp
  rw[zu3]at hc
  simp[execOp,hop,hv,hc],hK⟩
def strs(l:List ByteArray):RV:= .sl 1 l.length (l.map Str)
def catS(l:List ByteArray):List UInt8:=l.flatMap sB
def z5t(l:List ByteArray):Nat->St
 |0=>{F:=[(3, .r (.x (.slice none 0 0))),(6, .r (strs l)),(7, .r (I l.length)),(8, .r (I ((0:Nat):Int)))],O:=[],nx:=0}
 |i+1=>{F:=[(3, .own 0),(6, .r (strs l)),(7, .r (I l.length)),(8, .r (I ((i+1:Nat):Int)))],O:=[(0,some (.ch 5 1 (catS (l.take (i+1))).length ((catS (l.take (i+1))).map U8) true))],nx:=1}
theorem zn0{l:List ByteArray}{i:Nat}(hi:i<l.length):catS (l.take (i+1))=catS (l.take i)++sB l[i]:=by
 rw[List.take_add_one,List.getElem?_eq_getElem hi]
 show(l.take i++[l[i]]).flatMap sB=_
 rw[List.flatMap_append]
 simp only[catS,List.flatMap_cons,List.flatMap_nil,List.append_nil]
theorem z1t{l:List ByteArray}{i:Nat}:(catS (l.take i)).length<=(catS l).length:=by
 have h:catS l=catS (l.take i)++catS (l.drop i):=by
  unfold catS
  rw[<-List.flatMap_append,List.take_append_drop]
 rw[h,List.length_append]
 omega
theorem zvz(l:List ByteArray)(h0:l≠[])(hl:(catS l).length<=10000000000)(hn:l.length<=1000000000):zab Tryz.prog 168 [strs l] (bch (catS l)):=by
 refine zaa (T:=Tab) mixed Tab_ok Tryz.func168 rfl (by kernel_rfl) ?_
 refine zw (z5t l) (λi=>i<=l.length) (λi=>l.length-i) 0 (by omega) (zac [] rfl ⟨cr,cr,cr,cr,trivial⟩ trivial) ?_
 intro i hi
 have hpos:0<l.length:=by cases l;exact absurd rfl h0;simp
 have hle:= @z1t l (i+1)
 rcases i with _ |i
 ·refine zq (decide_eq_true (by omega)) (zo ?_)
  refine zk (by omega) (by omega) (zcc (j:=0) rfl hpos) (zf rfl ?_)
  have hs:=zn0 hpos
  rw[hs]at hle
  simp only[List.length_append,sB,Array.length_toList]at hle
  refine Vstep.appS (s:=l[0]) Tab_ok rfl rfl rfl rfl ⟨rfl,rfl⟩ rfl rfl rfl rfl rfl (by show 0+l[0].data.size<=_;omega) ?_
  refine zc (m:=((0+1:Nat):Int)) rfl (by decide) ?_
  refine⟨0+1,by omega,by omega,zac [(0,0)] rfl ⟨rfl,cr,cr,cr,trivial⟩ ⟨⟨rfl,rfl,?_,rfl,Cvs.of_eq ?_⟩,trivial⟩⟩
  ·rw[hs];simp[catS,sB]
  ·rw[hs];rfl
 ·refine zg (λh=>zo ?_) (λh=>zp ?_)
  ·simp only[zb]at h
   have hlt:i+1<l.length:=by omega
   refine zk (by omega) (by omega) (zcc (j:=i+1) rfl hlt) (zf rfl ?_)
   have hs:=zn0 hlt
   rw[hs]at hle
   simp only[List.length_append,sB,Array.length_toList]at hle
   refine Vstep.appS (s:=l[i+1]) Tab_ok rfl rfl rfl rfl ⟨rfl,rfl⟩ rfl rfl rfl rfl rfl (by show _+l[i+1].data.size<=_;omega) ?_
   refine zc (m:=((i+1+1:Nat):Int)) (by omega) (by omega) ?_
   refine⟨i+1+1,by omega,by omega,zac [(0,1)] rfl ⟨rfl,cr,cr,cr,trivial⟩ ⟨⟨rfl,rfl,?_,rfl,Cvs.of_eq ?_⟩,trivial⟩⟩
   ·rw[hs,List.length_append];rfl
   ·rw[hs,List.map_append]
  ·simp only[zb]at h
   have hl':i+1=l.length:=by omega
   exact zef (by rw[hl',List.take_length])
def verB:List UInt8:=[72,80,75,69,45,118,49]
def extB(name salt label secret:List UInt8):List UInt8:=macB salt (verB++name++label++secret)
def epdB(name secret label info:List UInt8)(n:Nat):List UInt8:=exp1 secret (beB 2 n++verB++name++label++info) n
theorem zt6(salt secret:List UInt8)(h1:salt.length<=1000000000)(h2:secret.length<=10000000000):zab Tryz.prog 169 [bs salt,bs secret] (bch (macB salt secret)):=by
 refine zaa (T:=Tab) mixed Tab_ok Tryz.func169 rfl (by kernel_rfl) ?_
 refine zu ?_
 refine zd (z0u salt [secret] h1 (by simp;omega)) ?_
 exact zef (by simp)
theorem zt5(name label:ByteArray)(salt secret:List UInt8)(h1:salt.length<=1000000000)(h2:secret.length<=1000000000)(h3:name.size<=1000)(h4:label.size<=1000):
  zab Tryz.prog 97 [Str name,bs salt,Str label,bs secret] (bch (extB (sB name) salt (sB label) secret)):=by
 refine zaa (T:=Tab) mixed Tab_ok Tryz.func97 rfl (by kernel_rfl) ?_
 have e:catS [⟨#[72,80,75,69,45,118,49]⟩,name,label,baS secret]=verB++sB name++sB label++secret:=by simp[catS,verB,baS];rfl
 have hl:(catS [⟨#[72,80,75,69,45,118,49]⟩,name,label,baS secret]).length<=10000000000:=by
  rw[e];simp only[List.length_append,sB,Array.length_toList];show 7+name.size+label.size+_<=_;omega
 refine Vfun.str rfl rfl (zu ?_)
 refine zd (zvz [⟨#[72,80,75,69,45,118,49]⟩,name,label,baS secret] (by simp) hl (by simp)) ?_
 refine zd (zt6 salt _ h1 (by omega)) ?_
 exact zef (by rw[e];rfl)
theorem zvy(name label:ByteArray)(secret info:List UInt8)(n:Nat)(hn:1<=n/\n<=32)(h1:secret.length<=1000000000)(h2:info.length<=1000000)(h3:name.size<=1000)(h4:label.size<=1000):
  zab Tryz.prog 96 [Str name,bs secret,Str label,bs info,I n] (.r (bs (epdB (sB name) secret (sB label) info n))):=by
 refine zaa (T:=Tab) mixed Tab_ok Tryz.func96 rfl (by kernel_rfl) ?_
 have e:catS [baS ([]++beB 2 n),⟨#[72,80,75,69,45,118,49]⟩,name,label,baS info]=beB 2 n++verB++sB name++sB label++info:=by simp[catS,verB,baS];rfl
 have hb:(beB 2 n).length=2:=zar 2 n
 have hl:(catS [baS ([]++beB 2 n),⟨#[72,80,75,69,45,118,49]⟩,name,label,baS info]).length<=1000000000:=by
  rw[e];simp only[List.length_append,sB,Array.length_toList,hb];show 2+7+name.size+label.size+_<=_;omega
 refine Vint.u64 n rfl (by omega) ?_
 refine Vcall.mk' (zeu [] 2 n (by simp) (.inr (.inl rfl))) (zj (Cv.nil _) (zm _)) ?_
 refine Vfun.str rfl rfl ?_
 refine Vfun.str rfl rfl (zu ?_)
 refine zd (zvz [baS ([]++beB 2 n),⟨#[72,80,75,69,45,118,49]⟩,name,label,baS info] (by simp) (by omega) (by simp)) ?_
 refine zd (zn3 secret _ n hn h1 hl) ?_
 rw[e]
 exact cr
end
section
def ztw(k p:List UInt8):List UInt8:=zjr (zf2 k) (Fe.of p)
def nine:List UInt8:=Fe.bytes ⟨9&&&msk,shrW 9 51,0,0,0⟩
def zf3(k:List UInt8):List UInt8:=ztw k nine
theorem zzr:nine.length=32:=Fe.bytes_len _
attribute [irreducible] nine
theorem z16(k p:List UInt8)(hk:k.length=32)(hp:p.length=32):zab Tryz.prog 102 [bs k,bs p] (.r (.tu [bs (ztw k p),Er 0])):=by
 refine zaa (T:=Tab) mixed Tab_ok Tryz.func102 rfl (by kernel_rfl) ?_
 refine zt (by simp[hk]) (zp ?_)
 refine zt (by simp[hp]) (zp ?_)
 refine zd (z14 k hk) ?_
 refine zd (h_of p hp) ?_
 refine zd (zwg (zf2 k) (Fe.of p) ((zln k).trans hk)) ?_
 exact⟨_,rfl,cr⟩
theorem z4f(k:List UInt8)(hk:k.length=32):zab Tryz.prog 50 [bs k] (.r (.tu [bs (zf3 k),Er 0])):=by
 refine zaa (T:=Tab) mixed Tab_ok Tryz.func50 rfl (by kernel_rfl) ?_
 refine zd (zgg 9) ?_
 refine zd (zjk ⟨9&&&msk,shrW 9 51,0,0,0⟩) ?_
 refine Vcall.mk' (z16 k nine hk zzr) (zj (cr) (zj (ze (by unfold nine;rfl)) Cvs.nil)) ?_
 exact⟨_,rfl,cr⟩
def kemB:List UInt8:=[75,69,77,0,32]
def zdq(seed:List UInt8):List UInt8:=epdB kemB (extB kemB [] [100,107,112,95,112,114,107] seed) [115,107] [] 32
theorem zyj(n s l i:List UInt8){m:Nat}(h:m<=32):(epdB n s l i m).length=m:=zkr _ _ h
theorem zyl(n s l i:List UInt8):(extB n s l i).length=32:=zey _ _
theorem zi0(seed:List UInt8):(zdq seed).length=32:=zyj _ _ _ _ (by omega)
theorem zm7(seed:List UInt8)(hs:seed.length<=1000000000):zab Tryz.prog 47 [bs seed] (.r (.tu [bs (zdq seed),bs (zf3 (zdq seed))])):=by
 refine zaa (T:=Tab) mixed Tab_ok Tryz.func47 rfl (by kernel_rfl) ?_
 have hx:(extB kemB [] [100,107,112,95,112,114,107] seed).length<=1000000000:=by rw[zyl];omega
 refine Vcall.mk' (zt5 ⟨#[75,69,77,0,32]⟩ ⟨#[100,107,112,95,112,114,107]⟩ [] seed (by simp) hs (by decide) (by decide)) (zj (cr) (zj (Cv.nil 1) (zm _))) ?_
 refine Vcall.mk' (zvy ⟨#[75,69,77,0,32]⟩ ⟨#[115,107]⟩ (extB kemB [] [100,107,112,95,112,114,107] seed) [] 32 (by omega) hx (by simp) (by decide) (by decide)) (zj (cr) (zj (cr) (zj (cr) (zj (Cv.nil 1) (zm _))))) ?_
 refine zd (z4f (zdq seed) (zi0 seed)) ?_
 exact⟨_,rfl,cr⟩
theorem zkw(s l c:List UInt8){n:Nat}(h:n<=32):(labB s l c n).length=n:=zkr _ _ h
def z6i:List UInt8:=[112,97,116,104]
end
section
def wayS:List UInt8:=[119,97,121]
def secN(seed:List UInt8):Nat->List UInt8
 |0=>labB seed wayS [] 32
 |k+1=>labB (secN seed k) z6i [] 32
attribute [irreducible] secN
end
end Go.Proofs.YtddokcpcpoihmaaGreat.Sx
