import Derived.Test.YtkegaaonpekkgaaGreatZHg
import Derived.Test.YtkegaaonpekkgaaGreatZHp
import Derived.Test.YtkegaaonpekkgaaGreatZMe
import Derived.Laws.ComplexArith
import Derived.Test.YtkegaaonpekkgaaGreatZSxY
import Derived.Test.YtkegaaonpekkgaaGreatZKd
import Derived.Laws.Cover3
import Derived.Test.YtkegaaonpekkgaaGreatZBytes
import Derived.Shelf.RegionOpenPlain
import Derived.Lib.Walk
import Derived.Lib.SliceRun
import Derived.Lib.Overlaps
import Derived.Laws.Externs
import Derived.Laws.IdiomCopy
import Derived.Lib.AppendZerosOnto
import Derived.Laws.NewBlocks
import Derived.Test.YtkegaaonpekkgaaGreatZFs
namespace Go.Proofs.YtkegaaonpekkgaaGreat.Sx
open Go.RowKit
abbrev boxS:ByteArray:=⟨#[98,111,120]⟩
abbrev nl:RV:= .x (.slice none 0 0)
theorem zex(seed label text:List UInt8):(zh8 seed label text).length=64:=zdub _ _
def u64N(n:Int):Nat:=(n%18446744073709551616).toNat
theorem zapb(x:Int)(h:i64 x):IntKind.u64.wrap x=((u64N x:Nat):Int):=by
 unfold i64 at h
 unfold IntKind.wrap u64N
 simp only[IntKind.bits,IntKind.signed]
 simp
 omega
def zif(l:Leaf)(group:List UInt8)(at_:Int):List UInt8:=if l.src.toNat=1 then zbc l else zbc l++vecB group++beB 4 (u64N at_)
def zfn(l:Leaf)(at_:Int):Bool:=decide (l.src.toNat=1)||(decide (0<=at_)&&decide (at_<65536))
theorem zjn(l:Leaf):(zbc l).length<=l.box.length+l.sign.length+l.ident.length+l.parent.length+17:=by
 have v1:=zag l.box
 have v2:=zag l.sign
 have v3:=zag l.ident
 have v4:=zag l.parent
 unfold zbc
 split<;>simp only[aL,List.length_cons,List.length_nil]<;>omega
theorem zd2b(l:Leaf)(group:List UInt8)(at_:Int):(zif l group at_).length<=l.box.length+l.sign.length+l.ident.length+l.parent.length+group.length+25:=by
 have h:=zjn l
 have v:=zag group
 have b:=zak 4 (u64N at_)
 unfold zif
 split
 ·omega
 ·simp only[aL]
  omega
theorem zj1b(l:Leaf)(group:List UInt8)(at_:Int)(hl:l.fit)(hg:group.length<=1000000000)(ha:i64 at_):aG 130 [.ag l.c,bs group,I at_] (.r (.tu [bs (zif l group at_), .b (zfn l at_)])):=by
 refine aT Tryz.func130 rfl ?_
 obtain⟨h1,h2,h3,h4,h5⟩:=hl
 have hA:=zjn l
 have hv:=zag group
 refine za rfl rfl ?_
 refine Vcall.mk' (zls [] l (by simp) ⟨h1,h2,h3,h4,h5⟩) (zk (Cv.nil _) (zn _)) ?_
 rw[List.nil_append]
 refine zh (λh=>zp ?_) (λh=>zq ?_)
 ·simp only[zb]at h
  have h':l.src.toNat=1:=by omega
  have e1:zif l group at_=zbc l:=if_pos h'
  have e2:zfn l at_=true:=by simp[zfn,h']
  rw[e1,e2]
  exact⟨_,rfl,cr⟩
 ·simp only[zb]at h
  have h':l.src.toNat≠1:=by omega
  have e1:zif l group at_=zbc l++vecB group++beB 4 (u64N at_):=if_neg h'
  have e2:zfn l at_=(decide (0<=at_)&&decide (at_<65536)):=by simp[zfn,h']
  refine ze (zbl (zbc l) group (by omega) (by omega)) ?_
  refine Vint.n ((u64N at_:Nat):Int) (zapb at_ ha).symm ?_
  refine ze (zet (zbc l++vecB group) 4 (u64N at_) (by rw[aL];omega) (.inr (.inr (.inl rfl)))) ?_
  rw[e1,e2]
  refine zh (λh0=>?_) (λh0=>?_)
  ·simp only[zb]at h0
   have h0':0<=at_:=h0
   refine Vcmp.mk' (m:=decide (at_<65536)) rfl ?_
   exact⟨_,rfl,zf (by rw[decide_eq_true h0'];rfl)⟩
  ·simp only[zb]at h0
   have h0': ¬0<=at_:=h0
   exact⟨_,rfl,zf (by rw[decide_eq_false h0'];rfl)⟩
def zS64:List UInt8:=List.replicate 64 0
def zngb:List UInt8:=[76,101,97,102,78,111,100,101,84,66,83]
def Leaf.with(l:Leaf)(s:List UInt8):Leaf:={l with sig:=s}
def zep(l:Leaf)(seed:List UInt8)(at_:Int):Nat:=if(l.with zS64).right=true then if zfn l at_=true then if seed.length=32 then 0 else 1 else 1 else 3
def slOk(l:Leaf)(seed group:List UInt8)(at_:Int):Leaf:=l.with (zh8 seed zngb (zif l group at_))
def zid(l:Leaf)(seed group:List UInt8)(at_:Int):RV:=if zep l seed at_=0 then .tu [.ag (slOk l seed group at_).c,Er 0]else .tu [.ag zl.c,Er (zep l seed at_)]
theorem zts:Cv (.ag [.x (.slice none 0 0), .x (.slice none 0 0), .x (.slice none 0 0), .i .u8 0, .x (.slice none 0 0), .x (.slice none 0 0)]) (.ag zl.c):=Cv.ag (zk (Cv.nil 1) (zk (Cv.nil 1) (zk (Cv.nil 1) (zk (cr) (zk (Cv.nil 1) (zk (Cv.nil 1) Cvs.nil))))))
theorem zjk:(List.replicate ((64:Int).toNat) ([Value.int .u8 0].map ofC)).flatten=zS64.map U8:=by simp[ofC,zS64]
abbrev lsS:ByteArray:=⟨#[76,101,97,102,78,111,100,101,84,66,83]⟩
section
variable (l:Leaf) (z seed group:List UInt8) (at_:Int) (hl:l.fit) (hz:zS64=z)
include hl hz
set_option maxRecDepth 100000 in
theorem z8r(hr:(l.with z).right=false):aG 51 [.ag l.c,bs seed,bs group,I at_] (.r (.tu [.ag zl.c,Er 3])):=by
 refine aT Tryz.func51 rfl ?_
 have hzl:64=z.length:=by rw[<-hz];decide
 refine za rfl rfl ?_
 refine ze (zb1 l hl) ?_
 refine⟨rfl,by decide,by decide,by decide,z.length,z.map U8,hzl,by rw[zjk,hz],zw ?_⟩
 refine za rfl rfl ?_
 refine Vcall.bool (zf0 (l.with z)) (λhr'=>absurd hr' (by rw[hr];simp)) (λ_=>zt rfl (zp ?_))
 refine za rfl rfl ?_
 exact⟨_,rfl,Cv.tu (zk zts (zn _))⟩
variable (T:List UInt8) (β:Bool) (hr:(l.with z).right=true) (hT:aG 130 [.ag (l.with z).c,bs group,I at_] (.r (.tu [bs T, .b β])))
include hr hT
set_option maxRecDepth 100000 in
theorem zcob(hβ:β=false):aG 51 [.ag l.c,bs seed,bs group,I at_] (.r (.tu [.ag zl.c,Er 1])):=by
 subst hβ
 refine aT Tryz.func51 rfl ?_
 have hzl:64=z.length:=by rw[<-hz];decide
 refine za rfl rfl ?_
 refine ze (zb1 l hl) ?_
 refine⟨rfl,by decide,by decide,by decide,z.length,z.map U8,hzl,by rw[zjk,hz],zw ?_⟩
 refine za rfl rfl ?_
 refine Vcall.bool (zf0 (l.with z)) (λ_=>zu rfl (zq ?_)) (λhr'=>absurd hr' (by rw[hr];simp))
 refine za rfl rfl ?_
 refine ze hT ?_
 refine zt rfl (zp ?_)
 refine za rfl rfl ?_
 exact⟨_,rfl,Cv.tu (zk zts (zn _))⟩
set_option maxRecDepth 100000 in
theorem zcpb(q:List UInt8)(e:Nat)(hβ:β=true)(hq:aG 53 [bs seed,Str lsS,bs T] (.r (.tu [bs q,Er e])))(he:e=1):aG 51 [.ag l.c,bs seed,bs group,I at_] (.r (.tu [.ag zl.c,Er 1])):=by
 subst hβ;subst he
 refine aT Tryz.func51 rfl ?_
 have hzl:64=z.length:=by rw[<-hz];decide
 refine za rfl rfl ?_
 refine ze (zb1 l hl) ?_
 refine⟨rfl,by decide,by decide,by decide,z.length,z.map U8,hzl,by rw[zjk,hz],zw ?_⟩
 refine za rfl rfl ?_
 refine Vcall.bool (zf0 (l.with z)) (λ_=>zu rfl (zq ?_)) (λhr'=>absurd hr' (by rw[hr];simp))
 refine za rfl rfl ?_
 refine ze hT ?_
 refine zu rfl (zq ?_)
 refine ze hq ?_
 refine zt rfl (zp ?_)
 refine za rfl rfl ?_
 exact⟨_,rfl,Cv.tu (zk zts (zn _))⟩
set_option maxRecDepth 100000 in
theorem zgzb(q:List UInt8)(hβ:β=true)(hq:aG 53 [bs seed,Str lsS,bs T] (.r (.tu [bs q,Er 0]))):aG 51 [.ag l.c,bs seed,bs group,I at_] (.r (.tu [.ag (l.with q).c,Er 0])):=by
 subst hβ
 refine aT Tryz.func51 rfl ?_
 have hzl:64=z.length:=by rw[<-hz];decide
 refine za rfl rfl ?_
 refine ze (zb1 l hl) ?_
 refine⟨rfl,by decide,by decide,by decide,z.length,z.map U8,hzl,by rw[zjk,hz],zw ?_⟩
 refine za rfl rfl ?_
 refine Vcall.bool (zf0 (l.with z)) (λ_=>zu rfl (zq ?_)) (λhr'=>absurd hr' (by rw[hr];simp))
 refine za rfl rfl ?_
 refine ze hT ?_
 refine zu rfl (zq ?_)
 refine ze hq ?_
 refine zu rfl (zq ?_)
 refine za rfl rfl ?_
 refine za rfl rfl ?_
 exact⟨_,rfl,cr⟩
end
theorem zrs(l:Leaf)(seed group:List UInt8)(at_:Int)(hl:l.fit)(hg:group.length<=100000000)(hb:l.box.length+l.sign.length+l.ident.length+l.parent.length<=100000000)(ha:i64 at_):
  aG 51 [.ag l.c,bs seed,bs group,I at_] (.r (zid l seed group at_)):=by
 have hl':=hl
 obtain⟨h1,h2,h3,h4,h5⟩:=hl'
 have hf:(l.with zS64).fit:=⟨h1,h2,h3,h4,by show zS64.length<=_;decide⟩
 have ht:=zd2b l group at_
 have hT:aG 130 [.ag (l.with zS64).c,bs group,I at_] (.r (.tu [bs (zif l group at_), .b (zfn l at_)])):=zj1b (l.with zS64) group at_ hf (by omega) ha
 have herr: ∀e:Nat,zep l seed at_=e->e≠0->zid l seed group at_= .tu [.ag zl.c,Er e]:=λe h h0=>by rw[zid,h,if_neg h0]
 cases hr:(l.with zS64).right with
 |false=>
  rw[herr 3 (by unfold zep;rw[if_neg (by rw[hr];simp)]) (by decide)]
  exact z8r l zS64 seed group at_ hl rfl hr
 |true=>
  cases ho:zfn l at_ with
  |false=>
   rw[herr 1 (by unfold zep;rw[if_pos hr,if_neg (by rw[ho];simp)]) (by decide)]
   exact zcob l zS64 seed group at_ hl rfl _ _ hr hT ho
  |true=>
   by_cases hs:seed.length=32
   ·have hS:zid l seed group at_= .tu [.ag (slOk l seed group at_).c,Er 0]:=by
     have:zep l seed at_=0:=by unfold zep;rw[if_pos hr,if_pos ho,if_pos hs]
     rw[zid,if_pos this]
    rw[hS]
    exact zgzb l zS64 seed group at_ hl rfl _ _ hr hT _ ho (zs9 seed lsS (zif l group at_) hs (by decide) (by omega))
   ·rw[herr 1 (by unfold zep;rw[if_pos hr,if_pos ho,if_neg hs]) (by decide)]
    exact zcpb l zS64 seed group at_ hl rfl _ _ hr hT _ _ ho (z0t seed lsS (zif l group at_) hs (by decide) (by omega)) rfl
section
variable {P:Program} {S:St} {o:Oper}
theorem Vstep.callS0{t:Nat}{ts:Array TypeId}{f:FuncId}{rvs:List RV}{r:RV}{K:St->Prop}(hop:o.op= .call {callee:= .value (.tmp t),args:= #[],argTypes:=ts}) (hf:fget S.F t=some (.r (.s (funS f rvs)))) (hg:zab P f rvs (.r r)) (hK:newK S o.dst (.r r) none K):Vstep P S o K:=by
 rw[zaw]at hK
 refine Vstep.one (λB N a w k Q ⟨g,hs⟩ hd=>?_) hK
 have hfv:=(hs.facts t _ hf).2
 simp only[TF.at_,RV.at_]at hfv
 obtain⟨cap,e,hp⟩:=hfv
 have:=zh1 (o:=o) (Q:=Q) (K:=λf ow=>f= .r r/\ow=none) hs hp (zn rvs) hg (by
  have e2:a.eval (.tmp t)= .func (.func f) #[] cap:=by
   have:a.eval (.tmp t)=a.tmps.getD t undef:=by simp[Act.eval]
   rw[this,e]
  simp[execOp,hop,resolve,e2,Deferred.ofValue,invoke]) ⟨rfl,rfl⟩
 refine Oper.wp_mono ?_ this
 rintro a' w' ⟨f',ow,u,k',⟨rfl,rfl⟩,rfl,hl⟩
 exact⟨k',hl.sat hs hd⟩
end
def zwq(β:Bool)(l:List UInt8):RV:=cond β (.tu [bs l,Er 0]) (.tu [bs [],Er 3])
theorem znm(β:Bool)(f:FuncId)(rvs:List RV)(l:List UInt8)(hg:β=true->aG f rvs (.r (bs l))):aG 131 [.b β, .s (funS f rvs)] (.r (zwq β l)):=by
 refine aT Tryz.func131 rfl ?_
 cases β with
 |false=>
  refine zt rfl (zp ?_)
  exact⟨_,rfl,Cv.tu (zk (Cv.nil 1) (zn _))⟩
 |true=>
  refine zu rfl (zq ?_)
  refine Vstep.callS0 rfl rfl (hg rfl) ?_
  exact⟨_,rfl,cr⟩
theorem zi9(l:Leaf):(zdl l).length<=l.box.length+l.sign.length+l.ident.length+l.parent.length+l.sig.length+21:=by
 have:=zjn l
 have:=zag l.sig
 rw[zdl,aL]
 omega
theorem znk(l:Leaf)(hl:l.fit):aG 333 [.ag l.c] (.r (zwq l.right (zdl l))):=by
 refine aT Tryz.func333 rfl ?_
 have hA:=zjn l
 obtain⟨h1,h2,h3,h4,h5⟩:=id hl
 refine za rfl rfl ?_
 have hg:=zf0 l
 cases hr:l.right with
 |true=>
  rw[hr]at hg
  refine ze hg ?_
  refine zu rfl (zq ?_)
  refine aV ?_
  refine za rfl rfl ?_
  refine Vcall.mk' (zls [] l (by simp) hl) (zk (Cv.nil _) (zn _)) ?_
  rw[List.nil_append]
  refine ze (zbl (zbc l) l.sig (by omega) (by omega)) ?_
  exact⟨_,rfl,cr⟩
 |false=>
  rw[hr]at hg
  refine ze hg ?_
  refine zt rfl (zp ?_)
  exact⟨_,rfl,Cv.tu (zk (Cv.nil 1) (zn _))⟩
theorem znh(l:Leaf)(hl:l.fit)(hr:l.right=true):aG 226 [.ag l.c] (.r (bs (zdl l))):=by
 refine aT Tryz.func226 rfl ?_
 have h:=znk l hl
 rw[hr]at h
 refine za rfl rfl ?_
 refine ze h ?_
 exact cr
theorem zni(l:Leaf)(s:UInt8)(hl:l.fit):aG 225 [.ag l.c,U8 s] (.r (.b (l.right&&decide (l.src=s)))):=by
 refine aT Tryz.func225 rfl ?_
 have h:=znk l hl
 refine za rfl rfl ?_
 cases hr:l.right with
 |true=>
  rw[hr]at h
  refine ze h ?_
  refine zt rfl ?_
  refine Vcmp.mk' (m:=decide (l.src=s)) ?_ ?_
  ·rw[Bool.eq_iff_iff]
   simp only[zb,Int.natCast_inj,UInt8.toNat_inj]
  ·exact zf (by simp)
 |false=>
  rw[hr]at h
  refine ze h ?_
  refine zu rfl ?_
  exact cr
def PackP.right(p:PackP):Bool:=decide (p.init.length=32)&&((p.leaf.right&&decide (p.leaf.src=1))&&decide (p.sig.length=64))
def zgj(p:PackP):List UInt8:=(beB 2 1++beB 2 1)++vecB p.init++zdl p.leaf
def PackP.fit(p:PackP):Prop:=p.init.length<=1000000/\p.leaf.fit/\p.sig.length<=1000000
theorem zgsb(p:PackP)(hp:p.fit):aG 132 [.ag p.c] (.r (.b p.right)):=by
 refine aT Tryz.func132 rfl ?_
 have h:=zni p.leaf 1 hp.2.1
 refine zh (λh1=>?_) (λh1=>?_)
 ·simp only[zb]at h1
  refine za rfl rfl ?_
  have h1':p.init.length=32:=by omega
  cases hr:(p.leaf.right&&decide (p.leaf.src=1))with
  |true=>
   rw[hr]at h
   refine ze h ?_
   refine Vcmp.mk' (m:=decide (p.sig.length=64)) ?_ ?_
   ·rw[Bool.eq_iff_iff]
    simp only[zb]
    omega
   ·exact zf (by unfold PackP.right;rw[hr,decide_eq_true h1'];simp)
  |false=>
   rw[hr]at h
   refine ze h ?_
   exact zf (by unfold PackP.right;rw[hr];simp[ofC])
 ·simp only[zb]at h1
  have h1': ¬p.init.length=32:=by omega
  exact zf (by unfold PackP.right;rw[decide_eq_false h1'];rfl)
theorem zfi(l:List UInt8)(size m:Nat)(hl:l.length<=1000000000)(hs:size=1\/size=2\/size=4\/size=8):aG 172 [bs l,I size, .i .u64 m] (bch (l++beB size m)):=by
 refine aT Tryz.func172 rfl ?_
 refine ze (zet l size m (by omega) hs) ?_
 exact rfl
theorem zev(l m:List UInt8)(hl:l.length<=1000000000)(hm:m.length<=1000000000):aG 171 [bs l,bs m] (bch (l++vecB m)):=by
 refine aT Tryz.func171 rfl ?_
 refine ze (zbl l m (by omega) (by omega)) ?_
 exact rfl
theorem z0u(p:PackP)(hp:p.fit)(hr:p.leaf.right=true):aG 134 [.ag p.c] (.r (bs (zgj p))):=by
 refine aT Tryz.func134 rfl ?_
 obtain⟨h1,h2,h3⟩:=hp
 have hv:=zag p.init
 have hL:=zi9 p.leaf
 obtain⟨k1,k2,k3,k4,k5⟩:=id h2
 refine Vcall.mk' (zfi [] 2 1 (by simp) (.inr (.inl rfl))) (zk (Cv.nil _) (zn _)) ?_
 rw[List.nil_append]
 refine ze (zfi (beB 2 1) 2 1 (by rw[zak];omega) (.inr (.inl rfl))) ?_
 refine aV ?_
 refine ze (zev (beB 2 1++beB 2 1) p.init (by rw[aL,zak];omega) (by omega)) ?_
 refine za rfl rfl ?_
 refine ze (znh p.leaf h2 hr) ?_
 refine Vapp.mk' (j:=(zgj p).length) (zs:=(zgj p).map U8) (by simp only[maxLen,aL,zak];omega) (by simp only[aL,zak];show(_+_)*1<=_;omega) (by simp only[zgj,aL]) (by simp only[zgj,List.map_append]) ?_
 exact cr
theorem z0v(p:PackP)(hp:p.fit)(hr:p.leaf.right=true):aG 133 [.ptr p.c] (.r (bs (zgj p))):=by
 refine aT Tryz.func133 rfl ?_
 refine za rfl rfl ?_
 refine ze (z0u p hp hr) ?_
 exact cr
theorem PackP.right_leaf{p:PackP}(h:p.right=true):p.leaf.right=true:=by
 unfold PackP.right at h
 simp only[Bool.and_eq_true]at h
 exact h.2.1.1
theorem z43(p:PackP)(hp:p.fit):aG 52 [.ag p.c] (.r (zwq p.right (zgj p))):=by
 refine aT Tryz.func52 rfl ?_
 refine za rfl rfl ?_
 refine ze (zgsb p hp) ?_
 refine Vstep.sub (zcq (id:=0) (t:=1) p.c rfl rfl) (Vstep.mkfunS rfl rfl ?_)
 refine ze (znm p.right _ _ (zgj p) λh=>z0v p hp (PackP.right_leaf h)) ?_
 unfold zwq
 cases p.right with
 |true=>exact⟨_,rfl,cr⟩
 |false=>exact⟨_,rfl,cr⟩
theorem zlu(l m:List UInt8)(hl:l.length<=1000000000000)(hm:m.length<=1000000000000):aG 83 [bs l,bs m] (bch (l++m)):=by
 refine aT Tryz.func83 rfl ?_
 refine zw ?_
 refine Vapp.mk' (j:=l.length) (zs:=l.map U8) (by simp only[maxLen];omega) (by show(0+l.length)*1<=_;omega) (by omega) rfl ?_
 refine Vapp.mk' (j:=(l++m).length) (zs:=(l++m).map U8) (by simp only[maxLen];omega) (by show(l.length+m.length)*1<=_;omega) (by rw[aL]) (by rw[List.map_append]) ?_
 exact rfl
theorem zuj(l m n:List UInt8)(hl:l.length<=10000000000)(hm:m.length<=10000000000)(hn:n.length<=10000000000):aG 84 [bs l,bs m,bs n] (bch (l++m++n)):=by
 refine aT Tryz.func84 rfl ?_
 refine ze (zlu l m (by omega) (by omega)) ?_
 refine ze (zlu (l++m) n (by rw[aL];omega) (by omega)) ?_
 exact rfl
theorem z14(m:Nat)(hm:m<18446744073709551616):aG 85 [.i .u64 m] (bch (beB 2 m)):=by
 refine aT Tryz.func85 rfl ?_
 refine ze (zil 2 m (by omega) hm) ?_
 exact rfl
theorem ztf(m:List UInt8)(hm:m.length<=1000000000):aG 88 [bs m] (bch (vecB m)):=by
 refine aT Tryz.func88 rfl ?_
 refine ze (zce m (by omega)) ?_
 exact rfl
abbrev kpS:ByteArray:=⟨#[75,101,121,80,97,99,107,97,103,101,84,66,83]⟩
def inB(k:List UInt8)(w:UInt8)(i:Nat):List UInt8:=(List.range i).map λj=>k.getD j 0^^^w
theorem zl0(k:List UInt8)(w:UInt8)(i:Nat):inB k w (i+1)=inB k w i++[k.getD i 0^^^w]:=by simp[inB,List.range_succ]
theorem z19(k:List UInt8)(w:UInt8)(i:Nat):(inB k w i).length=i:=by simp[inB]
def zmpb(k text:List UInt8):Nat->St
 |0=>{F:=[(0, .r (bs k)),(1, .r (bs text)),(5, .r (.x (.slice none 0 0))),(6, .r (.x (.slice none 0 0))),(7, .r (I ((0:Nat):Int)))],O:=[],nx:=0}
 |i+1=>{F:=[(0, .r (bs k)),(1, .r (bs text)),(5, .own 0),(6, .own 1),(7, .r (I ((i+1:Nat):Int)))],O:=[(0,some (.ch 5 1 (i+1) ((inB k 54 (i+1)).map U8) true)),(1,some (.ch 5 1 (i+1) ((inB k 92 (i+1)).map U8) true))],nx:=2}
theorem zs5(key text:List UInt8)(hk:key.length<=1000000000)(ht:text.length<=10000000000):aG 58 [bs key,bs text] (bch (macB key text)):=by
 refine aT Tryz.func58 rfl ?_
 refine zh (λh=>zp ?a) (λh=>zq ?b)
 case' a=>
  simp only[zb]at h
  have hx:shaB key=keyB key:=by unfold keyB;rw[if_pos (by omega)]
  refine ze (ziw key (by omega)) ?_
  rw[hx]
 case' b=>
  simp only[zb]at h
  have hx:key=keyB key:=by unfold keyB;rw[if_neg (by omega)]
 all_goals
  have hkl:=z2b key
  refine zy (zmpb (keyB key) text) (λi=>i<=64) (λi=>64-i) 0 (by omega) (zac [] rfl ⟨(by first|exact cr|exact zf (by rw[<-hx])),cr,cr,cr,cr,trivial⟩ trivial) ?_
  have hmac:macB key text=shaB (inB (keyB key) 92 64++shaB (inB (keyB key) 54 64++text)):=rfl
  generalize keyB key=kk at*
  intro i hi
  rcases i with _ |i
  ·refine zt rfl (zp ?_)
   refine zh (λh2=>zp ?_) (λh2=>zq ?_)
   all_goals
    simp only[zb]at h2
    obtain⟨x,hx2⟩: ∃x,kk.getD 0 0=x:=⟨_,rfl⟩
    first
    |(
      have hl:0<kk.length:=by omega
      have hx3:kk[0]=x:=by rw[<-hx2];simp[List.getD,hl]
      refine zm (by omega) (by omega) (za3 (j:=0) rfl hl) (zg rfl ?_)
      rw[hx3]
      refine Vbits.xor8 x 54 rfl rfl (zw ?_))
    |(
      have hx3:x=0:=by rw[<-hx2];simp[List.getD,List.getElem?_eq_none (show kk.length<=0 by omega)]
      refine Vbits.xor8 x 54 (by rw[hx3];rfl) rfl (zw ?_))
    refine Vapp.mk' (j:=0+1) (zs:=(inB kk 54 (0+1)).map U8) (by decide) (by decide) rfl (by rw[zl0 kk 54 0,hx2];rfl) ?_
    refine Vbits.xor8 x 92 (by first|rfl|(rw[hx3];rfl)) rfl (zw ?_)
    refine Vapp.mk' (j:=0+1) (zs:=(inB kk 92 (0+1)).map U8) (by decide) (by decide) rfl (by rw[zl0 kk 92 0,hx2];rfl) ?_
    refine zd (m:=((0+1:Nat):Int)) (by omega) (by omega) ?_
    exact⟨0+1,by omega,by omega,zac [(0,1),(1,3)] rfl ⟨cr,cr,rfl,rfl,cr,trivial⟩ ⟨⟨rfl,rfl,rfl,rfl,zn _⟩,⟨rfl,rfl,rfl,rfl,zn _⟩,trivial⟩⟩
  ·refine zh (λh=>zp ?_) (λh=>zq ?_)
   ·simp only[zb]at h
    refine zh (λh2=>zp ?_) (λh2=>zq ?_)
    all_goals
     simp only[zb]at h2
     obtain⟨x,hx2⟩: ∃x,kk.getD (i+1) 0=x:=⟨_,rfl⟩
     first
     |(
       have hl:i+1<kk.length:=by omega
       have hx3:kk[i+1]=x:=by rw[<-hx2];simp[List.getD,hl]
       refine zm (by omega) (by omega) (za3 (j:=i+1) rfl hl) (zg rfl ?_)
       rw[hx3]
       refine Vbits.xor8 x 54 rfl rfl (zw ?_))
     |(
       have hx3:x=0:=by rw[<-hx2];simp[List.getD,List.getElem?_eq_none (show kk.length<=i+1 by omega)]
       refine Vbits.xor8 x 54 (by rw[hx3];rfl) rfl (zw ?_))
     refine Vapp.mk' (j:=i+1+1) (zs:=(inB kk 54 (i+1+1)).map U8) (by simp[maxLen];omega) (by simp;omega) rfl (by rw[zl0 kk 54 (i+1),hx2,List.map_append];rfl) ?_
     refine Vbits.xor8 x 92 (by first|rfl|(rw[hx3];rfl)) rfl (zw ?_)
     refine Vapp.mk' (j:=i+1+1) (zs:=(inB kk 92 (i+1+1)).map U8) (by simp[maxLen];omega) (by simp;omega) rfl (by rw[zl0 kk 92 (i+1),hx2,List.map_append];rfl) ?_
     refine zd (m:=((i+1+1:Nat):Int)) (by omega) (by omega) ?_
     exact⟨i+1+1,by omega,by omega,zac [(0,3),(1,5)] rfl ⟨cr,cr,rfl,rfl,cr,trivial⟩ ⟨⟨rfl,rfl,rfl,rfl,zn _⟩,⟨rfl,rfl,rfl,rfl,zn _⟩,trivial⟩⟩
   ·simp only[zb]at h
    obtain rfl:i=63:=by omega
    have h5:=z19 kk 54 64
    have h9:=z19 kk 92 64
    refine Vapp.mk' (j:=(inB kk 54 64++text).length) (zs:=(inB kk 54 64++text).map U8) (by simp[maxLen];omega) (by simp;omega) (by simp[h5]) (by simp) ?_
    refine ze (ziw (inB kk 54 64++text) (by simp[h5];omega)) ?_
    refine Vapp.mk' (j:=(inB kk 92 64++shaB (inB kk 54 64++text)).length) (zs:=(inB kk 92 64++shaB (inB kk 54 64++text)).map U8) (by simp[maxLen,zcd]) (by simp[zcd]) (by simp[h9]) (by simp) ?_
    refine ze (ziw (inB kk 92 64++shaB (inB kk 54 64++text)) (by simp[h9,zcd])) ?_
    exact zdh (by rw[hmac])
theorem ze2b{n:Nat}(hn:1<=n/\n<=32):(1:Int)=IntKind.i64.wrap (((n+31:Nat):Int).tdiv 32):=by
 have h:((n+31:Nat):Int).tdiv 32=1:=by rw[Int.tdiv_eq_ediv_of_nonneg (by omega)];omega
 rw[h]
 rfl
theorem z4d(s info:List UInt8)(n:Nat)(hn:1<=n/\n<=32)(hs:s.length<=1000000000)(hi:info.length<=1000000000):aG 62 [bs s,bs info,I n] (.r (bs (exp1 s info n))):=by
 refine aT Tryz.func62 rfl ?_
 refine Vloop.rounds 2 (Vrounds.step mixed Tab_ok ?_)
 refine zd (m:=((n+31:Nat):Int)) (by omega) (by omega) ?_
 refine⟨by decide,1,ze2b hn,?_⟩
 refine zt rfl (zp ?_)
 refine zu rfl (zq ?_)
 refine Vapp.mk' (j:=info.length) (zs:=info.map U8) (by simp[maxLen];omega) (by simp;omega) (by simp) (by simp) ?_
 refine zd (m:=1) rfl (by decide) ?_
 refine Vint.u8 1 rfl (zw ?_)
 refine Vapp.mk' (j:=(info++[1]).length) (zs:=(info++[1]).map U8) (by simp[maxLen];omega) (by simp;omega) (by simp) (by rw[List.map_append];rfl) ?_
 refine ze (zs5 s (info++[1]) hs (by simp;omega)) ?_
 refine zw ?_
 refine Vapp.mk' (j:=1) (zs:=[bs (macB s (info++[1]))]) (by decide) (by decide) rfl rfl ?_
 refine zd (m:=1) rfl (by decide) ?_
 refine Vrounds.step mixed Tab_ok ?_
 refine zd (m:=((n+31:Nat):Int)) (by omega) (by omega) ?_
 refine⟨by decide,1,ze2b hn,?_⟩
 refine zu rfl (zq ?_)
 refine Vloop.rounds 2 (Vrounds.step mixed Tab_ok ?_)
 refine zt rfl (zp ?_)
 refine zm (by decide) (by decide) rfl (zg rfl ?_)
 refine Vapp.mk' (j:=32) (zs:=(macB s (info++[1])).map U8) (by simp[maxLen,zbm]) (by simp[zbm]) (by simp[zbm]) (by simp) ?_
 refine zd (m:=1) rfl (by decide) ?_
 refine Vrounds.step mixed Tab_ok ?_
 refine zu rfl (zq ?_)
 refine⟨by omega,by omega,by omega,n,(exp1 s info n).map U8,by omega,?_,?_⟩
 ·unfold exp1;rw[List.map_take];simp
 ·refine zf ?_
  simp only[bs,zln s info hn.2]
theorem zjr(s:List UInt8)(label:ByteArray)(ctx:List UInt8)(n:Nat)(hn:1<=n/\n<=32)(hs:s.length<=1000000000)(hl:label.size<=1048576)(hc:ctx.length<=1048576):
  aG 12 [bs s,Str label,bs ctx,I n] (.r (bs (labB s (sB label) ctx n))):=by
 refine aT Tryz.func12 rfl ?_
 have hd:=zql label
 have hsz:label.data.toList.length=label.size:=rfl
 have hml:mlsB.length=8:=rfl
 have hb:(beB 2 n).length=2:=zak 2 n
 have hv:=zag (mlsB++label.data.toList)
 have hv2:=zag ctx
 rw[aL]at hv
 refine Vint.u64 n rfl (by omega) ?_
 refine ze (zil 2 n (by omega) (by omega)) ?_
 refine⟨by show 8+label.size<=_;omega,?_⟩
 refine⟨by rw[zsq];show 8+label.size<=_;omega,?_⟩
 refine ze (zce ((⟨#[77,76,83,32,49,46,48,32]⟩:ByteArray)++label).data.toList (by rw[hd,aL];omega)) ?_
 rw[hd]
 refine Vapp.mk' (j:=(beB 2 n++vecB (mlsB++label.data.toList)).length) (zs:=(beB 2 n++vecB (mlsB++label.data.toList)).map U8) (by simp only[maxLen];omega) (by show _*1<=_;omega) (by simp) (by simp) ?_
 refine ze (zce ctx (by omega)) ?_
 refine Vapp.mk' (j:=(beB 2 n++vecB (mlsB++label.data.toList)++vecB ctx).length) (zs:=(beB 2 n++vecB (mlsB++label.data.toList)++vecB ctx).map U8) (by simp only[maxLen,aL];omega) (by show _*1<=_;simp only[aL];omega) (by simp only[aL]) (by simp) ?_
 refine ze (z4d s (beB 2 n++vecB (mlsB++label.data.toList)++vecB ctx) n hn hs (by simp only[aL];omega)) ?_
 exact cr
def baS(l:List UInt8):ByteArray:=⟨l.toArray⟩
theorem z6f(l:List UInt8):strOfNums (nums l)=baS l:=by
 unfold strOfNums baS nums
 rw[List.map_map]
 congr 2
 exact(List.map_congr_left (λx _=>by simp)).trans (List.map_id l)
theorem Vfun.str{S:St}{o:Oper}{x:Operand}{l:List UInt8}{K:RV->Prop}(hop:o.op= .convert 22 9 x)(hx:oprs S [x]=some [bs l])(hK:K (Str (baS l))):Vfun aP S o [x] K:=
 ⟨_,hx,_,λa w k h=>by
  simp only[RV.partsAt,List.map_cons,List.map_nil]at h
  obtain⟨u,r,e,hat,_⟩:=h
  obtain⟨p,rfl,hp⟩:=z3s hat
  have hv:=(List.cons.inj e).1
  refine⟨.string (baS l),?_,by simp only[RV.at_]⟩
  have hc:=zsx p l w hp
  rw[z6f]at hc
  simp[execOp,hop,hv,hc],hK⟩
def strs(l:List ByteArray):RV:= .sl 1 l.length (l.map Str)
def catS(l:List ByteArray):List UInt8:=l.flatMap sB
def zmdb(l:List ByteArray):Nat->St
 |0=>{F:=[(3, .r (.x (.slice none 0 0))),(6, .r (strs l)),(7, .r (I l.length)),(8, .r (I ((0:Nat):Int)))],O:=[],nx:=0}
 |i+1=>{F:=[(3, .own 0),(6, .r (strs l)),(7, .r (I l.length)),(8, .r (I ((i+1:Nat):Int)))],O:=[(0,some (.ch 5 1 (catS (l.take (i+1))).length ((catS (l.take (i+1))).map U8) true))],nx:=1}
theorem ztz{l:List ByteArray}{i:Nat}(hi:i<l.length):catS (l.take (i+1))=catS (l.take i)++sB l[i]:=by
 rw[List.take_add_one,List.getElem?_eq_getElem hi]
 show(l.take i++[l[i]]).flatMap sB=_
 rw[List.flatMap_append]
 simp only[catS,List.flatMap_cons,List.flatMap_nil,List.append_nil]
theorem zfnb{l:List ByteArray}{i:Nat}:(catS (l.take i)).length<=(catS l).length:=by
 have h:catS l=catS (l.take i)++catS (l.drop i):=by
  unfold catS
  rw[<-List.flatMap_append,List.take_append_drop]
 rw[h,aL]
 omega
theorem z7g(l:List ByteArray)(h0:l≠[])(hl:(catS l).length<=10000000000)(hn:l.length<=1000000000):aG 208 [strs l] (bch (catS l)):=by
 refine aT Tryz.func208 rfl ?_
 refine zy (zmdb l) (λi=>i<=l.length) (λi=>l.length-i) 0 (by omega) (zac [] rfl ⟨cr,cr,cr,cr,trivial⟩ trivial) ?_
 intro i hi
 have hpos:0<l.length:=by cases l;exact absurd rfl h0;simp
 have hle:= @zfnb l (i+1)
 rcases i with _ |i
 ·refine zt (decide_eq_true (by omega)) (zp ?_)
  refine zm (by omega) (by omega) (za3 (j:=0) rfl hpos) (zg rfl ?_)
  have hs:=ztz hpos
  rw[hs]at hle
  simp only[aL,sB,Array.length_toList]at hle
  refine Vstep.appS (s:=l[0]) Tab_ok rfl rfl rfl rfl ⟨rfl,rfl⟩ rfl rfl rfl rfl rfl (by show 0+l[0].data.size<=_;omega) ?_
  refine zd (m:=((0+1:Nat):Int)) rfl (by decide) ?_
  refine⟨0+1,by omega,by omega,zac [(0,0)] rfl ⟨rfl,cr,cr,cr,trivial⟩ ⟨⟨rfl,rfl,?_,rfl,Cvs.of_eq ?_⟩,trivial⟩⟩
  ·rw[hs];simp[catS,sB]
  ·rw[hs];rfl
 ·refine zh (λh=>zp ?_) (λh=>zq ?_)
  ·simp only[zb]at h
   have hlt:i+1<l.length:=by omega
   refine zm (by omega) (by omega) (za3 (j:=i+1) rfl hlt) (zg rfl ?_)
   have hs:=ztz hlt
   rw[hs]at hle
   simp only[aL,sB,Array.length_toList]at hle
   refine Vstep.appS (s:=l[i+1]) Tab_ok rfl rfl rfl rfl ⟨rfl,rfl⟩ rfl rfl rfl rfl rfl (by show _+l[i+1].data.size<=_;omega) ?_
   refine zd (m:=((i+1+1:Nat):Int)) (by omega) (by omega) ?_
   refine⟨i+1+1,by omega,by omega,zac [(0,1)] rfl ⟨rfl,cr,cr,cr,trivial⟩ ⟨⟨rfl,rfl,?_,rfl,Cvs.of_eq ?_⟩,trivial⟩⟩
   ·rw[hs,aL];rfl
   ·rw[hs,List.map_append]
  ·simp only[zb]at h
   have hl':i+1=l.length:=by omega
   exact zdh (by rw[hl',List.take_length])
def verB:List UInt8:=[72,80,75,69,45,118,49]
def extB(name salt label secret:List UInt8):List UInt8:=macB salt (verB++name++label++secret)
def epdB(name secret label info:List UInt8)(n:Nat):List UInt8:=exp1 secret (beB 2 n++verB++name++label++info) n
theorem zlr(salt secret:List UInt8)(h1:salt.length<=1000000000)(h2:secret.length<=10000000000):aG 202 [bs salt,bs secret] (bch (macB salt secret)):=by
 refine aT Tryz.func202 rfl ?_
 refine zw ?_
 refine ze (zrm salt [secret] h1 (by simp;omega)) ?_
 exact zdh (by simp)
theorem z4e(name label:ByteArray)(salt secret:List UInt8)(h1:salt.length<=1000000000)(h2:secret.length<=1000000000)(h3:name.size<=1000)(h4:label.size<=1000):
  aG 122 [Str name,bs salt,Str label,bs secret] (bch (extB (sB name) salt (sB label) secret)):=by
 refine aT Tryz.func122 rfl ?_
 have e:catS [⟨#[72,80,75,69,45,118,49]⟩,name,label,baS secret]=verB++sB name++sB label++secret:=by simp[catS,verB,baS];rfl
 have hl:(catS [⟨#[72,80,75,69,45,118,49]⟩,name,label,baS secret]).length<=10000000000:=by
  rw[e];simp only[aL,sB,Array.length_toList];show 7+name.size+label.size+_<=_;omega
 refine Vfun.str rfl rfl (zw ?_)
 refine ze (z7g [⟨#[72,80,75,69,45,118,49]⟩,name,label,baS secret] (by simp) hl (by simp)) ?_
 refine ze (zlr salt _ h1 (by omega)) ?_
 exact zdh (by rw[e];rfl)
theorem z7f(name label:ByteArray)(secret info:List UInt8)(n:Nat)(hn:1<=n/\n<=32)(h1:secret.length<=1000000000)(h2:info.length<=1000000)(h3:name.size<=1000)(h4:label.size<=1000):
  aG 121 [Str name,bs secret,Str label,bs info,I n] (.r (bs (epdB (sB name) secret (sB label) info n))):=by
 refine aT Tryz.func121 rfl ?_
 have e:catS [baS ([]++beB 2 n),⟨#[72,80,75,69,45,118,49]⟩,name,label,baS info]=beB 2 n++verB++sB name++sB label++info:=by simp[catS,verB,baS];rfl
 have hb:(beB 2 n).length=2:=zak 2 n
 have hl:(catS [baS ([]++beB 2 n),⟨#[72,80,75,69,45,118,49]⟩,name,label,baS info]).length<=1000000000:=by
  rw[e];simp only[aL,sB,Array.length_toList,hb];show 2+7+name.size+label.size+_<=_;omega
 refine Vint.u64 n rfl (by omega) ?_
 refine Vcall.mk' (zet [] 2 n (by simp) (.inr (.inl rfl))) (zk (Cv.nil _) (zn _)) ?_
 refine Vfun.str rfl rfl ?_
 refine Vfun.str rfl rfl (zw ?_)
 refine ze (z7g [baS ([]++beB 2 n),⟨#[72,80,75,69,45,118,49]⟩,name,label,baS info] (by simp) (by omega) (by simp)) ?_
 refine ze (zt6 secret _ n hn h1 hl) ?_
 rw[e]
 exact cr
section
open Ieee
def fw(s:Bool)(n:Nat):Nat:=double.nearest s n 0
def fl(n:Int):Nat:=fw (decide (n<0)) n.natAbs
end
abbrev F1(a:Int):RV:= .x (.float .f64 (fl a))
instance {h k:Nat}{x:Int}:Decidable (inR h k x):=by unfold inR;infer_instance
theorem zanb{α:Type}{l:List α}{j:Nat}(hj:j<l.length):l.take (j+1)=l.take j++[l[j]]:=by
 rw[List.take_add_one,List.getElem?_eq_getElem hj];rfl
def nods(l:List Node):RV:= .sl 10 l.length (l.flatMap Node.c)
theorem zkt{l:List Node}{i:Int}{j:Nat}(h:i=j)(hj:j<l.length):((l.flatMap Node.c).drop (i.toNat*10)).take 10=l[j].c:=zi6 (f:=Node.c) (sz:=10) (λ_=>rfl) h hj
def nT(t:List Node)(j:Nat):Node:=t.getD j Node.zero
theorem zeyb{t:List Node}{j:Nat}(hj:j<t.length):t[j]=nT t j:=by simp[nT,hj]
theorem zr5{t:List Node}{j:Nat}(hj:j<t.length):nT t j∈t:=zeyb hj▸List.getElem_mem hj
theorem z80{l:List Node}{i:Int}{j:Nat}(h:i=j)(hj:j<l.length):((l.flatMap Node.c).drop (i.toNat*10)).take 10=(nT l j).c:=by rw[<-zeyb hj];exact zkt h hj
section
abbrev z5:Fe:=⟨0,0,0,0,0⟩
structure Lad where
 px:Fe
 pz:Fe
 qx:Fe
 qz:Fe
def Lad.next(b:Bool)(u:Fe)(s:Lad):Lad:=
 match b with
 |true=>⟨(zdg s.qx s.qz s.px s.pz u).2.1,(zdg s.qx s.qz s.px s.pz u).2.2,(zdg s.qx s.qz s.px s.pz u).1.1,(zdg s.qx s.qz s.px s.pz u).1.2⟩
 |false=>⟨(zdg s.px s.pz s.qx s.qz u).1.1,(zdg s.px s.pz s.qx s.qz u).1.2,(zdg s.px s.pz s.qx s.qz u).2.1,(zdg s.px s.pz s.qx s.qz u).2.2⟩
def ladN(k:List UInt8)(u:Fe):Nat->Lad
 |0=>⟨one,z5,u,one⟩
 |j+1=>(ladN k u j).next (bitE k (254-j)==1) u
theorem z82(k:List UInt8)(u:Fe):ladN k u 0=⟨one,z5,u,one⟩:=rfl
theorem zun(k:List UInt8)(u:Fe)(j:Nat):ladN k u (j+1)=(ladN k u j).next (bitE k (254-j)==1) u:=rfl
attribute [irreducible] ladN
def zo4(k:List UInt8)(u:Fe):List UInt8:=((ladN k u 255).px.mul (ladN k u 255).pz.inv).bytes
abbrev pbx(x z:Fe):Ow:= .box [.r (W x.a), .r (W x.b), .r (W x.c), .r (W x.d), .r (W x.e), .r (W z.a), .r (W z.b), .r (W z.c), .r (W z.d), .r (W z.e)]
def ladI(k:List UInt8)(u:Fe)(j:Nat):St:={F:=[(0, .r (bs k)),(3, .own 0),(5, .own 1),(6, .own 2),(7, .r (I ((254-j:Nat):Int)))],O:=[(0,some u.bx),(1,some (pbx (ladN k u j).px (ladN k u j).pz)),(2,some (pbx (ladN k u j).qx (ladN k u j).qz))],nx:=3}
theorem zy4(k:List UInt8)(u:Fe){b:Bool}(h:ladN k u (254+1)=(ladN k u 254).next b u){e:TypeId}:some (Ow.ch e 1 (((((ladN k u 254).next b u).px).mul (((ladN k u 254).next b u).pz).inv).bytes).length ((((((ladN k u 254).next b u).px).mul (((ladN k u 254).next b u).pz).inv).bytes).map U8) true)=some (Ow.ch e 1 (zo4 k u).length ((zo4 k u).map U8) true):=by
 rw[<-h]
 rfl
set_option maxHeartbeats 4000000 in
theorem z8l(k:List UInt8)(u:Fe)(hk:k.length=32):aG 320 [bs k, .ag u.v] (bch (zo4 k u)):=by
 refine aT Tryz.func320 rfl ?_
 refine Vcode.scope mixed Tab_ok 0 (ladI k u) (λj=>j<=254) (λj=>254-j) rfl ?_ ?_
 ·refine aV ?_
  refine ze zlw ?_
  refine za rfl rfl ?_
  refine ze zlw ?_
  repeat' ((conv=>whnf);first|refine za rfl rfl ?_)
  refine Vquo.i64 254 8 rfl rfl (by omega) (by omega) ?_
  refine zm (by omega) (by omega) rfl (zg (f:=U8 (k.getD (254/8) 0)) (zor (by omega)) ?_)
  refine Vrem.nat 254 8 rfl rfl (by omega) ?_
  refine Vshr.b _ (254%8) rfl rfl (by omega) ?_
  refine Vbits.and8 _ 1 rfl rfl ?_
  have hs:=zun k u 0
  rw[z82]at hs
  refine zh (λh=>zp ?_) (λh=>zq ?_)
  ·have hb:(bitE k (254-0)==1)=true:=by rw[beq_iff_eq];exact zol h
   rw[hb]at hs
   refine za rfl rfl ?_
   refine za rfl rfl ?_
   refine za rfl rfl ?_
   refine ze (zrt u one one z5 u) ?_
   refine zd (m:=253) rfl (by decide) ?_
   refine zt rfl (zp ?_)
   exact⟨1,by decide,zac [(0,0),(1,1),(2,2)] rfl ⟨cr,rfl,rfl,rfl,cr,trivial⟩ ⟨(aC (aA aZ)),by rw[hs];exact⟨_,_,rfl,cr,_,_,rfl,cr,_,_,rfl,cr,_,_,rfl,cr,_,_,rfl,cr,_,_,rfl,cr,_,_,rfl,cr,_,_,rfl,cr,_,_,rfl,cr,_,_,rfl,cr,rfl⟩,by rw[hs];exact⟨_,_,rfl,cr,_,_,rfl,cr,_,_,rfl,cr,_,_,rfl,cr,_,_,rfl,cr,_,_,rfl,cr,_,_,rfl,cr,_,_,rfl,cr,_,_,rfl,cr,_,_,rfl,cr,rfl⟩,trivial⟩⟩
  ·have hb:(bitE k (254-0)==1)=false:=by rw[beq_eq_false_iff_ne];exact zlg h
   rw[hb]at hs
   refine za rfl rfl ?_
   refine za rfl rfl ?_
   refine za rfl rfl ?_
   refine ze (zrt one z5 u one u) ?_
   refine zd (m:=253) rfl (by decide) ?_
   refine zt rfl (zp ?_)
   exact⟨1,by decide,zac [(0,0),(1,1),(2,2)] rfl ⟨cr,rfl,rfl,rfl,cr,trivial⟩ ⟨(aC (aA aZ)),by rw[hs];exact⟨_,_,rfl,cr,_,_,rfl,cr,_,_,rfl,cr,_,_,rfl,cr,_,_,rfl,cr,_,_,rfl,cr,_,_,rfl,cr,_,_,rfl,cr,_,_,rfl,cr,_,_,rfl,cr,rfl⟩,by rw[hs];exact⟨_,_,rfl,cr,_,_,rfl,cr,_,_,rfl,cr,_,_,rfl,cr,_,_,rfl,cr,_,_,rfl,cr,_,_,rfl,cr,_,_,rfl,cr,_,_,rfl,cr,_,_,rfl,cr,rfl⟩,trivial⟩⟩
 ·intro J hj
  refine Vquo.i64 (254-J) 8 rfl rfl (by omega) (by omega) ?_
  refine zm (by omega) (by omega) rfl (zg (f:=U8 (k.getD ((254-J)/8) 0)) (zor (by omega)) ?_)
  refine Vrem.nat (254-J) 8 rfl rfl (by omega) ?_
  refine Vshr.b _ ((254-J)%8) rfl rfl (by omega) ?_
  refine Vbits.and8 _ 1 rfl rfl ?_
  have hs:=zun k u J
  refine zh (λh=>zp ?_) (λh=>zq ?_)
  ·have hb:(bitE k (254-J)==1)=true:=by rw[beq_iff_eq];exact zol h
   rw[hb]at hs
   refine za rfl rfl ?_
   refine za rfl rfl ?_
   refine za rfl rfl ?_
   refine ze (zrt (ladN k u J).qx (ladN k u J).qz (ladN k u J).px (ladN k u J).pz u) ?_
   refine zd (m:=((254-J:Nat):Int)-1) rfl (by omega) ?_
   refine zh (λh=>zp ?_) (λh=>zq ?_)
   ·simp only[zb]at h
    exact⟨J+1,by omega,by omega,zac [(0,0),(1,1),(2,2)] rfl ⟨cr,rfl,rfl,rfl,zf (by congr 1;omega),trivial⟩ ⟨(aC (aA aZ)),by rw[hs];exact⟨_,_,rfl,cr,_,_,rfl,cr,_,_,rfl,cr,_,_,rfl,cr,_,_,rfl,cr,_,_,rfl,cr,_,_,rfl,cr,_,_,rfl,cr,_,_,rfl,cr,_,_,rfl,cr,rfl⟩,by rw[hs];exact⟨_,_,rfl,cr,_,_,rfl,cr,_,_,rfl,cr,_,_,rfl,cr,_,_,rfl,cr,_,_,rfl,cr,_,_,rfl,cr,_,_,rfl,cr,_,_,rfl,cr,_,_,rfl,cr,rfl⟩,trivial⟩⟩
   ·simp only[zb]at h
    obtain rfl:J=254:=by omega
    refine aV ?_
    refine za rfl rfl ?_
    refine za rfl rfl ?_
    refine ze (zot (zdg (ladN k u 254).qx (ladN k u 254).qz (ladN k u 254).px (ladN k u 254).pz u).2.2) ?_
    refine ze (zbh (zdg (ladN k u 254).qx (ladN k u 254).qz (ladN k u 254).px (ladN k u 254).pz u).2.1 (zdg (ladN k u 254).qx (ladN k u 254).qz (ladN k u 254).px (ladN k u 254).pz u).2.2.inv) ?_
    refine ze (zos _) ?_
    exact zy4 k u hs
  ·have hb:(bitE k (254-J)==1)=false:=by rw[beq_eq_false_iff_ne];exact zlg h
   rw[hb]at hs
   refine za rfl rfl ?_
   refine za rfl rfl ?_
   refine za rfl rfl ?_
   refine ze (zrt (ladN k u J).px (ladN k u J).pz (ladN k u J).qx (ladN k u J).qz u) ?_
   refine zd (m:=((254-J:Nat):Int)-1) rfl (by omega) ?_
   refine zh (λh=>zp ?_) (λh=>zq ?_)
   ·simp only[zb]at h
    exact⟨J+1,by omega,by omega,zac [(0,0),(1,1),(2,2)] rfl ⟨cr,rfl,rfl,rfl,zf (by congr 1;omega),trivial⟩ ⟨(aC (aA aZ)),by rw[hs];exact⟨_,_,rfl,cr,_,_,rfl,cr,_,_,rfl,cr,_,_,rfl,cr,_,_,rfl,cr,_,_,rfl,cr,_,_,rfl,cr,_,_,rfl,cr,_,_,rfl,cr,_,_,rfl,cr,rfl⟩,by rw[hs];exact⟨_,_,rfl,cr,_,_,rfl,cr,_,_,rfl,cr,_,_,rfl,cr,_,_,rfl,cr,_,_,rfl,cr,_,_,rfl,cr,_,_,rfl,cr,_,_,rfl,cr,_,_,rfl,cr,rfl⟩,trivial⟩⟩
   ·simp only[zb]at h
    obtain rfl:J=254:=by omega
    refine aV ?_
    refine za rfl rfl ?_
    refine za rfl rfl ?_
    refine ze (zot (zdg (ladN k u 254).px (ladN k u 254).pz (ladN k u 254).qx (ladN k u 254).qz u).1.2) ?_
    refine ze (zbh (zdg (ladN k u 254).px (ladN k u 254).pz (ladN k u 254).qx (ladN k u 254).qz u).1.1 (zdg (ladN k u 254).px (ladN k u 254).pz (ladN k u 254).qx (ladN k u 254).qz u).1.2.inv) ?_
    refine ze (zos _) ?_
    exact zy4 k u hs
attribute [irreducible] zo4
end
end Go.Proofs.YtkegaaonpekkgaaGreat.Sx
