import Derived.Test.YtkegaaonpekkgaaGreatZGq
import Derived.Test.YtkegaaonpekkgaaGreatZJo
import Derived.Test.YtkegaaonpekkgaaGreatZEt
import Derived.Test.YtkegaaonpekkgaaGreatZJp
import Derived.Test.YtkegaaonpekkgaaGreatZIb
namespace Go.Proofs.YtkegaaonpekkgaaGreat.Sx
open Go.RowKit
abbrev znub:List RV:=[nl,nl,nl,U8 0,nl,nl]
abbrev znvb:List RV:=[nl,nl,nl,nl,U8 0,nl,nl,nl]
abbrev znwb:List RV:=[U8 0,nl,nl,nl,nl,U8 0,nl,nl,nl,nl,nl,nl,U8 0,nl,nl,I 0]
abbrev wayR(l:Leaf):List RV:=[bs l.box,bs l.sign,bs l.ident,U8 l.src,bs l.parent,bs l.sig,nl]
abbrev comR(l:Leaf):List RV:=[nl, .b true,bs l.box,bs l.sign,bs l.ident,U8 l.src,bs l.parent,bs l.sig,nl]
structure MsgP where
 group:List UInt8
 epoch:Nat
 frm:Nat
 lf:Leaf
 sig:List UInt8
 tag:List UInt8
 mem:List UInt8
abbrev MsgP.c(m:MsgP):List RV:=[bs m.group, .i .u64 m.epoch,I m.frm,U8 3,U8 0,nl,nl,nl,nl,U8 0,nl,nl,nl,nl,nl,nl,U8 0,nl,nl,I 0,nl, .b true,bs m.lf.box,bs m.lf.sign,bs m.lf.ident,U8 m.lf.src,bs m.lf.parent,bs m.lf.sig,nl,bs m.sig,bs m.tag,bs m.mem]
structure MsgP.sm (m:MsgP):Prop where
 group:m.group.length<=64
 epoch:m.epoch<18446744073709551616
 frm:m.frm<65536
 sig:m.sig.length=64
 tag:m.tag.length=32
 mem:m.mem.length=32
 lf:m.lf.right=true
 src:m.lf.src=3
 par:m.lf.parent.length=0
theorem zhv{l:Leaf}(h:l.right=true):l.box.length=32/\l.sign.length=32/\l.ident.length<=64/\l.parent.length<=32/\l.sig.length=64:=by
 simp only[Leaf.right,decide_eq_true_eq]at h
 omega
theorem zcn{l:Leaf}(h:l.right=true):l.fit:=by
 obtain⟨h1,h2,h3,h4,h5⟩:=zhv h
 exact⟨by omega,by omega,by omega,by omega,by omega⟩
theorem zcgb:aG 114 [bs [],bs []] (.r (.b true)):=by
 have h:=zlq [] []
 simpa using h
abbrev zfab:List RV:=[U8 0,nl,nl,nl,U8 0,nl,nl,nl,nl,nl]
theorem zccb(n:Nat)(h:n<65536):aG 245 [I n] (.r (.b true)):=by
 refine aT Tryz.func245 rfl ?_
 refine zt (by simp only[zb];omega) ?_
 refine zt (by simp only[zb];omega) ?_
 exact cr
theorem z0y:aG 433 [.ag zfab, .ag zfab] (.r (.b true)):=by
 have ce:aG 494 [is [],is []] (.r (.b true)):=by
  have h:=zp7 [] [] (by simp) (by simp)
  simpa using h
 have ci:Cvs [ns,ns] [is [],is []]:=zk (Cv.nil 1) (zk (Cv.nil 1) Cvs.nil)
 have cb:=zcgb
 have cc:Cvs [ns,ns] [bs [],bs []]:=zk (Cv.nil 1) (zk (Cv.nil 1) Cvs.nil)
 refine aT Tryz.func433 rfl ?_
 refine aV ?_
 repeat' ((conv=>whnf);refine za rfl rfl ?_)
 refine zu rfl ?_
 refine zu rfl ?_
 refine Vcall.mk' ce ci ?_
 refine zu rfl ?_
 refine zq ?_
 refine Vcall.mk' cb cc ?_
 refine Vcall.mk' cb cc ?_
 refine Vcall.mk' cb cc ?_
 refine Vcall.mk' cb cc ?_
 refine Vcall.mk' cb cc ?_
 refine Vcall.mk' cb cc ?_
 refine Vcall.mk' cb cc ?_
 exact cr
theorem zud:aG 345 [.ag znub] (.r (.b true)):=by
 refine aT Tryz.func345 rfl ?_
 refine za rfl rfl ?_
 refine ze z0y ?_
 exact cr
theorem z75:aG 346 [.ag znvb] (.r (.b true)):=by
 refine aT Tryz.func346 rfl ?_
 refine zd (m:=0) rfl (by decide) ?_
 refine zt rfl ?_
 refine za rfl rfl ?_
 refine ze zud ?_
 exact cr
theorem z76:aG 248 [.ag znwb] (.r (.b true)):=by
 refine aT Tryz.func248 rfl ?_
 refine zt rfl ?_
 refine za rfl rfl ?_
 refine ze z75 ?_
 refine za rfl rfl ?_
 refine ze zud ?_
 refine zt rfl ?_
 exact cr
theorem zx0(f:FuncId):aG 434 [ns, .x (.func (.func f) #[] #[])] (.r (I (-1))):=by
 refine aT Tryz.func434 rfl ?_
 refine Vloop.rounds 1 (Vrounds.step mixed Tab_ok ?_)
 refine zu rfl (zq ?_)
 exact cr
theorem z5c(f:FuncId):aG 347 [ns, .x (.func (.func f) #[] #[])] (.r (.b false)):=by
 refine aT Tryz.func347 rfl ?_
 refine ze (zx0 f) ?_
 refine zu rfl ?_
 exact cr
theorem zx1(f:FuncId):aG 495 [ns, .x (.func (.func f) #[] #[])] (.r (I (-1))):=by
 refine aT Tryz.func495 rfl ?_
 refine Vloop.rounds 1 (Vrounds.step mixed Tab_ok ?_)
 refine zu rfl (zq ?_)
 exact cr
theorem z5d(f:FuncId):aG 435 [ns, .x (.func (.func f) #[] #[])] (.r (.b false)):=by
 refine aT Tryz.func435 rfl ?_
 refine ze (zx1 f) ?_
 refine zu rfl ?_
 exact cr
theorem zgpb(l:Leaf)(hr:l.right=true)(hs:l.src=3):aG 350 [.ag (wayR l)] (.r (.b true)):=by
 refine aT Tryz.func350 rfl ?_
 have h:=zni l 3 (zcn hr)
 rw[hr,hs]at h
 refine za rfl rfl ?_
 refine ze h ?_
 refine zu rfl ?_
 refine zu rfl ?_
 refine zq ?_
 refine ze (z5d _) ?_
 refine zt rfl ?_
 exact cr
theorem z4x(l:Leaf)(hr:l.right=true)(hs:l.src=3):aG 249 [.ag (comR l)] (.r (.b true)):=by
 refine aT Tryz.func249 rfl ?_
 refine zu rfl ?_
 refine ze (z5c _) ?_
 refine zq ?_
 refine zu rfl (zq ?_)
 refine za rfl rfl ?_
 refine ze (zgpb l hr hs) ?_
 exact cr
theorem zi1(m:MsgP)(hm:m.sm):aG 154 [.ag m.c] (.r (.b true)):=by
 refine aT Tryz.func154 rfl ?_
 obtain⟨h1,h2,h3,h4,h5,h6,h7,h8,h9⟩:=hm
 refine zu (by simp only[zb];omega) ?_
 refine ze (zccb m.frm h3) ?_
 refine zu (by(try simp only[zb])<;>omega) ?_
 refine zu (by(try simp only[zb])<;>omega) ?_
 refine zu (by(try simp only[zb])<;>omega) ?_
 refine zq ?_
 refine zu rfl (zq ?_)
 refine zt rfl (zp ?_)
 refine za rfl rfl ?_
 refine ze z76 ?_
 refine za rfl rfl ?_
 refine ze (z4x m.lf h7 h8) ?_
 refine zt (by(try simp only[zb])<;>omega) ?_
 exact cr
theorem zcwb(o:Leaf)(hr:o.right=true):zd1 [L1 o] 0 0=hash1 o:=by
 have e:zhu 0 (L1 o)=zjy 0 (L1 o):=by
  unfold zhu
  rw[if_neg (by decide),if_neg]
  rintro(h |h)
  ·rw[zis hr]at h;cases h
  ·exact absurd h (by show¬(1:UInt8).toNat=2;decide)
 unfold hash1
 rw[e]
 rfl
theorem zcub(o:Leaf)(hr:o.right=true):aG 9 [nods [L1 o]] (.r (bs (hash1 o))):=by
 have h:=zbsb [L1 o] (λx hx=>by rw[List.mem_singleton.1 hx];exact zdx (zcn hr)) (λx hx=>by rw[List.mem_singleton.1 hx];exact zis hr) 0 (by omega) rfl
 rw[zcwb o hr]at h
 exact h
theorem zceb(id ident seed:List UInt8)(h:64<id.length):aG 7 [bs id,bs ident,bs seed] (.r (.tu [np,Er 3])):=by
 refine aT Tryz.func7 rfl ?_
 refine zt (by simp only[zb];omega) (zp ?_)
 exact⟨_,rfl,cr⟩
theorem zcfb(id ident seed:List UInt8)(e:Nat)(he:e≠0)(he2:e<256)(h:id.length<=64)(cp:aG 8 [bs ident,bs seed] (.r (.tu [.ag zPk, .ag [nl,nl,nl],Er e]))):aG 7 [bs id,bs ident,bs seed] (.r (.tu [np,Er e])):=by
 refine aT Tryz.func7 rfl ?_
 refine zu (by simp only[zb];omega) (zq ?_)
 refine ze cp ?_
 refine zt (by simp only[zb];omega) (zp ?_)
 exact⟨_,rfl,cr⟩
theorem z5b:aG 13 [] (.r (bs z32)):=by
 have key: ∀z:List UInt8,32=z.length->(List.replicate ((32:Int).toNat) ([Value.int .u8 0].map ofC)).flatten=z.map U8->aG 13 [] (.r (bs z)):=λz hz hzm=>by
  refine aT Tryz.func13 rfl ?_
  refine⟨rfl,by decide,by decide,by decide,z.length,z.map U8,hz,hzm,zw ?_⟩
  exact cr
 exact key z32 rfl rfl
section
variable (id ident seed:List UInt8) (hal:aG 6 [] (.r (.b true)))
include hal
theorem z40(h: ¬(id.length<=100/\ident.length<=100/\seed.length<=100)):aG 3 [bs id,bs ident,bs seed] (.r (.b true)):=by
 refine aT Tryz.func3 rfl ?_
 refine ze hal ?_
 refine zu rfl (zq ?_)
 by_cases h1:100<id.length
 ·refine zt (by simp only[zb];omega) (zp ?_)
  exact cr
 refine zu (by simp only[zb];omega) ?_
 by_cases h2:100<ident.length
 ·refine zt (by simp only[zb];omega) (zp ?_)
  exact cr
 refine zu (by simp only[zb];omega) ?_
 refine zt (by simp only[zb];omega) (zp ?_)
 exact cr
theorem z78(h1:id.length<=100)(h2:ident.length<=100)(h3:seed.length<=100)(h:64<id.length):aG 3 [bs id,bs ident,bs seed] (.r (.b true)):=by
 refine aT Tryz.func3 rfl ?_
 refine ze hal ?_
 refine zu rfl (zq ?_)
 refine zu (by simp only[zb];omega) ?_
 refine zu (by simp only[zb];omega) ?_
 refine zu (by simp only[zb];omega) (zq ?_)
 refine ze (zceb id ident seed h) ?_
 refine zt (by simp only[zb];omega) (zp ?_)
 refine zd (m:=3) rfl (by decide) ?_
 refine zt rfl ?_
 refine Vfun.nn _ rfl rfl rfl Tryz.underlying24 ?_
 exact cr
theorem zug(e:Nat)(he:e≠0)(he2:e<256)(h1:id.length<=64)(h2:ident.length<=100)(h3:seed.length<=100)(cp:aG 8 [bs ident,bs seed] (.r (.tu [.ag zPk, .ag [nl,nl,nl],Er e]))):
  aG 3 [bs id,bs ident,bs seed] (.r (.b true)):=by
 refine aT Tryz.func3 rfl ?_
 refine ze hal ?_
 refine zu rfl (zq ?_)
 refine zu (by simp only[zb];omega) ?_
 refine zu (by simp only[zb];omega) ?_
 refine zu (by simp only[zb];omega) (zq ?_)
 refine ze (zcfb id ident seed e he he2 h1 cp) ?_
 refine zu (by simp only[zb];omega) (zq ?_)
 refine ze cp ?_
 refine zd (m:=(e:Int)) rfl (by omega) ?_
 refine zt (by simp only[zb];omega) (zp ?_)
 refine zd (m:=(e:Int)) rfl (by omega) ?_
 refine zd (m:=(e:Int)) rfl (by omega) ?_
 refine zt (by simp only[zb]) ?_
 refine Vfun.nn _ rfl rfl rfl Tryz.underlying24 ?_
 exact cr
set_option maxRecDepth 20000 in
set_option maxHeartbeats 2000000 in
theorem z79(init sig a b sg h x z jn tg it:List UInt8)(o:Leaf)(s:SecP)(h1:id.length<=64)(h2:ident.length<=100)(h3:seed.length<=100)
  (cN:aG 7 [bs id,bs ident,bs seed] (.r (.tu [.ptr (grR ⟨⟨id,0,h,[]⟩,0,it,tg,s,⟨0,b⟩⟩ o sg),Er 0])))
  (cP:aG 8 [bs ident,bs seed] (.r (.tu [.ag (PackP.c ⟨init,o,sig⟩),zo3 a b sg,Er 0])))
  (cH:aG 9 [nods [L1 o]] (.r (bs h)))
  (cL:aG 12 [bs seed,Str grpS,bs [],I 32] (.r (bs x)))
  (cZ:aG 13 [] (.r (bs z)))
  (cJ:aG 11 [bs x,bs z, .ag (CtxP.c ⟨id,0,h,[]⟩)] (.r (bs jn)))
  (cO:aG 10 [bs jn, .ag (CtxP.c ⟨id,0,h,[]⟩)] (.r (.ag s.c)))
  (cT:aG 14 [bs s.cf,bss [[]]] (bch tg))
  (cI:aG 15 [bs [],bs tg] (.r (bs it)))
  (cS:aG 17 [.ptr (grR ⟨⟨id,0,h,[]⟩,0,it,tg,s,⟨0,b⟩⟩ o sg)] (.r (.ag (stR ⟨⟨id,0,h,[]⟩,0,it,tg,s,⟨0,b⟩⟩ o sg)))):
  aG 3 [bs id,bs ident,bs seed] (.r (.b true)):=by
 have cE:=z7x ⟨⟨id,0,h,[]⟩,0,it,tg,s,⟨0,b⟩⟩ o sg
 refine aT Tryz.func3 rfl ?_
 refine ze hal ?_
 refine zu rfl (zq ?_)
 refine zu (by simp only[zb];omega) ?_
 refine zu (by simp only[zb];omega) ?_
 refine zu (by simp only[zb];omega) (zq ?_)
 refine ze cN ?_
 refine zu (by simp only[zb];omega) (zq ?_)
 refine ze cP ?_
 refine zd (m:=0) rfl (by decide) ?_
 refine zu rfl (zq ?_)
 refine za rfl rfl ?_
 refine zw ?_
 refine aV ?_
 refine Vcall.mk' cH (zk (zd8 o) Cvs.nil) ?_
 refine zw ?_
 refine aV ?_
 refine Vcall.mk' cL (zk (cr) (zk (cr) (zk (Cv.nil 1) (zn _)))) ?_
 refine ze cZ ?_
 refine za rfl rfl ?_
 refine Vcall.mk' cJ (zk (cr) (zk (cr) (zk (Cv.ag (by repeat' (first|exact Cvs.nil|exact zn _|refine zk ?_ ?_|exact cr|exact Cv.nil _|exact zd8 _|refine Cv.ag ?_))) Cvs.nil))) ?_
 refine za rfl rfl ?_
 refine Vcall.mk' cO (zk (cr) (zk (Cv.ag (by repeat' (first|exact Cvs.nil|exact zn _|refine zk ?_ ?_|exact cr|exact Cv.nil _|exact zd8 _|refine Cv.ag ?_))) Cvs.nil)) ?_
 refine zw ?_
 refine Vcall.mk' cT (zk (cr) (zk (Cv.sl (zk (Cv.nil 1) Cvs.nil)) Cvs.nil)) ?_
 refine Vcall.mk' cI (zk (Cv.nil 1) (zn _)) ?_
 refine zd (m:=0) rfl (by decide) ?_
 refine zu rfl ?_
 refine Vfun.pn _ rfl rfl rfl Tryz.underlying24 ?_
 refine zq ?_
 refine aV ?_
 refine ze cS ?_
 refine za rfl rfl ?_
 refine Vcall.mk' cE (zk (cr) (zk (Cv.ag (by repeat' (first|exact Cvs.nil|exact zn _|refine zk ?_ ?_|exact cr|exact Cv.nil _|exact zd8 _|refine Cv.ag ?_))) Cvs.nil)) ?_
 exact cr
end
set_option maxHeartbeats 8000000 in
theorem z0m(leaves own:Int)(hl:i64 leaves)(ho:i64 own)(O:List Spot)(H:List Stub)(only:Bool)(hOn:O.length<=1000000)(hHn:H.length<=1000000)(hOf: ∀s∈O,s.node.fit)(hOi: ∀s∈O,i64 s.at_)(hHi: ∀s∈H,i64 s.at_)(hHl: ∀s∈H,s.hash.length<=1000000000)(hso: ∀(d:Nat) (r:V3) (p0:Value),leaves=((2^d:Nat):Int)->r=visV O own only d 0 0 []->Acts aP 372 1 [(0,pbox leaves own O H)] [.r (I leaves), .r (I own), .r (.b only), .r (.x (.func (.func 508) #[] #[p0]))] [(0,p0)] 11 [(0,pbox leaves own O H)] (.r (.tu [is r.1,is r.2.1, .b r.2.2]))):
  aG 457 [zy0 leaves own O H, .b only] (.r (.b (zd3 leaves own O H only))):=by
 refine aT Tryz.func457 rfl ?_
 refine Vcall.bool (zrj leaves) (λhf=>zu rfl ?_) (λhf=>zt rfl (zp ?_))
 rotate_left
 ·exact zf (by simp[zd3,hf,ofC])
 have hn:=zik hf
 refine zh (λh0=>zp ?_) (λh0=>?_)
 ·simp only[zb]at h0
  refine zf (congrArg RV.b (Eq.symm ?_))
  have: ¬0<=own:=by omega
  simp[zd3,this]
 simp only[zb]at h0
 have h0':0<=own:=by omega
 refine zh (λh1=>zp ?_) (λh1=>?_)
 ·simp only[zb]at h1
  refine zf (congrArg RV.b (Eq.symm ?_))
  have: ¬own<leaves:=by omega
  simp[zd3,this]
 simp only[zb]at h1
 have h1':own<leaves:=by omega
 refine zd rfl (by omega) ?_
 refine Vstep.node1 rfl rfl rfl (λm hm=>?_) (λhm=>?_)
 rotate_left
 ·refine Vsem.field Tab_ok rfl rfl rfl rfl rfl rfl rfl rfl ?_
  refine zt rfl (zp ?_)
  exact zf (by simp[zd3,zi8,hm,ofC])
 refine Vsem.field Tab_ok rfl rfl rfl rfl rfl rfl rfl rfl ?_
 refine zh (λhk=>zp ?_) (λhk=>zq ?_)
 ·simp only[zb]at hk
  refine zf (congrArg RV.b (Eq.symm ?_))
  have: ¬m.kind.toNat=1:=by omega
  simp[zd3,zi8,hm,this]
 simp only[zb]at hk
 have hleaf:zi8 O (2*own)=true:=by simp only[zi8,hm,decide_eq_true_eq];omega
 refine Vstep.range rfl rfl zk9 ?_
 refine Vloop.mkx (λdn:List Nat=>⟨[(1, .r (.b only)),(2, .own 0),(40, .own 1)],[(0,some (pbox leaves own O H)),(1,some (.gen (itO (zbw O) dn none)))],2⟩) (λdn=>dn.Nodup/\∀j∈dn,∃s,O[j]?=some s/\ze2 s.at_ s.node=true) (λdn=>O.length-dn.length) [] ⟨List.nodup_nil,by simp⟩ (zac [(0,0),(1,1)] rfl ⟨cr,rfl,rfl,trivial⟩ ⟨(aC aZ),λ_ _ _ hh=>hh,trivial⟩) ?_
 rintro dn ⟨hnd,hdn⟩
 refine Vstep.next rfl rfl rfl (λhall=>?_) (λj x hj hjn=>?_)
 rotate_left
 ·have hjO: ∃s,O[j]?=some s/\x=(s.at_, .ag s.node.c):=by
   simp only[zbw,List.getElem?_map,Option.map_eq_some_iff]at hj
   obtain⟨s,hs,rfl⟩:=hj
   exact⟨s,hs,rfl⟩
  obtain⟨s,hs,rfl⟩:=hjO
  have hsm:=List.mem_of_getElem? hs
  refine zp ?_
  refine Vstep.entry rfl rfl rfl hj ?_
  refine za rfl rfl ?_
  refine Vcall.bool (zbmb s.at_ s.node (hOf s hsm)) (λhp=>zu rfl (zq ?_)) (λhp=>zt rfl (zp ?_))
  ·have hlen:(dn++[j]).length<=O.length:=zj0 _ (by
    rw[List.nodup_append]
    exact⟨hnd,by simp,λy hy z hz e=>hjn (by rw[List.mem_singleton.1 hz]at e;exact e▸hy)⟩) λy hy=>by
     rcases List.mem_append.1 hy with hy |hy
     ·obtain⟨s',h',_⟩:=hdn y hy
      exact(List.getElem?_eq_some_iff.1 h').1
     ·rw[List.mem_singleton.1 hy];exact(List.getElem?_eq_some_iff.1 hs).1
   rw[aL]at hlen
   refine⟨dn++[j],⟨?_,λy hy=>?_⟩,by simp only[aL,List.length_cons,List.length_nil]at*;omega,zac [(0,0),(1,1)] rfl ⟨cr,rfl,rfl,trivial⟩ ⟨(aC aZ),zrv,trivial⟩⟩
   ·rw[List.nodup_append]
    exact⟨hnd,by simp,λy hy z hz e=>hjn (by rw[List.mem_singleton.1 hz]at e;exact e▸hy)⟩
   ·rcases List.mem_append.1 hy with hy |hy
    ·exact hdn y hy
    ·rw[List.mem_singleton.1 hy];exact⟨s,hs,hp⟩
  ·refine⟨_,zo _,zf (congrArg RV.b (Eq.symm ?_))⟩
   have:O.all (λs=>ze2 s.at_ s.node)=false:=ztt hsm hp
   simp[zd3,this]
 ·have hallO:O.all (λs=>ze2 s.at_ s.node)=true:=z1e λj hjl x hx=>by
   obtain⟨s,hs,hp⟩:=hdn j (hall j (by simpa[zbw]using hjl))
   rw[hx]at hs
   cases hs
   exact hp
  refine zq ?_
  refine⟨_,zo _,?_⟩
  refine Vstep.range rfl rfl zqy ?_
  refine Vloop.mkx (λdn:List Nat=>⟨[(1, .r (.b only)),(2, .own 0),(52, .own 1)],[(0,some (pbox leaves own O H)),(1,some (.gen (itO (zb2 H) dn none)))],2⟩) (λdn=>dn.Nodup/\∀j∈dn,∃s,H[j]?=some s/\s.hash.length=32) (λdn=>H.length-dn.length) [] ⟨List.nodup_nil,by simp⟩ (zac [(0,0),(1,2)] rfl ⟨cr,rfl,rfl,trivial⟩ ⟨(aC aZ),λ_ _ _ hh=>hh,trivial⟩) ?_
  clear hnd hdn hall
  rintro dn ⟨hnd,hdn⟩
  refine Vstep.next rfl rfl rfl (λhall=>?_) (λj x hj hjn=>?_)
  rotate_left
  ·have hjH: ∃s,H[j]?=some s/\x=(s.at_,bs s.hash):=by
    simp only[zb2,List.getElem?_map,Option.map_eq_some_iff]at hj
    obtain⟨s,hs,rfl⟩:=hj
    exact⟨s,hs,rfl⟩
   obtain⟨s,hs,rfl⟩:=hjH
   have hsm:=List.mem_of_getElem? hs
   have hsl:=hHl s hsm
   refine zp ?_
   refine Vstep.entry rfl rfl rfl hj ?_
   refine zh (λh3=>zp ?_) (λh3=>zq ?_)
   ·simp only[zb]at h3
    refine⟨_,zo _,zf (congrArg RV.b (Eq.symm ?_))⟩
    have:H.all (λs=>decide (s.hash.length=32))=false:=ztt hsm (by simp;omega)
    simp[zd3,this]
   ·simp only[zb]at h3
    have hlen:(dn++[j]).length<=H.length:=zj0 _ (by
     rw[List.nodup_append]
     exact⟨hnd,by simp,λy hy z hz e=>hjn (by rw[List.mem_singleton.1 hz]at e;exact e▸hy)⟩) λy hy=>by
      rcases List.mem_append.1 hy with hy |hy
      ·obtain⟨s',h',_⟩:=hdn y hy
       exact(List.getElem?_eq_some_iff.1 h').1
      ·rw[List.mem_singleton.1 hy];exact(List.getElem?_eq_some_iff.1 hs).1
    rw[aL]at hlen
    refine⟨dn++[j],⟨?_,λy hy=>?_⟩,by simp only[aL,List.length_cons,List.length_nil]at*;omega,zac [(0,0),(1,1)] rfl ⟨cr,rfl,rfl,trivial⟩ ⟨(aC aZ),zrv,trivial⟩⟩
    ·rw[List.nodup_append]
     exact⟨hnd,by simp,λy hy z hz e=>hjn (by rw[List.mem_singleton.1 hz]at e;exact e▸hy)⟩
    ·rcases List.mem_append.1 hy with hy |hy
     ·exact hdn y hy
     ·rw[List.mem_singleton.1 hy];exact⟨s,hs,by omega⟩
  ·have hallH:H.all (λs=>decide (s.hash.length=32))=true:=z1e λj hjl x hx=>by
    obtain⟨s,hs,hp⟩:=hdn j (hall j (by simpa[zb2]using hjl))
    rw[hx]at hs
    cases hs
    simpa using hp
   refine zq ?_
   refine⟨_,zo _,?_⟩
   obtain⟨d,hd,hd2⟩:=zgs hf
   have hdl:leaves.toNat.log2=d:=by rw[hd2,Int.toNat_natCast,Nat.log2_two_pow]
   obtain⟨r,hr⟩: ∃r,r=visV O own only d 0 0 []:=⟨_,rfl⟩
   have hrl:=zz3 O own only d 0 0 []
   rw[<-hr]at hrl
   have hp17:2^(d+1)<=131072:=Nat.pow_le_pow_right (n:=2) (by omega) (show d+1<=17 by omega)
   have hfin:zd3 leaves own O H only=(r.2.2&&(decide (r.1=zbo (O.map (·.at_)))&&decide (r.2.1=zbo (H.map (·.at_))))):=by
    simp[zd3,hf,h0',h1',hleaf,hallO,hallH,hdl,<-hr]
   rw[hfin]
   have hop:=λp0=>hso d r p0 hd2 hr
   obtain⟨A,B,okv⟩:=r
   simp only at hop hrl⊢
   refine Vstep.nm 0 1000000 rfl λp0=>Vstep.mkfunX [p0] rfl ⟨_,_,rfl,⟨0,1000000,rfl,rfl⟩,rfl⟩ ?_
   refine zj [(0,0)] [0] (λvs hv=>zhl (by simp only[List.map];rw[hv 0 0 1000000 _ rfl rfl]) (hop p0)) (zi rfl ⟨_,_,rfl,cr,_,_,rfl,cr,_,_,rfl,cr,_,_,rfl,cr,rfl⟩) rfl ⟨(aC aZ),trivial⟩ ⟨zad,trivial⟩ ?_
   have hsn:(zbo (O.map (·.at_))).length<=1000000:=by unfold zbo;rw[List.length_mergeSort,List.length_map];exact hOn
   have hsh:(zbo (H.map (·.at_))).length<=1000000:=by unfold zbo;rw[List.length_mergeSort,List.length_map];exact hHn
   have kN:=zua (zbw O) (by simpa[zbw]using hOn) (λx hx=>by
    simp only[zbw,List.mem_map]at hx
    obtain⟨s,hs,rfl⟩:=hx
    exact hOi s hs)
   have kH:=zt9 (zb2 H) (by simpa[zb2]using hHn) (λx hx=>by
    simp only[zb2,List.mem_map]at hx
    obtain⟨s,hs,rfl⟩:=hx
    exact hHi s hs)
   rw[zmc]at kN
   rw[zly]at kH
   cases okv with
   |false=>exact zf rfl
   |true=>
    refine ze (z1s (zbw O)) ?_
    refine ze kN ?_
    refine Vcall.bool (zp7 A (zbo (O.map λs:Spot=>s.at_)) (by omega) (by omega)) (λhe=>?_) (λhe=>?_)
    ·refine ze (z1r (zb2 H)) ?_
     refine ze kH ?_
     refine ze (zp7 B (zbo (H.map λs:Stub=>s.at_)) (by omega) (by omega)) ?_
     exact zf (congrArg RV.b (by rw[he];simp))
    ·exact zf (congrArg RV.b (by rw[he];simp))
theorem znbb(pv:Value)(lf:Leaf):Acts aP 508 1 [(0,pbox 1 0 [⟨0,L1 lf⟩] [])] [.r (I 0), .own 0] [(0,pv)] 2 [(0,pbox 1 0 [⟨0,L1 lf⟩] [])] (.r (.tu [.ag (L1 lf).c, .b true])):=by
 have h:=g_at pv 1 0 [⟨0,L1 lf⟩] [] 0
 have e1:zjc [⟨0,L1 lf⟩] 0=L1 lf:=by simp[zjc,zbk]
 have e2:zlp [⟨0,L1 lf⟩] 0=true:=by simp[zlp,zbk]
 rw[e1,e2]at h
 exact h
structure VE where
 lf:Leaf
 i:Int
 only:Bool
 p0:Value
 p1:Value
 p2:Value
 p3:Value
 p4:Value
 p5:Value
 p6:Value
 p7:Value
 p8:Value
def VE.fat(c:VE):Value:= .func (.func 508) #[] #[c.p0]
def VE.vis(c:VE):Value:= .func (.func 450) #[] #[c.p3,c.p6,c.p8,c.p4]
def VE.chi(c:VE):Value:= .func (.func 448) #[] #[c.p1,c.p7,c.p2,c.p5]
def VE.mem(c:VE)(A B:List Int)(ok:Bool):List (Nat×Ow):=
 [(0,pbox 1 0 [⟨0,L1 c.lf⟩] []),(1, .box [.r (I c.i)]),(2, .box [.r (.b c.only)]),(3, .box [.r (.x c.fat)]),(4, .box [.own 9]),(5, .box [.own 10]),(6, .box [.r (.b ok)]),(7, .box [.r (.x c.vis)]),(8, .box [.r (.x c.chi)]),
 (9, .ch 3 1 A.length (A.map I) false),(10, .ch 3 1 B.length (B.map I) false)]
def VE.nms(c:VE):List (Nat×Value):=[(0,c.p0),(1,c.p1),(2,c.p2),(3,c.p3),(4,c.p4),(5,c.p5),(6,c.p6),(7,c.p7),(8,c.p8)]
theorem VE.same(c:VE)(A B A' B':List Int)(ok ok':Bool):zjz (c.mem A B ok) (c.mem A' B' ok') c.nms:=
 ⟨⟨_,_,rfl,rfl,zai,zai⟩,⟨_,_,rfl,rfl,zai,zai⟩,⟨_,_,rfl,rfl,zai,zai⟩,⟨_,_,rfl,rfl,zai,zai⟩,⟨_,_,rfl,rfl,zai,zai⟩,⟨_,_,rfl,rfl,zai,zai⟩,⟨_,_,rfl,rfl,zai,zai⟩,⟨_,_,rfl,rfl,zai,zai⟩,⟨_,_,rfl,rfl,zai,zai⟩,trivial⟩
set_option maxHeartbeats 2000000 in
theorem VE.visit(c:VE)(A B:List Int)(ok:Bool)(hlf:c.lf.fit)(hA:A.length<=1000000):
  Acts aP 450 11 (c.mem A B ok) [.r (I 0), .r (I 0), .r (is []), .own 3, .own 6, .own 8, .own 4] c.nms 11 (c.mem (A++[(0:Int)]) B ok) (.r (.tu [])):=by
 refine zah (T:=Tab) mixed Tab_ok Tryz.func450 rfl (by kernel_rfl) rfl (c.same _ _ _ _ _ _) ?_
 refine zj [(0,0)] [0] (λvs _=>znbb (vs 0) c.lf) (Handed.clo (fs:=[.r (I _)]) (cs:=[.own 0]) rfl rfl ⟨_,_,rfl,cr,rfl⟩ ⟨_,_,rfl,⟨0,1000000,rfl,rfl⟩,rfl⟩) rfl ⟨(aC aZ),trivial⟩ ⟨zad,trivial⟩ ?_
 refine zu rfl (zq ?_)
 refine zu rfl (zq ?_)
 refine⟨by decide,_,rfl,?_⟩
 refine zu rfl (zq ?_)
 refine zw ?_
 refine Vapp.mk' (j:=(A++[(0:Int)]).length) (zs:=(A++[(0:Int)]).map I) (by simp only[maxLen,aL];omega) (by simp;omega) (by rw[aL (bs:=[_])];rfl) (List.map_append (f:=I) (l₁:=A) (l₂:=[(0:Int)])).symm ?_
 refine⟨by decide,_,rfl,?_⟩
 refine zu rfl (zq ?_)
 exact zan (.inr rfl) [(0,0),(1,1),(2,2),(3,3),(4,4),(5,5),(6,6),(7,7),(8,8),(9,15),(10,10)] [] [] rfl ⟨⟨rfl,rfl⟩,⟨rfl,rfl⟩,⟨rfl,rfl⟩,⟨rfl,rfl⟩,⟨rfl,rfl⟩,⟨rfl,rfl⟩,⟨rfl,rfl⟩,⟨rfl,rfl⟩,⟨rfl,rfl⟩,trivial⟩ ⟨(aC aZ),(aA aZ),(aA aZ),(aA aZ),⟨_,_,rfl,rfl,rfl⟩,⟨_,_,rfl,rfl,rfl⟩,(aA aZ),(aA aZ),(aA aZ),⟨rfl,rfl,rfl,rfl,zn _⟩,⟨rfl,rfl,rfl,rfl,zn _⟩,trivial⟩ ⟨⟨1000000,rfl⟩,⟨1000001,rfl⟩,⟨1000002,rfl⟩,⟨1000003,rfl⟩,⟨1000004,rfl⟩,⟨1000005,rfl⟩,⟨1000006,rfl⟩,⟨1000007,rfl⟩,⟨1000008,rfl⟩,trivial⟩ ⟨_,rfl,cr⟩
set_option maxHeartbeats 2000000 in
theorem zcib(lf:Leaf)(hlf:lf.fit)(p0:Value)(i:Int)(only:Bool):
  Acts aP 372 1 [(0,pbox 1 0 [⟨0,L1 lf⟩] [])] [.r (I 1), .r (I i), .r (.b only), .r (.x (.func (.func 508) #[] #[p0]))] [(0,p0)] 11 [(0,pbox 1 0 [⟨0,L1 lf⟩] [])] (.r (.tu [is [0],is [], .b true])):=by
 refine zah (T:=Tab) mixed Tab_ok Tryz.func372 rfl (by kernel_rfl) rfl ⟨⟨_,_,rfl,rfl,zai,zai⟩,trivial⟩ ?_
 refine Vstep.nm 1 1000001 rfl λp1=>Vstep.nm 7 1000007 rfl λp7=>Vstep.nm 2 1000002 rfl λp2=>Vstep.nm 5 1000005 rfl λp5=>Vstep.mkfunX [p1,p7,p2,p5] rfl ⟨_,_,rfl,⟨1,1000001,rfl,rfl⟩,_,_,rfl,⟨7,1000007,rfl,rfl⟩,_,_,rfl,⟨2,1000002,rfl,rfl⟩,_,_,rfl,⟨5,1000005,rfl,rfl⟩,rfl⟩ ?_
 refine Vstep.nm 3 1000003 rfl λp3=>Vstep.nm 6 1000006 rfl λp6=>Vstep.nm 8 1000008 rfl λp8=>Vstep.nm 4 1000004 rfl λp4=>Vstep.mkfunX [p3,p6,p8,p4] rfl ⟨_,_,rfl,⟨3,1000003,rfl,rfl⟩,_,_,rfl,⟨6,1000006,rfl,rfl⟩,_,_,rfl,⟨8,1000008,rfl,rfl⟩,_,_,rfl,⟨4,1000004,rfl,rfl⟩,rfl⟩ ?_
 refine Vdraw.cut 3 (by kernel_rfl) ?_
 refine ze (z7n 1) ?_
 have hvis:=VE.visit ⟨lf,i,only,p0,p1,p2,p3,p4,p5,p6,p7,p8⟩ [] [] true hlf (by decide)
 simp only[List.nil_append]at hvis
 refine Vstep.sub (Sub.trans (zb4 false 4 0 3 1 rfl rfl) (zb4 false 5 0 3 1 rfl rfl)) ?_
 refine zj [(0,0),(1,1),(2,2),(3,3),(4,4),(5,5),(6,6),(7,7),(8,8),(9,9),(10,10)] [0,1,2,3,4,5,6,7,8] (λvs hv=>zhl (by simp only[List.map];rw[hv 0 0 1000000 _ rfl rfl,hv 1 1 1000001 _ rfl rfl,hv 2 2 1000002 _ rfl rfl,hv 3 3 1000003 _ rfl rfl,hv 4 4 1000004 _ rfl rfl,hv 5 5 1000005 _ rfl rfl,hv 6 6 1000006 _ rfl rfl,hv 7 7 1000007 _ rfl rfl,hv 8 8 1000008 _ rfl rfl];rfl) hvis) (Handed.clo (fs:=[.r (I _), .r (I _), .r (is [])]) (cs:=[.own 3, .own 6, .own 8, .own 4]) rfl rfl ⟨_,_,rfl,cr,_,_,rfl,cr,_,_,rfl,Cv.nil 1,rfl⟩ ⟨_,_,rfl,⟨3,1000003,rfl,rfl⟩,_,_,rfl,⟨6,1000006,rfl,rfl⟩,_,_,rfl,⟨8,1000008,rfl,rfl⟩,_,_,rfl,⟨4,1000004,rfl,rfl⟩,rfl⟩) rfl ⟨(aC aZ),(aA aZ),(aA aZ),(aA aZ),⟨_,_,rfl,rfl,rfl⟩,⟨_,_,rfl,rfl,rfl⟩,(aA aZ),(aA aZ),(aA aZ),⟨rfl,rfl,rfl,rfl,zn _⟩,⟨rfl,rfl,rfl,rfl,zn _⟩,trivial⟩ ⟨zad,zad,zad,zad,zad,zad,zad,zad,zad,zlb,zlb,trivial⟩ ?_
 refine Vdraw.code (Vcode.float mixed Tab_ok 5 [⟨0,19, .own 9,[]⟩,⟨1,20, .own 10,[]⟩,⟨2,21, .r (.b true),[]⟩] [(3,[0]),(4,[1])] (by kernel_rfl) (F:=[(8, .own 4),(9, .own 5),(10, .own 6),(1000000, .nm 0 p0)]) (O:=[(0,some (pbox 1 0 [⟨0,L1 lf⟩] [])),(4,some (.box [.own 9])),(5,some (.box [.own 10])),(6,some (.box [.r (.b true)])),(9,some (.ch 3 1 1 [I 0] false)),(10,some (.ch 3 1 0 [] false))]) (nx:=11) (zac [(0,0),(4,4),(5,5),(6,6),(9,20),(10,21)] rfl ⟨rfl,rfl,rfl,⟨rfl,rfl⟩,trivial⟩ ⟨(aC aZ),⟨_,_,rfl,rfl,rfl⟩,⟨_,_,rfl,rfl,rfl⟩,(aA aZ),⟨rfl,rfl,rfl,rfl,zn _⟩,⟨rfl,rfl,rfl,rfl,zn _⟩,trivial⟩) ?_)
 refine⟨rfl,⟨λY=>zo _,λY=>zo _,λY=>zo _,trivial⟩,[(8, .own 4),(9, .own 5),(10, .own 6),(1000000, .nm 0 p0)],(4,some (.box [.own 9]))::[(0,some (pbox 1 0 [⟨0,L1 lf⟩] [])),(4,some (.box [.own 9])),(5,some (.box [.own 10])),(6,some (.box [.r (.b true)])),(9,some (.ch 3 1 1 [I 0] false)),(10,some (.ch 3 1 0 [] false))],11,λY=>zo _,?_⟩
 refine⟨rfl,⟨λY=>zo _,λY=>zo _,λY=>zo _,trivial⟩,[(8, .own 4),(9, .own 5),(10, .own 6),(1000000, .nm 0 p0)],(5,some (.box [.own 10]))::(4,some (.box [.own 9]))::[(0,some (pbox 1 0 [⟨0,L1 lf⟩] [])),(4,some (.box [.own 9])),(5,some (.box [.own 10])),(6,some (.box [.r (.b true)])),(9,some (.ch 3 1 1 [I 0] false)),(10,some (.ch 3 1 0 [] false))],11,λY=>zo _,?_⟩
 refine⟨rfl,⟨λY=>zo _,λY=>zo _,λY=>zo _,trivial⟩,?_⟩
 refine z1m (Sub.trans (zbd (id:=9) rfl) (zbd (id:=10) rfl)) ?_
 exact zan (.inl rfl) [(0,0),(4,4),(5,5),(6,6),(9,9),(10,10)] [(8, .own 4),(9, .own 5),(10, .own 6)] [(4,some (.box [.own 9])),(5,some (.box [.own 10])),(6,some (.box [.r (.b true)])),(9,some (.ch 3 1 1 [I 0] true)),(10,some (.ch 3 1 0 [] true))] rfl ⟨rfl,rfl,rfl,⟨rfl,rfl⟩,trivial⟩ ⟨(aC aZ),⟨_,_,rfl,rfl,rfl⟩,⟨_,_,rfl,rfl,rfl⟩,(aA aZ),⟨rfl,rfl,rfl,rfl,zn _⟩,⟨rfl,rfl,rfl,rfl,zn _⟩,trivial⟩ ⟨⟨1000000,rfl⟩,trivial⟩ ⟨_,rfl,cr⟩
theorem vis1(lf:Leaf)(only:Bool):visV [⟨0,L1 lf⟩] 0 only 0 0 0 []=([0],[],true):=by
 unfold visV
 have:zbk [⟨0,L1 lf⟩] ((nd 0 0:Nat):Int)=some (L1 lf):=by simp[zbk,nd]
 rw[this]
 rfl
theorem zhrb{d:Nat}(h:(1:Int)=((2^d:Nat):Int)):d=0:=by
 cases d with
 |zero=>rfl
 |succ n=>
  have:1<=2^n:=Nat.one_le_two_pow
  rw[Nat.pow_succ]at h
  omega
section
variable (lf:Leaf) (hlf:lf.fit) (hlr:lf.right=true)
include hlf hlr
omit hlf in
theorem zyv:sR (oneS (L1 lf))=true:=z5w (zis hlr) rfl
theorem z8k:aG 457 [(oneS (L1 lf)).pr, .b false] (.r (.b true)):=by
 have hR:=zyv lf hlr
 unfold sR at hR
 simp only[Bool.and_eq_true]at hR
 have hb:=z2p (zdx hlf)
 have h:=z0m 1 0 hb.nl hb.no (oneS (L1 lf)).opn (oneS (L1 lf)).shut false hb.lo hb.lh hb.fo hb.ao hb.ah hb.fh (λd r p0 hd hr=>by
  have h0:=zhrb hd
  subst h0
  have e:r=([0],[],true):=hr.trans (vis1 lf false)
  rw[e]
  exact zcib lf hlf p0 0 false)
 have e:zd3 1 0 (oneS (L1 lf)).opn (oneS (L1 lf)).shut false=true:=hR.2
 rw[e]at h
 exact h
theorem zrq:aG 377 [.ag (oneS (L1 lf)).c] (.r (.tu [(oneS (L1 lf)).pr, .b true])):=by
 have hb:=z2p (zdx hlf)
 have hR:=zyv lf hlr
 have hp:=zmib hR
 unfold sR at hR
 simp only[Bool.and_eq_true]at hR
 have c0:=z7j (oneS (L1 lf)) hb
 rw[hp,hR.1]at c0
 refine aT Tryz.func377 rfl ?_
 refine za rfl rfl ?_
 refine ze c0 ?_
 refine aV ?_
 refine za rfl rfl ?_
 refine za rfl rfl ?_
 refine ze (z8k lf hlf hlr) ?_
 refine za rfl rfl ?_
 exact⟨_,rfl,cr⟩
theorem zui:aG 275 [.ag (oneS (L1 lf)).c] (.r (.b true)):=by
 refine aT Tryz.func275 rfl ?_
 refine za rfl rfl ?_
 refine ze (zrq lf hlf hlr) ?_
 exact cr
theorem zcqb:aG 280 [.ag (oneS (L1 lf)).c,I 0] (.r (.tu [.ag (L1 lf).c, .b true])):=by
 refine aT Tryz.func280 rfl ?_
 refine za rfl rfl ?_
 refine ze (zrq lf hlf hlr) ?_
 refine Vstep.node2 rfl rfl rfl (λm hm=>?_) (λhm=>?_)
 ·have e:zbk [⟨0,L1 lf⟩] 0=some m:=hm
  have e2:zbk [⟨0,L1 lf⟩] 0=some (L1 lf):=by simp[zbk]
  obtain rfl:L1 lf=m:=by rw[e2]at e;injection e
  refine zu rfl ?_
  refine zu rfl ?_
  refine zq ?_
  refine za rfl rfl ?_
  refine ze (ze3 (L1 lf) (zdx hlf) (zb1 _ hlf)) ?_
  refine za rfl rfl ?_
  exact⟨_,rfl,cr⟩
 ·have e:zbk [⟨0,L1 lf⟩] 0=none:=hm
  simp[zbk]at e
end
theorem zb0b:aG 279 [zk4 [],nl] (.r (.tu [z5z [],bs []])):=by
 refine aT Tryz.func279 rfl ?_
 refine⟨rfl,by decide,by decide,by decide,0,[],rfl,rfl,zw ?_⟩
 refine zd (m:= -1) rfl (by decide) ?_
 refine Vloop.rounds 1 (Vrounds.step mixed Tab_ok ?_)
 refine zu rfl (zq ?_)
 exact⟨_,rfl,Cv.tu (zk (cr) (zk (Cv.nil 1) Cvs.nil))⟩
theorem z88(w:World):Calls aP 518 #[.int .u64 1] w λe w'=>e= .returned (.int .i64 1)/\w=w':=by
 go_enter Tryz.func518,Tryz.ntmps518
 go_wp2_with fail
 go_ret
 exact⟨congrArg (λx=>Ending.returned (.int .i64 x)) (show wrap64 (wrap64 (Lib.len8 1))=1 by decide+kernel),rfl⟩
theorem zglb:aG 518 [.i .u64 1] (.r (I 1)):=
 zbub (us:=[.int .u64 1]) (u:= .int .i64 1) (zdt Tryz.func518 rfl (by kernel_rfl)) (λ_ _ _ h=>by
  obtain⟨u,rfl,h1⟩:=zyz h
  simp only[RV.at_]at h1
  rw[h1]) (λ_ _=>by simp[RV.at_]) λw=>z88 w
theorem zncb:aG 461 [.i .u64 1] (.r (I 1)):=by
 refine aT Tryz.func461 rfl ?_
 refine zq ?_
 refine ze zglb ?_
 exact cr
theorem zb8b(k:KeyP):aG 509 [keyR [k],I 0,I 1, .x (.func (.func 382) #[] #[])] (.r (.tu [])):=by
 refine aT Tryz.func509 rfl ?_
 refine zd (m:=1) rfl (by decide) ?_
 refine Vloop.rounds 1 (Vrounds.step mixed Tab_ok ?_)
 refine zu rfl (zq ?_)
 exact⟨_,rfl,cr⟩
theorem zjwb(k:KeyP):aG 460 [keyR [k],I 0,I 1,I 1, .x (.func (.func 382) #[] #[])] (.r (.tu [])):=by
 refine aT Tryz.func460 rfl ?_
 refine Vloop.rounds 1 (Vrounds.step mixed Tab_ok ?_)
 refine zd (m:=1) rfl (by decide) ?_
 refine zt rfl (zp ?_)
 refine ze (zb8b k) ?_
 exact⟨_,rfl,cr⟩
theorem zcrb(k:KeyP):aG 381 [keyR [k], .x (.func (.func 382) #[] #[])] (.r (.tu [])):=by
 refine aT Tryz.func381 rfl ?_
 refine Vint.u64 (n:=1) rfl (by decide) ?_
 refine ze zncb ?_
 refine ze (zjwb k) ?_
 exact⟨_,rfl,cr⟩
theorem z4t(k:KeyP):aG 281 [keyR [k]] (.r (keyR [k])):=by
 refine aT Tryz.func281 rfl ?_
 refine ze (zcrb k) ?_
 exact cr
set_option maxHeartbeats 4000000 in
set_option maxRecDepth 20000 in
theorem z48(lf ol:Leaf)(hlf:lf.fit)(hol:ol.fit):aG 282 [.ag (zcl lf).c,zk4 [],z5z [], .ag ol.c] (.r (.ag (zcl ol).c)):=by
 refine aT Tryz.func282 rfl ?_
 refine zy (λi:Bool=>{F:=[(1, .r (zk4 [])),(2, .r (z5z [])),(4, .own 0),(7, .own 1),(8, .own 2),(9, .own 3),(22, .r (zsf (zcl lf).opn)),(23, .r (I 1)),(24, .r (cond i (I 1) (I 0)))],O:=rnO (zcl lf) ol (cond i [⟨0,L1 ol⟩] []) [],nx:=6})
  (λ_=>True) (λi=>cond i 0 1) false trivial
  ((zb4 true 3 2 241 11 (cells:=[.r (I 1), .r (I 0), .r (.x (.slice none 0 0)), .r (.x (.slice none 0 0))]) rfl rfl).trans ((zb4 true 3 3 432 2 (cells:=[.r (I 1), .r (I 0), .own 4, .r (.x (.slice none 0 0))]) rfl rfl).trans (zac [(0,0),(1,1),(2,2),(3,3),(4,4),(5,5)] rfl ⟨cr,cr,rfl,rfl,rfl,rfl,cr,cr,cr,trivial⟩ ⟨(aC aZ),(aC (aB aZ)),zae zero4,cvc (zbi _) (cvc (zbi _) (cvc rfl (cvc rfl rfl))),⟨rfl,rfl,rfl,rfl,zn _⟩,⟨rfl,rfl,rfl,rfl,zn _⟩,trivial⟩))) ?_
 rintro(_ |_) _
 ·refine zt rfl (zp ?_)
  refine zm i00 i01 rfl ?_
  refine za rfl rfl ?_
  refine za rfl rfl ?_
  refine ze (ze3 (L1 lf) (zdx hlf) (zb1 _ hlf)) ?_
  refine Vstep.sub (zcq (t:=11) (Spot.c ⟨0,L1 lf⟩) rfl rfl) (Vstep.mkfun zwo (λ_=>True) (λr=>decide (r.at_=0)) rfl rfl (λr _=>z4h r ⟨0,L1 lf⟩) ?_)
  refine ze (z7i [] (λr=>decide (r.at_=0)) (by decide)) ?_
  refine zg rfl ?_
  refine zd (m:=0) rfl (by show(-9223372036854775808:Int)<=0/\(0:Int)<=9223372036854775807;decide) ?_
  refine zt rfl (zp ?_)
  refine za rfl rfl ?_
  refine Vcall.mk' (ze3 ⟨1,ol,zpr⟩ ⟨hol,zpd⟩ (zb1 _ hol)) (zk (Cv.ag (zk (cr) (zk (cr) (zk (cr) (zk (cr) (zk (cr) (zk (cr) (zk (cr) (zk (Cv.nil 1) (zk (Cv.nil 1) (zk (Cv.nil 1) Cvs.nil))))))))))) Cvs.nil) ?_
  refine zg rfl ?_
  refine za rfl rfl ?_
  refine zw ?_
  refine Vapp.mk' (j:=1) (zs:=Spot.c ⟨0,L1 ol⟩) (by show 0+1<=maxLen;decide) (by show(0+1)*216<=140737488355328;decide) rfl (by simp[zde,cellsOf]) ?_
  refine zd (m:=1) rfl (by decide) ?_
  exact⟨true,trivial,by decide,zac [(0,0),(1,1),(2,2),(3,3),(4,_),(5,5)] rfl ⟨cr,cr,rfl,rfl,rfl,rfl,cr,cr,cr,trivial⟩ ⟨(aC aZ),(aC (aB aZ)),zae zero4,cvc (zbi _) (cvc (zbi _) (cvc rfl (cvc rfl rfl))),⟨rfl,rfl,rfl,rfl,zn _⟩,⟨rfl,rfl,rfl,rfl,zn _⟩,trivial⟩⟩
 ·refine zu rfl (zq ?_)
  refine Vloop.rounds 1 (Vrounds.step mixed Tab_ok ?_)
  refine zu rfl (zq ?_)
  refine za rfl rfl ?_
  refine za rfl rfl ?_
  exact cr
set_option maxHeartbeats 4000000 in
set_option maxRecDepth 20000 in
theorem zndb(lf ol:Leaf)(seed sig group com ls pl ql:List UInt8)(hlf:lf.fit)(hlr:lf.right=true)(hol:ol.fit)(hseed:seed.length=32)(hsig:sig.length=32)
  (c1:aG 277 [bs seed,I 0] (.r (bss [com])))
  (c5:aG 45 [bs seed,Str ⟨#[108,101,97,102]⟩] (.r (bs ls)))
  (c6:aG 49 [bs ls] (.r (.tu [bs pl,bs ql])))
  (c7:aG 51 [.ag (zd2 lf ql []).c,bs sig,bs group,I 0] (.r (.tu [.ag ol.c,Er 0]))):
  aG 183 [.ag (zcl lf).c,bs seed,bs sig,bs group] (.r (.tu [.ag (MadeP.c ⟨zcl ol,ol,[],[⟨0,pl⟩],[],com⟩),Er 0])):=by
 have c8:=z48 lf ol hlf hol
 refine aT Tryz.func183 rfl ?_
 refine za rfl rfl ?_
 refine ze (zui lf hlf hlr) ?_
 refine zu rfl (zq ?_)
 refine zu (by simp only[zb];omega) ?_
 refine zu (by simp only[zb];omega) (zq ?_)
 refine za rfl rfl ?_
 refine ze (zxc (oneS (L1 lf)) rfl rfl) ?_
 refine ze c1 ?_
 refine aV ?_
 refine⟨by decide,by decide,by show(0:Int)<=1;decide,0,[],rfl,rfl,?_⟩
 refine zm i00 i01 rfl (zg rfl ?_)
 refine Vloop.rounds 1 (Vrounds.step mixed Tab_ok ?_)
 refine zu rfl (zq ?_)
 refine ze zb0b ?_
 refine za rfl rfl ?_
 refine zd (m:=0) rfl (by show(-9223372036854775808:Int)<=0/\(0:Int)<=9223372036854775807;decide) ?_
 refine ze (zcqb lf hlf hlr) ?_
 refine za rfl rfl ?_
 refine ze c5 ?_
 refine ze c6 ?_
 refine za rfl rfl ?_
 refine Vcall.mk' c7 (zk (cr) (zn _)) ?_
 refine zu rfl (zq ?_)
 refine zd (m:=0) rfl (by show(-9223372036854775808:Int)<=0/\(0:Int)<=9223372036854775807;decide) ?_
 refine zw ?_
 refine Vapp.mk' (j:=1) (zs:=KeyP.c ⟨0,pl⟩) (by decide) (by decide) rfl rfl ?_
 refine ze (z4t ⟨0,pl⟩) ?_
 refine za rfl rfl ?_
 refine za rfl rfl ?_
 refine ze c8 ?_
 refine za rfl rfl ?_
 refine Vcall.mk' (ze3 ⟨1,ol,zpr⟩ ⟨hol,zpd⟩ (zb1 _ hol)) (zk (Cv.ag (zk (cr) (zk (cr) (zk (cr) (zk (cr) (zk (cr) (zk (cr) (zk (cr) (zk (Cv.nil 1) (zk (Cv.nil 1) (zk (Cv.nil 1) Cvs.nil))))))))))) Cvs.nil) ?_
 refine Vsem.fieldN Tab_ok rfl rfl rfl rfl rfl rfl rfl (Nat.le_of_ble_eq_true rfl) rfl ?_
 refine za rfl rfl ?_
 refine za rfl rfl ?_
 exact⟨_,rfl,Cv.tu (zk (Cv.ag (by repeat' (first|exact Cvs.nil|exact zn _|refine zk ?_ ?_|exact cr|exact Cv.nil _))) (zn _))⟩
end Go.Proofs.YtkegaaonpekkgaaGreat.Sx
