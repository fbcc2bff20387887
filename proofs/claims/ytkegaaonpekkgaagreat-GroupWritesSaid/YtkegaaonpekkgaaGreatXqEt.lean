import Derived.Test.YtkegaaonpekkgaaGreatXqHg
import Derived.Test.YtkegaaonpekkgaaGreatXqVg
import Derived.Test.YtkegaaonpekkgaaGreatXqMe
import Derived.Laws.ComplexArith
import Derived.Test.YtkegaaonpekkgaaGreatXqSxY
import Derived.Test.YtkegaaonpekkgaaGreatXqKa
import Derived.Laws.Cover3
import Derived.Shelf.RegionOpenPlain
import Derived.Lib.Walk
import Derived.Lib.SliceRun
import Derived.Lib.Overlaps
import Derived.Laws.Externs
import Derived.Laws.IdiomCopy
import Derived.Lib.AppendZerosOnto
import Derived.Laws.NewBlocks
import Derived.Test.YtkegaaonpekkgaaGreatXqFv
namespace Go.Proofs.YtkegaaonpekkgaaGreat.Sx
open Go.RowKit
abbrev Qf:ByteArray:=⟨#[98,111,120]⟩
abbrev nl:RV:= .x (.slice none 0 0)
theorem xg(seed label text:cT):(oo seed label text).length=64:=Jk _ _
def xy(n:Int):Nat:=(n%18446744073709551616).toNat
theorem Ww(x:Int)(h:i64 x):IntKind.u64.wrap x=((xy x:Nat):Int):=by
 unfold i64 at h
 unfold IntKind.wrap xy
 simp only[IntKind.bits,IntKind.signed]
 simp
 omega
def nI(l:Leaf)(group:cT)(at_:Int):cT:=if l.src.toNat=1 then xC l else xC l++zZ group++yg 4 (xy at_)
def r9(l:Leaf)(at_:Int):Bool:=decide (l.src.toNat=1)||(decide (0<=at_)&&decide (at_<65536))
theorem mJ(l:Leaf):(xC l).length<=l.box.length+l.sign.length+l.ident.length+l.parent.length+17:=by
 have v1:=yf l.box
 have v2:=yf l.sign
 have v3:=yf l.ident
 have v4:=yf l.parent
 unfold xC
 split<;>simp only[aL,bJ,bO]<;>omega
theorem Jy(l:Leaf)(group:cT)(at_:Int):(nI l group at_).length<=l.box.length+l.sign.length+l.ident.length+l.parent.length+group.length+25:=by
 have h:=mJ l
 have v:=yf group
 have b:=yj 4 (xy at_)
 unfold nI
 split
 ·omega
 ·simp only[aL]
  omega
theorem EQ(l:Leaf)(group:cT)(at_:Int)(hl:l.fit)(hg:group.length<=1000000000)(ha:i64 at_):aG 130 [.ag l.c,bs group,I at_] (.r (.tu [bs (nI l group at_),.b (r9 l at_)])):=by
 refine aT Tryz.func130 rfl ?_
 obtain⟨h1,h2,h3,h4,h5⟩:=hl
 have hA:=mJ l
 have hv:=yf group
 refine cU ?_
 refine zB (jE [] l (by simp) ⟨h1,h2,h3,h4,h5⟩) (zk (z8 _) (zn _)) ?_
 rw[cG]
 refine cZ (λh=>?_) λh=>?_
 ·simp only[zb]at h
  have h':l.src.toNat=1:=by omega
  have e1:nI l group at_=xC l:=cO h'
  have e2:r9 l at_=true:=by simp[r9,h']
  rw[e1,e2]
  exact⟨_,rfl,cr⟩
 ·simp only[zb]at h
  have h':l.src.toNat≠1:=by omega
  have e1:nI l group at_=xC l++zZ group++yg 4 (xy at_):=cQ h'
  have e2:r9 l at_=(decide (0<=at_)&&decide (at_<65536)):=by simp[r9,h']
  refine ze (x5 (xC l) group (by omega) (by omega)) ?_
  refine Vint.n ((xy at_:Nat):Int) (Ww at_ ha).symm ?_
  refine ze (sp (xC l++zZ group) 4 (xy at_) (by rw[aL];omega) (.inr (.inr (.inl rfl)))) ?_
  rw[e1,e2]
  refine zh (λh0=>?_) (λh0=>?_)
  ·simp only[zb]at h0
   have h0':0<=at_:=h0
   refine zG (m:=decide (at_<65536)) rfl ?_
   exact⟨_,rfl,zf (by rw[bE h0'];rfl)⟩
  ·simp only[zb]at h0
   have h0': ¬0<=at_:=h0
   exact⟨_,rfl,zf (by rw[bD h0'];rfl)⟩
def zS64:cT:=List.replicate 64 0
def B0:cT:=[76,101,97,102,78,111,100,101,84,66,83]
def Leaf.with(l:Leaf)(s:cT):Leaf:={l with sig:=s}
def sh(l:Leaf)(seed:cT)(at_:Int):Nat:=if(l.with zS64).right=true then if r9 l at_=true then if seed.length=32 then 0 else 1 else 1 else 3
def tW(l:Leaf)(seed group:cT)(at_:Int):Leaf:=l.with (oo seed B0 (nI l group at_))
def nF(l:Leaf)(seed group:cT)(at_:Int):RV:=if sh l seed at_=0 then .tu [.ag (tW l seed group at_).c,Er 0]else .tu [.ag zl.c,Er (sh l seed at_)]
theorem Xm:Cv (.ag [.x (.slice none 0 0),.x (.slice none 0 0),.x (.slice none 0 0),.i .u8 0,.x (.slice none 0 0),.x (.slice none 0 0)]) (.ag zl.c):=Cv.ag (zk (z8 1) (zk (z8 1) (zk (z8 1) (zk (cr) (zk (z8 1) (zk (z8 1) zA))))))
theorem mG:(List.replicate ((64:Int).toNat) ([Value.int .u8 0].map xT)).flatten=zS64.map U8:=by simp[xT,zS64]
abbrev Hg:ByteArray:=⟨#[76,101,97,102,78,111,100,101,84,66,83]⟩
section
variable (l:Leaf) (z seed group:cT) (at_:Int) (hl:l.fit) (hz:zS64=z)
include hl hz
set_option maxRecDepth 100000 in
theorem NL(hr:(l.with z).right=false):aG 51 [.ag l.c,bs seed,bs group,I at_] (.r (.tu [.ag zl.c,Er 3])):=by
 refine aT Tryz.func51 rfl ?_
 have hzl:64=z.length:=by rw[<-hz];decide
 refine cU ?_
 refine ze (ww l hl) ?_
 refine⟨rfl,by decide,by decide,by decide,z.length,z.map U8,hzl,by rw[mG,hz],zw ?_⟩
 refine cU ?_
 refine z6 (qd (l.with z)) (λhr'=>absurd hr' (by rw[hr];simp)) (λ_=>cY ?_)
 refine cU ?_
 exact⟨_,rfl,Cv.tu (zk Xm (zn _))⟩
variable (T:cT) (β:Bool) (hr:(l.with z).right=true) (hT:aG 130 [.ag (l.with z).c,bs group,I at_] (.r (.tu [bs T,.b β])))
include hr hT
set_option maxRecDepth 100000 in
theorem Kt(hβ:β=false):aG 51 [.ag l.c,bs seed,bs group,I at_] (.r (.tu [.ag zl.c,Er 1])):=by
 subst hβ
 refine aT Tryz.func51 rfl ?_
 have hzl:64=z.length:=by rw[<-hz];decide
 refine cU ?_
 refine ze (ww l hl) ?_
 refine⟨rfl,by decide,by decide,by decide,z.length,z.map U8,hzl,by rw[mG,hz],zw ?_⟩
 refine cU ?_
 refine z6 (qd (l.with z)) (λ_=>cX ?_) (λhr'=>absurd hr' (by rw[hr];simp))
 refine cU ?_
 refine ze hT ?_
 refine cY ?_
 refine cU ?_
 exact⟨_,rfl,Cv.tu (zk Xm (zn _))⟩
set_option maxRecDepth 100000 in
theorem Ku(q:cT)(e:Nat)(hβ:β=true)(hq:aG 53 [bs seed,vd Hg,bs T] (.r (.tu [bs q,Er e])))(he:e=1):aG 51 [.ag l.c,bs seed,bs group,I at_] (.r (.tu [.ag zl.c,Er 1])):=by
 subst hβ;subst he
 refine aT Tryz.func51 rfl ?_
 have hzl:64=z.length:=by rw[<-hz];decide
 refine cU ?_
 refine ze (ww l hl) ?_
 refine⟨rfl,by decide,by decide,by decide,z.length,z.map U8,hzl,by rw[mG,hz],zw ?_⟩
 refine cU ?_
 refine z6 (qd (l.with z)) (λ_=>cX ?_) (λhr'=>absurd hr' (by rw[hr];simp))
 refine cU ?_
 refine ze hT ?_
 refine cX ?_
 refine ze hq ?_
 refine cY ?_
 refine cU ?_
 exact⟨_,rfl,Cv.tu (zk Xm (zn _))⟩
set_option maxRecDepth 100000 in
theorem GA(q:cT)(hβ:β=true)(hq:aG 53 [bs seed,vd Hg,bs T] (.r (.tu [bs q,Er 0]))):aG 51 [.ag l.c,bs seed,bs group,I at_] (.r (.tu [.ag (l.with q).c,Er 0])):=by
 subst hβ
 refine aT Tryz.func51 rfl ?_
 have hzl:64=z.length:=by rw[<-hz];decide
 refine cU ?_
 refine ze (ww l hl) ?_
 refine⟨rfl,by decide,by decide,by decide,z.length,z.map U8,hzl,by rw[mG,hz],zw ?_⟩
 refine cU ?_
 refine z6 (qd (l.with z)) (λ_=>cX ?_) (λhr'=>absurd hr' (by rw[hr];simp))
 refine cU ?_
 refine ze hT ?_
 refine cX ?_
 refine ze hq ?_
 refine cX ?_
 refine cU ?_
 refine cU ?_
 exact⟨_,rfl,cr⟩
end
theorem Z5(l:Leaf)(seed group:cT)(at_:Int)(hl:l.fit)(hg:group.length<=100000000)(hb:l.box.length+l.sign.length+l.ident.length+l.parent.length<=100000000)(ha:i64 at_):
  aG 51 [.ag l.c,bs seed,bs group,I at_] (.r (nF l seed group at_)):=by
 have hl':=hl
 obtain⟨h1,h2,h3,h4,h5⟩:=hl'
 have hf:(l.with zS64).fit:=⟨h1,h2,h3,h4,by show zS64.length<=_;decide⟩
 have ht:=Jy l group at_
 have hT:aG 130 [.ag (l.with zS64).c,bs group,I at_] (.r (.tu [bs (nI l group at_),.b (r9 l at_)])):=EQ (l.with zS64) group at_ hf (by omega) ha
 have herr: ∀e:Nat,sh l seed at_=e->e≠0->nF l seed group at_= .tu [.ag zl.c,Er e]:=λe h h0=>by rw[nF,h,cQ h0]
 cases hr:(l.with zS64).right with
 |false=>
  rw[herr 3 (by unfold sh;rw[cQ (by rw[hr];simp)]) (by decide)]
  exact NL l zS64 seed group at_ hl rfl hr
 |true=>
  cases ho:r9 l at_ with
  |false=>
   rw[herr 1 (by unfold sh;rw[cO hr,cQ (by rw[ho];simp)]) (by decide)]
   exact Kt l zS64 seed group at_ hl rfl _ _ hr hT ho
  |true=>
   by_cases hs:seed.length=32
   ·have hS:nF l seed group at_= .tu [.ag (tW l seed group at_).c,Er 0]:=by
     have:sh l seed at_=0:=by unfold sh;rw[cO hr,cO ho,cO hs]
     rw[nF,cO this]
    rw[hS]
    exact GA l zS64 seed group at_ hl rfl _ _ hr hT _ ho (sN seed Hg (nI l group at_) hs (by decide) (by omega))
   ·rw[herr 1 (by unfold sh;rw[cO hr,cO ho,cQ hs]) (by decide)]
    exact Ku l zS64 seed group at_ hl rfl _ _ hr hT _ _ ho (uI seed Hg (nI l group at_) hs (by decide) (by omega)) rfl
section
variable {P:Program} {S:St} {o:Oper}
theorem Vstep.callS0{t:Nat}{ts:Array TypeId}{f:FuncId}{rvs:List RV}{r:RV}{K:St->Prop}(hop:o.op= .call {callee:= .value (.tmp t),args:= #[],argTypes:=ts}) (hf:yl S.F t=some (.r (.s (Y3 f rvs)))) (hg:zW P f rvs (.r r)) (hK:yI S o.dst (.r r) none K):Vstep P S o K:=by
 rw[yJ]at hK
 refine zI (λB N a w k Q ⟨g,hs⟩ hd=>?_) hK
 have hfv:=(hs.facts t _ hf).2
 simp only[TF.at_,RV.at_]at hfv
 obtain⟨cap,e,hp⟩:=hfv
 have:=nk (o:=o) (Q:=Q) (K:=λf ow=>f= .r r/\ow=none) hs hp (zn rvs) hg (by
  have e2:a.eval (.tmp t)= .func (.func f) #[] cap:=by
   have:a.eval (.tmp t)=a.tmps.getD t undef:=by simp[Act.eval]
   rw[this,e]
  simp[execOp,hop,resolve,e2,Deferred.ofValue,invoke]) ⟨rfl,rfl⟩
 refine Oper.wp_mono ?_ this
 rintro a' w' ⟨f',ow,u,k',⟨rfl,rfl⟩,rfl,hl⟩
 exact⟨k',hl.sat hs hd⟩
end
def uy(β:Bool)(l:cT):RV:=cond β (.tu [bs l,Er 0]) (.tu [bs [],Er 3])
theorem qM(β:Bool)(f:FuncId)(rvs:List RV)(l:cT)(hg:β=true->aG f rvs (.r (bs l))):aG 131 [.b β,.s (Y3 f rvs)] (.r (uy β l)):=by
 refine aT Tryz.func131 rfl ?_
 cases β with
 |false=>
  refine cY ?_
  exact⟨_,rfl,Cv.tu (zk (z8 1) (zn _))⟩
 |true=>
  refine cX ?_
  refine Vstep.callS0 rfl rfl (hg rfl) ?_
  exact⟨_,rfl,cr⟩
theorem rM(l:Leaf):(xA l).length<=l.box.length+l.sign.length+l.ident.length+l.parent.length+l.sig.length+21:=by
 have:=mJ l
 have:=yf l.sig
 rw[xA,aL]
 omega
theorem gu(l:Leaf)(hl:l.fit):aG 333 [.ag l.c] (.r (uy l.right (xA l))):=by
 refine aT Tryz.func333 rfl ?_
 have hA:=mJ l
 obtain⟨h1,h2,h3,h4,h5⟩:=id hl
 refine cU ?_
 have hg:=qd l
 cases hr:l.right with
 |true=>
  rw[hr]at hg
  refine ze hg ?_
  refine cX ?_
  refine aV ?_
  refine cU ?_
  refine zB (jE [] l (by simp) hl) (zk (z8 _) (zn _)) ?_
  rw[cG]
  refine ze (x5 (xC l) l.sig (by omega) (by omega)) ?_
  exact⟨_,rfl,cr⟩
 |false=>
  rw[hr]at hg
  refine ze hg ?_
  refine cY ?_
  exact⟨_,rfl,Cv.tu (zk (z8 1) (zn _))⟩
theorem qG(l:Leaf)(hl:l.fit)(hr:l.right=true):aG 226 [.ag l.c] (.r (bs (xA l))):=by
 refine aT Tryz.func226 rfl ?_
 have h:=gu l hl
 rw[hr]at h
 refine cU ?_
 refine ze h ?_
 exact cr
theorem qJ(l:Leaf)(s:UInt8)(hl:l.fit):aG 225 [.ag l.c,U8 s] (.r (.b (l.right&&decide (l.src=s)))):=by
 refine aT Tryz.func225 rfl ?_
 have h:=gu l hl
 refine cU ?_
 cases hr:l.right with
 |true=>
  rw[hr]at h
  refine ze h ?_
  refine zt rfl ?_
  refine zG (m:=decide (l.src=s)) ?_ ?_
  ·rw[cD]
   simp only[zb,Int.natCast_inj,UInt8.toNat_inj]
  ·exact zf (by simp)
 |false=>
  rw[hr]at h
  refine ze h ?_
  refine zu rfl ?_
  exact cr
def PackP.right(p:PackP):Bool:=decide (p.init.length=32)&&((p.leaf.right&&decide (p.leaf.src=1))&&decide (p.sig.length=64))
def uw(p:PackP):cT:=(yg 2 1++yg 2 1)++zZ p.init++xA p.leaf
def PackP.fit(p:PackP):Prop:=p.init.length<=1000000/\p.leaf.fit/\p.sig.length<=1000000
theorem Rg(p:PackP)(hp:p.fit):aG 132 [.ag p.c] (.r (.b p.right)):=by
 refine aT Tryz.func132 rfl ?_
 have h:=qJ p.leaf 1 hp.2.1
 refine zh (λh1=>?_) (λh1=>?_)
 ·simp only[zb]at h1
  refine cU ?_
  have h1':p.init.length=32:=by omega
  cases hr:(p.leaf.right&&decide (p.leaf.src=1))with
  |true=>
   rw[hr]at h
   refine ze h ?_
   refine zG (m:=decide (p.sig.length=64)) ?_ ?_
   ·rw[cD]
    simp only[zb]
    omega
   ·exact zf (by unfold PackP.right;rw[hr,bE h1'];simp)
  |false=>
   rw[hr]at h
   refine ze h ?_
   exact zf (by unfold PackP.right;rw[hr];simp[xT])
 ·simp only[zb]at h1
  have h1': ¬p.init.length=32:=by omega
  exact zf (by unfold PackP.right;rw[bD h1'];rfl)
theorem vL(l:cT)(size m:Nat)(hl:l.length<=1000000000)(hs:size=1\/size=2\/size=4\/size=8):aG 172 [bs l,I size,.i .u64 m] (xJ (l++yg size m)):=by
 refine aT Tryz.func172 rfl ?_
 refine ze (sp l size m (by omega) hs) ?_
 exact rfl
theorem wd(l m:cT)(hl:l.length<=1000000000)(hm:m.length<=1000000000):aG 171 [bs l,bs m] (xJ (l++zZ m)):=by
 refine aT Tryz.func171 rfl ?_
 refine ze (x5 l m (by omega) (by omega)) ?_
 exact rfl
theorem eK(p:PackP)(hp:p.fit)(hr:p.leaf.right=true):aG 134 [.ag p.c] (.r (bs (uw p))):=by
 refine aT Tryz.func134 rfl ?_
 obtain⟨h1,h2,h3⟩:=hp
 have hv:=yf p.init
 have hL:=rM p.leaf
 obtain⟨k1,k2,k3,k4,k5⟩:=id h2
 refine zB (vL [] 2 1 (by simp) (.inr (.inl rfl))) (zk (z8 _) (zn _)) ?_
 rw[cG]
 refine ze (vL (yg 2 1) 2 1 (by rw[yj];omega) (.inr (.inl rfl))) ?_
 refine aV ?_
 refine ze (wd (yg 2 1++yg 2 1) p.init (by rw[aL,yj];omega) (by omega)) ?_
 refine cU ?_
 refine ze (qG p.leaf h2 hr) ?_
 refine z7 (j:=(uw p).length) (zs:=(uw p).map U8) (by simp only[maxLen,aL,yj];omega) (by simp only[aL,yj];show(_+_)*1<=_;omega) (by simp only[uw,aL]) (by simp only[uw,bM]) ?_
 exact cr
theorem So(p:PackP)(hp:p.fit)(hr:p.leaf.right=true):aG 133 [.ptr p.c] (.r (bs (uw p))):=by
 refine aT Tryz.func133 rfl ?_
 refine cU ?_
 refine ze (eK p hp hr) ?_
 exact cr
theorem PackP.right_leaf{p:PackP}(h:p.right=true):p.leaf.right=true:=by
 unfold PackP.right at h
 simp only[bB]at h
 exact h.2.1.1
theorem QY(p:PackP)(hp:p.fit):aG 52 [.ag p.c] (.r (uy p.right (uw p))):=by
 refine aT Tryz.func52 rfl ?_
 refine cU ?_
 refine ze (Rg p hp) ?_
 refine zJ (xO (id:=0) (t:=1) p.c rfl rfl) (Vstep.mkfunS rfl rfl ?_)
 refine ze (qM p.right _ _ (uw p) λh=>So p hp (PackP.right_leaf h)) ?_
 unfold uy
 cases p.right with
 |true=>exact⟨_,rfl,cr⟩
 |false=>exact⟨_,rfl,cr⟩
theorem mj(l m:cT)(hl:l.length<=1000000000000)(hm:m.length<=1000000000000):aG 83 [bs l,bs m] (xJ (l++m)):=by
 refine aT Tryz.func83 rfl ?_
 refine zw ?_
 refine z7 (j:=l.length) (zs:=l.map U8) (by simp only[maxLen];omega) (by show(0+l.length)*1<=_;omega) (by omega) rfl ?_
 refine z7 (j:=(l++m).length) (zs:=(l++m).map U8) (by simp only[maxLen];omega) (by show(l.length+m.length)*1<=_;omega) (by rw[aL]) (by rw[bM]) ?_
 exact rfl
theorem gx(l m n:cT)(hl:l.length<=10000000000)(hm:m.length<=10000000000)(hn:n.length<=10000000000):aG 84 [bs l,bs m,bs n] (xJ (l++m++n)):=by
 refine aT Tryz.func84 rfl ?_
 refine ze (mj l m (by omega) (by omega)) ?_
 refine ze (mj (l++m) n (by rw[aL];omega) (by omega)) ?_
 exact rfl
theorem fN(m:Nat)(hm:m<18446744073709551616):aG 85 [.i .u64 m] (xJ (yg 2 m)):=by
 refine aT Tryz.func85 rfl ?_
 refine ze (rZ 2 m (by omega) hm) ?_
 exact rfl
theorem fO(m:cT)(hm:m.length<=1000000000):aG 88 [bs m] (xJ (zZ m)):=by
 refine aT Tryz.func88 rfl ?_
 refine ze (w9 m (by omega)) ?_
 exact rfl
theorem VU(p:PackP)(hp:p.fit):aG 351 [.ag p.c] (.r (bs (uw p))):=by
 refine aT Tryz.func351 rfl ?_
 obtain⟨h1,h2,h3⟩:=hp
 have hv:=yf p.init
 have hL:=rM p.leaf
 obtain⟨k1,k2,k3,k4,k5⟩:=id h2
 refine aV ?_
 refine ze (fN 1 (by decide)) ?_
 refine ze (fN 1 (by decide)) ?_
 refine ze (mj (yg 2 1) (yg 2 1) (by rw[yj];omega) (by rw[yj];omega)) ?_
 refine ze (fO p.init (by omega)) ?_
 refine cU ?_
 refine ze (rC p.leaf h2) ?_
 refine ze (gx (yg 2 1++yg 2 1) (zZ p.init) (xA p.leaf) (by rw[aL,yj];omega) (by omega) (by omega)) ?_
 exact cr
theorem dE(l:Leaf)(s:UInt8):aG 152 [.ag l.c,U8 s] (.r (.b (l.right&&decide (l.src=s)))):=by
 refine aT Tryz.func152 rfl ?_
 refine cU ?_
 refine z6 (OV l) (λhr=>?_) (λhr=>?_)
 ·refine zG (m:=decide (l.src=s)) ?_ ?_
  ·rw[cD]
   simp only[zb,Int.natCast_inj,UInt8.toNat_inj]
  ·exact zf (by rw[hr];simp)
 ·exact zf (by rw[hr];rfl)
theorem Sn(p:PackP):aG 151 [.ag p.c] (.r (.b p.right)):=by
 refine aT Tryz.func151 rfl ?_
 have h:=dE p.leaf 1
 refine zh (λh1=>?_) (λh1=>?_)
 ·simp only[zb]at h1
  refine cU ?_
  have h1':p.init.length=32:=by omega
  cases hr:(p.leaf.right&&decide (p.leaf.src=1))with
  |true=>
   rw[hr]at h
   refine ze h ?_
   refine zG (m:=decide (p.sig.length=64)) ?_ ?_
   ·rw[cD]
    simp only[zb]
    omega
   ·exact zf (by unfold PackP.right;rw[hr,bE h1'];simp)
  |false=>
   rw[hr]at h
   refine ze h ?_
   exact zf (by unfold PackP.right;rw[hr];simp[xT])
 ·simp only[zb]at h1
  have h1': ¬p.init.length=32:=by omega
  exact zf (by unfold PackP.right;rw[bD h1'];rfl)
abbrev JU:ByteArray:=⟨#[75,101,121,80,97,99,107,97,103,101,84,66,83]⟩
def sX(k:cT)(w:UInt8)(i:Nat):cT:=(List.range i).map λj=>k.getD j 0^^^w
theorem jP(k:cT)(w:UInt8)(i:Nat):sX k w (i+1)=sX k w i++[k.getD i 0^^^w]:=by simp[sX,List.range_succ]
theorem Ro(k:cT)(w:UInt8)(i:Nat):(sX k w i).length=i:=by simp[sX]
def CP(k text:cT):Nat->St
 |0=>{F:=[(0,.r (bs k)),(1,.r (bs text)),(5,.r (.x (.slice none 0 0))),(6,.r (.x (.slice none 0 0))),(7,.r (I ((0:Nat):Int)))],O:=[],nx:=0}
 |i+1=>{F:=[(0,.r (bs k)),(1,.r (bs text)),(5,.own 0),(6,.own 1),(7,.r (I ((i+1:Nat):Int)))],O:=[(0,some (.ch 5 1 (i+1) ((sX k 54 (i+1)).map U8) true)),(1,some (.ch 5 1 (i+1) ((sX k 92 (i+1)).map U8) true))],nx:=2}
theorem Y9(key text:cT)(hk:key.length<=1000000000)(ht:text.length<=10000000000):aG 58 [bs key,bs text] (xJ (wh key text)):=by
 refine aT Tryz.func58 rfl ?_
 refine zh (λh=>zp ?a) (λh=>zq ?b)
 case' a=>
  simp only[zb]at h
  have hx:vk key=uq key:=by unfold uq;rw[cO (by omega)]
  refine ze (pw key (by omega)) ?_
  rw[hx]
 case' b=>
  simp only[zb]at h
  have hx:key=uq key:=by unfold uq;rw[cQ (by omega)]
 all_goals
  have hkl:=Rq key
  refine zy (CP (uq key) text) (λi=>i<=64) (λi=>64-i) 0 (by omega) (zO [] ⟨(by first|exact cr|exact zf (by rw[<-hx])),cr,cr,cr,cr,trivial⟩) ?_
  have hmac:wh key text=vk (sX (uq key) 92 64++vk (sX (uq key) 54 64++text)):=rfl
  generalize uq key=kk at*
  intro i hi
  rcases i with _ |i
  ·refine cY ?_
   refine cZ (λh2=>?_) λh2=>?_
   all_goals
    simp only[zb]at h2
    obtain⟨x,hx2⟩: ∃x,kk.getD 0 0=x:=⟨_,rfl⟩
    first
    |(
      have hl:0<kk.length:=by omega
      have hx3:kk[0]=x:=by rw[<-hx2];simp[List.getD,hl]
      refine cV (xn (j:=0) rfl hl) (zg rfl ?_)
      rw[hx3]
      refine Vbits.xor8 x 54 rfl rfl (zw ?_))
    |(
      have hx3:x=0:=by rw[<-hx2];simp[List.getD,List.getElem?_eq_none (show kk.length<=0 by omega)]
      refine Vbits.xor8 x 54 (by rw[hx3];rfl) rfl (zw ?_))
    refine z7 (j:=0+1) (zs:=(sX kk 54 (0+1)).map U8) (by decide) (by decide) rfl (by rw[jP kk 54 0,hx2];rfl) ?_
    refine Vbits.xor8 x 92 (by first|rfl|(rw[hx3];rfl)) rfl (zw ?_)
    refine z7 (j:=0+1) (zs:=(sX kk 92 (0+1)).map U8) (by decide) (by decide) rfl (by rw[jP kk 92 0,hx2];rfl) ?_
    refine zd (m:=((0+1:Nat):Int)) (by omega) (by omega) ?_
    exact⟨0+1,by omega,by omega,zN [(0,1),(1,3)] ⟨⟨rfl,rfl,rfl,rfl,zn _⟩,⟨rfl,rfl,rfl,rfl,zn _⟩,trivial⟩⟩
  ·refine cZ (λh=>?_) λh=>?_
   ·simp only[zb]at h
    refine cZ (λh2=>?_) λh2=>?_
    all_goals
     simp only[zb]at h2
     obtain⟨x,hx2⟩: ∃x,kk.getD (i+1) 0=x:=⟨_,rfl⟩
     first
     |(
       have hl:i+1<kk.length:=by omega
       have hx3:kk[i+1]=x:=by rw[<-hx2];simp[List.getD,hl]
       refine cV (xn (j:=i+1) rfl hl) (zg rfl ?_)
       rw[hx3]
       refine Vbits.xor8 x 54 rfl rfl (zw ?_))
     |(
       have hx3:x=0:=by rw[<-hx2];simp[List.getD,List.getElem?_eq_none (show kk.length<=i+1 by omega)]
       refine Vbits.xor8 x 54 (by rw[hx3];rfl) rfl (zw ?_))
     refine z7 (j:=i+1+1) (zs:=(sX kk 54 (i+1+1)).map U8) (by simp[maxLen];omega) (by simp;omega) rfl (by rw[jP kk 54 (i+1),hx2,bM];rfl) ?_
     refine Vbits.xor8 x 92 (by first|rfl|(rw[hx3];rfl)) rfl (zw ?_)
     refine z7 (j:=i+1+1) (zs:=(sX kk 92 (i+1+1)).map U8) (by simp[maxLen];omega) (by simp;omega) rfl (by rw[jP kk 92 (i+1),hx2,bM];rfl) ?_
     refine zd (m:=((i+1+1:Nat):Int)) (by omega) (by omega) ?_
     exact⟨i+1+1,by omega,by omega,zN [(0,3),(1,5)] ⟨⟨rfl,rfl,rfl,rfl,zn _⟩,⟨rfl,rfl,rfl,rfl,zn _⟩,trivial⟩⟩
   ·simp only[zb]at h
    obtain rfl:i=63:=by omega
    have h5:=Ro kk 54 64
    have h9:=Ro kk 92 64
    refine z7 (j:=(sX kk 54 64++text).length) (zs:=(sX kk 54 64++text).map U8) (by simp[maxLen];omega) (by simp;omega) (by simp[h5]) (by simp) ?_
    refine ze (pw (sX kk 54 64++text) (by simp[h5];omega)) ?_
    refine z7 (j:=(sX kk 92 64++vk (sX kk 54 64++text)).length) (zs:=(sX kk 92 64++vk (sX kk 54 64++text)).map U8) (by simp[maxLen,wT]) (by simp[wT]) (by simp[h9]) (by simp) ?_
    refine ze (pw (sX kk 92 64++vk (sX kk 54 64++text)) (by simp[h9,wT])) ?_
    exact vR (by rw[hmac])
theorem Hn{n:Nat}(hn:1<=n/\n<=32):(1:Int)=IntKind.i64.wrap (((n+31:Nat):Int).tdiv 32):=by
 have h:((n+31:Nat):Int).tdiv 32=1:=by rw[Int.tdiv_eq_ediv_of_nonneg (by omega)];omega
 rw[h]
 rfl
theorem Q7(s info:cT)(n:Nat)(hn:1<=n/\n<=32)(hs:s.length<=1000000000)(hi:info.length<=1000000000):aG 62 [bs s,bs info,I n] (.r (bs (lM s info n))):=by
 refine aT Tryz.func62 rfl ?_
 refine zE 2 (zC mixed Tab_ok ?_)
 refine zd (m:=((n+31:Nat):Int)) (by omega) (by omega) ?_
 refine⟨by decide,1,Hn hn,?_⟩
 refine cY ?_
 refine cX ?_
 refine z7 (j:=info.length) (zs:=info.map U8) (by simp[maxLen];omega) (by simp;omega) (by simp) (by simp) ?_
 refine zd (m:=1) rfl (by decide) ?_
 refine Vint.u8 1 rfl (zw ?_)
 refine z7 (j:=(info++[1]).length) (zs:=(info++[1]).map U8) (by simp[maxLen];omega) (by simp;omega) (by simp) (by rw[bM];rfl) ?_
 refine ze (Y9 s (info++[1]) hs (by simp;omega)) ?_
 refine zw ?_
 refine z7 (j:=1) (zs:=[bs (wh s (info++[1]))]) (by decide) (by decide) rfl rfl ?_
 refine zd (m:=1) rfl (by decide) ?_
 refine zC mixed Tab_ok ?_
 refine zd (m:=((n+31:Nat):Int)) (by omega) (by omega) ?_
 refine⟨by decide,1,Hn hn,?_⟩
 refine cX ?_
 refine zE 2 (zC mixed Tab_ok ?_)
 refine cY ?_
 refine zm (by decide) (by decide) rfl (zg rfl ?_)
 refine z7 (j:=32) (zs:=(wh s (info++[1])).map U8) (by simp[maxLen,x8]) (by simp[x8]) (by simp[x8]) (by simp) ?_
 refine zd (m:=1) rfl (by decide) ?_
 refine zC mixed Tab_ok ?_
 refine cX ?_
 refine⟨by omega,by omega,by omega,n,(lM s info n).map U8,by omega,?_,?_⟩
 ·unfold lM;rw[List.map_take];simp
 ·refine zf ?_
  simp only[bs,j4 s info hn.2]
theorem gl(s:cT)(label:ByteArray)(ctx:cT)(n:Nat)(hn:1<=n/\n<=32)(hs:s.length<=1000000000)(hl:label.size<=1048576)(hc:ctx.length<=1048576):
  aG 12 [bs s,vd label,bs ctx,I n] (.r (bs (xU s (sB label) ctx n))):=by
 refine aT Tryz.func12 rfl ?_
 have hd:=dR label
 have hsz:label.data.toList.length=label.size:=rfl
 have hml:mlsB.length=8:=rfl
 have hb:(yg 2 n).length=2:=yj 2 n
 have hv:=yf (mlsB++label.data.toList)
 have hv2:=yf ctx
 rw[aL]at hv
 refine zF n rfl (by omega) ?_
 refine ze (rZ 2 n (by omega) (by omega)) ?_
 refine⟨by show 8+label.size<=_;omega,?_⟩
 refine⟨by rw[Yk];show 8+label.size<=_;omega,?_⟩
 refine ze (w9 ((⟨#[77,76,83,32,49,46,48,32]⟩:ByteArray)++label).data.toList (by rw[hd,aL];omega)) ?_
 rw[hd]
 refine z7 (j:=(yg 2 n++zZ (mlsB++label.data.toList)).length) (zs:=(yg 2 n++zZ (mlsB++label.data.toList)).map U8) (by simp only[maxLen];omega) (by show _*1<=_;omega) (by simp) (by simp) ?_
 refine ze (w9 ctx (by omega)) ?_
 refine z7 (j:=(yg 2 n++zZ (mlsB++label.data.toList)++zZ ctx).length) (zs:=(yg 2 n++zZ (mlsB++label.data.toList)++zZ ctx).map U8) (by simp only[maxLen,aL];omega) (by show _*1<=_;simp only[aL];omega) (by simp only[aL]) (by simp) ?_
 refine ze (Q7 s (yg 2 n++zZ (mlsB++label.data.toList)++zZ ctx) n hn hs (by simp only[aL];omega)) ?_
 exact cr
def nV(l:cT):ByteArray:=⟨l.toArray⟩
theorem Oe(l:cT):strOfNums (nc l)=nV l:=by
 unfold strOfNums nV nc
 rw[List.map_map]
 congr 2
 exact(List.map_congr_left (λx _=>by simp)).trans (List.map_id l)
theorem Vfun.str{S:St}{o:Oper}{x:Operand}{l:cT}{K:RV->Prop}(hop:o.op= .convert 22 9 x)(hx:tU S [x]=some [bs l])(hK:K (vd (nV l))):Vfun aP S o [x] K:=
 ⟨_,hx,_,λa w k h=>by
  simp only[RV.partsAt,cJ,List.map_nil]at h
  obtain⟨u,r,e,hat,_⟩:=h
  obtain⟨p,rfl,hp⟩:=Qh hat
  have hv:=(List.cons.inj e).1
  refine⟨.string (nV l),?_,by simp only[RV.at_]⟩
  have hc:=Yv p l w hp
  rw[Oe]at hc
  simp[execOp,hop,hv,hc],hK⟩
def Jt(l:List ByteArray):RV:= .sl 1 l.length (l.map vd)
def uW(l:List ByteArray):cT:=l.flatMap sB
def C5(l:List ByteArray):Nat->St
 |0=>{F:=[(3,.r (.x (.slice none 0 0))),(6,.r (Jt l)),(7,.r (I l.length)),(8,.r (I ((0:Nat):Int)))],O:=[],nx:=0}
 |i+1=>{F:=[(3,.own 0),(6,.r (Jt l)),(7,.r (I l.length)),(8,.r (I ((i+1:Nat):Int)))],O:=[(0,some (.ch 5 1 (uW (l.take (i+1))).length ((uW (l.take (i+1))).map U8) true))],nx:=1}
theorem Xu{l:List ByteArray}{i:Nat}(hi:i<l.length):uW (l.take (i+1))=uW (l.take i)++sB l[i]:=by
 rw[List.take_add_one,bA hi]
 show(l.take i++[l[i]]).flatMap sB=_
 rw[List.flatMap_append]
 simp only[uW,List.flatMap_cons,List.flatMap_nil,List.append_nil]
theorem HG{l:List ByteArray}{i:Nat}:(uW (l.take i)).length<=(uW l).length:=by
 have h:uW l=uW (l.take i)++uW (l.drop i):=by
  unfold uW
  rw[<-List.flatMap_append,List.take_append_drop]
 rw[h,aL]
 omega
theorem OO(l:List ByteArray)(h0:l≠[])(hl:(uW l).length<=10000000000)(hn:l.length<=1000000000):aG 208 [Jt l] (xJ (uW l)):=by
 refine aT Tryz.func208 rfl ?_
 refine zy (C5 l) (λi=>i<=l.length) (λi=>l.length-i) 0 (by omega) (zM []) ?_
 intro i hi
 have hpos:0<l.length:=by cases l;exact absurd rfl h0;simp
 have hle:= @HG l (i+1)
 rcases i with _ |i
 ·refine zt (bE (by omega)) (zp ?_)
  refine cV (xn (j:=0) rfl hpos) (zg rfl ?_)
  have hs:=Xu hpos
  rw[hs]at hle
  simp only[aL,sB,bG]at hle
  refine Vstep.appS (s:=l[0]) Tab_ok rfl rfl rfl rfl ⟨rfl,rfl⟩ rfl rfl rfl rfl rfl (by show 0+l[0].data.size<=_;omega) ?_
  refine zd (m:=((0+1:Nat):Int)) rfl (by decide) ?_
  refine⟨0+1,by omega,by omega,zN [(0,0)] ⟨⟨rfl,rfl,?_,rfl,Cvs.of_eq ?_⟩,trivial⟩⟩
  ·rw[hs];simp[uW,sB]
  ·rw[hs];rfl
 ·refine cZ (λh=>?_) λh=>?_
  ·simp only[zb]at h
   have hlt:i+1<l.length:=by omega
   refine cV (xn (j:=i+1) rfl hlt) (zg rfl ?_)
   have hs:=Xu hlt
   rw[hs]at hle
   simp only[aL,sB,bG]at hle
   refine Vstep.appS (s:=l[i+1]) Tab_ok rfl rfl rfl rfl ⟨rfl,rfl⟩ rfl rfl rfl rfl rfl (by show _+l[i+1].data.size<=_;omega) ?_
   refine zd (m:=((i+1+1:Nat):Int)) (by omega) (by omega) ?_
   refine⟨i+1+1,by omega,by omega,zN [(0,1)] ⟨⟨rfl,rfl,?_,rfl,Cvs.of_eq ?_⟩,trivial⟩⟩
   ·rw[hs,aL];rfl
   ·rw[hs,bM]
  ·simp only[zb]at h
   have hl':i+1=l.length:=by omega
   exact vR (by rw[hl',List.take_length])
def Xi:cT:=[72,80,75,69,45,118,49]
def Vr(name salt label secret:cT):cT:=wh salt (Xi++name++label++secret)
def L3(name secret label info:cT)(n:Nat):cT:=lM secret (yg 2 n++Xi++name++label++info) n
theorem jC(salt secret:cT)(h1:salt.length<=1000000000)(h2:secret.length<=10000000000):aG 202 [bs salt,bs secret] (xJ (wh salt secret)):=by
 refine aT Tryz.func202 rfl ?_
 refine zw ?_
 refine ze (Zj salt [secret] h1 (by simp;omega)) ?_
 exact vR (by simp)
theorem Q8(name label:ByteArray)(salt secret:cT)(h1:salt.length<=1000000000)(h2:secret.length<=1000000000)(h3:name.size<=1000)(h4:label.size<=1000):
  aG 122 [vd name,bs salt,vd label,bs secret] (xJ (Vr (sB name) salt (sB label) secret)):=by
 refine aT Tryz.func122 rfl ?_
 have e:uW [⟨#[72,80,75,69,45,118,49]⟩,name,label,nV secret]=Xi++sB name++sB label++secret:=by simp[uW,Xi,nV];rfl
 have hl:(uW [⟨#[72,80,75,69,45,118,49]⟩,name,label,nV secret]).length<=10000000000:=by
  rw[e];simp only[aL,sB,bG];show 7+name.size+label.size+_<=_;omega
 refine Vfun.str rfl rfl (zw ?_)
 refine ze (OO [⟨#[72,80,75,69,45,118,49]⟩,name,label,nV secret] (by simp) hl (by simp)) ?_
 refine ze (jC salt _ h1 (by omega)) ?_
 exact vR (by rw[e];rfl)
theorem ON(name label:ByteArray)(secret info:cT)(n:Nat)(hn:1<=n/\n<=32)(h1:secret.length<=1000000000)(h2:info.length<=1000000)(h3:name.size<=1000)(h4:label.size<=1000):
  aG 121 [vd name,bs secret,vd label,bs info,I n] (.r (bs (L3 (sB name) secret (sB label) info n))):=by
 refine aT Tryz.func121 rfl ?_
 have e:uW [nV ([]++yg 2 n),⟨#[72,80,75,69,45,118,49]⟩,name,label,nV info]=yg 2 n++Xi++sB name++sB label++info:=by simp[uW,Xi,nV];rfl
 have hb:(yg 2 n).length=2:=yj 2 n
 have hl:(uW [nV ([]++yg 2 n),⟨#[72,80,75,69,45,118,49]⟩,name,label,nV info]).length<=1000000000:=by
  rw[e];simp only[aL,sB,bG,hb];show 2+7+name.size+label.size+_<=_;omega
 refine zF n rfl (by omega) ?_
 refine zB (sp [] 2 n (by simp) (.inr (.inl rfl))) (zk (z8 _) (zn _)) ?_
 refine Vfun.str rfl rfl ?_
 refine Vfun.str rfl rfl (zw ?_)
 refine ze (OO [nV ([]++yg 2 n),⟨#[72,80,75,69,45,118,49]⟩,name,label,nV info] (by simp) (by omega) (by simp)) ?_
 refine ze (X2 secret _ n hn h1 hl) ?_
 rw[e]
 exact cr
section
open Ieee
def fw(s:Bool)(n:Nat):Nat:=double.nearest s n 0
def fl(n:Int):Nat:=fw (decide (n<0)) n.natAbs
end
abbrev F1(a:Int):RV:= .x (.float .f64 (fl a))
instance {h k:Nat}{x:Int}:Decidable (BR h k x):=by unfold BR;infer_instance
def yS(l:List Node):RV:= .sl 10 l.length (l.flatMap Node.c)
theorem Rn{l:List Node}{i:Int}{j:Nat}(h:i=j)(hj:j<l.length):((l.flatMap Node.c).drop (i.toNat*10)).take 10=l[j].c:=uK (f:=Node.c) (sz:=10) (λ_=>rfl) h hj
section
abbrev z5:Fe:=⟨0,0,0,0,0⟩
structure Lad where
 px:Fe
 pz:Fe
 qx:Fe
 qz:Fe
def Lad.next(b:Bool)(u:Fe)(s:Lad):Lad:=
 match b with
 |true=>⟨(ux s.qx s.qz s.px s.pz u).2.1,(ux s.qx s.qz s.px s.pz u).2.2,(ux s.qx s.qz s.px s.pz u).1.1,(ux s.qx s.qz s.px s.pz u).1.2⟩
 |false=>⟨(ux s.px s.pz s.qx s.qz u).1.1,(ux s.px s.pz s.qx s.qz u).1.2,(ux s.px s.pz s.qx s.qz u).2.1,(ux s.px s.pz s.qx s.qz u).2.2⟩
def xl(k:cT)(u:Fe):Nat->Lad
 |0=>⟨one,z5,u,one⟩
 |j+1=>(xl k u j).next (tO k (254-j)==1) u
theorem NY(k:cT)(u:Fe):xl k u 0=⟨one,z5,u,one⟩:=rfl
theorem XR(k:cT)(u:Fe)(j:Nat):xl k u (j+1)=(xl k u j).next (tO k (254-j)==1) u:=rfl
attribute [irreducible] xl
def fY(k:cT)(u:Fe):cT:=((xl k u 255).px.mul (xl k u 255).pz.inv).bytes
abbrev BT(x z:Fe):Ow:= .box [.r (W x.a),.r (W x.b),.r (W x.c),.r (W x.d),.r (W x.e),.r (W z.a),.r (W z.b),.r (W z.c),.r (W z.d),.r (W z.e)]
def Am(k:cT)(u:Fe)(j:Nat):St:={F:=[(0,.r (bs k)),(3,.own 0),(5,.own 1),(6,.own 2),(7,.r (I ((254-j:Nat):Int)))],O:=[(0,some u.bx),(1,some (BT (xl k u j).px (xl k u j).pz)),(2,some (BT (xl k u j).qx (xl k u j).qz))],nx:=3}
theorem UV(k:cT)(u:Fe){b:Bool}(h:xl k u (254+1)=(xl k u 254).next b u){e:TypeId}:some (Ow.ch e 1 (((((xl k u 254).next b u).px).mul (((xl k u 254).next b u).pz).inv).bytes).length ((((((xl k u 254).next b u).px).mul (((xl k u 254).next b u).pz).inv).bytes).map U8) true)=some (Ow.ch e 1 (fY k u).length ((fY k u).map U8) true):=by
 rw[<-h]
 rfl
set_option maxHeartbeats 4000000 in
theorem NE(k:cT)(u:Fe)(hk:k.length=32):aG 320 [bs k,.ag u.v] (xJ (fY k u)):=by
 refine aT Tryz.func320 rfl ?_
 refine Vcode.scope mixed Tab_ok 0 (Am k u) (λj=>j<=254) (λj=>254-j) rfl ?_ ?_
 ·refine aV ?_
  refine ze jK ?_
  refine cU ?_
  refine ze jK ?_
  repeat' ((conv=>whnf);first|refine za rfl rfl ?_)
  refine Vquo.i64 254 8 rfl rfl (by omega) (by omega) ?_
  refine cV rfl (zg (f:=U8 (k.getD (254/8) 0)) (fJ (by omega)) ?_)
  refine Vrem.nat 254 8 rfl rfl (by omega) ?_
  refine Vshr.b _ (254%8) rfl rfl (by omega) ?_
  refine Vbits.and8 _ 1 rfl rfl ?_
  have hs:=XR k u 0
  rw[NY]at hs
  refine cZ (λh=>?_) λh=>?_
  ·have hb:(tO k (254-0)==1)=true:=by rw[beq_iff_eq];exact fE h
   rw[hb]at hs
   refine cU ?_
   refine cU ?_
   refine cU ?_
   refine ze (Z6 u one one z5 u) ?_
   refine zd (m:=253) rfl (by decide) ?_
   refine cY ?_
   exact⟨1,by decide,zN [(0,0),(1,1),(2,2)] ⟨(aC (aA aZ)),by rw[hs];exact⟨_,_,rfl,cr,_,_,rfl,cr,_,_,rfl,cr,_,_,rfl,cr,_,_,rfl,cr,_,_,rfl,cr,_,_,rfl,cr,_,_,rfl,cr,_,_,rfl,cr,_,_,rfl,cr,rfl⟩,by rw[hs];exact⟨_,_,rfl,cr,_,_,rfl,cr,_,_,rfl,cr,_,_,rfl,cr,_,_,rfl,cr,_,_,rfl,cr,_,_,rfl,cr,_,_,rfl,cr,_,_,rfl,cr,_,_,rfl,cr,rfl⟩,trivial⟩⟩
  ·have hb:(tO k (254-0)==1)=false:=by rw[beq_eq_false_iff_ne];exact js h
   rw[hb]at hs
   refine cU ?_
   refine cU ?_
   refine cU ?_
   refine ze (Z6 one z5 u one u) ?_
   refine zd (m:=253) rfl (by decide) ?_
   refine cY ?_
   exact⟨1,by decide,zN [(0,0),(1,1),(2,2)] ⟨(aC (aA aZ)),by rw[hs];exact⟨_,_,rfl,cr,_,_,rfl,cr,_,_,rfl,cr,_,_,rfl,cr,_,_,rfl,cr,_,_,rfl,cr,_,_,rfl,cr,_,_,rfl,cr,_,_,rfl,cr,_,_,rfl,cr,rfl⟩,by rw[hs];exact⟨_,_,rfl,cr,_,_,rfl,cr,_,_,rfl,cr,_,_,rfl,cr,_,_,rfl,cr,_,_,rfl,cr,_,_,rfl,cr,_,_,rfl,cr,_,_,rfl,cr,_,_,rfl,cr,rfl⟩,trivial⟩⟩
 ·intro J hj
  refine Vquo.i64 (254-J) 8 rfl rfl (by omega) (by omega) ?_
  refine cV rfl (zg (f:=U8 (k.getD ((254-J)/8) 0)) (fJ (by omega)) ?_)
  refine Vrem.nat (254-J) 8 rfl rfl (by omega) ?_
  refine Vshr.b _ ((254-J)%8) rfl rfl (by omega) ?_
  refine Vbits.and8 _ 1 rfl rfl ?_
  have hs:=XR k u J
  refine cZ (λh=>?_) λh=>?_
  ·have hb:(tO k (254-J)==1)=true:=by rw[beq_iff_eq];exact fE h
   rw[hb]at hs
   refine cU ?_
   refine cU ?_
   refine cU ?_
   refine ze (Z6 (xl k u J).qx (xl k u J).qz (xl k u J).px (xl k u J).pz u) ?_
   refine zd (m:=((254-J:Nat):Int)-1) rfl (by omega) ?_
   refine cZ (λh=>?_) λh=>?_
   ·simp only[zb]at h
    exact⟨J+1,by omega,by omega,zX [(0,0),(1,1),(2,2)] rfl ⟨cr,rfl,rfl,rfl,zf (by congr 1;omega),trivial⟩ ⟨(aC (aA aZ)),by rw[hs];exact⟨_,_,rfl,cr,_,_,rfl,cr,_,_,rfl,cr,_,_,rfl,cr,_,_,rfl,cr,_,_,rfl,cr,_,_,rfl,cr,_,_,rfl,cr,_,_,rfl,cr,_,_,rfl,cr,rfl⟩,by rw[hs];exact⟨_,_,rfl,cr,_,_,rfl,cr,_,_,rfl,cr,_,_,rfl,cr,_,_,rfl,cr,_,_,rfl,cr,_,_,rfl,cr,_,_,rfl,cr,_,_,rfl,cr,_,_,rfl,cr,rfl⟩,trivial⟩⟩
   ·simp only[zb]at h
    obtain rfl:J=254:=by omega
    refine aV ?_
    refine cU ?_
    refine cU ?_
    refine ze (fL (ux (xl k u 254).qx (xl k u 254).qz (xl k u 254).px (xl k u 254).pz u).2.2) ?_
    refine ze (xI (ux (xl k u 254).qx (xl k u 254).qz (xl k u 254).px (xl k u 254).pz u).2.1 (ux (xl k u 254).qx (xl k u 254).qz (xl k u 254).px (xl k u 254).pz u).2.2.inv) ?_
    refine ze (fK _) ?_
    exact UV k u hs
  ·have hb:(tO k (254-J)==1)=false:=by rw[beq_eq_false_iff_ne];exact js h
   rw[hb]at hs
   refine cU ?_
   refine cU ?_
   refine cU ?_
   refine ze (Z6 (xl k u J).px (xl k u J).pz (xl k u J).qx (xl k u J).qz u) ?_
   refine zd (m:=((254-J:Nat):Int)-1) rfl (by omega) ?_
   refine cZ (λh=>?_) λh=>?_
   ·simp only[zb]at h
    exact⟨J+1,by omega,by omega,zX [(0,0),(1,1),(2,2)] rfl ⟨cr,rfl,rfl,rfl,zf (by congr 1;omega),trivial⟩ ⟨(aC (aA aZ)),by rw[hs];exact⟨_,_,rfl,cr,_,_,rfl,cr,_,_,rfl,cr,_,_,rfl,cr,_,_,rfl,cr,_,_,rfl,cr,_,_,rfl,cr,_,_,rfl,cr,_,_,rfl,cr,_,_,rfl,cr,rfl⟩,by rw[hs];exact⟨_,_,rfl,cr,_,_,rfl,cr,_,_,rfl,cr,_,_,rfl,cr,_,_,rfl,cr,_,_,rfl,cr,_,_,rfl,cr,_,_,rfl,cr,_,_,rfl,cr,_,_,rfl,cr,rfl⟩,trivial⟩⟩
   ·simp only[zb]at h
    obtain rfl:J=254:=by omega
    refine aV ?_
    refine cU ?_
    refine cU ?_
    refine ze (fL (ux (xl k u 254).px (xl k u 254).pz (xl k u 254).qx (xl k u 254).qz u).1.2) ?_
    refine ze (xI (ux (xl k u 254).px (xl k u 254).pz (xl k u 254).qx (xl k u 254).qz u).1.1 (ux (xl k u 254).px (xl k u 254).pz (xl k u 254).qx (xl k u 254).qz u).1.2.inv) ?_
    refine ze (fK _) ?_
    exact UV k u hs
attribute [irreducible] fY
end
end Go.Proofs.YtkegaaonpekkgaaGreat.Sx
