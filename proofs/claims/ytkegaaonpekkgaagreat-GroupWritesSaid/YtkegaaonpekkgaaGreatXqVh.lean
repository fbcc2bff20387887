import Derived.Test.YtkegaaonpekkgaaGreatXqJq
import Derived.Test.YtkegaaonpekkgaaGreatXqJd
import Derived.Test.YtkegaaonpekkgaaGreatXqVg
namespace Go.Proofs.YtkegaaonpekkgaaGreat.Sx
open Go.RowKit
structure VwP where
 ctx:CtxP
 own:Int
 interim:cT
 tag:cT
 sec:SecP
 keys:List KeyP
abbrev VwP.c(v:VwP):List RV:=[bs v.ctx.group,.i .u64 v.ctx.epoch,bs v.ctx.tree,bs v.ctx.trans,I v.own,bs v.interim,bs v.tag,bs v.sec.jn,bs v.sec.wl,bs v.sec.ep,bs v.sec.sd,bs v.sec.en,bs v.sec.ex,bs v.sec.au,bs v.sec.xt,bs v.sec.cf,bs v.sec.mb,bs v.sec.rs,bs v.sec.it,wQ v.keys]
structure VwP.okv (v:VwP):Prop where
 group:v.ctx.group.length<=200
 epoch:v.ctx.epoch<18446744073709551616
 tree:v.ctx.tree.length<=200
 trans:v.ctx.trans.length<=200
 own:i64 v.own
 interim:v.interim.length<=100
 mb:v.sec.mb.length<=100
 it:v.sec.it.length<=100
 keys:v.keys.length<=5
 key: ∀k∈v.keys,k.key.length<=140737488355328
theorem VwP.okv.fit{v:VwP}(h:v.okv):v.ctx.fit:=⟨by have:=h.group;omega,h.epoch,by have:=h.tree;omega,by have:=h.trans;omega⟩
theorem VwP.okv.ctx{v:VwP}(h:v.okv):(yV v.ctx).length<=1000:=by
 have h0:=tI v.ctx
 have h1:=h.group
 have h2:=h.tree
 have h3:=h.trans
 omega
theorem F8{a b:cT}{j:Nat}(ha:j<a.length)(hb:j<b.length):a.take (j+1)=b.take (j+1)↔a.take j=b.take j/\a[j]=b[j]:=by
 rw[bX ha,bX hb]
 constructor
 ·intro h
  have hl:(a.take j).length=(b.take j).length:=by rw[bL,bL];omega
  obtain⟨h1,h2⟩:=List.append_inj h hl
  exact⟨h1,by injection h2⟩
 ·rintro⟨h1,h2⟩
  rw[h1,h2]
theorem QO(a b:cT)(ha:a.length<=1000000):aG 92 [bs a,bs b] (.r (.b (decide (a=b)))):=by
 refine aT Tryz.func92 rfl ?_
 refine cZ (λh=>?_) λh=>?_
 ·simp only[zb]at h
  exact zf (cR RV.b (by rw[bD (show¬a=b fromλe=>h (by rw[e]))]))
 simp only[zb]at h
 have hl:a.length=b.length:=by omega
 refine zy (λp:Nat×UInt8=>{F:=[(0,.r (bs a)),(1,.r (bs b)),(5,.r (U8 p.2)),(13,.r (I a.length)),(14,.r (I p.1))],O:=[],nx:=0}) (λp=>p.1<=a.length/\(p.2=0↔a.take p.1=b.take p.1)) (λp=>a.length-p.1) (0,0) ⟨by simp,by simp⟩ (zM []) ?_
 rintro⟨j,d⟩ ⟨hj,hd⟩
 simp only at hj hd
 refine cZ (λh=>?_) λh=>?_
 ·simp only[zb]at h
  have hj':j<a.length:=by omega
  have hk':j<b.length:=by omega
  refine aV ?_
  refine cV (qP rfl hj') (zg rfl ?_)
  refine cV (qP rfl hk') ?_
  refine zg rfl ?_
  refine Vbits.xor8 _ _ rfl rfl ?_
  refine Vbits.or8 d (a.getD j 0^^^b.getD j 0) rfl rfl ?_
  refine zd (m:=((j+1:Nat):Int)) (by omega) (by omega) ?_
  exact⟨(j+1,d|||(a.getD j 0^^^b.getD j 0)),⟨by show j+1<=_;omega,by show d|||(a.getD j 0^^^b.getD j 0)=0↔a.take (j+1)=b.take (j+1);rw[bK,bK,bA hj',bA hk',Option.getD_some,Option.getD_some,UInt8.or_eq_zero_iff,UInt8.xor_eq_zero_iff,F8 hj' hk',hd]⟩,by show _-(j+1)<_-j;omega,zM []⟩
 ·simp only[zb]at h
  rw[bF (by omega),bF (by omega)]at hd
  refine zG (m:=decide (a=b)) ?_ ?_
  ·rw[cD]
   simp only[zb]
   rw[<-hd]
   constructor
   ·rintro rfl;rfl
   ·intro h;exact UInt8.toNat_inj.1 (by simpa using h)
  ·exact cr
abbrev Al(l:List KeyP):Ow:= .ch 47 2 l.length (l.flatMap KeyP.c) true
theorem ms{l:List KeyP}{i:Int}{j:Nat}(h:i=j)(hj:j<l.length):((l.flatMap KeyP.c).drop (i.toNat*2)).take 2=l[j].c:=uK (f:=KeyP.c) (sz:=2) (λ_=>rfl) h hj
theorem Sd(l:List KeyP)(hl:l.length<=1000)(hk: ∀k∈l,k.key.length<=140737488355328):aG 101 [wQ l] (.r (wQ l)):=by
 refine aT Tryz.func101 rfl ?_
 refine zy (λj:Nat=>⟨[(3,.own 0),(6,.r (wQ l)),(7,.r (I l.length)),(8,.r (I j))],[(0,some (Al (l.take j)))],1⟩) (λj=>j<=l.length) (λj=>l.length-j) 0 (by omega)
  (Sub.trans (uh 3 47 2 rfl) (zN [(0,0)] ⟨⟨rfl,rfl,rfl,rfl,zn _⟩,trivial⟩)) ?_
 intro j hj
 refine cZ (λh=>?_) λh=>?_
 ·simp only[zb]at h
  have hj':j<l.length:=by omega
  have hkj:=hk _ (bY hj')
  have hs:l.take (j+1)=l.take j++[l[j]]:=bX hj'
  have hlt:(l.take j).length=j:=by rw[bL];omega
  refine cV (ms rfl hj') ?_
  refine cU ?_
  refine Vdraw.cut 8 (by kernel_rfl) ?_
  refine ze (OK l[j].key hkj) ?_
  refine zw ?_
  refine z7 (j:=(l.take (j+1)).length) (zs:=(l.take (j+1)).flatMap KeyP.c) (by simp only[maxLen];omega) (by show((l.take j).length+1)*32<=_;omega) (by rw[hs,aL];rfl) (by rw[hs,List.flatMap_append];rfl) ?_
  refine zd (m:=((j+1:Nat):Int)) (by omega) (by omega) ?_
  exact⟨j+1,hj',by omega,zX [(0,_)] rfl ⟨rfl,cr,cr,cr,trivial⟩ ⟨⟨rfl,rfl,rfl,rfl,zn _⟩,trivial⟩⟩
 ·simp only[zb]at h
  rw[bF (by omega)]
  exact cr
abbrev oZ(g:cT)(e:RV)(o:Int)(m:MesP):List RV:=[bs g,e,I o,U8 m.kind,U8 m.prop.kind,bs m.prop.pack.init,bs m.prop.pack.leaf.box,bs m.prop.pack.leaf.sign,bs m.prop.pack.leaf.ident,U8 m.prop.pack.leaf.src,bs m.prop.pack.leaf.parent,bs m.prop.pack.leaf.sig,bs m.prop.pack.sig,bs m.prop.leaf.box,bs m.prop.leaf.sign,bs m.prop.leaf.ident,U8 m.prop.leaf.src,bs m.prop.leaf.parent,bs m.prop.leaf.sig,I m.prop.at_,
 uo m.com.items,.b m.com.has,bs m.com.way.leaf.box,bs m.com.way.leaf.sign,bs m.com.way.leaf.ident,U8 m.com.way.leaf.src,bs m.com.way.leaf.parent,bs m.com.way.leaf.sig,nG m.com.way.steps,bs m.sig,bs m.tag,bs m.mem]
def rh(m:MesP):cT:=if m.kind=3/\m.tag.length≠32 then z32 else m.tag
def xx(v:VwP)(m:MesP)(t s e:cT):MesP:=⟨v.ctx.group,v.ctx.epoch,v.own,m.kind,m.prop,m.com,s,t,e⟩
def z64:cT:=List.replicate 64 0
def yF(v:VwP)(seed:cT)(m:MesP)(t:cT):cT:=oo seed (sB vW) (xh (xx v m t z64 z32) v.ctx)
def lI(v:VwP)(m:MesP)(t s:cT):cT:=wh v.sec.mb (vG (xx v m t s z32) v.ctx)
def xL(v:VwP)(seed:cT)(m:MesP)(t:cT):MesP×Nat:=
 if(xx v m t z64 z32).right then(if seed.length=32 then(xx v m t (yF v seed m t) (lI v m t (yF v seed m t)),0)else(zMes,1))else(zMes,3)
def vE(v:VwP)(seed:cT)(m:MesP):MesP×Nat:=xL v seed m (rh m)
theorem vu{v:VwP}(hv:v.okv){m:MesP}(hm:m.sml){t s e:cT}(ht:t.length<=100)(hs:s.length<=100)(he:e.length<=100):(xx v m t s e).sml:=⟨hv.group,hm.prop,hm.com,hs,ht,he⟩
theorem rV{v:VwP}(hv:v.okv){m:MesP}(hm:m.ints){t s e:cT}:(xx v m t s e).ints:=⟨hv.epoch,hv.own,hm.at_,hm.com⟩
theorem f9{v:VwP}{m:MesP}{t s s' e e':cT}(hs:s.length=s'.length)(he:e.length=e'.length):(xx v m t s e).right=(xx v m t s' e').right:=by
 unfold MesP.right xx
 simp only
 rw[hs,he]
theorem pU{m:MesP}(hm:m.sml):(rh m).length<=100:=by
 unfold rh
 split
 ·decide
 ·exact hm.tag
section
variable (v:VwP) (hv:v.okv) (m:MesP) (hm:m.sml) (hi:m.ints) (seed:cT) (t:cT) (ht:t.length<=100)
include hv hm ht
theorem pR{s e:cT}(hs:s.length<=100)(he:e.length<=100):(xh (xx v m t s e) v.ctx).length<=198000:=by
 have h1:=sv (vu hv hm ht hs he)
 have h2:=hv.ctx
 rw[xh,aL]
 omega
theorem nT{s e:cT}(hs:s.length<=100)(he:e.length<=100):(vG (xx v m t s e) v.ctx).length<=199000:=by
 have h1:=pR v hv m hm t ht hs he
 have h2:=nR (vu hv hm ht hs he)
 rw[vG,aL]
 omega
end
set_option maxRecDepth 20000 in
set_option maxHeartbeats 4000000 in
theorem No(v:VwP)(hv:v.okv)(seed:cT)(m:MesP)(hm:m.sml):
  aG 21 [.ag v.c,bs seed,.ag m.c] (.r (.tu [.ag (vE v seed m).1.c,Er (vE v seed m).2])):=by
 have c1:aG 42 [bs v.ctx.group] (.r (bs v.ctx.group)):=uH (x4 v.ctx.group (by have:=hv.group;omega))
 generalize hW:vE v seed m=W
 refine aT Tryz.func21 rfl ?_
 refine Vdraw.code (Vcode.float mixed Tab_ok 15 [⟨0,10,.adr 0 0,[]⟩,⟨1,11,.adr 0 0,[0]⟩,⟨2,12,.r (bs v.ctx.group),[1]⟩,⟨4,14,.adr 0 0,[]⟩,⟨5,15,.adr 0 1,[4]⟩,⟨6,16,.r (.i .u64 v.ctx.epoch),[5]⟩,⟨7,17,.adr 0 4,[]⟩,⟨8,18,.r (I v.own),[7]⟩,⟨9,19,.adr 1 0,[]⟩,⟨11,20,.adr 1 1,[]⟩,⟨13,21,.adr 1 2,[]⟩] [(3,[2]),(10,[9]),(12,[11,6]),(14,[13,8])] (by kernel_rfl) (F:=[(1,.r (bs seed)),(3,.own 0),(5,.own 1),(6,.own 2)]) (O:=[(0,some (.box (v.c.map .r))),(1,some (.box (m.c.map .r))),(2,some (.box (zMes.c.map .r)))]) (nx:=3) (zM [(0,0),(1,1),(2,2)]) ?_)
 refine⟨rfl,⟨λY=>zo _,λY=>zo _,λY=>zo _,λY=>zo _,λY=>zo _,λY=>zo _,λY=>zo _,λY=>zo _,λY=>zo _,λY=>zo _,λY=>zo _,trivial⟩,(13,.r (bs v.ctx.group))::[(1,.r (bs seed)),(3,.own 0),(5,.own 1),(6,.own 2)],[(0,some (.box (v.c.map .r))),(1,some (.box (m.c.map .r))),(2,some (.box (zMes.c.map .r)))],3,λY=>ze c1 (zo _),?_⟩
 refine⟨rfl,⟨λY=>zo _,λY=>zo _,λY=>zo _,λY=>zo _,λY=>zo _,λY=>zo _,λY=>zo _,λY=>zo _,λY=>zo _,λY=>zo _,λY=>zo _,trivial⟩,(13,.r (bs v.ctx.group))::[(1,.r (bs seed)),(3,.own 0),(5,.own 1),(6,.own 2)],(1,some (.box ((oZ v.ctx.group (.i .u64 m.epoch) m.frm m).map .r)))::[(0,some (.box (v.c.map .r))),(1,some (.box (m.c.map .r))),(2,some (.box (zMes.c.map .r)))],3,λY=>zo _,?_⟩
 refine⟨rfl,⟨λY=>zo _,λY=>zo _,λY=>zo _,λY=>zo _,λY=>zo _,λY=>zo _,λY=>zo _,λY=>zo _,λY=>zo _,λY=>zo _,λY=>zo _,trivial⟩,(13,.r (bs v.ctx.group))::[(1,.r (bs seed)),(3,.own 0),(5,.own 1),(6,.own 2)],(1,some (.box ((oZ v.ctx.group (.i .u64 v.ctx.epoch) m.frm m).map .r)))::(1,some (.box ((oZ v.ctx.group (.i .u64 m.epoch) m.frm m).map .r)))::[(0,some (.box (v.c.map .r))),(1,some (.box (m.c.map .r))),(2,some (.box (zMes.c.map .r)))],3,λY=>zo _,?_⟩
 refine⟨rfl,⟨λY=>zo _,λY=>zo _,λY=>zo _,λY=>zo _,λY=>zo _,λY=>zo _,λY=>zo _,λY=>zo _,λY=>zo _,λY=>zo _,λY=>zo _,trivial⟩,(13,.r (bs v.ctx.group))::[(1,.r (bs seed)),(3,.own 0),(5,.own 1),(6,.own 2)],(1,some (.box ((oZ v.ctx.group (.i .u64 v.ctx.epoch) v.own m).map .r)))::(1,some (.box ((oZ v.ctx.group (.i .u64 v.ctx.epoch) m.frm m).map .r)))::(1,some (.box ((oZ v.ctx.group (.i .u64 m.epoch) m.frm m).map .r)))::[(0,some (.box (v.c.map .r))),(1,some (.box (m.c.map .r))),(2,some (.box (zMes.c.map .r)))],3,λY=>zo _,?_⟩
 refine⟨rfl,⟨λY=>zo _,λY=>zo _,λY=>zo _,λY=>zo _,λY=>zo _,λY=>zo _,λY=>zo _,λY=>zo _,λY=>zo _,λY=>zo _,λY=>zo _,trivial⟩,?_⟩
 refine aV ?_
 refine⟨rfl,by decide,by decide,by decide,64,_,rfl,rfl,zw ?_⟩
 refine ze qk ?_
 by_cases k3:m.kind=3
 ·refine zt (by rw[k3];rfl) ?_
  refine cZ (λh=>?_) λh=>?_
  ·simp only[zb]at h
   refine ze qk ?_
   obtain⟨t,htt⟩: ∃t,t=z32:=⟨_,rfl⟩
   have hwt:rh m=t:=by rw[htt];rw[rh,cO ⟨k3,by omega⟩]
   have htl:t.length<=100:=by rw[<-hwt];exact pU hm
   have hR:xL v seed m t=W:=by rw[<-hW,vE,hwt]
   have s1:=vu hv hm (s:=z64) (e:=z32) htl (by decide) (by decide)
   have s2:=vu hv hm (s:=yF v seed m t) (e:=z32) htl (by rw[yF,xg];decide) (by decide)
   have hL:=pR v hv m hm t htl (s:=z64) (e:=z32) (by decide) (by decide)
   have hT:=nT v hv m hm t htl (s:=yF v seed m t) (e:=z32) (by rw[yF,xg];decide) (by decide)
   have c2:=nv (xx v m t z64 z32) s1 v.ctx hv.fit
   have hr2:(xx v m t (yF v seed m t) z32).right=(xx v m t z64 z32).right:=f9 (by rw[yF,xg];rfl) rfl
   have c4:=nw (xx v m t (yF v seed m t) z32) s2 v.ctx hv.fit
   have c5:=su v.sec (vG (xx v m t (yF v seed m t) z32) v.ctx) (by have:=hv.mb;omega) (by omega)
   rw[hr2]at c4
   refine cU ?_
   refine cU ?_
   unfold uy at c2 c4
   cases hr:(xx v m t z64 z32).right with
   |false=>
    rw[hr]at c2
    have hR:(zMes,3)=W:=by rw[<-hR,xL,hr];rfl
    refine zB c2 (zk (zf (by rw[htt];rfl)) (zn _)) ?_
    refine cY ?_
    refine cU ?_
    exact⟨_,rfl,by rw[<-hR];exact Cv.tu (zk (Cv.ag (by repeat' (first|exact zA|exact zn _|refine zk ?_ ?_|exact cr|exact z8 _))) (zn _))⟩
   |true=>
    rw[hr]at c2 c4
    refine zB c2 (zk (zf (by rw[htt];rfl)) (zn _)) ?_
    refine cX ?_
    by_cases hs:seed.length=32
    ·have hR:(xx v m t (yF v seed m t) (lI v m t (yF v seed m t)),0)=W:=by rw[<-hR,xL,hr,cO rfl,cO hs]
     refine ze (sN seed vW (xh (xx v m t z64 z32) v.ctx) hs (by decide) (by omega)) ?_
     refine cX ?_
     refine cU ?_
     refine cU ?_
     refine zB c4 (zk (zf (by rw[htt];rfl)) (zn _)) ?_
     refine cU ?_
     refine ze c5 ?_
     refine cU ?_
     refine cU ?_
     exact⟨_,rfl,zf (by rw[<-hR,htt];rfl)⟩
    ·have hR:(zMes,1)=W:=by rw[<-hR,xL,hr,cO rfl,cQ hs]
     refine ze (uI seed vW (xh (xx v m t z64 z32) v.ctx) hs (by decide) (by omega)) ?_
     refine cY ?_
     refine cU ?_
     exact⟨_,rfl,by rw[<-hR];exact Cv.tu (zk (Cv.ag (by repeat' (first|exact zA|exact zn _|refine zk ?_ ?_|exact cr|exact z8 _))) (zn _))⟩
  ·simp only[zb]at h
   obtain⟨t,htt⟩: ∃t,t=m.tag:=⟨_,rfl⟩
   have hwt:rh m=t:=by rw[htt];rw[rh,cQ (λe=>e.2 (by omega))]
   have htl:t.length<=100:=by rw[<-hwt];exact pU hm
   have hR:xL v seed m t=W:=by rw[<-hW,vE,hwt]
   have s1:=vu hv hm (s:=z64) (e:=z32) htl (by decide) (by decide)
   have s2:=vu hv hm (s:=yF v seed m t) (e:=z32) htl (by rw[yF,xg];decide) (by decide)
   have hL:=pR v hv m hm t htl (s:=z64) (e:=z32) (by decide) (by decide)
   have hT:=nT v hv m hm t htl (s:=yF v seed m t) (e:=z32) (by rw[yF,xg];decide) (by decide)
   have c2:=nv (xx v m t z64 z32) s1 v.ctx hv.fit
   have hr2:(xx v m t (yF v seed m t) z32).right=(xx v m t z64 z32).right:=f9 (by rw[yF,xg];rfl) rfl
   have c4:=nw (xx v m t (yF v seed m t) z32) s2 v.ctx hv.fit
   have c5:=su v.sec (vG (xx v m t (yF v seed m t) z32) v.ctx) (by have:=hv.mb;omega) (by omega)
   rw[hr2]at c4
   refine cU ?_
   refine cU ?_
   unfold uy at c2 c4
   cases hr:(xx v m t z64 z32).right with
   |false=>
    rw[hr]at c2
    have hR:(zMes,3)=W:=by rw[<-hR,xL,hr];rfl
    refine zB c2 (zk (zf (by rw[htt];rfl)) (zn _)) ?_
    refine cY ?_
    refine cU ?_
    exact⟨_,rfl,by rw[<-hR];exact Cv.tu (zk (Cv.ag (by repeat' (first|exact zA|exact zn _|refine zk ?_ ?_|exact cr|exact z8 _))) (zn _))⟩
   |true=>
    rw[hr]at c2 c4
    refine zB c2 (zk (zf (by rw[htt];rfl)) (zn _)) ?_
    refine cX ?_
    by_cases hs:seed.length=32
    ·have hR:(xx v m t (yF v seed m t) (lI v m t (yF v seed m t)),0)=W:=by rw[<-hR,xL,hr,cO rfl,cO hs]
     refine ze (sN seed vW (xh (xx v m t z64 z32) v.ctx) hs (by decide) (by omega)) ?_
     refine cX ?_
     refine cU ?_
     refine cU ?_
     refine zB c4 (zk (zf (by rw[htt];rfl)) (zn _)) ?_
     refine cU ?_
     refine ze c5 ?_
     refine cU ?_
     refine cU ?_
     exact⟨_,rfl,zf (by rw[<-hR,htt];rfl)⟩
    ·have hR:(zMes,1)=W:=by rw[<-hR,xL,hr,cO rfl,cQ hs]
     refine ze (uI seed vW (xh (xx v m t z64 z32) v.ctx) hs (by decide) (by omega)) ?_
     refine cY ?_
     refine cU ?_
     exact⟨_,rfl,by rw[<-hR];exact Cv.tu (zk (Cv.ag (by repeat' (first|exact zA|exact zn _|refine zk ?_ ?_|exact cr|exact z8 _))) (zn _))⟩
 ·refine zu (by simp only[zb];exact uO k3) (zq ?_)
  obtain⟨t,htt⟩: ∃t,t=m.tag:=⟨_,rfl⟩
  have hwt:rh m=t:=by rw[htt];rw[rh,cQ (λe=>k3 e.1)]
  have htl:t.length<=100:=by rw[<-hwt];exact pU hm
  have hR:xL v seed m t=W:=by rw[<-hW,vE,hwt]
  have s1:=vu hv hm (s:=z64) (e:=z32) htl (by decide) (by decide)
  have s2:=vu hv hm (s:=yF v seed m t) (e:=z32) htl (by rw[yF,xg];decide) (by decide)
  have hL:=pR v hv m hm t htl (s:=z64) (e:=z32) (by decide) (by decide)
  have hT:=nT v hv m hm t htl (s:=yF v seed m t) (e:=z32) (by rw[yF,xg];decide) (by decide)
  have c2:=nv (xx v m t z64 z32) s1 v.ctx hv.fit
  have hr2:(xx v m t (yF v seed m t) z32).right=(xx v m t z64 z32).right:=f9 (by rw[yF,xg];rfl) rfl
  have c4:=nw (xx v m t (yF v seed m t) z32) s2 v.ctx hv.fit
  have c5:=su v.sec (vG (xx v m t (yF v seed m t) z32) v.ctx) (by have:=hv.mb;omega) (by omega)
  rw[hr2]at c4
  refine cU ?_
  refine cU ?_
  unfold uy at c2 c4
  cases hr:(xx v m t z64 z32).right with
  |false=>
   rw[hr]at c2
   have hR:(zMes,3)=W:=by rw[<-hR,xL,hr];rfl
   refine zB c2 (zk (zf (by rw[htt];rfl)) (zn _)) ?_
   refine cY ?_
   refine cU ?_
   exact⟨_,rfl,by rw[<-hR];exact Cv.tu (zk (Cv.ag (by repeat' (first|exact zA|exact zn _|refine zk ?_ ?_|exact cr|exact z8 _))) (zn _))⟩
  |true=>
   rw[hr]at c2 c4
   refine zB c2 (zk (zf (by rw[htt];rfl)) (zn _)) ?_
   refine cX ?_
   by_cases hs:seed.length=32
   ·have hR:(xx v m t (yF v seed m t) (lI v m t (yF v seed m t)),0)=W:=by rw[<-hR,xL,hr,cO rfl,cO hs]
    refine ze (sN seed vW (xh (xx v m t z64 z32) v.ctx) hs (by decide) (by omega)) ?_
    refine cX ?_
    refine cU ?_
    refine cU ?_
    refine zB c4 (zk (zf (by rw[htt];rfl)) (zn _)) ?_
    refine cU ?_
    refine ze c5 ?_
    refine cU ?_
    refine cU ?_
    exact⟨_,rfl,zf (by rw[<-hR,htt];rfl)⟩
   ·have hR:(zMes,1)=W:=by rw[<-hR,xL,hr,cO rfl,cQ hs]
    refine ze (uI seed vW (xh (xx v m t z64 z32) v.ctx) hs (by decide) (by omega)) ?_
    refine cY ?_
    refine cU ?_
    exact⟨_,rfl,by rw[<-hR];exact Cv.tu (zk (Cv.ag (by repeat' (first|exact zA|exact zn _|refine zk ?_ ?_|exact cr|exact z8 _))) (zn _))⟩
section
open Go.ChangeShapes Go.WideShapes Go.ChangeAt Go.RowKit Go.Deep
theorem qp{α:Type}{l:List α}(h:l.length=2): ∃c0 c1,l=[c0,c1]:=by
 match l,h with
 |[c0,c1],_=>exact⟨_,_,rfl⟩
theorem GL{α:Type}{l:List α}(h:l.length=3): ∃c0 c1 c2,l=[c0,c1,c2]:=by
 match l,h with
 |[c0,c1,c2],_=>exact⟨_,_,_,rfl⟩
theorem Rs{α:Type}{l:List α}(h:l.length=4): ∃c0 c1 c2 c3,l=[c0,c1,c2,c3]:=by
 match l,h with
 |[c0,c1,c2,c3],_=>exact⟨_,_,_,_,rfl⟩
theorem GM{α:Type}{l:List α}(h:l.length=6): ∃c0 c1 c2 c3 c4 c5,l=[c0,c1,c2,c3,c4,c5]:=by
 match l,h with
 |[c0,c1,c2,c3,c4,c5],_=>exact⟨_,_,_,_,_,_,rfl⟩
theorem GN{α:Type}{l:List α}(h:l.length=7): ∃c0 c1 c2 c3 c4 c5 c6,l=[c0,c1,c2,c3,c4,c5,c6]:=by
 match l,h with
 |[c0,c1,c2,c3,c4,c5,c6],_=>exact⟨_,_,_,_,_,_,_,rfl⟩
theorem Rt{α:Type}{l:List α}(h:l.length=9): ∃c0 c1 c2 c3 c4 c5 c6 c7 c8,l=[c0,c1,c2,c3,c4,c5,c6,c7,c8]:=by
 match l,h with
 |[c0,c1,c2,c3,c4,c5,c6,c7,c8],_=>exact⟨_,_,_,_,_,_,_,_,_,rfl⟩
theorem Uy{α:Type}{l:List α}(h:l.length=12): ∃c0 c1 c2 c3 c4 c5 c6 c7 c8 c9 c10 c11,l=[c0,c1,c2,c3,c4,c5,c6,c7,c8,c9,c10,c11]:=by
 match l,h with
 |[c0,c1,c2,c3,c4,c5,c6,c7,c8,c9,c10,c11],_=>exact⟨_,_,_,_,_,_,_,_,_,_,_,_,rfl⟩
theorem KC{α:Type}{l:List α}(h:l.length=17): ∃c0 c1 c2 c3 c4 c5 c6 c7 c8 c9 c10 c11 c12 c13 c14 c15 c16,l=[c0,c1,c2,c3,c4,c5,c6,c7,c8,c9,c10,c11,c12,c13,c14,c15,c16]:=by
 match l,h with
 |[c0,c1,c2,c3,c4,c5,c6,c7,c8,c9,c10,c11,c12,c13,c14,c15,c16],_=>exact⟨_,_,_,_,_,_,_,_,_,_,_,_,_,_,_,_,_,rfl⟩
theorem KD{α:Type}{l:List α}(h:l.length=20): ∃c0 c1 c2 c3 c4 c5 c6 c7 c8 c9 c10 c11 c12 c13 c14 c15 c16 c17 c18 c19,l=[c0,c1,c2,c3,c4,c5,c6,c7,c8,c9,c10,c11,c12,c13,c14,c15,c16,c17,c18,c19]:=by
 match l,h with
 |[c0,c1,c2,c3,c4,c5,c6,c7,c8,c9,c10,c11,c12,c13,c14,c15,c16,c17,c18,c19],_=>exact⟨_,_,_,_,_,_,_,_,_,_,_,_,_,_,_,_,_,_,_,_,rfl⟩
theorem KE{α:Type}{l:List α}(h:l.length=32): ∃c0 c1 c2 c3 c4 c5 c6 c7 c8 c9 c10 c11 c12 c13 c14 c15 c16 c17 c18 c19 c20 c21 c22 c23 c24 c25 c26 c27 c28 c29 c30 c31,l=[c0,c1,c2,c3,c4,c5,c6,c7,c8,c9,c10,c11,c12,c13,c14,c15,c16,c17,c18,c19,c20,c21,c22,c23,c24,c25,c26,c27,c28,c29,c30,c31]:=by
 match l,h with
 |[c0,c1,c2,c3,c4,c5,c6,c7,c8,c9,c10,c11,c12,c13,c14,c15,c16,c17,c18,c19,c20,c21,c22,c23,c24,c25,c26,c27,c28,c29,c30,c31],_=>exact⟨_,_,_,_,_,_,_,_,_,_,_,_,_,_,_,_,_,_,_,_,_,_,_,_,_,_,_,_,_,_,_,_,rfl⟩
theorem lG{H:Type}{P:Program}{e:TypeId}: ∀{l:List (DataW H)} {d:DataW H},d∈l->∀n∈d.weights P e,n∈DataW.weightsAll P e l
 |x::r,d,h,n,hn=>by
  simp only[DataW.weightsAll,List.mem_append]
  rcases List.mem_cons.1 h with rfl |h
  ·exact .inl hn
  ·exact .inr (lG h n hn)
section
variable {P:Program} {r:Rd P} {t e:TypeId} {σ:Type} {c:σ->List RV} {ok:σ->Prop}
theorem Rd.u64(ht:P.underlying t=some (.int .u64)):r.Reads (λn:Nat=>[.i .u64 n]) (λn=>n<18446744073709551616) t:=λfuel cs x h=>by
 obtain⟨n,rfl,_,hw⟩:=DataW.trod_int ht h
 simp only[Lit.wf,bB,decide_eq_true_eq]at hw
 have h1:(0:Int)<=n:=hw.1
 have h2:n<=18446744073709551615:=hw.2
 obtain⟨k,rfl⟩: ∃k:Nat,n=k:=⟨n.toNat,by omega⟩
 exact⟨k,by omega,by simp only[RV.listAt,RV.at_];exact⟨_,[],rfl,rfl,rfl,rfl⟩⟩
theorem Rd.bool(ht:P.underlying t=some .bool):r.Reads (λb:Bool=>[.b b]) (λ_=>True) t:=λfuel cs x h=>by
 obtain⟨b,rfl,_⟩:=DataW.trod_bool ht h
 exact⟨b,trivial,by simp only[RV.listAt,RV.at_];exact⟨_,[],rfl,rfl,rfl,rfl⟩⟩
theorem Rd.sliceW{sz:Nat}(ht:P.underlying t=some (.slice e))(hC:P.cellsOf e=sz)(h0:0<sz)(hl: ∀s,(c s).length=sz)
  (h: ∀fuel cs (x:DataW r.H×List MemPlace),r.trod fuel e cs=some x->(∀n∈x.1.weights P e,n<=reachBytes)->∃s,ok s/\RV.listAt r.w (tt r.w) (c s) cs)
  {fuel:Nat} {cs:List Value} {x:DataW r.H×List MemPlace} (hx:r.trod fuel t cs=some x) (hw: ∀n∈x.1.weights P t,n<=reachBytes):
  ∃l:List σ,(∀y∈l,ok y)/\RV.listAt r.w (tt r.w) [.sl sz l.length (l.flatMap c)] cs:=by
 have hlen: ∀l:List σ,(l.flatMap c).length=l.length*sz:=λl=>by
  induction l with
  |nil=>simp
  |cons y l ih=>rw[List.flatMap_cons,aL,hl,ih,bJ,Nat.add_mul];omega
 rcases open_slice ht hx with⟨rfl,_⟩ |⟨a,len,cap,m,n,D,Pl,rfl,hb,hlc,hcm,hm,hd,hi⟩
 ·refine⟨[],by simp,?_⟩
  simp only[RV.listAt,RV.at_]
  exact⟨_,[],rfl,rfl,⟨none,0,rfl,by simp,by simp,by simp,λh=>absurd h (by simp)⟩,rfl⟩
 ·have hlm:len<=m:=by rw[hm];split<;>omega
  rw[hC]at hi
  by_cases hz:len=0
  ·subst hz
   refine⟨[],by simp,?_⟩
   simp only[RV.listAt,RV.at_]
   exact⟨_,[],rfl,rfl,⟨some a,cap,rfl,by simp,hcm,by simp,λh=>absurd h (by simp)⟩,rfl⟩
  ·obtain⟨b,o,spot⟩:=a
   obtain⟨cs0,hc0,_⟩:=hi 0 (by omega)
   obtain⟨_,hl0,ha0⟩:=World.cells?_some hc0
   have hs0:=ha0 0 h0
   rw[bA (by omega)]at hs0
   have hspot:spot=none:=by simpa[Addr.add]using World.cell?_spot hs0
   subst hspot
   have hblk:b<r.w.heap.size:=by
    have:=hs0
    rw[Nat.zero_mul,add_plain,add_plain]at this
    exact(Yh this).2
   obtain⟨l,h1,h2,h3⟩:=Rd.elems (r:=r) (b:=b) (o:=o) (ok:=ok) hl len 0 λi hil=>by
    obtain⟨cs',hc,ht'⟩:=hi i (by omega)
    obtain⟨_,hcl,hat⟩:=World.cells?_some hc
    refine⟨cs',λj hj=>?_,h n cs' _ ht' λq hq=>hw q ?_⟩
    ·have:=hat j (by omega)
     rw[add_plain,add_plain]at this
     simpa using this
    ·rw[hd]
     simp only[DataW.weights,ht]
     exact cK _ (List.mem_append_left _ (lG (List.mem_map.2 ⟨i,List.mem_range.2 hil,rfl⟩) q hq))
   refine⟨l,h2,?_⟩
   simp only[RV.listAt,RV.at_]
   refine⟨_,[],rfl,rfl,⟨_,cap,by rw[h1],by omega,hcm,hlen l,λ_=>⟨b,o,rfl,hblk,by simpa using h3⟩⟩,rfl⟩
end
section
variable {r:Rd Tryz.prog}
theorem Rd.bytesW{fuel:Nat}{cs:List Value}{x:DataW r.H×List MemPlace}(hx:r.trod fuel 22 cs=some x)(hw: ∀n∈x.1.weights aP 22,n<=reachBytes):
  ∃l:cT,l.length<=140737488355328/\RV.listAt r.w (tt r.w) [bs l] cs:=by
 obtain⟨l,_,h,h3⟩:=Rd.slice (sz:=1) Tryz.underlying22 (by kernel_rfl) (by omega) (λ_=>rfl) (Rd.u8 Tryz.underlying5) hx
 refine⟨l,?_,?_⟩
 ·rcases h3 with rfl |⟨E,Sp,he,hlen⟩
  ·simp
  ·have:=hw ((E.length+Sp.length)*Tryz.prog.bytesOf 5) (by rw[he];simp[DataW.weights,Tryz.underlying22])
   rw[show Tryz.prog.bytesOf 5=1 by kernel_rfl]at this
   simp only[reachBytes]at this
   omega
 ·rw[Vz]at h
  exact h
theorem Rd.boxd:r.Reads BoxP.c (λ_=>True) 213:=λfuel cs x hx=>by
 obtain⟨hl,xs,n,_,hxl,hf⟩:=Rd.struct (C:=2) Tryz.underlying213 (by kernel_rfl) hx
 obtain⟨a0,a1,rfl⟩:=qp hl
 obtain⟨y0,y1,rfl⟩:=qp hxl
 have h0:r.trod n 22 [a0]=some y0:=hf 0 _ rfl 1 (by kernel_rfl)
 have h1:r.trod n 22 [a1]=some y1:=hf 1 _ rfl 1 (by kernel_rfl)
 obtain⟨s0,k0,g0⟩:=(Rd.bytes Tryz.underlying22 Tryz.underlying5 (by kernel_rfl)) _ _ _ h0
 obtain⟨s1,k1,g1⟩:=(Rd.bytes Tryz.underlying22 Tryz.underlying5 (by kernel_rfl)) _ _ _ h1
 exact⟨⟨s0,s1⟩,trivial,yo g0 g1⟩
theorem Rd.stp:r.Reads StpP.c (λ_=>True) 211:=λfuel cs x hx=>by
 obtain⟨hl,xs,n,_,hxl,hf⟩:=Rd.struct (C:=2) Tryz.underlying211 (by kernel_rfl) hx
 obtain⟨a0,a1,rfl⟩:=qp hl
 obtain⟨y0,y1,rfl⟩:=qp hxl
 have h0:r.trod n 22 [a0]=some y0:=hf 0 _ rfl 1 (by kernel_rfl)
 have h1:r.trod n 209 [a1]=some y1:=hf 1 _ rfl 1 (by kernel_rfl)
 obtain⟨s0,k0,g0⟩:=(Rd.bytes Tryz.underlying22 Tryz.underlying5 (by kernel_rfl)) _ _ _ h0
 obtain⟨s1,k1,g1,_⟩:=Rd.slice (sz:=2) Tryz.underlying209 (by kernel_rfl) (by omega) (λ_=>rfl) Rd.boxd h1
 exact⟨⟨s0,s1⟩,trivial,yo g0 g1⟩
theorem Rd.item:r.Reads ItemP.c (λi=>Sx.i64 i.prop.at_) 143:=λfuel cs x hx=>by
 obtain⟨hl,xs,n,_,hxl,hf⟩:=Rd.struct (C:=17) Tryz.underlying143 (by kernel_rfl) hx
 obtain⟨a0,a1,a2,a3,a4,a5,a6,a7,a8,a9,a10,a11,a12,a13,a14,a15,a16,rfl⟩:=KC hl
 obtain⟨y0,y1,rfl⟩:=qp hxl
 have h0:r.trod n 22 [a0]=some y0:=hf 0 _ rfl 1 (by kernel_rfl)
 have h1:r.trod n 67 [a1,a2,a3,a4,a5,a6,a7,a8,a9,a10,a11,a12,a13,a14,a15,a16]=some y1:=hf 1 _ rfl 16 (by kernel_rfl)
 obtain⟨s0,k0,g0⟩:=(Rd.bytes Tryz.underlying22 Tryz.underlying5 (by kernel_rfl)) _ _ _ h0
 obtain⟨s1,k1,g1⟩:=Rd.prop _ _ _ h1
 exact⟨⟨s0,s1⟩,k1,yo g0 g1⟩
theorem Rd.way:r.Reads WayP.c (λ_=>True) 71:=λfuel cs x hx=>by
 obtain⟨hl,xs,n,_,hxl,hf⟩:=Rd.struct (C:=7) Tryz.underlying71 (by kernel_rfl) hx
 obtain⟨a0,a1,a2,a3,a4,a5,a6,rfl⟩:=GN hl
 obtain⟨y0,y1,rfl⟩:=qp hxl
 have h0:r.trod n 29 [a0,a1,a2,a3,a4,a5]=some y0:=hf 0 _ rfl 6 (by kernel_rfl)
 have h1:r.trod n 69 [a6]=some y1:=hf 1 _ rfl 1 (by kernel_rfl)
 obtain⟨s0,k0,g0⟩:=Rd.leaf _ _ _ h0
 obtain⟨s1,k1,g1,_⟩:=Rd.slice (sz:=2) Tryz.underlying69 (by kernel_rfl) (by omega) (λ_=>rfl) Rd.stp h1
 exact⟨⟨s0,s1⟩,trivial,yo g0 g1⟩
theorem Rd.com:r.Reads ComP.c (λc=>c.ints) 73:=λfuel cs x hx=>by
 obtain⟨hl,xs,n,_,hxl,hf⟩:=Rd.struct (C:=9) Tryz.underlying73 (by kernel_rfl) hx
 obtain⟨a0,a1,a2,a3,a4,a5,a6,a7,a8,rfl⟩:=Rt hl
 obtain⟨y0,y1,y2,rfl⟩:=GL hxl
 have h0:r.trod n 68 [a0]=some y0:=hf 0 _ rfl 1 (by kernel_rfl)
 have h1:r.trod n 4 [a1]=some y1:=hf 1 _ rfl 1 (by kernel_rfl)
 have h2:r.trod n 71 [a2,a3,a4,a5,a6,a7,a8]=some y2:=hf 2 _ rfl 7 (by kernel_rfl)
 obtain⟨s0,k0,g0,_⟩:=Rd.slice (sz:=17) Tryz.underlying68 (by kernel_rfl) (by omega) (λ_=>rfl) Rd.item h0
 obtain⟨s1,k1,g1⟩:=(Rd.bool Tryz.underlying4) _ _ _ h1
 obtain⟨s2,k2,g2⟩:=Rd.way _ _ _ h2
 exact⟨⟨s0,s1,s2⟩,⟨k0⟩,yo g0 (yo g1 g2)⟩
theorem Rd.mes:r.Reads MesP.c (λm=>m.ints) 75:=λfuel cs x hx=>by
 obtain⟨hl,xs,n,_,hxl,hf⟩:=Rd.struct (C:=32) Tryz.underlying75 (by kernel_rfl) hx
 obtain⟨a0,a1,a2,a3,a4,a5,a6,a7,a8,a9,a10,a11,a12,a13,a14,a15,a16,a17,a18,a19,a20,a21,a22,a23,a24,a25,a26,a27,a28,a29,a30,a31,rfl⟩:=KE hl
 obtain⟨y0,y1,y2,y3,y4,y5,y6,y7,y8,rfl⟩:=Rt hxl
 have h0:r.trod n 22 [a0]=some y0:=hf 0 _ rfl 1 (by kernel_rfl)
 have h1:r.trod n 43 [a1]=some y1:=hf 1 _ rfl 1 (by kernel_rfl)
 have h2:r.trod n 3 [a2]=some y2:=hf 2 _ rfl 1 (by kernel_rfl)
 have h3:r.trod n 5 [a3]=some y3:=hf 3 _ rfl 1 (by kernel_rfl)
 have h4:r.trod n 67 [a4,a5,a6,a7,a8,a9,a10,a11,a12,a13,a14,a15,a16,a17,a18,a19]=some y4:=hf 4 _ rfl 16 (by kernel_rfl)
 have h5:r.trod n 73 [a20,a21,a22,a23,a24,a25,a26,a27,a28]=some y5:=hf 5 _ rfl 9 (by kernel_rfl)
 have h6:r.trod n 22 [a29]=some y6:=hf 6 _ rfl 1 (by kernel_rfl)
 have h7:r.trod n 22 [a30]=some y7:=hf 7 _ rfl 1 (by kernel_rfl)
 have h8:r.trod n 22 [a31]=some y8:=hf 8 _ rfl 1 (by kernel_rfl)
 obtain⟨s0,k0,g0⟩:=(Rd.bytes Tryz.underlying22 Tryz.underlying5 (by kernel_rfl)) _ _ _ h0
 obtain⟨s1,k1,g1⟩:=(Rd.u64 Tryz.underlying43) _ _ _ h1
 obtain⟨s2,k2,g2⟩:=(Rd.i64 Tryz.underlying3) _ _ _ h2
 obtain⟨s3,k3,g3⟩:=(Rd.u8 Tryz.underlying5) _ _ _ h3
 obtain⟨s4,k4,g4⟩:=Rd.prop _ _ _ h4
 obtain⟨s5,k5,g5⟩:=Rd.com _ _ _ h5
 obtain⟨s6,k6,g6⟩:=(Rd.bytes Tryz.underlying22 Tryz.underlying5 (by kernel_rfl)) _ _ _ h6
 obtain⟨s7,k7,g7⟩:=(Rd.bytes Tryz.underlying22 Tryz.underlying5 (by kernel_rfl)) _ _ _ h7
 obtain⟨s8,k8,g8⟩:=(Rd.bytes Tryz.underlying22 Tryz.underlying5 (by kernel_rfl)) _ _ _ h8
 exact⟨⟨s0,s1,s2,s3,s4,s5,s6,s7,s8⟩,⟨k1,k2,k4,k5⟩,yo g0 (yo g1 (yo g2 (yo g3 (yo g4 (yo g5 (yo g6 (yo g7 g8)))))))⟩
theorem Rd.ctx:r.Reads CtxP.c (λx=>x.epoch<18446744073709551616) 45:=λfuel cs x hx=>by
 obtain⟨hl,xs,n,_,hxl,hf⟩:=Rd.struct (C:=4) Tryz.underlying45 (by kernel_rfl) hx
 obtain⟨a0,a1,a2,a3,rfl⟩:=Rs hl
 obtain⟨y0,y1,y2,y3,rfl⟩:=Rs hxl
 have h0:r.trod n 22 [a0]=some y0:=hf 0 _ rfl 1 (by kernel_rfl)
 have h1:r.trod n 43 [a1]=some y1:=hf 1 _ rfl 1 (by kernel_rfl)
 have h2:r.trod n 22 [a2]=some y2:=hf 2 _ rfl 1 (by kernel_rfl)
 have h3:r.trod n 22 [a3]=some y3:=hf 3 _ rfl 1 (by kernel_rfl)
 obtain⟨s0,k0,g0⟩:=(Rd.bytes Tryz.underlying22 Tryz.underlying5 (by kernel_rfl)) _ _ _ h0
 obtain⟨s1,k1,g1⟩:=(Rd.u64 Tryz.underlying43) _ _ _ h1
 obtain⟨s2,k2,g2⟩:=(Rd.bytes Tryz.underlying22 Tryz.underlying5 (by kernel_rfl)) _ _ _ h2
 obtain⟨s3,k3,g3⟩:=(Rd.bytes Tryz.underlying22 Tryz.underlying5 (by kernel_rfl)) _ _ _ h3
 exact⟨⟨s0,s1,s2,s3⟩,k1,yo g0 (yo g1 (yo g2 g3))⟩
theorem Rd.sec:r.Reads SecP.c (λ_=>True) 50:=λfuel cs x hx=>by
 obtain⟨hl,xs,n,_,hxl,hf⟩:=Rd.struct (C:=12) Tryz.underlying50 (by kernel_rfl) hx
 obtain⟨a0,a1,a2,a3,a4,a5,a6,a7,a8,a9,a10,a11,rfl⟩:=Uy hl
 obtain⟨y0,y1,y2,y3,y4,y5,y6,y7,y8,y9,y10,y11,rfl⟩:=Uy hxl
 have h0:r.trod n 22 [a0]=some y0:=hf 0 _ rfl 1 (by kernel_rfl)
 have h1:r.trod n 22 [a1]=some y1:=hf 1 _ rfl 1 (by kernel_rfl)
 have h2:r.trod n 22 [a2]=some y2:=hf 2 _ rfl 1 (by kernel_rfl)
 have h3:r.trod n 22 [a3]=some y3:=hf 3 _ rfl 1 (by kernel_rfl)
 have h4:r.trod n 22 [a4]=some y4:=hf 4 _ rfl 1 (by kernel_rfl)
 have h5:r.trod n 22 [a5]=some y5:=hf 5 _ rfl 1 (by kernel_rfl)
 have h6:r.trod n 22 [a6]=some y6:=hf 6 _ rfl 1 (by kernel_rfl)
 have h7:r.trod n 22 [a7]=some y7:=hf 7 _ rfl 1 (by kernel_rfl)
 have h8:r.trod n 22 [a8]=some y8:=hf 8 _ rfl 1 (by kernel_rfl)
 have h9:r.trod n 22 [a9]=some y9:=hf 9 _ rfl 1 (by kernel_rfl)
 have h10:r.trod n 22 [a10]=some y10:=hf 10 _ rfl 1 (by kernel_rfl)
 have h11:r.trod n 22 [a11]=some y11:=hf 11 _ rfl 1 (by kernel_rfl)
 obtain⟨s0,k0,g0⟩:=(Rd.bytes Tryz.underlying22 Tryz.underlying5 (by kernel_rfl)) _ _ _ h0
 obtain⟨s1,k1,g1⟩:=(Rd.bytes Tryz.underlying22 Tryz.underlying5 (by kernel_rfl)) _ _ _ h1
 obtain⟨s2,k2,g2⟩:=(Rd.bytes Tryz.underlying22 Tryz.underlying5 (by kernel_rfl)) _ _ _ h2
 obtain⟨s3,k3,g3⟩:=(Rd.bytes Tryz.underlying22 Tryz.underlying5 (by kernel_rfl)) _ _ _ h3
 obtain⟨s4,k4,g4⟩:=(Rd.bytes Tryz.underlying22 Tryz.underlying5 (by kernel_rfl)) _ _ _ h4
 obtain⟨s5,k5,g5⟩:=(Rd.bytes Tryz.underlying22 Tryz.underlying5 (by kernel_rfl)) _ _ _ h5
 obtain⟨s6,k6,g6⟩:=(Rd.bytes Tryz.underlying22 Tryz.underlying5 (by kernel_rfl)) _ _ _ h6
 obtain⟨s7,k7,g7⟩:=(Rd.bytes Tryz.underlying22 Tryz.underlying5 (by kernel_rfl)) _ _ _ h7
 obtain⟨s8,k8,g8⟩:=(Rd.bytes Tryz.underlying22 Tryz.underlying5 (by kernel_rfl)) _ _ _ h8
 obtain⟨s9,k9,g9⟩:=(Rd.bytes Tryz.underlying22 Tryz.underlying5 (by kernel_rfl)) _ _ _ h9
 obtain⟨s10,k10,g10⟩:=(Rd.bytes Tryz.underlying22 Tryz.underlying5 (by kernel_rfl)) _ _ _ h10
 obtain⟨s11,k11,g11⟩:=(Rd.bytes Tryz.underlying22 Tryz.underlying5 (by kernel_rfl)) _ _ _ h11
 exact⟨⟨s0,s1,s2,s3,s4,s5,s6,s7,s8,s9,s10,s11⟩,trivial,yo g0 (yo g1 (yo g2 (yo g3 (yo g4 (yo g5 (yo g6 (yo g7 (yo g8 (yo g9 (yo g10 g11))))))))))⟩
theorem Rd.keyW(fuel:Nat)(cs:List Value)(x:DataW r.H×List MemPlace)(hx:r.trod fuel 47 cs=some x)(hw: ∀n∈x.1.weights aP 47,n<=reachBytes):
  ∃k:KeyP,k.key.length<=140737488355328/\RV.listAt r.w (tt r.w) k.c cs:=by
 obtain⟨hl,xs,n,hd,hxl,hf⟩:=Rd.struct (C:=2) Tryz.underlying47 (by kernel_rfl) hx
 obtain⟨a0,a1,rfl⟩:=qp hl
 obtain⟨y0,y1,rfl⟩:=qp hxl
 have h0:r.trod n 3 [a0]=some y0:=hf 0 _ rfl 1 (by kernel_rfl)
 have h1:r.trod n 22 [a1]=some y1:=hf 1 _ rfl 1 (by kernel_rfl)
 rw[hd]at hw
 have hw1: ∀m∈y1.1.weights aP 22,m<=reachBytes:=λm hm=>hw m (by
  simp only[DataW.weights,Tryz.underlying47]
  exact DataW.weights_mem_each (j:=1) rfl rfl m hm)
 obtain⟨s0,k0,g0⟩:=(Rd.i64 Tryz.underlying3) _ _ _ h0
 obtain⟨s1,k1,g1⟩:=Rd.bytesW h1 hw1
 exact⟨⟨s0,s1⟩,k1,yo g0 g1⟩
theorem Rd.view{fuel:Nat}{cs:List Value}{x:DataW r.H×List MemPlace}(hx:r.trod fuel 52 cs=some x)(hw: ∀n∈x.1.weights aP 52,n<=reachBytes):
  ∃v:VwP,(v.ctx.epoch<18446744073709551616/\Sx.i64 v.own/\∀k∈v.keys,k.key.length<=140737488355328)/\RV.listAt r.w (tt r.w) v.c cs:=by
 obtain⟨hl,xs,n,hd,hxl,hf⟩:=Rd.struct (C:=20) Tryz.underlying52 (by kernel_rfl) hx
 obtain⟨a0,a1,a2,a3,a4,a5,a6,a7,a8,a9,b0,b1,b2,b3,b4,b5,b6,b7,b8,b9,rfl⟩:=KD hl
 obtain⟨y0,y1,y2,y3,y4,y5,rfl⟩:=GM hxl
 have h0:r.trod n 45 [a0,a1,a2,a3]=some y0:=hf 0 _ rfl 4 (by kernel_rfl)
 have h1:r.trod n 3 [a4]=some y1:=hf 1 _ rfl 1 (by kernel_rfl)
 have h2:r.trod n 22 [a5]=some y2:=hf 2 _ rfl 1 (by kernel_rfl)
 have h3:r.trod n 22 [a6]=some y3:=hf 3 _ rfl 1 (by kernel_rfl)
 have h4:r.trod n 50 [a7,a8,a9,b0,b1,b2,b3,b4,b5,b6,b7,b8]=some y4:=hf 4 _ rfl 12 (by kernel_rfl)
 have h5:r.trod n 48 [b9]=some y5:=hf 5 _ rfl 1 (by kernel_rfl)
 rw[hd]at hw
 have hw5: ∀m∈y5.1.weights aP 48,m<=reachBytes:=λm hm=>hw m (by
  simp only[DataW.weights,Tryz.underlying52]
  exact DataW.weights_mem_each (j:=5) rfl rfl m hm)
 obtain⟨s0,k0,g0⟩:=Rd.ctx _ _ _ h0
 obtain⟨s1,k1,g1⟩:=(Rd.i64 Tryz.underlying3) _ _ _ h1
 obtain⟨s2,k2,g2⟩:=(Rd.bytes Tryz.underlying22 Tryz.underlying5 (by kernel_rfl)) _ _ _ h2
 obtain⟨s3,k3,g3⟩:=(Rd.bytes Tryz.underlying22 Tryz.underlying5 (by kernel_rfl)) _ _ _ h3
 obtain⟨s4,k4,g4⟩:=Rd.sec _ _ _ h4
 obtain⟨s5,k5,g5⟩:=Rd.sliceW (sz:=2) (c:=KeyP.c) (ok:=λk=>k.key.length<=140737488355328) Tryz.underlying48 (by kernel_rfl) (by omega) (λ_=>rfl) (λfuel cs x h w=>Rd.keyW fuel cs x h w) h5 hw5
 exact⟨⟨s0,s1,s2,s3,s4,s5⟩,⟨k0,k1,k5⟩,yo g0 (yo g1 (yo g2 (yo g3 (yo g4 g5))))⟩
end
set_option maxRecDepth 100000 in
theorem Dz{H:Type}{enc:TypeId×Value->H}{W:World}{base:Nat}{v:Value}{d:DataW H}{p:List MemPlace}(hval:Value.okWide aP W .any base 75 v)
  (h:DataW.Trod enc aP W 0 (λ_=>true) true 75 v d p):
  ∃s:MesP,s.ints/\(RV.ag s.c).at_ W (tt W) v:=by
 obtain⟨us,rfl,_⟩:=okWide_struct Tryz.underlying75 hval
 obtain⟨fuel,hf⟩:=h
 obtain⟨s,hs,hl⟩:=Rd.mes (r:=⟨H,enc,W,0,λ_=>true,true⟩) fuel us.toList (d,p) hf
 exact⟨s,hs,by simp only[RV.at_];exact⟨us,rfl,hl⟩⟩
set_option maxRecDepth 100000 in
theorem FB{H:Type}{enc:TypeId×Value->H}{W:World}{base:Nat}{v:Value}{d:DataW H}{p:List MemPlace}(hval:Value.okWide aP W .any base 52 v)
  (h:DataW.Trod enc aP W 0 (λ_=>true) true 52 v d p) (hw: ∀n∈d.weights aP 52,n<=reachBytes):
  ∃s:VwP,(s.ctx.epoch<18446744073709551616/\Sx.i64 s.own/\∀k∈s.keys,k.key.length<=140737488355328)/\(RV.ag s.c).at_ W (tt W) v:=by
 obtain⟨us,rfl,_⟩:=okWide_struct Tryz.underlying52 hval
 obtain⟨fuel,hf⟩:=h
 obtain⟨s,hs,hl⟩:=Rd.view (r:=⟨H,enc,W,0,λ_=>true,true⟩) (fuel:=fuel) (cs:=us.toList) (x:=(d,p)) hf hw
 exact⟨s,hs,by simp only[RV.at_];exact⟨us,rfl,hl⟩⟩
set_option maxRecDepth 100000 in
theorem GS{H:Type}{enc:TypeId×Value->H}{W:World}{base:Nat}{v:Value}{d:DataW H}{p:List MemPlace}(hval:Value.okWide aP W .any base 60 v)
  (h:DataW.Trod enc aP W 0 (λ_=>true) true 60 v d p):
  ∃l:List MesP,(∀x∈l,x.ints)/\(qU l).at_ W (tt W) v:=by
 obtain⟨a,n,c,rfl⟩:=okWide_slice Tryz.underlying60 hval
 obtain⟨fuel,hf⟩:=h
 obtain⟨l,h1,h2,_⟩:=Rd.slice (sz:=32) (r:=⟨H,enc,W,0,λ_=>true,true⟩) (fuel:=fuel) (cs:=[.slice a n c]) (x:=(d,p)) Tryz.underlying60 (by kernel_rfl) (by omega) (λ_=>rfl) Rd.mes hf
 refine⟨l,h1,?_⟩
 simp only[RV.listAt]at h2
 obtain⟨u,r,e,_,hat,rfl⟩:=h2
 simp only[List.cons.injEq,and_true]at e
 rw[e]
 exact hat
end
end Go.Proofs.YtkegaaonpekkgaaGreat.Sx
