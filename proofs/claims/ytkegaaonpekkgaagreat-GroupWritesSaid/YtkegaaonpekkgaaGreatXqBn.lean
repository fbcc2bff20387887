import Derived.Test.YtkegaaonpekkgaaGreatXqJq
import Derived.Test.YtkegaaonpekkgaaGreatXqVh
import Derived.Test.YtkegaaonpekkgaaGreatXqJd
namespace Go.Proofs.YtkegaaonpekkgaaGreat.Sx
open Go.RowKit
theorem Vv{α:Type}{q:α->Bool}: ∀{l:List α} {k:Nat} (h:k<l.length),(∀x∈l.take k,q x=false)->q l[k]=true->l.find? q=some l[k]
 |x::r,0,h,_,hq=>by
  rw[List.find?_cons]
  simp only[List.getElem_cons_zero]at hq⊢
  rw[hq]
 |x::r,k+1,h,ha,hq=>by
  rw[List.find?_cons,ha x (by simp)]
  simp only[List.getElem_cons_succ]at hq⊢
  exact Vv (by simp only[bJ]at h;omega) (λy hy=>ha y (by rw[List.take_succ_cons];exact cK _ hy)) hq
theorem LA{α:Type}{q:α->Bool}{l:List α}{k:Nat}(h:l.length<=k)(ha: ∀x∈l.take k,q x=false):l.find? q=none:=by
 rw[bF h]at ha
 rw[List.find?_eq_none]
 intro x hx
 rw[ha x hx]
 simp
def Hq(o:Option (List OffP)):RV:=match o with
 |some l=> .tu [oq l,.b true]
 |none=> .tu [oq [],.b false]
def PD(acc:List OffP)(o:Option MesP):List OffP:=match o with
 |none=>acc
 |some w=>acc++[⟨w.frm,w.prop⟩]
theorem NF(wait:List MesP)(m:MesP)(hw:wait.length<=1000000)(hf: ∀x∈wait,x.sml/\x.ints)(hm:m.com.items.length<=1000000):
  aG 31 [qU wait,.ag m.c] (.r (Hq (xD wait m.frm m.com.items))):=by
 refine aT Tryz.func31 rfl ?_
 refine zy (λp:Nat×List OffP=>⟨[(0,.r (qU wait)),(3,.own 0),(6,.own 1),(7,.r (I p.1))],[(0,some (.box (m.c.map .r))),(1,some (KO p.2))],2⟩) (λp=>p.1<=m.com.items.length/\xD wait m.frm (m.com.items.take p.1)=some p.2) (λp=>m.com.items.length-p.1) (0,[]) ⟨by simp,rfl⟩
  (Sub.trans (uh 6 94 17 rfl) (zN [(0,0),(1,1)] ⟨(aE (aE aZ)),⟨rfl,rfl,rfl,rfl,zn _⟩,trivial⟩)) ?_
 rintro⟨j,acc⟩ ⟨hj,hacc⟩
 simp only at hj hacc
 have hal:=n9 hacc
 rw[bL]at hal
 refine cZ (λh=>?_) λh=>?_
 ·simp only[zb]at h
  have hj':j<m.com.items.length:=by omega
  have next: ∀{o},tZ wait m.frm m.com.items[j]=some o->xD wait m.frm (m.com.items.take (j+1))=some (acc++[o]):=λho=>by
   rw[bX hj']
   exact lS hacc ho
  have bad:tZ wait m.frm m.com.items[j]=none->xD wait m.frm m.com.items=none:=λho=>by
   rw[<-List.take_append_drop j m.com.items,cI hj']
   exact lR hacc ho
  refine cV (vf rfl hj') ?_
  refine cU ?_
  generalize m.com.items[j]=it at next bad⊢
  refine cZ (λh2=>?_) λh2=>?_
  ·simp only[zb]at h2
   have hze:it.ref.length=0:=by omega
   have eo:tZ wait m.frm it=some ⟨m.frm,it.prop⟩:=cO hze
   refine cU ?_
   refine zw ?_
   refine z7 (j:=(acc++[(⟨m.frm,it.prop⟩:OffP)]).length) (zs:=(acc++[(⟨m.frm,it.prop⟩:OffP)]).flatMap OffP.c) (by simp only[maxLen,aL,bJ,bO];omega) (by show(acc.length+1)*328<=_;omega) (by rw[aL];rfl) (by rw[List.flatMap_append];rfl) ?_
   refine zd (m:=((j+1:Nat):Int)) (by omega) (by omega) ?_
   exact⟨(j+1,acc++[(⟨m.frm,it.prop⟩:OffP)]),⟨hj',next eo⟩,by show _-(j+1)<_-j;omega,zX [(0,0),(1,_)] rfl ⟨cr,rfl,rfl,cr,trivial⟩ ⟨(aE (aE aZ)),⟨rfl,rfl,rfl,rfl,zn _⟩,trivial⟩⟩
  simp only[zb]at h2
  have hne: ¬it.ref.length=0:=by omega
  have eo:tZ wait m.frm it=(wait.find? (kJ it.ref)).map λw=>⟨w.frm,w.prop⟩:=cQ hne
  refine zy (λp:Nat×Option MesP=>⟨[(0,.r (qU wait)),(3,.own 0),(6,.own 1),(7,.r (I j)),(8,.own 2),(9,.r (.b p.2.isSome)),(10,.r (I p.1))],[(0,some (.box (m.c.map .r))),(1,some (KO (PD acc p.2))),(2,some (.box (it.c.map .r)))],3⟩) (λp=>p.1<=wait.length/\(p.2=none->∀x∈wait.take p.1,kJ it.ref x=false)/\∀w,p.2=some w->wait.find? (kJ it.ref)=some w) (λp=>wait.length-p.1) (0,none) ⟨by simp,by simp,by simp⟩
   (zN [(0,0),(1,1),(2,2)] ⟨(aE (aE aZ)),⟨rfl,rfl,rfl,rfl,zn _⟩,(aE (aA aZ)),trivial⟩) ?_
  rintro⟨k,_ |w⟩ ⟨hk,hn,hs⟩
  ·simp only at hk hn
   have hn:=hn trivial
   refine zh (λh3=>?_) (λh3=>?_)
   ·simp only[zb]at h3
    have hk':k<wait.length:=by omega
    obtain⟨q1,q2⟩:=hf _ (bY hk')
    refine cY ?_
    refine aV ?_
    refine cV (pB rfl hk') ?_
    refine cU ?_
    refine ze (VR wait[k] q1 q2) ?_
    refine z6 (pA (mY (tT wait[k])) it.ref) (λhq=>?_) (λhq=>?_)
    ·have hq:kJ it.ref wait[k]=true:=hq
     refine zp ?_
     refine Vdraw.cut 13 (by kernel_rfl) ?_
     refine cV (pB rfl hk') (zg rfl ?_)
     refine cV (pB rfl hk') (cU ?_)
     refine zw ?_
     refine z7 (j:=(PD acc (some wait[k])).length) (zs:=(PD acc (some wait[k])).flatMap OffP.c) (by simp only[PD,maxLen,aL,bJ,bO];omega) (by show(acc.length+1)*328<=_;omega) (by show acc.length+1=(acc++[(⟨wait[k].frm,wait[k].prop⟩:OffP)]).length;rw[aL];rfl) (by show _=(acc++[(⟨wait[k].frm,wait[k].prop⟩:OffP)]).flatMap OffP.c;rw[List.flatMap_append];rfl) ?_
     refine zd (m:=((k+1:Nat):Int)) (by omega) (by omega) ?_
     exact⟨(k+1,some wait[k]),⟨hk',by simp,λw hw=>by injection hw with hw;rw[<-hw];exact Vv hk' hn hq⟩,by show _-(k+1)<_-k;omega,zX [(0,0),(1,_),(2,2)] rfl ⟨cr,rfl,rfl,cr,rfl,cr,cr,trivial⟩ ⟨(aE (aE aZ)),⟨rfl,rfl,rfl,rfl,zn _⟩,(aE (aA aZ)),trivial⟩⟩
    ·have hq:kJ it.ref wait[k]=false:=hq
     refine zq ?_
     refine zd (m:=((k+1:Nat):Int)) (by omega) (by omega) ?_
     exact⟨(k+1,none),⟨hk',λ_=>lE hk' hn hq,by simp⟩,by show _-(k+1)<_-k;omega,zN [(0,0),(1,1),(2,2)] ⟨(aE (aE aZ)),⟨rfl,rfl,rfl,rfl,zn _⟩,(aE (aA aZ)),trivial⟩⟩
   ·simp only[zb]at h3
    rw[LA (by omega) hn]at eo
    refine zq ?_
    refine cY ?_
    rw[bad eo]
    exact⟨_,rfl,Cv.tu (zk (z8 17) (zn _))⟩
  ·have hs:=hs w rfl
   rw[hs]at eo
   have fin: ∀{K:Prop},K->K:=λh=>h
   refine zh (λh3=>?_) (λh3=>?_)
   ·refine cX ?_
    refine cX ?_
    refine zd (m:=((j+1:Nat):Int)) (by omega) (by omega) ?_
    exact⟨(j+1,acc++[(⟨w.frm,w.prop⟩:OffP)]),⟨hj',next eo⟩,by show _-(j+1)<_-j;omega,zX [(0,0),(1,_)] rfl ⟨cr,rfl,rfl,cr,trivial⟩ ⟨(aE (aE aZ)),⟨rfl,rfl,rfl,rfl,zn _⟩,trivial⟩⟩
   ·refine zq ?_
    refine cX ?_
    refine zd (m:=((j+1:Nat):Int)) (by omega) (by omega) ?_
    exact⟨(j+1,acc++[(⟨w.frm,w.prop⟩:OffP)]),⟨hj',next eo⟩,by show _-(j+1)<_-j;omega,zX [(0,0),(1,_)] rfl ⟨cr,rfl,rfl,cr,trivial⟩ ⟨(aE (aE aZ)),⟨rfl,rfl,rfl,rfl,zn _⟩,trivial⟩⟩
 ·simp only[zb]at h
  rw[bF (by omega)]at hacc
  rw[hacc]
  exact⟨_,rfl,cr⟩
theorem kE(k l:cT)(hk:k.length<=1000000)(hl:l.length<=10000000):aG 14 [bs k,tk [l]] (xJ (wh k l)):=by
 have h:=Zj k [l] (by omega) (by simp;omega)
 have e:([l]:List cT).flatMap id=l:=by simp
 rw[e]at h
 exact h
set_option maxRecDepth 20000 in
set_option maxHeartbeats 4000000 in
theorem Ks(v:VwP)(hv:v.okv)(seed:cT)(m:MesP)(hm:m.sml)(hi:m.ints):
  aG 22 [.ag v.c,bs seed,.ag m.c] (.r (.tu [.ag (vE v seed m).1.c,I (vE v seed m).2])):=by
 have b1:=hm.com.items
 have b2:=hm.com.steps
 generalize hW:vE v seed m=W
 refine aT Tryz.func22 rfl ?_
 refine Vdraw.code (Vcode.float mixed Tab_ok 14 [⟨0,10,.adr 0 0,[]⟩,⟨1,11,.adr 0 0,[0]⟩,⟨2,12,.r (bs v.ctx.group),[1]⟩,⟨3,13,.adr 0 0,[]⟩,⟨4,14,.adr 0 1,[3]⟩,⟨5,15,.r (.i .u64 v.ctx.epoch),[4]⟩,⟨6,16,.adr 0 4,[]⟩,⟨7,17,.r (I v.own),[6]⟩,⟨8,18,.adr 1 0,[]⟩,⟨10,19,.adr 1 1,[]⟩,⟨12,20,.adr 1 2,[]⟩] [(9,[8,2]),(11,[10,5]),(13,[12,7])] (by kernel_rfl) (F:=[(1,.r (bs seed)),(3,.own 0),(5,.own 1),(6,.own 2)]) (O:=[(0,some (.box (v.c.map .r))),(1,some (.box (m.c.map .r))),(2,some (.box (zMes.c.map .r)))]) (nx:=3) (zM [(0,0),(1,1),(2,2)]) ?_)
 refine⟨rfl,⟨λY=>zo _,λY=>zo _,λY=>zo _,λY=>zo _,λY=>zo _,λY=>zo _,λY=>zo _,λY=>zo _,λY=>zo _,λY=>zo _,λY=>zo _,trivial⟩,[(1,.r (bs seed)),(3,.own 0),(5,.own 1),(6,.own 2)],(1,some (.box ((oZ v.ctx.group (.i .u64 m.epoch) m.frm m).map .r)))::[(0,some (.box (v.c.map .r))),(1,some (.box (m.c.map .r))),(2,some (.box (zMes.c.map .r)))],3,λY=>zo _,?_⟩
 refine⟨rfl,⟨λY=>zo _,λY=>zo _,λY=>zo _,λY=>zo _,λY=>zo _,λY=>zo _,λY=>zo _,λY=>zo _,λY=>zo _,λY=>zo _,λY=>zo _,trivial⟩,[(1,.r (bs seed)),(3,.own 0),(5,.own 1),(6,.own 2)],(1,some (.box ((oZ v.ctx.group (.i .u64 v.ctx.epoch) m.frm m).map .r)))::(1,some (.box ((oZ v.ctx.group (.i .u64 m.epoch) m.frm m).map .r)))::[(0,some (.box (v.c.map .r))),(1,some (.box (m.c.map .r))),(2,some (.box (zMes.c.map .r)))],3,λY=>zo _,?_⟩
 refine⟨rfl,⟨λY=>zo _,λY=>zo _,λY=>zo _,λY=>zo _,λY=>zo _,λY=>zo _,λY=>zo _,λY=>zo _,λY=>zo _,λY=>zo _,λY=>zo _,trivial⟩,[(1,.r (bs seed)),(3,.own 0),(5,.own 1),(6,.own 2)],(1,some (.box ((oZ v.ctx.group (.i .u64 v.ctx.epoch) v.own m).map .r)))::(1,some (.box ((oZ v.ctx.group (.i .u64 v.ctx.epoch) m.frm m).map .r)))::(1,some (.box ((oZ v.ctx.group (.i .u64 m.epoch) m.frm m).map .r)))::[(0,some (.box (v.c.map .r))),(1,some (.box (m.c.map .r))),(2,some (.box (zMes.c.map .r)))],3,λY=>zo _,?_⟩
 refine⟨rfl,⟨λY=>zo _,λY=>zo _,λY=>zo _,λY=>zo _,λY=>zo _,λY=>zo _,λY=>zo _,λY=>zo _,λY=>zo _,λY=>zo _,λY=>zo _,trivial⟩,?_⟩
 refine aV ?_
 refine⟨rfl,by decide,by decide,by decide,64,_,rfl,rfl,zw ?_⟩
 refine ze Z7 ?_
 by_cases k3:m.kind=3
 ·refine zt (by rw[k3];rfl) ?_
  refine cZ (λh=>?_) λh=>?_
  ·simp only[zb]at h
   refine ze Z7 ?_
   obtain⟨t,htt⟩: ∃t,t=z32:=⟨_,rfl⟩
   have hwt:rh m=t:=by rw[htt];rw[rh,cO ⟨k3,by omega⟩]
   have htl:t.length<=100:=by rw[<-hwt];exact pU hm
   have hR:xL v seed m t=W:=by rw[<-hW,vE,hwt]
   have s1:=vu hv hm (s:=z64) (e:=z32) htl (by decide) (by decide)
   have s2:=vu hv hm (s:=yF v seed m t) (e:=z32) htl (by rw[yF,xg];decide) (by decide)
   have hL:=pR v hv m hm t htl (s:=z64) (e:=z32) (by decide) (by decide)
   have hT:=nT v hv m hm t htl (s:=yF v seed m t) (e:=z32) (by rw[yF,xg];decide) (by decide)
   have hC:=hv.ctx
   have c0:=qh (xx v m t z64 z32) (by show m.com.items.length<=_;omega) (by show m.com.way.steps.length<=_;omega) (λs hs=>by have:=(hm.com.step s hs).to;omega)
   have c2:=qL (xx v m t z64 z32) s1 (rV hv hi) v.ctx hv.fit (by omega)
   have c4:=ny (xx v m t (yF v seed m t) z32) s2 (rV hv hi) v.ctx hv.fit (by omega)
   have c5:=kE v.sec.mb (vG (xx v m t (yF v seed m t) z32) v.ctx) (by have:=hv.mb;omega) (by omega)
   refine cU ?_
   cases hr:(xx v m t z64 z32).right with
   |false=>
    rw[hr]at c0
    have hR:(zMes,3)=W:=by rw[<-hR,xL,hr];rfl
    refine zB c0 (zk (zf (by rw[htt];rfl)) (zn _)) ?_
    refine cY ?_
    refine cU ?_
    exact⟨_,rfl,by rw[<-hR];exact Cv.tu (zk (Cv.ag (by repeat' (first|exact zA|exact zn _|refine zk ?_ ?_|exact cr|exact z8 _))) (zn _))⟩
   |true=>
    rw[hr]at c0
    refine zB c0 (zk (zf (by rw[htt];rfl)) (zn _)) ?_
    refine cX ?_
    refine cU ?_
    refine cU ?_
    refine zB c2 (zk (zf (by rw[htt];rfl)) (zn _)) ?_
    by_cases hs:seed.length=32
    ·have hR:(xx v m t (yF v seed m t) (lI v m t (yF v seed m t)),0)=W:=by rw[<-hR,xL,hr,cO rfl,cO hs]
     refine ze (sN seed vW (xh (xx v m t z64 z32) v.ctx) hs (by decide) (by omega)) ?_
     refine zd (m:=0) rfl (by decide) ?_
     refine cX ?_
     refine aV ?_
     refine cU ?_
     refine cU ?_
     refine zB c4 (zk (zf (by rw[htt];rfl)) (zn _)) ?_
     refine zw ?_
     refine ze c5 ?_
     refine cU ?_
     refine cU ?_
     exact⟨_,rfl,zf (by rw[<-hR,htt];rfl)⟩
    ·have hR:(zMes,1)=W:=by rw[<-hR,xL,hr,cO rfl,cQ hs]
     refine ze (uI seed vW (xh (xx v m t z64 z32) v.ctx) hs (by decide) (by omega)) ?_
     refine zd (m:=1) rfl (by decide) ?_
     refine cY ?_
     refine cU ?_
     exact⟨_,rfl,by rw[<-hR];exact Cv.tu (zk (Cv.ag (by repeat' (first|exact zA|exact zn _|refine zk ?_ ?_|exact cr|exact z8 _))) (zn _))⟩
  ·simp only[zb]at h
   obtain⟨t,htt⟩: ∃t,t=m.tag:=⟨_,rfl⟩
   have hwt:rh m=t:=by rw[htt];rw[rh,cQ (λe=>e.2 (by omega))]
   have htl:t.length<=100:=by rw[<-hwt];exact pU hm
   have hR:xL v seed m t=W:=by rw[<-hW,vE,hwt]
   have s1:=vu hv hm (s:=z64) (e:=z32) htl (by decide) (by decide)
   have s2:=vu hv hm (s:=yF v seed m t) (e:=z32) htl (by rw[yF,xg];decide) (by decide)
   have hL:=pR v hv m hm t htl (s:=z64) (e:=z32) (by decide) (by decide)
   have hT:=nT v hv m hm t htl (s:=yF v seed m t) (e:=z32) (by rw[yF,xg];decide) (by decide)
   have hC:=hv.ctx
   have c0:=qh (xx v m t z64 z32) (by show m.com.items.length<=_;omega) (by show m.com.way.steps.length<=_;omega) (λs hs=>by have:=(hm.com.step s hs).to;omega)
   have c2:=qL (xx v m t z64 z32) s1 (rV hv hi) v.ctx hv.fit (by omega)
   have c4:=ny (xx v m t (yF v seed m t) z32) s2 (rV hv hi) v.ctx hv.fit (by omega)
   have c5:=kE v.sec.mb (vG (xx v m t (yF v seed m t) z32) v.ctx) (by have:=hv.mb;omega) (by omega)
   refine cU ?_
   cases hr:(xx v m t z64 z32).right with
   |false=>
    rw[hr]at c0
    have hR:(zMes,3)=W:=by rw[<-hR,xL,hr];rfl
    refine zB c0 (zk (zf (by rw[htt];rfl)) (zn _)) ?_
    refine cY ?_
    refine cU ?_
    exact⟨_,rfl,by rw[<-hR];exact Cv.tu (zk (Cv.ag (by repeat' (first|exact zA|exact zn _|refine zk ?_ ?_|exact cr|exact z8 _))) (zn _))⟩
   |true=>
    rw[hr]at c0
    refine zB c0 (zk (zf (by rw[htt];rfl)) (zn _)) ?_
    refine cX ?_
    refine cU ?_
    refine cU ?_
    refine zB c2 (zk (zf (by rw[htt];rfl)) (zn _)) ?_
    by_cases hs:seed.length=32
    ·have hR:(xx v m t (yF v seed m t) (lI v m t (yF v seed m t)),0)=W:=by rw[<-hR,xL,hr,cO rfl,cO hs]
     refine ze (sN seed vW (xh (xx v m t z64 z32) v.ctx) hs (by decide) (by omega)) ?_
     refine zd (m:=0) rfl (by decide) ?_
     refine cX ?_
     refine aV ?_
     refine cU ?_
     refine cU ?_
     refine zB c4 (zk (zf (by rw[htt];rfl)) (zn _)) ?_
     refine zw ?_
     refine ze c5 ?_
     refine cU ?_
     refine cU ?_
     exact⟨_,rfl,zf (by rw[<-hR,htt];rfl)⟩
    ·have hR:(zMes,1)=W:=by rw[<-hR,xL,hr,cO rfl,cQ hs]
     refine ze (uI seed vW (xh (xx v m t z64 z32) v.ctx) hs (by decide) (by omega)) ?_
     refine zd (m:=1) rfl (by decide) ?_
     refine cY ?_
     refine cU ?_
     exact⟨_,rfl,by rw[<-hR];exact Cv.tu (zk (Cv.ag (by repeat' (first|exact zA|exact zn _|refine zk ?_ ?_|exact cr|exact z8 _))) (zn _))⟩
 ·refine zu (by simp only[zb];exact uO k3) (zq ?_)
  obtain⟨t,htt⟩: ∃t,t=m.tag:=⟨_,rfl⟩
  have hwt:rh m=t:=by rw[htt];rw[rh,cQ (λe=>k3 e.1)]
  have htl:t.length<=100:=by rw[<-hwt];exact pU hm
  have hR:xL v seed m t=W:=by rw[<-hW,vE,hwt]
  have s1:=vu hv hm (s:=z64) (e:=z32) htl (by decide) (by decide)
  have s2:=vu hv hm (s:=yF v seed m t) (e:=z32) htl (by rw[yF,xg];decide) (by decide)
  have hL:=pR v hv m hm t htl (s:=z64) (e:=z32) (by decide) (by decide)
  have hT:=nT v hv m hm t htl (s:=yF v seed m t) (e:=z32) (by rw[yF,xg];decide) (by decide)
  have hC:=hv.ctx
  have c0:=qh (xx v m t z64 z32) (by show m.com.items.length<=_;omega) (by show m.com.way.steps.length<=_;omega) (λs hs=>by have:=(hm.com.step s hs).to;omega)
  have c2:=qL (xx v m t z64 z32) s1 (rV hv hi) v.ctx hv.fit (by omega)
  have c4:=ny (xx v m t (yF v seed m t) z32) s2 (rV hv hi) v.ctx hv.fit (by omega)
  have c5:=kE v.sec.mb (vG (xx v m t (yF v seed m t) z32) v.ctx) (by have:=hv.mb;omega) (by omega)
  refine cU ?_
  cases hr:(xx v m t z64 z32).right with
  |false=>
   rw[hr]at c0
   have hR:(zMes,3)=W:=by rw[<-hR,xL,hr];rfl
   refine zB c0 (zk (zf (by rw[htt];rfl)) (zn _)) ?_
   refine cY ?_
   refine cU ?_
   exact⟨_,rfl,by rw[<-hR];exact Cv.tu (zk (Cv.ag (by repeat' (first|exact zA|exact zn _|refine zk ?_ ?_|exact cr|exact z8 _))) (zn _))⟩
  |true=>
   rw[hr]at c0
   refine zB c0 (zk (zf (by rw[htt];rfl)) (zn _)) ?_
   refine cX ?_
   refine cU ?_
   refine cU ?_
   refine zB c2 (zk (zf (by rw[htt];rfl)) (zn _)) ?_
   by_cases hs:seed.length=32
   ·have hR:(xx v m t (yF v seed m t) (lI v m t (yF v seed m t)),0)=W:=by rw[<-hR,xL,hr,cO rfl,cO hs]
    refine ze (sN seed vW (xh (xx v m t z64 z32) v.ctx) hs (by decide) (by omega)) ?_
    refine zd (m:=0) rfl (by decide) ?_
    refine cX ?_
    refine aV ?_
    refine cU ?_
    refine cU ?_
    refine zB c4 (zk (zf (by rw[htt];rfl)) (zn _)) ?_
    refine zw ?_
    refine ze c5 ?_
    refine cU ?_
    refine cU ?_
    exact⟨_,rfl,zf (by rw[<-hR,htt];rfl)⟩
   ·have hR:(zMes,1)=W:=by rw[<-hR,xL,hr,cO rfl,cQ hs]
    refine ze (uI seed vW (xh (xx v m t z64 z32) v.ctx) hs (by decide) (by omega)) ?_
    refine zd (m:=1) rfl (by decide) ?_
    refine cY ?_
    refine cU ?_
    exact⟨_,rfl,by rw[<-hR];exact Cv.tu (zk (Cv.ag (by repeat' (first|exact zA|exact zn _|refine zk ?_ ?_|exact cr|exact z8 _))) (zn _))⟩
def pp(v:VwP)(m:MesP):Nat:=if m.group=v.ctx.group then(if m.epoch=v.ctx.epoch then 0 else 13)else 1
theorem LY(v:VwP)(m:MesP):aG 90 [.ag v.c,.ag m.c] (.r (Er (pp v m))):=by
 refine aT Tryz.func90 rfl ?_
 refine z6 (sn m.group v.ctx.group) (λh=>?_) (λh=>?_)
 ·have h:=of_decide_eq_true h
  refine cX ?_
  by_cases he:m.epoch=v.ctx.epoch
  ·refine cX ?_ (by simp only[zb];omega)
   exact zf (by rw[pp,cO h,cO he];rfl)
  ·refine cY ?_ (by simp only[zb];omega)
   exact zf (by rw[pp,cO h,cQ he];rfl)
 ·have h:=of_decide_eq_false h
  refine cY ?_
  exact zf (by rw[pp,cQ h];rfl)
def Jl(v:VwP)(m:MesP)(l:Leaf):Bool:=rp l.sign (rH (sB vW) (xh m v.ctx)) m.sig
def KG(v:VwP)(m:MesP):cT:=wh v.sec.mb (vG m v.ctx)
def vU(v:VwP)(m:MesP)(l:Leaf):Nat:=
 if pp v m=0 then(if m.right=true/\Jl v m l=true then(if m.mem=KG v m then 0 else 16)else 10)else pp v m
theorem bc(v:VwP)(hv:v.okv)(m:MesP)(hm:m.sml):(xh m v.ctx).length<=198000:=by
 have h1:=sv hm
 have h2:=hv.ctx
 rw[xh,aL]
 omega
theorem T2(v:VwP)(hv:v.okv)(m:MesP)(hm:m.sml):(vG m v.ctx).length<=199000:=by
 have h1:=bc v hv m hm
 have h2:=nR hm
 rw[vG,aL]
 omega
theorem VJ(v:VwP)(hv:v.okv)(m:MesP)(hm:m.sml)(l:Leaf)(hl:l.sign.length<=1000):aG 28 [.ag v.c,.ag m.c,.ag l.c] (.r (Er (vU v m l))):=by
 have c1:=LY v m
 have hs:=bc v hv m hm
 have ht:=T2 v hv m hm
 have hme:=hm.mem
 have c2:=nv m hm v.ctx hv.fit
 have c3:=YD l.sign vW (xh m v.ctx) m.sig (by omega) (by decide) (by omega)
 have c4:=nw m hm v.ctx hv.fit
 have c5:=su v.sec (vG m v.ctx) (by have:=hv.mb;omega) (by omega)
 have c6:=QO m.mem (KG v m) (by omega)
 generalize hW:vU v m l=W
 refine aT Tryz.func28 rfl ?_
 refine cU ?_
 refine cU ?_
 by_cases ha:pp v m=0
 rotate_left
 ·refine ze c1 ?_
  refine cY ?_ (by simp only[zb];omega)
  exact zf (by rw[<-hW,vU,cQ ha])
 rw[ha]at c1
 refine ze c1 ?_
 refine cX ?_
 refine cU ?_
 refine cU ?_
 unfold uy at c2 c4
 cases hr:m.right with
 |false=>
  rw[hr]at c2
  refine ze c2 ?_
  refine zt rfl ?_
  refine zp ?_
  exact zf (by rw[<-hW,vU,cO ha,hr,cQ (by simp)];rfl)
 |true=>
  rw[hr]at c2 c4
  refine ze c2 ?_
  refine zu rfl ?_
  refine z6 c3 (λh3=>?_) (λh3=>?_)
  ·refine cX ?_
   refine cU ?_
   refine cU ?_
   refine ze c4 ?_
   refine aV ?_
   refine cU ?_
   refine ze c5 ?_
   refine z6 c6 (λh6=>?_) (λh6=>?_)
   ·have h6:=of_decide_eq_true h6
    refine cX ?_
    exact zf (by rw[<-hW,vU,cO ha,cO ⟨hr,h3⟩,cO h6];rfl)
   ·have h6:=of_decide_eq_false h6
    refine cY ?_
    exact zf (by rw[<-hW,vU,cO ha,cO ⟨hr,h3⟩,cQ h6];rfl)
  ·refine cY ?_
   exact zf (by rw[<-hW,vU,cO ha,cQ (λe=>by rw[Jl,h3]at e;cases e.2)];rfl)
theorem Rf(v:VwP)(hv:v.okv)(m:MesP)(hm:m.sml)(hi:m.ints)(l:Leaf)(hl:l.sign.length<=1000):aG 29 [.ag v.c,.ag m.c,.ag l.c] (.r (I (vU v m l))):=by
 have hs:=bc v hv m hm
 have ht:=T2 v hv m hm
 have hC:=hv.ctx
 have b1:=hm.com.items
 have b2:=hm.com.steps
 have c0:=qh m (by omega) (by omega) (λs hs=>by have:=(hm.com.step s hs).to;omega)
 have c2:=qL m hm hi v.ctx hv.fit (by omega)
 have c3:=YD l.sign vW (xh m v.ctx) m.sig (by omega) (by decide) (by omega)
 have c4:=ny m hm hi v.ctx hv.fit (by omega)
 have c5:=kE v.sec.mb (vG m v.ctx) (by have:=hv.mb;omega) (by omega)
 have c6:=pA m.mem (KG v m)
 generalize hW:vU v m l=W
 refine aT Tryz.func29 rfl ?_
 refine z6 (pA m.group v.ctx.group) (λh=>?_) (λh=>?_)
 rotate_left
 ·have h:=of_decide_eq_false h
  refine cY ?_
  exact zf (by rw[<-hW,vU,pp,cQ h,cQ (by decide)];rfl)
 have h:=of_decide_eq_true h
 refine cX ?_
 by_cases he:m.epoch=v.ctx.epoch
 rotate_left
 ·refine cY ?_ (by simp only[zb];omega)
  exact zf (by rw[<-hW,vU,pp,cO h,cQ he,cQ (by decide)];rfl)
 refine cX ?_ (by simp only[zb];omega)
 have ha:pp v m=0:=by rw[pp,cO h,cO he]
 refine aV ?_
 refine cU ?_
 cases hr:m.right with
 |false=>
  rw[hr]at c0
  refine ze c0 ?_
  refine zt rfl ?_
  refine zp ?_
  exact zf (by rw[<-hW,vU,cO ha,hr,cQ (by simp)];rfl)
 |true=>
  rw[hr]at c0
  refine ze c0 ?_
  refine zu rfl ?_
  refine cU ?_
  refine cU ?_
  refine ze c2 ?_
  refine z6 c3 (λh3=>?_) (λh3=>?_)
  ·refine cX ?_
   refine aV ?_
   refine cU ?_
   refine cU ?_
   refine ze c4 ?_
   refine zw ?_
   refine ze c5 ?_
   refine z6 c6 (λh6=>?_) (λh6=>?_)
   ·have h6:=of_decide_eq_true h6
    refine cX ?_
    exact zf (by rw[<-hW,vU,cO ha,cO ⟨hr,h3⟩,cO h6];rfl)
   ·have h6:=of_decide_eq_false h6
    refine cY ?_
    exact zf (by rw[<-hW,vU,cO ha,cO ⟨hr,h3⟩,cQ h6];rfl)
  ·refine cY ?_
   exact zf (by rw[<-hW,vU,cO ha,cQ (λe=>by rw[Jl,h3]at e;cases e.2)];rfl)
def uc(interim text:cT):cT:=vk (interim++text)
theorem gv(c t:cT)(h1:c.length<=1000000)(h2:t.length<=1000000):aG 100 [bs c,bs t] (.r (bs (uc c t))):=by
 refine aT Tryz.func100 rfl ?_
 have h:=jD [c,t] (by simp;omega)
 have e:([c,t]:List cT).flatMap id=c++t:=by simp
 rw[e]at h
 refine zw ?_
 refine ze h ?_
 exact cr
def PA(v:ViewP)(m:MsgP)(tree:cT):CtxP:=⟨v.ctx.group,v.ctx.epoch+1,tree,uc v.interim (tP m)⟩
def KM(v:ViewP)(m:MsgP)(tree commit:cT):SecP:=iw (rF v.sec.it commit (yV (PA v m tree))) (yV (PA v m tree))
def PB(v:ViewP)(m:MsgP)(tree commit:cT):cT:=wh (KM v m tree commit).cf (uc v.interim (tP m))
def UH(v:ViewP)(m:MsgP)(tree commit:cT)(ky:KeyP):ViewP:=⟨PA v m tree,v.own,gz (uc v.interim (tP m)) (PB v m tree commit),PB v m tree commit,KM v m tree commit,ky⟩
theorem HH(m:MsgP)(hm:m.sm):(tP m).length<=700:=by
 have h1:=fI m hm
 have h2:=yf m.sig
 have h3:=hm.sig
 simp only[tP,aL,yj]
 omega
theorem ZS(i c x:cT):(iw (rF i c x) x).sm:=RF (x7 _ _ _ (n:=32) (by omega)) (x7 _ _ _ (n:=32) (by omega)) (x7 _ _ _ (n:=32) (by omega))
theorem Gl(v:ViewP)(m:MsgP)(tree commit:cT)(ky:KeyP)(hky:ky.key.length<=1000000)(hv:v.sm)(hm:m.sm)(hg:v.ctx.group.length<=64)(he:v.ctx.epoch+1<18446744073709551616)(ht:tree.length<=1000)(hc:commit.length<=1000):
  aG 34 [.ag v.c,.ag m.c,bs tree,bs commit,wQ [ky]] (.r (.ag (UH v m tree commit ky).c)):=by
 have hl:=HH m hm
 have hi:=hv.interim
 have c0:=VO m hm
 have c1:aG 42 [bs v.ctx.group] (.r (bs v.ctx.group)):=uH (x4 v.ctx.group (by omega))
 have c2:aG 42 [bs tree] (.r (bs tree)):=uH (x4 tree (by omega))
 have c3:=gv v.interim (tP m) (by omega) (by omega)
 have htl:(uc v.interim (tP m)).length=32:=wT _
 have c4:=YN v.sec.it commit (PA v m tree) ⟨by show v.ctx.group.length<=_;omega,he,by show tree.length<=_;omega,by show(uc v.interim (tP m)).length<=_;omega⟩ (by show v.ctx.group.length+tree.length+(uc v.interim (tP m)).length<=_;omega) (by have:=hv.sec.it;omega) (by omega)
 have c5:=VZ (KM v m tree commit) (uc v.interim (tP m)) (ZS _ _ _).cf (by omega)
 have c6:=jL (uc v.interim (tP m)) (PB v m tree commit) (by omega) (by have:(PB v m tree commit).length=32:=x8 _ _;omega)
 have c7:=eJ ky hky
 refine aT Tryz.func34 rfl ?_
 refine cU ?_
 refine ze c0 ?_
 refine aV ?_
 refine ze c1 ?_
 refine zF (n:=v.ctx.epoch+1) (by omega) he ?_
 refine ze c2 ?_
 refine ze c3 ?_
 refine cU ?_
 refine ze c4 ?_
 refine cU ?_
 refine ze c5 ?_
 refine aV ?_
 refine cU ?_
 refine ze c6 ?_
 refine cU ?_
 refine ze c7 ?_
 refine cU ?_
 exact cr
theorem lZ(n:Nat):IntKind.u64.wrap ((n:Int)+1)=(((n+1)%18446744073709551616:Nat):Int):=by
 unfold IntKind.wrap
 simp only[IntKind.bits,IntKind.signed]
 simp
def nb(m:MesP):cT:=cond m.right (np m) []
def iH(v:VwP)(t tree:cT):CtxP:=⟨v.ctx.group,(v.ctx.epoch+1)%18446744073709551616,tree,uc v.interim t⟩
def Hj(v:VwP)(t tree commit:cT):SecP:=iw (rF v.sec.it commit (yV (iH v t tree))) (yV (iH v t tree))
def R2(v:VwP)(t tree commit:cT):cT:=wh (Hj v t tree commit).cf (uc v.interim t)
def Mp(v:VwP)(t tree commit:cT):VwP:=⟨iH v t tree,v.own,gz (uc v.interim t) (R2 v t tree commit),R2 v t tree commit,Hj v t tree commit,v.keys⟩
theorem HI{m:MesP}(hm:m.sml):(np m).length<=197000:=by
 have h1:=rK hm
 have h2:=yf m.sig
 have h3:=hm.sig
 simp only[np,aL,yj]
 omega
theorem UB{m:MesP}(hm:m.sml):(nb m).length<=197000:=by
 unfold nb
 cases m.right
 ·simp
 ·exact HI hm
theorem R0{v:VwP}(hv:v.okv)(t:cT){tree:cT}(ht:tree.length<=100):(iH v t tree).fit/\(iH v t tree).group.length+(iH v t tree).tree.length+(iH v t tree).trans.length<=1000:=by
 have h1:(uc v.interim t).length=32:=wT _
 have h2:=hv.group
 refine⟨⟨by show v.ctx.group.length<=_;omega,Nat.mod_lt _ (by decide),by show tree.length<=_;omega,by show(uc v.interim t).length<=_;omega⟩,?_⟩
 show v.ctx.group.length+tree.length+(uc v.interim t).length<=1000
 omega
theorem LZ(v:VwP)(hv:v.okv)(m:MesP)(hm:m.sml)(tree commit:cT)(ht:tree.length<=100)(hc:commit.length<=100):
  aG 34 [.ag v.c,.ag m.c,bs tree,bs commit,wQ v.keys] (.r (.ag (Mp v (nb m) tree commit).c)):=by
 have hl:=UB hm
 have hi:=hv.interim
 have hg:=hv.group
 have c0: ∃e,aG 99 [.ag m.c] (.r (.tu [bs (nb m),Er e])):=by
  have h:=WA m hm
  unfold uy at h
  unfold nb
  cases hr:m.right
  ·rw[hr]at h;exact⟨3,h⟩
  ·rw[hr]at h;exact⟨0,h⟩
 obtain⟨e0,c0⟩:=c0
 generalize nb m=t at c0 hl⊢
 obtain⟨f1,f2⟩:=R0 hv t ht
 have c1:aG 42 [bs v.ctx.group] (.r (bs v.ctx.group)):=uH (x4 v.ctx.group (by omega))
 have c2:aG 42 [bs tree] (.r (bs tree)):=uH (x4 tree (by omega))
 have c3:=gv v.interim t (by omega) (by omega)
 have htl:(uc v.interim t).length=32:=wT _
 have c4:=YN v.sec.it commit (iH v t tree) f1 (by omega) (by have:=hv.it;omega) (by omega)
 have c5:=VZ (Hj v t tree commit) (uc v.interim t) (ZS _ _ _).cf (by omega)
 have c6:=jL (uc v.interim t) (R2 v t tree commit) (by omega) (by have:(R2 v t tree commit).length=32:=x8 _ _;omega)
 have c7:=Sd v.keys (by have:=hv.keys;omega) hv.key
 refine aT Tryz.func34 rfl ?_
 refine cU ?_
 refine ze c0 ?_
 refine aV ?_
 refine ze c1 ?_
 refine Vint.n _ (lZ v.ctx.epoch).symm ?_
 refine ze c2 ?_
 refine ze c3 ?_
 refine cU ?_
 refine ze c4 ?_
 refine cU ?_
 refine ze c5 ?_
 refine aV ?_
 refine cU ?_
 refine ze c6 ?_
 refine cU ?_
 refine ze c7 ?_
 refine cU ?_
 exact cr
theorem YM(c t:cT)(h1:c.length<=1000000)(h2:t.length<=1000000):aG 103 [bs c,bs t] (.r (bs (uc c t))):=by
 refine aT Tryz.func103 rfl ?_
 refine ze (VM c t (by omega)) ?_
 refine ze (pw (c++t) (by rw[aL];omega)) ?_
 exact cr
theorem Pc(v:VwP)(hv:v.okv)(m:MesP)(t tree commit:cT)(hl:t.length<=197000)(ht:tree.length<=100)(hc:commit.length<=100)(β:Bool)
  (c0:aG 20 [.ag m.c] (.r (.b β))) (c1:β=true->aG 102 [.ag m.c] (.r (bs t))) (hn:β=false->t=[]):
  aG 35 [.ag v.c,.ag m.c,bs tree,bs commit,wQ v.keys] (.r (.ag (Mp v t tree commit).c)):=by
 have hi:=hv.interim
 have hg:=hv.group
 obtain⟨f1,f2⟩:=R0 hv t ht
 have c3:=YM v.interim t (by omega) (by omega)
 have htl:(uc v.interim t).length=32:=wT _
 have c4:=QN v.sec.it commit (iH v t tree) f1 (by omega) (by have:=hv.it;omega) (by omega)
 have hj:(rF v.sec.it commit (yV (iH v t tree))).length=32:=x7 _ _ _ (n:=32) (by omega)
 have c5:=EK (rF v.sec.it commit (yV (iH v t tree))) (iH v t tree) f1 (by omega) (by omega)
 have c6:=kE (Hj v t tree commit).cf (uc v.interim t) (ZS _ _ _).cf (by omega)
 have c7:=Si (uc v.interim t) (R2 v t tree commit) (by omega) (by have:(R2 v t tree commit).length=32:=x8 _ _;omega)
 refine aT Tryz.func35 rfl ?_
 refine cU ?_
 refine z6 c0 (λh=>?_) (λh=>?_)
 ·refine zp ?_
  refine cU ?_
  refine ze (c1 h) ?_
  refine aV ?_
  refine Vint.n _ (lZ v.ctx.epoch).symm ?_
  refine ze c3 ?_
  refine aV ?_
  refine cU ?_
  refine ze c4 ?_
  refine cU ?_
  refine ze c5 ?_
  refine zw ?_
  refine ze c6 ?_
  refine aV ?_
  refine cU ?_
  refine ze c7 ?_
  refine cU ?_
  refine cU ?_
  exact cr
 ·refine zq ?_
  refine aV ?_
  refine Vint.n _ (lZ v.ctx.epoch).symm ?_
  refine zB c3 (zk (cr) (zk (by rw[hn h];exact z8 1) zA)) ?_
  refine aV ?_
  refine cU ?_
  refine ze c4 ?_
  refine cU ?_
  refine ze c5 ?_
  refine zw ?_
  refine ze c6 ?_
  refine aV ?_
  refine cU ?_
  refine ze c7 ?_
  refine cU ?_
  refine cU ?_
  exact cr
theorem G3(v:VwP)(hv:v.okv)(m:MesP)(hm:m.sml)(hi:m.ints)(tree commit:cT)(ht:tree.length<=100)(hc:commit.length<=100):
  aG 35 [.ag v.c,.ag m.c,bs tree,bs commit,wQ v.keys] (.r (.ag (Mp v (nb m) tree commit).c)):=by
 have b1:=hm.com.items
 have b2:=hm.com.steps
 have c0:=qh m (by omega) (by omega) (λs hs=>by have:=(hm.com.step s hs).to;omega)
 refine Pc v hv m (nb m) tree commit (UB hm) ht hc m.right c0 (λh=>?_) (λh=>?_)
 ·have:=W5 m hm hi
  rw[nb,h]
  exact this
 ·rw[nb,h];rfl
theorem Ni(l:List KeyP)(hl:l.length<=1000000):aG 169 [wQ l,wQ l] (.r (.b true)):=by
 refine aT Tryz.func169 rfl ?_
 refine zu (by simp only[zb]) (zq ?_)
 refine zy (λj:Nat=>⟨[(0,.r (wQ l)),(1,.r (wQ l)),(5,.r (I j))],[],0⟩) (λj=>j<=l.length) (λj=>l.length-j) 0 (by omega) (zM []) ?_
 intro j hj
 refine cZ (λh=>?_) λh=>?_
 ·simp only[zb]at h
  have hj':j<l.length:=by omega
  refine aV ?_
  refine cV (ms rfl hj') (zg rfl ?_)
  refine cV (ms rfl hj') (zg rfl ?_)
  refine zu (by simp only[zb]) ?_
  refine cV (ms rfl hj') (zg rfl ?_)
  refine cV (ms rfl hj') (zg rfl ?_)
  refine ze (wn l[j].key) ?_
  refine cX ?_
  refine zd (m:=((j+1:Nat):Int)) (by omega) (by omega) ?_
  exact⟨j+1,hj',by omega,zM []⟩
 ·exact cr
theorem Nk(v:VwP)(hl:v.keys.length<=1000000):aG 33 [.ag v.c,.ag v.c] (.r (.b true)):=by
 have ck:aG 98 [wQ v.keys,wQ v.keys] (.r (.b true)):=by
  refine aT Tryz.func98 rfl ?_
  refine ze (Ni v.keys hl) ?_
  exact cr
 refine aT Tryz.func33 rfl ?_
 refine cU ?_
 refine cU ?_
 refine ze (Gf v.ctx) ?_
 refine zt (by simp only[zb]) ?_
 refine ze (wn v.interim) ?_
 refine ze (wn v.tag) ?_
 refine cU ?_
 refine cU ?_
 refine ze (LX v.sec) ?_
 refine ze ck ?_
 exact cr
end Go.Proofs.YtkegaaonpekkgaaGreat.Sx
