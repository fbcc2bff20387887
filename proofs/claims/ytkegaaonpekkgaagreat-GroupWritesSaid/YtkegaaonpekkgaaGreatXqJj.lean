import Derived.Test.YtkegaaonpekkgaaGreatXqJl
import Derived.Test.YtkegaaonpekkgaaGreatXqSxTu
import Derived.Test.YtkegaaonpekkgaaGreatXqBn
import Derived.Test.YtkegaaonpekkgaaGreatXqTb
import Derived.Test.YtkegaaonpekkgaaGreatXqTi
namespace Go.Proofs.YtkegaaonpekkgaaGreat.Sx
open Go.RowKit
set_option maxHeartbeats 2000000
abbrev BO(v:ViewP)(o:Leaf)(sg cm:cT)(w:ViewP)(ol:Leaf):List RV:=[bs v.ctx.group,.i .u64 v.ctx.epoch,bs v.ctx.tree,bs v.ctx.trans,I v.own,bs v.interim,bs v.tag,bs v.sec.jn,bs v.sec.wl,bs v.sec.ep,bs v.sec.sd,bs v.sec.en,bs v.sec.ex,bs v.sec.au,bs v.sec.xt,bs v.sec.cf,bs v.sec.mb,bs v.sec.rs,bs v.sec.it,wQ [v.key],yS [L1 o],bs sg,ns,ns,bs cm,bs w.ctx.group,.i .u64 w.ctx.epoch,bs w.ctx.tree,bs w.ctx.trans,I w.own,bs w.interim,bs w.tag,bs w.sec.jn,bs w.sec.wl,bs w.sec.ep,bs w.sec.sd,bs w.sec.en,bs w.sec.ex,bs w.sec.au,bs w.sec.xt,bs w.sec.cf,bs w.sec.mb,bs w.sec.rs,bs w.sec.it,wQ [w.key],yS [L1 ol],bs sg,ns,ns]
abbrev A9(w:ViewP)(ol:Leaf)(sg:cT):List RV:=[bs w.ctx.group,.i .u64 w.ctx.epoch,bs w.ctx.tree,bs w.ctx.trans,I w.own,bs w.interim,bs w.tag,bs w.sec.jn,bs w.sec.wl,bs w.sec.ep,bs w.sec.sd,bs w.sec.en,bs w.sec.ex,bs w.sec.au,bs w.sec.xt,bs w.sec.cf,bs w.sec.mb,bs w.sec.rs,bs w.sec.it,wQ [w.key],yS [L1 ol],bs sg,ns,ns,ns,ns,.i .u64 0,ns,ns,I 0,ns,ns,ns,ns,ns,ns,ns,ns,ns,ns,ns,ns,ns,ns,ns,ns,ns,ns,ns]
set_option maxRecDepth 40000 in
theorem VI(q:Value)(x:CtxP)(it tg:cT)(sc:SecP)(ky:KeyP)(o ol:Leaf)(sg seed com pl h tx mb cm:cT)(M:MsgP)(w:ViewP)(hs:seed.length=32)(he:x.epoch≠18446744073709551615)(hei:x.epoch<18446744073709551616)(hcm:cm.length<=1048576)(ho:o.right=true)
  (c4:aG 108 [.ag (iK (v0 x it tg sc ky) o sg),.ag [yS [L1 o],nl,nl,.b true],.b true,bs seed] (.r (.tu [.ag (Hw ol com pl),Er 0])))
  (c5:aG 21 [.ag (v0 x it tg sc ky).c,bs sg,.ag (fB 0 ol)] (.r (.tu [.ag M.c,Er 0])))
  (c6:aG 43 [yS [L1 ol]] (.r (.tu [bs h,Er 0])))
  (c7:aG 34 [.ag (v0 x it tg sc ky).c,.ag M.c,bs h,bs com,wQ [⟨0,pl⟩]] (.r (.ag w.c)))
  (c8:aG 77 [.ag (MsgP.c ⟨M.group,M.epoch,M.frm,M.lf,M.sig,w.tag,M.mem⟩),.ag x.c] (.r (.tu [bs tx,Er 0])))
  (c9:aG 78 [.ag sc.c,bs tx] (.r (bs mb)))
  (c10:aG 104 [.ag (MsgP.c ⟨M.group,M.epoch,M.frm,M.lf,M.sig,w.tag,mb⟩)] (.r (.tu [bs cm,Er 0])))
  (c11:aG 42 [bs cm] (.r (bs cm)))
  (c12:aG 69 [.ag (iK w ol sg)] (.r (.ag (iK w ol sg)))):
  yz aP 38 1 [(0,.box ((Zl (v0 x it tg sc ky) o sg).map .r))] [.own 0,.r nl,.r (.b false),.r (bs seed)] [(0,q)] 1 [(0,.box ((BO (v0 x it tg sc ky) o sg cm w ol).map .r))] (.r (.tu [bs cm,nl,Er 0])):=by
 have c1:=Gq (v0 x it tg sc ky) o sg
 have c2:=N6 0
 have c3:=Nd o (ug ho) ho x.group
 refine yk (T:=Tab) mixed Tab_ok Tryz.func38 rfl (by kernel_rfl) rfl ⟨⟨_,_,rfl,rfl,ym,ym⟩,trivial⟩ ?_
 refine⟨⟨_,Tryz.underlying24⟩,?_⟩
 refine zq ?_
 refine cX ?_ (by simp only[zb];omega)
 refine cX ?_ (by simp only[zb];omega)
 refine cU ?_
 refine aV ?_
 refine cU ?_
 refine ze c1 ?_
 refine cU ?_
 refine ze c2 ?_
 refine ze c3 ?_
 refine cX ?_
 refine cU ?_
 refine cU ?_
 refine ze c4 ?_
 refine cX ?_
 refine cU ?_
 refine cU ?_
 refine cU ?_
 refine ze c5 ?_
 refine cX ?_
 refine ze c6 ?_
 refine cU ?_
 refine cU ?_
 refine ze c7 ?_
 refine cU ?_
 refine cU ?_
 refine ze c8 ?_
 refine cU ?_
 refine ze c9 ?_
 refine cU ?_
 refine ze c10 ?_
 refine cX ?_
 refine cX ?_ (by simp only[zb];omega)
 refine cX ?_
 refine ze c11 ?_
 refine cU ?_
 refine ze c12 ?_
 exact yr (.inl rfl) [(0,0)] [(8,.r (bs cm)),(9,.r nl),(10,.r (Er 0))] [] rfl (by repeat' (first|exact rfl|exact trivial|exact cr|exact zn _|exact z8 _|exact⟨rfl,rfl⟩|refine⟨_,_,rfl,?_,?_⟩|refine⟨?_,?_⟩)) ⟨(by repeat' (first|exact rfl|exact trivial|exact cr|exact zn _|exact z8 _|exact⟨rfl,rfl⟩|refine⟨_,_,rfl,?_,?_⟩|refine⟨?_,?_⟩)),trivial⟩ ⟨⟨1000000,rfl⟩,trivial⟩ ⟨_,rfl,cr⟩
set_option maxRecDepth 40000 in
theorem W6(q:Value)(x:CtxP)(it tg:cT)(sc:SecP)(ky:KeyP)(o ol:Leaf)(sg cm:cT)(M:MsgP)(w:ViewP)(he:M.epoch≠18446744073709551615)(hei:M.epoch<18446744073709551616)(hfr:M.frm=0)(hc0:0<cm.length)
  (c1:aG 111 [bs cm] (.r (.tu [.ag M.c,Er 0])))
  (c2:aG 90 [.ag (v0 x it tg sc ky).c,.ag M.c] (.r (Er 0)))
  (c3:aG 112 [yS [L1 o],I (M.frm:Int)] (.r (.tu [.ag o.c,.b true])))
  (c4:aG 28 [.ag (v0 x it tg sc ky).c,.ag M.c,.ag o.c] (.r (Er 0)))
  (c5:aG 114 [bs cm,bs cm] (.r (.b true))):
  yz aP 40 1 [(0,.box ((BO (v0 x it tg sc ky) o sg cm w ol).map .r))] [.own 0,.r (bs cm)] [(0,q)] 1 [(0,.box ((A9 w ol sg).map .r))] (.r (Er 0)):=by
 refine yk (T:=Tab) mixed Tab_ok Tryz.func40 rfl (by kernel_rfl) rfl ⟨⟨_,_,rfl,rfl,ym,ym⟩,trivial⟩ ?_
 refine⟨⟨_,Tryz.underlying24⟩,?_⟩
 refine zq ?_
 refine ze c1 ?_
 refine cX ?_
 refine aV ?_
 refine cU ?_
 refine cU ?_
 refine ze c2 ?_
 refine cX ?_
 refine aV ?_
 refine ze c3 ?_
 refine cX ?_
 refine aV ?_
 refine cU ?_
 refine cU ?_
 refine cU ?_
 refine ze c4 ?_
 refine cX ?_
 refine cX ?_
 refine cX ?_ (by simp only[zb];omega)
 refine aV ?_
 refine zt (by show((M.frm:Int)==0)=true;rw[hfr];rfl) ?_
 refine zt (by simp only[zb];omega) ?_
 refine ze c5 ?_
 refine zp ?_
 refine cU ?_
 refine cU ?_
 exact yr (.inl rfl) [(0,0)] [(4,.r (Er 0))] [] rfl (by repeat' (first|exact rfl|exact trivial|exact cr|exact zn _|exact z8 _|exact⟨rfl,rfl⟩|refine⟨_,_,rfl,?_,?_⟩|refine⟨?_,?_⟩)) ⟨(by repeat' (first|exact rfl|exact trivial|exact cr|exact zn _|exact z8 _|exact⟨rfl,rfl⟩|refine⟨_,_,rfl,?_,?_⟩|refine⟨?_,?_⟩)),trivial⟩ ⟨⟨1000000,rfl⟩,trivial⟩ (cr)
abbrev xz(l:cT):List (Nat×Ow):=[(0,.box [.own 1,.r (Er 0)]),(1,gS (bs l) 0)]
theorem sP(l m:cT)(v0 v1:Value):mZ (xz l) (xz m) [(0,v0),(1,v1)]:=⟨⟨_,_,rfl,rfl,ym,ym⟩,⟨_,_,rfl,rfl,ym,ym⟩,trivial⟩
theorem mi(v0 v1:Value)(l:cT):yz aP 301 2 (xz l) [.own 0,.r (Er 0)] [(0,v0),(1,v1)] 2 (xz l) (.r (.tu [])):=by
 refine yk (T:=Tab) mixed Tab_ok Tryz.func301 rfl (by kernel_rfl) rfl (sP _ _ _ _) ?_
 refine cY ?_
 exact yr (.inr rfl) [(0,0),(1,1)] [] [] rfl ⟨⟨rfl,rfl⟩,⟨rfl,rfl⟩,trivial⟩ ⟨⟨_,_,rfl,rfl,_,_,rfl,cr,rfl⟩,(aB aZ),trivial⟩ ⟨⟨1000000,rfl⟩,⟨1000001,rfl⟩,trivial⟩ ⟨_,rfl,cr⟩
theorem Gm(v0 v1:Value)(c:UInt8)(l:cT)(hc:c.toNat<=1):yz aP 414 2 (xz (c::l)) [.own 0] [(0,v0),(1,v1)] 2 (xz l) (.r (.b (decide (c.toNat=1)))):=by
 refine yk (T:=Tab) mixed Tab_ok Tryz.func414 rfl (by kernel_rfl) rfl (sP _ _ _ _) ?_
 refine cX ?_
 refine zj [(0,1)] [0] (λvs _=>HQ (vs 0) c l hc) (zi rfl ⟨_,_,rfl,rfl,rfl⟩) rfl ⟨(aB aZ),trivial⟩ ⟨zY,trivial⟩ ?_
 refine zj [(0,1)] [0] (λvs _=>mf (vs 0) l) (zi rfl ⟨_,_,rfl,rfl,rfl⟩) rfl ⟨(aB aZ),trivial⟩ ⟨zY,trivial⟩ ?_
 refine zj [(0,0),(1,1)] [0,1] (λvs _=>mi (vs 0) (vs 1) l) (zi rfl ⟨_,_,rfl,rfl,_,_,rfl,cr,rfl⟩) rfl ⟨⟨_,_,rfl,rfl,_,_,rfl,cr,rfl⟩,(aB aZ),trivial⟩ ⟨zY,zY,trivial⟩ ?_
 exact yr (.inl rfl) [(0,0),(1,1)] [(2,.r (.b (decide (c.toNat=1))))] [] rfl ⟨cr,⟨rfl,rfl⟩,⟨rfl,rfl⟩,trivial⟩ ⟨⟨_,_,rfl,rfl,_,_,rfl,cr,rfl⟩,(aB aZ),trivial⟩ ⟨⟨1000000,rfl⟩,⟨1000001,rfl⟩,trivial⟩ (cr)
theorem Nq(v0 v1:Value)(l:cT)(n:Nat)(h1:n=1\/n=2\/n=4\/n=8)(hn:n<=l.length):yz aP 305 2 (xz l) [.own 0,.r (I n)] [(0,v0),(1,v1)] 2 (xz (l.drop n)) (.r (yQ (wi 0 (l.take n)))):=by
 refine yk (T:=Tab) mixed Tab_ok Tryz.func305 rfl (by kernel_rfl) rfl (sP _ _ _ _) ?_
 refine cX ?_
 refine zj [(0,1)] [0] (λvs _=>OW (vs 0) l n h1 hn) (zi rfl ⟨_,_,rfl,rfl,_,_,rfl,cr,rfl⟩) rfl ⟨(aB aZ),trivial⟩ ⟨zY,trivial⟩ ?_
 refine zj [(0,1)] [0] (λvs _=>mf (vs 0) (l.drop n)) (zi rfl ⟨_,_,rfl,rfl,rfl⟩) rfl ⟨(aB aZ),trivial⟩ ⟨zY,trivial⟩ ?_
 refine zj [(0,0),(1,1)] [0,1] (λvs _=>mi (vs 0) (vs 1) (l.drop n)) (zi rfl ⟨_,_,rfl,rfl,_,_,rfl,cr,rfl⟩) rfl ⟨⟨_,_,rfl,rfl,_,_,rfl,cr,rfl⟩,(aB aZ),trivial⟩ ⟨zY,zY,trivial⟩ ?_
 exact yr (.inl rfl) [(0,0),(1,1)] [(4,.r (yQ (wi 0 (l.take n))))] [] rfl ⟨cr,⟨rfl,rfl⟩,⟨rfl,rfl⟩,trivial⟩ ⟨⟨_,_,rfl,rfl,_,_,rfl,cr,rfl⟩,(aB aZ),trivial⟩ ⟨⟨1000000,rfl⟩,⟨1000001,rfl⟩,trivial⟩ (cr)
theorem Nr(v0 v1:Value)(l r x:cT)(hl:l.length<=8000000000000)(h:wy l= .ok x r):yz aP 304 2 (xz l) [.own 0] [(0,v0),(1,v1)] 2 (xz r) (.r (bs x)):=by
 refine yk (T:=Tab) mixed Tab_ok Tryz.func304 rfl (by kernel_rfl) rfl (sP _ _ _ _) ?_
 refine cX ?_
 refine zj [(0,1)] [0] (λvs _=>rm (vs 0) l r x hl h) (zi rfl ⟨_,_,rfl,rfl,rfl⟩) rfl ⟨(aB aZ),trivial⟩ ⟨zY,trivial⟩ ?_
 refine zj [(0,1)] [0] (λvs _=>mf (vs 0) r) (zi rfl ⟨_,_,rfl,rfl,rfl⟩) rfl ⟨(aB aZ),trivial⟩ ⟨zY,trivial⟩ ?_
 refine zj [(0,0),(1,1)] [0,1] (λvs _=>mi (vs 0) (vs 1) r) (zi rfl ⟨_,_,rfl,rfl,_,_,rfl,cr,rfl⟩) rfl ⟨⟨_,_,rfl,rfl,_,_,rfl,cr,rfl⟩,(aB aZ),trivial⟩ ⟨zY,zY,trivial⟩ ?_
 exact yr (.inl rfl) [(0,0),(1,1)] [(2,.r (bs x))] [] rfl ⟨cr,⟨rfl,rfl⟩,⟨rfl,rfl⟩,trivial⟩ ⟨⟨_,_,rfl,rfl,_,_,rfl,cr,rfl⟩,(aB aZ),trivial⟩ ⟨⟨1000000,rfl⟩,⟨1000001,rfl⟩,trivial⟩ (cr)
theorem Gn(v0 v1:Value)(l:cT)(n m:Nat)(h1:n=1\/n=2\/n=4\/n=8)(hn:n<=l.length)(hm:wi 0 (l.take n)=m):yz aP 303 2 (xz l) [.own 0,.r (I n),.r (yQ m)] [(0,v0),(1,v1)] 2 (xz (l.drop n)) (.r (.tu [])):=by
 refine yk (T:=Tab) mixed Tab_ok Tryz.func303 rfl (by kernel_rfl) rfl (sP _ _ _ _) ?_
 refine zj [(0,0),(1,1)] [0,1] (λvs _=>Nq (vs 0) (vs 1) l n h1 hn) (zi rfl ⟨_,_,rfl,rfl,_,_,rfl,cr,rfl⟩) rfl ⟨⟨_,_,rfl,rfl,_,_,rfl,cr,rfl⟩,(aB aZ),trivial⟩ ⟨zY,zY,trivial⟩ ?_
 refine cX ?_ (by simp only[zb];omega)
 exact yr (.inr rfl) [(0,0),(1,1)] [] [] rfl ⟨⟨rfl,rfl⟩,⟨rfl,rfl⟩,trivial⟩ ⟨⟨_,_,rfl,rfl,_,_,rfl,cr,rfl⟩,(aB aZ),trivial⟩ ⟨⟨1000000,rfl⟩,⟨1000001,rfl⟩,trivial⟩ ⟨_,rfl,cr⟩
theorem VL(v0 v1:Value)(l r:cT)(hl:l.length<=8000000000000)(h:wy l= .ok [] r):yz aP 411 2 (xz l) [.own 0,.r .any] [(0,v0),(1,v1)] 2 (xz r) (.r (.tu [])):=by
 refine yk (T:=Tab) mixed Tab_ok Tryz.func411 rfl (by kernel_rfl) rfl (sP _ _ _ _) ?_
 refine zj [(0,0),(1,1)] [0,1] (λvs _=>Nr (vs 0) (vs 1) l r [] hl h) (zi rfl ⟨_,_,rfl,rfl,rfl⟩) rfl ⟨⟨_,_,rfl,rfl,_,_,rfl,cr,rfl⟩,(aB aZ),trivial⟩ ⟨zY,zY,trivial⟩ ?_
 refine ze (eI []) ?_
 refine Vstep.nmB 4 1000004 rfl λb=>zJ (je (id:=4) (t:=7) (tn:=1000004) rfl rfl) (Vstep.val Tab_ok ?_)
 refine zy (λ_:Nat=>⟨[(0,.own 0),(4,.own 5),(1000000,.nm 0 v0),(1000001,.nm 1 v1)],[(0,some (.box [.own 1,.r (Er 0)])),(1,some (gS (bs r) 0)),(4,some (gS (bs []) 0)),(5,some (.box [.own 4,.r (Er 0)]))],6⟩) (λ_=>True) (λ_=>0) 0 trivial (Sub.trans (lD (id:=5) (j:=4) (tn:=1000004) (i:=0) rfl rfl rfl) (zN [(0,0),(1,1),(4,4),(5,5)] ⟨⟨_,_,rfl,rfl,_,_,rfl,cr,rfl⟩,(aB aZ),(aB aZ),⟨_,_,rfl,rfl,_,_,rfl,cr,rfl⟩,trivial⟩)) ?_
 intro _ _
 refine zt rfl ?_
 refine zj [(0,4)] [0] (λvs _=>HS (vs 0) []) (zi rfl ⟨_,_,rfl,rfl,rfl⟩) rfl ⟨(aB aZ),trivial⟩ ⟨zY,trivial⟩ ?_
 refine cX ?_
 exact yr (.inr rfl) [(0,0),(1,1)] [] [] rfl ⟨⟨rfl,rfl⟩,⟨rfl,rfl⟩,trivial⟩ ⟨⟨_,_,rfl,rfl,_,_,rfl,cr,rfl⟩,(aB aZ),trivial⟩ ⟨⟨1000000,rfl⟩,⟨1000001,rfl⟩,trivial⟩ ⟨_,rfl,cr⟩
theorem mE(x:Nat):(UInt8.ofNat x).toNat=x%256:=by rw[UInt8.toNat_ofNat']
theorem BZ(n:Nat):yg 1 n=[UInt8.ofNat n]:=by simp[yg]
theorem Aa(n:Nat):yg 2 n=[UInt8.ofNat (n/256),UInt8.ofNat n]:=by simp[yg]
theorem Ab(n:Nat):yg 4 n=[UInt8.ofNat (n/16777216),UInt8.ofNat (n/65536),UInt8.ofNat (n/256),UInt8.ofNat n]:=by simp[yg]
theorem P1{n:Nat}(hn:n<1073741824)(r:cT):vp (uY n++r)= .ok n r:=by
 unfold uY
 split
 ·rename_i h
  rw[BZ]
  have hc:(UInt8.ofNat n).toNat=n:=by rw[mE];omega
  have hm:yN (UInt8.ofNat n)=0:=by unfold yN;rw[hc,cQ (by omega),cQ (by omega)]
  have hz:vX n=1:=by unfold vX;rw[cO h]
  simp only[List.cons_append,cG,vp,hm,hc,List.take_zero,List.drop_zero]
  rw[cQ (by omega),cQ (by omega)]
  have:wi (n%64) []=n:=by simp only[wi,List.foldl_nil];omega
  rw[this,hz]
  simp
 split
 ·rename_i h0 h
  rw[Aa]
  have hc:(UInt8.ofNat ((16384+n)/256)).toNat=64+n/256:=by rw[mE];omega
  have hd:(UInt8.ofNat (16384+n)).toNat=n%256:=by rw[mE];omega
  have hm:yN (UInt8.ofNat ((16384+n)/256))=1:=by unfold yN;rw[hc,cQ (by omega),cO (by omega)]
  have hz:vX n=2:=by unfold vX;rw[cQ h0,cO h]
  simp only[List.cons_append,cG,vp,hm,hc]
  rw[cQ (by omega),cQ (by simp)]
  have:wi ((64+n/256)%64) ((UInt8.ofNat (16384+n)::r).take 1)=n:=by simp only[List.take_succ_cons,List.take_zero,wi,List.foldl_cons,List.foldl_nil,hd];omega
  rw[this,hz]
  simp
 ·rename_i h0 h1
  rw[Ab]
  have hc:(UInt8.ofNat ((2147483648+n)/16777216)).toNat=128+n/16777216:=by rw[mE];omega
  have h2:(UInt8.ofNat ((2147483648+n)/65536)).toNat=n/65536%256:=by rw[mE];omega
  have h3:(UInt8.ofNat ((2147483648+n)/256)).toNat=n/256%256:=by rw[mE];omega
  have h4:(UInt8.ofNat (2147483648+n)).toNat=n%256:=by rw[mE];omega
  have hm:yN (UInt8.ofNat ((2147483648+n)/16777216))=3:=by unfold yN;rw[hc,cO (by omega)]
  have hz:vX n=4:=by unfold vX;rw[cQ h0,cQ h1]
  simp only[List.cons_append,cG,vp,hm,hc]
  rw[cQ (by omega),cQ (by simp)]
  have:wi ((128+n/16777216)%64) ((UInt8.ofNat ((2147483648+n)/65536)::UInt8.ofNat ((2147483648+n)/256)::UInt8.ofNat (2147483648+n)::r).take 3)=n:=by
   simp only[List.take_succ_cons,List.take_zero,wi,List.foldl_cons,List.foldl_nil,h2,h3,h4];omega
  rw[this,hz]
  simp
theorem uF{v:cT}(hv:v.length<1073741824)(r:cT):wy (zZ v++r)= .ok v r:=by
 unfold wy zZ
 rw[List.append_assoc,P1 hv]
 simp only
 rw[cQ (by simp),List.take_left,List.drop_left]
theorem SC{a b c:cT}(ha:a.length<1073741824)(hb:b.length<1073741824)(hc:c.length<1073741824)(r:cT):sW 3 (zZ a++(zZ b++(zZ c++r)))= .ok [a,b,c] r:=by
 simp only[sW,uF ha,uF hb,uF hc]
theorem Mc(l:Leaf)(r:cT):xA l++r=zZ l.box++(zZ l.sign++(zZ l.ident++(l.src::((if l.src.toNat=3 then zZ l.parent else[])++(zZ l.sig++r))))):=by
 simp[xA,xC]
theorem Su{l:Leaf}(hr:l.right=true)(r:cT):fQ (xA l++r)= .ok l r:=by
 have hr':=hr
 simp only[Leaf.right,decide_eq_true_eq]at hr'
 obtain⟨h1,h2,h3,h4,h5,h6,h7,h8⟩:=hr'
 rw[Mc]
 unfold fQ
 rw[SC (by omega) (by omega) (by omega)]
 simp only[gD]
 rw[cQ (by omega)]
 have hp:pH l.src ((if l.src.toNat=3 then zZ l.parent else[])++(zZ l.sig++r))= .ok l.parent (zZ l.sig++r):=by
  unfold pH
  by_cases h:l.src.toNat=3
  ·rw[cO h,cO h,uF (by omega)]
  ·rw[cQ h,cQ h,bU (show l.parent.length=0 by omega)]
   rfl
 rw[hp]
 simp only[kP]
 rw[uF (by omega)]
 have e:qW [l.box,l.sign,l.ident] l.src l.parent l.sig=l:=rfl
 simp only[e]
 rw[cO hr]
theorem dU(x:Nat): ∀s a,wi a (yg s x)=a*256^s+x%256^s
 |0,a=>by
  show a=a*1+x%1
  rw[cL,Nat.mod_one,Nat.add_zero]
 |s+1,a=>by
  have ih:=dU x s (256*a+(UInt8.ofNat (x/256^s)).toNat)
  have h1:(UInt8.ofNat (x/256^s)).toNat=x/256^s%256:=by rw[UInt8.toNat_ofNat']
  have h2:x%256^(s+1)=x%256^s+256^s*(x/256^s%256):=by rw[Nat.pow_succ,Nat.mod_mul]
  show wi (256*a+(UInt8.ofNat (x/256^s)).toNat) (yg s x)=_
  rw[ih,h1,h2,Nat.pow_succ]
  generalize x/256^s%256=d
  generalize x%256^s=e
  generalize 256^s=q
  have h3:(256*a+d)*q=a*(q*256)+q*d:=by
   rw[Nat.add_mul,Nat.mul_comm d q,Nat.mul_comm 256 a,Nat.mul_assoc,Nat.mul_comm 256 q]
  rw[h3]
  omega
theorem YG(v0 v1:Value)(s x:Nat)(r:cT)(h1:s=1\/s=2\/s=4\/s=8)(hx:x<256^s):yz aP 305 2 (xz (yg s x++r)) [.own 0,.r (I s)] [(0,v0),(1,v1)] 2 (xz r) (.r (yQ x)):=by
 have h:=Nq v0 v1 (yg s x++r) s h1 (by rw[aL,yj];omega)
 rw[List.take_left' (yj s x),List.drop_left' (yj s x),dU,Nat.zero_mul,Nat.zero_add,bS hx]at h
 exact h
theorem dB(v0 v1:Value)(s x:Nat)(r:cT)(h1:s=1\/s=2\/s=4\/s=8)(hx:x<256^s):yz aP 303 2 (xz (yg s x++r)) [.own 0,.r (I s),.r (yQ x)] [(0,v0),(1,v1)] 2 (xz r) (.r (.tu [])):=by
 have h:=Gn v0 v1 (yg s x++r) s x h1 (by rw[aL,yj];omega) (by rw[List.take_left' (yj s x),dU,Nat.zero_mul,Nat.zero_add,bS hx])
 rw[List.drop_left' (yj s x)]at h
 exact h
theorem fM(v0 v1:Value)(x r:cT)(hx:x.length<=1000000)(hr:r.length<=1000000):yz aP 304 2 (xz (zZ x++r)) [.own 0] [(0,v0),(1,v1)] 2 (xz r) (.r (bs x)):=
 Nr v0 v1 (zZ x++r) r x (by have:=yf x;rw[aL];omega) (uF (by omega) r)
theorem Gp(v0 v1:Value)(l r:cT)(x:Leaf)(hl:l.length<=8000000000)(h:fQ l= .ok x r):yz aP 410 2 (xz l) [.own 0] [(0,v0),(1,v1)] 3 (xz r) (.r (.ag x.c)):=by
 refine yk (T:=Tab) mixed Tab_ok Tryz.func410 rfl (by kernel_rfl) rfl (sP _ _ _ _) ?_
 refine cX ?_
 refine zj [(0,1)] [0] (λvs _=>QE (vs 0) l r x hl h) (zi rfl ⟨_,_,rfl,rfl,rfl⟩) rfl ⟨(aB aZ),trivial⟩ ⟨zY,trivial⟩ ?_
 refine zj [(0,0),(1,1)] [0,1] (λvs _=>mi (vs 0) (vs 1) r) (zi rfl ⟨_,_,rfl,rfl,_,_,rfl,cr,rfl⟩) rfl ⟨⟨_,_,rfl,rfl,_,_,rfl,cr,rfl⟩,(aB aZ),trivial⟩ ⟨zY,zY,trivial⟩ ?_
 refine cU ?_
 exact yr (.inl rfl) [(0,0),(1,1),(2,2)] [(2,.own 2)] [(2,some (.box (x.c.map .r)))] rfl ⟨rfl,⟨rfl,rfl⟩,⟨rfl,rfl⟩,trivial⟩ ⟨⟨_,_,rfl,rfl,_,_,rfl,cr,rfl⟩,(aB aZ),(aC (aB aZ)),trivial⟩ ⟨⟨1000000,rfl⟩,⟨1000001,rfl⟩,trivial⟩ (za rfl rfl (cr))
theorem Np(v0 v1:Value)(l l1 l2 r:cT)(x:Leaf)(hl:l.length<=1000000)(hl1:l1.length<=1000000)(hl2:l2.length<=1000000)(hv:wy l= .ok [] (1::l1))(hL:fQ l1= .ok x l2)(hw:wy l2= .ok [] r):
  yz aP 307 2 (xz l) [.own 0] [(0,v0),(1,v1)] 3 (xz r) (.r (.ag (nX x))):=by
 have hf: ∀v0 v1:Value,yz aP 414 2 (xz (1::l1)) [.own 0] [(0,v0),(1,v1)] 2 (xz l1) (.r (.b true)):=λv0 v1=>Gm v0 v1 1 l1 (by decide)
 refine yk (T:=Tab) mixed Tab_ok Tryz.func307 rfl (by kernel_rfl) rfl (sP _ _ _ _) ?_
 refine Vstep.nm 3 1000003 rfl λp=>Vstep.mkfunX [p] rfl ⟨_,_,rfl,⟨3,1000003,rfl,rfl⟩,rfl⟩ ?_
 refine zj [(0,0),(1,1)] [0,1] (λvs _=>VL (vs 0) (vs 1) l (1::l1) (by omega) hv) (zi rfl ⟨_,_,rfl,rfl,_,_,rfl,trivial,rfl⟩) rfl ⟨⟨_,_,rfl,rfl,_,_,rfl,cr,rfl⟩,(aB aZ),trivial⟩ ⟨zY,zY,trivial⟩ ?_
 refine zj [(0,0),(1,1)] [0,1] (λvs _=>hf (vs 0) (vs 1)) (zi rfl ⟨_,_,rfl,rfl,rfl⟩) rfl ⟨⟨_,_,rfl,rfl,_,_,rfl,cr,rfl⟩,(aB aZ),trivial⟩ ⟨zY,zY,trivial⟩ ?_
 refine zp ?_
 refine zj [(0,0),(1,1)] [0,1] (λvs _=>Gp (vs 0) (vs 1) l1 l2 x (by omega) hL) (zi rfl ⟨_,_,rfl,rfl,rfl⟩) rfl ⟨⟨_,_,rfl,rfl,_,_,rfl,cr,rfl⟩,(aB aZ),trivial⟩ ⟨zY,zY,trivial⟩ ?_
 refine Vstep.mkfunX [p] rfl ⟨_,_,rfl,⟨3,1000003,rfl,rfl⟩,rfl⟩ ?_
 refine zj [(0,0),(1,1)] [0,1] (λvs _=>VL (vs 0) (vs 1) l2 r (by omega) hw) (zi rfl ⟨_,_,rfl,rfl,_,_,rfl,trivial,rfl⟩) rfl ⟨⟨_,_,rfl,rfl,_,_,rfl,cr,rfl⟩,(aB aZ),trivial⟩ ⟨zY,zY,trivial⟩ ?_
 refine cU ?_
 exact yr (.inl rfl) [(0,0),(1,1),(2,2)] [(2,.own 2)] [(2,some (.box ((nX x).map .r)))] rfl ⟨rfl,⟨rfl,rfl⟩,⟨rfl,rfl⟩,trivial⟩ ⟨⟨_,_,rfl,rfl,_,_,rfl,cr,rfl⟩,(aB aZ),(aD (aA aZ)),trivial⟩ ⟨⟨1000000,rfl⟩,⟨1000001,rfl⟩,trivial⟩ (za rfl rfl (cr))
set_option maxRecDepth 20000 in
theorem W8(v0 v1:Value)(l0 l1 l2 l3 l4 l5 l6 l7 l8 l9 l10 l11:cT)(m:MsgP)(hm:m.sm)
  (c1: ∀v0 v1:Value,yz aP 303 2 (xz l0) [.own 0,.r (I 2),.r (yQ 1)] [(0,v0),(1,v1)] 2 (xz l1) (.r (.tu [])))
  (c2: ∀v0 v1:Value,yz aP 303 2 (xz l1) [.own 0,.r (I 2),.r (yQ 1)] [(0,v0),(1,v1)] 2 (xz l2) (.r (.tu [])))
  (c3: ∀v0 v1:Value,yz aP 304 2 (xz l2) [.own 0] [(0,v0),(1,v1)] 2 (xz l3) (.r (bs m.group)))
  (c4: ∀v0 v1:Value,yz aP 305 2 (xz l3) [.own 0,.r (I 8)] [(0,v0),(1,v1)] 2 (xz l4) (.r (yQ m.epoch)))
  (c5: ∀v0 v1:Value,yz aP 303 2 (xz l4) [.own 0,.r (I 1),.r (yQ 1)] [(0,v0),(1,v1)] 2 (xz l5) (.r (.tu [])))
  (c6: ∀v0 v1:Value,yz aP 305 2 (xz l5) [.own 0,.r (I 4)] [(0,v0),(1,v1)] 2 (xz l6) (.r (yQ m.frm)))
  (c7: ∀v0 v1:Value,yz aP 305 2 (xz l6) [.own 0,.r (I 1)] [(0,v0),(1,v1)] 2 (xz l7) (.r (yQ 3)))
  (c8: ∀v0 v1:Value,yz aP 307 2 (xz l7) [.own 0] [(0,v0),(1,v1)] 3 (xz l8) (.r (.ag (nX m.lf))))
  (c9: ∀v0 v1:Value,yz aP 304 2 (xz l8) [.own 0] [(0,v0),(1,v1)] 2 (xz l9) (.r (bs m.sig)))
  (c10: ∀v0 v1:Value,yz aP 304 2 (xz l9) [.own 0] [(0,v0),(1,v1)] 2 (xz l10) (.r (bs m.tag)))
  (c11: ∀v0 v1:Value,yz aP 304 2 (xz l10) [.own 0] [(0,v0),(1,v1)] 2 (xz l11) (.r (bs m.mem))):
  yz aP 193 2 (xz l0) [.own 0] [(0,v0),(1,v1)] 3 (xz l11) (.r (.ag m.c)):=by
 obtain⟨h1,h2,h3,h4,h5,h6,h7,h8,h9⟩:=hm
 refine yk (T:=Tab) mixed Tab_ok Tryz.func193 rfl (by kernel_rfl) rfl (sP _ _ _ _) ?_
 refine zj [(0,0),(1,1)] [0,1] (λvs _=>c1 (vs 0) (vs 1)) (zi rfl ⟨_,_,rfl,rfl,_,_,rfl,cr,_,_,rfl,cr,rfl⟩) rfl ⟨⟨_,_,rfl,rfl,_,_,rfl,cr,rfl⟩,(aB aZ),trivial⟩ ⟨zY,zY,trivial⟩ ?_
 refine zj [(0,0),(1,1)] [0,1] (λvs _=>c2 (vs 0) (vs 1)) (zi rfl ⟨_,_,rfl,rfl,_,_,rfl,cr,_,_,rfl,cr,rfl⟩) rfl ⟨⟨_,_,rfl,rfl,_,_,rfl,cr,rfl⟩,(aB aZ),trivial⟩ ⟨zY,zY,trivial⟩ ?_
 refine zj [(0,0),(1,1)] [0,1] (λvs _=>c3 (vs 0) (vs 1)) (zi rfl ⟨_,_,rfl,rfl,rfl⟩) rfl ⟨⟨_,_,rfl,rfl,_,_,rfl,cr,rfl⟩,(aB aZ),trivial⟩ ⟨zY,zY,trivial⟩ ?_
 refine zj [(0,0),(1,1)] [0,1] (λvs _=>c4 (vs 0) (vs 1)) (zi rfl ⟨_,_,rfl,rfl,_,_,rfl,cr,rfl⟩) rfl ⟨⟨_,_,rfl,rfl,_,_,rfl,cr,rfl⟩,(aB aZ),trivial⟩ ⟨zY,zY,trivial⟩ ?_
 refine zj [(0,0),(1,1)] [0,1] (λvs _=>c5 (vs 0) (vs 1)) (zi rfl ⟨_,_,rfl,rfl,_,_,rfl,cr,_,_,rfl,cr,rfl⟩) rfl ⟨⟨_,_,rfl,rfl,_,_,rfl,cr,rfl⟩,(aB aZ),trivial⟩ ⟨zY,zY,trivial⟩ ?_
 refine zj [(0,0),(1,1)] [0,1] (λvs _=>c6 (vs 0) (vs 1)) (zi rfl ⟨_,_,rfl,rfl,_,_,rfl,cr,rfl⟩) rfl ⟨⟨_,_,rfl,rfl,_,_,rfl,cr,rfl⟩,(aB aZ),trivial⟩ ⟨zY,zY,trivial⟩ ?_
 refine zd (m:=(m.frm:Int)) (by omega) (by omega) ?_
 refine zj [(0,0),(1,1)] [0,1] (λvs _=>c7 (vs 0) (vs 1)) (zi rfl ⟨_,_,rfl,rfl,_,_,rfl,cr,rfl⟩) rfl ⟨⟨_,_,rfl,rfl,_,_,rfl,cr,rfl⟩,(aB aZ),trivial⟩ ⟨zY,zY,trivial⟩ ?_
 refine Vint.n 3 (by show(3:Int)=IntKind.u8.wrap 3;decide) ?_
 refine cX ?_
 refine cY ?_
 refine zj [(0,0),(1,1)] [0,1] (λvs _=>c8 (vs 0) (vs 1)) (zi rfl ⟨_,_,rfl,rfl,rfl⟩) rfl ⟨⟨_,_,rfl,rfl,_,_,rfl,cr,rfl⟩,(aB aZ),trivial⟩ ⟨zY,zY,trivial⟩ ?_
 refine zj [(0,0),(1,1)] [0,1] (λvs _=>c9 (vs 0) (vs 1)) (zi rfl ⟨_,_,rfl,rfl,rfl⟩) rfl ⟨⟨_,_,rfl,rfl,_,_,rfl,cr,rfl⟩,(aB aZ),trivial⟩ ⟨zY,zY,trivial⟩ ?_
 refine cY ?_
 refine zj [(0,0),(1,1)] [0,1] (λvs _=>c10 (vs 0) (vs 1)) (zi rfl ⟨_,_,rfl,rfl,rfl⟩) rfl ⟨⟨_,_,rfl,rfl,_,_,rfl,cr,rfl⟩,(aB aZ),trivial⟩ ⟨zY,zY,trivial⟩ ?_
 refine zj [(0,0),(1,1)] [0,1] (λvs _=>c11 (vs 0) (vs 1)) (zi rfl ⟨_,_,rfl,rfl,rfl⟩) rfl ⟨⟨_,_,rfl,rfl,_,_,rfl,cr,rfl⟩,(aB aZ),trivial⟩ ⟨zY,zY,trivial⟩ ?_
 refine cU ?_
 exact yr (.inl rfl) [(0,0),(1,1),(2,2)] [(2,.own 2)] [(2,some (.box (m.c.map .r)))] rfl ⟨rfl,⟨rfl,rfl⟩,⟨rfl,rfl⟩,trivial⟩ ⟨⟨_,_,rfl,rfl,_,_,rfl,cr,rfl⟩,(aB aZ),(aE (aE aZ)),trivial⟩ ⟨⟨1000000,rfl⟩,⟨1000001,rfl⟩,trivial⟩ (za rfl rfl (cr))
theorem XW(m:MsgP):na m=yg 2 1++(yg 2 1++(zZ m.group++(yg 8 m.epoch++(yg 1 1++(yg 4 m.frm++(yg 1 3++(zZ []++(1::(xA m.lf++(zZ []++(zZ m.sig++(zZ m.tag++(zZ m.mem++[]))))))))))))):=by
 have e1:yg 1 1=[1]:=by decide
 have e3:yg 1 3=[3]:=by decide
 rw[e1,e3]
 simp only[na,ix,w6,vV,iZ,List.append_assoc,List.cons_append,cG,List.append_nil]
theorem QL(v0 v1:Value)(m:MsgP)(hm:m.sm):yz aP 193 2 (xz (na m)) [.own 0] [(0,v0),(1,v1)] 3 (xz []) (.r (.ag m.c)):=by
 obtain⟨h1,h2,h3,h4,h5,h6,h7,h8,h9⟩:=id hm
 obtain⟨k1,k2,k3,k4,k5⟩:=oO h7
 have b1:=rM m.lf
 have b2:=yf m.sig
 have b3:=yf m.tag
 have b4:=yf m.mem
 have b5:=yf m.group
 have b6:=yf []
 rw[XW]
 have q11:(zZ m.mem++[]).length<=1000:=by simp only[aL,bO];omega
 generalize hl10:zZ m.mem++[]=l10 at q11
 have q10:(zZ m.tag++l10).length<=2000:=by simp only[aL];omega
 generalize hl9:zZ m.tag++l10=l9 at q10
 have q9:(zZ m.sig++l9).length<=3000:=by simp only[aL];omega
 generalize hl8:zZ m.sig++l9=l8 at q9
 have qa:(zZ []++l8).length<=4000:=by simp only[aL,bO]at*;omega
 generalize hla:zZ []++l8=la at qa
 have qb:(xA m.lf++la).length<=5000:=by simp only[aL];omega
 generalize hlb:xA m.lf++la=lb at qb
 have q8:(zZ []++(1::lb)).length<=6000:=by simp only[aL,bJ,bO]at*;omega
 have p8: ∀v0 v1:Value,yz aP 307 2 (xz (zZ []++(1::lb))) [.own 0] [(0,v0),(1,v1)] 3 (xz l8) (.r (.ag (nX m.lf))):=λv0 v1=>
  Np v0 v1 _ lb la l8 m.lf (by omega) (by omega) (by omega) (uF (by decide) _) (by rw[<-hlb];exact Su h7 _) (by rw[<-hla];exact uF (by decide) _)
 generalize zZ []++(1::lb)=l7 at q8 p8
 generalize hl6:yg 1 3++l7=l6
 generalize hl5:yg 4 m.frm++l6=l5
 generalize hl4:yg 1 1++l5=l4
 have q4:l4.length<=7000:=by rw[<-hl4,<-hl5,<-hl6];simp only[aL,yj];omega
 generalize hl3:yg 8 m.epoch++l4=l3
 have q3:l3.length<=8000:=by rw[<-hl3];simp only[aL,yj];omega
 generalize hl2:zZ m.group++l3=l2
 generalize hl1:yg 2 1++l2=l1
 generalize hl0:yg 2 1++l1=l0
 refine W8 v0 v1 l0 l1 l2 l3 l4 l5 l6 l7 l8 l9 l10 [] m hm ?_ ?_ ?_ ?_ ?_ ?_ ?_ p8 ?_ ?_ ?_
 ·rw[<-hl0];exactλv0 v1=>dB v0 v1 2 1 _ (.inr (.inl rfl)) (by decide)
 ·rw[<-hl1];exactλv0 v1=>dB v0 v1 2 1 _ (.inr (.inl rfl)) (by decide)
 ·rw[<-hl2];exactλv0 v1=>fM v0 v1 _ _ (by omega) (by omega)
 ·rw[<-hl3];exactλv0 v1=>YG v0 v1 8 _ _ (.inr (.inr (.inr rfl))) (by rw[show(256:Nat)^8=18446744073709551616 by decide];omega)
 ·rw[<-hl4];exactλv0 v1=>dB v0 v1 1 1 _ (.inl rfl) (by decide)
 ·rw[<-hl5];exactλv0 v1=>YG v0 v1 4 _ _ (.inr (.inr (.inl rfl))) (by rw[show(256:Nat)^4=4294967296 by decide];omega)
 ·rw[<-hl6];exactλv0 v1=>YG v0 v1 1 3 _ (.inl rfl) (by decide)
 ·rw[<-hl8];exactλv0 v1=>fM v0 v1 _ _ (by omega) (by omega)
 ·rw[<-hl9];exactλv0 v1=>fM v0 v1 _ _ (by omega) (by omega)
 ·rw[<-hl10];exactλv0 v1=>fM v0 v1 _ _ (by omega) (by decide)
theorem EG(v0 v1 v2:Value)(l r:cT)(m:MsgP)(c: ∀v0 v1:Value,yz aP 193 2 (xz l) [.own 0] [(0,v0),(1,v1)] 3 (xz r) (.r (.ag m.c))):
  yz aP 192 3 [(0,.box [.own 1,.r (Er 0)]),(1,gS (bs l) 0),(2,.box (zMsg.map .r))] [.own 0,.own 2] [(0,v0),(1,v1),(2,v2)] 3 [(0,.box [.own 1,.r (Er 0)]),(1,gS (bs r) 0),(2,.box (m.c.map .r))] (.r (.tu [])):=by
 refine yk (T:=Tab) mixed Tab_ok Tryz.func192 rfl (by kernel_rfl) rfl ⟨⟨_,_,rfl,rfl,ym,ym⟩,⟨_,_,rfl,rfl,ym,ym⟩,⟨_,_,rfl,rfl,ym,ym⟩,trivial⟩ ?_
 refine zj [(0,0),(1,1)] [0,1] (λvs _=>c (vs 0) (vs 1)) (zi rfl ⟨_,_,rfl,rfl,rfl⟩) rfl ⟨⟨_,_,rfl,rfl,_,_,rfl,cr,rfl⟩,(aB aZ),trivial⟩ ⟨zY,zY,trivial⟩ ?_
 exact yr (.inr rfl) [(0,0),(1,1),(2,2)] [] [] rfl ⟨⟨rfl,rfl⟩,⟨rfl,rfl⟩,⟨rfl,rfl⟩,trivial⟩ ⟨⟨_,_,rfl,rfl,_,_,rfl,cr,rfl⟩,(aB aZ),(aE (aE aZ)),trivial⟩ ⟨⟨1000000,rfl⟩,⟨1000001,rfl⟩,⟨1000002,rfl⟩,trivial⟩ ⟨_,rfl,cr⟩
theorem EH(v:Value)(m:MsgP)(hm:m.sm):yz aP 194 1 [(0,.box (m.c.map .r))] [.own 0] [(0,v)] 1 [(0,.box (m.c.map .r))] (.r (.b true)):=by
 refine yk (T:=Tab) mixed Tab_ok Tryz.func194 rfl (by kernel_rfl) rfl ⟨⟨_,_,rfl,rfl,ym,ym⟩,trivial⟩ ?_
 refine cU ?_
 refine ze (mn m hm) ?_
 exact yr (.inl rfl) [(0,0)] [(1,.r (.b true))] [] rfl ⟨cr,⟨rfl,rfl⟩,trivial⟩ ⟨(aE (aE aZ)),trivial⟩ ⟨⟨1000000,rfl⟩,trivial⟩ (cr)
theorem Gy(p:Value)(b:cT)(m:MsgP)(hb:b.length<=1048576)(hm:m.sm)(c: ∀v0 v1:Value,yz aP 193 2 (xz b) [.own 0] [(0,v0),(1,v1)] 3 (xz []) (.r (.ag m.c))):
  yz aP 191 1 [(0,.box (zMsg.map .r))] [.r (bs b),.r (.x (.func (.func 192) #[] #[p])),.r (.x (.func (.func 194) #[] #[p]))] [(0,p)] 1 [(0,.box (m.c.map .r))] (.r (Er 0)):=by
 refine yk (T:=Tab) mixed Tab_ok Tryz.func191 rfl (by kernel_rfl) rfl ⟨⟨_,_,rfl,rfl,ym,ym⟩,trivial⟩ ?_
 refine cX ?_ (by simp only[zb];omega)
 refine ze (eI b) ?_
 refine Vstep.nmB 1 1000001 rfl λr=>zJ (je (id:=1) (t:=12) (tn:=1000001) rfl rfl) (Vstep.val Tab_ok ?_)
 refine zJ (lD (id:=2) (j:=1) (tn:=1000001) (i:=0) rfl rfl rfl) ?_
 refine zj [(0,2),(1,1),(2,0)] [0,1,2] (λvs _=>EG (vs 0) (vs 1) (vs 2) b [] m c) (Handed.clo (fs:=[.own 0]) (cs:=[.own 2]) rfl rfl ⟨_,_,rfl,rfl,rfl⟩ ⟨_,_,rfl,⟨0,1000000,rfl,rfl⟩,rfl⟩) rfl ⟨⟨_,_,rfl,rfl,_,_,rfl,cr,rfl⟩,(aB aZ),(aE (aE aZ)),trivial⟩ ⟨zY,zY,zY,trivial⟩ ?_
 have hE: ∀v:Value,yz aP 302 1 (v8 []) [.own 0] [(0,v)] 1 (v8 []) (.r (Er 0)):=λv=>E6 v []
 refine zj [(0,1)] [0] (λvs _=>hE (vs 0)) (zi rfl ⟨_,_,rfl,rfl,rfl⟩) rfl ⟨(aB aZ),trivial⟩ ⟨zY,trivial⟩ ?_
 refine zj [(0,2),(1,1)] [0,1] (λvs _=>mi (vs 0) (vs 1) []) (zi rfl ⟨_,_,rfl,rfl,_,_,rfl,cr,rfl⟩) rfl ⟨⟨_,_,rfl,rfl,_,_,rfl,cr,rfl⟩,(aB aZ),trivial⟩ ⟨zY,zY,trivial⟩ ?_
 refine zt rfl ?_
 refine zj [(0,0)] [0] (λvs _=>EH (vs 0) m hm) (Handed.clo (fs:=[]) (cs:=[.own 0]) rfl rfl rfl ⟨_,_,rfl,⟨0,1000000,rfl,rfl⟩,rfl⟩) rfl ⟨(aE (aE aZ)),trivial⟩ ⟨zY,trivial⟩ ?_
 refine cX ?_
 exact yr (.inl rfl) [(0,0)] [(6,.r (Er 0))] [] rfl ⟨cr,⟨rfl,rfl⟩,trivial⟩ ⟨(aE (aE aZ)),trivial⟩ ⟨⟨1000000,rfl⟩,trivial⟩ (cr)
theorem Rx(m:MsgP)(hm:m.sm):(na m).length<=2000:=by
 have h1:=mq m hm
 have h2:=cy (w6 m) m hm
 have h3:=yf m.mem
 have h4:=hm.mem
 rw[na,aL]
 omega
theorem EI(m:MsgP)(hm:m.sm):aG 111 [bs (na m)] (.r (.tu [.ag m.c,Er 0])):=by
 have hb:=Rx m hm
 have c:=λv0 v1=>QL v0 v1 m hm
 generalize na m=b at hb c
 refine aT Tryz.func111 rfl ?_
 refine Vstep.nm 1 1000001 rfl λp=>Vstep.mkfunX [p] rfl ⟨_,_,rfl,⟨1,1000001,rfl,rfl⟩,rfl⟩ ?_
 refine Vstep.mkfunX [p] rfl ⟨_,_,rfl,⟨1,1000001,rfl,rfl⟩,rfl⟩ ?_
 refine zj [(0,1)] [0] (λvs hv=>oC (by simp only[List.map];rw[hv 0 1 1000001 _ rfl rfl]) (Gy p b m (by omega) hm c)) (zi rfl ⟨_,_,rfl,cr,_,_,rfl,cr,_,_,rfl,cr,rfl⟩) rfl ⟨(aE (aE aZ)),trivial⟩ ⟨zY,trivial⟩ ?_
 refine cX ?_
 refine cU ?_
 refine cU ?_
 exact⟨_,rfl,cr⟩
end Go.Proofs.YtkegaaonpekkgaaGreat.Sx
