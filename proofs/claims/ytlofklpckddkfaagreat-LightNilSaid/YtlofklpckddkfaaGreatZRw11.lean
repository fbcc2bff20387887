import Derived.Test.YtlofklpckddkfaaGreatZTo
import Derived.Test.YtlofklpckddkfaaGreatZPa
namespace Go.Proofs.YtlofklpckddkfaaGreat.Sx
open Go.RowKit
set_option linter.unusedVariables false
section
set_option maxRecDepth 20000 in
set_option maxHeartbeats 4000000 in
theorem zs7(v:ViewP)(hv:v.sm):zab Tryz.prog 136 [.ag v.c] (.r (.ag v.c)):=by
 refine zaa (T:=Tab) mixed Tab_ok Tryz.func136 rfl (by kernel_rfl) ?_
 obtain⟨h1,h2,h3,h4,h5,⟨k1,k2,k3,k4,k5,k6,k7,k8,k9,k10,k11,k12⟩,h7⟩:=hv
 refine Vdraw.code0 (Vcode.nmB 0 1000000 rfl λb=>Vcode.subp mixed Tab_ok ((zoa (id:=0) (t:=3) (tn:=1000000) (b:=b) rfl rfl rfl).trans ((zoa (id:=0) (t:=4) (tn:=1000000) (b:=b) rfl rfl rfl).trans (zux (id:=0) (t:=1) (tn:=1000000) rfl rfl))) ?_)
 refine Vdraw.mk' (by kernel_rfl) ?_
 refine zw ?_
 refine zy (λj:Nat=>⟨[(1, .own 0),(2, .own 1),(59, .r (.sl 1 17 [At b 0,At b 2,At b 3,At b 5,At b 6,At b 7,At b 8,At b 9,At b 10,At b 11,At b 12,At b 13,At b 14,At b 15,At b 16,At b 17,At b 18])),(60, .r (I 17)),(61, .r (I j)),(1000000, .nm 0 (.pointer (some ⟨b,0,none⟩)))],[(0,some (.box (v.c.map TF.r))),(1,some (.box nl20))],2⟩) (λj=>j<=17) (λj=>17-j) 0 (by omega) ((zsj (id:=0) (t:=1) (tn:=1000000) rfl rfl).trans (zad [(0,0),(1,1)] rfl (by repeat' (first |exact rfl |exact trivial |exact cr |exact Cv.nil _ |exact⟨rfl,rfl⟩ |refine⟨_,_,rfl,?_,?_⟩ |refine⟨?_,?_⟩)) (by repeat' (first |exact rfl |exact trivial |exact cr |exact Cv.nil _ |exact⟨rfl,rfl⟩ |refine⟨_,_,rfl,?_,?_⟩ |refine⟨?_,?_⟩)))) ?_
 intro j hj
 rcases(by omega:j<17\/j=17)with hlt |rfl
 rotate_left
 ·refine zu rfl (zq ?_)
  refine Vloop.rounds 2 (Vrounds.step mixed Tab_ok ?_)
  refine zt rfl (zp ?_)
  refine zm i00 i01 rfl ?_
  refine za rfl rfl ?_
  refine Vdraw.mk' (by kernel_rfl) ?_
  refine ze (zbt _ (by omega)) ?_
  refine zw ?_
  refine Vapp.mk' (j:=1) (zs:=v.key.c) (by decide) (by decide) rfl rfl ?_
  refine zd (m:=1) rfl (by decide) ?_
  refine Vrounds.step mixed Tab_ok ?_
  refine zu rfl (zq ?_)
  refine za rfl rfl ?_
  refine za rfl rfl ?_
  exact cr
 obtain⟨k,hk⟩: ∃k,k=j+1:=⟨_,rfl⟩
 rcases(by omega:j=0\/j=1\/j=2\/j=3\/j=4\/j=5\/j=6\/j=7\/j=8\/j=9\/j=10\/j=11\/j=12\/j=13\/j=14\/j=15\/j=16)with rfl |rfl |rfl |rfl |rfl |rfl |rfl |rfl |rfl |rfl |rfl |rfl |rfl |rfl |rfl |rfl |rfl
 all_goals
  refine zt rfl (zp ?_)
  refine zm (by decide) (by decide) rfl ?_
  refine zg rfl ?_
  refine Vstep.sub (zgv (id:=0) (t:=67) (tn:=1000000) rfl rfl rfl) (Vstep.val Tab_ok ?_)
  refine ze (zbt _ (by omega)) ?_
  refine Vstep.sub (zgv (id:=0) (t:=70) (tn:=1000000) rfl rfl rfl) (Vstep.sto Tab_ok rfl ?_)
  refine zd (m:=(k:Int)) (by omega) (by omega) ?_
  exact⟨k,by omega,by omega,by subst hk;exact zad [(0,0),(1,1)] rfl (by repeat' (first |exact rfl |exact trivial |exact cr |exact Cv.nil _ |exact⟨rfl,rfl⟩ |refine⟨_,_,rfl,?_,?_⟩ |refine⟨?_,?_⟩)) (by repeat' (first |exact rfl |exact trivial |exact cr |exact Cv.nil _ |exact⟨rfl,rfl⟩ |refine⟨_,_,rfl,?_,?_⟩ |refine⟨?_,?_⟩))⟩
theorem zpl(lf:Leaf)(hlf:lf.fit):zab Tryz.prog 137 [.ag (zc0 lf).c] (.r (.ag (zc0 lf).c)):=by
 refine zaa (T:=Tab) mixed Tab_ok Tryz.func137 rfl (by kernel_rfl) ?_
 refine Vloop.rounds 2 (Vrounds.step mixed Tab_ok ?_)
 refine zt rfl (zp ?_)
 refine zm i00 i01 rfl ?_
 refine za rfl rfl ?_
 refine Vdraw.mk' (by kernel_rfl) ?_
 refine za rfl rfl ?_
 refine ze (zkj (L1 lf) (zen hlf) (zcv _ hlf)) ?_
 refine zw ?_
 refine Vapp.mk' (j:=1) (zs:=Spot.c ⟨0,L1 lf⟩) (by decide) (by decide) rfl rfl ?_
 refine zd (m:=1) rfl (by decide) ?_
 refine Vrounds.step mixed Tab_ok ?_
 refine zu rfl (zq ?_)
 refine Vloop.rounds 1 (Vrounds.step mixed Tab_ok ?_)
 refine zu rfl (zq ?_)
 refine za rfl rfl ?_
 refine za rfl rfl ?_
 exact Cv.ag (zk (cr) (zk (cr) (zk (cr) (zk (Cv.nil 2) Cvs.nil))))
abbrev ltR(v:ViewP)(lf:Leaf)(sg:List UInt8):List RV:=[bs v.ctx.group, .i .u64 v.ctx.epoch,bs v.ctx.tree,bs v.ctx.trans,I v.own,bs v.interim,bs v.tag,bs v.sec.jn,bs v.sec.wl,bs v.sec.ep,bs v.sec.sd,bs v.sec.en,bs v.sec.ex,bs v.sec.au,bs v.sec.xt,bs v.sec.cf,bs v.sec.mb,bs v.sec.rs,bs v.sec.it,keyR [v.key],I 1,I 0,zp3 (zc0 lf).opn,zp4 [],bs sg,ns,ns]
theorem zjg(v:ViewP)(lf:Leaf)(sg:List UInt8)(hv:v.sm)(hlf:lf.fit)(hs:sg.length<=1000000):zab Tryz.prog 62 [.ag (ltR v lf sg)] (.r (.ag (ltR v lf sg))):=by
 refine zaa (T:=Tab) mixed Tab_ok Tryz.func62 rfl (by kernel_rfl) ?_
 have c1:=zs7 v hv
 have c2:=zpl lf hlf
 refine Vdraw.mk' (by kernel_rfl) ?_
 refine za rfl rfl ?_
 refine ze c1 ?_
 refine za rfl rfl ?_
 refine ze c2 ?_
 refine ze (zbt sg (by omega)) ?_
 refine Vloop.rounds 1 (Vrounds.step mixed Tab_ok ?_)
 refine zu rfl (zq ?_)
 refine Vloop.rounds 1 (Vrounds.step mixed Tab_ok ?_)
 refine zu rfl (zq ?_)
 refine za rfl rfl ?_
 refine za rfl rfl ?_
 exact cr
theorem z4d(v:ViewP)(lf:Leaf)(sg:List UInt8)(hv:v.sm)(h0:v.own=0)(hlf:lf.fit)(hlr:lf.right=true)(hs:sg.length<=1000000):zab Tryz.prog 43 [.ag (stR v lf sg)] (.r (.tu [.ag (ltR v lf sg),Er 0])):=by
 refine zaa (T:=Tab) mixed Tab_ok Tryz.func43 rfl (by kernel_rfl) ?_
 have c1:zab Tryz.prog 27 [nods [L1 lf],I v.own] (.r (.tu [.ag (zc0 lf).c,Er 0])):=by rw[h0];exact z4i lf hlf hlr
 have c2:=zjg v lf sg hv hlf hs
 refine ze c1 ?_
 refine zu rfl (zq ?_)
 refine za rfl rfl ?_
 refine za rfl rfl ?_
 refine ze c2 ?_
 refine za rfl rfl ?_
 exact⟨_,rfl,cr⟩
theorem z0z(lf:Leaf)(hlf:lf.fit)(hlr:lf.right=true):zab Tryz.prog 57 [.ag (zc0 lf).c] (.r (.tu [bs (hash1 lf),Er 0])):=by
 refine zaa (T:=Tab) mixed Tab_ok Tryz.func57 rfl (by kernel_rfl) ?_
 have hb:=z5b (zen hlf)
 have hR:=zwg (zp7 hlr) rfl
 have c1:=zxo (zc0 lf) hb
 have hp:pieS (zc0 lf)=zc0 lf:=if_pos (by have:=hR;unfold sR at this;simp only[Bool.and_eq_true]at this;exact this.1)
 rw[hR,hp]at c1
 have hf:(zc0 lf).fitN:=⟨by show 1<=1000000;decide,by show 0<=1000000;decide,λx hx=>by rw[List.mem_singleton.1 hx];exact zen hlf,λx hx=>by cases hx⟩
 have c2:=zqn (zc0 lf) hf 0 (by decide)
 have e:zg1 (zc0 lf) 0 0=hash1 lf:=rfl
 rw[e]at c2
 refine za rfl rfl ?_
 refine ze c1 ?_
 refine zu rfl (zq ?_)
 refine Vdraw.mk' (by kernel_rfl) ?_
 refine za rfl rfl ?_
 refine ze (zqp 1) ?_
 refine ze c2 ?_
 exact⟨_,rfl,cr⟩
abbrev liR(v:ViewP)(lf:Leaf)(sg:List UInt8):List RV:=[bs v.ctx.group, .i .u64 v.ctx.epoch,bs v.ctx.tree,bs v.ctx.trans,I v.own,bs v.interim,bs v.tag,bs v.sec.jn,bs v.sec.wl,bs v.sec.ep,bs v.sec.sd,bs v.sec.en,bs v.sec.ex,bs v.sec.au,bs v.sec.xt,bs v.sec.cf,bs v.sec.mb,bs v.sec.rs,bs v.sec.it,keyR [v.key],I 1,I 0,zp3 (zc0 lf).opn,zp4 [],bs sg,ns,ns,ns,ns, .i .u64 0,ns,ns,I 0,ns,ns,ns,ns,ns,ns,ns,ns,ns,ns,ns,ns,ns,ns,ns,I 0,I 0,ns,ns,ns,ns,ns]
theorem z9f(v:ViewP)(lf:Leaf)(sg:List UInt8)(hv:v.sm)(h0:v.own=0)(ht:v.ctx.tree=hash1 lf)(hlf:lf.fit)(hlr:lf.right=true)(hs:sg.length<=1000000):zab Tryz.prog 45 [.ag (ltR v lf sg)] (.r (.tu [.ptr (liR v lf sg),Er 0])):=by
 refine zax (T:=Tab) mixed Tab_ok Tryz.func45 rfl (by kernel_rfl) ?_
 have c1:=z0z lf hlf hlr
 have c2:=zjg v lf sg hv hlf hs
 have c3:zab Tryz.prog 65 [bs (hash1 lf),bs v.ctx.tree] (.r (.b true)):=by
  have:=z0d (hash1 lf) v.ctx.tree
  rw[decide_eq_true ht.symm]at this
  exact this
 refine za rfl rfl ?_
 refine ze c1 ?_
 refine zu rfl (zq ?_)
 refine zu (by simp only[zb];omega) (zq ?_)
 refine ze c3 ?_
 refine zu rfl (zq ?_)
 refine za rfl rfl ?_
 refine ze c2 ?_
 refine⟨_,Sub.trans (zad [(0,1)] (S':=⟨[(2, .own 0),(3, .r (Er 0))],[(0,some (.box ((liR v lf sg).map TF.r)))],1⟩) rfl (by repeat' (first |exact rfl |exact trivial |exact cr |exact Cv.nil _ |exact⟨rfl,rfl⟩ |refine⟨_,_,rfl,?_,?_⟩ |refine⟨?_,?_⟩)) (by repeat' (first |exact rfl |exact trivial |exact cr |exact Cv.nil _ |exact⟨rfl,rfl⟩ |refine⟨_,_,rfl,?_,?_⟩ |refine⟨?_,?_⟩))) (zdo (t:=2) (liR v lf sg) rfl rfl),?_⟩
 exact⟨_,rfl,cr⟩
theorem z0v(v:ViewP)(lf:Leaf)(sg:List UInt8)(hv:v.sm)(hlf:lf.fit)(hs:sg.length<=1000000):zab Tryz.prog 22 [.ptr (liR v lf sg)] (.r (.ag (ltR v lf sg))):=by
 refine zaa (T:=Tab) mixed Tab_ok Tryz.func22 rfl (by kernel_rfl) ?_
 have c1:=zjg v lf sg hv hlf hs
 refine Vfun.pn _ rfl rfl rfl Tryz.underlying44 (zq ?_)
 refine za rfl rfl ?_
 refine ze c1 ?_
 refine za rfl rfl ?_
 exact cr
end
section
theorem z5o{jn wl ep:List UInt8}(h1:jn.length=32)(h2:wl.length=32)(h3:ep.length=32):(secE jn wl ep).sm:=by
 have q: ∀l:List UInt8,(labB ep l [] 32).length<=1000000:=λl=>by rw[zcp ep l [] (n:=32) (by omega)];decide
 exact⟨by show jn.length<=_;omega,by show wl.length<=_;omega,by show ep.length<=_;omega,q _,q _,q _,q _,q _,q _,q _,q _,q _⟩
structure GrpV where
 v:ViewP
 o:Leaf
 sg:List UInt8
structure GrpV.ok (g:GrpV) (id:List UInt8):Prop where
 sm:g.v.sm
 own:g.v.own=0
 ctx:g.v.ctx=⟨id,0,hash1 g.o,[]⟩
 box:g.o.box.length=32
 sign:g.o.sign.length=32
 ident:g.o.ident.length<=64
 parent:g.o.parent.length=0
 lsig:g.o.sig.length=64
 right:g.o.right=true
 sg:g.sg.length<=1000000
theorem GrpV.ok.fit{g:GrpV}{id:List UInt8}(h:g.ok id):g.o.fit:=⟨by have:=h.box;omega,by have:=h.sign;omega,by have:=h.ident;omega,by have:=h.parent;omega,by have:=h.lsig;omega⟩
theorem z7b(id ident seed:List UInt8)(hid:id.length<=64)(hi:ident.length<=64)(h0:ident.length≠0)(hs:seed.length=32):
  ∃g:GrpV,g.ok id/\zab Tryz.prog 73 [bs id,bs ident,bs seed] (.r (.tu [.ptr (grR g.v g.o g.sg),Er 0])):=by
 rcases zx3 ident seed hs hi with⟨e0,_⟩ |⟨_,w,hw,cp⟩
 ·exact absurd e0 h0
 have hf:w.leaf.fit:=⟨by have:=hw.box;omega,by have:=hw.sign;omega,by have:=hw.ident;omega,by have:=hw.parent;omega,by have:=hw.lsig;omega⟩
 have ct:=z4s w.leaf hf hw.right
 have hh:=zyi w.leaf
 have cs:=zfa seed grpS (by omega) (by decide)
 have hx:=zcp seed (sB grpS) [] (n:=32) (by omega)
 generalize labB seed (sB grpS) [] 32=x at cs hx
 have cn:=z4o x z32 ⟨id,0,hash1 w.leaf,[]⟩ ⟨by show id.length<=_;omega,by show 0<18446744073709551616;decide,by show(hash1 w.leaf).length<=_;omega,by show 0<=1000000;decide⟩ (by show id.length+(hash1 w.leaf).length+0<=_;omega) (by omega) (by decide)
 obtain⟨s,hs2,hsm,hcf⟩: ∃s:SecP,s=schS (zkn x z32 (ctxB ⟨id,0,hash1 w.leaf,[]⟩)) (ctxB ⟨id,0,hash1 w.leaf,[]⟩)/\s.sm/\s.cf.length=32:=by
  refine⟨_,rfl,z5o (zcp _ _ _ (n:=32) (by omega)) (zcp _ _ _ (n:=32) (by omega)) (zcp _ _ _ (n:=32) (by omega)),zcp _ _ _ (n:=32) (by omega)⟩
 rw[<-hs2]at cn
 have cg:=z7i s [] (by omega) (by decide)
 have hg:=zdd s.cf []
 generalize macB s.cf []=tg at cg hg
 have ci:=zvz [] tg (by decide) (by omega)
 have hit:(intB [] tg).length=32:=zdg _
 generalize intB [] tg=it at ci hit
 refine⟨⟨⟨⟨id,0,hash1 w.leaf,[]⟩,0,it,tg,s,⟨0,w.b⟩⟩,w.leaf,w.c⟩,⟨⟨by show id.length<=_;omega,by show(hash1 w.leaf).length<=_;omega,by show 0<=1000000;decide,by show it.length<=_;omega,by show tg.length<=_;omega,hsm,by show w.b.length<=_;have:=hw.b;omega⟩,rfl,rfl,hw.box,hw.sign,hw.ident,hw.parent,hw.lsig,hw.right,by show w.c.length<=_;have:=hw.c;omega⟩,?_⟩
 exact z0w id ident seed w.init w.sig w.a w.b w.c (hash1 w.leaf) x z32 tg it w.leaf s hid cp ct cs zyg cn cg ci
abbrev zkh(g:RV)(n:Int):List RV:=[g,nl,nl,nl,nl,nl,I n]
theorem z39(v:Value)(n:Nat)(hn:n<=1000000):Acts Tryz.prog 75 1 [(0, .box ((zkh nl n).map .r))] [.own 0] [(0,v)] 1 [(0, .box ((zkh nl ((n+1:Nat):Int)).map .r))] (.r (bs (zf6 (5000+(n+1))))):=by
 refine zbf (T:=Tab) mixed Tab_ok Tryz.func75 rfl (by kernel_rfl) rfl ⟨⟨_,_,rfl,rfl,zaj,zaj⟩,trivial⟩ ?_
 refine zd (m:=((n+1:Nat):Int)) (by omega) (by omega) ?_
 refine zd (m:=((5000+(n+1):Nat):Int)) (by omega) (by omega) ?_
 refine ze (zqq (z7f (5000+(n+1)) (by omega))) ?_
 exact zba (.inl rfl) [(0,0)] [(2, .r (bs (zf6 (5000+(n+1)))))] [] rfl (by repeat' (first |exact rfl |exact trivial |exact cr |exact Cv.nil _ |exact⟨rfl,rfl⟩ |refine⟨_,_,rfl,?_,?_⟩ |refine⟨?_,?_⟩)) (by repeat' (first |exact rfl |exact trivial |exact cr |exact Cv.nil _ |exact⟨rfl,rfl⟩ |refine⟨_,_,rfl,?_,?_⟩ |refine⟨?_,?_⟩)) ⟨⟨1000000,rfl⟩,trivial⟩ (cr)
theorem z7c:zab Tryz.prog 74 [] (.r (bs [99,108,117,98])):=by
 refine zaa (T:=Tab) mixed Tab_ok Tryz.func74 rfl (by kernel_rfl) ?_
 refine zw ?_
 exact cr
abbrev zqd:List UInt8:=[99,108,117,98]
theorem zvo(g:List RV)(c:zab Tryz.prog 73 [bs zqd,bs [9],bs (zf6 (5000+(0+1)))] (.r (.tu [.ptr g,Er 0]))):zab Tryz.prog 23 [] (.r (.tu [.ptr (zkh (.sl 1 1 [.ptr g]) 1), .b true])):=by
 refine zax (T:=Tab) mixed Tab_ok Tryz.func23 rfl (by kernel_rfl) ?_
 refine ze z7c ?_
 refine zw ?_
 refine zj [(0,0)] [0] (λvs _=>z39 (vs 0) 0 (by decide)) (zi rfl ⟨_,_,rfl,rfl,rfl⟩) rfl ⟨⟨_,_,rfl,cr,_,_,rfl,cr,_,_,rfl,cr,_,_,rfl,cr,_,_,rfl,cr,_,_,rfl,cr,_,_,rfl,cr,rfl⟩,trivial⟩ ⟨zac,trivial⟩ ?_
 refine ze c ?_
 refine zw ?_
 refine zd (m:=0) rfl (by decide) ?_
 refine zt rfl ?_
 refine⟨_,Sub.trans (zad [(0,0)] (S':=⟨[(0, .own 0),(1, .r (.b true))],[(0,some (.box ((zkh (.sl 1 1 [.ptr g]) 1).map .r)))],1⟩) rfl (by repeat' (first |exact rfl |exact trivial |exact cr |exact Cv.nil _ |exact⟨rfl,rfl⟩ |refine⟨_,_,rfl,?_,?_⟩ |refine⟨?_,?_⟩)) (by repeat' (first |exact rfl |exact trivial |exact cr |exact Cv.nil _ |exact⟨rfl,rfl⟩ |refine⟨_,_,rfl,?_,?_⟩ |refine⟨?_,?_⟩))) (zdo (t:=0) (zkh (.sl 1 1 [.ptr g]) 1) rfl rfl),?_⟩
 exact⟨_,rfl,cr⟩
theorem zxu: ∃g:GrpV,g.ok zqd/\zab Tryz.prog 23 [] (.r (.tu [.ptr (zkh (.sl 1 1 [.ptr (grR g.v g.o g.sg)]) 1), .b true])):=by
 obtain⟨g,hg,c⟩:=z7b zqd [9] (zf6 (5000+(0+1))) (by decide) (by decide) (by decide) (zpc _)
 exact⟨g,hg,zvo _ c⟩
theorem zxs:zab Tryz.prog 14 [] (.r (.b true)):=by
 obtain⟨g,hg,cb⟩:=zxu
 have hf:=hg.fit
 have ht:g.v.ctx.tree=hash1 g.o:=by rw[hg.ctx]
 have c1:=z4p g.v g.o g.sg hg.sm hf hg.sg
 have c2:=z4d g.v g.o g.sg hg.sm hg.own hf hg.right hg.sg
 have c3:=z9f g.v g.o g.sg hg.sm hg.own ht hf hg.right hg.sg
 have c4:=z0v g.v g.o g.sg hg.sm hf hg.sg
 refine zaa (T:=Tab) mixed Tab_ok Tryz.func14 rfl (by kernel_rfl) ?_
 refine ze cb ?_
 refine zu rfl (zq ?_)
 refine zg rfl ?_
 refine zm i00 i01 rfl ?_
 refine zg rfl ?_
 refine ze c1 ?_
 refine ze c2 ?_
 refine za rfl rfl ?_
 refine ze c3 ?_
 refine zd (m:=0) rfl (by decide) ?_
 refine zt rfl ?_
 refine zd (m:=0) rfl (by decide) ?_
 refine zt rfl ?_
 refine ze c4 ?_
 refine Vsem.fieldN Tab_ok rfl rfl rfl rfl rfl rfl rfl (Nat.le_of_ble_eq_true rfl) rfl ?_
 refine Vsem.field Tab_ok rfl rfl rfl rfl rfl rfl rfl rfl ?_
 refine zt rfl ?_
 exact cr
end
section
theorem zs5(p:List RV):zab Tryz.prog 15 [np, .ag p] (.r (.tu [bs [],Er 2])):=by
 refine zaa (T:=Tab) mixed Tab_ok Tryz.func15 rfl (by kernel_rfl) ?_
 refine Vfun.nn _ rfl rfl rfl Tryz.underlying44 (zp ?_)
 exact⟨_,rfl,Cv.tu (zk (Cv.nil 1) (zn _))⟩
theorem zxw(p:RV):zab Tryz.prog 16 [np,p] (.r (.tu [bs [],Er 2])):=by
 refine zaa (T:=Tab) mixed Tab_ok Tryz.func16 rfl (by kernel_rfl) ?_
 refine Vfun.nn _ rfl rfl rfl Tryz.underlying44 (zp ?_)
 exact⟨_,rfl,Cv.tu (zk (Cv.nil 1) (zn _))⟩
theorem zvq(p:RV):zab Tryz.prog 17 [np,p] (.r (.tu [bs [],Er 2])):=by
 refine zaa (T:=Tab) mixed Tab_ok Tryz.func17 rfl (by kernel_rfl) ?_
 refine Vfun.nn _ rfl rfl rfl Tryz.underlying44 (zp ?_)
 exact⟨_,rfl,Cv.tu (zk (Cv.nil 1) (zn _))⟩
theorem zvr(p q r:RV):zab Tryz.prog 18 [np,p,q,r] (.r (.tu [bs [],Er 2])):=by
 refine zaa (T:=Tab) mixed Tab_ok Tryz.func18 rfl (by kernel_rfl) ?_
 refine Vfun.nn _ rfl rfl rfl Tryz.underlying44 (zp ?_)
 exact⟨_,rfl,Cv.tu (zk (Cv.nil 1) (zn _))⟩
theorem zs4(p:RV):zab Tryz.prog 19 [np,p] (.r (.tu [np,Er 2])):=by
 refine zaa (T:=Tab) mixed Tab_ok Tryz.func19 rfl (by kernel_rfl) ?_
 refine Vfun.nn _ rfl rfl rfl Tryz.underlying44 (zp ?_)
 exact⟨_,rfl,cr⟩
theorem zs3(p q r:RV):zab Tryz.prog 20 [np,p,q,r] (.r (Er 2)):=by
 refine zaa (T:=Tab) mixed Tab_ok Tryz.func20 rfl (by kernel_rfl) ?_
 refine Vfun.nn _ rfl rfl rfl Tryz.underlying44 (zp ?_)
 exact cr
theorem zxx:zab Tryz.prog 22 [np] (.r (.ag zsw)):=by
 refine zaa (T:=Tab) mixed Tab_ok Tryz.func22 rfl (by kernel_rfl) ?_
 refine Vfun.nn _ rfl rfl rfl Tryz.underlying44 (zp ?_)
 refine za rfl rfl ?_
 exact cr
set_option maxHeartbeats 1000000 in
theorem zvs(b c d:List UInt8)(p:PropP):zab Tryz.prog 4 [bs b,bs c,bs d, .ag p.c] (.r (.b true)):=by
 refine zaa (T:=Tab) mixed Tab_ok Tryz.func4 rfl (by kernel_rfl) ?_
 refine ze zxs ?_
 refine zu rfl (zq ?_)
 refine za rfl rfl ?_
 refine ze (zs5 _) ?_
 refine ze (zxw _) ?_
 refine ze (zvq _) ?_
 refine ze (zvr _ _ _) ?_
 refine ze (zs4 _) ?_
 refine zd (m:=2) rfl (by decide) ?_
 refine zt rfl ?_
 refine zd (m:=2) rfl (by decide) ?_
 refine zt rfl ?_
 refine zd (m:=2) rfl (by decide) ?_
 refine zt rfl ?_
 refine zd (m:=2) rfl (by decide) ?_
 refine zt rfl ?_
 refine zd (m:=2) rfl (by decide) ?_
 refine zt rfl ?_
 refine ze (zs3 _ _ _) ?_
 refine zd (m:=2) rfl (by decide) ?_
 refine zt rfl ?_
 refine zd (m:=0) rfl (by decide) ?_
 refine zd (m:=0) rfl (by decide) ?_
 refine zd (m:=0) rfl (by decide) ?_
 refine zt rfl ?_
 refine Vfun.nn _ rfl rfl rfl Tryz.underlying48 ?_
 refine ze zxx ?_
 refine ze zv3 ?_
 exact cr
end
section
open Go.ChangeShapes Go.WideShapes Go.ChangeAt Go.RowKit
def lightNilC0:List Nat:=[4,14,23,74,75,157,73,156,54,125,83,171,172,87,181,288,229,135,239,106,207,327,206,324,325,326,428,430,496,429,113,212,334,335,211,213,337,338,438,491,336,437,402,480,436,497,417,482,412,490,434,435,481,413,493,535,552,559,553,492,262,309,403,416]
def lightNilC1:List Nat:=[405,483,420,431,406,379,329,308,411,485,486,488,487,532,489,533,534,551,307,407,410,432,433,409,408,484,310,414,415,418,419,330,114,214,61,215,216,179,109,196,210,332,331,333,263,298,301,397,380,322,104,103,323,101,37,100,85,174,173,281,390,391,175,86]
def lightNilC2:List Nat:=[178,285,286,287,180,176,282,392,283,177,227,345,346,218,340,439,284,393,344,394,203,235,169,280,170,236,108,131,238,129,354,237,355,132,40,44,107,208,328,133,158,124,228,209,47,92,188,189,299,350,273,65,300,190,192,247,362,302,303,191,304,398,478,399]
def lightNilC3:List Nat:=[400,401,479,110,112,105,204,205,111,33,89,90,183,185,289,356,357,358,242,182,184,139,240,241,186,290,291,359,187,293,294,292,138,243,295,395,296,297,396,91,88,140,43,27,77,93,193,160,159,264,265,382,381,347,266,84,78,162,269,161,267,383,268,343]
def lightNilC4:List Nat:=[448,449,384,470,471,529,472,499,500,473,530,531,550,474,475,476,477,163,270,62,136,137,45,57,79,164,165,271,385,272,130,22,15,46,94,194,59,134,60,16,49,115,48,50,116,17,52,51,117,53,81,118,217,339,219,341,220,119,221,120,121,122,222,342]
def lightNilC5:List Nat:=[440,441,498,442,443,501,502,537,444,445,446,447,223,224,123,226,225,56,55,126,231,232,349,348,450,230,128,127,234,233,351,451,503,538,504,452,352,353,453,454,505,506,539,555,556,540,541,455,507,508,509,510,58,38,102,39,18,63,19,64,141,244,360,66]
def lightNilC6:List Nat:=[20,67,142,245,361,457,456,458,459,68,143,95,195,305,404,306,312,311,144,69,145,70,97,197,313,314,147,146,246,148,248,250,249,149,251,150,252,363,460,168,276,277,278,279,275,461,253,364,462,511,512,542,513,514,543,544,557,515,516,517,518,365,366,463]
def lightNilC7:List Nat:=[519,520,545,521,522,546,547,558,523,524,525,526,367,30,82,167,274,386,387,388,389,151,254,255,369,370,368,464,256,371,465,527,466,372,374,468,467,528,548,549,373,21,71,152,12,41,257,375,258,376,153,155,260,261,154,259,377,469,378,72]
def lightNilC:List Nat:=lightNilC0++(lightNilC1++(lightNilC2++(lightNilC3++(lightNilC4++(lightNilC5++(lightNilC6++(lightNilC7)))))))
theorem zgt:Tryz.prog.closure 4=lightNilC:=by rw[zxa];kernel_rfl
noncomputable def lightNilIn (g:Nat):Option String:=(Tryz.prog.funcs[g]?).bind λfn=>if fn.ours||fn.body.isNone||fn.name== "runtime.NumGoroutine" then some fn.name else none
theorem zte:(Rows.lightNilRow.inPlace==Tryz.prog.inPlace 4)=true:=by
 unfold Program.inPlace
 rw[zgt]
 have h:lightNilC.filterMap lightNilIn=Rows.lightNilRow.inPlace:=by kernel_rfl
 exact beq_iff_eq.2 h.symm
theorem zlb:Tryz.prog.unfollowed 4=true:=by
 unfold Program.unfollowed
 rw[zgt]
 exact List.any_eq_true.2 ⟨402,List.contains_iff_mem.1 (by kernel_rfl),by kernel_rfl⟩
theorem zri:(Rows.lightNilRow.unfollowed==Tryz.prog.unfollowed 4)=true:=by rw[zlb];rfl
theorem zrh:(Rows.lightNilRow.recurses==Tryz.prog.recurses 4)=true:=by unfold Program.recurses;rw[zlb];rfl
noncomputable def lightNilGn (g:Nat):List Nat:=((Tryz.prog.funcs[g]?).bind (·.body)).elim [] Code.globalsNamed
theorem zq9:lightNilC0.flatMap lightNilGn=[]:=by kernel_rfl
theorem zra:lightNilC1.flatMap lightNilGn=[]:=by kernel_rfl
theorem zrb:lightNilC2.flatMap lightNilGn=[]:=by kernel_rfl
theorem zrc:lightNilC3.flatMap lightNilGn=[]:=by kernel_rfl
theorem zrd:lightNilC4.flatMap lightNilGn=[]:=by kernel_rfl
theorem zre:lightNilC5.flatMap lightNilGn=[]:=by kernel_rfl
theorem zrf:lightNilC6.flatMap lightNilGn=[]:=by kernel_rfl
theorem zrg:lightNilC7.flatMap lightNilGn=[]:=by kernel_rfl
theorem ztd:lightNilC.flatMap lightNilGn=[]:=by simp only[lightNilC,List.flatMap_append,zq9,zra,zrb,zrc,zrd,zre,zrf,zrg,List.append_nil]
theorem ztf:(Rows.lightNilRow.named==Tryz.prog.varsNamed 4)=true:=by
 unfold Program.varsNamed
 rw[zgt]
 have h:(lightNilC.filterMap λg=>(Tryz.prog.funcs[g]?).bind λfn=>if fn.body.isNone then entryReads.lookup fn.name else none)=[]:=by kernel_rfl
 have k:(lightNilC.flatMap λg=>((Tryz.prog.funcs[g]?).bind (·.body)).elim [] Code.globalsNamed)=[]:=ztd
 rw[h,k];rfl
theorem zmz:joinedFacts Tryz.prog 4 Tryz.f4 Rows.lightNilSpec Rows.lightNilRow=true:=by
 unfold joinedFacts
 repeat' with_reducible apply andI
 all_goals first
  |with_reducible exact zmw
  |with_reducible exact zwd
  |with_reducible exact ztm
  |with_reducible exact zte
  |with_reducible exact zri
  |with_reducible exact zrh
  |with_reducible exact ztf
  |(rw[zwb];kernel_rfl)
  |kernel_rfl
end
section
open Go.ChangeShapes Go.WideShapes Go.ChangeAt Go.RowKit
set_option maxRecDepth 100000 in
theorem zm0(os:Os)(started:os.Started)(H:Type)(enc:TypeId×Value->H):
  ReturnsInHanded {} Tryz.checked os 4 .any (Rows.lightNilSpec.pre6 enc Tryz.prog Tryz.f4 Rows.lightNilRow.domain false) (Rows.lightNilSpec.post enc Tryz.prog Tryz.f4 false true false false):=by
 refine returnsInHanded_of_change_sized (C:=Tryz.checked) z1o started (by kernel_rfl) Tryz.func4
  (ChangeSpec.witness6 (enc:=enc) (C:=Tryz.checked) false ⟨#[], #[.slice none 0 0, .slice none 0 0, .slice none 0 0, .agg #[.int .u8 0, .slice none 0 0, .slice none 0 0, .slice none 0 0, .slice none 0 0, .int .u8 0, .slice none 0 0, .slice none 0 0, .slice none 0 0, .slice none 0 0, .slice none 0 0, .slice none 0 0, .int .u8 0, .slice none 0 0, .slice none 0 0, .int .i64 0]],[]⟩ 8 (by kernel_rfl) (by kernel_rfl) (by kernel_rfl) (by kernel_rfl)) ?_
 intro W base args ds gs before hval0 hW hcnd hsz0 _
 have hval: ∀(j:Nat) t v,Tryz.f4.params[j]?=some t->args[j]?=some v->Value.okWide Tryz.prog W .any base t v:=hval0
 have hW':=hW
 obtain⟨p,q,hA0,hV,rfl,hfz,hnd⟩:=hW
 have hA:DataW.TrodAll enc Tryz.prog W 0 (λ_=>true) true Tryz.f4.params.toList args.toList ds p:=hA0
 rw[Tryz.params4]at hA hval
 obtain⟨v0,vs0,d0,ds0,p0,q0,hargs,rfl,rfl,h0,r0⟩:=trodAll_cons hA
 obtain⟨v1,vs1,d1,ds1,p1,q1,rfl,rfl,rfl,h1,r1⟩:=trodAll_cons r0
 obtain⟨v2,vs2,d2,ds2,p2,q2,rfl,rfl,rfl,h2,r2⟩:=trodAll_cons r1
 obtain⟨v3,vs3,d3,ds3,p3,q3,rfl,rfl,rfl,h3,r3⟩:=trodAll_cons r2
 obtain⟨rfl,rfl,rfl⟩:=trodAll_nil r3
 obtain rfl:args= #[v0,v1,v2,v3]:=by cases args;simp_all
 obtain⟨rfl,rfl⟩:=trodVars_none hV
 have lt0: ∀x∈p0,x.block<W.heap.size:=by obtain⟨m,hm⟩:=h0;exact DataW.trod_lt m _ _ _ hm
 obtain⟨l0,hv0⟩:=zln (hval 0 22 v0 rfl rfl) h0
 have lt1: ∀x∈p1,x.block<W.heap.size:=by obtain⟨m,hm⟩:=h1;exact DataW.trod_lt m _ _ _ hm
 obtain⟨l1,hv1⟩:=zln (hval 1 22 v1 rfl rfl) h1
 have lt2: ∀x∈p2,x.block<W.heap.size:=by obtain⟨m,hm⟩:=h2;exact DataW.trod_lt m _ _ _ hm
 obtain⟨l2,hv2⟩:=zln (hval 2 22 v2 rfl rfl) h2
 have lt3: ∀x∈p3,x.block<W.heap.size:=by obtain⟨m,hm⟩:=h3;exact DataW.trod_lt m _ _ _ hm
 obtain⟨l3,i3,hv3⟩:=z5h (hval 3 43 v3 rfl rfl) h3
 clear hA0 hval0 hsz0
 refine((zvs l0 l1 l2 l3).2 W (allK W) [v0,v1,v2,v3] (by simp only[RV.partsAt];exact⟨_,_,rfl,hv0,_,_,rfl,hv1,_,_,rfl,hv2,_,_,rfl,hv3,rfl⟩)).mono λe W' ⟨v,he,bel,k',_,hr⟩=>?_
 have hr':v= .bool true:=by simpa[Res.at_,RV.at_]using hr
 subst hr';subst he
 exact⟨_,rfl,_,_,_,[],_,[],hW',trodAll_mk1 (shut_bool Tryz.underlying4 _),(trodAll_cons_mk (Below.trod zif (by kernel_rfl) (of_decide_eq_true (by kernel_rfl)) h0 bel lt0) (trodAll_cons_mk (Below.trod zif (by kernel_rfl) (of_decide_eq_true (by kernel_rfl)) h1 bel lt1) (trodAll_cons_mk (Below.trod zif (by kernel_rfl) (of_decide_eq_true (by kernel_rfl)) h2 bel lt2) (trodAll_cons_mk (Below.trod zif (by kernel_rfl) (of_decide_eq_true (by kernel_rfl)) h3 bel lt3) trodAll_mk0)))),rfl,bel.frame _,λh=>by cases h⟩
theorem lightNil_holds:Rows.LightNilSaid:=
 OpenClaim.holds_of_wide 4 Tryz.f4 rfl rfl rfl rfl rfl rfl rfl ⟨rfl,rfl,rfl,rfl,rfl⟩ rfl rfl rfl rfl rfl (by kernel_rfl) Tryz.func4 zmz
  (of_decide_eq_true (by kernel_rfl)) (by unfold Func.isWrapper;first |(rw[if_pos (by decide+kernel)];kernel_rfl) |(rw[if_neg (by decide+kernel)];exact⟨rfl,rfl⟩))
  (λos started H enc _=>zm0 os started H enc)
#print axioms lightNil_holds
end
end Go.Proofs.YtlofklpckddkfaaGreat.Sx
