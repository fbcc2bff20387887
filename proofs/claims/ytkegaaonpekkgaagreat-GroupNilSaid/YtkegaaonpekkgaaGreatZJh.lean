import Derived.Test.YtkegaaonpekkgaaGreatZJk
import Derived.Test.YtkegaaonpekkgaaGreatZHa
import Derived.Test.YtkegaaonpekkgaaGreatZHz
import Derived.Test.YtkegaaonpekkgaaGreatZTc
import Derived.Test.YtkegaaonpekkgaaGreatZTd
namespace Go.Proofs.YtkegaaonpekkgaaGreat.Sx
open Go.RowKit
abbrev zcib(ol:Leaf)(com pl:List UInt8):List RV:=[bs ol.box,bs ol.sign,bs ol.ident,U8 ol.src,bs ol.parent,bs ol.sig,nl,nods [L1 ol],bs com,keyR [⟨0,pl⟩],nl]
abbrev v0(x:CtxP)(it tg:List UInt8)(sc:SecP)(ky:KeyP):ViewP:=⟨x,0,it,tg,sc,ky⟩
abbrev zvb:ByteArray:=⟨#[98,111,120,101,115]⟩
abbrev z11:List TF:=[.r nl, .r nl, .r nl, .r (U8 0), .r nl, .r nl, .r nl, .r nl, .r nl, .r nl, .r nl]
abbrev t11(com pl:List UInt8):List TF:=[.r nl, .r nl, .r nl, .r (U8 0), .r nl, .r nl, .r nl, .own 6, .r (bs com), .r (keyR [⟨0,pl⟩]), .r nl]
set_option maxRecDepth 20000 in
set_option maxHeartbeats 1000000 in
theorem z9z(x:CtxP)(it tg:List UInt8)(sc:SecP)(ky:KeyP)(o ol:Leaf)(sg seed com pl s1 s2 cx:List UInt8)(ho:o.right=true)(hol:ol.right=true)
  (c1:aG 182 [nods [L1 o],I 0] (.r (.tu [.ag (zcd o).c,Er 0])))
  (c2:aG 45 [bs seed,Str ⟨#[112,97,116,104]⟩] (.r (bs s1)))
  (c3:aG 183 [.ag (zcd o).c,bs s1,bs sg,bs x.group] (.r (.tu [.ag (MadeP.c ⟨zcd ol,ol,[],[⟨0,pl⟩],[],com⟩),Er 0])))
  (c4:aG 45 [bs seed,Str zvb] (.r (bs s2)))
  (c5:aG 186 [.ag (v0 x it tg sc ky).c,nods [L1 ol]] (.r (bs cx)))
  (c6:aG 185 [.ag (MadeP.c ⟨zcd ol,ol,[],[⟨0,pl⟩],[],com⟩),nl,bs s2,bs cx] (.r (.tu [.ag (wayR ol),Er 0]))):
  aG 108 [.ag (stR (v0 x it tg sc ky) o sg), .ag [nods [L1 o],nl,nl, .b true], .b true,bs seed] (.r (.tu [.ag (zcib ol com pl),Er 0])):=by
 have c7:=z9o o (zcy ho)
 have c8:=zy7 o (zcy ho) ho
 refine za1 (T:=Tab) mixed Tab_ok Tryz.func108 rfl (by kernel_rfl) ?_
 refine za rfl rfl ?_
 refine zu rfl (zq ?_)
 refine ze c1 ?_
 refine Vdraw.mk' rfl ?_
 refine za rfl rfl ?_
 refine ze c2 ?_
 refine ze c3 ?_
 refine zu rfl (zq ?_)
 refine Vdraw.code (Vcode.bar2 mixed Tab_ok 7 [0,1,2,3,4,5,6,8,7,9] [0,1,2,3,4,5,6,8,7,9] [0] [0,1]
  ⟨[(3, .r (bs seed)),(4, .own 0),(5, .own 1),(8, .own 2),(10, .own 3),(13, .own 5),(14, .r (Er 0)),(15, .own 7)],[(0,some (.box ((stR (v0 x it tg sc ky) o sg).map .r))),(1,some (.box [.r (nods [L1 o]), .r nl, .r nl, .r (.b true)])),(2,some (.box z11)),(3,some (.box ((v0 x it tg sc ky).c.map .r))),(5,some (.box ((MadeP.c ⟨zcd ol,ol,[],[⟨0,pl⟩],[],com⟩).map .r))),(6,some (nodO (L1 o).c 1)),(7,some (.box (t11 com pl)))],8⟩ (by kernel_rfl) ?_ ?_)
 ·refine ze c7 ?_
  refine⟨?_,?_⟩
  ·refine Vstep.nmS 6 1000006 rfl (by decide) λb c=>Vstep.sub (zkf (id:=6) (t:=61) (tn:=1000006) rfl rfl) (Vstep.val Tab_ok ?_)
   refine Sub.trans (zjc (id:=7) (j:=6) (tn:=1000006) (i:=7) rfl rfl rfl) (zad [(0,0),(1,1),(2,2),(3,3),(5,5),(6,6),(7,7)] rfl (by repeat' (first|exact rfl|exact trivial|exact cr|exact zn _|exact Cv.nil _|exact⟨rfl,rfl⟩|refine⟨_,_,rfl,?_,?_⟩|refine⟨?_,?_⟩)) (by repeat' (first|exact rfl|exact trivial|exact cr|exact zn _|exact Cv.nil _|exact⟨rfl,rfl⟩|refine⟨_,_,rfl,?_,?_⟩|refine⟨?_,?_⟩)))
  ·refine Vstep.nmS 6 1000006 rfl (by decide) λb c=>Vstep.sub (zkf (id:=6) (t:=61) (tn:=1000006) rfl rfl) (Vstep.val Tab_ok ?_)
   refine Sub.trans (zjc (id:=8) (j:=6) (tn:=1000006) (i:=7) rfl rfl rfl) (zad [(0,0),(1,1),(2,2),(3,3),(5,5),(6,6),(7,8)] rfl (by repeat' (first|exact rfl|exact trivial|exact cr|exact zn _|exact Cv.nil _|exact⟨rfl,rfl⟩|refine⟨_,_,rfl,?_,?_⟩|refine⟨?_,?_⟩)) (by repeat' (first|exact rfl|exact trivial|exact cr|exact zn _|exact Cv.nil _|exact⟨rfl,rfl⟩|refine⟨_,_,rfl,?_,?_⟩|refine⟨?_,?_⟩)))
 refine zy (λi:Bool=>⟨[(3, .r (bs seed)),(4, .own 0),(5, .own 1),(8, .own 2),(10, .own 3),(13, .own 5),(14, .r (Er 0)),(15, .own 7),(69, .r (zq6 (zcd ol).opn)),(70, .r (I 1)),(71, .r (cond i (I 1) (I 0)))],[(0,some (.box ((stR (v0 x it tg sc ky) o sg).map .r))),(1,some (.box [.r (nods [L1 o]), .r nl, .r nl, .r (.b true)])),(2,some (.box z11)),(3,some (.box ((v0 x it tg sc ky).c.map .r))),(5,some (.box ((MadeP.c ⟨zcd ol,ol,[],[⟨0,pl⟩],[],com⟩).map .r))),(6,some (nodO (cond i (L1 ol).c (L1 o).c) 1)),(7,some (.box (t11 com pl)))],8⟩) (λ_=>True) (λi=>cond i 0 1) false trivial
  (zad [(0,0),(1,1),(2,2),(3,3),(5,5),(6,6),(7,7)] rfl (by repeat' (first|exact rfl|exact trivial|exact cr|exact zn _|exact Cv.nil _|exact⟨rfl,rfl⟩|refine⟨_,_,rfl,?_,?_⟩|refine⟨?_,?_⟩)) (by repeat' (first|exact rfl|exact trivial|exact cr|exact zn _|exact Cv.nil _|exact⟨rfl,rfl⟩|refine⟨_,_,rfl,?_,?_⟩|refine⟨?_,?_⟩))) ?_
 rintro(_ |_) _
 ·refine zt rfl (zp ?_)
  refine zm i00 i01 rfl ?_
  refine za rfl rfl ?_
  refine za rfl rfl ?_
  refine Vadr.mk' 0 rfl (by decide) ?_
  refine⟨(by show 0*10+10<=10;decide),(L1 ol).c,rfl,?_⟩
  refine zd (m:=1) rfl (by decide) ?_
  exact⟨true,trivial,by decide,zad [(0,0),(1,1),(2,2),(3,3),(5,5),(6,6),(7,7)] rfl (by repeat' (first|exact rfl|exact trivial|exact cr|exact zn _|exact Cv.nil _|exact⟨rfl,rfl⟩|refine⟨_,_,rfl,?_,?_⟩|refine⟨?_,?_⟩)) (by repeat' (first|exact rfl|exact trivial|exact cr|exact zn _|exact Cv.nil _|exact⟨rfl,rfl⟩|refine⟨_,_,rfl,?_,?_⟩|refine⟨?_,?_⟩))⟩
 ·refine zu rfl (zq ?_)
  refine ze c8 ?_
  refine zy (λ_:Unit=>⟨[(3, .r (bs seed)),(4, .own 0),(5, .own 1),(8, .own 2),(10, .own 3),(13, .own 5),(14, .r (Er 0)),(15, .own 7),(88, .r (I 0)),(89, .r (I 0))],[(0,some (.box ((stR (v0 x it tg sc ky) o sg).map .r))),(1,some (.box [.r (nods [L1 o]), .r nl, .r nl, .r (.b true)])),(2,some (.box z11)),(3,some (.box ((v0 x it tg sc ky).c.map .r))),(5,some (.box ((MadeP.c ⟨zcd ol,ol,[],[⟨0,pl⟩],[],com⟩).map .r))),(6,some (.ch 40 10 1 (L1 ol).c true)),(7,some (.box (t11 com pl)))],8⟩) (λ_=>True) (λ_=>0) () trivial
   (Sub.trans (zbb (id:=6) rfl) (zad [(0,0),(1,1),(2,2),(3,3),(5,5),(6,6),(7,7)] rfl (by repeat' (first|exact rfl|exact trivial|exact cr|exact zn _|exact Cv.nil _|exact⟨rfl,rfl⟩|refine⟨_,_,rfl,?_,?_⟩|refine⟨?_,?_⟩)) (by repeat' (first|exact rfl|exact trivial|exact cr|exact zn _|exact Cv.nil _|exact⟨rfl,rfl⟩|refine⟨_,_,rfl,?_,?_⟩|refine⟨?_,?_⟩)))) ?_
  rintro _ _
  refine zu rfl (zq ?_)
  refine Vdraw.mk' rfl ?_
  refine za rfl rfl ?_
  refine ze c4 ?_
  refine za rfl rfl ?_
  refine ze c5 ?_
  refine ze c6 ?_
  refine za rfl rfl ?_
  exact⟨_,zo _,za rfl rfl ⟨_,rfl,cr⟩⟩
abbrev grS(v:ViewP)(o:Leaf)(sg cm:List UInt8)(w:ViewP)(ol:Leaf):List RV:=[bs v.ctx.group, .i .u64 v.ctx.epoch,bs v.ctx.tree,bs v.ctx.trans,I v.own,bs v.interim,bs v.tag,bs v.sec.jn,bs v.sec.wl,bs v.sec.ep,bs v.sec.sd,bs v.sec.en,bs v.sec.ex,bs v.sec.au,bs v.sec.xt,bs v.sec.cf,bs v.sec.mb,bs v.sec.rs,bs v.sec.it,keyR [v.key],nods [L1 o],bs sg,ns,ns,bs cm,bs w.ctx.group, .i .u64 w.ctx.epoch,bs w.ctx.tree,bs w.ctx.trans,I w.own,bs w.interim,bs w.tag,bs w.sec.jn,bs w.sec.wl,bs w.sec.ep,bs w.sec.sd,bs w.sec.en,bs w.sec.ex,bs w.sec.au,bs w.sec.xt,bs w.sec.cf,bs w.sec.mb,bs w.sec.rs,bs w.sec.it,keyR [w.key],nods [L1 ol],bs sg,ns,ns]
abbrev grN(w:ViewP)(ol:Leaf)(sg:List UInt8):List RV:=[bs w.ctx.group, .i .u64 w.ctx.epoch,bs w.ctx.tree,bs w.ctx.trans,I w.own,bs w.interim,bs w.tag,bs w.sec.jn,bs w.sec.wl,bs w.sec.ep,bs w.sec.sd,bs w.sec.en,bs w.sec.ex,bs w.sec.au,bs w.sec.xt,bs w.sec.cf,bs w.sec.mb,bs w.sec.rs,bs w.sec.it,keyR [w.key],nods [L1 ol],bs sg,ns,ns,ns,ns, .i .u64 0,ns,ns,I 0,ns,ns,ns,ns,ns,ns,ns,ns,ns,ns,ns,ns,ns,ns,ns,ns,ns,ns,ns]
set_option maxRecDepth 40000 in
set_option maxHeartbeats 2000000 in
theorem zv3(q:Value)(x:CtxP)(it tg:List UInt8)(sc:SecP)(ky:KeyP)(o ol:Leaf)(sg seed com pl h tx mb cm:List UInt8)(M:MsgP)(w:ViewP)(hs:seed.length=32)(he:x.epoch≠18446744073709551615)(hei:x.epoch<18446744073709551616)(hcm:cm.length<=1048576)(ho:o.right=true)
  (c4:aG 108 [.ag (stR (v0 x it tg sc ky) o sg), .ag [nods [L1 o],nl,nl, .b true], .b true,bs seed] (.r (.tu [.ag (zcib ol com pl),Er 0])))
  (c5:aG 21 [.ag (v0 x it tg sc ky).c,bs sg, .ag (wrt0 0 ol)] (.r (.tu [.ag M.c,Er 0])))
  (c6:aG 43 [nods [L1 ol]] (.r (.tu [bs h,Er 0])))
  (c7:aG 34 [.ag (v0 x it tg sc ky).c, .ag M.c,bs h,bs com,keyR [⟨0,pl⟩]] (.r (.ag w.c)))
  (c8:aG 77 [.ag (MsgP.c ⟨M.group,M.epoch,M.frm,M.lf,M.sig,w.tag,M.mem⟩), .ag x.c] (.r (.tu [bs tx,Er 0])))
  (c9:aG 78 [.ag sc.c,bs tx] (.r (bs mb)))
  (c10:aG 104 [.ag (MsgP.c ⟨M.group,M.epoch,M.frm,M.lf,M.sig,w.tag,mb⟩)] (.r (.tu [bs cm,Er 0])))
  (c11:aG 42 [bs cm] (.r (bs cm)))
  (c12:aG 69 [.ag (stR w ol sg)] (.r (.ag (stR w ol sg)))):
  Acts aP 38 1 [(0, .box ((grR (v0 x it tg sc ky) o sg).map .r))] [.own 0, .r nl, .r (.b false), .r (bs seed)] [(0,q)] 1 [(0, .box ((grS (v0 x it tg sc ky) o sg cm w ol).map .r))] (.r (.tu [bs cm,nl,Er 0])):=by
 have c1:=zdrb (v0 x it tg sc ky) o sg
 have c2:=z54 0
 have c3:=z5n o (zcy ho) ho x.group
 refine zag (T:=Tab) mixed Tab_ok Tryz.func38 rfl (by kernel_rfl) rfl ⟨⟨_,_,rfl,rfl,zah,zah⟩,trivial⟩ ?_
 refine⟨⟨_,Tryz.underlying24⟩,?_⟩
 refine zq ?_
 refine zu (by simp only[zb];omega) (zq ?_)
 refine zu (by simp only[zb];omega) (zq ?_)
 refine za rfl rfl ?_
 refine aV ?_
 refine za rfl rfl ?_
 refine ze c1 ?_
 refine za rfl rfl ?_
 refine ze c2 ?_
 refine ze c3 ?_
 refine zu rfl (zq ?_)
 refine za rfl rfl ?_
 refine za rfl rfl ?_
 refine ze c4 ?_
 refine zu rfl (zq ?_)
 refine za rfl rfl ?_
 refine za rfl rfl ?_
 refine za rfl rfl ?_
 refine ze c5 ?_
 refine zu rfl (zq ?_)
 refine ze c6 ?_
 refine za rfl rfl ?_
 refine za rfl rfl ?_
 refine ze c7 ?_
 refine za rfl rfl ?_
 refine za rfl rfl ?_
 refine ze c8 ?_
 refine za rfl rfl ?_
 refine ze c9 ?_
 refine za rfl rfl ?_
 refine ze c10 ?_
 refine zu rfl (zq ?_)
 refine zu (by simp only[zb];omega) (zq ?_)
 refine zu rfl (zq ?_)
 refine ze c11 ?_
 refine za rfl rfl ?_
 refine ze c12 ?_
 exact zal (.inl rfl) [(0,0)] [(8, .r (bs cm)),(9, .r nl),(10, .r (Er 0))] [] rfl (by repeat' (first|exact rfl|exact trivial|exact cr|exact zn _|exact Cv.nil _|exact⟨rfl,rfl⟩|refine⟨_,_,rfl,?_,?_⟩|refine⟨?_,?_⟩)) ⟨(by repeat' (first|exact rfl|exact trivial|exact cr|exact zn _|exact Cv.nil _|exact⟨rfl,rfl⟩|refine⟨_,_,rfl,?_,?_⟩|refine⟨?_,?_⟩)),trivial⟩ ⟨⟨1000000,rfl⟩,trivial⟩ ⟨_,rfl,cr⟩
set_option maxRecDepth 40000 in
set_option maxHeartbeats 2000000 in
theorem zub(q:Value)(x:CtxP)(it tg:List UInt8)(sc:SecP)(ky:KeyP)(o ol:Leaf)(sg cm:List UInt8)(M:MsgP)(w:ViewP)(he:M.epoch≠18446744073709551615)(hei:M.epoch<18446744073709551616)(hfr:M.frm=0)(hc0:0<cm.length)
  (c1:aG 111 [bs cm] (.r (.tu [.ag M.c,Er 0])))
  (c2:aG 90 [.ag (v0 x it tg sc ky).c, .ag M.c] (.r (Er 0)))
  (c3:aG 112 [nods [L1 o],I (M.frm:Int)] (.r (.tu [.ag o.c, .b true])))
  (c4:aG 28 [.ag (v0 x it tg sc ky).c, .ag M.c, .ag o.c] (.r (Er 0)))
  (c5:aG 114 [bs cm,bs cm] (.r (.b true))):
  Acts aP 40 1 [(0, .box ((grS (v0 x it tg sc ky) o sg cm w ol).map .r))] [.own 0, .r (bs cm)] [(0,q)] 1 [(0, .box ((grN w ol sg).map .r))] (.r (Er 0)):=by
 refine zag (T:=Tab) mixed Tab_ok Tryz.func40 rfl (by kernel_rfl) rfl ⟨⟨_,_,rfl,rfl,zah,zah⟩,trivial⟩ ?_
 refine⟨⟨_,Tryz.underlying24⟩,?_⟩
 refine zq ?_
 refine ze c1 ?_
 refine zu rfl (zq ?_)
 refine aV ?_
 refine za rfl rfl ?_
 refine za rfl rfl ?_
 refine ze c2 ?_
 refine zu rfl (zq ?_)
 refine aV ?_
 refine ze c3 ?_
 refine zu rfl (zq ?_)
 refine aV ?_
 refine za rfl rfl ?_
 refine za rfl rfl ?_
 refine za rfl rfl ?_
 refine ze c4 ?_
 refine zu rfl (zq ?_)
 refine zu rfl (zq ?_)
 refine zu (by simp only[zb];omega) (zq ?_)
 refine aV ?_
 refine zt (by show((M.frm:Int)==0)=true;rw[hfr];rfl) ?_
 refine zt (by simp only[zb];omega) ?_
 refine ze c5 ?_
 refine zp ?_
 refine za rfl rfl ?_
 refine za rfl rfl ?_
 exact zal (.inl rfl) [(0,0)] [(4, .r (Er 0))] [] rfl (by repeat' (first|exact rfl|exact trivial|exact cr|exact zn _|exact Cv.nil _|exact⟨rfl,rfl⟩|refine⟨_,_,rfl,?_,?_⟩|refine⟨?_,?_⟩)) ⟨(by repeat' (first|exact rfl|exact trivial|exact cr|exact zn _|exact Cv.nil _|exact⟨rfl,rfl⟩|refine⟨_,_,rfl,?_,?_⟩|refine⟨?_,?_⟩)),trivial⟩ ⟨⟨1000000,rfl⟩,trivial⟩ (cr)
abbrev inL(l:List UInt8):List (Nat×Ow):=[(0, .box [.own 1, .r (Er 0)]),(1,rdO (bs l) 0)]
theorem zet(l m:List UInt8)(v0 v1:Value):zi2 (inL l) (inL m) [(0,v0),(1,v1)]:=⟨⟨_,_,rfl,rfl,zah,zah⟩,⟨_,_,rfl,rfl,zah,zah⟩,trivial⟩
theorem zh5(v0 v1:Value)(l:List UInt8):Acts aP 301 2 (inL l) [.own 0, .r (Er 0)] [(0,v0),(1,v1)] 2 (inL l) (.r (.tu [])):=by
 refine zag (T:=Tab) mixed Tab_ok Tryz.func301 rfl (by kernel_rfl) rfl (zet _ _ _ _) ?_
 refine zt rfl (zp ?_)
 exact zal (.inr rfl) [(0,0),(1,1)] [] [] rfl ⟨⟨rfl,rfl⟩,⟨rfl,rfl⟩,trivial⟩ ⟨⟨_,_,rfl,rfl,_,_,rfl,cr,rfl⟩,(aB aZ),trivial⟩ ⟨⟨1000000,rfl⟩,⟨1000001,rfl⟩,trivial⟩ ⟨_,rfl,cr⟩
theorem zdob(v0 v1:Value)(c:UInt8)(l:List UInt8)(hc:c.toNat<=1):Acts aP 414 2 (inL (c::l)) [.own 0] [(0,v0),(1,v1)] 2 (inL l) (.r (.b (decide (c.toNat=1)))):=by
 refine zag (T:=Tab) mixed Tab_ok Tryz.func414 rfl (by kernel_rfl) rfl (zet _ _ _ _) ?_
 refine zu rfl (zq ?_)
 refine zj [(0,1)] [0] (λvs _=>zc6b (vs 0) c l hc) (zi rfl ⟨_,_,rfl,rfl,rfl⟩) rfl ⟨(aB aZ),trivial⟩ ⟨zac,trivial⟩ ?_
 refine zj [(0,1)] [0] (λvs _=>zh2 (vs 0) l) (zi rfl ⟨_,_,rfl,rfl,rfl⟩) rfl ⟨(aB aZ),trivial⟩ ⟨zac,trivial⟩ ?_
 refine zj [(0,0),(1,1)] [0,1] (λvs _=>zh5 (vs 0) (vs 1) l) (zi rfl ⟨_,_,rfl,rfl,_,_,rfl,cr,rfl⟩) rfl ⟨⟨_,_,rfl,rfl,_,_,rfl,cr,rfl⟩,(aB aZ),trivial⟩ ⟨zac,zac,trivial⟩ ?_
 exact zal (.inl rfl) [(0,0),(1,1)] [(2, .r (.b (decide (c.toNat=1))))] [] rfl ⟨cr,⟨rfl,rfl⟩,⟨rfl,rfl⟩,trivial⟩ ⟨⟨_,_,rfl,rfl,_,_,rfl,cr,rfl⟩,(aB aZ),trivial⟩ ⟨⟨1000000,rfl⟩,⟨1000001,rfl⟩,trivial⟩ (cr)
theorem z5t(v0 v1:Value)(l:List UInt8)(n:Nat)(h1:n=1\/n=2\/n=4\/n=8)(hn:n<=l.length):Acts aP 305 2 (inL l) [.own 0, .r (I n)] [(0,v0),(1,v1)] 2 (inL (l.drop n)) (.r (U64 (numA 0 (l.take n)))):=by
 refine zag (T:=Tab) mixed Tab_ok Tryz.func305 rfl (by kernel_rfl) rfl (zet _ _ _ _) ?_
 refine zu rfl (zq ?_)
 refine zj [(0,1)] [0] (λvs _=>z5h (vs 0) l n h1 hn) (zi rfl ⟨_,_,rfl,rfl,_,_,rfl,cr,rfl⟩) rfl ⟨(aB aZ),trivial⟩ ⟨zac,trivial⟩ ?_
 refine zj [(0,1)] [0] (λvs _=>zh2 (vs 0) (l.drop n)) (zi rfl ⟨_,_,rfl,rfl,rfl⟩) rfl ⟨(aB aZ),trivial⟩ ⟨zac,trivial⟩ ?_
 refine zj [(0,0),(1,1)] [0,1] (λvs _=>zh5 (vs 0) (vs 1) (l.drop n)) (zi rfl ⟨_,_,rfl,rfl,_,_,rfl,cr,rfl⟩) rfl ⟨⟨_,_,rfl,rfl,_,_,rfl,cr,rfl⟩,(aB aZ),trivial⟩ ⟨zac,zac,trivial⟩ ?_
 exact zal (.inl rfl) [(0,0),(1,1)] [(4, .r (U64 (numA 0 (l.take n))))] [] rfl ⟨cr,⟨rfl,rfl⟩,⟨rfl,rfl⟩,trivial⟩ ⟨⟨_,_,rfl,rfl,_,_,rfl,cr,rfl⟩,(aB aZ),trivial⟩ ⟨⟨1000000,rfl⟩,⟨1000001,rfl⟩,trivial⟩ (cr)
theorem z5u(v0 v1:Value)(l r x:List UInt8)(hl:l.length<=8000000000000)(h:vecP l= .ok x r):Acts aP 304 2 (inL l) [.own 0] [(0,v0),(1,v1)] 2 (inL r) (.r (bs x)):=by
 refine zag (T:=Tab) mixed Tab_ok Tryz.func304 rfl (by kernel_rfl) rfl (zet _ _ _ _) ?_
 refine zu rfl (zq ?_)
 refine zj [(0,1)] [0] (λvs _=>ze0 (vs 0) l r x hl h) (zi rfl ⟨_,_,rfl,rfl,rfl⟩) rfl ⟨(aB aZ),trivial⟩ ⟨zac,trivial⟩ ?_
 refine zj [(0,1)] [0] (λvs _=>zh2 (vs 0) r) (zi rfl ⟨_,_,rfl,rfl,rfl⟩) rfl ⟨(aB aZ),trivial⟩ ⟨zac,trivial⟩ ?_
 refine zj [(0,0),(1,1)] [0,1] (λvs _=>zh5 (vs 0) (vs 1) r) (zi rfl ⟨_,_,rfl,rfl,_,_,rfl,cr,rfl⟩) rfl ⟨⟨_,_,rfl,rfl,_,_,rfl,cr,rfl⟩,(aB aZ),trivial⟩ ⟨zac,zac,trivial⟩ ?_
 exact zal (.inl rfl) [(0,0),(1,1)] [(2, .r (bs x))] [] rfl ⟨cr,⟨rfl,rfl⟩,⟨rfl,rfl⟩,trivial⟩ ⟨⟨_,_,rfl,rfl,_,_,rfl,cr,rfl⟩,(aB aZ),trivial⟩ ⟨⟨1000000,rfl⟩,⟨1000001,rfl⟩,trivial⟩ (cr)
theorem zdpb(v0 v1:Value)(l:List UInt8)(n m:Nat)(h1:n=1\/n=2\/n=4\/n=8)(hn:n<=l.length)(hm:numA 0 (l.take n)=m):Acts aP 303 2 (inL l) [.own 0, .r (I n), .r (U64 m)] [(0,v0),(1,v1)] 2 (inL (l.drop n)) (.r (.tu [])):=by
 refine zag (T:=Tab) mixed Tab_ok Tryz.func303 rfl (by kernel_rfl) rfl (zet _ _ _ _) ?_
 refine zj [(0,0),(1,1)] [0,1] (λvs _=>z5t (vs 0) (vs 1) l n h1 hn) (zi rfl ⟨_,_,rfl,rfl,_,_,rfl,cr,rfl⟩) rfl ⟨⟨_,_,rfl,rfl,_,_,rfl,cr,rfl⟩,(aB aZ),trivial⟩ ⟨zac,zac,trivial⟩ ?_
 refine zu (by simp only[zb];omega) (zq ?_)
 exact zal (.inr rfl) [(0,0),(1,1)] [] [] rfl ⟨⟨rfl,rfl⟩,⟨rfl,rfl⟩,trivial⟩ ⟨⟨_,_,rfl,rfl,_,_,rfl,cr,rfl⟩,(aB aZ),trivial⟩ ⟨⟨1000000,rfl⟩,⟨1000001,rfl⟩,trivial⟩ ⟨_,rfl,cr⟩
theorem zv7(v0 v1:Value)(l r:List UInt8)(hl:l.length<=8000000000000)(h:vecP l= .ok [] r):Acts aP 411 2 (inL l) [.own 0, .r .any] [(0,v0),(1,v1)] 2 (inL r) (.r (.tu [])):=by
 refine zag (T:=Tab) mixed Tab_ok Tryz.func411 rfl (by kernel_rfl) rfl (zet _ _ _ _) ?_
 refine zj [(0,0),(1,1)] [0,1] (λvs _=>z5u (vs 0) (vs 1) l r [] hl h) (zi rfl ⟨_,_,rfl,rfl,rfl⟩) rfl ⟨⟨_,_,rfl,rfl,_,_,rfl,cr,rfl⟩,(aB aZ),trivial⟩ ⟨zac,zac,trivial⟩ ?_
 refine ze (zof []) ?_
 refine Vstep.nmB 4 1000004 rfl λb=>Vstep.sub (zkf (id:=4) (t:=7) (tn:=1000004) rfl rfl) (Vstep.val Tab_ok ?_)
 refine zy (λ_:Nat=>⟨[(0, .own 0),(4, .own 5),(1000000, .nm 0 v0),(1000001, .nm 1 v1)],[(0,some (.box [.own 1, .r (Er 0)])),(1,some (rdO (bs r) 0)),(4,some (rdO (bs []) 0)),(5,some (.box [.own 4, .r (Er 0)]))],6⟩) (λ_=>True) (λ_=>0) 0 trivial (Sub.trans (zjc (id:=5) (j:=4) (tn:=1000004) (i:=0) rfl rfl rfl) (zad [(0,0),(1,1),(4,4),(5,5)] rfl ⟨rfl,rfl,⟨rfl,rfl⟩,⟨rfl,rfl⟩,trivial⟩ ⟨⟨_,_,rfl,rfl,_,_,rfl,cr,rfl⟩,(aB aZ),(aB aZ),⟨_,_,rfl,rfl,_,_,rfl,cr,rfl⟩,trivial⟩)) ?_
 intro _ _
 refine zt rfl ?_
 refine zj [(0,4)] [0] (λvs _=>zc8b (vs 0) []) (zi rfl ⟨_,_,rfl,rfl,rfl⟩) rfl ⟨(aB aZ),trivial⟩ ⟨zac,trivial⟩ ?_
 refine zu rfl (zq ?_)
 exact zal (.inr rfl) [(0,0),(1,1)] [] [] rfl ⟨⟨rfl,rfl⟩,⟨rfl,rfl⟩,trivial⟩ ⟨⟨_,_,rfl,rfl,_,_,rfl,cr,rfl⟩,(aB aZ),trivial⟩ ⟨⟨1000000,rfl⟩,⟨1000001,rfl⟩,trivial⟩ ⟨_,rfl,cr⟩
theorem zik(x:Nat):(UInt8.ofNat x).toNat=x%256:=by rw[UInt8.toNat_ofNat']
theorem beB1(n:Nat):beB 1 n=[UInt8.ofNat n]:=by simp[beB]
theorem beB2(n:Nat):beB 2 n=[UInt8.ofNat (n/256),UInt8.ofNat n]:=by simp[beB]
theorem beB4(n:Nat):beB 4 n=[UInt8.ofNat (n/16777216),UInt8.ofNat (n/65536),UInt8.ofNat (n/256),UInt8.ofNat n]:=by simp[beB]
theorem z3m{n:Nat}(hn:n<1073741824)(r:List UInt8):lenP (lenB n++r)= .ok n r:=by
 unfold lenB
 split
 ·rename_i h
  rw[beB1]
  have hc:(UInt8.ofNat n).toNat=n:=by rw[zik];omega
  have hm:zaw (UInt8.ofNat n)=0:=by unfold zaw;rw[hc,if_neg (by omega),if_neg (by omega)]
  have hz:zct n=1:=by unfold zct;rw[if_pos h]
  simp only[List.cons_append,List.nil_append,lenP,hm,hc,List.take_zero,List.drop_zero]
  rw[if_neg (by omega),if_neg (by omega)]
  have:numA (n%64) []=n:=by simp only[numA,List.foldl_nil];omega
  rw[this,hz]
  simp
 split
 ·rename_i h0 h
  rw[beB2]
  have hc:(UInt8.ofNat ((16384+n)/256)).toNat=64+n/256:=by rw[zik];omega
  have hd:(UInt8.ofNat (16384+n)).toNat=n%256:=by rw[zik];omega
  have hm:zaw (UInt8.ofNat ((16384+n)/256))=1:=by unfold zaw;rw[hc,if_neg (by omega),if_pos (by omega)]
  have hz:zct n=2:=by unfold zct;rw[if_neg h0,if_pos h]
  simp only[List.cons_append,List.nil_append,lenP,hm,hc]
  rw[if_neg (by omega),if_neg (by simp)]
  have:numA ((64+n/256)%64) ((UInt8.ofNat (16384+n)::r).take 1)=n:=by simp only[List.take_succ_cons,List.take_zero,numA,List.foldl_cons,List.foldl_nil,hd];omega
  rw[this,hz]
  simp
 ·rename_i h0 h1
  rw[beB4]
  have hc:(UInt8.ofNat ((2147483648+n)/16777216)).toNat=128+n/16777216:=by rw[zik];omega
  have h2:(UInt8.ofNat ((2147483648+n)/65536)).toNat=n/65536%256:=by rw[zik];omega
  have h3:(UInt8.ofNat ((2147483648+n)/256)).toNat=n/256%256:=by rw[zik];omega
  have h4:(UInt8.ofNat (2147483648+n)).toNat=n%256:=by rw[zik];omega
  have hm:zaw (UInt8.ofNat ((2147483648+n)/16777216))=3:=by unfold zaw;rw[hc,if_pos (by omega)]
  have hz:zct n=4:=by unfold zct;rw[if_neg h0,if_neg h1]
  simp only[List.cons_append,List.nil_append,lenP,hm,hc]
  rw[if_neg (by omega),if_neg (by simp)]
  have:numA ((128+n/16777216)%64) ((UInt8.ofNat ((2147483648+n)/65536)::UInt8.ofNat ((2147483648+n)/256)::UInt8.ofNat (2147483648+n)::r).take 3)=n:=by
   simp only[List.take_succ_cons,List.take_zero,numA,List.foldl_cons,List.foldl_nil,h2,h3,h4];omega
  rw[this,hz]
  simp
theorem zdc{v:List UInt8}(hv:v.length<1073741824)(r:List UInt8):vecP (vecB v++r)= .ok v r:=by
 unfold vecP vecB
 rw[List.append_assoc,z3m hv]
 simp only
 rw[if_neg (by simp),List.take_left,List.drop_left]
theorem zzs{a b c:List UInt8}(ha:a.length<1073741824)(hb:b.length<1073741824)(hc:c.length<1073741824)(r:List UInt8):zev 3 (vecB a++(vecB b++(vecB c++r)))= .ok [a,b,c] r:=by
 simp only[zev,zdc ha,zdc hb,zdc hc]
theorem z6z(l:Leaf)(r:List UInt8):zc8 l++r=vecB l.box++(vecB l.sign++(vecB l.ident++(l.src::((if l.src.toNat=3 then vecB l.parent else[])++(vecB l.sig++r))))):=by
 simp[zc8,zba]
theorem zzh{l:Leaf}(hr:l.right=true)(r:List UInt8):znt (zc8 l++r)= .ok l r:=by
 have hr':=hr
 simp only[Leaf.right,decide_eq_true_eq]at hr'
 obtain⟨h1,h2,h3,h4,h5,h6,h7,h8⟩:=hr'
 rw[z6z]
 unfold znt
 rw[zzs (by omega) (by omega) (by omega)]
 simp only[zmp]
 rw[if_neg (by omega)]
 have hp:zge l.src ((if l.src.toNat=3 then vecB l.parent else[])++(vecB l.sig++r))= .ok l.parent (vecB l.sig++r):=by
  unfold zge
  by_cases h:l.src.toNat=3
  ·rw[if_pos h,if_pos h,zdc (by omega)]
  ·rw[if_neg h,if_neg h,List.eq_nil_of_length_eq_zero (show l.parent.length=0 by omega)]
   rfl
 rw[hp]
 simp only[zj3]
 rw[zdc (by omega)]
 have e:zfw [l.box,l.sign,l.ident] l.src l.parent l.sig=l:=rfl
 simp only[e]
 rw[if_pos hr]
theorem zpd(x:Nat): ∀s a,numA a (beB s x)=a*256^s+x%256^s
 |0,a=>by
  show a=a*1+x%1
  rw[Nat.mul_one,Nat.mod_one,Nat.add_zero]
 |s+1,a=>by
  have ih:=zpd x s (256*a+(UInt8.ofNat (x/256^s)).toNat)
  have h1:(UInt8.ofNat (x/256^s)).toNat=x/256^s%256:=by rw[UInt8.toNat_ofNat']
  have h2:x%256^(s+1)=x%256^s+256^s*(x/256^s%256):=by rw[Nat.pow_succ,Nat.mod_mul]
  show numA (256*a+(UInt8.ofNat (x/256^s)).toNat) (beB s x)=_
  rw[ih,h1,h2,Nat.pow_succ]
  generalize x/256^s%256=d
  generalize x%256^s=e
  generalize 256^s=q
  have h3:(256*a+d)*q=a*(q*256)+q*d:=by
   rw[Nat.add_mul,Nat.mul_comm d q,Nat.mul_comm 256 a,Nat.mul_assoc,Nat.mul_comm 256 q]
  rw[h3]
  omega
theorem zrw(v0 v1:Value)(s x:Nat)(r:List UInt8)(h1:s=1\/s=2\/s=4\/s=8)(hx:x<256^s):Acts aP 305 2 (inL (beB s x++r)) [.own 0, .r (I s)] [(0,v0),(1,v1)] 2 (inL r) (.r (U64 x)):=by
 have h:=z5t v0 v1 (beB s x++r) s h1 (by rw[aL,zao];omega)
 rw[List.take_left' (zao s x),List.drop_left' (zao s x),zpd,Nat.zero_mul,Nat.zero_add,Nat.mod_eq_of_lt hx]at h
 exact h
theorem zo6(v0 v1:Value)(s x:Nat)(r:List UInt8)(h1:s=1\/s=2\/s=4\/s=8)(hx:x<256^s):Acts aP 303 2 (inL (beB s x++r)) [.own 0, .r (I s), .r (U64 x)] [(0,v0),(1,v1)] 2 (inL r) (.r (.tu [])):=by
 have h:=zdpb v0 v1 (beB s x++r) s x h1 (by rw[aL,zao];omega) (by rw[List.take_left' (zao s x),zpd,Nat.zero_mul,Nat.zero_add,Nat.mod_eq_of_lt hx])
 rw[List.drop_left' (zao s x)]at h
 exact h
theorem znr(v0 v1:Value)(x r:List UInt8)(hx:x.length<=1000000)(hr:r.length<=1000000):Acts aP 304 2 (inL (vecB x++r)) [.own 0] [(0,v0),(1,v1)] 2 (inL r) (.r (bs x)):=
 z5u v0 v1 (vecB x++r) r x (by have:=zai x;rw[aL];omega) (zdc (by omega) r)
theorem zdqb(v0 v1:Value)(l r:List UInt8)(x:Leaf)(hl:l.length<=8000000000)(h:znt l= .ok x r):Acts aP 410 2 (inL l) [.own 0] [(0,v0),(1,v1)] 3 (inL r) (.r (.ag x.c)):=by
 refine zag (T:=Tab) mixed Tab_ok Tryz.func410 rfl (by kernel_rfl) rfl (zet _ _ _ _) ?_
 refine zu rfl (zq ?_)
 refine zj [(0,1)] [0] (λvs _=>z2d (vs 0) l r x hl h) (zi rfl ⟨_,_,rfl,rfl,rfl⟩) rfl ⟨(aB aZ),trivial⟩ ⟨zac,trivial⟩ ?_
 refine zj [(0,0),(1,1)] [0,1] (λvs _=>zh5 (vs 0) (vs 1) r) (zi rfl ⟨_,_,rfl,rfl,_,_,rfl,cr,rfl⟩) rfl ⟨⟨_,_,rfl,rfl,_,_,rfl,cr,rfl⟩,(aB aZ),trivial⟩ ⟨zac,zac,trivial⟩ ?_
 refine za rfl rfl ?_
 exact zal (.inl rfl) [(0,0),(1,1),(2,2)] [(2, .own 2)] [(2,some (.box (x.c.map .r)))] rfl ⟨rfl,⟨rfl,rfl⟩,⟨rfl,rfl⟩,trivial⟩ ⟨⟨_,_,rfl,rfl,_,_,rfl,cr,rfl⟩,(aB aZ),(aC (aB aZ)),trivial⟩ ⟨⟨1000000,rfl⟩,⟨1000001,rfl⟩,trivial⟩ (za rfl rfl (cr))
theorem z5s(v0 v1:Value)(l l1 l2 r:List UInt8)(x:Leaf)(hl:l.length<=1000000)(hl1:l1.length<=1000000)(hl2:l2.length<=1000000)(hv:vecP l= .ok [] (1::l1))(hL:znt l1= .ok x l2)(hw:vecP l2= .ok [] r):
  Acts aP 307 2 (inL l) [.own 0] [(0,v0),(1,v1)] 3 (inL r) (.r (.ag (comR x))):=by
 have hf: ∀v0 v1:Value,Acts aP 414 2 (inL (1::l1)) [.own 0] [(0,v0),(1,v1)] 2 (inL l1) (.r (.b true)):=λv0 v1=>zdob v0 v1 1 l1 (by decide)
 refine zag (T:=Tab) mixed Tab_ok Tryz.func307 rfl (by kernel_rfl) rfl (zet _ _ _ _) ?_
 refine Vstep.nm 3 1000003 rfl λp=>Vstep.mkfunX [p] rfl ⟨_,_,rfl,⟨3,1000003,rfl,rfl⟩,rfl⟩ ?_
 refine zj [(0,0),(1,1)] [0,1] (λvs _=>zv7 (vs 0) (vs 1) l (1::l1) (by omega) hv) (zi rfl ⟨_,_,rfl,rfl,_,_,rfl,trivial,rfl⟩) rfl ⟨⟨_,_,rfl,rfl,_,_,rfl,cr,rfl⟩,(aB aZ),trivial⟩ ⟨zac,zac,trivial⟩ ?_
 refine zj [(0,0),(1,1)] [0,1] (λvs _=>hf (vs 0) (vs 1)) (zi rfl ⟨_,_,rfl,rfl,rfl⟩) rfl ⟨⟨_,_,rfl,rfl,_,_,rfl,cr,rfl⟩,(aB aZ),trivial⟩ ⟨zac,zac,trivial⟩ ?_
 refine zp ?_
 refine zj [(0,0),(1,1)] [0,1] (λvs _=>zdqb (vs 0) (vs 1) l1 l2 x (by omega) hL) (zi rfl ⟨_,_,rfl,rfl,rfl⟩) rfl ⟨⟨_,_,rfl,rfl,_,_,rfl,cr,rfl⟩,(aB aZ),trivial⟩ ⟨zac,zac,trivial⟩ ?_
 refine Vstep.mkfunX [p] rfl ⟨_,_,rfl,⟨3,1000003,rfl,rfl⟩,rfl⟩ ?_
 refine zj [(0,0),(1,1)] [0,1] (λvs _=>zv7 (vs 0) (vs 1) l2 r (by omega) hw) (zi rfl ⟨_,_,rfl,rfl,_,_,rfl,trivial,rfl⟩) rfl ⟨⟨_,_,rfl,rfl,_,_,rfl,cr,rfl⟩,(aB aZ),trivial⟩ ⟨zac,zac,trivial⟩ ?_
 refine za rfl rfl ?_
 exact zal (.inl rfl) [(0,0),(1,1),(2,2)] [(2, .own 2)] [(2,some (.box ((comR x).map .r)))] rfl ⟨rfl,⟨rfl,rfl⟩,⟨rfl,rfl⟩,trivial⟩ ⟨⟨_,_,rfl,rfl,_,_,rfl,cr,rfl⟩,(aB aZ),(aD (aA aZ)),trivial⟩ ⟨⟨1000000,rfl⟩,⟨1000001,rfl⟩,trivial⟩ (za rfl rfl (cr))
end Go.Proofs.YtkegaaonpekkgaaGreat.Sx
