import Derived.Test.YtkegaaonpekkgaaGreatXqJj
import Derived.Test.YtkegaaonpekkgaaGreatXqJa
import Derived.Test.YtkegaaonpekkgaaGreatXqBn
import Derived.Test.YtkegaaonpekkgaaGreatXqVg
import Derived.Test.YtkegaaonpekkgaaGreatXqVh
namespace Go.Proofs.YtkegaaonpekkgaaGreat.Sx
open Go.RowKit
set_option maxHeartbeats 8000000
set_option maxRecDepth 20000 in
theorem VC(c0 c1 c2:List RV)(s1 s2 cm:cT)(w:ViewP)(ol:Leaf)(sg:cT)(hw:w.ctx.epoch=1)
  (cA:aG 41 [I 1] (.r (bs s1))) (cB:aG 41 [I 2] (.r (bs s2)))
  (cN:iM aP 7 [bs [103],bs [1],bs s1] c0 [Er 0])
  (cC: ∀q:Value,yz aP 38 1 [(0,.box (c0.map .r))] [.own 0,.r nl,.r (.b false),.r (bs s2)] [(0,q)] 1 [(0,.box (c1.map .r))] (.r (.tu [bs cm,nl,Er 0])))
  (cP: ∀q:Value,yz aP 40 1 [(0,.box (c1.map .r))] [.own 0,.r (bs cm)] [(0,q)] 1 [(0,.box (c2.map .r))] (.r (Er 0)))
  (cS:aG 17 [.ptr c2] (.r (.ag (iK w ol sg)))):
  aG 6 [] (.r (.b true)):=by
 refine aT Tryz.func6 rfl ?_
 refine Vpub.own ?_
 refine zw ?_
 refine ze cA ?_
 refine zJ (xE (id:=0) rfl) (Vstep.tup 1000009 rfl rfl (zn _) cN λb=>?_)
 refine zd (m:=0) rfl (by decide) ?_
 refine cX ?_
 refine ze cB ?_
 refine zJ (i9 (id:=2) (t:=18) (tn:=1000009) rfl rfl) (Vstep.actsBox 2 cC (zi rfl ⟨_,_,rfl,rfl,_,_,rfl,cr,_,_,rfl,cr,_,_,rfl,cr,rfl⟩) rfl ?_)
 refine zJ (i9 (id:=2) (t:=24) (tn:=1000009) rfl rfl) (Vstep.actsBox 2 cP (zi rfl ⟨_,_,rfl,rfl,_,_,rfl,cr,rfl⟩) rfl ?_)
 refine zd (m:=0) rfl (by decide) ?_
 refine zt rfl ?_
 refine zd (m:=0) rfl (by decide) ?_
 refine zt rfl ?_
 refine zJ (Sub.trans (i9 (id:=2) (t:=36) (tn:=1000009) rfl rfl) (xO (id:=2) (t:=36) c2 rfl rfl)) (Vstep.val Tab_ok ?_)
 refine ze cS ?_
 refine Vsem.fieldN Tab_ok rfl rfl rfl rfl rfl rfl rfl (cE rfl) rfl ?_
 refine Vsem.fieldN Tab_ok rfl rfl rfl rfl rfl rfl rfl (cE rfl) rfl ?_
 refine Vsem.field Tab_ok rfl rfl rfl rfl rfl rfl rfl rfl ?_
 refine zt (by show((w.ctx.epoch:Int)==1)=true;rw[hw];rfl) ?_
 exact cr
theorem Jw(g:cT)(e f:Nat)(l:Leaf)(s t a b:cT)(x:CtxP):rS ⟨g,e,f,l,s,t,a⟩ x=rS ⟨g,e,f,l,s,t,b⟩ x:=rfl
theorem Ft(g:cT)(e f:Nat)(l:Leaf)(s t a s' t' a':cT)(x:CtxP):vi ⟨g,e,f,l,s,t,a⟩ x=vi ⟨g,e,f,l,s',t',a'⟩ x:=rfl
theorem Nb:aG 6 [] (.r (.b true)):=by
 have cA:=uH (NJ 1 (by decide))
 have cB:=uH (NJ 2 (by decide))
 have l1:=fg 1
 have l2:=fg 2
 generalize iy 1=s1 at cA l1
 generalize iy 2=s2 at cB l2
 obtain⟨⟨⟨x,own,it,tg,sc,ky⟩,o,sg⟩,hg,_,cN⟩:=EC [103] [1] s1 (by decide) (by decide) (by decide) l1
 have hown:own=0:=hg.own
 subst hown
 have hxe:x=⟨[103],0,hash1 o,[]⟩:=hg.ctx
 have hsm:(v0 x it tg sc ky).sm:=hg.sm
 have hlr:o.right=true:=hg.right
 have hsg:sg.length=32:=hg.sgl
 have hsp:o.sign=pd sg:=hg.spub
 have hfo:=ug hlr
 have hh0:=mU o
 have hgl:x.group.length<=64:=by rw[hxe];show([103]:cT).length<=64;decide
 have hep:x.epoch=0:=by rw[hxe]
 have hxf:x.fit:=⟨by omega,by omega,by rw[hxe];show(hash1 o).length<=_;omega,by rw[hxe];show([]:cT).length<=1000000;decide⟩
 have cs1:=un s2 ⟨#[112,97,116,104]⟩ (by omega) (by decide)
 have ls1:=x7 s2 (sB ⟨#[112,97,116,104]⟩) [] (n:=32) (by omega)
 generalize xU s2 (sB ⟨#[112,97,116,104]⟩) [] 32=p1 at cs1 ls1
 have cs2:=un s2 Vm (by omega) (by decide)
 generalize xU s2 (sB Vm) [] 32=p2 at cs2
 obtain⟨ol,com,pl,hor,hos,hop,hosg,hcom,hpl,cM⟩:=Gu o p1 sg x.group hlr ls1 hsg (by omega)
 have hfl:=ug hor
 have cW:=Kz (v0 x it tg sc ky) hxf (by show x.epoch+1<_;omega) ol hor
 generalize yV (J3 (v0 x it tg sc ky).ctx ol)=cx at cW
 have cSe:=G9 ol [⟨0,pl⟩] com p2 cx hor
 have c4:=Km x it tg sc ky o ol sg s2 com pl p1 p2 cx hlr hor (G4 o hfo hlr) cs1 cM cs2 cW cSe
 have c5:aG 21 [.ag (v0 x it tg sc ky).c,bs sg,.ag (fB 0 ol)] (.r (.tu [.ag (JB (vw x 0 it tg sc ky) sg z32 0 ol).c,Er 0])):=Ka x it tg sc ky sg 0 (by decide) hsm hxf hgl hsg ol hor hos hop
 obtain⟨M,hM⟩: ∃M,M=JB (vw x 0 it tg sc ky) sg z32 0 ol:=⟨_,rfl⟩
 have hMg:M.group=x.group:=by rw[hM];rfl
 have hMe:M.epoch=x.epoch:=by rw[hM];rfl
 have hMf:M.frm=0:=by rw[hM];rfl
 have hMl:M.lf=ol:=by rw[hM];rfl
 have hMs:M.sig=oo sg (sB vW) (vi M x):=by rw[hM];exact cR (oo sg (sB vW)) (Ft _ _ _ _ _ _ _ _ _ _ _)
 have hMm:M.mem.length=32:=by rw[hM];exact x8 _ _
 have hMt:M.tag.length=32:=by rw[hM];rfl
 rw[<-hM]at c5
 have hMsm:M.sm:=⟨by rw[hMg];exact hgl,by rw[hMe];omega,by omega,by rw[hMs];exact xg _ _ _,hMt,hMm,by rw[hMl];exact hor,by rw[hMl];exact hos,by rw[hMl];exact hop⟩
 clear hM
 have c6:=YO ol hfl hor
 have hhl:=mU ol
 generalize hash1 ol=h at c6 hhl
 have c7:=Gl (v0 x it tg sc ky) M h com ⟨0,pl⟩ (by show pl.length<=_;omega) hsm hMsm hgl (by show x.epoch+1<_;omega) (by omega) (by omega)
 have hw1:(UH (v0 x it tg sc ky) M h com ⟨0,pl⟩).ctx.epoch=1:=by show x.epoch+1=1;omega
 have hw2:(UH (v0 x it tg sc ky) M h com ⟨0,pl⟩).tag.length=32:=x8 _ _
 have hw3:(UH (v0 x it tg sc ky) M h com ⟨0,pl⟩).sm:=⟨by show x.group.length<=_;omega,by show h.length<=_;omega,by show(uc it (tP M)).length<=_;have:(uc it (tP M)).length=32:=wT _;omega,by show(gz _ _).length<=_;have: ∀a b,(gz a b).length=32:=λa b=>wT _;rw[this];omega,by rw[hw2];omega,ZS _ _ _,by show pl.length<=_;omega⟩
 generalize UH (v0 x it tg sc ky) M h com ⟨0,pl⟩=w at c7 hw1 hw2 hw3
 have m1:MsgP.sm ⟨M.group,M.epoch,M.frm,M.lf,M.sig,w.tag,M.mem⟩:=⟨hMsm.group,hMsm.epoch,hMsm.frm,hMsm.sig,hw2,hMsm.mem,hMsm.lf,hMsm.src,hMsm.par⟩
 have c8:=gr _ m1 x hxf
 have ht:=Xg _ m1 x hxf
 have hsc:=hsm.sec.mb
 have c9:=su sc (rS ⟨M.group,M.epoch,M.frm,M.lf,M.sig,w.tag,M.mem⟩ x) hsc (by omega)
 obtain⟨mb,hmb⟩: ∃mb,mb=wh sc.mb (rS ⟨M.group,M.epoch,M.frm,M.lf,M.sig,w.tag,M.mem⟩ x):=⟨_,rfl⟩
 rw[<-hmb]at c9
 have m2:MsgP.sm ⟨M.group,M.epoch,M.frm,M.lf,M.sig,w.tag,mb⟩:=⟨hMsm.group,hMsm.epoch,hMsm.frm,hMsm.sig,hw2,by rw[hmb];exact x8 _ _,hMsm.lf,hMsm.src,hMsm.par⟩
 have hof:MsgP.of ⟨M.group,M.epoch,M.frm,M.lf,M.sig,w.tag,mb⟩ (v0 x it tg sc ky) o sg:=⟨m2,hMg,hMe,hsp,hMs,hmb.trans (cR (wh sc.mb) (Jw _ _ _ _ _ _ _ _ _))⟩
 generalize rS ⟨M.group,M.epoch,M.frm,M.lf,M.sig,w.tag,M.mem⟩ x=tx at c8 c9
 have c10:=Kd _ m2
 have q1:=EI _ m2
 have hcl:=Rx _ m2
 have hc0:0< (na ⟨M.group,M.epoch,M.frm,M.lf,M.sig,w.tag,mb⟩).length:=by rw[XW];simp only[aL,yj];omega
 generalize na ⟨M.group,M.epoch,M.frm,M.lf,M.sig,w.tag,mb⟩=cm at c10 q1 hcl hc0
 have c11:aG 42 [bs cm] (.r (bs cm)):=uH (x4 cm (by omega))
 have c12:=VG w ol sg hw3 hfl (by omega)
 have cC:=λq=>VI q x it tg sc ky o ol sg s2 com pl h tx mb cm M w l2 (by omega) (by omega) (by omega) hlr c4 c5 c6 c7 c8 c9 c10 c11 c12
 have q2:=Rb (v0 x it tg sc ky) ⟨M.group,M.epoch,M.frm,M.lf,M.sig,w.tag,mb⟩ hMg hMe (by show M.group.length<=_;rw[hMg];omega)
 have q3:aG 112 [yS [L1 o],I ((M.frm:Nat):Int)] (.r (.tu [.ag o.c,.b true])):=by rw[hMf];exact Ub o hfo hlr
 have q4:=Gk (v0 x it tg sc ky) _ o sg hsm hxf hof hfo
 have q5:aG 114 [bs cm,bs cm] (.r (.b true)):=by
  have h:=sn cm cm
  rw[bE rfl]at h
  exact h
 have cP:=λq=>W6 q x it tg sc ky o ol sg cm ⟨M.group,M.epoch,M.frm,M.lf,M.sig,w.tag,mb⟩ w (by show M.epoch≠_;omega) (by show M.epoch<_;omega) hMf hc0 q1 q2 q3 q4 q5
 have cS:=GB w ol sg hw3 hfl (by omega)
 exact VC _ _ _ s1 s2 cm w ol sg hw1 cA cB cN cC cP cS
theorem H5(v:VwP)(m:MesP):pp v m<256:=by unfold pp;split<;>(try split)<;>decide
theorem Vw(v:VwP)(m:MesP)(l:Leaf):vU v m l<256:=by
 have:=H5 v m
 unfold vU
 split<;>(try split)<;>(try split)<;>omega
theorem TN:zMes.sml:=⟨by decide,⟨by decide,by decide,⟨by decide,by decide,by decide,by decide,by decide⟩,⟨by decide,by decide,by decide,by decide,by decide⟩⟩,⟨by decide,by decide,⟨by decide,by decide,by decide,by decide,by decide⟩,λi hi=>absurd hi (by simp[zMes]),λi hi=>absurd hi (by simp[zMes])⟩,by decide,by decide,by decide⟩
theorem Wy:zMes.ints:=⟨by decide,⟨by decide,by decide⟩,⟨by decide,by decide⟩,⟨λi hi=>absurd hi (by simp[zMes])⟩⟩
theorem Li{v:VwP}(hv:v.okv)(seed:cT){m:MesP}(hm:m.sml)(hi:m.ints):(vE v seed m).1.sml/\(vE v seed m).1.ints/\(vE v seed m).2<256:=by
 have ht:=pU hm
 unfold vE
 generalize rh m=t at ht
 unfold xL
 split
 ·split
  ·exact⟨vu hv hm ht (by rw[yF,xg];decide) (by rw[lI,x8];decide),rV hv hi,by show(0:Nat)<256;decide⟩
  ·exact⟨TN,Wy,by decide⟩
 ·exact⟨TN,Wy,by decide⟩
structure VwP.told (v:VwP):Prop where
 epoch:v.ctx.epoch<18446744073709551616
 own:i64 v.own
 key: ∀k∈v.keys,k.key.length<=140737488355328
theorem U5{m:MesP}(h:m.sml):m.com.items.length<=1000000/\m.com.way.steps.length<=1000000/\∀s∈m.com.way.steps,s.to.length<=1000000:=by
 have b1:=h.com.items
 have b2:=h.com.steps
 exact⟨by omega,by omega,λs hs=>by have:=(h.com.step s hs).to;omega⟩
abbrev AA(v:VwP)(m:MesP)(l:Leaf):List (Nat×Option Ow):=[(0,some (.box (v.c.map .r))),(1,some (.box (m.c.map .r))),(2,some (.box (l.c.map .r)))]
set_option maxRecDepth 20000 in
theorem W7(v:VwP)(hvt:v.told)(seed:cT)(m:MesP)(hi:m.ints)(wait:List MesP)(hwi: ∀x∈wait,x.ints)(l:Leaf)(tree commit:cT):
  aG 4 [.ag v.c,bs seed,.ag m.c,qU wait,.ag l.c,bs tree,bs commit] (.r (.b true)):=by
 refine aT Tryz.func4 rfl ?_
 refine ze Nb ?_
 refine cX ?_
 refine cU ?_
 refine z6 (XJ m) (λk0=>zu rfl ?_) (λk0=>zt rfl (zp (cr)))
 refine cU ?_
 refine z6 (NN v.ctx) (λk1=>zu rfl ?_) (λk1=>zt rfl (zp (cr)))
 refine zh (λk=>zp (cr)) (λk2=>?_)
 refine zh (λk=>zp (cr)) (λk3=>?_)
 refine zh (λk=>zp (cr)) (λk4=>?_)
 refine zh (λk=>zp (cr)) (λk5=>?_)
 refine zh (λk=>zp (cr)) (λk6=>?_)
 refine zh (λk=>zp (cr)) (λk7=>?_)
 refine zh (λk=>zp (cr)) (λk8=>?_)
 refine zh (λk=>zp (cr)) (λk9=>?_)
 refine zh (λk=>zp (cr)) (λk10=>zq ?_)
 simp only[zb]at k2 k3 k4 k5 k6 k7 k8 k9 k10
 have hm:=eT k0
 simp only[jd,bB,decide_eq_true_eq]at k1
 have hv:v.okv:=⟨k1.1.1,hvt.epoch,k1.1.2,k1.2,hvt.own,by omega,by omega,by omega,by omega,hvt.key⟩
 have hwl:wait.length<=5:=by omega
 refine zy (λj:Nat=>⟨[(1,.r (bs seed)),(3,.r (qU wait)),(5,.r (bs tree)),(6,.r (bs commit)),(7,.own 0),(9,.own 1),(11,.own 2),(15,.r (I j))],AA v m l,3⟩) (λj=>j<=wait.length/\∀x∈wait.take j,x.sml/\x.right=true) (λj=>wait.length-j) 0 ⟨by omega,by simp⟩
  (zM [(0,0),(1,1),(2,2)]) ?_
 rintro j ⟨hj,hq⟩
 refine cZ (λh=>?_) λh=>?_
 ·simp only[zb]at h
  have hj':j<wait.length:=by omega
  refine cV (pB rfl hj') ?_
  refine cU ?_
  refine z6 (XJ wait[j]) (λe0=>zu rfl ?_) (λe0=>zt rfl (zp (cr)))
  have hs:=eT e0
  obtain⟨q1,q2,q3⟩:=U5 hs
  refine cV (pB rfl hj') ?_
  refine cU ?_
  refine z6 (qh wait[j] q1 q2 q3) (λe1=>cX ?_) (λe1=>zt rfl (zp (cr)))
  refine zd (m:=((j+1:Nat):Int)) (by omega) (by omega) ?_
  refine⟨j+1,⟨hj',λx hx=>?_⟩,by omega,zM [(0,0),(1,1),(2,2)]⟩
  rw[bX hj',List.mem_append]at hx
  rcases hx with hx |hx
  ·exact hq x hx
  ·rw[List.mem_singleton.1 hx];exact⟨hs,e1⟩
 simp only[zb]at h
 rw[bF (by omega)]at hq
 clear hj h
 have hwf: ∀x∈wait,x.fine:=λx hx=>⟨(hq x hx).1,hwi x hx,(hq x hx).2⟩
 have d1:=No v hv seed m hm
 have d2:=Ks v hv seed m hm hi
 obtain⟨w1,w2,w3⟩:=Li hv seed hm hi
 generalize vE v seed m=W at d1 d2 w1 w2 w3
 obtain⟨g,e⟩:=W
 simp only at d1 d2 w1 w2 w3
 refine cU ?_
 refine cU ?_
 refine ze d1 ?_
 refine cU ?_
 refine cU ?_
 refine ze d2 ?_
 refine zd (m:=(e:Int)) rfl (by omega) ?_
 refine zu (by simp only[zb]) ?_
 refine cU ?_
 refine cU ?_
 obtain⟨q1,q2,q3⟩:=U5 w1
 refine ze (Gg g q1 q2 q3) ?_
 refine cX ?_
 have hb:=YV hm
 have f1:=Vw v m l
 have f2:=Vw v g l
 have n1:=XB m hm hi
 have n2:=Rc (tT m) (by omega)
 have n3:=VR m hm hi
 have n4:=wn (mY (tT m))
 generalize mY (tT m)=nm at n2 n3 n4
 generalize tT m=mb at n1 n2
 have p1:=VJ v hv m hm l (by omega)
 have p2:=Rf v hv m hm hi l (by omega)
 have p3:=VJ v hv g w1 l (by omega)
 have p4:=Rf v hv g w1 w2 l (by omega)
 generalize vU v m l=u1 at f1 p1 p2
 generalize vU v g l=u2 at f2 p3 p4
 refine aV ?_
 refine cU ?_
 refine ze n1 ?_
 refine ze n2 ?_
 refine cU ?_
 refine ze n3 ?_
 refine ze n4 ?_
 refine zu rfl ?_
 refine cU ?_
 refine cU ?_
 refine cU ?_
 refine ze p1 ?_
 refine zd (m:=(u1:Int)) rfl (by omega) ?_
 refine cU ?_
 refine cU ?_
 refine cU ?_
 refine ze p2 ?_
 refine zu (by simp only[zb]) ?_
 refine cU ?_
 refine cU ?_
 refine cU ?_
 refine ze p3 ?_
 refine zd (m:=(u2:Int)) rfl (by omega) ?_
 refine cU ?_
 refine cU ?_
 refine cU ?_
 refine ze p4 ?_
 refine zu (by simp only[zb]) (zq ?_)
 obtain⟨r1,r2,r3⟩:=U5 hm
 have o1:=Nn wait m (by omega) hwf r1
 have o2:=NF wait m (by omega) (λx hx=>⟨(hwf x hx).sml,(hwf x hx).ints⟩) r1
 have o3: ∀L,xD wait m.frm m.com.items=some L->L.length<=70:=λL hL=>by rw[n9 hL];exact hm.com.items
 generalize xD wait m.frm m.com.items=O at o1 o2 o3
 have x1:=LZ v hv m hm tree commit (by omega) (by omega)
 have x2:=G3 v hv m hm hi tree commit (by omega) (by omega)
 have x3:=Nk (Mp v (nb m) tree commit) (by show v.keys.length<=_;omega)
 generalize Mp v (nb m) tree commit=V at x1 x2 x3
 obtain⟨L,hL,o1',o2'⟩: ∃L:List OffP,L.length<=70/\JP O= .tu [oq L,Er (if O.isSome then 0 else 14)]/\Hq O= .tu [oq L,.b O.isSome]:=by
  cases O with
  |none=>exact⟨[],by simp,rfl,rfl⟩
  |some L=>exact⟨L,o3 L rfl,rfl,rfl⟩
 rw[o1']at o1
 rw[o2']at o2
 refine cU ?_
 refine ze o1 ?_
 refine cU ?_
 refine ze o2 ?_
 cases O with
 |none=>
  refine zd (m:=14) rfl (by decide) ?_
  refine zu rfl ?_
  refine zu rfl ?_
  refine zd (m:=14) rfl (by decide) ?_
  refine zt rfl ?_
  refine zd (m:=14) rfl (by decide) ?_
  refine zu rfl ?_
  refine zu (by simp only[zb]) (zq ?_)
  refine zy (λj:Nat=>⟨[(5,.r (bs tree)),(6,.r (bs commit)),(7,.own 0),(9,.own 1),(20,.r (oq L)),(22,.r (oq L)),(24,.r (I j))],[(0,some (.box (v.c.map .r))),(1,some (.box (m.c.map .r)))],2⟩) (λj=>j<=L.length) (λj=>L.length-j) 0 (by omega)
   (zM [(0,0),(1,1)]) ?_
  intro j hj
  refine cZ (λh=>?_) λh=>?_
  ·simp only[zb]at h
   have hj':j<L.length:=by omega
   refine aV ?_
   refine cV (qm rfl hj') (zg rfl ?_)
   refine cV (qm rfl hj') (zg rfl ?_)
   refine zu (by simp only[zb]) ?_
   refine cV (qm rfl hj') (cU ?_)
   refine cV (qm rfl hj') (cU ?_)
   refine ze (jG L[j].prop) ?_
   refine cX ?_
   refine zd (m:=((j+1:Nat):Int)) (by omega) (by omega) ?_
   exact⟨j+1,hj',by omega,zM [(0,0),(1,1)]⟩
  ·refine aV ?_
   refine cU ?_
   refine cU ?_
   refine ze x1 ?_
   refine cU ?_
   refine cU ?_
   refine ze x2 ?_
   refine ze x3 ?_
   exact cr
 |some L0=>
  refine zd (m:=0) rfl (by show(-9223372036854775808:Int)<=0/\(0:Int)<=9223372036854775807;decide) ?_
  refine zt rfl ?_
  refine zu rfl ?_
  refine zd (m:=0) rfl (by show(-9223372036854775808:Int)<=0/\(0:Int)<=9223372036854775807;decide) ?_
  refine zu rfl ?_
  refine zu (by simp only[zb]) (zq ?_)
  refine zy (λj:Nat=>⟨[(5,.r (bs tree)),(6,.r (bs commit)),(7,.own 0),(9,.own 1),(20,.r (oq L)),(22,.r (oq L)),(24,.r (I j))],[(0,some (.box (v.c.map .r))),(1,some (.box (m.c.map .r)))],2⟩) (λj=>j<=L.length) (λj=>L.length-j) 0 (by omega)
   (zM [(0,0),(1,1)]) ?_
  intro j hj
  refine cZ (λh=>?_) λh=>?_
  ·simp only[zb]at h
   have hj':j<L.length:=by omega
   refine aV ?_
   refine cV (qm rfl hj') (zg rfl ?_)
   refine cV (qm rfl hj') (zg rfl ?_)
   refine zu (by simp only[zb]) ?_
   refine cV (qm rfl hj') (cU ?_)
   refine cV (qm rfl hj') (cU ?_)
   refine ze (jG L[j].prop) ?_
   refine cX ?_
   refine zd (m:=((j+1:Nat):Int)) (by omega) (by omega) ?_
   exact⟨j+1,hj',by omega,zM [(0,0),(1,1)]⟩
  ·refine aV ?_
   refine cU ?_
   refine cU ?_
   refine ze x1 ?_
   refine cU ?_
   refine cU ?_
   refine ze x2 ?_
   refine ze x3 ?_
   exact cr
section
open Go.ChangeShapes Go.WideShapes Go.ChangeAt Go.RowKit
def groupWritesC0:List Nat:=[4,6,41,7,8,45,119,205,237,318,120,207,319,206,14,65,63,64,140,139,236,238,239,342,344,432,343,49,122,208,202,121,123,210,211,323,326,209,321,322,424,320,423,219,330,212,324,339,325,329,213,328,425,488,527,489,327,50,124,214,218,332,331,356]
def groupWritesC1:List Nat:=[223,215,126,222,228,336,426,427,429,428,490,430,491,492,528,227,334,335,337,338,355,354,439,125,216,217,220,221,127,51,128,42,129,130,224,53,136,135,230,229,231,52,132,225,333,133,134,172,171,226,131,43,116,175,258,357,440,497,498,259,358,441,499,500]
def groupWritesC2:List Nat:=[501,442,260,359,443,360,261,272,370,371,284,387,291,361,444,462,445,201,314,315,422,317,316,46,44,118,157,203,117,204,47,48,38,106,167,104,154,245,246,345,433,494,114,346,247,249,347,434,348,349,248,350,435,495,436,437,438,496,174,156,173,256,257,159]
def groupWritesC3:List Nat:=[25,82,30,93,166,165,107,176,262,362,177,263,363,264,265,91,164,252,353,253,255,254,145,196,308,178,197,309,266,179,267,364,195,365,366,268,367,269,368,446,447,502,529,180,108,181,101,271,270,369,182,273,112,373,372,448,449,504,503,292,450,451,274,375]
def groupWritesC4:List Nat:=[454,374,452,505,453,461,517,518,506,530,531,550,532,540,541,533,551,552,555,534,535,536,537,376,455,183,275,377,456,457,507,538,508,276,283,386,378,458,379,459,277,380,278,279,280,281,381,460,509,510,539,511,512,542,543,553,513,514,515,516,382,383,282,385]
def groupWritesC5:List Nat:=[384,184,285,186,185,286,389,390,464,463,519,388,288,287,392,391,465,520,544,554,545,521,466,296,397,398,467,468,522,546,547,523,524,399,469,470,471,472,21,76,155,77,158,78,34,99,170,100,109,187,289,290,393,394,395,188,293,189,294,396,295,297,400,401]
def groupWritesC6:List Nat:=[473,402,474,475,403,190,298,404,405,476,299,69,144,243,146,111,192,193,303,305,408,479,525,480,406,301,304,407,477,478,306,409,410,481,307,412,413,411,300,482,414,483,415,416,484,194,191,302,40,90,28,92,113,115,198,199,311,310,200,312,417,313,418,485]
def groupWritesC7:List Nat:=[419,421,487,486,526,548,549,420,17,18,70,147,148,71,19,20,72,149,150,95,24,151,152,244,73,74,75,153,22,13,79,85,60,86,88,61,138,84,83,161,162,250,351,251,352,340,163,59,80,87,23,81,32,94,160,26,27,89,66,141,142,240,241,29]
def groupWritesC8:List Nat:=[31,35,102,103,67,11,58,12,62,10,55,57,56,15,33,96,97,168,98,169]
def groupWritesC:List Nat:=groupWritesC0++(groupWritesC1++(groupWritesC2++(groupWritesC3++(groupWritesC4++(groupWritesC5++(groupWritesC6++(groupWritesC7++(groupWritesC8))))))))
theorem qF:Tryz.prog.closure 4=groupWritesC:=by rw[OA];kernel_rfl
noncomputable def groupWritesIn (g:Nat):Option String:=(Tryz.prog.funcs[g]?).bind λfn=>if fn.ours||fn.body.isNone||fn.name== "runtime.NumGoroutine" then some fn.name else none
theorem YB:(Rows.groupWritesRow.inPlace==Tryz.prog.inPlace 4)=true:=by
 unfold Program.inPlace
 rw[qF]
 have h:groupWritesC.filterMap groupWritesIn=Rows.groupWritesRow.inPlace:=by kernel_rfl
 exact beq_iff_eq.2 h.symm
theorem kz:Tryz.prog.unfollowed 4=true:=by
 unfold Program.unfollowed
 rw[qF]
 exact List.any_eq_true.2 ⟨322,List.contains_iff_mem.1 (by kernel_rfl),by kernel_rfl⟩
theorem Zw:(Rows.groupWritesRow.unfollowed==Tryz.prog.unfollowed 4)=true:=by rw[kz];rfl
theorem Zv:(Rows.groupWritesRow.recurses==Tryz.prog.recurses 4)=true:=by unfold Program.recurses;rw[kz];rfl
noncomputable def groupWritesGn (g:Nat):List Nat:=((Tryz.prog.funcs[g]?).bind (·.body)).elim [] Code.globalsNamed
theorem Zm:groupWritesC0.flatMap groupWritesGn=[]:=by kernel_rfl
theorem Zn:groupWritesC1.flatMap groupWritesGn=[]:=by kernel_rfl
theorem Zo:groupWritesC2.flatMap groupWritesGn=[]:=by kernel_rfl
theorem Zp:groupWritesC3.flatMap groupWritesGn=[]:=by kernel_rfl
theorem Zq:groupWritesC4.flatMap groupWritesGn=[]:=by kernel_rfl
theorem Zr:groupWritesC5.flatMap groupWritesGn=[]:=by kernel_rfl
theorem Zs:groupWritesC6.flatMap groupWritesGn=[]:=by kernel_rfl
theorem Zt:groupWritesC7.flatMap groupWritesGn=[]:=by kernel_rfl
theorem Zu:groupWritesC8.flatMap groupWritesGn=[]:=by kernel_rfl
theorem YA:groupWritesC.flatMap groupWritesGn=[]:=by simp only[groupWritesC,List.flatMap_append,Zm,Zn,Zo,Zp,Zq,Zr,Zs,Zt,Zu,List.append_nil]
theorem YC:(Rows.groupWritesRow.named==Tryz.prog.varsNamed 4)=true:=by
 unfold Program.varsNamed
 rw[qF]
 have h:(groupWritesC.filterMap λg=>(Tryz.prog.funcs[g]?).bind λfn=>if fn.body.isNone then entryReads.lookup fn.name else none)=[]:=by kernel_rfl
 have k:(groupWritesC.flatMap λg=>((Tryz.prog.funcs[g]?).bind (·.body)).elim [] Code.globalsNamed)=[]:=YA
 rw[h,k];rfl
theorem gp:joinedFacts aP 4 Tryz.f4 Rows.groupWritesSpec Rows.groupWritesRow=true:=by
 unfold joinedFacts
 repeat' with_reducible apply BY
 all_goals first
  |with_reducible exact ZA
  |with_reducible exact P3
  |with_reducible exact SA
  |with_reducible exact YB
  |with_reducible exact Zw
  |with_reducible exact Zv
  |with_reducible exact YC
  |(rw[Py];kernel_rfl)
  |kernel_rfl
end
section
open Go.ChangeShapes Go.WideShapes Go.ChangeAt Go.RowKit
set_option maxRecDepth 100000 in
theorem gq(os:Os)(started:os.Started)(H:Type)(enc:TypeId×Value->H):
  ReturnsInHanded {} Tryz.checked os 4 .any (Rows.groupWritesSpec.pre6 enc aP Tryz.f4 Rows.groupWritesRow.domain false) (Rows.groupWritesSpec.post enc aP Tryz.f4 false true false false):=by
 refine returnsInHanded_of_change_sized (C:=Tryz.checked) KT started (by kernel_rfl) Tryz.func4
  (ChangeSpec.witness6 (enc:=enc) (C:=Tryz.checked) false ⟨#[], #[.agg #[.slice none 0 0,.int .u64 0,.slice none 0 0,.slice none 0 0,.int .i64 0,.slice none 0 0,.slice none 0 0,.slice none 0 0,.slice none 0 0,.slice none 0 0,.slice none 0 0,.slice none 0 0,.slice none 0 0,.slice none 0 0,.slice none 0 0,.slice none 0 0,.slice none 0 0,.slice none 0 0,.slice none 0 0,.slice none 0 0],.slice none 0 0,.agg #[.slice none 0 0,.int .u64 0,.int .i64 0,.int .u8 0,.int .u8 0,.slice none 0 0,.slice none 0 0,.slice none 0 0,.slice none 0 0,.int .u8 0,.slice none 0 0,.slice none 0 0,.slice none 0 0,.slice none 0 0,.slice none 0 0,.slice none 0 0,.int .u8 0,.slice none 0 0,.slice none 0 0,.int .i64 0,.slice none 0 0,.bool false,.slice none 0 0,.slice none 0 0,.slice none 0 0,.int .u8 0,.slice none 0 0,.slice none 0 0,.slice none 0 0,.slice none 0 0,.slice none 0 0,.slice none 0 0],.slice none 0 0,.agg #[.slice none 0 0,.slice none 0 0,.slice none 0 0,.int .u8 0,.slice none 0 0,.slice none 0 0],.slice none 0 0,.slice none 0 0],[]⟩ 8 (by kernel_rfl) (by kernel_rfl) (by kernel_rfl) (by kernel_rfl)) ?_
 intro W base args ds gs before hval0 hW hcnd hsz0 _
 have hval: ∀(j:Nat) t v,Tryz.f4.params[j]?=some t->args[j]?=some v->Value.okWide aP W .any base t v:=hval0
 have hsz:(DataW.weightsEach aP (Tryz.f4.params.toList++Rows.groupWritesSpec.plain.varTypes Tryz.prog) (ds++gs)).all (· <=reachBytes)=true:=hsz0
 have hW':=hW
 obtain⟨p,q,hA0,hV,rfl,hfz,hnd⟩:=hW
 have hA:DataW.TrodAll enc aP W 0 (λ_=>true) true Tryz.f4.params.toList args.toList ds p:=hA0
 rw[Tryz.params4]at hA hval hsz
 obtain⟨v0,vs0,d0,ds0,p0,q0,hargs,rfl,rfl,h0,r0⟩:=trodAll_cons hA
 obtain⟨v1,vs1,d1,ds1,p1,q1,rfl,rfl,rfl,h1,r1⟩:=trodAll_cons r0
 obtain⟨v2,vs2,d2,ds2,p2,q2,rfl,rfl,rfl,h2,r2⟩:=trodAll_cons r1
 obtain⟨v3,vs3,d3,ds3,p3,q3,rfl,rfl,rfl,h3,r3⟩:=trodAll_cons r2
 obtain⟨v4,vs4,d4,ds4,p4,q4,rfl,rfl,rfl,h4,r4⟩:=trodAll_cons r3
 obtain⟨v5,vs5,d5,ds5,p5,q5,rfl,rfl,rfl,h5,r5⟩:=trodAll_cons r4
 obtain⟨v6,vs6,d6,ds6,p6,q6,rfl,rfl,rfl,h6,r6⟩:=trodAll_cons r5
 obtain⟨rfl,rfl,rfl⟩:=trodAll_nil r6
 obtain rfl:args= #[v0,v1,v2,v3,v4,v5,v6]:=by cases args;simp_all
 obtain⟨rfl,rfl⟩:=trodVars_none hV
 have lt0: ∀x∈p0,x.block<W.heap.size:=by obtain⟨m,hm⟩:=h0;exact DataW.trod_lt m _ _ _ hm
 obtain⟨l0,i0,hv0⟩:=FB (hval 0 52 v0 rfl rfl) h0 λn hn=>by
  have:=List.all_eq_true.1 hsz n (DataW.weights_mem_each (j:=0) rfl rfl n hn)
  simpa using this
 have lt1: ∀x∈p1,x.block<W.heap.size:=by obtain⟨m,hm⟩:=h1;exact DataW.trod_lt m _ _ _ hm
 obtain⟨l1,hv1⟩:=dt (hval 1 22 v1 rfl rfl) h1
 have lt2: ∀x∈p2,x.block<W.heap.size:=by obtain⟨m,hm⟩:=h2;exact DataW.trod_lt m _ _ _ hm
 obtain⟨l2,i2,hv2⟩:=Dz (hval 2 75 v2 rfl rfl) h2
 have lt3: ∀x∈p3,x.block<W.heap.size:=by obtain⟨m,hm⟩:=h3;exact DataW.trod_lt m _ _ _ hm
 obtain⟨l3,i3,hv3⟩:=GS (hval 3 60 v3 rfl rfl) h3
 have lt4: ∀x∈p4,x.block<W.heap.size:=by obtain⟨m,hm⟩:=h4;exact DataW.trod_lt m _ _ _ hm
 obtain⟨l4,hv4⟩:=GK (hval 4 29 v4 rfl rfl) h4
 have lt5: ∀x∈p5,x.block<W.heap.size:=by obtain⟨m,hm⟩:=h5;exact DataW.trod_lt m _ _ _ hm
 obtain⟨l5,hv5⟩:=dt (hval 5 22 v5 rfl rfl) h5
 have lt6: ∀x∈p6,x.block<W.heap.size:=by obtain⟨m,hm⟩:=h6;exact DataW.trod_lt m _ _ _ hm
 obtain⟨l6,hv6⟩:=dt (hval 6 22 v6 rfl rfl) h6
 clear hA0 hval0 hsz0
 refine((W7 l0 ⟨i0.1,i0.2.1,i0.2.2⟩ l1 l2 i2 l3 i3 l4 l5 l6).2 W (tt W) [v0,v1,v2,v3,v4,v5,v6] (by simp only[RV.partsAt];exact⟨_,_,rfl,hv0,_,_,rfl,hv1,_,_,rfl,hv2,_,_,rfl,hv3,_,_,rfl,hv4,_,_,rfl,hv5,_,_,rfl,hv6,rfl⟩)).mono λe W' ⟨v,he,bel,k',_,hr⟩=>?_
 have hr':v= .bool true:=by simpa[Res.at_,RV.at_]using hr
 subst hr';subst he
 exact⟨_,rfl,_,_,_,[],_,[],hW',trodAll_mk1 (shut_bool Tryz.underlying4 _),(trodAll_cons_mk (Below.trod rL (by kernel_rfl) (of_decide_eq_true (by kernel_rfl)) h0 bel lt0) (trodAll_cons_mk (Below.trod rL (by kernel_rfl) (of_decide_eq_true (by kernel_rfl)) h1 bel lt1) (trodAll_cons_mk (Below.trod rL (by kernel_rfl) (of_decide_eq_true (by kernel_rfl)) h2 bel lt2) (trodAll_cons_mk (Below.trod rL (by kernel_rfl) (of_decide_eq_true (by kernel_rfl)) h3 bel lt3) (trodAll_cons_mk (Below.trod rL (by kernel_rfl) (of_decide_eq_true (by kernel_rfl)) h4 bel lt4) (trodAll_cons_mk (Below.trod rL (by kernel_rfl) (of_decide_eq_true (by kernel_rfl)) h5 bel lt5) (trodAll_cons_mk (Below.trod rL (by kernel_rfl) (of_decide_eq_true (by kernel_rfl)) h6 bel lt6) trodAll_mk0))))))),rfl,bel.frame _,λh=>by cases h⟩
theorem groupWrites_holds:Rows.GroupWritesSaid:=
 OpenClaim.holds_of_wide 4 Tryz.f4 rfl rfl rfl rfl rfl rfl rfl ⟨rfl,rfl,rfl,rfl,rfl⟩ rfl rfl rfl rfl rfl (by kernel_rfl) Tryz.func4 gp
  (of_decide_eq_true (by kernel_rfl)) (by unfold Func.isWrapper;first|(rw[cO (by decide+kernel)];kernel_rfl)|(rw[cQ (by decide+kernel)];exact⟨rfl,rfl⟩))
  (λos started H enc _=>gq os started H enc)
#print axioms groupWrites_holds
end
end Go.Proofs.YtkegaaonpekkgaaGreat.Sx
