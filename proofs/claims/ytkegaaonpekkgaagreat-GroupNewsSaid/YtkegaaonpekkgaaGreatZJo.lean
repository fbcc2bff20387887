import Derived.Test.YtkegaaonpekkgaaGreatZHg
import Derived.Test.YtkegaaonpekkgaaGreatZEt
import Derived.Test.YtkegaaonpekkgaaGreatZTl
import Derived.Test.YtkegaaonpekkgaaGreatZMe
import Derived.Test.YtkegaaonpekkgaaGreatZSxBx
import Derived.Test.YtkegaaonpekkgaaGreatZEa
import Derived.Test.YtkegaaonpekkgaaGreatZHp
import Derived.Test.YtkegaaonpekkgaaGreatZIb
namespace Go.Proofs.YtkegaaonpekkgaaGreat.Sx
open Go.RowKit
section
variable {P:Program} {T:TT} {B:Bs} {N:Nat} {S:St} {a:Act} {w:World} {k:Kp} {g:Env} {o:Oper}
def zmt(P:Program)(f:FuncId)(args cells rest:List RV):Prop:=
 zjm P f/\∀w k vs,RV.partsAt w k args vs->Calls P f vs.toArray w λe w'=>∃v us,e= .returned (.tuple (v::us).toArray)/\Ext w w'/\∃k':Kp,(∀b,b<w.heap.size->k' b=k b)/\(Res.bx cells).at_ w.heap.size w' k' v/\RV.partsAt w' k' rest us
def ze1b(S:St)(cells:List RV):TF->Prop
 | .own id=>oget S.O id=some (.box (cells.map .r))
 |_=>False
def retB(T:TT)(results:List ResultVar)(cells rest:List RV)(S:St):Prop:=
 match results with
 |x::y::xs=>resv T S x (ze1b S cells)/\zo5 T S (y::xs) λrs=>Cvs rs rest
 |_=>False
theorem zflb{X0:World}{X1:Kp}(hs:SatE ⟨X0,X1,[],[]⟩ N S a w k g){id:Nat}{cells:List RV}{v:Value}(ho:oget S.O id=some (.box (cells.map .r)))(hv:v=(g id).1):(Res.bx cells).at_ X0.heap.size w k v:=by
 obtain⟨q1,q2,q3,q4⟩:=hs.owns id _ ho
 simp only[Ow.at_]at q3
 obtain⟨b,cur,t,e,hh,hkb,hsz,hc⟩:=q3
 rw[e]at hv q4
 refine⟨b,cur,t,hv,?_,hh,hkb,by simpa using hsz,λj f u hf hu=>?_⟩
 ·rcases(q4 b rfl).1 with h |h
  ·exact h
  ·simp at h
 ·exact hc j (.r f) u (by rw[List.getElem?_map,hf];rfl) hu
theorem zvn{f:FuncId}{fn:Func}{args cells rest:List RV}{c:Code}(hm:P.follows .mixedOrders=true)(hT:TOk P T)(hf:P.funcs[f]?=some fn)(hb:fn.body=some c)
  (hk:(Nat.ble args.length fn.ntmps&&(za6 fn.ntmps c&& !(fn.name== "runtime.NumGoroutine")))=true)
  (h:vcg P T c (St.args args) λe S=>(e= .ret\/e= .normal)/\∃S',Sub S S'/\retB T fn.results.toList cells rest S'):zmt P f args cells rest:=by
 simp only[Bool.and_eq_true,Nat.ble_eq,Bool.not_eq_true',beq_eq_false_iff_ne]at hk
 obtain⟨hn,hd,hname⟩:=hk
 refine⟨⟨fn,c,hf,hb,hname⟩,λw k vs hp=>?_⟩
 refine calls_of_wp hf hb ?_
 refine zaz hm hT c _ _ h ⟨w,k,[],[]⟩ fn.ntmps _ w k _ (zj7 hp hn) hd λe S0 a' w' k0 ⟨hex,S',hsub,hq⟩ hs0=>?_
 have fin:a'.defers=[]/\∃v,(results fn a'.tmps).run P w'= .ok v w'/\(λ(e:Ending) w'=>∃v us,e= .returned (.tuple (v::us).toArray)/\Ext w w'/\∃k':Kp,(∀b,b<w.heap.size->k' b=k b)/\(Res.bx cells).at_ w.heap.size w' k' v/\RV.partsAt w' k' rest us) (.returned v) w':=by
  obtain⟨k',g,hs'⟩:=hsub _ _ _ _ _ hs0
  have hext:Ext w w':=⟨hs'.keep.os,hs'.keep.tape,hs'.keep.output,hs'.keep.size,λb hb=>hs'.keep.block b hb (by simp)⟩
  have hkk: ∀b,b<w.heap.size->k' b=k b:=λb hb=>hs'.kk b hb (by simp)
  refine⟨hs'.defers,?_⟩
  unfold retB at hq
  split at hq
  ·rename_i x y xs hx
   obtain⟨h1,h2⟩:=hq
   obtain⟨fr,v,hret,hat,hr⟩:=zia hT hs' h1
   obtain⟨rs,us,hcv,hp',hlen,hr2⟩:=zhe hT hs' h2
   refine⟨.tuple (v::us).toArray,?_,v,us,rfl,hext,k',hkk,?_,hcv.at_ hp'⟩
   ·have hr3: ∀ys:List ResultVar,Sem.run P (List.mapM (zo7 a'.tmps) ys) w'=Result.ok us w'->Sem.run P (List.mapM (zo7 a'.tmps) (x::ys)) w'=Result.ok (v::us) w':=λys h=>by
     rw[List.mapM_cons,Sem.run_bind,hr]
     simp[h]
    have hr4:=hr3 _ hr2
    rw[zgk,Array.mapM_eq_mapM_toList,hx]
    simp only[Sem.run_bind,Sem.run_map,hr4]
    have hne:us≠[]:=λe=>by rw[e]at hlen;simp at hlen
    simp[hne]
   ·cases fr with
    |own id=>simp only[ze1b]at hret;simp only[TF.at_]at hat;exact zflb hs' hret hat
    |_=>exact hret.elim
  ·exact hq.elim
 rcases hex with rfl |rfl
 ·exact fin
 ·exact fin
theorem Vstep.nmS(id t:Nat){e:TypeId}{sz n:Nat}{cells:List RV}(ho:oget S.O id=some (.ch e sz n cells false))(h0:0<n){K:St->Prop}(h: ∀b c:Nat,Vstep P ⟨(t, .nm id (.slice (some ⟨b,0,none⟩) n c))::S.F,S.O,S.nx⟩ o K):Vstep P S o K:=by
 refine⟨Σ x:Nat×Nat,(h x.1 x.2).out.choose,λx=>(h x.1.1 x.1.2).out.choose_spec.choose x.2,λB N a w k Q hs0 hd=>?_,λx=>(h x.1.1 x.1.2).out.choose_spec.choose_spec.2 x.2⟩
 obtain⟨g,hs⟩:=hs0
 obtain⟨hid,_,hat,_⟩:=hs.owns id _ ho
 simp only[Ow.at_]at hat
 obtain⟨_,⟨h1,⟨h2,_⟩ |⟨_,h2,_⟩⟩ |⟨b,cap,cur,h1,h2,_⟩⟩:=hat
 ·omega
 ·cases h2
 ·have hs1:Sat B N ⟨(t, .nm id (.slice (some ⟨b,0,none⟩) n cap))::S.F,S.O,S.nx⟩ a w k:=by
   refine⟨g,hs.size,hs.defers,hs.keep,hs.kk,λt' f hf=>?_,hs.owns,hs.apart⟩
   rcases zay hf with⟨rfl,rfl⟩ |⟨_,hf⟩
   ·exact⟨hid,by simp only[TF.at_];rw[h2]⟩
   ·exact hs.facts t' f hf
  refine Oper.wp_mono ?_ ((h b cap).out.choose_spec.choose_spec.1 B N a w k Q hs1 hd)
  rintro a' w' ⟨i,k',hs'⟩
  exact⟨⟨(b,cap),i⟩,k',hs'⟩
theorem Vstep.tup(tn:Nat){xs:Array Operand}{ts:Array TypeId}{f:FuncId}{vs args cells rest:List RV}{K:St->Prop}(hop:o.op= .call {callee:= .value (.func f),args:=xs,argTypes:=ts})
  (hx:oprs S xs.toList=some vs) (hc:Cvs vs args) (hg:zmt P f args cells rest)
  (hK: ∀b:Nat,newK ⟨(tn, .nm S.nx (.pointer (some ⟨b,0,none⟩)))::S.F,(S.nx,some (.box (cells.map .r)))::S.O,S.nx+1⟩ o.dst (.r (.tu (.x (.pointer (some ⟨b,0,none⟩))::rest))) none K):Vstep P S o K:=by
 refine⟨Nat,λb=>St.new ⟨(tn, .nm S.nx (.pointer (some ⟨b,0,none⟩)))::S.F,(S.nx,some (.box (cells.map .r)))::S.O,S.nx+1⟩ o.dst (.r (.tu (.x (.pointer (some ⟨b,0,none⟩))::rest))) none,λB N a w k Q ⟨g,hs⟩ hd=>?_,λb=>by have:=hK b;rw[zaw]at this;exact this⟩
 obtain⟨⟨fn,c,hf,hb,hn⟩,hg⟩:=hg
 unfold Oper.wp
 have hr:(execOp a.eval o).run P w=(callFunc f (xs.toList.map a.eval).toArray).run P w:=by
  have hargs':xs.map a.eval=(xs.toList.map a.eval).toArray:=by apply Array.ext';simp
  simp[execOp,hop,resolve,Act.eval,Deferred.ofValue,invoke,hargs']
 rw[hr,zf7 hf hb hn]
 simp only[Oper.upon]
 refine(hg w k _ (hc.at_ (zk0 hs hx))).mono ?_
 rintro e w' ⟨v,us,rfl,hext,k',hk',hres,hrest⟩
 obtain⟨b,cur,t,rfl,hb0,hh,hkb,hsz,hcc⟩:=hres
 have hbl:b<w'.heap.size:=(Array.getElem?_eq_some_iff.1 hh).1
 have hs2:=hs.make (dst:=none) (λd h=>by cases h) hext hk' (o:= .box (cells.map .r)) (vb:=(.pointer (some ⟨b,0,none⟩),some b)) (λf hf=>by obtain⟨v,_,rfl⟩:=List.mem_map.1 hf;trivial)
  ⟨b,cur,t,rfl,hh,hkb,by simpa using hsz,λj f u hf hu=>by
   rw[List.getElem?_map]at hf
   obtain⟨v,hv,rfl⟩:=Option.map_eq_some_iff.1 hf
   exact hcc j v u hv hu⟩ (λb' hb'=>by cases hb';exact⟨hb0,hbl⟩)
 have hs3:SatE B N ⟨(tn, .nm S.nx (.pointer (some ⟨b,0,none⟩)))::S.F,(S.nx,some (.box (cells.map .r)))::S.O,S.nx+1⟩ a w' k' (g.set S.nx (.pointer (some ⟨b,0,none⟩),some b)):=by
  refine⟨hs2.size,hs2.defers,hs2.keep,hs2.kk,λt' f hf=>?_,hs2.owns,hs2.apart⟩
  rcases zay hf with⟨rfl,rfl⟩ |⟨_,hf⟩
  ·exact⟨Nat.lt_succ_self _,by simp only[TF.at_,Env.set_eq]⟩
  ·exact hs2.facts t' f hf
 exact⟨b,k',_,hs3.put hd trivial (by simp only[TF.at_,RV.at_,RV.partsAt];exact⟨_,rfl,_,_,rfl,rfl,hrest⟩)⟩
end
abbrev zwd:ByteArray:=⟨#[105,110,105,116]⟩
abbrev zwp:ByteArray:=⟨#[115,105,103,110]⟩
abbrev zPk:List RV:=[nl,nl,nl,nl, .i .u8 0,nl,nl,nl]
def zo3(a b c:List UInt8):RV:= .ag [bs a,bs b,bs c]
def zc3(box sign ident:List UInt8):Leaf:=⟨box,sign,ident,1,[],[]⟩
section
variable (ident seed x1 p1 q1 x2 p2 q2 sg pk:List UInt8) (hs:seed.length=32)
 (c1:aG 45 [bs seed,Str zwd] (.r (bs x1))) (c2:aG 49 [bs x1] (.r (.tu [bs p1,bs q1])))
 (c3:aG 45 [bs seed,Str boxS] (.r (bs x2))) (c4:aG 49 [bs x2] (.r (.tu [bs p2,bs q2])))
 (c5:aG 45 [bs seed,Str zwp] (.r (bs sg))) (c6:aG 50 [bs sg] (.r (.tu [bs pk,Er 0])))
include hs c1 c2 c3 c4 c5 c6
set_option maxHeartbeats 2000000 in
theorem zxs(z tx s2:List UInt8)(o:Leaf)(hz:zS64=z)
  (c7:aG 51 [.ag (zc3 q2 pk ident).c,bs sg,bs [],I 0] (.r (.tu [.ag o.c,Er 0])))
  (c8:aG 52 [.ag (PackP.c ⟨q1,o,z⟩)] (.r (.tu [bs tx,Er 0])))
  (c9:aG 53 [bs sg,Str kpS,bs tx] (.r (.tu [bs s2,Er 0]))):
  aG 8 [bs ident,bs seed] (.r (.tu [.ag (PackP.c ⟨q1,o,s2⟩),zo3 p1 p2 sg,Er 0])):=by
 refine aT Tryz.func8 rfl ?_
 have hzl:64=z.length:=by rw[<-hz];decide
 refine zu (by simp only[zb];omega) (zq ?_)
 refine ze c1 ?_
 refine ze c2 ?_
 refine ze c3 ?_
 refine ze c4 ?_
 refine ze c5 ?_
 refine ze c6 ?_
 refine za rfl rfl ?_
 refine Vcall.mk' c7 (zk (Cv.ag (zk (cr) (zk (cr) (zk (cr) (zk (cr) (zk (Cv.nil 1) (zk (Cv.nil 1) Cvs.nil))))))) (zk (cr) (zk (Cv.nil 1) (zn _)))) ?_
 refine zu rfl (zq ?_)
 refine aV ?_
 refine za rfl rfl ?_
 refine⟨rfl,by decide,by decide,by decide,z.length,z.map U8,hzl,by rw[zjk,hz],zw ?_⟩
 refine za rfl rfl ?_
 refine ze c8 ?_
 refine ze c9 ?_
 refine aV ?_
 refine za rfl rfl ?_
 refine za rfl rfl ?_
 refine za rfl rfl ?_
 refine za rfl rfl ?_
 exact⟨_,rfl,cr⟩
set_option maxHeartbeats 2000000 in
theorem zv3(e:Nat)(he:e≠0)(he2:e<256)
  (c7:aG 51 [.ag (zc3 q2 pk ident).c,bs sg,bs [],I 0] (.r (.tu [.ag zl.c,Er e]))):
  aG 8 [bs ident,bs seed] (.r (.tu [.ag zPk, .ag [nl,nl,nl],Er e])):=by
 refine aT Tryz.func8 rfl ?_
 refine zu (by simp only[zb];omega) (zq ?_)
 refine ze c1 ?_
 refine ze c2 ?_
 refine ze c3 ?_
 refine ze c4 ?_
 refine ze c5 ?_
 refine ze c6 ?_
 refine za rfl rfl ?_
 refine Vcall.mk' c7 (zk (Cv.ag (zk (cr) (zk (cr) (zk (cr) (zk (cr) (zk (Cv.nil 1) (zk (Cv.nil 1) Cvs.nil))))))) (zk (cr) (zk (Cv.nil 1) (zn _)))) ?_
 refine zt (by simp only[zb];omega) (zp ?_)
 refine za rfl rfl ?_
 refine za rfl rfl ?_
 exact⟨_,rfl,cr⟩
end
structure PkgV where
 init:List UInt8
 leaf:Leaf
 sig:List UInt8
 a:List UInt8
 b:List UInt8
 c:List UInt8
structure PkgV.ok (v:PkgV):Prop where
 init:v.init.length=32
 box:v.leaf.box.length=32
 sign:v.leaf.sign.length=32
 ident:v.leaf.ident.length<=64
 parent:v.leaf.parent.length=0
 lsig:v.leaf.sig.length=64
 sig:v.sig.length=64
 c:v.c.length=32
 right:v.leaf.right=true
 a:v.a.length=32
 b:v.b.length=32
 spub:v.leaf.sign=pubS v.c
theorem zro(ident seed:List UInt8)(hs:seed.length=32)(hi:ident.length<=1000):
  (¬(0<ident.length/\ident.length<=64)/\aG 8 [bs ident,bs seed] (.r (.tu [.ag zPk, .ag [nl,nl,nl],Er 3])))\/
  ((0<ident.length/\ident.length<=64)/\∃v:PkgV,v.ok/\aG 8 [bs ident,bs seed] (.r (.tu [.ag (PackP.c ⟨v.init,v.leaf,v.sig⟩),zo3 v.a v.b v.c,Er 0]))):=by
 have c1:=zc2 seed zwd (by omega) (by decide)
 have h1:=zbb seed (sB zwd) [] (n:=32) (by omega)
 generalize labB seed (sB zwd) [] 32=x1 at c1 h1
 have c2:=zs6 x1 (by omega)
 have k1:=zj1 x1
 generalize zh9 x1=p1 at c2 k1
 have e1:=zlk p1
 generalize zhp p1=q1 at c2 e1
 have c3:=zc2 seed boxS (by omega) (by decide)
 have h2:=zbb seed (sB boxS) [] (n:=32) (by omega)
 generalize labB seed (sB boxS) [] 32=x2 at c3 h2
 have c4:=zs6 x2 (by omega)
 have k2:=zj1 x2
 generalize zh9 x2=p2 at c4 k2
 have e2:=zlk p2
 generalize zhp p2=q2 at c4 e2
 have c5:=zc2 seed zwp (by omega) (by decide)
 have h3:=zbb seed (sB zwp) [] (n:=32) (by omega)
 generalize labB seed (sB zwp) [] 32=sg at c5 h3
 have c6:=zuh sg h3
 have e3:=zy6 sg
 generalize hpk:pubS sg=pk at c6 e3
 have c7:=zrs (zc3 q2 pk ident) sg [] 0 ⟨by show q2.length<=_;omega,by show pk.length<=_;omega,by show ident.length<=_;omega,by show 0<=_;omega,by show 0<=_;omega⟩ (by decide) (by show q2.length+pk.length+ident.length+0<=_;omega) (by unfold i64;omega)
 have hr:((zc3 q2 pk ident).with zS64).right=decide (0<ident.length/\ident.length<=64):=by
  unfold Leaf.right
  refine decide_eq_decide.2 ⟨λh=>⟨h.2.2.1,h.2.2.2.1⟩,λh=>⟨e2,e3,h.1,h.2,by show 0< (1:UInt8).toNat;decide,by show(1:UInt8).toNat<4;decide, .inl rfl,rfl⟩⟩
 have ht:zfn (zc3 q2 pk ident) 0=true:=rfl
 by_cases hz: ¬(0<ident.length/\ident.length<=64)
 ·refine .inl ⟨hz,?_⟩
  have he:zep (zc3 q2 pk ident) sg 0=3:=by
   unfold zep
   rw[hr,decide_eq_false hz]
   rfl
  rw[zid,he,if_neg (by decide)]at c7
  exact zv3 ident seed x1 p1 q1 x2 p2 q2 sg pk hs c1 c2 c3 c4 c5 c6 3 (by decide) (by decide) c7
 ·have hz:=Decidable.not_not.1 hz
  refine .inr ⟨hz,?_⟩
  have he:zep (zc3 q2 pk ident) sg 0=0:=by
   unfold zep
   rw[hr,decide_eq_true hz,if_pos rfl,if_pos ht,if_pos h3]
  rw[zid,if_pos he]at c7
  have hol:(slOk (zc3 q2 pk ident) sg [] 0).right=true:=by
   unfold Leaf.right
   refine decide_eq_true ⟨e2,e3,hz.1,hz.2,by show 0< (1:UInt8).toNat;decide,by show(1:UInt8).toNat<4;decide, .inl rfl,zex _ _ _⟩
  have hsh:(slOk (zc3 q2 pk ident) sg [] 0).box.length=32/\(slOk (zc3 q2 pk ident) sg [] 0).sign.length=32/\(slOk (zc3 q2 pk ident) sg [] 0).ident.length<=64/\(slOk (zc3 q2 pk ident) sg [] 0).src=1/\(slOk (zc3 q2 pk ident) sg [] 0).parent.length=0/\(slOk (zc3 q2 pk ident) sg [] 0).sig.length=64/\(slOk (zc3 q2 pk ident) sg [] 0).sign=pubS sg:=⟨e2,e3,hz.2,rfl,rfl,zex _ _ _,hpk.symm⟩
  generalize slOk (zc3 q2 pk ident) sg [] 0=o at c7 hol hsh
  obtain⟨o1,o2,o3,o4,o5,o6,o7⟩:=hsh
  have hzl:zS64.length=64:=by decide
  have hf:PackP.fit ⟨q1,o,zS64⟩:=⟨by show q1.length<=_;omega,⟨by show o.box.length<=_;omega,by show o.sign.length<=_;omega,by show o.ident.length<=_;omega,by show o.parent.length<=_;omega,by show o.sig.length<=_;omega⟩,by show zS64.length<=_;omega⟩
  have c8:=z43 ⟨q1,o,zS64⟩ hf
  have hpr:PackP.right ⟨q1,o,zS64⟩=true:=by
   unfold PackP.right
   rw[show(PackP.mk q1 o zS64).leaf=o from rfl,hol,o4]
   show(decide (q1.length=32)&&(true&&decide ((1:UInt8)=1)&&decide (zS64.length=64)))=true
   rw[decide_eq_true e1,decide_eq_true hzl]
   rfl
  have htl:(zgj ⟨q1,o,zS64⟩).length<=500000000:=by
   have hv:=zag q1
   have hL:=zi9 o
   simp only[zgj,aL,zak]
   omega
  rw[hpr]at c8
  generalize zgj ⟨q1,o,zS64⟩=tx at c8 htl
  have c9:=zs9 sg kpS tx h3 (by decide) htl
  have hs2:=zex sg (sB kpS) tx
  generalize zh8 sg (sB kpS) tx=s2 at c9 hs2
  exact⟨⟨q1,o,s2,p1,p2,sg⟩,⟨e1,o1,o2,o3,o5,o6,hs2,h3,hol,k1,k2,o7⟩,zxs ident seed x1 p1 q1 x2 p2 q2 sg pk hs c1 c2 c3 c4 c5 c6 zS64 tx s2 o rfl c7 c8 c9⟩
theorem z8f(ident seed:List UInt8)(hs:seed.length=32)(hi:ident.length<=64):
  (ident.length=0/\aG 8 [bs ident,bs seed] (.r (.tu [.ag zPk, .ag [nl,nl,nl],Er 3])))\/
  (ident.length≠0/\∃v:PkgV,v.ok/\aG 8 [bs ident,bs seed] (.r (.tu [.ag (PackP.c ⟨v.init,v.leaf,v.sig⟩),zo3 v.a v.b v.c,Er 0]))):=by
 rcases zro ident seed hs (by omega)with⟨h,c⟩ |⟨h,c⟩
 ·exact .inl ⟨by omega,c⟩
 ·exact .inr ⟨by omega,c⟩
theorem zv2(ident seed:List UInt8)(hs:seed.length≠32):aG 8 [bs ident,bs seed] (.r (.tu [.ag zPk, .ag [nl,nl,nl],Er 1])):=by
 refine aT Tryz.func8 rfl ?_
 refine zt (by simp only[zb];omega) (zp ?_)
 refine za rfl rfl ?_
 refine za rfl rfl ?_
 exact⟨_,rfl,cr⟩
section
set_option maxRecDepth 20000
section
variable {P:Program} {S:St} {o:Oper} {x y:Operand} {t t2 e:TypeId} {K:RV->Prop}
theorem z05{w:World}{m:Nat}(hu:P.underlying t=some (.pointer e)):(Op.equalIn (m+1) t (.pointer none) (.pointer none)).run P w= .ok true w:=by simp[Op.equalIn,run_underlying hu w]
theorem z6a{w:World}(hu:P.underlying t=some (.pointer e)):(Op.equal t (.pointer none) (.pointer none)).run P w= .ok true w:=z05 (m:=9999) hu
theorem Vfun.nn(e:TypeId)(hop:o.op= .binOp .eql t x y t2)(hx:opr S x=some (.r (.x (.pointer none))))(hy:opr S y=some (.r (.x (.pointer none))))(hu:P.underlying t=some (.pointer e))(hK:K (.b true)):Vfun P S o [x,y] K:=by
 refine⟨[.x (.pointer none), .x (.pointer none)],by simp only[oprs,hx,hy,St.rv], .b true,λa w k h=>?_,hK⟩
 obtain⟨u,v,e1,h1,h2⟩:=znz h
 simp only[RV.at_]at h1 h2
 subst h1;subst h2
 simp only[List.map_cons,List.map_nil,List.cons.injEq,and_true]at e1
 refine⟨.bool true,?_,by simp only[RV.at_]⟩
 simp[execOp,hop,e1.1,e1.2,eqGuard,binOp,z6a hu]
end
abbrev np:RV:= .x (.pointer none)
abbrev ns:RV:= .x (.slice none 0 0)
end
section
variable {P:Program} {S:St} {o:Oper} {x y:Operand} {t t2 e:TypeId} {K:RV->Prop}
theorem Vfun.pn(e:TypeId){cells:List RV}(hop:o.op= .binOp .eql t x y t2)(hx:opr S x=some (.r (.ptr cells)))(hy:opr S y=some (.r (.x (.pointer none))))(hu:P.underlying t=some (.pointer e))(hK:K (.b false)):Vfun P S o [x,y] K:=by
 refine⟨[.ptr cells, .x (.pointer none)],by simp only[oprs,hx,hy,St.rv], .b false,λa w k h=>?_,hK⟩
 obtain⟨u,v,e1,h1,h2⟩:=znz h
 simp only[RV.at_]at h1 h2
 obtain⟨b,q,rfl,_⟩:=h1
 subst h2
 simp only[List.map_cons,List.map_nil,List.cons.injEq,and_true]at e1
 refine⟨.bool false,?_,by simp only[RV.at_]⟩
 simp[execOp,hop,e1.1,e1.2,eqGuard,binOp,zkd _ hu]
end
abbrev aO(l:List (List UInt8)):List (Nat×Ow):=[(0, .ch 22 1 l.length (l.map bs) false)]
def hash1(lf:Leaf):List UInt8:=shaB (zhu 0 (L1 lf))
theorem zht(lf:Leaf):(hash1 lf).length=32:=zcd _
theorem zgcb(v:Value)(lf:Leaf)(hlf:lf.fit):Acts aP 201 1 (aO [[]]) [.r (nods [L1 lf]), .r (I 0), .own 0] [(0,v)] 1 (aO [hash1 lf]) (.r (bs (hash1 lf))):=by
 refine zah (T:=Tab) mixed Tab_ok Tryz.func201 rfl (by kernel_rfl) rfl ⟨⟨_,_,rfl,rfl,z9i (Nat.succ_pos _),z9i (Nat.succ_pos _)⟩,trivial⟩ ?_
 have ht:=z0l 0 (L1 lf) (zdx hlf)
 have hl:=z89 0 (L1 lf) (zdx hlf)
 unfold hash1
 generalize zhu 0 (L1 lf)=q at ht hl
 generalize zyg 0 (L1 lf)=e at ht
 have hs:=zfu (zoq [q] (by simp;omega))
 have e1:([q]:List (List UInt8)).flatMap id=q:=by simp
 rw[e1]at hs
 generalize shaB q=h at hs
 refine⟨by decide,0,by decide,?_⟩
 refine zt rfl (zp ?_)
 refine⟨by decide,0,by decide,?_⟩
 refine zm i00 i01 (idx0 lf) ?_
 refine za rfl rfl ?_
 refine ze ht ?_
 refine zw ?_
 refine ze hs ?_
 refine Vadr.mk' 0 rfl (by decide) ?_
 refine⟨by decide,[bs h],rfl,?_⟩
 refine Vadr.mk' 0 rfl (by decide) ?_
 refine zg rfl ?_
 exact zan (.inl rfl) [(0,0)] [(6, .r (bs h))] [] rfl (by repeat' (first|exact rfl|exact trivial|exact cr|exact Cv.nil _|exact⟨rfl,rfl⟩|refine⟨_,_,rfl,?_,?_⟩|refine⟨?_,?_⟩)) (by repeat' (first|exact rfl|exact trivial|exact cr|exact Cv.nil _|exact⟨rfl,rfl⟩|refine⟨_,_,rfl,?_,?_⟩|refine⟨?_,?_⟩)) ⟨⟨1000000,rfl⟩,trivial⟩ (cr)
theorem z7r(lf:Leaf)(hlf:lf.fit)(hlr:lf.right=true):aG 116 [nods [L1 lf]] (.r (.tu [bss [hash1 lf],Er 0])):=by
 refine za1 (T:=Tab) mixed Tab_ok Tryz.func116 rfl (by kernel_rfl) ?_
 refine ze (zi2 lf hlf hlr) ?_
 refine zu rfl (zq ?_)
 refine⟨rfl,(by show(0:Int)<=((1:Nat):Int);decide),(by show((1:Nat):Int).toNat*24<=140737488355328;decide),(by show((1:Nat):Int).toNat<=maxLen;decide),1,[nl],rfl,rfl,Vpub.own ?_⟩
 refine⟨by decide,0,(by show(0:Int)=IntKind.i64.wrap (((1:Nat):Int).tdiv 2);decide),?_⟩
 have hf:=λv=>zgcb v lf hlf
 generalize hash1 lf=h at hf
 refine zj [(0,0)] [0] (λvs _=>hf (vs 0)) (zi rfl ⟨_,_,rfl,cr,_,_,rfl,cr,_,_,rfl,rfl,rfl⟩) rfl (by repeat' (first|exact rfl|exact trivial|exact cr|exact Cv.nil _|exact⟨rfl,rfl⟩|refine⟨_,_,rfl,?_,?_⟩|refine⟨?_,?_⟩)) ⟨zlb,trivial⟩ ?_
 refine⟨_,zbd (id:=0) rfl,?_⟩
 exact⟨_,rfl,cr⟩
theorem zov(lf:Leaf)(hlf:lf.fit)(hlr:lf.right=true):aG 43 [nods [L1 lf]] (.r (.tu [bs (hash1 lf),Er 0])):=by
 refine aT Tryz.func43 rfl ?_
 refine ze (z7r lf hlf hlr) ?_
 refine zu rfl (zq ?_)
 refine⟨by decide,0,(by show(0:Int)=IntKind.i64.wrap (((1:Nat):Int).tdiv 2);decide),?_⟩
 refine zm i00 i01 rfl ?_
 refine zg rfl ?_
 exact⟨_,rfl,cr⟩
abbrev stR(v:ViewP)(o:Leaf)(sg:List UInt8):List RV:=[bs v.ctx.group, .i .u64 v.ctx.epoch,bs v.ctx.tree,bs v.ctx.trans,I v.own,bs v.interim,bs v.tag,bs v.sec.jn,bs v.sec.wl,bs v.sec.ep,bs v.sec.sd,bs v.sec.en,bs v.sec.ex,bs v.sec.au,bs v.sec.xt,bs v.sec.cf,bs v.sec.mb,bs v.sec.rs,bs v.sec.it,keyR [v.key],nods [L1 o],bs sg,ns,ns]
theorem zxk(v:ViewP)(o:Leaf)(sg:List UInt8)(hv:v.sm)(ho:o.fit)(hs:sg.length<=1000000):aG 69 [.ag (stR v o sg)] (.r (.ag (stR v o sg))):=by
 refine aT Tryz.func69 rfl ?_
 have c1:=z4o v hv
 have c2:=z1w o ho
 refine aV ?_
 refine za rfl rfl ?_
 refine ze c1 ?_
 refine ze c2 ?_
 refine ze (zbx sg (by omega)) ?_
 refine Vloop.rounds 1 (Vrounds.step mixed Tab_ok ?_)
 refine zu rfl (zq ?_)
 refine Vloop.rounds 1 (Vrounds.step mixed Tab_ok ?_)
 refine zu rfl (zq ?_)
 refine za rfl rfl ?_
 refine za rfl rfl ?_
 exact cr
abbrev grR(v:ViewP)(o:Leaf)(sg:List UInt8):List RV:=[bs v.ctx.group, .i .u64 v.ctx.epoch,bs v.ctx.tree,bs v.ctx.trans,I v.own,bs v.interim,bs v.tag,bs v.sec.jn,bs v.sec.wl,bs v.sec.ep,bs v.sec.sd,bs v.sec.en,bs v.sec.ex,bs v.sec.au,bs v.sec.xt,bs v.sec.cf,bs v.sec.mb,bs v.sec.rs,bs v.sec.it,keyR [v.key],nods [L1 o],bs sg,ns,ns,ns,ns, .i .u64 0,ns,ns,I 0,ns,ns,ns,ns,ns,ns,ns,ns,ns,ns,ns,ns,ns,ns,ns,ns,ns,ns,ns]
theorem z10(v:ViewP)(o:Leaf)(sg:List UInt8)(hv:v.sm)(ho:o.fit)(hs:sg.length<=1000000):aG 17 [.ptr (grR v o sg)] (.r (.ag (stR v o sg))):=by
 refine aT Tryz.func17 rfl ?_
 have c1:=zxk v o sg hv ho hs
 refine Vfun.pn _ rfl rfl rfl Tryz.underlying24 (zq ?_)
 refine za rfl rfl ?_
 refine ze c1 ?_
 refine za rfl rfl ?_
 exact cr
theorem zhs:aG 46 [] (.r (bs z32)):=by
 refine aT Tryz.func46 rfl ?_
 refine⟨rfl,by decide,by decide,by decide,_,_,rfl,zs32,zw ?_⟩
 exact cr
theorem zd8(o:Leaf):Cv (.sl 10 1 [.i .u8 1,bs o.box,bs o.sign,bs o.ident,U8 o.src,bs o.parent,bs o.sig,nl,nl,nl]) (nods [L1 o]):=
 Cv.sl (zk (cr) (zk (cr) (zk (cr) (zk (cr) (zk (cr) (zk (cr) (zk (cr) (zk (Cv.nil 1) (zk (Cv.nil 1) (zk (Cv.nil 1) Cvs.nil))))))))))
set_option maxHeartbeats 2000000 in
theorem zxr(id ident seed q1 s2 p1 p2 sg th x z tg it:List UInt8)(o:Leaf)(s:SecP)(hid:id.length<=64)
  (cp:aG 8 [bs ident,bs seed] (.r (.tu [.ag (PackP.c ⟨q1,o,s2⟩),zo3 p1 p2 sg,Er 0])))
  (ct:aG 43 [nods [L1 o]] (.r (.tu [bs th,Er 0])))
  (cs:aG 45 [bs seed,Str grpS] (.r (bs x)))
  (cz:aG 46 [] (.r (bs z)))
  (cn:aG 44 [bs x,bs z, .ag (CtxP.c ⟨id,0,th,[]⟩)] (.r (.ag s.c)))
  (cg:aG 47 [.ag s.c,bs []] (.r (bs tg)))
  (ci:aG 48 [bs [],bs tg] (.r (bs it))):
  aG 7 [bs id,bs ident,bs seed] (.r (.tu [.ptr (grR ⟨⟨id,0,th,[]⟩,0,it,tg,s,⟨0,p2⟩⟩ o sg),Er 0])):=by
 refine za1 (T:=Tab) mixed Tab_ok Tryz.func7 rfl (by kernel_rfl) ?_
 refine zu (by simp only[zb];omega) (zq ?_)
 refine ze cp ?_
 refine zu rfl (zq ?_)
 refine za rfl rfl ?_
 refine zw ?_
 refine ze (zbx id (by omega)) ?_
 refine Vcall.mk' ct (zk (zd8 o) Cvs.nil) ?_
 refine aV ?_
 refine ze cs ?_
 refine ze cz ?_
 refine za rfl rfl ?_
 refine Vcall.mk' cn (zk (cr) (zk (cr) (zk (Cv.ag (zk (cr) (zk (cr) (zk (cr) (zk (Cv.nil 1) Cvs.nil))))) Cvs.nil))) ?_
 refine za rfl rfl ?_
 refine Vcall.mk' cg (zk (cr) (zk (Cv.nil 1) Cvs.nil)) ?_
 refine Vcall.mk' ci (zk (Cv.nil 1) (zk (cr) Cvs.nil)) ?_
 refine zw ?_
 refine za rfl rfl ?_
 refine⟨_,Sub.trans (zac [(0,6)] (S':=⟨[(6, .own 0),(7, .r (Er 0))],[(0,some (.box ((grR ⟨⟨id,0,th,[]⟩,0,it,tg,s,⟨0,p2⟩⟩ o sg).map TF.r)))],1⟩) rfl (by repeat' (first|exact rfl|exact trivial|exact cr|exact Cv.nil _|exact⟨rfl,rfl⟩|refine⟨_,_,rfl,?_,?_⟩|refine⟨?_,?_⟩)) (by repeat' (first|exact rfl|exact trivial|exact cr|exact Cv.nil _|exact zd8 _|exact⟨rfl,rfl⟩|refine⟨_,_,rfl,?_,?_⟩|refine⟨?_,?_⟩))) (zcq (t:=6) (grR ⟨⟨id,0,th,[]⟩,0,it,tg,s,⟨0,p2⟩⟩ o sg) rfl rfl),?_⟩
 exact⟨_,rfl,cr⟩
theorem z77(id ident seed q1 s2 p1 p2 sg th x z tg it:List UInt8)(o:Leaf)(s:SecP)(hid:id.length<=64)
  (cp:aG 8 [bs ident,bs seed] (.r (.tu [.ag (PackP.c ⟨q1,o,s2⟩),zo3 p1 p2 sg,Er 0])))
  (ct:aG 43 [nods [L1 o]] (.r (.tu [bs th,Er 0])))
  (cs:aG 45 [bs seed,Str grpS] (.r (bs x)))
  (cz:aG 46 [] (.r (bs z)))
  (cn:aG 44 [bs x,bs z, .ag (CtxP.c ⟨id,0,th,[]⟩)] (.r (.ag s.c)))
  (cg:aG 47 [.ag s.c,bs []] (.r (bs tg)))
  (ci:aG 48 [bs [],bs tg] (.r (bs it))):
  zmt aP 7 [bs id,bs ident,bs seed] (grR ⟨⟨id,0,th,[]⟩,0,it,tg,s,⟨0,p2⟩⟩ o sg) [Er 0]:=by
 refine zvn (T:=Tab) mixed Tab_ok Tryz.func7 rfl (by kernel_rfl) ?_
 refine zu (by simp only[zb];omega) (zq ?_)
 refine ze cp ?_
 refine zu rfl (zq ?_)
 refine za rfl rfl ?_
 refine zw ?_
 refine ze (zbx id (by omega)) ?_
 refine Vcall.mk' ct (zk (zd8 o) Cvs.nil) ?_
 refine aV ?_
 refine ze cs ?_
 refine ze cz ?_
 refine za rfl rfl ?_
 refine Vcall.mk' cn (zk (cr) (zk (cr) (zk (Cv.ag (zk (cr) (zk (cr) (zk (cr) (zk (Cv.nil 1) Cvs.nil))))) Cvs.nil))) ?_
 refine za rfl rfl ?_
 refine Vcall.mk' cg (zk (cr) (zk (Cv.nil 1) Cvs.nil)) ?_
 refine Vcall.mk' ci (zk (Cv.nil 1) (zk (cr) Cvs.nil)) ?_
 refine zw ?_
 refine za rfl rfl ?_
 refine⟨by first|exact .inl rfl|exact .inr rfl,_,(zac [(0,6)] (S':=⟨[(6, .own 0),(7, .r (Er 0))],[(0,some (.box ((grR ⟨⟨id,0,th,[]⟩,0,it,tg,s,⟨0,p2⟩⟩ o sg).map TF.r)))],1⟩) rfl (by repeat' (first|exact rfl|exact trivial|exact cr|exact Cv.nil _|exact⟨rfl,rfl⟩|refine⟨_,_,rfl,?_,?_⟩|refine⟨?_,?_⟩)) (by repeat' (first|exact rfl|exact trivial|exact cr|exact Cv.nil _|exact zd8 _|exact⟨rfl,rfl⟩|refine⟨_,_,rfl,?_,?_⟩|refine⟨?_,?_⟩))),rfl,zn _⟩
theorem zb9b(a b:List UInt8)(h:a.length+b.length<=100000000000):aG 67 [bs a,bs b] (.r (bs (a++b))):=by
 refine aT Tryz.func67 rfl ?_
 refine zw ?_
 refine Vapp.mk' (j:=a.length) (zs:=a.map U8) (by simp only[maxLen];omega) (by show _*1<=_;omega) (by omega) (by simp) ?_
 refine Vapp.mk' (j:=(a++b).length) (zs:=(a++b).map U8) (by simp only[maxLen];omega) (by show _*1<=_;omega) (by simp) (by simp) ?_
 exact cr
theorem z1x(x:CtxP)(hx:x.fit):aG 59 [.ag x.c] (.r (bs (ctxB x))):=by
 obtain⟨h1,h2,h3,h4⟩:=hx
 have v1:=zag x.group
 have v2:=zag x.tree
 have v3:=zag x.trans
 have b2:(beB 2 1).length=2:=zak _ _
 have b8:(beB 8 x.epoch).length=8:=zak _ _
 refine aT Tryz.func59 rfl ?_
 refine aV ?_
 refine ze (z14 1 (by decide)) ?_
 refine ze (z14 1 (by decide)) ?_
 refine ze (ztf x.group (by omega)) ?_
 refine ze (zuj (beB 2 1) (beB 2 1) (vecB x.group) (by omega) (by omega) (by omega)) ?_
 refine ze (zil 8 x.epoch (by decide) h2) ?_
 refine ze (zlu (beB 2 1++beB 2 1++vecB x.group) (beB 8 x.epoch) (by simp only[aL];omega) (by omega)) ?_
 refine ze (ztf x.tree (by omega)) ?_
 refine ze (ztf x.trans (by omega)) ?_
 refine zw ?_
 refine ze (zuj (vecB x.tree) (vecB x.trans) [0] (by omega) (by omega) (by simp)) ?_
 refine ze (zlu (beB 2 1++beB 2 1++vecB x.group++beB 8 x.epoch) (vecB x.tree++vecB x.trans++[0]) (by simp only[aL];omega) (by simp only[aL,List.length_cons,List.length_nil];omega)) ?_
 exact zf (by simp only[ctxB,List.append_assoc];rfl)
theorem zcs(s:List UInt8)(label:ByteArray)(hs:s.length<=1000000000)(hl:label.size<=1000000):aG 56 [bs s,Str label] (.r (bs (labB s (sB label) [] 32))):=by
 refine aT Tryz.func56 rfl ?_
 refine Vcall.mk' (zjr s label [] 32 (by omega) hs (by omega) (by decide)) (zk (cr) (zk (cr) (zk (Cv.nil 1) (zn _)))) ?_
 exact cr
theorem zv1(j z:List UInt8)(hz:32=z.length)(hzm:(List.replicate ((32:Int).toNat) ([Value.int .u8 0].map ofC)).flatten=z.map U8)(hj:j.length<=1000000000):aG 57 [bs j] (.r (bs (macB j z))):=by
 refine aT Tryz.func57 rfl ?_
 refine⟨rfl,by decide,by decide,by decide,z.length,z.map U8,hz,hzm,zw ?_⟩
 refine ze (zs5 j z hj (by omega)) ?_
 exact cr
theorem z4w(j:List UInt8)(hj:j.length<=1000000000):aG 57 [bs j] (.r (bs (macB j z32))):=zv1 j z32 rfl rfl hj
theorem zxl(j m cx:List UInt8)(x:CtxP)(hm:m.length<=1000000)(hcx:cx.length<=1048576)(c1:aG 57 [bs j] (.r (bs m)))(c2:aG 59 [.ag x.c] (.r (bs cx))):
  aG 55 [bs j, .ag x.c] (.r (bs (labB m (sB epoS) cx 32))):=by
 refine aT Tryz.func55 rfl ?_
 refine aV ?_
 refine ze c1 ?_
 refine za rfl rfl ?_
 refine ze c2 ?_
 refine ze (zjr m epoS cx 32 (by omega) (by omega) (by decide) hcx) ?_
 exact cr
theorem z4u(init commit:List UInt8)(x:CtxP)(hx:x.fit)(hs:x.group.length+x.tree.length+x.trans.length<=1000000)(hi:init.length<=1000000000)(hc:commit.length<=1000000000):aG 11 [bs init,bs commit, .ag x.c] (.r (bs (ze7 init commit (ctxB x)))):=by
 have hb:=zgq x
 have hm:=zbm init commit
 refine aT Tryz.func11 rfl ?_
 refine aV ?_
 refine ze (zs5 init commit (by omega) (by omega)) ?_
 refine za rfl rfl ?_
 refine ze (z1x x hx) ?_
 refine ze (zjr (macB init commit) jnrS (ctxB x) 32 (by omega) (by omega) (by decide) (by omega)) ?_
 exact cr
theorem z8c(j m ep:List UInt8)(x:CtxP)(hm:m.length<=1000000)(he:ep.length<=1000000)(c1:aG 57 [bs j] (.r (bs m)))(c2:aG 55 [bs j, .ag x.c] (.r (bs ep))):
  aG 10 [bs j, .ag x.c] (.r (.ag (secE j (labB m (sB wlcS) [] 32) ep).c)):=by
 refine aT Tryz.func10 rfl ?_
 refine za rfl rfl ?_
 refine ze c2 ?_
 refine ze c1 ?_
 refine ze (zcs m wlcS (by omega) (by decide)) ?_
 refine ze (zcs ep sndS (by omega) (by decide)) ?_
 refine ze (zcs ep encS (by omega) (by decide)) ?_
 refine ze (zcs ep expS (by omega) (by decide)) ?_
 refine ze (zcs ep autS (by omega) (by decide)) ?_
 refine ze (zcs ep xtlS (by omega) (by decide)) ?_
 refine ze (zcs ep cfmS (by omega) (by decide)) ?_
 refine ze (zcs ep mbrS (by omega) (by decide)) ?_
 refine ze (zcs ep rsmS (by omega) (by decide)) ?_
 refine ze (zcs ep iniS (by omega) (by decide)) ?_
 refine za rfl rfl ?_
 exact cr
theorem zjub(j:List UInt8)(x:CtxP)(hx:x.fit)(hs:x.group.length+x.tree.length+x.trans.length<=1000000)(hj:j.length<=1000000000):aG 10 [bs j, .ag x.c] (.r (.ag (schS j (ctxB x)).c)):=by
 have hb:=zgq x
 have hm:=zbm j z32
 have c1:=z4w j hj
 have c2:=z1x x hx
 unfold schS
 generalize macB j z32=m at c1 hm
 have c3:=zxl j m (ctxB x) x (by omega) (by omega) c1 c2
 have he:(labB m (sB epoS) (ctxB x) 32).length=32:=zbb _ _ _ (n:=32) (by omega)
 generalize labB m (sB epoS) (ctxB x) 32=ep at c3 he
 exact z8c j m ep x (by omega) (by omega) c1 c3
theorem z0s(c tag:List UInt8)(hc:c.length<=1000000)(ht:tag.length<=1000000):aG 15 [bs c,bs tag] (.r (bs (intB c tag))):=by
 have v:=zag tag
 refine aT Tryz.func15 rfl ?_
 refine ze (zce tag (by omega)) ?_
 refine ze (zb9b c (vecB tag) (by omega)) ?_
 refine ze (ziw (c++vecB tag) (by rw[aL];omega)) ?_
 exact cr
end Go.Proofs.YtkegaaonpekkgaaGreat.Sx
