import Derived.Test.YtkegaaonpekkgaaGreatZYm
import Derived.Test.YtkegaaonpekkgaaGreatZTp
import Derived.Test.YtkegaaonpekkgaaGreatZEe
import Derived.Test.YtkegaaonpekkgaaGreatZYa
import Derived.Test.YtkegaaonpekkgaaGreatZSxU
import Derived.Test.YtkegaaonpekkgaaGreatZHa
namespace Go.Proofs.YtkegaaonpekkgaaGreat.Sx
open Go.RowKit
theorem z80{u r:Fin pC}(h:r*r=u*u)(hr:r.val%2=0)(odd:Bool)(ho:odd=true↔u.val%2=1):(if odd=true then 0-r else r)=u:=by
 by_cases hu:u=0
 ·subst hu
  have:r=0:=edC.sq (by rw[h];grind)
  subst this
  split<;>grind
 ·have hp:=z0v hu
  rcases pm h with rfl |rfl
  ·rw[if_neg]
   intro e
   have:=ho.1 e
   omega
  ·rw[if_pos (ho.2 (by omega))]
   grind
theorem z05{y:Fe}(hy:y.Sm){P:EPt dF}(h:y.F=P.y)(odd:Bool)(ho:odd=true↔P.x.val%2=1):
  (za4 (zbn y)).2=true/\(negF odd (za4 (zbn y)).1).Sm/\(negF odd (za4 (zbn y)).1).F=P.x/\(za4 (zbn y)).1.Sm/\(za4 (zbn y)).1.F*(za4 (zbn y)).1.F=P.x*P.x/\(za4 (zbn y)).1.F.val%2=0:=by
 obtain⟨h1,h2,h3,h4⟩:=ze5b (zc3b y) P.x (zc2b hy h)
 have e:=z80 h3 h4 odd ho
 generalize za4 (zbn y)=rr at*
 obtain⟨r,ok⟩:=rr
 simp only at*
 have hn:(Fe.sub fz r).F=0-r.F:=by
  have:=zim zum h2
  rw[fz_F]at this
  exact this
 refine⟨h1,?_,?_,h2,h3,h4⟩
 ·cases odd with
  |true=>exact ze6 _ _
  |false=>exact h2
 ·cases odd with
  |true=>
   rw[if_pos rfl]at e
   exact hn.trans e
  |false=>exact e
theorem zfob(b:UInt8)(t:Nat):(b|||128).toNat.testBit t=(b.toNat.testBit t||decide (t=7)):=by
 rw[UInt8.toNat_or,Nat.testBit_or,show(128:UInt8).toNat=2^7 from rfl,Nat.testBit_two_pow]
 congr 1
 exact decide_eq_decide.2 (by omega)
theorem zejb(b:UInt8)(t:Nat):(b&&&127).toNat.testBit t=(b.toNat.testBit t&&decide (t<7)):=by
 rw[UInt8.toNat_and,Nat.testBit_and,show(127:UInt8).toNat=2^7-1 from rfl,Nat.testBit_two_pow_sub_one]
theorem zapb(b:List UInt8):oddB b=bitO b 255:=by
 have h:=(b.getD 31 0).toNat_lt
 have e:bitO b 255=decide ((b.getD 31 0).toNat/2^7%2=1):=by
  unfold bitO
  exact Nat.testBit_eq_decide_div_mod_eq
 unfold oddB
 rw[e,Bool.eq_iff_iff,beq_iff_eq,decide_eq_true_eq,show(2:Int)^(min (7:Int).toNat 8)=128 from rfl,Int.fdiv_eq_ediv_of_nonneg _ (by decide)]
 omega
theorem zalb(b:List UInt8)(hb:b.length=32)(n:Nat)(hn:n<256):bitO (lowB b) n=(bitO b n&&decide (n<255)):=by
 unfold lowB
 rw[zoy _ _ _ (by omega)]
 split
 ·next h=>
  rw[zejb,bitO,h]
  congr 1
  exact decide_eq_decide.2 (by omega)
 ·next h=>rw[decide_eq_true (by omega),Bool.and_true]
theorem zqw(p:Pt):p.bytes.length=32:=by
 unfold Pt.bytes
 split
 ·rw[List.length_set,Fe.bytes_len]
 ·exact Fe.bytes_len _
theorem z3w(p:Pt)(n:Nat)(hn:n<256):bitO p.bytes n=(bitO (p.y.mul p.z.inv).bytes n||(decide (n=255)&&(p.x.mul p.z.inv).odd)):=by
 unfold Pt.bytes
 split
 ·next h=>
  rw[h,Bool.and_true,zoy _ _ _ (by rw[Fe.bytes_len];decide)]
  split
  ·next h1=>
   rw[zfob,bitO,h1]
   congr 1
   exact decide_eq_decide.2 (by omega)
  ·next h1=>rw[decide_eq_false (by omega),Bool.or_false]
 ·next h=>
  rw[Bool.eq_false_iff.2 h,Bool.and_false,Bool.or_false]
theorem zsn{p:Pt}{P:EPt dF}(r:CurP p P): ∃q,decP p.bytes=some q/\CurP q P:=by
 have hz:=zur r.sz r.rep.ne
 have sz:=zqm r.sz
 have hX:(p.x.mul p.z.inv).F=P.x:=by
  rw[zbw r.sx sz,r.rep.hx]
  generalize p.z.F=z at*
  generalize p.z.inv.F=w at*
  grind
 have hY:(p.y.mul p.z.inv).F=P.y:=by
  rw[zbw r.sy sz,r.rep.hy]
  generalize p.z.F=z at*
  generalize p.z.inv.F=w at*
  grind
 have sY:(p.y.mul p.z.inv).Sm:=zbs _ _
 have hb:=z3w p
 have hl:=zqw p
 have ho:=z0x (p.x.mul p.z.inv)
 rw[hX]at ho
 generalize p.x.mul p.z.inv=X at*
 generalize p.y.mul p.z.inv=Y at*
 generalize p.bytes=b at*
 have e1:Fe.of b=Y.least:=zeqb b Y λn hn=>by
  rw[hb n (by omega),decide_eq_false (by omega),Bool.false_and,Bool.or_false]
 have e2:lowB b=Y.bytes:=z4t (by unfold lowB;rw[List.length_set,hl,Fe.bytes_len]) λn hn=>by
  have h32:(lowB b).length=32:=by unfold lowB;rw[List.length_set,hl]
  rw[h32]at hn
  rw[zalb b hl n (by omega),hb n (by omega)]
  by_cases h:n<255
  ·rw[decide_eq_true h,decide_eq_false (by omega),Bool.false_and,Bool.or_false,Bool.and_true]
  ·obtain rfl:n=255:=by omega
   rw[zsj]
   simp
 have e3:oddB b=X.odd:=by
  rw[zapb,hb 255 (by omega),zsj]
  simp
 have hy:Y.least.F=P.y:=(zr4 Y).trans hY
 obtain⟨k1,k2,k3,k4,k5,k6⟩:=z05 (zwt Y) hy (oddB b) (by rw[e3];exact ho)
 refine⟨Pt.of (negF (oddB b) (za4 (zbn (Fe.of b))).1) (Fe.of b),?_,?_⟩
 ·unfold decP
  rw[if_pos hl,e1,if_pos (by rw[zyu,e2]),if_pos]
  refine⟨k1,λ⟨c1,c2⟩=>?_⟩
  have z:=(zfs _ _).1 c1
  rw[fz_F]at z
  rw[e3]at c2
  have c3:=ho.1 c2
  have:P.x=0:=edC.sq (by rw[<-k5,z];grind)
  rw[this]at c3
  exact absurd c3 (by decide+kernel)
 ·rw[e1]
  exact z3r k2 (zwt Y) k3.symm hy.symm
theorem zz8:(numF 5).F≠0:=by
 rw[zif]
 exactλe=>absurd (congrArg Fin.val e) (by decide+kernel)
theorem baseY_F:baseY.F=Fin.ofNat pC yB:=by
 have h1:=zur (zgd 5) zz8
 have h2:baseY.F=(numF 4).F*(numF 5).inv.F:=by
  rw[<-zbw (zgd 4) (zqm (zgd 5))]
  unfold baseY
  rfl
 have h3:(numF 5).F*Fin.ofNat pC yB=(numF 4).F:=by
  rw[zif,zif]
  decide+kernel
 refine edC.canc zz8 ?_
 rw[h3,h2]
 generalize (numF 5).F=a at*
 generalize (numF 5).inv.F=b at*
 generalize (numF 4).F=c at*
 grind
theorem zu7:baseY.Sm:=by
 unfold baseY
 exact zbs _ _
theorem z3q(x:Fe):negF false x=x:=rfl
theorem zri:CurP baseP bP:=by
 have hp:bP.x.val%2=0:=by decide+kernel
 obtain⟨k1,k2,k3,k4,k5,k6⟩:=z05 (P:=bP) zu7 baseY_F false ⟨λh=>absurd h (by decide),λh=>by rw[hp]at h;exact absurd h (by decide)⟩
 have:baseP=Pt.of (za4 (zbn baseY)).1 baseY:=by unfold baseP;rfl
 rw[this]
 rw[z3q]at k3
 clear k2
 generalize (za4 (zbn baseY)).1=r at*
 exact z3r k4 zu7 k3.symm baseY_F.symm
theorem ze7b{p q:Pt}{P:EPt dF}(r:CurP p P)(t:CurP q P):p.same q=true:=by
 have h1:zbr (p.x.mul q.z) (q.x.mul p.z)=true:=by
  rw[zfs,zbw r.sx t.sz,zbw t.sx r.sz,r.rep.hx,t.rep.hx]
  grind
 have h2:zbr (p.y.mul q.z) (q.y.mul p.z)=true:=by
  rw[zfs,zbw r.sy t.sz,zbw t.sy r.sz,r.rep.hy,t.rep.hy]
  grind
 unfold Pt.same
 rw[h1,h2]
 rfl
theorem ztw(n:Nat):smul edC bP (n%lC)=smul edC bP n:=by
 have h:smul edC bP (lC*(n/lC)+n%lC)=smul edC bP (n%lC):=by
  rw[zel,zpl,z8t,ztx,add_comm,add_zero]
 rw[Nat.div_add_mod]at h
 exact h.symm
theorem z6s{r a:Pt}{R s k:Nat}(hr:CurP r (smul edC bP R))(ha:CurP a (smul edC bP s)){S K:S4}(hS:S.N<lC)(hK:K.N<lC)(hKk:K.N=k)(hSs:S.N=(R+k*s%lC)%lC):zh9 r a S K=true:=by
 unfold zh9
 have h1:=znv zri S hS
 have h2:=zyd hr (znv ha K hK)
 have e:smul edC bP S.N=(smul edC bP R).add edC (smul edC (smul edC bP s) K.N):=by
  rw[<-zpl,<-zel,hSs,ztw,hKk,zel,ztw,<-zel,Nat.mul_comm]
 rw[e]at h1
 exact ze7b h1 h2
theorem sign_holds(seed text:List UInt8):zfu (pubS seed) text (sigB seed text)=true:=by
 have hs:(secS seed).N<lC:=zr8 _
 have hr:(sigR seed text).N<lC:=zr8 _
 have hk:(sigK seed text).N<lC:=zr8 _
 obtain⟨r,d1,p1⟩:=zsn (znv zri (sigR seed text) hr)
 obtain⟨a,d2,p2⟩:=zsn (znv zri (secS seed) hs)
 have hm:=zfbb (sigK seed text) (secS seed)
 have hN:=z4p hr hm
 rw[zjsb]at hN
 have hS:((sigR seed text).sum ((sigK seed text).mul (secS seed))).once.N<lC:=by
  rw[hN]
  exact Nat.mod_lt _ zwo
 have l1:(sigP seed text).length=32:=zqw _
 have l2:(sigB seed text).length=64:=by
  unfold sigB
  rw[aL,l1,S4.bytes_len]
 have t1:(sigB seed text).take 32=sigP seed text:=by
  unfold sigB
  rw[List.take_append_of_le_length (by omega),List.take_of_length_le (by omega)]
 have t2:(sigB seed text).drop 32=((sigR seed text).sum ((sigK seed text).mul (secS seed))).once.bytes:=by
  unfold sigB
  rw[List.drop_append_of_le_length (by omega),List.drop_of_length_le (by omega),List.nil_append]
 have q1:decP (sigP seed text)=some r:=d1
 have q2:decP (pubS seed)=some a:=d2
 unfold zfu
 rw[if_pos l2,t1,t2,q1,zyy hS,q2]
 exact z6s p1 p2 hS hk rfl hN
#print axioms sign_holds
theorem z5v(l:List UInt8)(hl:l.length<=1000000):aG 92 [bs l,bs l] (.r (.b true)):=by
 refine aT Tryz.func92 rfl ?_
 refine zu (by simp only[zb]) (zq ?_)
 refine zy (λj:Nat=>{F:=[(0, .r (bs l)),(1, .r (bs l)),(5, .r (U8 0)),(13, .r (I l.length)),(14, .r (I j))],O:=[],nx:=0}) (λj=>j<=l.length) (λj=>l.length-j) 0 (by omega) (zad [] rfl (by repeat' (first|exact rfl|exact trivial|exact cr|exact Cv.nil _|exact⟨rfl,rfl⟩|refine⟨_,_,rfl,?_,?_⟩|refine⟨?_,?_⟩)) trivial) ?_
 intro j hj
 refine zh (λh=>zp ?_) (λh=>zq ?_)
 ·simp only[zb]at h
  have hj':j<l.length:=by omega
  refine aV ?_
  refine zm (by omega) (by omega) (zj1 rfl hj') (zg rfl ?_)
  refine zm (by omega) (by omega) (zj1 rfl hj') ?_
  refine zg rfl ?_
  refine Vbits.xor8 _ _ rfl rfl ?_
  rw[UInt8.xor_self]
  refine Vbits.or8 0 0 rfl rfl ?_
  refine zd (m:=((j+1:Nat):Int)) (by omega) (by omega) ?_
  exact⟨j+1,by omega,by omega,zad [] rfl (by repeat' (first|exact rfl|exact trivial|exact cr|exact Cv.nil _|exact⟨rfl,rfl⟩|refine⟨_,_,rfl,?_,?_⟩|refine⟨?_,?_⟩)) trivial⟩
 ·refine zt rfl ?_
  exact cr
theorem z0f(v:ViewP)(m:MsgP)(hg:m.group=v.ctx.group)(he:m.epoch=v.ctx.epoch)(hl:m.group.length<=1000000):aG 90 [.ag v.c, .ag m.c] (.r (Er 0)):=by
 refine aT Tryz.func90 rfl ?_
 have hb:=zky m.group v.ctx.group
 rw[decide_eq_true hg]at hb
 refine ze hb ?_
 refine zu rfl (zq ?_)
 refine zu (by simp only[zb];omega) (zq ?_)
 exact cr
theorem zmk(s:SecP)(l:List UInt8)(h1:s.mb.length<=1000000)(h2:l.length<=10000000):aG 78 [.ag s.c,bs l] (.r (bs (macB s.mb l))):=by
 refine aT Tryz.func78 rfl ?_
 have h:=zuo s.mb [l] (by omega) (by simp;omega)
 have e:([l]:List (List UInt8)).flatMap id=l:=by simp
 rw[e]at h
 refine zw ?_
 refine ze h ?_
 exact cr
abbrev frmS:ByteArray:=⟨#[70,114,97,109,101,100,67,111,110,116,101,110,116,84,66,83]⟩
structure MsgP.of (m:MsgP) (v:ViewP) (lf:Leaf) (seed:List UInt8):Prop where
 sm:m.sm
 group:m.group=v.ctx.group
 epoch:m.epoch=v.ctx.epoch
 sign:lf.sign=pubS seed
 sig:m.sig=zhg seed (sB frmS) (sgnB m v.ctx)
 mem:m.mem=macB v.sec.mb (tagB m v.ctx)
theorem zr9(m:MsgP)(hm:m.sm)(x:CtxP)(hx:x.fit):(sgnB m x).length<=4000000:=by
 have h1:=zh8 m hm
 have h2:=zjo x
 obtain⟨k1,k2,k3,k4⟩:=hx
 simp only[sgnB,aL]
 omega
theorem zsa(m:MsgP)(hm:m.sm)(x:CtxP)(hx:x.fit):(tagB m x).length<=4001000:=by
 have h1:=zpk (sgnB m x) m hm
 have h2:=zr9 m hm x hx
 exact Nat.le_trans h1 (by omega)
theorem zdmb(v:ViewP)(m:MsgP)(lf:Leaf)(seed:List UInt8)(hv:v.sm)(hx:v.ctx.fit)(h:m.of v lf seed)(hl:lf.fit):aG 28 [.ag v.c, .ag m.c, .ag lf.c] (.r (Er 0)):=by
 have hg:=h.sm.group
 have c1:=z0f v m h.group h.epoch (by omega)
 have c2:=zs2 m h.sm v.ctx hx
 have hs:=zr9 m h.sm v.ctx hx
 have ht:=zsa m h.sm v.ctx hx
 have c3:aG 91 [bs lf.sign,Str frmS,bs (sgnB m v.ctx),bs m.sig] (.r (.b true)):=by
  have hp:=hl.2.1
  have:=zdfb lf.sign frmS (sgnB m v.ctx) m.sig (by omega) (by decide) (by omega)
  have e:zfu lf.sign (zf5 (sB frmS) (sgnB m v.ctx)) m.sig=true:=by
   rw[h.sign,h.sig]
   exact sign_holds _ _
  rw[e]at this
  exact this
 have c4:=zmi m h.sm v.ctx hx
 have c5:=zmk v.sec (tagB m v.ctx) (hv.sec.mb) (by omega)
 have c6:=z5v m.mem (by have:=h.sm.mem;omega)
 rw[<-h.mem]at c5
 refine aT Tryz.func28 rfl ?_
 refine za rfl rfl ?_
 refine za rfl rfl ?_
 refine ze c1 ?_
 refine zu rfl (zq ?_)
 refine za rfl rfl ?_
 refine za rfl rfl ?_
 refine ze c2 ?_
 refine zu rfl ?_
 refine ze c3 ?_
 refine zu rfl (zq ?_)
 refine za rfl rfl ?_
 refine za rfl rfl ?_
 refine ze c4 ?_
 refine aV ?_
 refine za rfl rfl ?_
 refine ze c5 ?_
 refine ze c6 ?_
 refine zu rfl (zq ?_)
 exact cr
abbrev wrt0(own:Int)(l:Leaf):List RV:=[nl, .i .u64 0,I own,U8 3,U8 0,nl,nl,nl,nl,U8 0,nl,nl,nl,nl,nl,nl,U8 0,nl,nl,I 0,nl, .b true,bs l.box,bs l.sign,bs l.ident,U8 l.src,bs l.parent,bs l.sig,nl,nl,nl,nl]
abbrev wrt1(g:List UInt8)(e:RV)(own:Int)(l:Leaf):List RV:=[bs g,e,I own,U8 3,U8 0,nl,nl,nl,nl,U8 0,nl,nl,nl,nl,nl,nl,U8 0,nl,nl,I 0,nl, .b true,bs l.box,bs l.sign,bs l.ident,U8 l.src,bs l.parent,bs l.sig,nl,nl,nl,nl]
abbrev zMsg:List RV:=[nl, .i .u64 0,I 0,U8 0,U8 0,nl,nl,nl,nl,U8 0,nl,nl,nl,nl,nl,nl,U8 0,nl,nl,I 0,nl, .b false,nl,nl,nl,U8 0,nl,nl,nl,nl,nl,nl]
def wsig(v:ViewP)(seed:List UInt8)(o:Nat)(l:Leaf):List UInt8:=zhg seed (sB frmS) (sgnB ⟨v.ctx.group,v.ctx.epoch,o,l,[],[],[]⟩ v.ctx)
def wrtM(v:ViewP)(seed tag:List UInt8)(o:Nat)(l:Leaf):MsgP:=⟨v.ctx.group,v.ctx.epoch,o,l,wsig v seed o l,tag,macB v.sec.mb (tagB ⟨v.ctx.group,v.ctx.epoch,o,l,wsig v seed o l,tag,[]⟩ v.ctx)⟩
abbrev vw(x:CtxP)(o:Nat)(it tg:List UInt8)(sc:SecP)(ky:KeyP):ViewP:=⟨x,o,it,tg,sc,ky⟩
theorem z9p(x:CtxP)(it tg:List UInt8)(sc:SecP)(ky:KeyP)(seed:List UInt8)(o:Nat)(hol:o<65536)(hv:(vw x o it tg sc ky).sm)(hx:(vw x o it tg sc ky).ctx.fit)(hg:(vw x o it tg sc ky).ctx.group.length<=64)(hs:seed.length=32)(l:Leaf)(hlr:l.right=true)(hsr:l.src=3)(hpr:l.parent.length=0):
  aG 21 [.ag (vw x o it tg sc ky).c,bs seed, .ag (wrt0 (o:Int) l)] (.r (.tu [.ag (wrtM (vw x o it tg sc ky) seed z32 o l).c,Er 0])):=by
 have c1:aG 42 [bs (vw x o it tg sc ky).ctx.group] (.r (bs (vw x o it tg sc ky).ctx.group)):=zfd (zbu (vw x o it tg sc ky).ctx.group (by omega))
 refine aT Tryz.func21 rfl ?_
 refine Vdraw.code (Vcode.float mixed Tab_ok 15 [⟨0,10, .adr 0 0,[]⟩,⟨1,11, .adr 0 0,[0]⟩,⟨2,12, .r (bs (vw x o it tg sc ky).ctx.group),[1]⟩,⟨4,14, .adr 0 0,[]⟩,⟨5,15, .adr 0 1,[4]⟩,⟨6,16, .r (.i .u64 (vw x o it tg sc ky).ctx.epoch),[5]⟩,⟨7,17, .adr 0 4,[]⟩,⟨8,18, .r (I (o:Int)),[7]⟩,⟨9,19, .adr 1 0,[]⟩,⟨11,20, .adr 1 1,[]⟩,⟨13,21, .adr 1 2,[]⟩] [(3,[2]),(10,[9]),(12,[11,6]),(14,[13,8])] (by kernel_rfl) (F:=[(1, .r (bs seed)),(3, .own 0),(5, .own 1),(6, .own 2)]) (O:=[(0,some (.box ((vw x o it tg sc ky).c.map .r))),(1,some (.box ((wrt0 (o:Int) l).map .r))),(2,some (.box (zMsg.map .r)))]) (nx:=3) (zad [(0,0),(1,1),(2,2)] rfl (by repeat' (first|exact rfl|exact trivial|exact cr|exact Cv.nil _|exact⟨rfl,rfl⟩|refine⟨_,_,rfl,?_,?_⟩|refine⟨?_,?_⟩)) (by repeat' (first|exact rfl|exact trivial|exact cr|exact Cv.nil _|exact⟨rfl,rfl⟩|refine⟨_,_,rfl,?_,?_⟩|refine⟨?_,?_⟩))) ?_)
 refine⟨rfl,⟨λY=>zo _,λY=>zo _,λY=>zo _,λY=>zo _,λY=>zo _,λY=>zo _,λY=>zo _,λY=>zo _,λY=>zo _,λY=>zo _,λY=>zo _,trivial⟩,(13, .r (bs (vw x o it tg sc ky).ctx.group))::[(1, .r (bs seed)),(3, .own 0),(5, .own 1),(6, .own 2)],[(0,some (.box ((vw x o it tg sc ky).c.map .r))),(1,some (.box ((wrt0 (o:Int) l).map .r))),(2,some (.box (zMsg.map .r)))],3,λY=>ze c1 (zo _),?_⟩
 refine⟨rfl,⟨λY=>zo _,λY=>zo _,λY=>zo _,λY=>zo _,λY=>zo _,λY=>zo _,λY=>zo _,λY=>zo _,λY=>zo _,λY=>zo _,λY=>zo _,trivial⟩,(13, .r (bs (vw x o it tg sc ky).ctx.group))::[(1, .r (bs seed)),(3, .own 0),(5, .own 1),(6, .own 2)],(1,some (.box ((wrt1 (vw x o it tg sc ky).ctx.group (.i .u64 0) (o:Int) l).map .r)))::[(0,some (.box ((vw x o it tg sc ky).c.map .r))),(1,some (.box ((wrt0 (o:Int) l).map .r))),(2,some (.box (zMsg.map .r)))],3,λY=>zo _,?_⟩
 refine⟨rfl,⟨λY=>zo _,λY=>zo _,λY=>zo _,λY=>zo _,λY=>zo _,λY=>zo _,λY=>zo _,λY=>zo _,λY=>zo _,λY=>zo _,λY=>zo _,trivial⟩,(13, .r (bs (vw x o it tg sc ky).ctx.group))::[(1, .r (bs seed)),(3, .own 0),(5, .own 1),(6, .own 2)],(1,some (.box ((wrt1 (vw x o it tg sc ky).ctx.group (.i .u64 (vw x o it tg sc ky).ctx.epoch) (o:Int) l).map .r)))::(1,some (.box ((wrt1 (vw x o it tg sc ky).ctx.group (.i .u64 0) (o:Int) l).map .r)))::[(0,some (.box ((vw x o it tg sc ky).c.map .r))),(1,some (.box ((wrt0 (o:Int) l).map .r))),(2,some (.box (zMsg.map .r)))],3,λY=>zo _,?_⟩
 refine⟨rfl,⟨λY=>zo _,λY=>zo _,λY=>zo _,λY=>zo _,λY=>zo _,λY=>zo _,λY=>zo _,λY=>zo _,λY=>zo _,λY=>zo _,λY=>zo _,trivial⟩,(13, .r (bs (vw x o it tg sc ky).ctx.group))::[(1, .r (bs seed)),(3, .own 0),(5, .own 1),(6, .own 2)],(1,some (.box ((wrt1 (vw x o it tg sc ky).ctx.group (.i .u64 (vw x o it tg sc ky).ctx.epoch) (o:Int) l).map .r)))::(1,some (.box ((wrt1 (vw x o it tg sc ky).ctx.group (.i .u64 (vw x o it tg sc ky).ctx.epoch) (o:Int) l).map .r)))::(1,some (.box ((wrt1 (vw x o it tg sc ky).ctx.group (.i .u64 0) (o:Int) l).map .r)))::[(0,some (.box ((vw x o it tg sc ky).c.map .r))),(1,some (.box ((wrt0 (o:Int) l).map .r))),(2,some (.box (zMsg.map .r)))],3,λY=>zo _,?_⟩
 refine⟨rfl,⟨λY=>zo _,λY=>zo _,λY=>zo _,λY=>zo _,λY=>zo _,λY=>zo _,λY=>zo _,λY=>zo _,λY=>zo _,λY=>zo _,λY=>zo _,trivial⟩,?_⟩
 have hm1:MsgP.sm ⟨(vw x o it tg sc ky).ctx.group,(vw x o it tg sc ky).ctx.epoch,o,l,List.replicate 64 0,z32,z32⟩:=⟨hg,hx.epoch,hol,by simp,rfl,rfl,hlr,hsr,hpr⟩
 have hm2:MsgP.sm ⟨(vw x o it tg sc ky).ctx.group,(vw x o it tg sc ky).ctx.epoch,o,l,wsig (vw x o it tg sc ky) seed o l,z32,z32⟩:=⟨hg,hx.epoch,hol,zei _ _ _,rfl,rfl,hlr,hsr,hpr⟩
 have hs1:=zr9 _ hm1 (vw x o it tg sc ky).ctx hx
 have ht1:=zsa _ hm2 (vw x o it tg sc ky).ctx hx
 have c2:=zs2 _ hm1 (vw x o it tg sc ky).ctx hx
 have c3:=zrx seed frmS (sgnB ⟨(vw x o it tg sc ky).ctx.group,(vw x o it tg sc ky).ctx.epoch,o,l,List.replicate 64 0,z32,z32⟩ (vw x o it tg sc ky).ctx) hs (by decide) (by omega)
 have c4:=zmi _ hm2 (vw x o it tg sc ky).ctx hx
 have c5:=zmk (vw x o it tg sc ky).sec (tagB ⟨(vw x o it tg sc ky).ctx.group,(vw x o it tg sc ky).ctx.epoch,o,l,wsig (vw x o it tg sc ky) seed o l,z32,z32⟩ (vw x o it tg sc ky).ctx) hv.sec.mb (by omega)
 refine aV ?_
 refine⟨rfl,by decide,by decide,by decide,64,_,rfl,rfl,zw ?_⟩
 refine ze ziw ?_
 refine zt rfl ?_
 refine zt rfl (zp ?_)
 refine ze ziw ?_
 refine za rfl rfl ?_
 refine za rfl rfl ?_
 refine Vcall.mk' c2 (zk (zf rfl) (zn _)) ?_
 refine zu rfl (zq ?_)
 refine ze c3 ?_
 refine zu rfl (zq ?_)
 refine za rfl rfl ?_
 refine za rfl rfl ?_
 refine Vcall.mk' c4 (zk (zf rfl) (zn _)) ?_
 refine za rfl rfl ?_
 refine ze c5 ?_
 refine za rfl rfl ?_
 refine za rfl rfl ?_
 exact⟨_,rfl,zf rfl⟩
def trnB(interim text:List UInt8):List UInt8:=shaB (interim++text)
theorem zwe(c t:List UInt8)(h1:c.length<=1000000)(h2:t.length<=1000000):aG 100 [bs c,bs t] (.r (bs (trnB c t))):=by
 refine aT Tryz.func100 rfl ?_
 have h:=znn [c,t] (by simp;omega)
 have e:([c,t]:List (List UInt8)).flatMap id=c++t:=by simp
 rw[e]at h
 refine zw ?_
 refine ze h ?_
 exact cr
def nxtC(v:ViewP)(m:MsgP)(tree:List UInt8):CtxP:=⟨v.ctx.group,v.ctx.epoch+1,tree,trnB v.interim (cfmB m)⟩
def nxtS(v:ViewP)(m:MsgP)(tree commit:List UInt8):SecP:=schS (ziz v.sec.it commit (ctxB (nxtC v m tree))) (ctxB (nxtC v m tree))
def nxtT(v:ViewP)(m:MsgP)(tree commit:List UInt8):List UInt8:=macB (nxtS v m tree commit).cf (trnB v.interim (cfmB m))
def nxtV(v:ViewP)(m:MsgP)(tree commit:List UInt8)(ky:KeyP):ViewP:=⟨nxtC v m tree,v.own,intB (trnB v.interim (cfmB m)) (nxtT v m tree commit),nxtT v m tree commit,nxtS v m tree commit,ky⟩
theorem zczb(m:MsgP)(hm:m.sm):(cfmB m).length<=700:=by
 have h1:=znm m hm
 have h2:=zai m.sig
 have h3:=hm.sig
 simp only[cfmB,aL,zao]
 omega
theorem z73(i c x:List UInt8):(schS (ziz i c x) x).sm:=z08 (zbk _ _ _ (n:=32) (by omega)) (zbk _ _ _ (n:=32) (by omega)) (zbk _ _ _ (n:=32) (by omega))
theorem zdnb(v:ViewP)(m:MsgP)(tree commit:List UInt8)(ky:KeyP)(hky:ky.key.length<=1000000)(hv:v.sm)(hm:m.sm)(hg:v.ctx.group.length<=64)(he:v.ctx.epoch+1<18446744073709551616)(ht:tree.length<=1000)(hc:commit.length<=1000):
  aG 34 [.ag v.c, .ag m.c,bs tree,bs commit,keyR [ky]] (.r (.ag (nxtV v m tree commit ky).c)):=by
 have hl:=zczb m hm
 have hi:=hv.interim
 have c0:=zv9 m hm
 have c1:aG 42 [bs v.ctx.group] (.r (bs v.ctx.group)):=zfd (zbu v.ctx.group (by omega))
 have c2:aG 42 [bs tree] (.r (bs tree)):=zfd (zbu tree (by omega))
 have c3:=zwe v.interim (cfmB m) (by omega) (by omega)
 have htl:(trnB v.interim (cfmB m)).length=32:=zdz _
 have c4:=z0h v.sec.it commit (nxtC v m tree) ⟨by show v.ctx.group.length<=_;omega,he,by show tree.length<=_;omega,by show(trnB v.interim (cfmB m)).length<=_;omega⟩ (by show v.ctx.group.length+tree.length+(trnB v.interim (cfmB m)).length<=_;omega) (by have:=hv.sec.it;omega) (by omega)
 have c5:=z6m (nxtS v m tree commit) (trnB v.interim (cfmB m)) (z73 _ _ _).cf (by omega)
 have c6:=zqk (trnB v.interim (cfmB m)) (nxtT v m tree commit) (by omega) (by have:(nxtT v m tree commit).length=32:=zch _ _;omega)
 have c7:=zoh ky hky
 refine aT Tryz.func34 rfl ?_
 refine za rfl rfl ?_
 refine ze c0 ?_
 refine aV ?_
 refine ze c1 ?_
 refine Vint.u64 (n:=v.ctx.epoch+1) (by omega) he ?_
 refine ze c2 ?_
 refine ze c3 ?_
 refine za rfl rfl ?_
 refine ze c4 ?_
 refine za rfl rfl ?_
 refine ze c5 ?_
 refine aV ?_
 refine za rfl rfl ?_
 refine ze c6 ?_
 refine za rfl rfl ?_
 refine ze c7 ?_
 refine za rfl rfl ?_
 exact cr
structure Keys (P:Program) (kt:TypeId) {α:Type} (q:α->Value):Prop where
 desc: ∃kd,P.underlying kt=some kd/\∀a b,Instr.sameNow kd (q a) (q b)=some true/\a=b\/Instr.sameNow kd (q a) (q b)=some false/\a≠b
 bits: ∀a,Instr.sameBits 10000 (q a) (q a)=true
 chk: ∀(w:World) (e:Bool) a,(Instr.checkKey e 10000 kt (q a)).run P w= .ok () w
abbrev qI(n:Int):Value:= .int .i64 n
abbrev qS(l:List UInt8):Value:= .string ⟨l.toArray⟩
section
variable {P:Program} {T:TT} {B:Bs} {N:Nat} {S:St} {a:Act} {w:World} {k:Kp} {g:Env} {o:Oper} {Q:Exit->Act->World->Prop}
theorem beqB(x y:List UInt8):((⟨x.toArray⟩:ByteArray)==⟨y.toArray⟩)=decide (x=y):=by
 show((x.toArray:Array UInt8)==y.toArray)=_
 by_cases h:x=y
 ·subst h;simp
 ·simp[h]
theorem zui{m:Nat}(l:List UInt8):Instr.sameBits m (qS l) (qS l)=true:=by simp[Instr.sameBits,beqB]
theorem zzm{kt:TypeId}{v:Value}{b:Bool}{m:Nat}(hk:P.underlying kt=some .string):(Instr.checkKey b (m+1) kt v).run P w= .ok () w:=by
 simp[Instr.checkKey,run_underlying hk w]
theorem zk7{kt:TypeId}(hk:P.underlying kt=some .string):Keys P kt qS:=by
 refine⟨⟨_,hk,λx y=>?_⟩,λx=>zui x,λw e x=>zzm (m:=9999) hk⟩
 simp only[Instr.sameNow]
 by_cases h:x=y
 ·exact .inl ⟨by simp[h,beqB],h⟩
 ·exact .inr ⟨by simp[h,beqB],h⟩
section
variable {α:Type} {q:α->Value}
def entsG(q:α->Value)(w:World)(k:Kp):List (α×RV)->List MapEntry->Prop
 |[],es=>es=[]
 |(n,r)::l,es=>∃e t,es=e::t/\e.key=q n/\r.at_ w k e.val/\entsG q w k l t
theorem entsG.mono{w':World}{k':Kp}(h:Le w k w' k'): ∀{l:List (α×RV)} {es:List MapEntry},entsG q w k l es->entsG q w' k' l es
 |[],_,he=>he
 |(n,r)::l,_,⟨e,t,he,h1,h2,h3⟩=>⟨e,t,he,h1,RV.mono h _ _ h2,entsG.mono h h3⟩
theorem entsG.len: ∀{l:List (α×RV)} {es:List MapEntry},entsG q w k l es->es.length=l.length
 |[],_,he=>by simp only[entsG]at he;subst he;rfl
 |(n,r)::l,_,⟨e,t,he,h1,h2,h3⟩=>by subst he;simp[entsG.len h3]
def mapG(q:α->Value)(ents:List (α×RV)):GOw where
 at_ w k vb:=∃b es c,vb=(.map (some b),some b)/\w.heap[b]?=some (.map es c)/\k b=0/\entsG q w k ents es.toList
 mono:=by
  rintro w k w' k' vb h hb ⟨b,es,c,rfl,hh,hk,he⟩
  have:=hb b rfl
  exact⟨b,es,c,rfl,this.1.trans hh,this.2.trans hk,he.mono h⟩
 len:=some ents.length
 lenOk:=by
  rintro w k vb n h ⟨b,es,c,rfl,hh,_,he⟩
  cases h
  exact⟨b,es,c,rfl,hh,by rw[<-Array.length_toList];exact he.len⟩
 one:=by rintro w k vb ⟨b,es,c,rfl,_⟩;rfl
theorem Yld.mapGMk(q:α->Value){t:TypeId}(hop:o.op= .makeMap t none):Yld P S o (S.new o.dst (.own S.nx) (some (.gen (mapG q [])))):=by
 intro B N a w k Q ⟨g,hs⟩ hd
 refine zat (v:= .map (some w.heap.size)) (w':=w.alloc (.map #[] 0)) (by simp[execOp,hop,Instr.makeMap,newObj];rfl) ⟨kset k w.heap.size 0,_,hs.make hd (zce w _) (λb hb=>zb6 b hb) (vb:=(.map (some w.heap.size),some w.heap.size)) (o:= .gen (mapG q [])) trivial ?_ λb hb=>?_⟩
 ·simp only[Ow.at_]
  exact⟨w.heap.size, #[],0,rfl,heap_alloc_new w _,zbv,rfl⟩
 ·cases hb
  exact⟨Nat.le_refl _,by simp⟩
theorem Vstep.mapGMk(q:α->Value){t:TypeId}{K:St->Prop}(hop:o.op= .makeMap t none)(hK:newK S o.dst (.own S.nx) (some (.gen (mapG q []))) K):Vstep P S o K:=by
 rw[zav]at hK
 exact Vstep.one (Yld.mapGMk q hop) hK
end
variable {α:Type} [DecidableEq α] {q:α->Value}
def aget:List (α×RV)->α->Option RV
 |[],_=>none
 |(m,r)::l,n=>if m=n then some r else aget l n
def aput:List (α×RV)->α->RV->List (α×RV)
 |[],n,r=>[(n,r)]
 |(m,s)::l,n,r=>if m=n then(m,r)::l else(m,s)::aput l n r
theorem z1x{kt:TypeId}(hK:Keys P kt q){kd:TypeDesc}(hd: ∀a b,Instr.sameNow kd (q a) (q b)=some true/\a=b\/Instr.sameNow kd (q a) (q b)=some false/\a≠b){n:α}{r:RV}{u:Value}(hr:r.at_ w k u):
  ∀{ents:List (α×RV)} {es:List MapEntry} (i:Nat),entsG q w k ents es->
  (aget ents n=none/\Instr.findNow kd (q n) es i=some none/\∀c:Nat,entsG q w k (aput ents n r) (es++[{key:=q n,val:=u,born:=c}]))\/
  (∃s j v,aget ents n=some s/\Instr.findNow kd (q n) es i=some (some (i+j,v))/\s.at_ w k v/\(es[j]?.map (·.key))=some (q n)/\entsG q w k (aput ents n r) (es.modify j λe=>{e with key:=q n,val:=u}))
 |[],es,i,he=>by
  simp only[entsG]at he
  subst he
  exact .inl ⟨rfl,rfl,λc=>⟨_,[],rfl,rfl,hr,rfl⟩⟩
 |(m,s)::l,es,i,he=>by
  obtain⟨e,t,rfl,h1,h2,h3⟩:=he
  rcases hd n m with⟨hs,rfl⟩ |⟨hs,hne⟩
  ·refine .inr ⟨s,0,e.val,by simp[aget],by simp[Instr.findNow,h1,hs],h2,by simp[h1],?_⟩
   simp only[aput,if_true,List.modify_zero_cons]
   exact⟨_,t,rfl,rfl,hr,h3⟩
  ·have hne': ¬m=n:=λe=>hne e.symm
   simp only[aget,aput,if_neg hne',Instr.findNow,h1,hs]
   rcases z1x hK hd hr (i+1) h3 with⟨g1,g2,g3⟩ |⟨s',j,v,g1,g2,g3,g4,g5⟩
   ·exact .inl ⟨g1,g2,λc=>⟨e,_,rfl,h1,h2,g3 c⟩⟩
   ·refine .inr ⟨s',j+1,v,g1,by rw[g2,Nat.add_right_comm,Nat.add_assoc],g3,by simpa using g4,?_⟩
    rw[List.modify_succ_cons]
    exact⟨e,_,rfl,h1,h2,g5⟩
theorem Vstep.lookG{t kt et:TypeId}{x y:Operand}{id:Nat}{n:α}{ents:List (α×RV)}{z:Value}{f:TF}{K:St->Prop}(zr:RV)(hop:o.op= .lookup t x y false)(hx:opr S x=some (.own id))(ho:oget S.O id=some (.gen (mapG q ents)))(hy:opr S y=some f)(hf:S.rv f=some (ofC (q n)))(hq: ∀w k v,(ofC (q n)).at_ w k v->v=q n)
  (hu:P.underlying t=some (.map kt et)) (hk:Keys P kt q) (hz:(P.info? et).bind (·.zero)=some z) (hzr: ∀w k,zr.at_ w k z)
  (hK:newK S o.dst (.r ((aget ents n).getD zr)) none K):Vstep P S o K:=by
 rw[zav]at hK
 refine Vstep.one (λB N a w k Q ⟨g,hs⟩ hd=>?_) hK
 have hv:=(zaf hs hx).2
 have hn:=hq _ _ _ (zdy hs hf (zaf hs hy).2)
 simp only[TF.at_]at hv
 obtain⟨_,_,hat,_⟩:=hs.owns id _ ho
 simp only[Ow.at_]at hat
 obtain⟨b,es,c,e,hh,hkb,he⟩:=hat
 rw[e]at hv
 obtain⟨i,hi,hz⟩:=Option.bind_eq_some_iff.1 hz
 have zv:(zeroValue et).run P w= .ok z w:=by simp[zeroValue,typeInfo,hi,hz]
 obtain⟨kd,hkd,hd'⟩:=hk.desc
 rcases z1x hk hd' (n:=n) (hzr w k) 0 he with⟨g1,g2,_⟩ |⟨s,j,v,g1,g2,g3,_,_⟩
 ·have hfk:(Instr.findKey kt (q n) es.toList).run P w= .ok none w:=by simp[Instr.findKey,run_underlying hkd w,g2]
  have hrun:(Instr.lookup t (.map (some b)) (q n) false).run P w= .ok z w:=by
   simp[Instr.lookup,run_underlying hu w,hk.chk,hfk,zv,hh,getObj,Sem.run]
  exact zat (v:=z) (w':=w) (by simp[execOp,hop,hv,hn,hrun]) ⟨k,g,hs.put hd trivial (by rw[g1];exact hzr w k)⟩
 ·have hfk:(Instr.findKey kt (q n) es.toList).run P w= .ok (some (0+j,v)) w:=by simp[Instr.findKey,run_underlying hkd w,g2]
  have hrun:(Instr.lookup t (.map (some b)) (q n) false).run P w= .ok v w:=by
   simp[Instr.lookup,run_underlying hu w,hk.chk,hfk,hh,getObj,Sem.run]
  exact zat (v:=v) (w':=w) (by simp[execOp,hop,hv,hn,hrun]) ⟨k,g,hs.put hd trivial (by rw[g1];exact g3)⟩
theorem Vstep.putG{t kt et:TypeId}{x y z:Operand}{id:Nat}{n:α}{ents:List (α×RV)}{f fy:TF}{r:RV}{K:St->Prop}(hop:o.op= .mapUpdate t x y z)(hx:opr S x=some (.own id))(ho:oget S.O id=some (.gen (mapG q ents)))(hy:opr S y=some fy)(hf:S.rv fy=some (ofC (q n)))(hq: ∀w k v,(ofC (q n)).at_ w k v->v=q n)(hz:opr S z=some f)(hr:S.rv f=some r)
  (hu:P.underlying t=some (.map kt et)) (hk:Keys P kt q) (hK:setK S id (some (.gen (mapG q (aput ents n r)))) o.dst K):Vstep P S o K:=by
 rw[zcp]at hK
 refine Vstep.one (λB N a w k Q ⟨g,hs⟩ hd=>?_) hK
 have hv:=(zaf hs hx).2
 have hn:=hq _ _ _ (zdy hs hf (zaf hs hy).2)
 have hzv:=zdy hs hr (zaf hs hz).2
 simp only[TF.at_]at hv
 obtain⟨_,_,hat,_⟩:=hs.owns id _ ho
 simp only[Ow.at_]at hat
 obtain⟨b,es,c,e,hh,hkb,he⟩:=hat
 rw[e]at hv
 have hb:b<w.heap.size:=(Array.getElem?_eq_some_iff.1 hh).1
 obtain⟨kd,hkd,hd'⟩:=hk.desc
 have fin: ∀(es':Array MapEntry) (c':Nat),entsG q w k (aput ents n r) es'.toList->(Instr.mapUpdate t (.map (some b)) (q n) (a.eval z)).run P w= .ok () {w with heap:=w.heap.setIfInBounds b (.map es' c')}->o.wp P a w (λa' w'=>∃k',Sat B N ((S.set id (some (.gen (mapG q (aput ents n r))))).put o.dst (.r .any)) a' w' k') Q:=λes' c' hen hrun=>by
  let w':World:={w with heap:=w.heap.setIfInBounds b (.map es' c')}
  have hw:Wrote w k w' k (some b):=⟨rfl,rfl,rfl,by simp[w'],λx _ hne=>⟨by simp only[w'];rw[Array.getElem?_setIfInBounds_ne (λh=>hne (by rw[h]))],rfl⟩,λx hx=>by
   cases hx
   exact⟨Nat.le_refl _,λo ho=>by omega,λh=>by omega⟩⟩
  have hnew:(Ow.gen (mapG q (aput ents n r))).at_ w' k g (g id):=by
   simp only[Ow.at_]
   exact⟨b,es',c',e,by simp only[w'];rw[Array.getElem?_setIfInBounds_self_of_lt hb],hkb,hen.mono hw.le⟩
  exact zps (w':=w') (by simp[execOp,hop,hv,hn,hrun,w']) ⟨k,g,(hs.redo (ow':= .gen (mapG q (aput ents n r))) ho (by rw[e]) hw trivial hnew).drop⟩
 rcases z1x hk hd' (n:=n) hzv 0 he with⟨g1,g2,g3⟩ |⟨s,j,v,g1,g2,_,g4,g5⟩
 ·have hfk:(Instr.findKey kt (q n) es.toList).run P w= .ok none w:=by simp[Instr.findKey,run_underlying hkd w,g2]
  refine fin (es.push {key:=q n,val:=a.eval z,born:=c}) (c+1) (by rw[Array.toList_push];exact g3 c) ?_
  simp[Instr.mapUpdate,run_underlying hu w,hk.chk,hfk,hh,getObj,setObj,Sem.run]
 ·have hfk:(Instr.findKey kt (q n) es.toList).run P w= .ok (some (0+j,v)) w:=by simp[Instr.findKey,run_underlying hkd w,g2]
  refine fin (es.modify j λe=>{e with key:=q n,val:=a.eval z}) c (by rw[Array.toList_modify];exact g5) ?_
  have hkey:((es[j]?).map (·.key))=some (q n):=by rw[<-Array.getElem?_toList];exact g4
  have hst:(Instr.keyThatStays (q n) (q n)).run P w= .ok (q n) w:=by simp[Instr.keyThatStays,hk.bits]
  simp[Instr.mapUpdate,run_underlying hu w,hk.chk,hfk,hh,getObj,setObj,Sem.run,hkey,hst]
end
theorem zzr{S:St}{t im gh:Nat}{m:Value}{ents:List (Int×RV)}(ho:oget S.O im=some (.gen (mapO ents)))(hgh:fget S.F gh=some (.nm im m))(ht:fget S.F t=some (.r (.x m))):Sub S ⟨(t, .r (.s (mapS ents)))::S.F,(im,none)::S.O,S.nx⟩:=by
 rintro B N a w k ⟨g0,h0⟩
 have hv:=(h0.facts t _ ht).2
 simp only[TF.at_,RV.at_]at hv
 obtain⟨k',⟨g,hs⟩,hat,_⟩:=zor ho hgh ⟨g0,h0⟩
 refine⟨k',g,hs.size,hs.defers,hs.keep,hs.kk,λt' f hf=>?_,hs.owns,hs.apart⟩
 rcases zax hf with⟨rfl,rfl⟩ |⟨_,hf⟩
 ·exact⟨trivial,by simp only[TF.at_,RV.at_];rw[hv];exact hat⟩
 ·exact hs.facts t' f hf
theorem zoq{S:St}{j i id gh:Nat}{m:Value}{ow:Ow}{cells:List TF}(ho:oget S.O id=some ow)(hgh:fget S.F gh=some (.nm id m))(hj:oget S.O j=some (.box cells))(hi:cells[i]?=some (.r (.x m))):Sub S ⟨S.F,(j,some (.box (cells.set i (.own id))))::S.O,S.nx⟩:=by
 rintro B N a w k ⟨g,hs⟩
 have hnm:=(hs.facts gh _ hgh).2
 simp only[TF.at_]at hnm
 obtain⟨q1,q2,q3,q4⟩:=hs.owns j _ hj
 have hlo:=(hs.owns id _ ho).1
 have hnew:(Ow.box (cells.set i (.own id))).at_ w k g (g j):=by
  simp only[Ow.at_]at q3⊢
  obtain⟨b,cur,t,e1,e2,e3,e4,e5⟩:=q3
  refine⟨b,cur,t,e1,e2,e3,by rw[List.length_set];exact e4,λx f u hf hu=>?_⟩
  by_cases hx:i=x
  ·subst hx
   have hil:=(List.getElem?_eq_some_iff.1 hi).1
   rw[List.getElem?_set_self hil]at hf
   cases hf
   have h0:=e5 i _ u hi hu
   refine⟨h0.1,?_⟩
   have h1:=h0.2
   simp only[TF.at_,RV.at_]at h1⊢
   rw[h1,hnm]
  ·rw[List.getElem?_set_ne hx]at hf
   exact e5 x f u hf hu
 have hlt:(Ow.box (cells.set i (.own id))).lt S.nx:=λf hf=>by
  rcases List.mem_or_eq_of_mem_set hf with hf |rfl
  ·exact q2 f hf
  ·exact hlo
 have up: ∀x o',oget ((j,some (Ow.box (cells.set i (.own id))))::S.O) x=some o'->(x=j/\o'= .box (cells.set i (.own id)))\/(j≠x/\oget S.O x=some o'):=λx o' h=>by
  rcases zar h with⟨rfl,e⟩ |⟨hne,h⟩
  ·cases e;exact .inl ⟨rfl,rfl⟩
  ·exact .inr ⟨hne,h⟩
 have old: ∀x ox,oget ((j,some (Ow.box (cells.set i (.own id))))::S.O) x=some ox->∃ox',oget S.O x=some ox':=λx ox hx=>by
  rcases up x ox hx with⟨rfl,_⟩ |⟨_,hx⟩
  ·exact⟨_,hj⟩
  ·exact⟨ox,hx⟩
 refine⟨k,g,hs.size,hs.defers,hs.keep,hs.kk,hs.facts,λx o' hx=>?_,λx y o1 o2 b' hx hy hne hbx=>?_⟩
 ·rcases up x o' hx with⟨rfl,rfl⟩ |⟨_,hx⟩
  ·exact⟨q1,hlt,hnew,q4⟩
  ·exact hs.owns x o' hx
 ·obtain⟨p1,hp1⟩:=old x o1 hx
  obtain⟨p2,hp2⟩:=old y o2 hy
  exact hs.apart x y p1 p2 b' hp1 hp2 hne hbx
theorem Vstep.mapGMkN{P:Program}{S:St}{o:Oper}{α:Type}(q:α->Value){t:TypeId}{K:St->Prop}(gh:Nat)(hop:o.op= .makeMap t none)(hK: ∀b:Nat,newK ⟨(gh, .nm S.nx (.map (some b)))::S.F,(S.nx,some (.gen (mapG q [])))::S.O,S.nx+1⟩ o.dst (.r (.x (.map (some b)))) none K):Vstep P S o K:=by
 simp only[zav]at hK
 refine⟨Nat,_,λB N a w k Q hs0 hd=>Oper.wp_mono ?_ (show o.wp P a w (λa' w'=>∃b k',Sat B N (St.put ⟨(gh, .nm S.nx (.map (some b)))::S.F,(S.nx,some (.gen (mapG q [])))::S.O,S.nx+1⟩ o.dst (.r (.x (.map (some b))))) a' w' k') Q from ?_),hK⟩
 ·rintro a' w' ⟨b,k',h⟩;exact⟨b,k',h⟩
 obtain⟨g,hs⟩:=hs0
 refine zat (v:= .map (some w.heap.size)) (w':=w.alloc (.map #[] 0)) (by simp[execOp,hop,Instr.makeMap,newObj];rfl) ⟨w.heap.size,kset k w.heap.size 0,?_⟩
 have hat:Ow.at_ (w.alloc (.map #[] 0)) (kset k w.heap.size 0) g (.map (some w.heap.size),some w.heap.size) (.gen (mapG q [])):=by
  simp only[Ow.at_]
  exact⟨w.heap.size, #[],0,rfl,heap_alloc_new w _,zbv,rfl⟩
 have h:=hs.make (dst:=none) (λd e=>by cases e) (zce w (.map #[] 0)) (λb hb=>zb6 b hb) (vb:=(.map (some w.heap.size),some w.heap.size)) (o:= .gen (mapG q [])) trivial hat (λb hb=>by
  cases hb
  exact⟨Nat.le_refl _,by simp⟩)
 have h2:SatE B N ⟨(gh, .nm S.nx (.map (some w.heap.size)))::S.F,(S.nx,some (.gen (mapG q [])))::S.O,S.nx+1⟩ a (w.alloc (.map #[] 0)) (kset k w.heap.size 0) (g.set S.nx (.map (some w.heap.size),some w.heap.size)):=by
  refine⟨h.size,h.defers,h.keep,h.kk,λt' f hf=>?_,h.owns,h.apart⟩
  rcases zax hf with⟨rfl,rfl⟩ |⟨_,hf⟩
  ·exact⟨Nat.lt_succ_self _,by simp only[TF.at_,Env.set_eq]⟩
  ·exact h.facts t' f hf
 exact⟨_,h2.put hd trivial (by simp only[TF.at_,RV.at_])⟩
theorem zkh:Tryz.prog.underlying 325=some (.map 9 3):=by kernel_rfl
theorem zrb:Tryz.prog.underlying 9=some .string:=by kernel_rfl
theorem z8r:(Tryz.prog.info? 3).bind (·.zero)=some (.int .i64 0):=by kernel_rfl
theorem zq0(n:List UInt8): ∀(w:World) (k:Kp) (v:Value),(ofC (qS n)).at_ w k v->v=qS n:=λw k v h=>by simpa[ofC,RV.at_]using h
abbrev az1(lf:Leaf)(i:Bool):St:=⟨[(0, .r (nods [L1 lf])),(3, .own 2),(4, .r (cond i (I 1) (I 0))),(10, .r (nods [L1 lf])),(11, .r (I 1)),(12, .r (cond i (I 1) (I 0)))],[(0,some (.gen (mapG qS (cond i [(lf.ident,I 1)] [])))),(1,some (.gen (mapG qS (cond i [(lf.sign,I 1)] [])))),(2,some (.box [.own 0, .own 1]))],3⟩
abbrev azF(lf:Leaf)(b1 b2:Nat):List (Nat×TF):=[(0, .r (nods [L1 lf])),(3, .own 2),(4, .r (I 0)),(10, .r (nods [L1 lf])),(11, .r (I 1)),(12, .r (I 0)),(1000001, .nm 0 (.map (some b1))),(1000002, .nm 1 (.map (some b2)))]
abbrev azG:List (Nat×Option Ow):=[(0,some (.gen (mapG (α:=List UInt8) qS []))),(1,some (.gen (mapG (α:=List UInt8) qS [])))]
abbrev azS(lf:Leaf)(b1 b2:Nat):St:=⟨azF lf b1 b2,azG++[(2,some (.box [.r (.x (.map (some b1))), .r (.x (.map (some b2)))]))],3⟩
theorem zj8b(lf:Leaf)(b1 b2:Nat):Sub (azS lf b1 b2) (az1 lf false):=
 (zoq (S:=azS lf b1 b2) (j:=2) (i:=0) (id:=0) (gh:=1000001) (cells:=[.r (.x (.map (some b1))), .r (.x (.map (some b2)))]) rfl rfl rfl rfl).trans
  ((zoq (S:=⟨azF lf b1 b2,(2,some (.box [.own 0, .r (.x (.map (some b2)))]))::(azS lf b1 b2).O,3⟩) (j:=2) (i:=1) (id:=1) (gh:=1000002) (cells:=[.own 0, .r (.x (.map (some b2)))]) rfl rfl rfl rfl).trans
  (zad (S:=⟨azF lf b1 b2,(2,some (.box [.own 0, .own 1]))::(2,some (.box [.own 0, .r (.x (.map (some b2)))]))::(azS lf b1 b2).O,3⟩) [(0,0),(1,1),(2,2)] rfl ⟨cr,rfl,cr,cr,cr,cr,trivial⟩ ⟨λ_ _ _ hh=>hh,λ_ _ _ hh=>hh,⟨_,_,rfl,rfl,_,_,rfl,rfl,rfl⟩,trivial⟩))
set_option maxHeartbeats 1000000 in
theorem z9k(lf:Leaf):aG 180 [nods [L1 lf]] (.r (.b true)):=by
 refine aT Tryz.func180 rfl ?_
 refine Vcode.run Tab_ok ?_
 refine Vstep.mapGMkN qS 1000001 rfl λb1=>?_
 refine Vstep.mapGMkN qS 1000002 rfl λb2=>?_
 refine zy (az1 lf) (λ_=>True) (λi=>cond i 0 1) false trivial (Sub.trans (zad (S':=azS lf b1 b2) [(0,0),(1,1),(2,2)] rfl ⟨cr,rfl,cr,cr,cr,cr,⟨rfl,rfl⟩,⟨rfl,rfl⟩,trivial⟩ ⟨λ_ _ _ hh=>hh,λ_ _ _ hh=>hh,(aB aZ),trivial⟩) (zj8b lf b1 b2)) ?_
 rintro(_ |_) _
 ·refine zt rfl (zp ?_)
  refine zm i00 i01 (idx0 lf) ?_
  refine za rfl rfl ?_
  refine zu rfl (zq ?_)
  refine zd (m:=1) rfl (by decide) ?_
  refine Vadr.mk' 0 rfl (by decide) ?_
  refine Vfun.str rfl rfl ?_
  refine Vstep.lookG (q:=qS) (n:=lf.ident) (I 0) rfl rfl rfl rfl rfl (zq0 _) zkh (zk7 zrb) z8r (λ_ _=>by simp[RV.at_]) ?_
  refine zd (m:=1) rfl (by decide) ?_
  refine Vstep.putG (q:=qS) (n:=lf.ident) rfl rfl rfl rfl rfl (zq0 _) rfl rfl zkh (zk7 zrb) ?_
  refine Vadr.mk' 1 rfl (by decide) ?_
  refine Vfun.str rfl rfl ?_
  refine Vstep.lookG (q:=qS) (n:=lf.sign) (I 0) rfl rfl rfl rfl rfl (zq0 _) zkh (zk7 zrb) z8r (λ_ _=>by simp[RV.at_]) ?_
  refine zd (m:=1) rfl (by decide) ?_
  refine Vstep.putG (q:=qS) (n:=lf.sign) rfl rfl rfl rfl rfl (zq0 _) rfl rfl zkh (zk7 zrb) ?_
  refine zd (m:=1) rfl (by decide) ?_
  exact⟨true,trivial,by decide,zad [(0,0),(1,1),(2,2)] rfl ⟨cr,rfl,cr,cr,cr,cr,trivial⟩ ⟨λ_ _ _ hh=>hh,λ_ _ _ hh=>hh,⟨_,_,rfl,rfl,_,_,rfl,rfl,rfl⟩,trivial⟩⟩
 ·refine zu rfl (zq ?_)
  refine Vadr.mk' 0 rfl (by decide) ?_
  refine⟨⟨_,_,zkh⟩,?_⟩
  refine zt rfl ?_
  refine Vadr.mk' 1 rfl (by decide) ?_
  refine⟨⟨_,_,zkh⟩,?_⟩
  refine zt rfl ?_
  exact cr
end Go.Proofs.YtkegaaonpekkgaaGreat.Sx
