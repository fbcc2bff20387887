import Derived.Test.YtkegaaonpekkgaaGreatZYm
import Derived.Test.YtkegaaonpekkgaaGreatZMe
import Derived.Test.YtkegaaonpekkgaaGreatZHg
import Derived.Test.YtkegaaonpekkgaaGreatZYa
import Derived.Test.YtkegaaonpekkgaaGreatZJp
import Derived.Test.YtkegaaonpekkgaaGreatZJo
namespace Go.Proofs.YtkegaaonpekkgaaGreat.Sx
open Go.RowKit
theorem za9b{u r:Fin pC}(h:r*r=u*u)(hr:r.val%2=0)(odd:Bool)(ho:odd=true↔u.val%2=1):(if odd=true then 0-r else r)=u:=by
 by_cases hu:u=0
 ·subst hu
  have:r=0:=edC.sq (by rw[h];grind)
  subst this
  split<;>grind
 ·have hp:=z2l hu
  rcases pm h with rfl |rfl
  ·rw[if_neg]
   intro e
   have:=ho.1 e
   omega
  ·rw[if_pos (ho.2 (by omega))]
   grind
theorem z2w{y:Fe}(hy:y.Sm){P:EPt dF}(h:y.F=P.y)(odd:Bool)(ho:odd=true↔P.x.val%2=1):
  (za5 (zbq y)).2=true/\(negF odd (za5 (zbq y)).1).Sm/\(negF odd (za5 (zbq y)).1).F=P.x/\(za5 (zbq y)).1.Sm/\(za5 (zbq y)).1.F*(za5 (zbq y)).1.F=P.x*P.x/\(za5 (zbq y)).1.F.val%2=0:=by
 obtain⟨h1,h2,h3,h4⟩:=zhvb (zftb y) P.x (zfsb hy h)
 have e:=za9b h3 h4 odd ho
 generalize za5 (zbq y)=rr at*
 obtain⟨r,ok⟩:=rr
 simp only at*
 have hn:(Fe.sub fz r).F=0-r.F:=by
  have:=zjl zwa h2
  rw[fz_F]at this
  exact this
 refine⟨h1,?_,?_,h2,h3,h4⟩
 ·cases odd with
  |true=>exact zfm _ _
  |false=>exact h2
 ·cases odd with
  |true=>
   rw[if_pos rfl]at e
   exact hn.trans e
  |false=>exact e
theorem zieb(b:UInt8)(t:Nat):(b|||128).toNat.testBit t=(b.toNat.testBit t||decide (t=7)):=by
 rw[UInt8.toNat_or,Nat.testBit_or,show(128:UInt8).toNat=2^7 from rfl,Nat.testBit_two_pow]
 congr 1
 exact decide_eq_decide.2 (by omega)
theorem zg7b(b:UInt8)(t:Nat):(b&&&127).toNat.testBit t=(b.toNat.testBit t&&decide (t<7)):=by
 rw[UInt8.toNat_and,Nat.testBit_and,show(127:UInt8).toNat=2^7-1 from rfl,Nat.testBit_two_pow_sub_one]
theorem zdcb(b:List UInt8):oddB b=bitO b 255:=by
 have h:=(b.getD 31 0).toNat_lt
 have e:bitO b 255=decide ((b.getD 31 0).toNat/2^7%2=1):=by
  unfold bitO
  exact Nat.testBit_eq_decide_div_mod_eq
 unfold oddB
 rw[e,Bool.eq_iff_iff,beq_iff_eq,decide_eq_true_eq,show(2:Int)^(min (7:Int).toNat 8)=128 from rfl,Int.fdiv_eq_ediv_of_nonneg _ (by decide)]
 omega
theorem zc6b(b:List UInt8)(hb:b.length=32)(n:Nat)(hn:n<256):bitO (lowB b) n=(bitO b n&&decide (n<255)):=by
 unfold lowB
 rw[zp2 _ _ _ (by omega)]
 split
 ·next h=>
  rw[zg7b,bitO,h]
  congr 1
  exact decide_eq_decide.2 (by omega)
 ·next h=>rw[decide_eq_true (by omega),Bool.and_true]
theorem zr7(p:Pt):p.bytes.length=32:=by
 unfold Pt.bytes
 split
 ·rw[List.length_set,Fe.bytes_len]
 ·exact Fe.bytes_len _
theorem z50(p:Pt)(n:Nat)(hn:n<256):bitO p.bytes n=(bitO (p.y.mul p.z.inv).bytes n||(decide (n=255)&&(p.x.mul p.z.inv).odd)):=by
 unfold Pt.bytes
 split
 ·next h=>
  rw[h,Bool.and_true,zp2 _ _ _ (by rw[Fe.bytes_len];decide)]
  split
  ·next h1=>
   rw[zieb,bitO,h1]
   congr 1
   exact decide_eq_decide.2 (by omega)
  ·next h1=>rw[decide_eq_false (by omega),Bool.or_false]
 ·next h=>
  rw[Bool.eq_false_iff.2 h,Bool.and_false,Bool.or_false]
theorem zt1{p:Pt}{P:EPt dF}(r:CurP p P): ∃q,decP p.bytes=some q/\CurP q P:=by
 have hz:=zwe r.sz r.rep.ne
 have sz:=zru r.sz
 have hX:(p.x.mul p.z.inv).F=P.x:=by
  rw[zbz r.sx sz,r.rep.hx]
  generalize p.z.F=z at*
  generalize p.z.inv.F=w at*
  grind
 have hY:(p.y.mul p.z.inv).F=P.y:=by
  rw[zbz r.sy sz,r.rep.hy]
  generalize p.z.F=z at*
  generalize p.z.inv.F=w at*
  grind
 have sY:(p.y.mul p.z.inv).Sm:=zbv _ _
 have hb:=z50 p
 have hl:=zr7 p
 have ho:=z2n (p.x.mul p.z.inv)
 rw[hX]at ho
 generalize p.x.mul p.z.inv=X at*
 generalize p.y.mul p.z.inv=Y at*
 generalize p.bytes=b at*
 have e1:Fe.of b=Y.least:=zhib b Y λn hn=>by
  rw[hb n (by omega),decide_eq_false (by omega),Bool.false_and,Bool.or_false]
 have e2:lowB b=Y.bytes:=z6w (by unfold lowB;rw[List.length_set,hl,Fe.bytes_len]) λn hn=>by
  have h32:(lowB b).length=32:=by unfold lowB;rw[List.length_set,hl]
  rw[h32]at hn
  rw[zc6b b hl n (by omega),hb n (by omega)]
  by_cases h:n<255
  ·rw[decide_eq_true h,decide_eq_false (by omega),Bool.false_and,Bool.or_false,Bool.and_true]
  ·obtain rfl:n=255:=by omega
   rw[ztx]
   simp
 have e3:oddB b=X.odd:=by
  rw[zdcb,hb 255 (by omega),ztx]
  simp
 have hy:Y.least.F=P.y:=(zti Y).trans hY
 obtain⟨k1,k2,k3,k4,k5,k6⟩:=z2w (zyb Y) hy (oddB b) (by rw[e3];exact ho)
 refine⟨Pt.of (negF (oddB b) (za5 (zbq (Fe.of b))).1) (Fe.of b),?_,?_⟩
 ·unfold decP
  rw[if_pos hl,e1,if_pos (by rw[z0e,e2]),if_pos]
  refine⟨k1,λ⟨c1,c2⟩=>?_⟩
  have z:=(zgb _ _).1 c1
  rw[fz_F]at z
  rw[e3]at c2
  have c3:=ho.1 c2
  have:P.x=0:=edC.sq (by rw[<-k5,z];grind)
  rw[this]at c3
  exact absurd c3 (by decide+kernel)
 ·rw[e1]
  exact z5v k2 (zyb Y) k3.symm hy.symm
theorem z1p:(numF 5).F≠0:=by
 rw[zjd]
 exactλe=>absurd (congrArg Fin.val e) (by decide+kernel)
theorem baseY_F:baseY.F=Fin.ofNat pC yB:=by
 have h1:=zwe (zgz 5) z1p
 have h2:baseY.F=(numF 4).F*(numF 5).inv.F:=by
  rw[<-zbz (zgz 4) (zru (zgz 5))]
  unfold baseY
  rfl
 have h3:(numF 5).F*Fin.ofNat pC yB=(numF 4).F:=by
  rw[zjd,zjd]
  decide+kernel
 refine edC.canc z1p ?_
 rw[h3,h2]
 generalize (numF 5).F=a at*
 generalize (numF 5).inv.F=b at*
 generalize (numF 4).F=c at*
 grind
theorem zwu:baseY.Sm:=by
 unfold baseY
 exact zbv _ _
theorem z5t(x:Fe):negF false x=x:=rfl
theorem zsr:CurP baseP bP:=by
 have hp:bP.x.val%2=0:=by decide+kernel
 obtain⟨k1,k2,k3,k4,k5,k6⟩:=z2w (P:=bP) zwu baseY_F false ⟨λh=>absurd h (by decide),λh=>by rw[hp]at h;exact absurd h (by decide)⟩
 have:baseP=Pt.of (za5 (zbq baseY)).1 baseY:=by unfold baseP;rfl
 rw[this]
 rw[z5t]at k3
 clear k2
 generalize (za5 (zbq baseY)).1=r at*
 exact z5v k4 zwu k3.symm baseY_F.symm
theorem zhxb{p q:Pt}{P:EPt dF}(r:CurP p P)(t:CurP q P):p.same q=true:=by
 have h1:zbu (p.x.mul q.z) (q.x.mul p.z)=true:=by
  rw[zgb,zbz r.sx t.sz,zbz t.sx r.sz,r.rep.hx,t.rep.hx]
  grind
 have h2:zbu (p.y.mul q.z) (q.y.mul p.z)=true:=by
  rw[zgb,zbz r.sy t.sz,zbz t.sy r.sz,r.rep.hy,t.rep.hy]
  grind
 unfold Pt.same
 rw[h1,h2]
 rfl
theorem zu9(n:Nat):smul edC bP (n%lC)=smul edC bP n:=by
 have h:smul edC bP (lC*(n/lC)+n%lC)=smul edC bP (n%lC):=by
  rw[ze0,zqv,za3b,zva,add_comm,add_zero]
 rw[Nat.div_add_mod]at h
 exact h.symm
theorem z8y{r a:Pt}{R s k:Nat}(hr:CurP r (smul edC bP R))(ha:CurP a (smul edC bP s)){S K:S4}(hS:S.N<lC)(hK:K.N<lC)(hKk:K.N=k)(hSs:S.N=(R+k*s%lC)%lC):zi4 r a S K=true:=by
 unfold zi4
 have h1:=zoz zsr S hS
 have h2:=zzw hr (zoz ha K hK)
 have e:smul edC bP S.N=(smul edC bP R).add edC (smul edC (smul edC bP s) K.N):=by
  rw[<-zqv,<-ze0,hSs,zu9,hKk,ze0,zu9,<-ze0,Nat.mul_comm]
 rw[e]at h1
 exact zhxb h1 h2
theorem sign_holds(seed text:List UInt8):zgd (pubS seed) text (sigB seed text)=true:=by
 have hs:(secS seed).N<lC:=ztm _
 have hr:(sigR seed text).N<lC:=ztm _
 have hk:(sigK seed text).N<lC:=ztm _
 obtain⟨r,d1,p1⟩:=zt1 (zoz zsr (sigR seed text) hr)
 obtain⟨a,d2,p2⟩:=zt1 (zoz zsr (secS seed) hs)
 have hm:=zh1b (sigK seed text) (secS seed)
 have hN:=z6s hr hm
 rw[zmlb]at hN
 have hS:((sigR seed text).sum ((sigK seed text).mul (secS seed))).once.N<lC:=by
  rw[hN]
  exact Nat.mod_lt _ zx7
 have l1:(sigP seed text).length=32:=zr7 _
 have l2:(sigB seed text).length=64:=by
  unfold sigB
  rw[aL,l1,S4.bytes_len]
 have t1:(sigB seed text).take 32=sigP seed text:=by
  unfold sigB
  rw[List.take_append_of_le_length (by omega),List.take_of_length_le (by omega)]
 have t2:(sigB seed text).drop 32=((sigR seed text).sum ((sigK seed text).mul (secS seed))).once.bytes:=by
  unfold sigB
  rw[List.drop_append_of_le_length (by omega),List.drop_of_length_le (by omega),List.nil_append]
 have q1:decP (sigP seed text)=some r:=d1
 have q2:decP (pubS seed)=some a:=d2
 unfold zgd
 rw[if_pos l2,t1,t2,q1,z0i hS,q2]
 exact z8y p1 p2 hS hk rfl hN
#print axioms sign_holds
theorem z72(l:List UInt8)(hl:l.length<=1000000):aG 92 [bs l,bs l] (.r (.b true)):=by
 refine aT Tryz.func92 rfl ?_
 refine zu (by simp only[zb]) (zq ?_)
 refine zy (λj:Nat=>{F:=[(0, .r (bs l)),(1, .r (bs l)),(5, .r (U8 0)),(13, .r (I l.length)),(14, .r (I j))],O:=[],nx:=0}) (λj=>j<=l.length) (λj=>l.length-j) 0 (by omega) (zac [] rfl (by repeat' (first|exact rfl|exact trivial|exact cr|exact Cv.nil _|exact⟨rfl,rfl⟩|refine⟨_,_,rfl,?_,?_⟩|refine⟨?_,?_⟩)) trivial) ?_
 intro j hj
 refine zh (λh=>zp ?_) (λh=>zq ?_)
 ·simp only[zb]at h
  have hj':j<l.length:=by omega
  refine aV ?_
  refine zm (by omega) (by omega) (zi5 rfl hj') (zg rfl ?_)
  refine zm (by omega) (by omega) (zi5 rfl hj') ?_
  refine zg rfl ?_
  refine Vbits.xor8 _ _ rfl rfl ?_
  rw[UInt8.xor_self]
  refine Vbits.or8 0 0 rfl rfl ?_
  refine zd (m:=((j+1:Nat):Int)) (by omega) (by omega) ?_
  exact⟨j+1,by omega,by omega,zac [] rfl (by repeat' (first|exact rfl|exact trivial|exact cr|exact Cv.nil _|exact⟨rfl,rfl⟩|refine⟨_,_,rfl,?_,?_⟩|refine⟨?_,?_⟩)) trivial⟩
 ·refine zt rfl ?_
  exact cr
theorem z1y(v:ViewP)(m:MsgP)(hg:m.group=v.ctx.group)(he:m.epoch=v.ctx.epoch)(hl:m.group.length<=1000000):aG 90 [.ag v.c, .ag m.c] (.r (Er 0)):=by
 refine aT Tryz.func90 rfl ?_
 have hb:=zlq m.group v.ctx.group
 rw[decide_eq_true hg]at hb
 refine ze hb ?_
 refine zu rfl (zq ?_)
 refine zu (by simp only[zb];omega) (zq ?_)
 exact cr
theorem znl(s:SecP)(l:List UInt8)(h1:s.mb.length<=1000000)(h2:l.length<=10000000):aG 78 [.ag s.c,bs l] (.r (bs (macB s.mb l))):=by
 refine aT Tryz.func78 rfl ?_
 have h:=zrm s.mb [l] (by omega) (by simp;omega)
 have e:([l]:List (List UInt8)).flatMap id=l:=by simp
 rw[e]at h
 refine zw ?_
 refine ze h ?_
 exact cr
abbrev frmS:ByteArray:=⟨#[70,114,97,109,101,100,67,111,110,116,101,110,116,84,66,83]⟩
structure MsgP.of (m:MsgP) (v:ViewP) (lf:Leaf) (seed:List UInt8):Prop where
 sm:m.sm
 group:m.group=v.ctx.group
 epoch:m.epoch=v.ctx.epoch
 sign:lf.sign=pubS seed
 sig:m.sig=zh8 seed (sB frmS) (sgnB m v.ctx)
 mem:m.mem=macB v.sec.mb (tagB m v.ctx)
theorem ztn(m:MsgP)(hm:m.sm)(x:CtxP)(hx:x.fit):(sgnB m x).length<=4000000:=by
 have h1:=zi3 m hm
 have h2:=zgq x
 obtain⟨k1,k2,k3,k4⟩:=hx
 simp only[sgnB,aL]
 omega
theorem zto(m:MsgP)(hm:m.sm)(x:CtxP)(hx:x.fit):(tagB m x).length<=4001000:=by
 have h1:=zqu (sgnB m x) m hm
 have h2:=ztn m hm x hx
 exact Nat.le_trans h1 (by omega)
theorem zgeb(v:ViewP)(m:MsgP)(lf:Leaf)(seed:List UInt8)(hv:v.sm)(hx:v.ctx.fit)(h:m.of v lf seed)(hl:lf.fit):aG 28 [.ag v.c, .ag m.c, .ag lf.c] (.r (Er 0)):=by
 have hg:=h.sm.group
 have c1:=z1y v m h.group h.epoch (by omega)
 have c2:=zuf m h.sm v.ctx hx
 have hs:=ztn m h.sm v.ctx hx
 have ht:=zto m h.sm v.ctx hx
 have c3:aG 91 [bs lf.sign,Str frmS,bs (sgnB m v.ctx),bs m.sig] (.r (.b true)):=by
  have hp:=hl.2.1
  have:=zf6b lf.sign frmS (sgnB m v.ctx) m.sig (by omega) (by decide) (by omega)
  have e:zgd lf.sign (zgo (sB frmS) (sgnB m v.ctx)) m.sig=true:=by
   rw[h.sign,h.sig]
   exact sign_holds _ _
  rw[e]at this
  exact this
 have c4:=znj m h.sm v.ctx hx
 have c5:=znl v.sec (tagB m v.ctx) (hv.sec.mb) (by omega)
 have c6:=z72 m.mem (by have:=h.sm.mem;omega)
 rw[<-h.mem]at c5
 refine aT Tryz.func28 rfl ?_
 refine za rfl rfl ?_
 refine za rfl rfl ?_
 refine ze c1 ?_
 refine zu rfl (zq ?_)
 refine za rfl rfl ?_
 refine za rfl rfl ?_
 refine ze c2 ?_
 refine zu rfl ?_
 refine ze c3 ?_
 refine zu rfl (zq ?_)
 refine za rfl rfl ?_
 refine za rfl rfl ?_
 refine ze c4 ?_
 refine aV ?_
 refine za rfl rfl ?_
 refine ze c5 ?_
 refine ze c6 ?_
 refine zu rfl (zq ?_)
 exact cr
abbrev wrt0(own:Int)(l:Leaf):List RV:=[nl, .i .u64 0,I own,U8 3,U8 0,nl,nl,nl,nl,U8 0,nl,nl,nl,nl,nl,nl,U8 0,nl,nl,I 0,nl, .b true,bs l.box,bs l.sign,bs l.ident,U8 l.src,bs l.parent,bs l.sig,nl,nl,nl,nl]
abbrev wrt1(g:List UInt8)(e:RV)(own:Int)(l:Leaf):List RV:=[bs g,e,I own,U8 3,U8 0,nl,nl,nl,nl,U8 0,nl,nl,nl,nl,nl,nl,U8 0,nl,nl,I 0,nl, .b true,bs l.box,bs l.sign,bs l.ident,U8 l.src,bs l.parent,bs l.sig,nl,nl,nl,nl]
abbrev zMsg:List RV:=[nl, .i .u64 0,I 0,U8 0,U8 0,nl,nl,nl,nl,U8 0,nl,nl,nl,nl,nl,nl,U8 0,nl,nl,I 0,nl, .b false,nl,nl,nl,U8 0,nl,nl,nl,nl,nl,nl]
def wsig(v:ViewP)(seed:List UInt8)(o:Nat)(l:Leaf):List UInt8:=zh8 seed (sB frmS) (sgnB ⟨v.ctx.group,v.ctx.epoch,o,l,[],[],[]⟩ v.ctx)
def wrtM(v:ViewP)(seed tag:List UInt8)(o:Nat)(l:Leaf):MsgP:=⟨v.ctx.group,v.ctx.epoch,o,l,wsig v seed o l,tag,macB v.sec.mb (tagB ⟨v.ctx.group,v.ctx.epoch,o,l,wsig v seed o l,tag,[]⟩ v.ctx)⟩
abbrev vw(x:CtxP)(o:Nat)(it tg:List UInt8)(sc:SecP)(ky:KeyP):ViewP:=⟨x,o,it,tg,sc,ky⟩
theorem zb7b(x:CtxP)(it tg:List UInt8)(sc:SecP)(ky:KeyP)(seed:List UInt8)(o:Nat)(hol:o<65536)(hv:(vw x o it tg sc ky).sm)(hx:(vw x o it tg sc ky).ctx.fit)(hg:(vw x o it tg sc ky).ctx.group.length<=64)(hs:seed.length=32)(l:Leaf)(hlr:l.right=true)(hsr:l.src=3)(hpr:l.parent.length=0):
  aG 21 [.ag (vw x o it tg sc ky).c,bs seed, .ag (wrt0 (o:Int) l)] (.r (.tu [.ag (wrtM (vw x o it tg sc ky) seed z32 o l).c,Er 0])):=by
 have c1:aG 42 [bs (vw x o it tg sc ky).ctx.group] (.r (bs (vw x o it tg sc ky).ctx.group)):=zfu (zbx (vw x o it tg sc ky).ctx.group (by omega))
 refine aT Tryz.func21 rfl ?_
 refine Vdraw.code (Vcode.float mixed Tab_ok 15 [⟨0,10, .adr 0 0,[]⟩,⟨1,11, .adr 0 0,[0]⟩,⟨2,12, .r (bs (vw x o it tg sc ky).ctx.group),[1]⟩,⟨4,14, .adr 0 0,[]⟩,⟨5,15, .adr 0 1,[4]⟩,⟨6,16, .r (.i .u64 (vw x o it tg sc ky).ctx.epoch),[5]⟩,⟨7,17, .adr 0 4,[]⟩,⟨8,18, .r (I (o:Int)),[7]⟩,⟨9,19, .adr 1 0,[]⟩,⟨11,20, .adr 1 1,[]⟩,⟨13,21, .adr 1 2,[]⟩] [(3,[2]),(10,[9]),(12,[11,6]),(14,[13,8])] (by kernel_rfl) (F:=[(1, .r (bs seed)),(3, .own 0),(5, .own 1),(6, .own 2)]) (O:=[(0,some (.box ((vw x o it tg sc ky).c.map .r))),(1,some (.box ((wrt0 (o:Int) l).map .r))),(2,some (.box (zMsg.map .r)))]) (nx:=3) (zac [(0,0),(1,1),(2,2)] rfl (by repeat' (first|exact rfl|exact trivial|exact cr|exact Cv.nil _|exact⟨rfl,rfl⟩|refine⟨_,_,rfl,?_,?_⟩|refine⟨?_,?_⟩)) (by repeat' (first|exact rfl|exact trivial|exact cr|exact Cv.nil _|exact⟨rfl,rfl⟩|refine⟨_,_,rfl,?_,?_⟩|refine⟨?_,?_⟩))) ?_)
 refine⟨rfl,⟨λY=>zo _,λY=>zo _,λY=>zo _,λY=>zo _,λY=>zo _,λY=>zo _,λY=>zo _,λY=>zo _,λY=>zo _,λY=>zo _,λY=>zo _,trivial⟩,(13, .r (bs (vw x o it tg sc ky).ctx.group))::[(1, .r (bs seed)),(3, .own 0),(5, .own 1),(6, .own 2)],[(0,some (.box ((vw x o it tg sc ky).c.map .r))),(1,some (.box ((wrt0 (o:Int) l).map .r))),(2,some (.box (zMsg.map .r)))],3,λY=>ze c1 (zo _),?_⟩
 refine⟨rfl,⟨λY=>zo _,λY=>zo _,λY=>zo _,λY=>zo _,λY=>zo _,λY=>zo _,λY=>zo _,λY=>zo _,λY=>zo _,λY=>zo _,λY=>zo _,trivial⟩,(13, .r (bs (vw x o it tg sc ky).ctx.group))::[(1, .r (bs seed)),(3, .own 0),(5, .own 1),(6, .own 2)],(1,some (.box ((wrt1 (vw x o it tg sc ky).ctx.group (.i .u64 0) (o:Int) l).map .r)))::[(0,some (.box ((vw x o it tg sc ky).c.map .r))),(1,some (.box ((wrt0 (o:Int) l).map .r))),(2,some (.box (zMsg.map .r)))],3,λY=>zo _,?_⟩
 refine⟨rfl,⟨λY=>zo _,λY=>zo _,λY=>zo _,λY=>zo _,λY=>zo _,λY=>zo _,λY=>zo _,λY=>zo _,λY=>zo _,λY=>zo _,λY=>zo _,trivial⟩,(13, .r (bs (vw x o it tg sc ky).ctx.group))::[(1, .r (bs seed)),(3, .own 0),(5, .own 1),(6, .own 2)],(1,some (.box ((wrt1 (vw x o it tg sc ky).ctx.group (.i .u64 (vw x o it tg sc ky).ctx.epoch) (o:Int) l).map .r)))::(1,some (.box ((wrt1 (vw x o it tg sc ky).ctx.group (.i .u64 0) (o:Int) l).map .r)))::[(0,some (.box ((vw x o it tg sc ky).c.map .r))),(1,some (.box ((wrt0 (o:Int) l).map .r))),(2,some (.box (zMsg.map .r)))],3,λY=>zo _,?_⟩
 refine⟨rfl,⟨λY=>zo _,λY=>zo _,λY=>zo _,λY=>zo _,λY=>zo _,λY=>zo _,λY=>zo _,λY=>zo _,λY=>zo _,λY=>zo _,λY=>zo _,trivial⟩,(13, .r (bs (vw x o it tg sc ky).ctx.group))::[(1, .r (bs seed)),(3, .own 0),(5, .own 1),(6, .own 2)],(1,some (.box ((wrt1 (vw x o it tg sc ky).ctx.group (.i .u64 (vw x o it tg sc ky).ctx.epoch) (o:Int) l).map .r)))::(1,some (.box ((wrt1 (vw x o it tg sc ky).ctx.group (.i .u64 (vw x o it tg sc ky).ctx.epoch) (o:Int) l).map .r)))::(1,some (.box ((wrt1 (vw x o it tg sc ky).ctx.group (.i .u64 0) (o:Int) l).map .r)))::[(0,some (.box ((vw x o it tg sc ky).c.map .r))),(1,some (.box ((wrt0 (o:Int) l).map .r))),(2,some (.box (zMsg.map .r)))],3,λY=>zo _,?_⟩
 refine⟨rfl,⟨λY=>zo _,λY=>zo _,λY=>zo _,λY=>zo _,λY=>zo _,λY=>zo _,λY=>zo _,λY=>zo _,λY=>zo _,λY=>zo _,λY=>zo _,trivial⟩,?_⟩
 have hm1:MsgP.sm ⟨(vw x o it tg sc ky).ctx.group,(vw x o it tg sc ky).ctx.epoch,o,l,List.replicate 64 0,z32,z32⟩:=⟨hg,hx.epoch,hol,by simp,rfl,rfl,hlr,hsr,hpr⟩
 have hm2:MsgP.sm ⟨(vw x o it tg sc ky).ctx.group,(vw x o it tg sc ky).ctx.epoch,o,l,wsig (vw x o it tg sc ky) seed o l,z32,z32⟩:=⟨hg,hx.epoch,hol,zex _ _ _,rfl,rfl,hlr,hsr,hpr⟩
 have hs1:=ztn _ hm1 (vw x o it tg sc ky).ctx hx
 have ht1:=zto _ hm2 (vw x o it tg sc ky).ctx hx
 have c2:=zuf _ hm1 (vw x o it tg sc ky).ctx hx
 have c3:=zs9 seed frmS (sgnB ⟨(vw x o it tg sc ky).ctx.group,(vw x o it tg sc ky).ctx.epoch,o,l,List.replicate 64 0,z32,z32⟩ (vw x o it tg sc ky).ctx) hs (by decide) (by omega)
 have c4:=znj _ hm2 (vw x o it tg sc ky).ctx hx
 have c5:=znl (vw x o it tg sc ky).sec (tagB ⟨(vw x o it tg sc ky).ctx.group,(vw x o it tg sc ky).ctx.epoch,o,l,wsig (vw x o it tg sc ky) seed o l,z32,z32⟩ (vw x o it tg sc ky).ctx) hv.sec.mb (by omega)
 refine aV ?_
 refine⟨rfl,by decide,by decide,by decide,64,_,rfl,rfl,zw ?_⟩
 refine ze zhs ?_
 refine zt rfl ?_
 refine zt rfl (zp ?_)
 refine ze zhs ?_
 refine za rfl rfl ?_
 refine za rfl rfl ?_
 refine Vcall.mk' c2 (zk (zf rfl) (zn _)) ?_
 refine zu rfl (zq ?_)
 refine ze c3 ?_
 refine zu rfl (zq ?_)
 refine za rfl rfl ?_
 refine za rfl rfl ?_
 refine Vcall.mk' c4 (zk (zf rfl) (zn _)) ?_
 refine za rfl rfl ?_
 refine ze c5 ?_
 refine za rfl rfl ?_
 refine za rfl rfl ?_
 exact⟨_,rfl,zf rfl⟩
def trnB(interim text:List UInt8):List UInt8:=shaB (interim++text)
theorem zxw(c t:List UInt8)(h1:c.length<=1000000)(h2:t.length<=1000000):aG 100 [bs c,bs t] (.r (bs (trnB c t))):=by
 refine aT Tryz.func100 rfl ?_
 have h:=zoq [c,t] (by simp;omega)
 have e:([c,t]:List (List UInt8)).flatMap id=c++t:=by simp
 rw[e]at h
 refine zw ?_
 refine ze h ?_
 exact cr
def nxtC(v:ViewP)(m:MsgP)(tree:List UInt8):CtxP:=⟨v.ctx.group,v.ctx.epoch+1,tree,trnB v.interim (cfmB m)⟩
def nxtS(v:ViewP)(m:MsgP)(tree commit:List UInt8):SecP:=schS (ze7 v.sec.it commit (ctxB (nxtC v m tree))) (ctxB (nxtC v m tree))
def nxtT(v:ViewP)(m:MsgP)(tree commit:List UInt8):List UInt8:=macB (nxtS v m tree commit).cf (trnB v.interim (cfmB m))
def nxtV(v:ViewP)(m:MsgP)(tree commit:List UInt8)(ky:KeyP):ViewP:=⟨nxtC v m tree,v.own,intB (trnB v.interim (cfmB m)) (nxtT v m tree commit),nxtT v m tree commit,nxtS v m tree commit,ky⟩
theorem zfob(m:MsgP)(hm:m.sm):(cfmB m).length<=700:=by
 have h1:=zop m hm
 have h2:=zag m.sig
 have h3:=hm.sig
 simp only[cfmB,aL,zak]
 omega
theorem zzq(i c x:List UInt8):(schS (ze7 i c x) x).sm:=z2z (zbb _ _ _ (n:=32) (by omega)) (zbb _ _ _ (n:=32) (by omega)) (zbb _ _ _ (n:=32) (by omega))
theorem zgfb(v:ViewP)(m:MsgP)(tree commit:List UInt8)(ky:KeyP)(hky:ky.key.length<=1000000)(hv:v.sm)(hm:m.sm)(hg:v.ctx.group.length<=64)(he:v.ctx.epoch+1<18446744073709551616)(ht:tree.length<=1000)(hc:commit.length<=1000):
  aG 34 [.ag v.c, .ag m.c,bs tree,bs commit,keyR [ky]] (.r (.ag (nxtV v m tree commit ky).c)):=by
 have hl:=zfob m hm
 have hi:=hv.interim
 have c0:=zxq m hm
 have c1:aG 42 [bs v.ctx.group] (.r (bs v.ctx.group)):=zfu (zbx v.ctx.group (by omega))
 have c2:aG 42 [bs tree] (.r (bs tree)):=zfu (zbx tree (by omega))
 have c3:=zxw v.interim (cfmB m) (by omega) (by omega)
 have htl:(trnB v.interim (cfmB m)).length=32:=zcd _
 have c4:=zte v.sec.it commit (nxtC v m tree) ⟨by show v.ctx.group.length<=_;omega,he,by show tree.length<=_;omega,by show(trnB v.interim (cfmB m)).length<=_;omega⟩ (by show v.ctx.group.length+tree.length+(trnB v.interim (cfmB m)).length<=_;omega) (by have:=hv.sec.it;omega) (by omega)
 have c5:=zxx (nxtS v m tree commit) (trnB v.interim (cfmB m)) (zzq _ _ _).cf (by omega)
 have c6:=zlx (trnB v.interim (cfmB m)) (nxtT v m tree commit) (by omega) (by have:(nxtT v m tree commit).length=32:=zbm _ _;omega)
 have c7:=zpk ky hky
 refine aT Tryz.func34 rfl ?_
 refine za rfl rfl ?_
 refine ze c0 ?_
 refine aV ?_
 refine ze c1 ?_
 refine Vint.u64 (n:=v.ctx.epoch+1) (by omega) he ?_
 refine ze c2 ?_
 refine ze c3 ?_
 refine za rfl rfl ?_
 refine ze c4 ?_
 refine za rfl rfl ?_
 refine ze c5 ?_
 refine aV ?_
 refine za rfl rfl ?_
 refine ze c6 ?_
 refine za rfl rfl ?_
 refine ze c7 ?_
 refine za rfl rfl ?_
 exact cr
theorem zgjb(v:ViewP)(o:Leaf)(sg:List UInt8):aG 106 [.ag (stR v o sg),nl] (.r nl):=by
 refine aT Tryz.func106 rfl ?_
 refine Vloop.rounds 1 (Vrounds.step mixed Tab_ok ?_)
 refine zu rfl (zq ?_)
 refine Vloop.rounds 1 (Vrounds.step mixed Tab_ok ?_)
 refine zu rfl (zq ?_)
 exact cr
abbrev msg0(own:Int):List RV:=[nl, .i .u64 0,I own,U8 3,U8 0,nl,nl,nl,nl,U8 0,nl,nl,nl,nl,nl,nl,U8 0,nl,nl,I 0,nl, .b false,nl,nl,nl,U8 0,nl,nl,nl,nl,nl,nl]
theorem z8d(own:Int):aG 30 [nl, .ag (msg0 own)] (.r (.tu [nl,Er 0])):=by
 refine aT Tryz.func30 rfl ?_
 refine Vloop.rounds 1 (Vrounds.step mixed Tab_ok ?_)
 refine zu rfl (zq ?_)
 exact⟨_,rfl,cr⟩
def wayC(x:CtxP)(ol:Leaf):CtxP:=⟨x.group,x.epoch+1,hash1 ol,x.trans⟩
theorem zcvb(v:ViewP)(hx:v.ctx.fit)(he:v.ctx.epoch+1<18446744073709551616)(ol:Leaf)(hr:ol.right=true):
  aG 186 [.ag v.c,nods [L1 ol]] (.r (bs (ctxB (wayC v.ctx ol)))):=by
 have c1:=zov ol (zcn hr) hr
 have hl:=zht ol
 have c2:=zng (wayC v.ctx ol) ⟨hx.group,he,by show(hash1 ol).length<=_;omega,hx.trans⟩
 refine aT Tryz.func186 rfl ?_
 refine za rfl rfl ?_
 refine Vint.u64 (n:=v.ctx.epoch+1) (by omega) he ?_
 refine ze c1 ?_
 refine za rfl rfl ?_
 refine ze c2 ?_
 exact cr
theorem z0p(lf:Leaf)(hlf:lf.fit)(hlr:lf.right=true):aG 184 [nods [L1 lf],I 0] (.r nl):=by
 have e1:zo1 0 1=[]:=by decide
 have e2:zon 0 1=[]:=by decide
 have cp:=zxa 0 1
 have cc:=zw7 0 1
 rw[e1]at cp
 rw[e2]at cc
 refine aT Tryz.func184 rfl ?_
 refine ze (zjt lf) ?_
 refine ze (zi2 lf hlf hlr) ?_
 refine zu rfl ?_
 refine zu rfl ?_
 refine zu rfl (zq ?_)
 refine zd (m:=0) rfl (by decide) ?_
 refine ze cc ?_
 refine zd (m:=0) rfl (by decide) ?_
 refine ze cp ?_
 refine Vloop.rounds 1 (Vrounds.step mixed Tab_ok ?_)
 refine zu rfl (zq ?_)
 exact cr
abbrev nodO(l:List RV)(n:Nat):Ow:= .ch 40 10 n l false
theorem zb2b(lf:Leaf)(hlf:lf.fit):aG 145 [nods [L1 lf]] (.own 40 10 1 (L1 lf).c):=by
 refine aT Tryz.func145 rfl ?_
 refine zy (λi:Bool=>cond i ⟨[(3, .own 0),(6, .r (nods [L1 lf])),(7, .r (I 1)),(8, .r (I 1))],[(0,some (nodO (L1 lf).c 1))],1⟩ ⟨[(3, .own 0),(6, .r (nods [L1 lf])),(7, .r (I 1)),(8, .r (I 0))],[(0,some (nodO [] 0))],1⟩) (λ_=>True) (λi=>cond i 0 1) false trivial
  ((zie 3 40 10 rfl).trans (zac [(0,0)] rfl ⟨rfl,cr,cr,cr,trivial⟩ ⟨⟨rfl,rfl,rfl,rfl,zn _⟩,trivial⟩)) ?_
 rintro(_ |_) _
 ·refine zt rfl (zp ?_)
  refine zm i00 i01 (idx0 lf) ?_
  refine za rfl rfl ?_
  refine za rfl rfl ?_
  refine ze (ze3 (L1 lf) (zdx hlf) (zb1 _ hlf)) ?_
  refine zw ?_
  refine Vapp.mk' (j:=1) (zs:=(L1 lf).c) (by decide) (by decide) rfl rfl ?_
  refine zd (m:=1) rfl (by decide) ?_
  exact⟨true,trivial,by decide,zac [(0,3)] rfl ⟨rfl,cr,cr,cr,trivial⟩ ⟨⟨rfl,rfl,rfl,rfl,zn _⟩,trivial⟩⟩
 ·refine zu rfl (zq ?_)
  exact rfl
abbrev ze7b(ol:Leaf)(com pl:List UInt8):List RV:=[bs ol.box,bs ol.sign,bs ol.ident,U8 ol.src,bs ol.parent,bs ol.sig,nl,nods [L1 ol],bs com,keyR [⟨0,pl⟩],nl]
abbrev v0(x:CtxP)(it tg:List UInt8)(sc:SecP)(ky:KeyP):ViewP:=⟨x,0,it,tg,sc,ky⟩
abbrev zwx:ByteArray:=⟨#[98,111,120,101,115]⟩
abbrev z11:List TF:=[.r nl, .r nl, .r nl, .r (U8 0), .r nl, .r nl, .r nl, .r nl, .r nl, .r nl, .r nl]
abbrev t11(com pl:List UInt8):List TF:=[.r nl, .r nl, .r nl, .r (U8 0), .r nl, .r nl, .r nl, .own 6, .r (bs com), .r (keyR [⟨0,pl⟩]), .r nl]
set_option maxRecDepth 20000 in
set_option maxHeartbeats 1000000 in
theorem zcjb(x:CtxP)(it tg:List UInt8)(sc:SecP)(ky:KeyP)(o ol:Leaf)(sg seed com pl s1 s2 cx:List UInt8)(ho:o.right=true)(hol:ol.right=true)
  (c1:aG 182 [nods [L1 o],I 0] (.r (.tu [.ag (zcl o).c,Er 0])))
  (c2:aG 45 [bs seed,Str ⟨#[112,97,116,104]⟩] (.r (bs s1)))
  (c3:aG 183 [.ag (zcl o).c,bs s1,bs sg,bs x.group] (.r (.tu [.ag (MadeP.c ⟨zcl ol,ol,[],[⟨0,pl⟩],[],com⟩),Er 0])))
  (c4:aG 45 [bs seed,Str zwx] (.r (bs s2)))
  (c5:aG 186 [.ag (v0 x it tg sc ky).c,nods [L1 ol]] (.r (bs cx)))
  (c6:aG 185 [.ag (MadeP.c ⟨zcl ol,ol,[],[⟨0,pl⟩],[],com⟩),nl,bs s2,bs cx] (.r (.tu [.ag (wayR ol),Er 0]))):
  aG 108 [.ag (stR (v0 x it tg sc ky) o sg), .ag [nods [L1 o],nl,nl, .b true], .b true,bs seed] (.r (.tu [.ag (ze7b ol com pl),Er 0])):=by
 have c7:=zb2b o (zcn ho)
 have c8:=z0p o (zcn ho) ho
 refine za1 (T:=Tab) mixed Tab_ok Tryz.func108 rfl (by kernel_rfl) ?_
 refine za rfl rfl ?_
 refine zu rfl (zq ?_)
 refine ze c1 ?_
 refine Vdraw.mk' rfl ?_
 refine za rfl rfl ?_
 refine ze c2 ?_
 refine ze c3 ?_
 refine zu rfl (zq ?_)
 refine Vdraw.code (Vcode.bar2 mixed Tab_ok 7 [0,1,2,3,4,5,6,8,7,9] [0,1,2,3,4,5,6,8,7,9] [0] [0,1]
  ⟨[(3, .r (bs seed)),(4, .own 0),(5, .own 1),(8, .own 2),(10, .own 3),(13, .own 5),(14, .r (Er 0)),(15, .own 7)],[(0,some (.box ((stR (v0 x it tg sc ky) o sg).map .r))),(1,some (.box [.r (nods [L1 o]), .r nl, .r nl, .r (.b true)])),(2,some (.box z11)),(3,some (.box ((v0 x it tg sc ky).c.map .r))),(5,some (.box ((MadeP.c ⟨zcl ol,ol,[],[⟨0,pl⟩],[],com⟩).map .r))),(6,some (nodO (L1 o).c 1)),(7,some (.box (t11 com pl)))],8⟩ (by kernel_rfl) ?_ ?_)
 ·refine ze c7 ?_
  refine⟨?_,?_⟩
  ·refine Vstep.nmS 6 1000006 rfl (by decide) λb c=>Vstep.sub (zk6 (id:=6) (t:=61) (tn:=1000006) rfl rfl) (Vstep.val Tab_ok ?_)
   refine Sub.trans (zj8 (id:=7) (j:=6) (tn:=1000006) (i:=7) rfl rfl rfl) (zac [(0,0),(1,1),(2,2),(3,3),(5,5),(6,6),(7,7)] rfl (by repeat' (first|exact rfl|exact trivial|exact cr|exact zn _|exact Cv.nil _|exact⟨rfl,rfl⟩|refine⟨_,_,rfl,?_,?_⟩|refine⟨?_,?_⟩)) (by repeat' (first|exact rfl|exact trivial|exact cr|exact zn _|exact Cv.nil _|exact⟨rfl,rfl⟩|refine⟨_,_,rfl,?_,?_⟩|refine⟨?_,?_⟩)))
  ·refine Vstep.nmS 6 1000006 rfl (by decide) λb c=>Vstep.sub (zk6 (id:=6) (t:=61) (tn:=1000006) rfl rfl) (Vstep.val Tab_ok ?_)
   refine Sub.trans (zj8 (id:=8) (j:=6) (tn:=1000006) (i:=7) rfl rfl rfl) (zac [(0,0),(1,1),(2,2),(3,3),(5,5),(6,6),(7,8)] rfl (by repeat' (first|exact rfl|exact trivial|exact cr|exact zn _|exact Cv.nil _|exact⟨rfl,rfl⟩|refine⟨_,_,rfl,?_,?_⟩|refine⟨?_,?_⟩)) (by repeat' (first|exact rfl|exact trivial|exact cr|exact zn _|exact Cv.nil _|exact⟨rfl,rfl⟩|refine⟨_,_,rfl,?_,?_⟩|refine⟨?_,?_⟩)))
 refine zy (λi:Bool=>⟨[(3, .r (bs seed)),(4, .own 0),(5, .own 1),(8, .own 2),(10, .own 3),(13, .own 5),(14, .r (Er 0)),(15, .own 7),(69, .r (zsf (zcl ol).opn)),(70, .r (I 1)),(71, .r (cond i (I 1) (I 0)))],[(0,some (.box ((stR (v0 x it tg sc ky) o sg).map .r))),(1,some (.box [.r (nods [L1 o]), .r nl, .r nl, .r (.b true)])),(2,some (.box z11)),(3,some (.box ((v0 x it tg sc ky).c.map .r))),(5,some (.box ((MadeP.c ⟨zcl ol,ol,[],[⟨0,pl⟩],[],com⟩).map .r))),(6,some (nodO (cond i (L1 ol).c (L1 o).c) 1)),(7,some (.box (t11 com pl)))],8⟩) (λ_=>True) (λi=>cond i 0 1) false trivial
  (zac [(0,0),(1,1),(2,2),(3,3),(5,5),(6,6),(7,7)] rfl (by repeat' (first|exact rfl|exact trivial|exact cr|exact zn _|exact Cv.nil _|exact⟨rfl,rfl⟩|refine⟨_,_,rfl,?_,?_⟩|refine⟨?_,?_⟩)) (by repeat' (first|exact rfl|exact trivial|exact cr|exact zn _|exact Cv.nil _|exact⟨rfl,rfl⟩|refine⟨_,_,rfl,?_,?_⟩|refine⟨?_,?_⟩))) ?_
 rintro(_ |_) _
 ·refine zt rfl (zp ?_)
  refine zm i00 i01 rfl ?_
  refine za rfl rfl ?_
  refine za rfl rfl ?_
  refine Vadr.mk' 0 rfl (by decide) ?_
  refine⟨(by show 0*10+10<=10;decide),(L1 ol).c,rfl,?_⟩
  refine zd (m:=1) rfl (by decide) ?_
  exact⟨true,trivial,by decide,zac [(0,0),(1,1),(2,2),(3,3),(5,5),(6,6),(7,7)] rfl (by repeat' (first|exact rfl|exact trivial|exact cr|exact zn _|exact Cv.nil _|exact⟨rfl,rfl⟩|refine⟨_,_,rfl,?_,?_⟩|refine⟨?_,?_⟩)) (by repeat' (first|exact rfl|exact trivial|exact cr|exact zn _|exact Cv.nil _|exact⟨rfl,rfl⟩|refine⟨_,_,rfl,?_,?_⟩|refine⟨?_,?_⟩))⟩
 ·refine zu rfl (zq ?_)
  refine ze c8 ?_
  refine zy (λ_:Unit=>⟨[(3, .r (bs seed)),(4, .own 0),(5, .own 1),(8, .own 2),(10, .own 3),(13, .own 5),(14, .r (Er 0)),(15, .own 7),(88, .r (I 0)),(89, .r (I 0))],[(0,some (.box ((stR (v0 x it tg sc ky) o sg).map .r))),(1,some (.box [.r (nods [L1 o]), .r nl, .r nl, .r (.b true)])),(2,some (.box z11)),(3,some (.box ((v0 x it tg sc ky).c.map .r))),(5,some (.box ((MadeP.c ⟨zcl ol,ol,[],[⟨0,pl⟩],[],com⟩).map .r))),(6,some (.ch 40 10 1 (L1 ol).c true)),(7,some (.box (t11 com pl)))],8⟩) (λ_=>True) (λ_=>0) () trivial
   (Sub.trans (zbd (id:=6) rfl) (zac [(0,0),(1,1),(2,2),(3,3),(5,5),(6,6),(7,7)] rfl (by repeat' (first|exact rfl|exact trivial|exact cr|exact zn _|exact Cv.nil _|exact⟨rfl,rfl⟩|refine⟨_,_,rfl,?_,?_⟩|refine⟨?_,?_⟩)) (by repeat' (first|exact rfl|exact trivial|exact cr|exact zn _|exact Cv.nil _|exact⟨rfl,rfl⟩|refine⟨_,_,rfl,?_,?_⟩|refine⟨?_,?_⟩)))) ?_
  rintro _ _
  refine zu rfl (zq ?_)
  refine Vdraw.mk' rfl ?_
  refine za rfl rfl ?_
  refine ze c4 ?_
  refine za rfl rfl ?_
  refine ze c5 ?_
  refine ze c6 ?_
  refine za rfl rfl ?_
  exact⟨_,zo _,za rfl rfl ⟨_,rfl,cr⟩⟩
abbrev grS(v:ViewP)(o:Leaf)(sg cm:List UInt8)(w:ViewP)(ol:Leaf):List RV:=[bs v.ctx.group, .i .u64 v.ctx.epoch,bs v.ctx.tree,bs v.ctx.trans,I v.own,bs v.interim,bs v.tag,bs v.sec.jn,bs v.sec.wl,bs v.sec.ep,bs v.sec.sd,bs v.sec.en,bs v.sec.ex,bs v.sec.au,bs v.sec.xt,bs v.sec.cf,bs v.sec.mb,bs v.sec.rs,bs v.sec.it,keyR [v.key],nods [L1 o],bs sg,ns,ns,bs cm,bs w.ctx.group, .i .u64 w.ctx.epoch,bs w.ctx.tree,bs w.ctx.trans,I w.own,bs w.interim,bs w.tag,bs w.sec.jn,bs w.sec.wl,bs w.sec.ep,bs w.sec.sd,bs w.sec.en,bs w.sec.ex,bs w.sec.au,bs w.sec.xt,bs w.sec.cf,bs w.sec.mb,bs w.sec.rs,bs w.sec.it,keyR [w.key],nods [L1 ol],bs sg,ns,ns]
abbrev grN(w:ViewP)(ol:Leaf)(sg:List UInt8):List RV:=[bs w.ctx.group, .i .u64 w.ctx.epoch,bs w.ctx.tree,bs w.ctx.trans,I w.own,bs w.interim,bs w.tag,bs w.sec.jn,bs w.sec.wl,bs w.sec.ep,bs w.sec.sd,bs w.sec.en,bs w.sec.ex,bs w.sec.au,bs w.sec.xt,bs w.sec.cf,bs w.sec.mb,bs w.sec.rs,bs w.sec.it,keyR [w.key],nods [L1 ol],bs sg,ns,ns,ns,ns, .i .u64 0,ns,ns,I 0,ns,ns,ns,ns,ns,ns,ns,ns,ns,ns,ns,ns,ns,ns,ns,ns,ns,ns,ns]
set_option maxRecDepth 40000 in
set_option maxHeartbeats 2000000 in
theorem zxm(q:Value)(x:CtxP)(it tg:List UInt8)(sc:SecP)(ky:KeyP)(o ol:Leaf)(sg seed com pl h tx mb cm:List UInt8)(M:MsgP)(w:ViewP)(hs:seed.length=32)(he:x.epoch≠18446744073709551615)(hei:x.epoch<18446744073709551616)(hcm:cm.length<=1048576)(ho:o.right=true)
  (c4:aG 108 [.ag (stR (v0 x it tg sc ky) o sg), .ag [nods [L1 o],nl,nl, .b true], .b true,bs seed] (.r (.tu [.ag (ze7b ol com pl),Er 0])))
  (c5:aG 21 [.ag (v0 x it tg sc ky).c,bs sg, .ag (wrt0 0 ol)] (.r (.tu [.ag M.c,Er 0])))
  (c6:aG 43 [nods [L1 ol]] (.r (.tu [bs h,Er 0])))
  (c7:aG 34 [.ag (v0 x it tg sc ky).c, .ag M.c,bs h,bs com,keyR [⟨0,pl⟩]] (.r (.ag w.c)))
  (c8:aG 77 [.ag (MsgP.c ⟨M.group,M.epoch,M.frm,M.lf,M.sig,w.tag,M.mem⟩), .ag x.c] (.r (.tu [bs tx,Er 0])))
  (c9:aG 78 [.ag sc.c,bs tx] (.r (bs mb)))
  (c10:aG 104 [.ag (MsgP.c ⟨M.group,M.epoch,M.frm,M.lf,M.sig,w.tag,mb⟩)] (.r (.tu [bs cm,Er 0])))
  (c11:aG 42 [bs cm] (.r (bs cm)))
  (c12:aG 69 [.ag (stR w ol sg)] (.r (.ag (stR w ol sg)))):
  Acts aP 38 1 [(0, .box ((grR (v0 x it tg sc ky) o sg).map .r))] [.own 0, .r nl, .r (.b false), .r (bs seed)] [(0,q)] 1 [(0, .box ((grS (v0 x it tg sc ky) o sg cm w ol).map .r))] (.r (.tu [bs cm,nl,Er 0])):=by
 have c1:=zgjb (v0 x it tg sc ky) o sg
 have c2:=z8d 0
 have c3:=z7s o (zcn ho) ho x.group
 refine zah (T:=Tab) mixed Tab_ok Tryz.func38 rfl (by kernel_rfl) rfl ⟨⟨_,_,rfl,rfl,zai,zai⟩,trivial⟩ ?_
 refine⟨⟨_,Tryz.underlying24⟩,?_⟩
 refine zq ?_
 refine zu (by simp only[zb];omega) (zq ?_)
 refine zu (by simp only[zb];omega) (zq ?_)
 refine za rfl rfl ?_
 refine aV ?_
 refine za rfl rfl ?_
 refine ze c1 ?_
 refine za rfl rfl ?_
 refine ze c2 ?_
 refine ze c3 ?_
 refine zu rfl (zq ?_)
 refine za rfl rfl ?_
 refine za rfl rfl ?_
 refine ze c4 ?_
 refine zu rfl (zq ?_)
 refine za rfl rfl ?_
 refine za rfl rfl ?_
 refine za rfl rfl ?_
 refine ze c5 ?_
 refine zu rfl (zq ?_)
 refine ze c6 ?_
 refine za rfl rfl ?_
 refine za rfl rfl ?_
 refine ze c7 ?_
 refine za rfl rfl ?_
 refine za rfl rfl ?_
 refine ze c8 ?_
 refine za rfl rfl ?_
 refine ze c9 ?_
 refine za rfl rfl ?_
 refine ze c10 ?_
 refine zu rfl (zq ?_)
 refine zu (by simp only[zb];omega) (zq ?_)
 refine zu rfl (zq ?_)
 refine ze c11 ?_
 refine za rfl rfl ?_
 refine ze c12 ?_
 exact zan (.inl rfl) [(0,0)] [(8, .r (bs cm)),(9, .r nl),(10, .r (Er 0))] [] rfl (by repeat' (first|exact rfl|exact trivial|exact cr|exact zn _|exact Cv.nil _|exact⟨rfl,rfl⟩|refine⟨_,_,rfl,?_,?_⟩|refine⟨?_,?_⟩)) ⟨(by repeat' (first|exact rfl|exact trivial|exact cr|exact zn _|exact Cv.nil _|exact⟨rfl,rfl⟩|refine⟨_,_,rfl,?_,?_⟩|refine⟨?_,?_⟩)),trivial⟩ ⟨⟨1000000,rfl⟩,trivial⟩ ⟨_,rfl,cr⟩
set_option maxRecDepth 40000 in
set_option maxHeartbeats 2000000 in
theorem zvy(q:Value)(x:CtxP)(it tg:List UInt8)(sc:SecP)(ky:KeyP)(o ol:Leaf)(sg cm:List UInt8)(M:MsgP)(w:ViewP)(he:M.epoch≠18446744073709551615)(hei:M.epoch<18446744073709551616)(hfr:M.frm=0)(hc0:0<cm.length)
  (c1:aG 111 [bs cm] (.r (.tu [.ag M.c,Er 0])))
  (c2:aG 90 [.ag (v0 x it tg sc ky).c, .ag M.c] (.r (Er 0)))
  (c3:aG 112 [nods [L1 o],I (M.frm:Int)] (.r (.tu [.ag o.c, .b true])))
  (c4:aG 28 [.ag (v0 x it tg sc ky).c, .ag M.c, .ag o.c] (.r (Er 0)))
  (c5:aG 114 [bs cm,bs cm] (.r (.b true))):
  Acts aP 40 1 [(0, .box ((grS (v0 x it tg sc ky) o sg cm w ol).map .r))] [.own 0, .r (bs cm)] [(0,q)] 1 [(0, .box ((grN w ol sg).map .r))] (.r (Er 0)):=by
 refine zah (T:=Tab) mixed Tab_ok Tryz.func40 rfl (by kernel_rfl) rfl ⟨⟨_,_,rfl,rfl,zai,zai⟩,trivial⟩ ?_
 refine⟨⟨_,Tryz.underlying24⟩,?_⟩
 refine zq ?_
 refine ze c1 ?_
 refine zu rfl (zq ?_)
 refine aV ?_
 refine za rfl rfl ?_
 refine za rfl rfl ?_
 refine ze c2 ?_
 refine zu rfl (zq ?_)
 refine aV ?_
 refine ze c3 ?_
 refine zu rfl (zq ?_)
 refine aV ?_
 refine za rfl rfl ?_
 refine za rfl rfl ?_
 refine za rfl rfl ?_
 refine ze c4 ?_
 refine zu rfl (zq ?_)
 refine zu rfl (zq ?_)
 refine zu (by simp only[zb];omega) (zq ?_)
 refine aV ?_
 refine zt (by show((M.frm:Int)==0)=true;rw[hfr];rfl) ?_
 refine zt (by simp only[zb];omega) ?_
 refine ze c5 ?_
 refine zp ?_
 refine za rfl rfl ?_
 refine za rfl rfl ?_
 exact zan (.inl rfl) [(0,0)] [(4, .r (Er 0))] [] rfl (by repeat' (first|exact rfl|exact trivial|exact cr|exact zn _|exact Cv.nil _|exact⟨rfl,rfl⟩|refine⟨_,_,rfl,?_,?_⟩|refine⟨?_,?_⟩)) ⟨(by repeat' (first|exact rfl|exact trivial|exact cr|exact zn _|exact Cv.nil _|exact⟨rfl,rfl⟩|refine⟨_,_,rfl,?_,?_⟩|refine⟨?_,?_⟩)),trivial⟩ ⟨⟨1000000,rfl⟩,trivial⟩ (cr)
end Go.Proofs.YtkegaaonpekkgaaGreat.Sx
