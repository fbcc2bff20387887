import Derived.Test.YtpcfoglfakeimaaGreatZNa
import Derived.Test.YtpcfoglfakeimaaGreatZGeoB
import Derived.Laws.BytesArg
import Derived.Lib.Bytes
import Derived.Test.YtpcfoglfakeimaaGreatZHb
import Derived.Test.YtpcfoglfakeimaaGreatZSxY
import Derived.Test.YtpcfoglfakeimaaGreatZCf
namespace Go.Proofs.YtpcfoglfakeimaaGreat.Sx
open Go.RowKit
def nums(l:List UInt8):List Int:=l.map λb=>(b.toNat:Int)
theorem zrz{S:Nat->Prop}(p:AC)(l:List UInt8)(w:World)(hp:By w S p l):(convert 25 9 (.slice p.a l.length p.c)).run aP w= .ok (.string (strOfNums (nums l))) w:=by
 rcases Nat.eq_zero_or_pos l.length with hn |hn
 ·have hl:l=[]:=List.eq_nil_of_length_eq_zero hn
  subst hl
  rw[run_convert_bytes_string w _ _ _ _ _ _ Tryz.underlying25 Tryz.underlying5 Tryz.underlying9]
  simp only[List.length_nil]
  cases p.a<;>simp[Conv.bytesToString,loadCells]
  all_goals rfl
 ·obtain⟨b,o,e,hc⟩:=hp.form hn
  rw[e]
  exact run_convert_bytes_arg w _ _ Tryz.underlying25 Tryz.underlying5 b o l.length p.c (nums l) (by simp[nums]) (λi hi=>by
   rw[hc i hi]
   simp[nums,hi]) _ Tryz.underlying9
theorem zbub(l m:List UInt8):((strOfNums (nums l)).toList==(strOfNums (nums m)).toList)=decide (l=m):=by
 have h: ∀l:List UInt8,(strOfNums (nums l)).toList=l:=λl=>by
  rw[Lib.strOfNums_toList]
  simp[Lib.bytesOf,nums,Function.comp_def]
 rw[h,h]
 by_cases e:l=m
 ·subst e
  simp
 ·simp[e]
theorem z0m(p q:AC)(l m:List UInt8){S:Nat->Prop}(w:World)(hp:By w S p l)(hq:By w S q m):
  Calls aP 40 #[.slice p.a l.length p.c, .slice q.a m.length q.c] w λe w'=>e= .returned (.bool (decide (l=m)))/\w'=w:=by
 have g1:=zrz p l w hp
 have g2:=zrz q m w hq
 rw[<-zbub]
 generalize strOfNums (nums l)=s1 at*
 generalize strOfNums (nums m)=s2 at*
 obtain⟨a,c⟩:=p
 obtain⟨a',c'⟩:=q
 go_enter Tryz.func40,Tryz.ntmps40
 go_wp2_with fail
 go_ret
 exact⟨rfl,rfl⟩
theorem zeo(l m:List UInt8):aG 40 [bs l,bs m] (.r (.b (decide (l=m)))):=
 z3k (zfo Tryz.func40 rfl (by kernel_rfl)) λw k vs hp=>by
  obtain⟨a,b,rfl,h1,h2⟩:=zw0 hp
  obtain⟨p,rfl,hp1⟩:=z0o h1
  obtain⟨q,rfl,hq1⟩:=z0o h2
  exact(z0m p q l m w hp1 hq1).mono λ_ _ ⟨e,hw⟩=>⟨_,e,hw▸Ext.refl _,k,λ_ _=>rfl,by simp[Res.at_,RV.at_]⟩
theorem z3o(l:List UInt8)(h0:0<l.length)(hl:l.length<=1000000000):aG 82 [bs l] (.own 5 1 l.length (l.map U8)):=zs5 l (by omega)
theorem zatb(x:Fe):aG 249 [.ag x.v] (.r (.b (zb8 x fz))):=by
 refine aT Tryz.func249 rfl ?_
 refine za rfl rfl ?_
 refine ze (zj4 x fz) ?_
 exact cr
def Pt.same(p q:Pt):Bool:=cond (zb8 (p.x.mul q.z) (q.x.mul p.z)) (zb8 (p.y.mul q.z) (q.y.mul p.z)) false
set_option maxHeartbeats 1000000 in
theorem za1b(p q:Pt):aG 180 [.ag p.v, .ag q.v] (.r (.b (p.same q))):=by
 refine aT Tryz.func180 rfl ?_
 refine aV ?_
 refine za rfl rfl ?_
 refine ze (zh8 p) ?_
 refine za rfl rfl ?_
 refine ze (zh8 q) ?_
 refine aV ?_
 refine za rfl rfl ?_
 refine za rfl rfl ?_
 refine ze (zbd p.x q.z) ?_
 refine za rfl rfl ?_
 refine za rfl rfl ?_
 refine ze (zbd q.x p.z) ?_
 have e1:zb8 (p.x.mul q.z) (q.x.mul p.z)=true->p.same q=zb8 (p.y.mul q.z) (q.y.mul p.z):=λh=>by unfold Pt.same;rw[h];rfl
 have e0:zb8 (p.x.mul q.z) (q.x.mul p.z)=false->p.same q=false:=λh=>by unfold Pt.same;rw[h];rfl
 generalize p.x.mul q.z=A at*
 generalize q.x.mul p.z=B at*
 refine Vcall.bool (zj4 A B) (λh=>?_) (λh=>?_)
 ·rw[e1 h]
  refine za rfl rfl ?_
  refine za rfl rfl ?_
  refine ze (zbd p.y q.z) ?_
  refine za rfl rfl ?_
  refine za rfl rfl ?_
  refine ze (zbd q.y p.z) ?_
  generalize p.y.mul q.z=C
  generalize q.y.mul p.z=D
  refine ze (zj4 C D) ?_
  exact cr
 ·rw[e0 h]
  exact cr
set_option maxHeartbeats 1000000 in
theorem zdmb(p q:Pt):aG 181 [.ag p.v, .ag q.v] (.r (.ag (p.sum q dD).v)):=by
 refine aT Tryz.func181 rfl ?_
 refine aV ?_
 refine za rfl rfl ?_
 refine ze (zh8 p) ?_
 refine za rfl rfl ?_
 refine ze (zh8 q) ?_
 have hd:=h_d
 have e:dD=dC.add dC:=by rw[dD]
 rw[e]
 generalize dC=d at hd⊢
 refine ze hd ?_
 refine ze hd ?_
 refine ze (zfh d d) ?_
 refine ze (zv0 p q (d.add d)) ?_
 refine za rfl rfl ?_
 exact cr
def oddB(b:List UInt8):Bool:=(((b.getD 31 0).toNat:Int).fdiv (2^(min (7:Int).toNat 8))==1)
def lowB(b:List UInt8):List UInt8:=b.set 31 (b.getD 31 0&&&127)
def negF(odd:Bool)(x:Fe):Fe:=cond odd (Fe.sub ⟨0,0,0,0,0⟩ x) x
def decP(b:List UInt8):Option Pt:=
 if b.length=32 then
  if(Fe.of b).bytes=lowB b then
   if(zbv (zej (Fe.of b))).2=true/\¬(zb8 (zbv (zej (Fe.of b))).1 fz=true/\oddB b=true)then some (Pt.of (negF (oddB b) (zbv (zej (Fe.of b))).1) (Fe.of b))else none
  else none
 else none
abbrev zP:List RV:=[W 0,W 0,W 0,W 0,W 0,W 0,W 0,W 0,W 0,W 0,W 0,W 0,W 0,W 0,W 0,W 0,W 0,W 0,W 0,W 0, .b false]
def resP:Option Pt->RV
 |some p=> .tu [.ag p.v, .b true]
 |none=> .tu [.ag zP, .b false]
theorem z32(b:List UInt8)(h:b.length≠32):aG 176 [bs b] (.r (resP none)):=by
 refine aT Tryz.func176 rfl ?_
 refine zu (by simp only[zb];omega) (zq ?_)
 refine za rfl rfl ?_
 exact⟨_,rfl,cr⟩
section
variable (b yb:List UInt8) (y x:Fe) (ok zx:Bool) (hb:b.length=32)
 (c1:aG 248 [bs b] (.r (.ag y.v)))
 (c2:aG 195 [.ag y.v] (bch yb))
include hb c1 c2
set_option maxHeartbeats 1000000 in
theorem z7h(res:Option Pt)
  (c3:yb=lowB b->aG 198 [.ag y.v] (.r (.tu [.ag x.v, .b ok])))
  (c4:aG 249 [.ag x.v] (.r (.b zx)))
  (c5: ∀u:Fe,u=negF (oddB b) x->∀P:Pt,some P=res->aG 199 [.ag u.v, .ag y.v] (.r (.ag P.v)))
  (r0:yb≠lowB b->res=none) (r1:yb=lowB b->(ok=false\/zx=true/\oddB b=true)->res=none) (r2:yb=lowB b->ok=true->¬(zx=true/\oddB b=true)->∃P,some P=res):
  aG 176 [bs b] (.r (resP res)):=by
 refine aT Tryz.func176 rfl ?_
 have hg:b[31]?=some (b.getD 31 0):=by rw[List.getD_eq_getElem?_getD,List.getElem?_eq_getElem (by omega)];rfl
 have hi:((b.map U8).drop ((31:Int).toNat*1)).take 1=[U8 (b.getD 31 0)]:=by
  have h31:31<b.length:=by omega
  have:=zan (f:=U8) (l:=b) (i:=31) (j:=31) rfl h31
  rw[List.getElem?_eq_getElem h31]at hg
  rwa[Option.some.inj hg]at this
 refine zw (by simp only[zb];omega) (zt ?_)
 refine ze c1 ?_
 refine zm (by decide) (by omega) hi (zg rfl ?_)
 refine⟨by decide,_,rfl,?_⟩
 refine Vcmp.mk' (m:=oddB b) rfl ?_
 refine ze (z3o b (by omega) (by omega)) ?_
 refine Vadr.mk' 31 rfl (by omega) ?_
 refine zg (zep (j:=31) (by omega)) ?_
 refine Vbits.and8 (b.getD 31 0) 127 rfl rfl ?_
 refine Vadr.mk' 31 rfl (by omega) ?_
 refine⟨by show 31*1+1<=(b.map U8).length;rw[List.length_map];omega,(lowB b).map U8,zb9 (show 31<b.length by omega),?_⟩
 refine za rfl rfl ?_
 refine ze c2 ?_
 have hlow:(lowB b).length=b.length:=by simp[lowB]
 have hbe:aG 40 [bs yb, .sl 1 b.length ((lowB b).map U8)] (.r (.b (decide (yb=lowB b)))):=by
  have:=zeo yb (lowB b)
  rwa[<-zi3 (lowB b) b.length hlow]at this
 refine Vstep.sub (za7 (id:=2) rfl) (Vstep.val Tab_ok ?_)
 refine Vcall.bool hbe (λh=>zw rfl (zt ?_)) (λh=>zu rfl (zq ?_))
 rotate_left
 ·simp only[decide_eq_false_iff_not]at h
  refine za rfl rfl ?_
  exact⟨_,rfl,zf (by rw[r0 h];rfl)⟩
 simp only[decide_eq_true_eq]at h
 refine za rfl rfl ?_
 refine ze (c3 h) ?_
 have r1':=r1 h
 have r2':=r2 h
 cases ok with
 |false=>
  refine zu rfl (zq ?_)
  refine za rfl rfl ?_
  exact⟨_,rfl,zf (by rw[r1' (.inl rfl)];rfl)⟩
 |true=>
  refine zw rfl ?_
  refine za rfl rfl ?_
  refine ze c4 ?_
  obtain⟨β,hβ⟩: ∃β,β=oddB b:=⟨_,rfl⟩
  rw[<-hβ]at r1' r2' c5⊢
  cases zx with
  |true=>
   cases β with
   |true=>
    refine zq ?_
    refine za rfl rfl ?_
    exact⟨_,rfl,zf (by rw[r1' (.inr ⟨rfl,rfl⟩)];rfl)⟩
   |false=>
    obtain⟨P,hP⟩:=r2' rfl (by simp)
    refine zt (zt ?_)
    refine za rfl rfl ?_
    refine za rfl rfl ?_
    refine ze (c5 x rfl P hP) ?_
    refine za rfl rfl ?_
    exact⟨_,rfl,zf (by rw[<-hP];rfl)⟩
  |false=>
   obtain⟨P,hP⟩:=r2' rfl (by simp)
   cases β with
   |true=>
    refine zt (zq ?_)
    refine za rfl rfl ?_
    refine ze (zuq x) ?_
    refine za rfl rfl ?_
    refine za rfl rfl ?_
    refine ze (c5 _ rfl P hP) ?_
    refine za rfl rfl ?_
    exact⟨_,rfl,zf (by rw[<-hP];rfl)⟩
   |false=>
    refine zt (zt ?_)
    refine za rfl rfl ?_
    refine za rfl rfl ?_
    refine ze (c5 x rfl P hP) ?_
    refine za rfl rfl ?_
    exact⟨_,rfl,zf (by rw[<-hP];rfl)⟩
end
theorem z31(b:List UInt8):aG 176 [bs b] (.r (resP (decP b))):=by
 by_cases hb:b.length=32
 ·have c1:=h_of b hb
  have hD:decP b=if(Fe.of b).bytes=lowB b then if(zbv (zej (Fe.of b))).2=true/\¬(zb8 (zbv (zej (Fe.of b))).1 fz=true/\oddB b=true)then some (Pt.of (negF (oddB b) (zbv (zej (Fe.of b))).1) (Fe.of b))else none else none:=by unfold decP;rw[if_pos hb]
  generalize decP b=res at hD⊢
  generalize Fe.of b=y at c1 hD
  have c2:=znz y
  have c3:=z3r y
  generalize y.bytes=yb at c2 hD
  generalize zbv (zej y)=q at c3 hD
  obtain⟨x,ok⟩:=q
  dsimp only at c3 hD
  have c4:=zatb x
  generalize zb8 x fz=zx at c4 hD
  refine z7h b yb y x ok zx hb c1 c2 res (λ_=>c3) c4 (λu hu P hP=>?_) (λh=>?_) (λh h2=>?_) (λh h2 h3=>?_)
  ·have h1:yb=lowB b:=Decidable.byContradiction λh=>by rw[hD,if_neg h]at hP;cases hP
   rw[hD,if_pos h1]at hP
   split at hP
   ·cases hP
    rw[<-hu]
    exact z1h u y
   ·cases hP
  ·rw[hD,if_neg h]
  ·rw[hD,if_pos h,if_neg]
   rintro⟨k1,k2⟩
   rcases h2 with h2 |h2
   ·rw[h2]at k1;cases k1
   ·exact k2 h2
  ·exact⟨_,by rw[hD,if_pos h,if_pos ⟨h2,h3⟩]⟩
 ·have:decP b=none:=by unfold decP;rw[if_neg hb]
  rw[this]
  exact z32 b hb
def s4Of(b:List UInt8):S4:=⟨zb0 b 0 8,zb0 b 8 8,zb0 b 16 8,zb0 b 24 8⟩
def zhj(b:List UInt8):Option S4:=if b.length=32 then if(s4Of b).bor ord4=0 then none else some (s4Of b)else none
def resS:Option S4->RV
 |some s=> .tu [.ag s.v, .b true]
 |none=> .tu [.ag [W 0,W 0,W 0,W 0], .b false]
theorem zym(b:List UInt8)(h:b.length≠32):aG 177 [bs b] (.r (resS none)):=by
 refine aT Tryz.func177 rfl ?_
 refine zu (by simp only[zb];omega) (zq ?_)
 refine za rfl rfl ?_
 exact⟨_,rfl,cr⟩
set_option maxHeartbeats 1000000 in
theorem z09(b:List UInt8)(w0 w1 w2 w3 bo:UInt64)(df:S4)(hb:b.length=32)(c0:aG 251 [bs b,I 0] (.r (W w0)))(c1:aG 251 [bs b,I 8] (.r (W w1)))(c2:aG 251 [bs b,I 16] (.r (W w2)))(c3:aG 251 [bs b,I 24] (.r (W w3)))
  (c4: ∀o:S4,o=ord4->aG 252 [.ag (S4.v ⟨w0,w1,w2,w3⟩), .ag o.v] (.r (.tu [.ag df.v,W bo]))):
  aG 177 [bs b] (.r (resS (if bo=0 then none else some ⟨w0,w1,w2,w3⟩))):=by
 refine aT Tryz.func177 rfl ?_
 have ho:=zzl
 obtain⟨o,hoe⟩: ∃o,o=ord4:=⟨_,rfl⟩
 rw[<-hoe]at ho
 refine zw (by simp only[zb];omega) (zt ?_)
 refine Vloop.rounds 5 ?_
 refine Vrounds.step mixed Tab_ok ?_
 refine zu rfl (zq ?_)
 refine zd (m:=0) rfl (by decide) ?_
 refine ze c0 ?_
 refine Vadr.mk' 0 rfl (by decide) ?_
 refine zd (m:=1) rfl (by decide) ?_
 refine Vrounds.step mixed Tab_ok ?_
 refine zu rfl (zq ?_)
 refine zd (m:=8) rfl (by decide) ?_
 refine ze c1 ?_
 refine Vadr.mk' 1 rfl (by decide) ?_
 refine zd (m:=2) rfl (by decide) ?_
 refine Vrounds.step mixed Tab_ok ?_
 refine zu rfl (zq ?_)
 refine zd (m:=16) rfl (by decide) ?_
 refine ze c2 ?_
 refine Vadr.mk' 2 rfl (by decide) ?_
 refine zd (m:=3) rfl (by decide) ?_
 refine Vrounds.step mixed Tab_ok ?_
 refine zu rfl (zq ?_)
 refine zd (m:=24) rfl (by decide) ?_
 refine ze c3 ?_
 refine Vadr.mk' 3 rfl (by decide) ?_
 refine zd (m:=4) rfl (by decide) ?_
 refine Vrounds.step mixed Tab_ok ?_
 refine zw rfl (zt ?_)
 refine aV ?_
 refine za rfl rfl ?_
 refine ze ho ?_
 refine ze (c4 o hoe) ?_
 refine zh (λh=>zq ?_) (λh=>zt ?_)
 ·simp only[zb]at h
  have hz:bo=0:=by
   have:bo.toNat=0:=by omega
   exact UInt64.toNat_inj.1 (by rw[this];rfl)
  rw[if_pos hz]
  refine za rfl rfl ?_
  exact⟨_,rfl,cr⟩
 ·simp only[zb]at h
  have hz:bo≠0:=λe=>h (by rw[e];rfl)
  rw[if_neg hz]
  refine za rfl rfl ?_
  refine za rfl rfl ?_
  exact⟨_,rfl,cr⟩
theorem zasb(b:List UInt8):aG 177 [bs b] (.r (resS (zhj b))):=by
 by_cases hb:b.length=32
 ·have:=z09 b (zb0 b 0 8) (zb0 b 8 8) (zb0 b 16 8) (zb0 b 24 8) ((s4Of b).bor ord4) ((s4Of b).dif ord4) hb (zj5 b 0 (by omega) (by omega)) (zj5 b 8 (by omega) (by omega)) (zj5 b 16 (by omega) (by omega)) (zj5 b 24 (by omega) (by omega)) (λo ho=>by rw[ho];exact z4a (s4Of b) ord4)
  have e:zhj b=if(s4Of b).bor ord4=0 then none else some (s4Of b):=by unfold zhj;rw[if_pos hb]
  rw[e]
  exact this
 ·have:zhj b=none:=by unfold zhj;rw[if_neg hb]
  rw[this]
  exact zym b hb
def zmt(r a:Pt)(s k:S4):Bool:=(mulP baseP s 253).same (r.sum (mulP a k 253) dD)
def zhm(pub text sig:List UInt8):Bool:=
 if sig.length=64 then
  match decP (sig.take 32),zhj (sig.drop 32),decP pub with
  |some r,some s,some a=>zmt r a s (scOf (zci [sig.take 32,pub,text]))
  |_,_,_=>false
 else false
theorem zyn(pub text sig:List UInt8)(h:sig.length≠64):aG 129 [bs pub,bs text,bs sig] (.r (.b false)):=by
 refine aT Tryz.func129 rfl ?_
 refine zu (by simp only[zb];omega) (zq ?_)
 exact cr
section
variable (pub text sig q1 q2:List UInt8) (hl:sig.length=64) (h1:sig.take 32=q1) (h2:sig.drop 32=q2)
 (R A:Option Pt) (Z:Option S4)
 (c1:aG 176 [bs q1] (.r (resP R))) (c2:aG 177 [bs q2] (.r (resS Z))) (c3:aG 176 [bs pub] (.r (resP A)))
include hl h1 h2 c1 c2 c3
set_option maxHeartbeats 1000000 in
theorem zjq(hb:R=none\/Z=none\/A=none):aG 129 [bs pub,bs text,bs sig] (.r (.b false)):=by
 have l1:q1.length=32:=by rw[<-h1,List.length_take];omega
 have l2:q2.length=32:=by rw[<-h2,List.length_drop];omega
 rw[<-zi3 q1 32 l1]at c1
 rw[<-zi3 q2 32 l2]at c2
 have k1:((sig.map U8).drop ((0:Int).toNat*1)).take (32*1)=q1.map U8:=by rw[<-h1,List.map_take];rfl
 have k2:((sig.map U8).drop ((32:Int).toNat*1)).take (32*1)=q2.map U8:=by rw[<-h2,List.map_drop,List.take_of_length_le (by simp;omega)];rfl
 refine aT Tryz.func129 rfl ?_
 refine zw (by simp only[zb];omega) (zt ?_)
 refine⟨by decide,by decide,by omega,32,q1.map U8,rfl,k1,?_⟩
 cases R with
 |none=>
  refine ze c1 ?_
  refine⟨by decide,by omega,by omega,32,q2.map U8,by omega,k2,?_⟩
  cases Z<;>cases A<;>refine ze c2 (ze c3 (zu rfl (zq (cr))))
 |some r=>
  refine ze c1 ?_
  refine⟨by decide,by omega,by omega,32,q2.map U8,by omega,k2,?_⟩
  cases Z with
  |none=>cases A<;>refine ze c2 (ze c3 (zw rfl (zu rfl (zq (cr)))))
  |some s=>cases A with
   |none=>refine ze c2 (ze c3 (zw rfl (zw rfl (zu rfl (zq (cr))))))
   |some a=>rcases hb with h |h |h<;>cases h
end
set_option maxHeartbeats 1000000 in
theorem z1a(pub text sig q1 q2 L:List UInt8)(hl:sig.length=64)(hp:pub.length<=1000000000)(ht:text.length<=1000000000)(h1:sig.take 32=q1)(h2:sig.drop 32=q2)(r a M N Y:Pt)(s k:S4)(β:Bool)
  (c1:aG 176 [bs q1] (.r (.tu [.ag r.v, .b true]))) (c2:aG 177 [bs q2] (.r (.tu [.ag s.v, .b true]))) (c3:aG 176 [bs pub] (.r (.tu [.ag a.v, .b true])))
  (c4:aG 179 [bss [q1,pub,text]] (.r (bs L))) (c5:aG 178 [bs L] (.r (.ag k.v)))
  (c6: ∀b:Pt,b=baseP->aG 145 [.ag b.v, .ag s.v] (.r (.ag M.v)))
  (c7:aG 145 [.ag a.v, .ag k.v] (.r (.ag N.v))) (c8:aG 181 [.ag r.v, .ag N.v] (.r (.ag Y.v))) (c9:aG 180 [.ag M.v, .ag Y.v] (.r (.b β))):
  aG 129 [bs pub,bs text,bs sig] (.r (.b β)):=by
 have l1:q1.length=32:=by rw[<-h1,List.length_take];omega
 have l2:q2.length=32:=by rw[<-h2,List.length_drop];omega
 have e4:bss [q1,pub,text]= .sl 1 3 [.sl 1 32 (q1.map U8),bs pub,bs text]:=by rw[zi3 q1 32 l1];rfl
 rw[e4]at c4
 rw[<-zi3 q1 32 l1]at c1
 rw[<-zi3 q2 32 l2]at c2
 have k1:((sig.map U8).drop ((0:Int).toNat*1)).take (32*1)=q1.map U8:=by rw[<-h1,List.map_take];rfl
 have k2:((sig.map U8).drop ((32:Int).toNat*1)).take (32*1)=q2.map U8:=by rw[<-h2,List.map_drop,List.take_of_length_le (by simp;omega)];rfl
 refine aT Tryz.func129 rfl ?_
 obtain⟨b,hb⟩: ∃b,b=baseP:=⟨_,rfl⟩
 have c0:=zr6
 rw[<-hb]at c0
 refine zw (by simp only[zb];omega) (zt ?_)
 refine⟨by decide,by decide,by omega,32,q1.map U8,rfl,k1,?_⟩
 refine ze c1 ?_
 refine⟨by decide,by omega,by omega,32,q2.map U8,by omega,k2,?_⟩
 refine ze c2 ?_
 refine ze c3 ?_
 refine zw rfl ?_
 refine zw rfl ?_
 refine zw rfl (zt ?_)
 refine⟨by decide,by decide,by omega,32,q1.map U8,rfl,k1,?_⟩
 refine zy ?_
 refine ze c4 ?_
 refine ze c5 ?_
 refine aV ?_
 refine ze c0 ?_
 refine za rfl rfl ?_
 refine ze (c6 b hb) ?_
 refine za rfl rfl ?_
 refine za rfl rfl ?_
 refine za rfl rfl ?_
 refine ze c7 ?_
 refine ze c8 ?_
 refine ze c9 ?_
 exact cr
theorem h_holds(pub text sig:List UInt8)(hp:pub.length<=1000000000)(ht:text.length<=1000000000):aG 129 [bs pub,bs text,bs sig] (.r (.b (zhm pub text sig))):=by
 by_cases hl:sig.length=64
 rotate_left
 ·have:zhm pub text sig=false:=by unfold zhm;rw[if_neg hl]
  rw[this]
  exact zyn pub text sig hl
 have hB:zhm pub text sig=match decP (sig.take 32),zhj (sig.drop 32),decP pub with
  |some r,some s,some a=>zmt r a s (scOf (zci [sig.take 32,pub,text]))
  |_,_,_=>false:=by unfold zhm;rw[if_pos hl]
 have c1:=z31 (sig.take 32)
 have c2:=zasb (sig.drop 32)
 have c3:=z31 pub
 have l1:(sig.take 32).length=32:=by rw[List.length_take];omega
 have c4:=zvx [sig.take 32,pub,text] (by rw[z9e,aL,aL];omega)
 have c5:=zqq (zci [sig.take 32,pub,text]) (by rw[zb2];omega)
 generalize zci [sig.take 32,pub,text]=L at c4 c5 hB
 generalize scOf L=k at c5 hB
 generalize hR:decP (sig.take 32)=R at c1 hB
 generalize hZ:zhj (sig.drop 32)=Z at c2 hB
 generalize hA:decP pub=A at c3 hB
 cases R with
 |none=>
  rw[hB]
  exact zjq pub text sig _ _ hl rfl rfl none A Z c1 c2 c3 (.inl rfl)
 |some r=>
  cases Z with
  |none=>
   rw[hB]
   exact zjq pub text sig _ _ hl rfl rfl (some r) A none c1 c2 c3 (.inr (.inl rfl))
  |some s=>
   cases A with
   |none=>
    rw[hB]
    exact zjq pub text sig _ _ hl rfl rfl (some r) none (some s) c1 c2 c3 (.inr (.inr rfl))
   |some a=>
    rw[hB]
    have c7:=zqp a k
    generalize hN:mulP a k 253=N at c7
    have c8:=zdmb r N
    generalize hY:r.sum N dD=Y at c8
    have c6: ∀b:Pt,b=baseP->aG 145 [.ag b.v, .ag s.v] (.r (.ag (mulP baseP s 253).v)):=λb hb=>by rw[hb];exact zqp baseP s
    have e:zmt r a s k=(mulP baseP s 253).same Y:=by unfold zmt;rw[hN,hY]
    show zab _ _ _ (.r (.b (zmt r a s k)))
    rw[e]
    generalize mulP baseP s 253=M at c6
    exact z1a pub text sig _ _ L hl hp ht rfl rfl r a M N Y s k _ c1 c2 c3 c4 c5 c6 c7 c8 (za1b M Y)
theorem z8w(label:ByteArray)(text:List UInt8)(hl:label.size<=1048576)(ht:text.length<=500000000):(zfn (sB label) text).length<=1000000000:=by
 have hml:mlsB.length=8:=rfl
 have hsz:(sB label).length=label.size:=rfl
 have hv:=zar (mlsB++sB label)
 have hv2:=zar text
 rw[aL]at hv
 rw[zfn,aL]
 omega
theorem zr4(pub:List UInt8)(label:ByteArray)(text sig:List UInt8)(hp:pub.length<=1000000000)(hl:label.size<=1048576)(ht:text.length<=500000000):aG 78 [bs pub,Str label,bs text,bs sig] (.r (.b (zhm pub (zfn (sB label) text) sig))):=by
 refine aT Tryz.func78 rfl ?_
 refine ze (zk5 label text hl (by omega)) ?_
 refine ze (h_holds pub (zfn (sB label) text) sig hp (z8w label text hl ht)) ?_
 exact cr
section
variable {P:Program} {S:St} {o:Oper}
theorem Vstep.callS0{t:Nat}{ts:Array TypeId}{f:FuncId}{rvs:List RV}{r:RV}{K:St->Prop}(hop:o.op= .call {callee:= .value (.tmp t),args:= #[],argTypes:=ts}) (hf:fget S.F t=some (.r (.s (funS f rvs)))) (hg:zab P f rvs (.r r)) (hK:newK S o.dst (.r r) none K):Vstep P S o K:=by
 rw[zat]at hK
 refine Vstep.one (λB N a w k Q ⟨g,hs⟩ hd=>?_) hK
 have hfv:=(hs.facts t _ hf).2
 simp only[TF.at_,RV.at_]at hfv
 obtain⟨cap,e,hp⟩:=hfv
 have:=zkt (o:=o) (Q:=Q) (K:=λf ow=>f= .r r/\ow=none) hs hp (zn rvs) hg (by
  have e2:a.eval (.tmp t)= .func (.func f) #[] cap:=by
   have:a.eval (.tmp t)=a.tmps.getD t undef:=by simp[Act.eval]
   rw[this,e]
  simp[execOp,hop,resolve,e2,Deferred.ofValue,invoke]) ⟨rfl,rfl⟩
 refine Oper.wp_mono ?_ this
 rintro a' w' ⟨f',ow,u,k',⟨rfl,rfl⟩,rfl,hl⟩
 exact⟨k',hl.sat hs hd⟩
end
def zjj(β:Bool)(l:List UInt8):RV:=cond β (.tu [bs l,Er 0]) (.tu [bs [],Er 3])
theorem z4d(β:Bool)(f:FuncId)(rvs:List RV)(l:List UInt8)(hg:β=true->aG f rvs (.r (bs l))):aG 73 [.b β, .s (funS f rvs)] (.r (zjj β l)):=by
 refine aT Tryz.func73 rfl ?_
 cases β with
 |false=>
  refine zu rfl (zq ?_)
  exact⟨_,rfl,Cv.tu (zk (Cv.nil 1) (zn _))⟩
 |true=>
  refine zw rfl (zt ?_)
  refine Vstep.callS0 rfl rfl (hg rfl) ?_
  exact⟨_,rfl,cr⟩
theorem zis(l:Leaf):(ze3 l).length<=l.box.length+l.sign.length+l.ident.length+l.parent.length+l.sig.length+21:=by
 have:=zi2 l
 have:=zar l.sig
 rw[ze3,aL]
 omega
theorem ziq(l:Leaf)(hl:l.fit):aG 132 [.ag l.c] (.r (zjj l.right (ze3 l))):=by
 refine aT Tryz.func132 rfl ?_
 have hA:=zi2 l
 obtain⟨h1,h2,h3,h4,h5⟩:=id hl
 refine za rfl rfl ?_
 have hg:=zgn l
 cases hr:l.right with
 |true=>
  rw[hr]at hg
  refine ze hg ?_
  refine zw rfl (zt ?_)
  refine aV ?_
  refine za rfl rfl ?_
  refine Vcall.mk' (zk3 [] l (by simp) hl) (zk (Cv.nil _) (zn _)) ?_
  rw[List.nil_append]
  refine ze (zbt (zbe l) l.sig (by omega) (by omega)) ?_
  exact⟨_,rfl,cr⟩
 |false=>
  rw[hr]at hg
  refine ze hg ?_
  refine zu rfl (zq ?_)
  exact⟨_,rfl,Cv.tu (zk (Cv.nil 1) (zn _))⟩
theorem zmo(l:Leaf)(hl:l.fit)(hr:l.right=true):aG 126 [.ag l.c] (.r (bs (ze3 l))):=by
 refine aT Tryz.func126 rfl ?_
 have h:=ziq l hl
 rw[hr]at h
 refine za rfl rfl ?_
 refine ze h ?_
 exact cr
theorem zmp(l:Leaf)(s:UInt8)(hl:l.fit):aG 122 [.ag l.c,U8 s] (.r (.b (l.right&&decide (l.src=s)))):=by
 refine aT Tryz.func122 rfl ?_
 have h:=ziq l hl
 refine za rfl rfl ?_
 cases hr:l.right with
 |true=>
  rw[hr]at h
  refine ze h ?_
  refine zu rfl ?_
  refine Vcmp.mk' (m:=decide (l.src=s)) ?_ ?_
  ·rw[Bool.eq_iff_iff]
   simp only[zb,Int.natCast_inj,UInt8.toNat_inj]
  ·exact zf (by simp)
 |false=>
  rw[hr]at h
  refine ze h ?_
  refine zw rfl ?_
  exact cr
def PackP.right(p:PackP):Bool:=decide (p.init.length=32)&&((p.leaf.right&&decide (p.leaf.src=1))&&decide (p.sig.length=64))
def zcs(p:PackP):List UInt8:=(beB 2 1++beB 2 1)++vecB p.init++ze3 p.leaf
def PackP.fit(p:PackP):Prop:=p.init.length<=1000000/\p.leaf.fit/\p.sig.length<=1000000
theorem zzm(p:PackP)(hp:p.fit):aG 119 [.ag p.c] (.r (.b p.right)):=by
 refine aT Tryz.func119 rfl ?_
 have h:=zmp p.leaf 1 hp.2.1
 refine zh (λh1=>?_) (λh1=>?_)
 ·simp only[zb]at h1
  refine za rfl rfl ?_
  have h1':p.init.length=32:=by omega
  cases hr:(p.leaf.right&&decide (p.leaf.src=1))with
  |true=>
   rw[hr]at h
   refine ze h ?_
   refine Vcmp.mk' (m:=decide (p.sig.length=64)) ?_ ?_
   ·rw[Bool.eq_iff_iff]
    simp only[zb]
    omega
   ·exact zf (by unfold PackP.right;rw[hr,decide_eq_true h1'];simp)
  |false=>
   rw[hr]at h
   refine ze h ?_
   exact zf (by unfold PackP.right;rw[hr];simp[ofC])
 ·simp only[zb]at h1
  have h1': ¬p.init.length=32:=by omega
  exact zf (by unfold PackP.right;rw[decide_eq_false h1'];rfl)
theorem zvy(l:List UInt8)(size m:Nat)(hl:l.length<=1000000000)(hs:size=1\/size=2\/size=4\/size=8):aG 127 [bs l,I size, .i .u64 m] (bch (l++beB size m)):=by
 refine aT Tryz.func127 rfl ?_
 refine ze (zgm l size m (by omega) hs) ?_
 exact rfl
theorem z3w(l m:List UInt8)(hl:l.length<=1000000000)(hm:m.length<=1000000000):aG 124 [bs l,bs m] (bch (l++vecB m)):=by
 refine aT Tryz.func124 rfl ?_
 refine ze (zbt l m (by omega) (by omega)) ?_
 exact rfl
theorem zoo(p:PackP)(hp:p.fit)(hr:p.leaf.right=true):aG 125 [.ag p.c] (.r (bs (zcs p))):=by
 refine aT Tryz.func125 rfl ?_
 obtain⟨h1,h2,h3⟩:=hp
 have hv:=zar p.init
 have hL:=zis p.leaf
 obtain⟨k1,k2,k3,k4,k5⟩:=id h2
 refine Vcall.mk' (zvy [] 2 1 (by simp) (.inr (.inl rfl))) (zk (Cv.nil _) (zn _)) ?_
 rw[List.nil_append]
 refine ze (zvy (beB 2 1) 2 1 (by rw[za9];omega) (.inr (.inl rfl))) ?_
 refine aV ?_
 refine ze (z3w (beB 2 1++beB 2 1) p.init (by rw[aL,za9];omega) (by omega)) ?_
 refine za rfl rfl ?_
 refine ze (zmo p.leaf h2 hr) ?_
 refine Vapp.mk' (j:=(zcs p).length) (zs:=(zcs p).map U8) (by simp only[maxLen,aL,za9];omega) (by simp only[aL,za9];show(_+_)*1<=_;omega) (by simp only[zcs,aL]) (by simp only[zcs,List.map_append]) ?_
 exact cr
theorem zyp(p:PackP)(hp:p.fit)(hr:p.leaf.right=true):aG 128 [.ptr p.c] (.r (bs (zcs p))):=by
 refine aT Tryz.func128 rfl ?_
 refine za rfl rfl ?_
 refine ze (zoo p hp hr) ?_
 exact cr
theorem PackP.right_leaf{p:PackP}(h:p.right=true):p.leaf.right=true:=by
 unfold PackP.right at h
 simp only[Bool.and_eq_true]at h
 exact h.2.1.1
theorem z1e(p:PackP)(hp:p.fit):aG 77 [.ag p.c] (.r (zjj p.right (zcs p))):=by
 refine aT Tryz.func77 rfl ?_
 refine za rfl rfl ?_
 refine ze (zzm p hp) ?_
 refine Vstep.sub (zie (id:=0) (t:=1) p.c rfl rfl) (Vstep.mkfunS rfl rfl ?_)
 refine ze (z4d p.right _ _ (zcs p) λh=>zyp p hp (PackP.right_leaf h)) ?_
 unfold zjj
 cases p.right with
 |true=>exact⟨_,rfl,cr⟩
 |false=>exact⟨_,rfl,cr⟩
theorem zpb(l m:List UInt8)(hl:l.length<=1000000000000)(hm:m.length<=1000000000000):aG 137 [bs l,bs m] (bch (l++m)):=by
 refine aT Tryz.func137 rfl ?_
 refine zy ?_
 refine Vapp.mk' (j:=l.length) (zs:=l.map U8) (by simp only[maxLen];omega) (by show(0+l.length)*1<=_;omega) (by omega) rfl ?_
 refine Vapp.mk' (j:=(l++m).length) (zs:=(l++m).map U8) (by simp only[maxLen];omega) (by show(l.length+m.length)*1<=_;omega) (by rw[aL]) (by rw[List.map_append]) ?_
 exact rfl
theorem z4c(l m n:List UInt8)(hl:l.length<=10000000000)(hm:m.length<=10000000000)(hn:n.length<=10000000000):aG 136 [bs l,bs m,bs n] (bch (l++m++n)):=by
 refine aT Tryz.func136 rfl ?_
 refine ze (zpb l m (by omega) (by omega)) ?_
 refine ze (zpb (l++m) n (by rw[aL];omega) (by omega)) ?_
 exact rfl
theorem zzp(m:Nat)(hm:m<18446744073709551616):aG 138 [.i .u64 m] (bch (beB 2 m)):=by
 refine aT Tryz.func138 rfl ?_
 refine ze (zaib 2 m (by omega) hm) ?_
 exact rfl
theorem zbbb(m:List UInt8)(hm:m.length<=1000000000):aG 139 [bs m] (bch (vecB m)):=by
 refine aT Tryz.func139 rfl ?_
 refine ze (zh7 m (by omega)) ?_
 exact rfl
theorem zvz(p:PackP)(hp:p.fit):aG 98 [.ag p.c] (.r (bs (zcs p))):=by
 refine aT Tryz.func98 rfl ?_
 obtain⟨h1,h2,h3⟩:=hp
 have hv:=zar p.init
 have hL:=zis p.leaf
 obtain⟨k1,k2,k3,k4,k5⟩:=id h2
 refine aV ?_
 refine ze (zzp 1 (by decide)) ?_
 refine ze (zzp 1 (by decide)) ?_
 refine ze (zpb (beB 2 1) (beB 2 1) (by rw[za9];omega) (by rw[za9];omega)) ?_
 refine ze (zbbb p.init (by omega)) ?_
 refine za rfl rfl ?_
 refine ze (zug p.leaf h2) ?_
 refine ze (z4c (beB 2 1++beB 2 1) (vecB p.init) (ze3 p.leaf) (by rw[aL,za9];omega) (by omega) (by omega)) ?_
 exact cr
theorem zvw(l:Leaf)(s:UInt8):aG 97 [.ag l.c,U8 s] (.r (.b (l.right&&decide (l.src=s)))):=by
 refine aT Tryz.func97 rfl ?_
 refine za rfl rfl ?_
 refine Vcall.bool (zs9 l) (λhr=>?_) (λhr=>?_)
 ·refine Vcmp.mk' (m:=decide (l.src=s)) ?_ ?_
  ·rw[Bool.eq_iff_iff]
   simp only[zb,Int.natCast_inj,UInt8.toNat_inj]
  ·exact zf (by rw[hr];simp)
 ·exact zf (by rw[hr];rfl)
theorem zon(p:PackP):aG 96 [.ag p.c] (.r (.b p.right)):=by
 refine aT Tryz.func96 rfl ?_
 have h:=zvw p.leaf 1
 refine zh (λh1=>?_) (λh1=>?_)
 ·simp only[zb]at h1
  refine za rfl rfl ?_
  have h1':p.init.length=32:=by omega
  cases hr:(p.leaf.right&&decide (p.leaf.src=1))with
  |true=>
   rw[hr]at h
   refine ze h ?_
   refine Vcmp.mk' (m:=decide (p.sig.length=64)) ?_ ?_
   ·rw[Bool.eq_iff_iff]
    simp only[zb]
    omega
   ·exact zf (by unfold PackP.right;rw[hr,decide_eq_true h1'];simp)
  |false=>
   rw[hr]at h
   refine ze h ?_
   exact zf (by unfold PackP.right;rw[hr];simp[ofC])
 ·simp only[zb]at h1
  have h1': ¬p.init.length=32:=by omega
  exact zf (by unfold PackP.right;rw[decide_eq_false h1'];rfl)
def zfb(l:Leaf)(group:List UInt8)(at_:Int):Bool:=ze0 l at_&&(l.right&&zhm l.sign (zfn z9s (zgh l group at_)) l.sig)
theorem zg4(l:Leaf)(group:List UInt8)(at_:Int)(hl:l.fit)(hg:group.length<=100000000)(hb:l.box.length+l.sign.length+l.ident.length+l.parent.length<=100000000)(ha:i64 at_):aG 41 [.ag l.c,bs group,I at_] (.r (.b (zfb l group at_))):=by
 refine aT Tryz.func41 rfl ?_
 have ht:=zx2 l group at_
 have hT:=z4b l group at_ hl (by omega) ha
 have hC:=zr4 l.sign lsS (zgh l group at_) l.sig hl.2.1 (by decide) (by omega)
 refine za rfl rfl ?_
 cases ho:ze0 l at_ with
 |false=>
  rw[ho]at hT
  refine ze hT ?_
  exact zf (by unfold zfb;rw[ho];rfl)
 |true=>
  rw[ho]at hT
  refine ze hT ?_
  refine za rfl rfl ?_
  refine Vcall.bool (zgn l) (λhr=>?_) (λhr=>?_)
  ·refine ze hC ?_
   exact zf (by unfold zfb;rw[ho,hr];simp;rfl)
  ·exact zf (by unfold zfb;rw[ho,hr];rfl)
abbrev kpS:ByteArray:=⟨#[75,101,121,80,97,99,107,97,103,101,84,66,83]⟩
def zc3(p:PackP):Bool:=p.right&&(!decide (p.init=p.leaf.box)&&(zfb p.leaf [] 0&&zhm p.leaf.sign (zfn (sB kpS) (zcs p)) p.sig))
section
variable (p:PackP) (hp:p.fit) (hb:p.leaf.box.length+p.leaf.sign.length+p.leaf.ident.length+p.leaf.parent.length+p.leaf.sig.length<=100000)
include hp hb
theorem z7f:aG 39 [.ag p.c] (.r (.b (zc3 p))):=by
 refine aT Tryz.func39 rfl ?_
 obtain⟨h1,h2,h3⟩:=id hp
 have hv:=zar p.init
 have hL:=zis p.leaf
 have hT:=z1e p hp
 have hK:(zcs p).length<=500000000:=by simp only[zcs,aL,za9];omega
 refine za rfl rfl ?_
 cases hr:p.right with
 |false=>
  rw[hr]at hT
  refine ze hT ?_
  refine zw rfl ?_
  exact zf (by unfold zc3;rw[hr];rfl)
 |true=>
  rw[hr]at hT
  refine ze hT ?_
  refine zu rfl ?_
  refine za rfl rfl ?_
  have hC:=zg4 p.leaf [] 0 h2 (by decide) (by omega) (by unfold i64;omega)
  cases hk:zfb p.leaf [] 0 with
  |false=>
   rw[hk]at hC
   refine Vcall.mk' hC (zk (cr) (zk (Cv.nil 1) (zn _))) ?_
   exact zf (by unfold zc3;rw[hr,hk];simp[ofC])
  |true=>
   rw[hk]at hC
   refine Vcall.mk' hC (zk (cr) (zk (Cv.nil 1) (zn _))) ?_
   refine Vcall.bool (zeo p.init p.leaf.box) (λhe=>zw rfl ?_) (λhe=>zu rfl ?_)
   ·exact zf (by unfold zc3;rw[hr,hk,he];rfl)
   ·refine ze (zr4 p.leaf.sign kpS (zcs p) p.sig h2.2.1 (by decide) hK) ?_
    exact zf (by unfold zc3;rw[hr,hk,he];simp)
theorem z67:aG 54 [.ag p.c] (.r (.b (zc3 p))):=by
 refine aT Tryz.func54 rfl ?_
 obtain⟨h1,h2,h3⟩:=id hp
 have hv:=zar p.init
 have hL:=zis p.leaf
 have hK:(zcs p).length<=500000000:=by simp only[zcs,aL,za9];omega
 refine za rfl rfl ?_
 refine Vcall.bool (zon p) (λhr=>zw rfl ?_) (λhr=>zu rfl ?_)
 ·refine Vcall.bool (zd3 p.init p.leaf.box) (λhe=>?_) (λhe=>?_)
  ·refine zq ?_
   exact zf (by unfold zc3;rw[hr,he];rfl)
  ·refine za rfl rfl ?_
   have hC:=zg4 p.leaf [] 0 h2 (by decide) (by omega) (by unfold i64;omega)
   cases hk:zfb p.leaf [] 0 with
   |false=>
    rw[hk]at hC
    refine Vcall.mk' hC (zk (cr) (zk (Cv.nil 1) (zn _))) ?_
    refine zu rfl (zq ?_)
    exact zf (by unfold zc3;rw[hr,hk];simp[ofC])
   |true=>
    rw[hk]at hC
    refine Vcall.mk' hC (zk (cr) (zk (Cv.nil 1) (zn _))) ?_
    refine zw rfl (zt ?_)
    refine aV ?_
    refine za rfl rfl ?_
    refine ze (zvz p hp) ?_
    refine ze (zr4 p.leaf.sign kpS (zcs p) p.sig h2.2.1 (by decide) hK) ?_
    exact zf (by unfold zc3;rw[hr,hk,he];simp)
 ·refine zq ?_
  exact zf (by unfold zc3;rw[hr];rfl)
end
theorem zmr(l:Leaf)(hl:l.fit):aG 85 [.ag l.c] (.r (.b l.right)):=by
 have g:=ziq l hl
 refine aT Tryz.func85 rfl ?_
 refine za rfl rfl ?_
 cases hr:l.right with
 |true=>
  rw[hr]at g
  exact ze g (Vcmp.mk' rfl (cr))
 |false=>
  rw[hr]at g
  exact ze g (Vcmp.mk' rfl (cr))
theorem z3s(l:Leaf)(hl:l.fit):aG 88 [.ag l.c] (.r (.ag (L1 l).c)):=by
 refine aT Tryz.func88 rfl ?_
 refine za rfl rfl ?_
 refine Vcall.mk' (znw (L1 l) (zl2 hl) (zcx _ hl)) (zk (Cv.ag (zk (cr) (zk (cr) (zk (cr) (zk (cr) (zk (cr) (zk (cr) (zk (cr) (zk (Cv.nil 1) (zk (Cv.nil 1) (zk (Cv.nil 1) Cvs.nil))))))))))) Cvs.nil) ?_
 exact za rfl rfl (cr)
open Classical in
noncomputable def updR (t:List Node)(i:Int)(l:Leaf):RV:=
 if rightT t=false then .tu [nods [],Er 12]else if l.right=false then .tu [nods [],Er 3]else if i∈zaf t then .tu [nods ((zcv t i).set (2*i).toNat (L1 l)),Er 0]else .tu [nods [],Er 7]
theorem z7r(t:List Node)(i:Int)(l:Leaf)(ht:t.length<=1000000)(hfit: ∀x∈t,x.fit)(hl:l.fit):aG 45 [nods t,I i, .ag l.c] (.r (updR t i l)):=by
 have g:=zir t ht hfit
 have nil: ∀e:Nat,Cv (.tu [.x (.slice none 0 0),Er e]) (.tu [nods [],Er e]):=λe=>Cv.tu (zk (Cv.nil 10) (zn _))
 refine za1 (T:=Tab) mixed Tab_ok Tryz.func45 rfl (by kernel_rfl) ?_
 refine ze g ?_
 unfold updR
 cases hr:rightT t with
 |false=>exact zu rfl (zq ⟨_,zo _,⟨_,rfl,nil 12⟩⟩)
 |true=>
 have r:=zbr.1 hr
 obtain⟨hl1,hl2,hl3⟩:=zbg r.n
 have hb:=zcc hl2
 refine zw rfl (zt ?_)
 refine za rfl rfl ?_
 refine ze (zmr l hl) ?_
 cases hlr:l.right with
 |false=>exact zu rfl (zq ⟨_,zo _,⟨_,rfl,nil 3⟩⟩)
 |true=>
 refine zw rfl (zt ?_)
 refine Vcall.bool (ztf t i ht r.n) (λh=>?_) (λh=>?_)
 ·replace h:=of_decide_eq_true h
  rw[if_neg (by simp),if_neg (by simp),if_pos h]
  obtain⟨o,rfl,ho,hk⟩:=zba.1 h
  have hbl:(zcv t (o:Int)).length=t.length:=zi0 _ _
  refine zw rfl (zt ?_)
  refine ze (ztc t (o:Int) ht hfit r.n (by omega)) ?_
  refine zd rfl (by omega) ?_
  refine za rfl rfl ?_
  refine ze (z3s l hl) ?_
  refine Vadr.mk' (2*o) (by omega) (by omega) ?_
  refine⟨by rw[zh6 (f:=Node.c) (sz:=10) (λ_=>rfl)];show 2*o*10+10<=_;omega,((zcv t (o:Int)).set (2*o) (L1 l)).flatMap Node.c,by rw[zng (by omega)];exact zk0 _ rfl,?_⟩
  rw[show(2*(o:Int)).toNat=2*o by omega]
  have e:nods ((zcv t (o:Int)).set (2*o) (L1 l))= .sl 10 t.length (((zcv t (o:Int)).set (2*o) (L1 l)).flatMap Node.c):=by
   unfold nods;rw[List.length_set,hbl]
  rw[e]
  exact⟨_,za7 (id:=1) rfl,⟨_,rfl,cr⟩⟩
 ·replace h:=of_decide_eq_false h
  rw[if_neg (by simp),if_neg (by simp),if_neg h]
  exact zu rfl (zq ⟨_,zo _,⟨_,rfl,nil 7⟩⟩)
end Go.Proofs.YtpcfoglfakeimaaGreat.Sx
