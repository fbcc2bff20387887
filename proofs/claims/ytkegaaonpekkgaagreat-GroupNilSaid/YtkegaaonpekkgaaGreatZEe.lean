import Derived.Test.YtkegaaonpekkgaaGreatZTp
import Derived.Test.YtkegaaonpekkgaaGreatZPa
namespace Go.Proofs.YtkegaaonpekkgaaGreat.Sx
open Go.RowKit
theorem z5o(l:List UInt8)(h0:0<l.length)(hl:l.length<=1000000000):aG 42 [bs l] (.own 5 1 l.length (l.map U8)):=zsq l (by omega)
theorem zdlb(x:Fe):aG 353 [.ag x.v] (.r (.b (zbr x fz))):=by
 refine aT Tryz.func353 rfl ?_
 refine za rfl rfl ?_
 refine ze (zjy x fz) ?_
 exact cr
def Pt.same(p q:Pt):Bool:=cond (zbr (p.x.mul q.z) (q.x.mul p.z)) (zbr (p.y.mul q.z) (q.y.mul p.z)) false
set_option maxHeartbeats 1000000 in
theorem zdzb(p q:Pt):aG 254 [.ag p.v, .ag q.v] (.r (.b (p.same q))):=by
 refine aT Tryz.func254 rfl ?_
 refine aV ?_
 refine za rfl rfl ?_
 refine ze (zhs p) ?_
 refine za rfl rfl ?_
 refine ze (zhs q) ?_
 refine aV ?_
 refine za rfl rfl ?_
 refine za rfl rfl ?_
 refine ze (zbf p.x q.z) ?_
 refine za rfl rfl ?_
 refine za rfl rfl ?_
 refine ze (zbf q.x p.z) ?_
 have e1:zbr (p.x.mul q.z) (q.x.mul p.z)=true->p.same q=zbr (p.y.mul q.z) (q.y.mul p.z):=λh=>by unfold Pt.same;rw[h];rfl
 have e0:zbr (p.x.mul q.z) (q.x.mul p.z)=false->p.same q=false:=λh=>by unfold Pt.same;rw[h];rfl
 generalize p.x.mul q.z=A at*
 generalize q.x.mul p.z=B at*
 refine Vcall.bool (zjy A B) (λh=>?_) (λh=>?_)
 ·rw[e1 h]
  refine za rfl rfl ?_
  refine za rfl rfl ?_
  refine ze (zbf p.y q.z) ?_
  refine za rfl rfl ?_
  refine za rfl rfl ?_
  refine ze (zbf q.y p.z) ?_
  generalize p.y.mul q.z=C
  generalize q.y.mul p.z=D
  refine ze (zjy C D) ?_
  exact cr
 ·rw[e0 h]
  exact cr
set_option maxHeartbeats 1000000 in
theorem zg0b(p q:Pt):aG 255 [.ag p.v, .ag q.v] (.r (.ag (p.sum q dD).v)):=by
 refine aT Tryz.func255 rfl ?_
 refine aV ?_
 refine za rfl rfl ?_
 refine ze (zhs p) ?_
 refine za rfl rfl ?_
 refine ze (zhs q) ?_
 have hd:=h_d
 have e:dD=dC.add dC:=by rw[dD]
 rw[e]
 generalize dC=d at hd⊢
 refine ze hd ?_
 refine ze hd ?_
 refine ze (ze9 d d) ?_
 refine ze (zwb p q (d.add d)) ?_
 refine za rfl rfl ?_
 exact cr
def oddB(b:List UInt8):Bool:=(((b.getD 31 0).toNat:Int).fdiv (2^(min (7:Int).toNat 8))==1)
def lowB(b:List UInt8):List UInt8:=b.set 31 (b.getD 31 0&&&127)
def negF(odd:Bool)(x:Fe):Fe:=cond odd (Fe.sub ⟨0,0,0,0,0⟩ x) x
def decP(b:List UInt8):Option Pt:=
 if b.length=32 then
  if(Fe.of b).bytes=lowB b then
   if(za4 (zbn (Fe.of b))).2=true/\¬(zbr (za4 (zbn (Fe.of b))).1 fz=true/\oddB b=true)then some (Pt.of (negF (oddB b) (za4 (zbn (Fe.of b))).1) (Fe.of b))else none
  else none
 else none
abbrev zP:List RV:=[W 0,W 0,W 0,W 0,W 0,W 0,W 0,W 0,W 0,W 0,W 0,W 0,W 0,W 0,W 0,W 0,W 0,W 0,W 0,W 0, .b false]
def resP:Option Pt->RV
 |some p=> .tu [.ag p.v, .b true]
 |none=> .tu [.ag zP, .b false]
theorem z6b(b:List UInt8)(h:b.length≠32):aG 252 [bs b] (.r (resP none)):=by
 refine aT Tryz.func252 rfl ?_
 refine zt (by simp only[zb];omega) (zp ?_)
 refine za rfl rfl ?_
 exact⟨_,rfl,cr⟩
section
variable (b yb:List UInt8) (y x:Fe) (ok zx:Bool) (hb:b.length=32)
 (c1:aG 322 [bs b] (.r (.ag y.v)))
 (c2:aG 211 [.ag y.v] (bch yb))
include hb c1 c2
set_option maxHeartbeats 1000000 in
theorem z90(res:Option Pt)
  (c3:yb=lowB b->aG 214 [.ag y.v] (.r (.tu [.ag x.v, .b ok])))
  (c4:aG 353 [.ag x.v] (.r (.b zx)))
  (c5: ∀u:Fe,u=negF (oddB b) x->∀P:Pt,some P=res->aG 215 [.ag u.v, .ag y.v] (.r (.ag P.v)))
  (r0:yb≠lowB b->res=none) (r1:yb=lowB b->(ok=false\/zx=true/\oddB b=true)->res=none) (r2:yb=lowB b->ok=true->¬(zx=true/\oddB b=true)->∃P,some P=res):
  aG 252 [bs b] (.r (resP res)):=by
 refine aT Tryz.func252 rfl ?_
 have hg:b[31]?=some (b.getD 31 0):=by rw[List.getD_eq_getElem?_getD,List.getElem?_eq_getElem (by omega)];rfl
 have hi:((b.map U8).drop ((31:Int).toNat*1)).take 1=[U8 (b.getD 31 0)]:=by
  have h31:31<b.length:=by omega
  have:=zbh (f:=U8) (l:=b) (i:=31) (j:=31) rfl h31
  rw[List.getElem?_eq_getElem h31]at hg
  rwa[Option.some.inj hg]at this
 refine zu (by simp only[zb];omega) (zq ?_)
 refine ze c1 ?_
 refine zm (by decide) (by omega) hi (zg rfl ?_)
 refine⟨by decide,_,rfl,?_⟩
 refine Vcmp.mk' (m:=oddB b) rfl ?_
 refine ze (z5o b (by omega) (by omega)) ?_
 refine Vadr.mk' 31 rfl (by omega) ?_
 refine zg (zeg (j:=31) (by omega)) ?_
 refine Vbits.and8 (b.getD 31 0) 127 rfl rfl ?_
 refine Vadr.mk' 31 rfl (by omega) ?_
 refine⟨by show 31*1+1<=(b.map U8).length;rw[List.length_map];omega,(lowB b).map U8,zcq (show 31<b.length by omega),?_⟩
 refine za rfl rfl ?_
 refine ze c2 ?_
 have hlow:(lowB b).length=b.length:=by simp[lowB]
 have hbe:aG 114 [bs yb, .sl 1 b.length ((lowB b).map U8)] (.r (.b (decide (yb=lowB b)))):=by
  have:=zky yb (lowB b)
  rwa[<-ziq (lowB b) b.length hlow]at this
 refine Vstep.sub (zbb (id:=2) rfl) (Vstep.val Tab_ok ?_)
 refine Vcall.bool hbe (λh=>zu rfl (zq ?_)) (λh=>zt rfl (zp ?_))
 rotate_left
 ·simp only[decide_eq_false_iff_not]at h
  refine za rfl rfl ?_
  exact⟨_,rfl,zf (by rw[r0 h];rfl)⟩
 simp only[decide_eq_true_eq]at h
 refine za rfl rfl ?_
 refine ze (c3 h) ?_
 have r1':=r1 h
 have r2':=r2 h
 cases ok with
 |false=>
  refine zt rfl (zp ?_)
  refine za rfl rfl ?_
  exact⟨_,rfl,zf (by rw[r1' (.inl rfl)];rfl)⟩
 |true=>
  refine zu rfl ?_
  refine za rfl rfl ?_
  refine ze c4 ?_
  obtain⟨β,hβ⟩: ∃β,β=oddB b:=⟨_,rfl⟩
  rw[<-hβ]at r1' r2' c5⊢
  cases zx with
  |true=>
   cases β with
   |true=>
    refine zp ?_
    refine za rfl rfl ?_
    exact⟨_,rfl,zf (by rw[r1' (.inr ⟨rfl,rfl⟩)];rfl)⟩
   |false=>
    obtain⟨P,hP⟩:=r2' rfl (by simp)
    refine zq (zq ?_)
    refine za rfl rfl ?_
    refine za rfl rfl ?_
    refine ze (c5 x rfl P hP) ?_
    refine za rfl rfl ?_
    exact⟨_,rfl,zf (by rw[<-hP];rfl)⟩
  |false=>
   obtain⟨P,hP⟩:=r2' rfl (by simp)
   cases β with
   |true=>
    refine zq (zp ?_)
    refine za rfl rfl ?_
    refine ze (zup x) ?_
    refine za rfl rfl ?_
    refine za rfl rfl ?_
    refine ze (c5 _ rfl P hP) ?_
    refine za rfl rfl ?_
    exact⟨_,rfl,zf (by rw[<-hP];rfl)⟩
   |false=>
    refine zq (zq ?_)
    refine za rfl rfl ?_
    refine za rfl rfl ?_
    refine ze (c5 x rfl P hP) ?_
    refine za rfl rfl ?_
    exact⟨_,rfl,zf (by rw[<-hP];rfl)⟩
end
theorem z6a(b:List UInt8):aG 252 [bs b] (.r (resP (decP b))):=by
 by_cases hb:b.length=32
 ·have c1:=h_of b hb
  have hD:decP b=if(Fe.of b).bytes=lowB b then if(za4 (zbn (Fe.of b))).2=true/\¬(zbr (za4 (zbn (Fe.of b))).1 fz=true/\oddB b=true)then some (Pt.of (negF (oddB b) (za4 (zbn (Fe.of b))).1) (Fe.of b))else none else none:=by unfold decP;rw[if_pos hb]
  generalize decP b=res at hD⊢
  generalize Fe.of b=y at c1 hD
  have c2:=znp y
  have c3:=z5r y
  generalize y.bytes=yb at c2 hD
  generalize za4 (zbn y)=q at c3 hD
  obtain⟨x,ok⟩:=q
  dsimp only at c3 hD
  have c4:=zdlb x
  generalize zbr x fz=zx at c4 hD
  refine z90 b yb y x ok zx hb c1 c2 res (λ_=>c3) c4 (λu hu P hP=>?_) (λh=>?_) (λh h2=>?_) (λh h2 h3=>?_)
  ·have h1:yb=lowB b:=Decidable.byContradiction λh=>by rw[hD,if_neg h]at hP;cases hP
   rw[hD,if_pos h1]at hP
   split at hP
   ·cases hP
    rw[<-hu]
    exact z2v u y
   ·cases hP
  ·rw[hD,if_neg h]
  ·rw[hD,if_pos h,if_neg]
   rintro⟨k1,k2⟩
   rcases h2 with h2 |h2
   ·rw[h2]at k1;cases k1
   ·exact k2 h2
  ·exact⟨_,by rw[hD,if_pos h,if_pos ⟨h2,h3⟩]⟩
 ·have:decP b=none:=by unfold decP;rw[if_neg hb]
  rw[this]
  exact z6b b hb
def s4Of(b:List UInt8):S4:=⟨za6 b 0 8,za6 b 8 8,za6 b 16 8,za6 b 24 8⟩
def zey(b:List UInt8):Option S4:=if b.length=32 then if(s4Of b).bor ord4=0 then none else some (s4Of b)else none
def resS:Option S4->RV
 |some s=> .tu [.ag s.v, .b true]
 |none=> .tu [.ag [W 0,W 0,W 0,W 0], .b false]
theorem zy6(b:List UInt8)(h:b.length≠32):aG 253 [bs b] (.r (resS none)):=by
 refine aT Tryz.func253 rfl ?_
 refine zt (by simp only[zb];omega) (zp ?_)
 refine za rfl rfl ?_
 exact⟨_,rfl,cr⟩
set_option maxHeartbeats 1000000 in
theorem z2h(b:List UInt8)(w0 w1 w2 w3 bo:UInt64)(df:S4)(hb:b.length=32)(c0:aG 334 [bs b,I 0] (.r (W w0)))(c1:aG 334 [bs b,I 8] (.r (W w1)))(c2:aG 334 [bs b,I 16] (.r (W w2)))(c3:aG 334 [bs b,I 24] (.r (W w3)))
  (c4: ∀o:S4,o=ord4->aG 354 [.ag (S4.v ⟨w0,w1,w2,w3⟩), .ag o.v] (.r (.tu [.ag df.v,W bo]))):
  aG 253 [bs b] (.r (resS (if bo=0 then none else some ⟨w0,w1,w2,w3⟩))):=by
 refine aT Tryz.func253 rfl ?_
 have ho:=z0g
 obtain⟨o,hoe⟩: ∃o,o=ord4:=⟨_,rfl⟩
 rw[<-hoe]at ho
 refine zu (by simp only[zb];omega) (zq ?_)
 refine Vloop.rounds 5 ?_
 refine Vrounds.step mixed Tab_ok ?_
 refine zt rfl (zp ?_)
 refine zd (m:=0) rfl (by decide) ?_
 refine ze c0 ?_
 refine Vadr.mk' 0 rfl (by decide) ?_
 refine zd (m:=1) rfl (by decide) ?_
 refine Vrounds.step mixed Tab_ok ?_
 refine zt rfl (zp ?_)
 refine zd (m:=8) rfl (by decide) ?_
 refine ze c1 ?_
 refine Vadr.mk' 1 rfl (by decide) ?_
 refine zd (m:=2) rfl (by decide) ?_
 refine Vrounds.step mixed Tab_ok ?_
 refine zt rfl (zp ?_)
 refine zd (m:=16) rfl (by decide) ?_
 refine ze c2 ?_
 refine Vadr.mk' 2 rfl (by decide) ?_
 refine zd (m:=3) rfl (by decide) ?_
 refine Vrounds.step mixed Tab_ok ?_
 refine zt rfl (zp ?_)
 refine zd (m:=24) rfl (by decide) ?_
 refine ze c3 ?_
 refine Vadr.mk' 3 rfl (by decide) ?_
 refine zd (m:=4) rfl (by decide) ?_
 refine Vrounds.step mixed Tab_ok ?_
 refine zu rfl (zq ?_)
 refine aV ?_
 refine za rfl rfl ?_
 refine ze ho ?_
 refine ze (c4 o hoe) ?_
 refine zh (λh=>zp ?_) (λh=>zq ?_)
 ·simp only[zb]at h
  have hz:bo=0:=by
   have:bo.toNat=0:=by omega
   exact UInt64.toNat_inj.1 (by rw[this];rfl)
  rw[if_pos hz]
  refine za rfl rfl ?_
  exact⟨_,rfl,cr⟩
 ·simp only[zb]at h
  have hz:bo≠0:=λe=>h (by rw[e];rfl)
  rw[if_neg hz]
  refine za rfl rfl ?_
  refine za rfl rfl ?_
  exact⟨_,rfl,cr⟩
theorem zdjb(b:List UInt8):aG 253 [bs b] (.r (resS (zey b))):=by
 by_cases hb:b.length=32
 ·have:=z2h b (za6 b 0 8) (za6 b 8 8) (za6 b 16 8) (za6 b 24 8) ((s4Of b).bor ord4) ((s4Of b).dif ord4) hb (zjz b 0 (by omega) (by omega)) (zjz b 8 (by omega) (by omega)) (zjz b 16 (by omega) (by omega)) (zjz b 24 (by omega) (by omega)) (λo ho=>by rw[ho];exact z6l (s4Of b) ord4)
  have e:zey b=if(s4Of b).bor ord4=0 then none else some (s4Of b):=by unfold zey;rw[if_pos hb]
  rw[e]
  exact this
 ·have:zey b=none:=by unfold zey;rw[if_neg hb]
  rw[this]
  exact zy6 b hb
def zh9(r a:Pt)(s k:S4):Bool:=(mulP baseP s 253).same (r.sum (mulP a k 253) dD)
def zfu(pub text sig:List UInt8):Bool:=
 if sig.length=64 then
  match decP (sig.take 32),zey (sig.drop 32),decP pub with
  |some r,some s,some a=>zh9 r a s (scOf (zck [sig.take 32,pub,text]))
  |_,_,_=>false
 else false
theorem zza(pub text sig:List UInt8)(h:sig.length≠64):aG 164 [bs pub,bs text,bs sig] (.r (.b false)):=by
 refine aT Tryz.func164 rfl ?_
 refine zt (by simp only[zb];omega) (zp ?_)
 exact cr
section
variable (pub text sig q1 q2:List UInt8) (hl:sig.length=64) (h1:sig.take 32=q1) (h2:sig.drop 32=q2)
 (R A:Option Pt) (Z:Option S4)
 (c1:aG 252 [bs q1] (.r (resP R))) (c2:aG 253 [bs q2] (.r (resS Z))) (c3:aG 252 [bs pub] (.r (resP A)))
include hl h1 h2 c1 c2 c3
set_option maxHeartbeats 1000000 in
theorem zji(hb:R=none\/Z=none\/A=none):aG 164 [bs pub,bs text,bs sig] (.r (.b false)):=by
 have l1:q1.length=32:=by rw[<-h1,List.length_take];omega
 have l2:q2.length=32:=by rw[<-h2,List.length_drop];omega
 rw[<-ziq q1 32 l1]at c1
 rw[<-ziq q2 32 l2]at c2
 have k1:((sig.map U8).drop ((0:Int).toNat*1)).take (32*1)=q1.map U8:=by rw[<-h1,List.map_take];rfl
 have k2:((sig.map U8).drop ((32:Int).toNat*1)).take (32*1)=q2.map U8:=by rw[<-h2,List.map_drop,List.take_of_length_le (by simp;omega)];rfl
 refine aT Tryz.func164 rfl ?_
 refine zu (by simp only[zb];omega) (zq ?_)
 refine⟨by decide,by decide,by omega,32,q1.map U8,rfl,k1,?_⟩
 cases R with
 |none=>
  refine ze c1 ?_
  refine⟨by decide,by omega,by omega,32,q2.map U8,by omega,k2,?_⟩
  cases Z<;>cases A<;>refine ze c2 (ze c3 (zt rfl (zp (cr))))
 |some r=>
  refine ze c1 ?_
  refine⟨by decide,by omega,by omega,32,q2.map U8,by omega,k2,?_⟩
  cases Z with
  |none=>cases A<;>refine ze c2 (ze c3 (zu rfl (zt rfl (zp (cr)))))
  |some s=>cases A with
   |none=>refine ze c2 (ze c3 (zu rfl (zu rfl (zt rfl (zp (cr))))))
   |some a=>rcases hb with h |h |h<;>cases h
end
set_option maxHeartbeats 1000000 in
theorem z2l(pub text sig q1 q2 L:List UInt8)(hl:sig.length=64)(hp:pub.length<=1000000000)(ht:text.length<=1000000000)(h1:sig.take 32=q1)(h2:sig.drop 32=q2)(r a M N Y:Pt)(s k:S4)(β:Bool)
  (c1:aG 252 [bs q1] (.r (.tu [.ag r.v, .b true]))) (c2:aG 253 [bs q2] (.r (.tu [.ag s.v, .b true]))) (c3:aG 252 [bs pub] (.r (.tu [.ag a.v, .b true])))
  (c4:aG 228 [bss [q1,pub,text]] (.r (bs L))) (c5:aG 227 [bs L] (.r (.ag k.v)))
  (c6: ∀b:Pt,b=baseP->aG 125 [.ag b.v, .ag s.v] (.r (.ag M.v)))
  (c7:aG 125 [.ag a.v, .ag k.v] (.r (.ag N.v))) (c8:aG 255 [.ag r.v, .ag N.v] (.r (.ag Y.v))) (c9:aG 254 [.ag M.v, .ag Y.v] (.r (.b β))):
  aG 164 [bs pub,bs text,bs sig] (.r (.b β)):=by
 have l1:q1.length=32:=by rw[<-h1,List.length_take];omega
 have l2:q2.length=32:=by rw[<-h2,List.length_drop];omega
 have e4:bss [q1,pub,text]= .sl 1 3 [.sl 1 32 (q1.map U8),bs pub,bs text]:=by rw[ziq q1 32 l1];rfl
 rw[e4]at c4
 rw[<-ziq q1 32 l1]at c1
 rw[<-ziq q2 32 l2]at c2
 have k1:((sig.map U8).drop ((0:Int).toNat*1)).take (32*1)=q1.map U8:=by rw[<-h1,List.map_take];rfl
 have k2:((sig.map U8).drop ((32:Int).toNat*1)).take (32*1)=q2.map U8:=by rw[<-h2,List.map_drop,List.take_of_length_le (by simp;omega)];rfl
 refine aT Tryz.func164 rfl ?_
 obtain⟨b,hb⟩: ∃b,b=baseP:=⟨_,rfl⟩
 have c0:=zr0
 rw[<-hb]at c0
 refine zu (by simp only[zb];omega) (zq ?_)
 refine⟨by decide,by decide,by omega,32,q1.map U8,rfl,k1,?_⟩
 refine ze c1 ?_
 refine⟨by decide,by omega,by omega,32,q2.map U8,by omega,k2,?_⟩
 refine ze c2 ?_
 refine ze c3 ?_
 refine zu rfl ?_
 refine zu rfl ?_
 refine zu rfl (zq ?_)
 refine⟨by decide,by decide,by omega,32,q1.map U8,rfl,k1,?_⟩
 refine zw ?_
 refine ze c4 ?_
 refine ze c5 ?_
 refine aV ?_
 refine ze c0 ?_
 refine za rfl rfl ?_
 refine ze (c6 b hb) ?_
 refine za rfl rfl ?_
 refine za rfl rfl ?_
 refine za rfl rfl ?_
 refine ze c7 ?_
 refine ze c8 ?_
 refine ze c9 ?_
 exact cr
theorem h_holds(pub text sig:List UInt8)(hp:pub.length<=1000000000)(ht:text.length<=1000000000):aG 164 [bs pub,bs text,bs sig] (.r (.b (zfu pub text sig))):=by
 by_cases hl:sig.length=64
 rotate_left
 ·have:zfu pub text sig=false:=by unfold zfu;rw[if_neg hl]
  rw[this]
  exact zza pub text sig hl
 have hB:zfu pub text sig=match decP (sig.take 32),zey (sig.drop 32),decP pub with
  |some r,some s,some a=>zh9 r a s (scOf (zck [sig.take 32,pub,text]))
  |_,_,_=>false:=by unfold zfu;rw[if_pos hl]
 have c1:=z6a (sig.take 32)
 have c2:=zdjb (sig.drop 32)
 have c3:=z6a pub
 have l1:(sig.take 32).length=32:=by rw[List.length_take];omega
 have c4:=zv8 [sig.take 32,pub,text] (by rw[zbsb,aL,aL];omega)
 have c5:=zqi (zck [sig.take 32,pub,text]) (by rw[zb7];omega)
 generalize zck [sig.take 32,pub,text]=L at c4 c5 hB
 generalize scOf L=k at c5 hB
 generalize hR:decP (sig.take 32)=R at c1 hB
 generalize hZ:zey (sig.drop 32)=Z at c2 hB
 generalize hA:decP pub=A at c3 hB
 cases R with
 |none=>
  rw[hB]
  exact zji pub text sig _ _ hl rfl rfl none A Z c1 c2 c3 (.inl rfl)
 |some r=>
  cases Z with
  |none=>
   rw[hB]
   exact zji pub text sig _ _ hl rfl rfl (some r) A none c1 c2 c3 (.inr (.inl rfl))
  |some s=>
   cases A with
   |none=>
    rw[hB]
    exact zji pub text sig _ _ hl rfl rfl (some r) none (some s) c1 c2 c3 (.inr (.inr rfl))
   |some a=>
    rw[hB]
    have c7:=zqg a k
    generalize hN:mulP a k 253=N at c7
    have c8:=zg0b r N
    generalize hY:r.sum N dD=Y at c8
    have c6: ∀b:Pt,b=baseP->aG 125 [.ag b.v, .ag s.v] (.r (.ag (mulP baseP s 253).v)):=λb hb=>by rw[hb];exact zqg baseP s
    have e:zh9 r a s k=(mulP baseP s 253).same Y:=by unfold zh9;rw[hN,hY]
    show zab _ _ _ (.r (.b (zh9 r a s k)))
    rw[e]
    generalize mulP baseP s 253=M at c6
    exact z2l pub text sig _ _ L hl hp ht rfl rfl r a M N Y s k _ c1 c2 c3 c4 c5 c6 c7 c8 (zdzb M Y)
theorem za8b(label:ByteArray)(text:List UInt8)(hl:label.size<=1048576)(ht:text.length<=500000000):(zf5 (sB label) text).length<=1000000000:=by
 have hml:mlsB.length=8:=rfl
 have hsz:(sB label).length=label.size:=rfl
 have hv:=zai (mlsB++sB label)
 have hv2:=zai text
 rw[aL]at hv
 rw[zf5,aL]
 omega
theorem zdfb(pub:List UInt8)(label:ByteArray)(text sig:List UInt8)(hp:pub.length<=1000000000)(hl:label.size<=1048576)(ht:text.length<=500000000):aG 91 [bs pub,Str label,bs text,bs sig] (.r (.b (zfu pub (zf5 (sB label) text) sig))):=by
 refine aT Tryz.func91 rfl ?_
 refine ze (zk2 label text hl (by omega)) ?_
 refine ze (h_holds pub (zf5 (sB label) text) sig hp (za8b label text hl ht)) ?_
 exact cr
abbrev boxS:ByteArray:=⟨#[98,111,120]⟩
abbrev nl:RV:= .x (.slice none 0 0)
theorem zei(seed label text:List UInt8):(zhg seed label text).length=64:=za7b _ _
def u64N(n:Int):Nat:=(n%18446744073709551616).toNat
theorem z8f(x:Int)(h:i64 x):IntKind.u64.wrap x=((u64N x:Nat):Int):=by
 unfold i64 at h
 unfold IntKind.wrap u64N
 simp only[IntKind.bits,IntKind.signed]
 simp
 omega
def zhn(l:Leaf)(group:List UInt8)(at_:Int):List UInt8:=if l.src.toNat=1 then zba l else zba l++vecB group++beB 4 (u64N at_)
def ze7(l:Leaf)(at_:Int):Bool:=decide (l.src.toNat=1)||(decide (0<=at_)&&decide (at_<65536))
theorem zio(l:Leaf):(zba l).length<=l.box.length+l.sign.length+l.ident.length+l.parent.length+17:=by
 have v1:=zai l.box
 have v2:=zai l.sign
 have v3:=zai l.ident
 have v4:=zai l.parent
 unfold zba
 split<;>simp only[aL,List.length_cons,List.length_nil]<;>omega
theorem zbfb(l:Leaf)(group:List UInt8)(at_:Int):(zhn l group at_).length<=l.box.length+l.sign.length+l.ident.length+l.parent.length+group.length+25:=by
 have h:=zio l
 have v:=zai group
 have b:=zao 4 (u64N at_)
 unfold zhn
 split
 ·omega
 ·simp only[aL]
  omega
theorem zg5b(l:Leaf)(group:List UInt8)(at_:Int)(hl:l.fit)(hg:group.length<=1000000000)(ha:i64 at_):aG 130 [.ag l.c,bs group,I at_] (.r (.tu [bs (zhn l group at_), .b (ze7 l at_)])):=by
 refine aT Tryz.func130 rfl ?_
 obtain⟨h1,h2,h3,h4,h5⟩:=hl
 have hA:=zio l
 have hv:=zai group
 refine za rfl rfl ?_
 refine Vcall.mk' (zk0 [] l (by simp) ⟨h1,h2,h3,h4,h5⟩) (zk (Cv.nil _) (zn _)) ?_
 rw[List.nil_append]
 refine zh (λh=>zp ?_) (λh=>zq ?_)
 ·simp only[zb]at h
  have h':l.src.toNat=1:=by omega
  have e1:zhn l group at_=zba l:=if_pos h'
  have e2:ze7 l at_=true:=by simp[ze7,h']
  rw[e1,e2]
  exact⟨_,rfl,cr⟩
 ·simp only[zb]at h
  have h':l.src.toNat≠1:=by omega
  have e1:zhn l group at_=zba l++vecB group++beB 4 (u64N at_):=if_neg h'
  have e2:ze7 l at_=(decide (0<=at_)&&decide (at_<65536)):=by simp[ze7,h']
  refine ze (zbj (zba l) group (by omega) (by omega)) ?_
  refine Vint.n ((u64N at_:Nat):Int) (z8f at_ ha).symm ?_
  refine ze (zef (zba l++vecB group) 4 (u64N at_) (by rw[aL];omega) (.inr (.inr (.inl rfl)))) ?_
  rw[e1,e2]
  refine zh (λh0=>?_) (λh0=>?_)
  ·simp only[zb]at h0
   have h0':0<=at_:=h0
   refine Vcmp.mk' (m:=decide (at_<65536)) rfl ?_
   exact⟨_,rfl,zf (by rw[decide_eq_true h0'];rfl)⟩
  ·simp only[zb]at h0
   have h0': ¬0<=at_:=h0
   exact⟨_,rfl,zf (by rw[decide_eq_false h0'];rfl)⟩
def zS64:List UInt8:=List.replicate 64 0
def zkjb:List UInt8:=[76,101,97,102,78,111,100,101,84,66,83]
def Leaf.with(l:Leaf)(s:List UInt8):Leaf:={l with sig:=s}
def zec(l:Leaf)(seed:List UInt8)(at_:Int):Nat:=if(l.with zS64).right=true then if ze7 l at_=true then if seed.length=32 then 0 else 1 else 1 else 3
def slOk(l:Leaf)(seed group:List UInt8)(at_:Int):Leaf:=l.with (zhg seed zkjb (zhn l group at_))
def zhl(l:Leaf)(seed group:List UInt8)(at_:Int):RV:=if zec l seed at_=0 then .tu [.ag (slOk l seed group at_).c,Er 0]else .tu [.ag zl.c,Er (zec l seed at_)]
theorem zse:Cv (.ag [.x (.slice none 0 0), .x (.slice none 0 0), .x (.slice none 0 0), .i .u8 0, .x (.slice none 0 0), .x (.slice none 0 0)]) (.ag zl.c):=Cv.ag (zk (Cv.nil 1) (zk (Cv.nil 1) (zk (Cv.nil 1) (zk (cr) (zk (Cv.nil 1) (zk (Cv.nil 1) Cvs.nil))))))
theorem zil:(List.replicate ((64:Int).toNat) ([Value.int .u8 0].map ofC)).flatten=zS64.map U8:=by simp[ofC,zS64]
abbrev lsS:ByteArray:=⟨#[76,101,97,102,78,111,100,101,84,66,83]⟩
section
variable (l:Leaf) (z seed group:List UInt8) (at_:Int) (hl:l.fit) (hz:zS64=z)
include hl hz
set_option maxRecDepth 100000 in
theorem z6j(hr:(l.with z).right=false):aG 51 [.ag l.c,bs seed,bs group,I at_] (.r (.tu [.ag zl.c,Er 3])):=by
 refine aT Tryz.func51 rfl ?_
 have hzl:64=z.length:=by rw[<-hz];decide
 refine za rfl rfl ?_
 refine ze (zbx l hl) ?_
 refine⟨rfl,by decide,by decide,by decide,z.length,z.map U8,hzl,by rw[zil,hz],zw ?_⟩
 refine za rfl rfl ?_
 refine Vcall.bool (zfi (l.with z)) (λhr'=>absurd hr' (by rw[hr];simp)) (λ_=>zt rfl (zp ?_))
 refine za rfl rfl ?_
 exact⟨_,rfl,Cv.tu (zk zse (zn _))⟩
variable (T:List UInt8) (β:Bool) (hr:(l.with z).right=true) (hT:aG 130 [.ag (l.with z).c,bs group,I at_] (.r (.tu [bs T, .b β])))
include hr hT
set_option maxRecDepth 100000 in
theorem z93(hβ:β=false):aG 51 [.ag l.c,bs seed,bs group,I at_] (.r (.tu [.ag zl.c,Er 1])):=by
 subst hβ
 refine aT Tryz.func51 rfl ?_
 have hzl:64=z.length:=by rw[<-hz];decide
 refine za rfl rfl ?_
 refine ze (zbx l hl) ?_
 refine⟨rfl,by decide,by decide,by decide,z.length,z.map U8,hzl,by rw[zil,hz],zw ?_⟩
 refine za rfl rfl ?_
 refine Vcall.bool (zfi (l.with z)) (λ_=>zu rfl (zq ?_)) (λhr'=>absurd hr' (by rw[hr];simp))
 refine za rfl rfl ?_
 refine ze hT ?_
 refine zt rfl (zp ?_)
 refine za rfl rfl ?_
 exact⟨_,rfl,Cv.tu (zk zse (zn _))⟩
set_option maxRecDepth 100000 in
theorem z94(q:List UInt8)(e:Nat)(hβ:β=true)(hq:aG 53 [bs seed,Str lsS,bs T] (.r (.tu [bs q,Er e])))(he:e=1):aG 51 [.ag l.c,bs seed,bs group,I at_] (.r (.tu [.ag zl.c,Er 1])):=by
 subst hβ;subst he
 refine aT Tryz.func51 rfl ?_
 have hzl:64=z.length:=by rw[<-hz];decide
 refine za rfl rfl ?_
 refine ze (zbx l hl) ?_
 refine⟨rfl,by decide,by decide,by decide,z.length,z.map U8,hzl,by rw[zil,hz],zw ?_⟩
 refine za rfl rfl ?_
 refine Vcall.bool (zfi (l.with z)) (λ_=>zu rfl (zq ?_)) (λhr'=>absurd hr' (by rw[hr];simp))
 refine za rfl rfl ?_
 refine ze hT ?_
 refine zu rfl (zq ?_)
 refine ze hq ?_
 refine zt rfl (zp ?_)
 refine za rfl rfl ?_
 exact⟨_,rfl,Cv.tu (zk zse (zn _))⟩
set_option maxRecDepth 100000 in
theorem zd7b(q:List UInt8)(hβ:β=true)(hq:aG 53 [bs seed,Str lsS,bs T] (.r (.tu [bs q,Er 0]))):aG 51 [.ag l.c,bs seed,bs group,I at_] (.r (.tu [.ag (l.with q).c,Er 0])):=by
 subst hβ
 refine aT Tryz.func51 rfl ?_
 have hzl:64=z.length:=by rw[<-hz];decide
 refine za rfl rfl ?_
 refine ze (zbx l hl) ?_
 refine⟨rfl,by decide,by decide,by decide,z.length,z.map U8,hzl,by rw[zil,hz],zw ?_⟩
 refine za rfl rfl ?_
 refine Vcall.bool (zfi (l.with z)) (λ_=>zu rfl (zq ?_)) (λhr'=>absurd hr' (by rw[hr];simp))
 refine za rfl rfl ?_
 refine ze hT ?_
 refine zu rfl (zq ?_)
 refine ze hq ?_
 refine zu rfl (zq ?_)
 refine za rfl rfl ?_
 refine za rfl rfl ?_
 exact⟨_,rfl,cr⟩
end
theorem zqj(l:Leaf)(seed group:List UInt8)(at_:Int)(hl:l.fit)(hg:group.length<=100000000)(hb:l.box.length+l.sign.length+l.ident.length+l.parent.length<=100000000)(ha:i64 at_):
  aG 51 [.ag l.c,bs seed,bs group,I at_] (.r (zhl l seed group at_)):=by
 have hl':=hl
 obtain⟨h1,h2,h3,h4,h5⟩:=hl'
 have hf:(l.with zS64).fit:=⟨h1,h2,h3,h4,by show zS64.length<=_;decide⟩
 have ht:=zbfb l group at_
 have hT:aG 130 [.ag (l.with zS64).c,bs group,I at_] (.r (.tu [bs (zhn l group at_), .b (ze7 l at_)])):=zg5b (l.with zS64) group at_ hf (by omega) ha
 have herr: ∀e:Nat,zec l seed at_=e->e≠0->zhl l seed group at_= .tu [.ag zl.c,Er e]:=λe h h0=>by rw[zhl,h,if_neg h0]
 cases hr:(l.with zS64).right with
 |false=>
  rw[herr 3 (by unfold zec;rw[if_neg (by rw[hr];simp)]) (by decide)]
  exact z6j l zS64 seed group at_ hl rfl hr
 |true=>
  cases ho:ze7 l at_ with
  |false=>
   rw[herr 1 (by unfold zec;rw[if_pos hr,if_neg (by rw[ho];simp)]) (by decide)]
   exact z93 l zS64 seed group at_ hl rfl _ _ hr hT ho
  |true=>
   by_cases hs:seed.length=32
   ·have hS:zhl l seed group at_= .tu [.ag (slOk l seed group at_).c,Er 0]:=by
     have:zec l seed at_=0:=by unfold zec;rw[if_pos hr,if_pos ho,if_pos hs]
     rw[zhl,if_pos this]
    rw[hS]
    exact zd7b l zS64 seed group at_ hl rfl _ _ hr hT _ ho (zrx seed lsS (zhn l group at_) hs (by decide) (by omega))
   ·rw[herr 1 (by unfold zec;rw[if_pos hr,if_pos ho,if_neg hs]) (by decide)]
    exact z94 l zS64 seed group at_ hl rfl _ _ hr hT _ _ ho (zzb seed lsS (zhn l group at_) hs (by decide) (by omega)) rfl
section
variable {P:Program} {S:St} {o:Oper}
theorem Vstep.callS0{t:Nat}{ts:Array TypeId}{f:FuncId}{rvs:List RV}{r:RV}{K:St->Prop}(hop:o.op= .call {callee:= .value (.tmp t),args:= #[],argTypes:=ts}) (hf:fget S.F t=some (.r (.s (funS f rvs)))) (hg:zab P f rvs (.r r)) (hK:newK S o.dst (.r r) none K):Vstep P S o K:=by
 rw[zav]at hK
 refine Vstep.one (λB N a w k Q ⟨g,hs⟩ hd=>?_) hK
 have hfv:=(hs.facts t _ hf).2
 simp only[TF.at_,RV.at_]at hfv
 obtain⟨cap,e,hp⟩:=hfv
 have:=zha (o:=o) (Q:=Q) (K:=λf ow=>f= .r r/\ow=none) hs hp (zn rvs) hg (by
  have e2:a.eval (.tmp t)= .func (.func f) #[] cap:=by
   have:a.eval (.tmp t)=a.tmps.getD t undef:=by simp[Act.eval]
   rw[this,e]
  simp[execOp,hop,resolve,e2,Deferred.ofValue,invoke]) ⟨rfl,rfl⟩
 refine Oper.wp_mono ?_ this
 rintro a' w' ⟨f',ow,u,k',⟨rfl,rfl⟩,rfl,hl⟩
 exact⟨k',hl.sat hs hd⟩
end
def zu3(β:Bool)(l:List UInt8):RV:=cond β (.tu [bs l,Er 0]) (.tu [bs [],Er 3])
theorem zml(β:Bool)(f:FuncId)(rvs:List RV)(l:List UInt8)(hg:β=true->aG f rvs (.r (bs l))):aG 131 [.b β, .s (funS f rvs)] (.r (zu3 β l)):=by
 refine aT Tryz.func131 rfl ?_
 cases β with
 |false=>
  refine zt rfl (zp ?_)
  exact⟨_,rfl,Cv.tu (zk (Cv.nil 1) (zn _))⟩
 |true=>
  refine zu rfl (zq ?_)
  refine Vstep.callS0 rfl rfl (hg rfl) ?_
  exact⟨_,rfl,cr⟩
theorem zib(l:Leaf):(zc8 l).length<=l.box.length+l.sign.length+l.ident.length+l.parent.length+l.sig.length+21:=by
 have:=zio l
 have:=zai l.sig
 rw[zc8,aL]
 omega
theorem zmj(l:Leaf)(hl:l.fit):aG 333 [.ag l.c] (.r (zu3 l.right (zc8 l))):=by
 refine aT Tryz.func333 rfl ?_
 have hA:=zio l
 obtain⟨h1,h2,h3,h4,h5⟩:=id hl
 refine za rfl rfl ?_
 have hg:=zfi l
 cases hr:l.right with
 |true=>
  rw[hr]at hg
  refine ze hg ?_
  refine zu rfl (zq ?_)
  refine aV ?_
  refine za rfl rfl ?_
  refine Vcall.mk' (zk0 [] l (by simp) hl) (zk (Cv.nil _) (zn _)) ?_
  rw[List.nil_append]
  refine ze (zbj (zba l) l.sig (by omega) (by omega)) ?_
  exact⟨_,rfl,cr⟩
 |false=>
  rw[hr]at hg
  refine ze hg ?_
  refine zt rfl (zp ?_)
  exact⟨_,rfl,Cv.tu (zk (Cv.nil 1) (zn _))⟩
theorem zmg(l:Leaf)(hl:l.fit)(hr:l.right=true):aG 226 [.ag l.c] (.r (bs (zc8 l))):=by
 refine aT Tryz.func226 rfl ?_
 have h:=zmj l hl
 rw[hr]at h
 refine za rfl rfl ?_
 refine ze h ?_
 exact cr
theorem zmh(l:Leaf)(s:UInt8)(hl:l.fit):aG 225 [.ag l.c,U8 s] (.r (.b (l.right&&decide (l.src=s)))):=by
 refine aT Tryz.func225 rfl ?_
 have h:=zmj l hl
 refine za rfl rfl ?_
 cases hr:l.right with
 |true=>
  rw[hr]at h
  refine ze h ?_
  refine zt rfl ?_
  refine Vcmp.mk' (m:=decide (l.src=s)) ?_ ?_
  ·rw[Bool.eq_iff_iff]
   simp only[zb,Int.natCast_inj,UInt8.toNat_inj]
  ·exact zf (by simp)
 |false=>
  rw[hr]at h
  refine ze h ?_
  refine zu rfl ?_
  exact cr
def PackP.right(p:PackP):Bool:=decide (p.init.length=32)&&((p.leaf.right&&decide (p.leaf.src=1))&&decide (p.sig.length=64))
def zf0(p:PackP):List UInt8:=(beB 2 1++beB 2 1)++vecB p.init++zc8 p.leaf
def PackP.fit(p:PackP):Prop:=p.init.length<=1000000/\p.leaf.fit/\p.sig.length<=1000000
theorem zd0b(p:PackP)(hp:p.fit):aG 132 [.ag p.c] (.r (.b p.right)):=by
 refine aT Tryz.func132 rfl ?_
 have h:=zmh p.leaf 1 hp.2.1
 refine zh (λh1=>?_) (λh1=>?_)
 ·simp only[zb]at h1
  refine za rfl rfl ?_
  have h1':p.init.length=32:=by omega
  cases hr:(p.leaf.right&&decide (p.leaf.src=1))with
  |true=>
   rw[hr]at h
   refine ze h ?_
   refine Vcmp.mk' (m:=decide (p.sig.length=64)) ?_ ?_
   ·rw[Bool.eq_iff_iff]
    simp only[zb]
    omega
   ·exact zf (by unfold PackP.right;rw[hr,decide_eq_true h1'];simp)
  |false=>
   rw[hr]at h
   refine ze h ?_
   exact zf (by unfold PackP.right;rw[hr];simp[ofC])
 ·simp only[zb]at h1
  have h1': ¬p.init.length=32:=by omega
  exact zf (by unfold PackP.right;rw[decide_eq_false h1'];rfl)
theorem ze2(l:List UInt8)(size m:Nat)(hl:l.length<=1000000000)(hs:size=1\/size=2\/size=4\/size=8):aG 172 [bs l,I size, .i .u64 m] (bch (l++beB size m)):=by
 refine aT Tryz.func172 rfl ?_
 refine ze (zef l size m (by omega) hs) ?_
 exact rfl
theorem zeh(l m:List UInt8)(hl:l.length<=1000000000)(hm:m.length<=1000000000):aG 171 [bs l,bs m] (bch (l++vecB m)):=by
 refine aT Tryz.func171 rfl ?_
 refine ze (zbj l m (by omega) (by omega)) ?_
 exact rfl
theorem zzc(p:PackP)(hp:p.fit)(hr:p.leaf.right=true):aG 134 [.ag p.c] (.r (bs (zf0 p))):=by
 refine aT Tryz.func134 rfl ?_
 obtain⟨h1,h2,h3⟩:=hp
 have hv:=zai p.init
 have hL:=zib p.leaf
 obtain⟨k1,k2,k3,k4,k5⟩:=id h2
 refine Vcall.mk' (ze2 [] 2 1 (by simp) (.inr (.inl rfl))) (zk (Cv.nil _) (zn _)) ?_
 rw[List.nil_append]
 refine ze (ze2 (beB 2 1) 2 1 (by rw[zao];omega) (.inr (.inl rfl))) ?_
 refine aV ?_
 refine ze (zeh (beB 2 1++beB 2 1) p.init (by rw[aL,zao];omega) (by omega)) ?_
 refine za rfl rfl ?_
 refine ze (zmg p.leaf h2 hr) ?_
 refine Vapp.mk' (j:=(zf0 p).length) (zs:=(zf0 p).map U8) (by simp only[maxLen,aL,zao];omega) (by simp only[aL,zao];show(_+_)*1<=_;omega) (by simp only[zf0,aL]) (by simp only[zf0,List.map_append]) ?_
 exact cr
theorem zzd(p:PackP)(hp:p.fit)(hr:p.leaf.right=true):aG 133 [.ptr p.c] (.r (bs (zf0 p))):=by
 refine aT Tryz.func133 rfl ?_
 refine za rfl rfl ?_
 refine ze (zzc p hp hr) ?_
 exact cr
theorem PackP.right_leaf{p:PackP}(h:p.right=true):p.leaf.right=true:=by
 unfold PackP.right at h
 simp only[Bool.and_eq_true]at h
 exact h.2.1.1
theorem z2u(p:PackP)(hp:p.fit):aG 52 [.ag p.c] (.r (zu3 p.right (zf0 p))):=by
 refine aT Tryz.func52 rfl ?_
 refine za rfl rfl ?_
 refine ze (zd0b p hp) ?_
 refine Vstep.sub (zci (id:=0) (t:=1) p.c rfl rfl) (Vstep.mkfunS rfl rfl ?_)
 refine ze (zml p.right _ _ (zf0 p) λh=>zzd p hp (PackP.right_leaf h)) ?_
 unfold zu3
 cases p.right with
 |true=>exact⟨_,rfl,cr⟩
 |false=>exact⟨_,rfl,cr⟩
abbrev kpS:ByteArray:=⟨#[75,101,121,80,97,99,107,97,103,101,84,66,83]⟩
def baS(l:List UInt8):ByteArray:=⟨l.toArray⟩
theorem z4d(l:List UInt8):strOfNums (nums l)=baS l:=by
 unfold strOfNums baS nums
 rw[List.map_map]
 congr 2
 exact(List.map_congr_left (λx _=>by simp)).trans (List.map_id l)
theorem Vfun.str{S:St}{o:Oper}{x:Operand}{l:List UInt8}{K:RV->Prop}(hop:o.op= .convert 22 9 x)(hx:oprs S [x]=some [bs l])(hK:K (Str (baS l))):Vfun aP S o [x] K:=
 ⟨_,hx,_,λa w k h=>by
  simp only[RV.partsAt,List.map_cons,List.map_nil]at h
  obtain⟨u,r,e,hat,_⟩:=h
  obtain⟨p,rfl,hp⟩:=z1r hat
  have hv:=(List.cons.inj e).1
  refine⟨.string (baS l),?_,by simp only[RV.at_]⟩
  have hc:=zro p l w hp
  rw[z4d]at hc
  simp[execOp,hop,hv,hc],hK⟩
def strs(l:List ByteArray):RV:= .sl 1 l.length (l.map Str)
def catS(l:List ByteArray):List UInt8:=l.flatMap sB
def zjkb(l:List ByteArray):Nat->St
 |0=>{F:=[(3, .r (.x (.slice none 0 0))),(6, .r (strs l)),(7, .r (I l.length)),(8, .r (I ((0:Nat):Int)))],O:=[],nx:=0}
 |i+1=>{F:=[(3, .own 0),(6, .r (strs l)),(7, .r (I l.length)),(8, .r (I ((i+1:Nat):Int)))],O:=[(0,some (.ch 5 1 (catS (l.take (i+1))).length ((catS (l.take (i+1))).map U8) true))],nx:=1}
theorem zsl{l:List ByteArray}{i:Nat}(hi:i<l.length):catS (l.take (i+1))=catS (l.take i)++sB l[i]:=by
 rw[List.take_add_one,List.getElem?_eq_getElem hi]
 show(l.take i++[l[i]]).flatMap sB=_
 rw[List.flatMap_append]
 simp only[catS,List.flatMap_cons,List.flatMap_nil,List.append_nil]
theorem zcyb{l:List ByteArray}{i:Nat}:(catS (l.take i)).length<=(catS l).length:=by
 have h:catS l=catS (l.take i)++catS (l.drop i):=by
  unfold catS
  rw[<-List.flatMap_append,List.take_append_drop]
 rw[h,aL]
 omega
theorem z5b(l:List ByteArray)(h0:l≠[])(hl:(catS l).length<=10000000000)(hn:l.length<=1000000000):aG 208 [strs l] (bch (catS l)):=by
 refine aT Tryz.func208 rfl ?_
 refine zy (zjkb l) (λi=>i<=l.length) (λi=>l.length-i) 0 (by omega) (zad [] rfl ⟨cr,cr,cr,cr,trivial⟩ trivial) ?_
 intro i hi
 have hpos:0<l.length:=by cases l;exact absurd rfl h0;simp
 have hle:= @zcyb l (i+1)
 rcases i with _ |i
 ·refine zt (decide_eq_true (by omega)) (zp ?_)
  refine zm (by omega) (by omega) (zbh (j:=0) rfl hpos) (zg rfl ?_)
  have hs:=zsl hpos
  rw[hs]at hle
  simp only[aL,sB,Array.length_toList]at hle
  refine Vstep.appS (s:=l[0]) Tab_ok rfl rfl rfl rfl ⟨rfl,rfl⟩ rfl rfl rfl rfl rfl (by show 0+l[0].data.size<=_;omega) ?_
  refine zd (m:=((0+1:Nat):Int)) rfl (by decide) ?_
  refine⟨0+1,by omega,by omega,zad [(0,0)] rfl ⟨rfl,cr,cr,cr,trivial⟩ ⟨⟨rfl,rfl,?_,rfl,Cvs.of_eq ?_⟩,trivial⟩⟩
  ·rw[hs];simp[catS,sB]
  ·rw[hs];rfl
 ·refine zh (λh=>zp ?_) (λh=>zq ?_)
  ·simp only[zb]at h
   have hlt:i+1<l.length:=by omega
   refine zm (by omega) (by omega) (zbh (j:=i+1) rfl hlt) (zg rfl ?_)
   have hs:=zsl hlt
   rw[hs]at hle
   simp only[aL,sB,Array.length_toList]at hle
   refine Vstep.appS (s:=l[i+1]) Tab_ok rfl rfl rfl rfl ⟨rfl,rfl⟩ rfl rfl rfl rfl rfl (by show _+l[i+1].data.size<=_;omega) ?_
   refine zd (m:=((i+1+1:Nat):Int)) (by omega) (by omega) ?_
   refine⟨i+1+1,by omega,by omega,zad [(0,1)] rfl ⟨rfl,cr,cr,cr,trivial⟩ ⟨⟨rfl,rfl,?_,rfl,Cvs.of_eq ?_⟩,trivial⟩⟩
   ·rw[hs,aL];rfl
   ·rw[hs,List.map_append]
  ·simp only[zb]at h
   have hl':i+1=l.length:=by omega
   exact zds (by rw[hl',List.take_length])
def verB:List UInt8:=[72,80,75,69,45,118,49]
def extB(name salt label secret:List UInt8):List UInt8:=macB salt (verB++name++label++secret)
def epdB(name secret label info:List UInt8)(n:Nat):List UInt8:=exp1 secret (beB 2 n++verB++name++label++info) n
theorem zkz(salt secret:List UInt8)(h1:salt.length<=1000000000)(h2:secret.length<=10000000000):aG 202 [bs salt,bs secret] (bch (macB salt secret)):=by
 refine aT Tryz.func202 rfl ?_
 refine zw ?_
 refine ze (zuo salt [secret] h1 (by simp;omega)) ?_
 exact zds (by simp)
theorem z18(name label:ByteArray)(salt secret:List UInt8)(h1:salt.length<=1000000000)(h2:secret.length<=1000000000)(h3:name.size<=1000)(h4:label.size<=1000):
  aG 122 [Str name,bs salt,Str label,bs secret] (bch (extB (sB name) salt (sB label) secret)):=by
 refine aT Tryz.func122 rfl ?_
 have e:catS [⟨#[72,80,75,69,45,118,49]⟩,name,label,baS secret]=verB++sB name++sB label++secret:=by simp[catS,verB,baS];rfl
 have hl:(catS [⟨#[72,80,75,69,45,118,49]⟩,name,label,baS secret]).length<=10000000000:=by
  rw[e];simp only[aL,sB,Array.length_toList];show 7+name.size+label.size+_<=_;omega
 refine Vfun.str rfl rfl (zw ?_)
 refine ze (z5b [⟨#[72,80,75,69,45,118,49]⟩,name,label,baS secret] (by simp) hl (by simp)) ?_
 refine ze (zkz salt _ h1 (by omega)) ?_
 exact zds (by rw[e];rfl)
theorem z5a(name label:ByteArray)(secret info:List UInt8)(n:Nat)(hn:1<=n/\n<=32)(h1:secret.length<=1000000000)(h2:info.length<=1000000)(h3:name.size<=1000)(h4:label.size<=1000):
  aG 121 [Str name,bs secret,Str label,bs info,I n] (.r (bs (epdB (sB name) secret (sB label) info n))):=by
 refine aT Tryz.func121 rfl ?_
 have e:catS [baS ([]++beB 2 n),⟨#[72,80,75,69,45,118,49]⟩,name,label,baS info]=beB 2 n++verB++sB name++sB label++info:=by simp[catS,verB,baS];rfl
 have hb:(beB 2 n).length=2:=zao 2 n
 have hl:(catS [baS ([]++beB 2 n),⟨#[72,80,75,69,45,118,49]⟩,name,label,baS info]).length<=1000000000:=by
  rw[e];simp only[aL,sB,Array.length_toList,hb];show 2+7+name.size+label.size+_<=_;omega
 refine Vint.u64 n rfl (by omega) ?_
 refine Vcall.mk' (zef [] 2 n (by simp) (.inr (.inl rfl))) (zk (Cv.nil _) (zn _)) ?_
 refine Vfun.str rfl rfl ?_
 refine Vfun.str rfl rfl (zw ?_)
 refine ze (z5b [baS ([]++beB 2 n),⟨#[72,80,75,69,45,118,49]⟩,name,label,baS info] (by simp) (by omega) (by simp)) ?_
 refine ze (zsr secret _ n hn h1 hl) ?_
 rw[e]
 exact cr
end Go.Proofs.YtkegaaonpekkgaaGreat.Sx
