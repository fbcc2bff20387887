import Derived.Test.YtkegaaonpekkgaaGreatXqYk
import Derived.Test.YtkegaaonpekkgaaGreatXqHg
import Derived.Test.YtkegaaonpekkgaaGreatXqMe
import Derived.Test.YtkegaaonpekkgaaGreatXqBd
namespace Go.Proofs.YtkegaaonpekkgaaGreat.Sx
open Go.RowKit
def wC(o:cT)(n:Nat):Bool:=(o.getD (n/8) 0).toNat.testBit (n%8)
theorem Yq(x:UInt8){t:Nat}(h:8<=t):x.toNat.testBit t=false:=
 Nat.testBit_lt_two_pow (bN x.toNat_lt (bV (by decide) h))
theorem RU(b:cT)(at_:Nat): ∀j,j<=8->(xi b at_ j).toNat<2^(8*j)
 |0,_=>by rw[nL];decide
 |j+1,hj=>by
  have ih:=RU b at_ j (by omega)
  have e:(rR (xi b at_ j) 8).toNat=(xi b at_ j).toNat*2^8:=by
   unfold rR
   rw[UInt64.toNat_ofNat',bS]
   have:(xi b at_ j).toNat<2^56:=bN ih (bV (by decide) (by omega))
   omega
  rw[nK,UInt64.toNat_or,e]
  refine Nat.or_lt_two_pow ?_ ?_
  ·rw[show 8*(j+1)=8*j+8 by omega,Nat.pow_add]
   exact Nat.mul_lt_mul_of_pos_right ih (by decide)
  ·have h8:=(b.getD (at_+(7-j)) 0).toNat_lt
   rw[UInt64.toNat_ofNat',bS (by omega)]
   exact bN h8 (bV (by decide) (by omega))
theorem TG(b:cT)(at_:Nat): ∀j,j<=8->∀t,(xi b at_ j).toNat.testBit t=(decide (t<8*j)&&wC b (8*(at_+(8-j))+t))
 |0,_,t=>by rw[nL,u0,Nat.zero_testBit];simp
 |j+1,hj,t=>by
  have ih:=TG b at_ j (by omega)
  have lt:=RU b at_ j (by omega)
  have e:(rR (xi b at_ j) 8).toNat=(xi b at_ j).toNat<<<8:=by
   unfold rR
   rw[UInt64.toNat_ofNat',bS,Nat.shiftLeft_eq]
   have:(xi b at_ j).toNat<2^56:=bN lt (bV (by decide) (by omega))
   omega
  have h8:=(b.getD (at_+(7-j)) 0).toNat_lt
  rw[nK,UInt64.toNat_or,e,Nat.testBit_or,Nat.testBit_shiftLeft,UInt64.toNat_ofNat',bS (by omega),ih]
  by_cases ht:8<=t
  ·rw[Yq _ ht,Bool.or_false]
   simp only[ge_iff_le,ht,decide_true,Bool.true_and]
   rw[show 8*(at_+(8-j))+(t-8)=8*(at_+(8-(j+1)))+t by omega]
   congr 1
   exact decide_eq_decide.2 (by omega)
  ·simp only[ge_iff_le,ht,decide_false,Bool.false_and,Bool.false_or]
   rw[bE (show t<8*(j+1)by omega),Bool.true_and,wC]
   rw[show(8*(at_+(8-(j+1)))+t)/8=at_+(7-j)by omega,show(8*(at_+(8-(j+1)))+t)%8=t by omega]
theorem qt(b:cT)(at_ t:Nat):(xi b at_ 8).toNat.testBit t=(decide (t<64)&&wC b (8*at_+t)):=by
 have:=TG b at_ 8 (by omega) t
 exact this
theorem CR{a b:UInt8}(h: ∀t,t<8->a.toNat.testBit t=b.toNat.testBit t):a=b:=by
 rw[<-UInt8.toNat_inj]
 refine Nat.eq_of_testBit_eq λt=>?_
 by_cases ht:t<8
 ·exact h t ht
 ·rw[Yq _ (by omega),Yq _ (by omega)]
theorem O7{a b:cT}(hl:a.length=b.length)(h: ∀n,n<8*a.length->wC a n=wC b n):a=b:=by
 refine List.ext_getElem hl λi h1 h2=>CR λt ht=>?_
 have:=h (8*i+t) (by omega)
 rw[wC,wC,show(8*i+t)/8=i by omega,show(8*i+t)%8=t by omega]at this
 rw[bK,bK,bA h1,bA h2]at this
 exact this
theorem dr(o:cT)(p:Nat)(v:UInt8)(hp:p<o.length)(n:Nat):wC (o.set p v) n=if n/8=p then v.toNat.testBit (n%8)else wC o n:=by
 unfold wC
 split
 ·next h=>rw[h,bK,List.getElem?_set_self hp];rfl
 ·next h=>rw[bK,List.getElem?_set_ne (λe=>h e.symm),<-bK]
theorem Lv(o:cT)(v:UInt64)(at_ k:Nat)(h:at_+k<8*o.length)(n:Nat):wC (dq o v at_ k) n=(wC o n||(decide (n=at_+k)&&v.toNat.testBit k)):=by
 have hb:(UInt8.ofNat (yA v k&&&1).toNat).toNat=v.toNat/2^k%2:=by
  rw[UInt64.toNat_and,iz,show(1:UInt64).toNat=1 from rfl,Nat.and_one_is_mod,UInt8.toNat_ofNat',bS (by omega)]
 have hv:v.toNat.testBit k=decide (v.toNat/2^k%2=1):=Nat.testBit_eq_decide_div_mod_eq
 have hq:(at_+k)%8<8:=Nat.mod_lt _ (by decide)
 have hs:(Tu (UInt8.ofNat (yA v k&&&1).toNat) ((at_+k)%8)).toNat=v.toNat/2^k%2*2^((at_+k)%8):=by
  unfold Tu
  rw[UInt8.toNat_ofNat',hb,bS]
  have h1:2^((at_+k)%8)<=2^7:=bV (by decide) (by omega)
  rcases Nat.mod_two_eq_zero_or_one (v.toNat/2^k)with e |e<;>rw[e]<;>omega
 rw[dq,dr _ _ _ (by omega)]
 split
 ·next hp=>
  rw[UInt8.toNat_or,Nat.testBit_or,hs,hv,<-hp]
  congr 1
  rcases Nat.mod_two_eq_zero_or_one (v.toNat/2^k)with e |e
  ·rw[e];simp
  ·rw[e,Nat.one_mul,Nat.testBit_two_pow]
   simp only[decide_true,Bool.and_true]
   exact decide_eq_decide.2 (by omega)
 ·next hp=>
  rw[bD (show¬n=at_+k fromλe=>hp (by rw[e])),Bool.false_and,Bool.or_false]
theorem Tm(o:cT)(v:UInt64)(at_:Nat): ∀K,at_+K<=8*o.length->∀n,wC (tc o v at_ K) n=(wC o n||(decide (at_<=n/\n<at_+K)&&v.toNat.testBit (n-at_)))
 |0,_,n=>by
  rw[gU,bD (by omega),Bool.false_and,Bool.or_false]
 |K+1,hK,n=>by
  have ih:=Tm o v at_ K (by omega) n
  have hl:=mB o v at_ K
  have e:tc o v at_ (K+1)=dq (tc o v at_ K) v at_ K:=by conv=>lhs;rw[tc]
  rw[e,Lv _ _ _ _ (by omega),ih,Bool.or_assoc]
  congr 1
  by_cases hn:n=at_+K
  ·subst hn
   rw[bD (show¬(at_<=at_+K/\at_+K<at_+K)by omega),bE rfl,bE (show at_<=at_+K/\at_+K<at_+(K+1)by omega),show at_+K-at_=K by omega]
   simp
  ·rw[bD hn,Bool.false_and,Bool.or_false]
   congr 1
   exact decide_eq_decide.2 (by omega)
theorem dg(x:Fe): ∀i,i<=5->∀n,wC (tN x i) n=(decide (n<51*i)&&((uA x).getD (n/51) 0).toNat.testBit (n%51))
 |0,_,n=>by
  rw[iR,wC,bD (by omega),Bool.false_and,bK,List.getElem?_replicate]
  split<;>exact Nat.zero_testBit _
 |i+1,hi,n=>by
  have ih:=dg x i (by omega) n
  have hl:=nU x i
  rw[iQ,Tm _ _ _ _ (by omega),ih]
  by_cases h1:n<51*i
  ·rw[bE h1,bD (show¬(i*51<=n/\n<i*51+51)by omega),bE (show n<51*(i+1)by omega)]
   simp
  ·rw[bD h1,Bool.false_and,Bool.false_or]
   by_cases h2:n<51*(i+1)
   ·rw[bE (show i*51<=n/\n<i*51+51 by omega),bE h2,show n/51=i by omega,show n%51=n-i*51 by omega]
   ·rw[bD (show¬(i*51<=n/\n<i*51+51)by omega),bD h2,Bool.false_and,Bool.false_and]
theorem XU{x y:Fe}(h1:x.a.toNat<2251799813685248)(h2:x.b.toNat<2251799813685248)(h3:x.c.toNat<2251799813685248)(h4:x.d.toNat<2251799813685248)(g1:y.a.toNat<2251799813685248)(g2:y.b.toNat<2251799813685248)(g3:y.c.toNat<2251799813685248)(g4:y.d.toNat<2251799813685248)(h:x.val=y.val):x=y:=by
 obtain⟨a,b,c,d,e⟩:=x
 obtain⟨a',b',c',d',e'⟩:=y
 simp only[Fe.val]at*
 have e1:a=a':=UInt64.toNat_inj.1 (by omega)
 have e2:b=b':=UInt64.toNat_inj.1 (by omega)
 have e3:c=c':=UInt64.toNat_inj.1 (by omega)
 have e4:d=d':=UInt64.toNat_inj.1 (by omega)
 have e5:e=e':=UInt64.toNat_inj.1 (by omega)
 subst e1 e2 e3 e4 e5
 rfl
theorem Sw(x:Fe):x.least.least=x.least:=by
 obtain⟨v,a,b,c,d,e⟩:=tl x
 obtain⟨v',a',b',c',d',e'⟩:=tl x.least
 refine XU a' b' c' d' a b c d ?_
 rw[v',v,Nat.mod_mod]
theorem Dm(x y:Fe)(h:x.F=y.F):x.least=y.least:=by
 obtain⟨v,a,b,c,d,e⟩:=tl x
 obtain⟨v',a',b',c',d',e'⟩:=tl y
 refine XU a b c d a' b' c' d' ?_
 rw[v,v',PG]
 exact cR Fin.val h
theorem YU(x:Fe):x.least.F=x.F:=by
 obtain⟨v,_⟩:=tl x
 exact of_eq (by rw[v,Nat.mod_mod])
theorem Ut(x:Fe):x.least.Sm:=by
 obtain⟨v,a,b,c,d,e⟩:=tl x
 exact⟨by omega,by omega,by omega,by omega,by omega⟩
theorem ew{x y:UInt64}(h: ∀t,x.toNat.testBit t=y.toNat.testBit t):x=y:=UInt64.toNat_inj.1 (Nat.eq_of_testBit_eq h)
theorem kT(x:UInt64)(t:Nat):(x&&&wb).toNat.testBit t=(decide (t<51)&&x.toNat.testBit t):=by
 rw[qX,show(2251799813685248:Nat)=2^51 by decide,Nat.testBit_mod_two_pow]
theorem jc(x:UInt64)(n t:Nat):(yA x n).toNat.testBit t=x.toNat.testBit (n+t):=by
 rw[iz,Nat.testBit_div_two_pow,Nat.add_comm]
theorem Ug{x:UInt64}(h:x.toNat<2251799813685248){t:Nat}(ht: ¬t<51):x.toNat.testBit t=false:=
 Nat.testBit_lt_two_pow (bN h (show 2^51<=2^t from bV (by decide) (by omega)))
theorem GZ(b:cT)(x:Fe)(h: ∀n,n<255->wC b n=wC x.bytes n):Fe.of b=x.least:=by
 obtain⟨_,ha,hb,hc,hd,he⟩:=tl x
 have k: ∀n,n<255->wC b n=((uA x.least).getD (n/51) 0).toNat.testBit (n%51):=λn hn=>by
  rw[h n hn,Fe.bytes,dg _ 5 (bQ _),bE (show n<51*5 by omega),Bool.true_and]
 have l:uA x.least=[x.least.a,x.least.b,x.least.c,x.least.d,x.least.e]:=by unfold uA;rfl
 rw[l]at k
 have p1:xi b 0 8&&&wb=x.least.a:=ew λt=>by
  rw[kT]
  by_cases ht:t<51
  ·rw[qt,bE ht,bE (by omega),k _ (by omega),show(8*0+t)/51=0 by omega,show(8*0+t)%51=t by omega]
   rfl
  ·rw[bD ht,Ug ha ht];rfl
 have p2:yA (xi b 6 8) 3&&&wb=x.least.b:=ew λt=>by
  rw[kT,jc]
  by_cases ht:t<51
  ·rw[qt,bE ht,bE (by omega),k _ (by omega),show(8*6+(3+t))/51=1 by omega,show(8*6+(3+t))%51=t by omega]
   rfl
  ·rw[bD ht,Ug hb ht];rfl
 have p3:yA (xi b 12 8) 6&&&wb=x.least.c:=ew λt=>by
  rw[kT,jc]
  by_cases ht:t<51
  ·rw[qt,bE ht,bE (by omega),k _ (by omega),show(8*12+(6+t))/51=2 by omega,show(8*12+(6+t))%51=t by omega]
   rfl
  ·rw[bD ht,Ug hc ht];rfl
 have p4:yA (xi b 19 8) 1&&&wb=x.least.d:=ew λt=>by
  rw[kT,jc]
  by_cases ht:t<51
  ·rw[qt,bE ht,bE (by omega),k _ (by omega),show(8*19+(1+t))/51=3 by omega,show(8*19+(1+t))%51=t by omega]
   rfl
  ·rw[bD ht,Ug hd ht];rfl
 have p5:yA (xi b 24 8) 12&&&wb=x.least.e:=ew λt=>by
  rw[kT,jc]
  by_cases ht:t<51
  ·rw[qt,bE ht,bE (by omega),k _ (by omega),show(8*24+(12+t))/51=4 by omega,show(8*24+(12+t))%51=t by omega]
   rfl
  ·rw[bD ht,Ug he ht];rfl
 rw[Fe.of,p1,p2,p3,p4,p5]
theorem Xs(x:Fe):wC x.bytes 255=false:=by
 rw[Fe.bytes,dg _ 5 (bQ _),bD (by decide),Bool.false_and]
theorem TP(x:Fe):x.least.bytes=x.bytes:=by rw[Fe.bytes,Sw,Fe.bytes]
theorem Fr(x:S4)(n:Nat)(hn:n<256):wC x.bytes n=(x.l.getD (n/64) 0).toNat.testBit (n%64):=by
 have e:x.bytes.getD (n/8) 0=UInt8.ofNat (yA (x.l.getD (n/8/8) 0) (n/8%8*8)).toNat:=by
  unfold S4.bytes jb ML
  rw[bK,bR,List.getElem?_range (by omega)]
  simp only[Option.map_some,Option.getD_some]
  rw[cO (by omega)]
 rw[wC,e,UInt8.toNat_ofNat',show(2:Nat)^8=2^8 from rfl,Nat.testBit_mod_two_pow,jc,bE (by omega),Bool.true_and,show n/8/8=n/64 by omega,show n/8%8*8+n%8=n%64 by omega]
theorem S7(x:S4):iu x.bytes=x:=by
 have k: ∀(at_ q t:Nat),at_=8*q->q<4->t<64->wC x.bytes (8*at_+t)=(x.l.getD q 0).toNat.testBit t:=λat_ q t h1 h2 h3=>by
  rw[Fr x _ (by omega),show(8*at_+t)/64=q by omega,show(8*at_+t)%64=t by omega]
 have g: ∀(at_ q:Nat),at_=8*q->q<4->xi x.bytes at_ 8=x.l.getD q 0:=λat_ q h1 h2=>ew λt=>by
  rw[qt]
  by_cases ht:t<64
  ·rw[bE ht,Bool.true_and,k at_ q t h1 h2 ht]
  ·rw[bD ht,Bool.false_and]
   exact(Nat.testBit_lt_two_pow (bN (UInt64.toNat_lt _) (bV (by decide) (by omega)))).symm
 rw[iu,g 0 0 rfl (by decide),g 8 1 rfl (by decide),g 16 2 rfl (by decide),g 24 3 rfl (by decide)]
 rfl
theorem TU{x:S4}(h:x.N<lC):rk x.bytes=some x:=by
 unfold rk
 rw[cO x.bytes_len,S7,cQ]
 intro e
 have:=(SI x ord4).1 e
 rw[Mu]at this
 omega
theorem qD(x y:Fe):wc x y=true↔x.F=y.F:=by
 unfold wc j7
 rw[decide_eq_true_eq]
 constructor
 ·intro⟨h1,h2,h3,h4,h5⟩
  have e:x.least=y.least:=by
   generalize x.least=a at*
   generalize y.least=b at*
   obtain⟨a1,a2,a3,a4,a5⟩:=a
   obtain⟨b1,b2,b3,b4,b5⟩:=b
   simp only at*
   subst h1 h2 h3 h4 h5
   rfl
  rw[<-YU x,<-YU y,e]
 ·intro h
  rw[Dm x y h]
  exact⟨rfl,rfl,rfl,rfl,rfl⟩
theorem R4(x:Fe):x.odd=true↔x.F.val%2=1:=by
 obtain⟨v,_⟩:=tl x
 have h:x.F.val=x.least.val:=by
  rw[v,PG]
  rfl
 have e:(x.least.a&&&1).toNat=x.least.a.toNat%2:=by
  rw[UInt64.toNat_and,show(1:UInt64).toNat=1 from rfl,Nat.and_one_is_mod]
 unfold Fe.odd
 rw[h,e,Fe.val,beq_iff_eq]
 omega
theorem Mq{a b:Nat}(k:Nat)(h:Fin.ofNat pC a=Fin.ofNat pC b):Fin.ofNat pC (a^k)=Fin.ofNat pC (b^k):=by
 have h':a%pC=b%pC:=cR Fin.val h
 refine Fin.ext ?_
 show a^k%pC=b^k%pC
 rw[Nat.pow_mod,h',<-Nat.pow_mod]
theorem UK(u:Fin pC):Fin.ofNat pC u.val=u:=Fin.ext (bS u.isLt)
theorem Ei{a r:Nat}(h:a%pC=r)(hr:r<pC):Fin.ofNat pC a=Fin.ofNat pC r:=Fin.ext (h.trans (bS hr).symm)
theorem C7:8*pt (v7 254 15) 256 256=(pC-1)+4:=by decide+kernel
theorem C8:Fin.ofNat pC (2^pt (v7 251 31) 256 256)*Fin.ofNat pC (2^pt (v7 251 31) 256 256)= -1:=by
 have h:pt (v7 251 31) 256 256=(pC-1)/4:=by decide+kernel
 have h2:2^((pC-1)/4)%pC=iC:=MA pC 255 2 ((pC-1)/4) iC (by decide+kernel) (by decide+kernel)
 have h3:Fin.ofNat pC (2^((pC-1)/4))=Fin.ofNat pC iC:=Ei h2 (by decide+kernel)
 rw[h,h3]
 exact edC.ii
theorem Jc{a:Fe}(ha:a.Sm)(u:Fin pC)(h:a.F=u*u):(wa a).Sm/\(wa a).F*(wa a).F*((wa a).F*(wa a).F)=a.F*a.F:=by
 obtain⟨s,e⟩:=ZK ha (v7 254 15) 256 256
 refine⟨s,?_⟩
 have e1:(wa a).F=Fin.ofNat pC (a.val^pt (v7 254 15) 256 256):=e
 have e2:Fin.ofNat pC a.val=Fin.ofNat pC (u.val*u.val):=by
  rw[tH,UK,<-h]
  rfl
 rw[e1,Mq _ e2,<-tH,<-tH,<-Nat.pow_add,<-Nat.pow_add,<-Nat.pow_two,<-Nat.pow_mul]
 have hx:=C7
 generalize pt (v7 254 15) 256 256=m at*
 rw[show 2*(m+m+(m+m))=(pC-1)+4 by omega,Nat.pow_add,tH,h]
 by_cases hu:u=0
 ·subst hu
  rw[show((0:Fin pC).val^4)=0 by decide+kernel]
  have:Fin.ofNat pC 0=0:=rfl
  rw[this]
  generalize Fin.ofNat pC _=z
  grind
 ·rw[fermat (by rw[UK];exact hu)]
  rw[show u.val^4=(u.val*u.val)*(u.val*u.val)by grind,tH,tH,UK]
  grind
theorem BF:(xj 2).F=2:=by
 rw[my]
 rfl
theorem Jd{a:Fe}(ha:a.Sm)(u:Fin pC)(h:a.F=u*u):(vn a).Sm/\(vn a).F*(vn a).F=a.F:=by
 obtain⟨s,e⟩:=Jc ha u h
 have hs:=qD ((wa a).mul (wa a)) a
 rw[wu s s]at hs
 unfold vn
 cases hc:wc ((wa a).mul (wa a)) a with
 |true=>exact⟨s,hs.1 hc⟩
 |false=>
  have hn:(wa a).F*(wa a).F≠a.F:=λx=>by rw[hs.2 x]at hc;exact absurd hc (by decide)
  obtain⟨s2,e2⟩:=ZK (pG 2) (v7 251 31) 256 256
  have e3:Fin.ofNat pC ((xj 2).val^pt (v7 251 31) 256 256)=Fin.ofNat pC (2^pt (v7 251 31) 256 256):=Mq _ BF
  rw[e3]at e2
  have hi:=C8
  rw[<-e2]at hi
  have hy:(nC a)=(wa a).mul (vK (xj 2) (v7 251 31) 256 256):=rfl
  refine⟨by show(nC a).Sm;rw[hy];exact we _ _,?_⟩
  show(nC a).F*(nC a).F=a.F
  rw[hy,wu s s2]
  have hd:(wa a).F*(wa a).F-a.F=0\/(wa a).F*(wa a).F+a.F=0:=edC.dom _ _ (by
   generalize (wa a).F=c at*
   generalize a.F=d at*
   clear hs hn hi
   grind)
  generalize (wa a).F=c at*
  generalize a.F=d at*
  generalize (vK (xj 2) (v7 251 31) 256 256).F=i at*
  rcases hd with hd |hd
  ·exact absurd (by grind) hn
  ·clear hs hn
   grind
theorem Rz{a:Fin pC}(h:a≠0):(0-a).val%2=1-a.val%2:=by
 have h0:a.val≠0:=λe=>h (Fin.ext e)
 have h1:=a.isLt
 have h2:(0-a).val=pC-a.val:=by
  rw[Fin.sub_def]
  show(pC-a.val+0)%pC=_
  rw[Nat.add_zero,bS (by omega)]
 have h3:pC%2=1:=by decide+kernel
 rw[h2]
 omega
theorem Fo{a:Fe}(ha:a.Sm)(u:Fin pC)(h:a.F=u*u):(yY a).2=true/\(yY a).1.Sm/\(yY a).1.F*(yY a).1.F=u*u/\(yY a).1.F.val%2=0:=by
 obtain⟨s,e⟩:=Jd ha u h
 have hs:=qD ((vn a).mul (vn a)) a
 rw[wu s s]at hs
 have ho:=R4 (vn a)
 unfold yY lp
 rw[hs.2 e]
 cases hc:(vn a).odd with
 |false=>
  refine⟨rfl,s,e.trans h,?_⟩
  show(vn a).F.val%2=0
  rw[hc]at ho
  have: ¬(vn a).F.val%2=1:=λx=>absurd (ho.2 x) (by decide)
  omega
 |true=>
  have h1:=ho.1 hc
  have hf:(Fe.sub ⟨0,0,0,0,0⟩ (vn a)).F=0-(vn a).F:=by
   have:=mH WM s
   rw[V0]at this
   exact this
  have hn:(vn a).F≠0:=λx=>by rw[x]at h1;exact absurd h1 (by decide+kernel)
  refine⟨rfl,r8 _ _,?_,?_⟩
  ·show(Fe.sub ⟨0,0,0,0,0⟩ (vn a)).F*(Fe.sub ⟨0,0,0,0,0⟩ (vn a)).F=u*u
   rw[hf,<-h,<-e]
   generalize (vn a).F=c
   grind
  ·show(Fe.sub ⟨0,0,0,0,0⟩ (vn a)).F.val%2=0
   rw[hf,Rz hn,h1]
theorem pm{r u:Fin pC}(h:r*r=u*u):r=u\/r=0-u:=by
 rcases edC.dom (r-u) (r+u) (by grind)with e |e
 ·left;grind
 ·right;grind
theorem HM{y:Fe}(hy:y.Sm){P:EPt dF}(h:y.F=P.y):(xW y).F=P.x*P.x:=by
 have hd1:(dF+1:Fin pC)≠0:=λe=>absurd (cR Fin.val e) (by decide+kernel)
 have e1:((dC.mul (y.mul y)).add one).F=dF*(P.y*P.y)+1:=by
  rw[jk (we _ _) gL,wu Ql (we _ _),wu hy hy,one_F,Eb,h]
 have hon:=P.on
 unfold On at hon
 have hn:dF*(P.y*P.y)+1≠0:=λe=>hd1 (by
  generalize P.x=x at*
  generalize P.y=w at*
  clear e1
  grind)
 have hi:=WQ (ri (dC.mul (y.mul y)) one) (by rw[e1];exact hn)
 rw[e1]at hi
 have e2:(xW y).F=(P.y*P.y-1)*((dC.mul (y.mul y)).add one).inv.F:=by
  unfold xW
  rw[wu (r8 _ _) (Z8 (ri _ _)),mH (we _ _) gL,wu hy hy,one_F,h]
 rw[e2]
 generalize ((dC.mul (y.mul y)).add one).inv.F=j at*
 generalize P.x=x at*
 generalize P.y=w at*
 clear e1 e2 hn
 grind
theorem HN(y:Fe):(xW y).Sm:=by
 unfold xW
 exact we _ _
theorem L5{u r:Fin pC}(h:r*r=u*u)(hr:r.val%2=0)(odd:Bool)(ho:odd=true↔u.val%2=1):(if odd=true then 0-r else r)=u:=by
 by_cases hu:u=0
 ·subst hu
  have:r=0:=edC.sq (by rw[h];grind)
  subst this
  split<;>grind
 ·have hp:=Rz hu
  rcases pm h with rfl |rfl
  ·rw[cQ]
   intro e
   have:=ho.1 e
   omega
  ·rw[cO (ho.2 (by omega))]
   grind
theorem RC{y:Fe}(hy:y.Sm){P:EPt dF}(h:y.F=P.y)(odd:Bool)(ho:odd=true↔P.x.val%2=1):
  (yY (xW y)).2=true/\(dS odd (yY (xW y)).1).Sm/\(dS odd (yY (xW y)).1).F=P.x/\(yY (xW y)).1.Sm/\(yY (xW y)).1.F*(yY (xW y)).1.F=P.x*P.x/\(yY (xW y)).1.F.val%2=0:=by
 obtain⟨h1,h2,h3,h4⟩:=Fo (HN y) P.x (HM hy h)
 have e:=L5 h3 h4 odd ho
 generalize yY (xW y)=rr at*
 obtain⟨r,ok⟩:=rr
 simp only at*
 have hn:(Fe.sub fz r).F=0-r.F:=by
  have:=mH WM h2
  rw[V0]at this
  exact this
 refine⟨h1,?_,?_,h2,h3,h4⟩
 ·cases odd with
  |true=>exact r8 _ _
  |false=>exact h2
 ·cases odd with
  |true=>
   rw[cO rfl]at e
   exact hn.trans e
  |false=>exact e
theorem F9(b:UInt8)(t:Nat):(b|||128).toNat.testBit t=(b.toNat.testBit t||decide (t=7)):=by
 rw[UInt8.toNat_or,Nat.testBit_or,show(128:UInt8).toNat=2^7 from rfl,Nat.testBit_two_pow]
 congr 1
 exact decide_eq_decide.2 (by omega)
theorem GO(b:UInt8)(t:Nat):(b&&&127).toNat.testBit t=(b.toNat.testBit t&&decide (t<7)):=by
 rw[UInt8.toNat_and,Nat.testBit_and,show(127:UInt8).toNat=2^7-1 from rfl,Nat.testBit_two_pow_sub_one]
theorem KN(b:cT):qY b=wC b 255:=by
 have h:=(b.getD 31 0).toNat_lt
 have e:wC b 255=decide ((b.getD 31 0).toNat/2^7%2=1):=by
  unfold wC
  exact Nat.testBit_eq_decide_div_mod_eq
 unfold qY
 rw[e,cD,beq_iff_eq,decide_eq_true_eq,show(2:Int)^(min (7:Int).toNat 8)=128 from rfl,Int.fdiv_eq_ediv_of_nonneg _ (by decide)]
 omega
theorem KF(b:cT)(hb:b.length=32)(n:Nat)(hn:n<256):wC (uZ b) n=(wC b n&&decide (n<255)):=by
 unfold uZ
 rw[dr _ _ _ (by omega)]
 split
 ·next h=>
  rw[GO,wC,h]
  congr 1
  exact decide_eq_decide.2 (by omega)
 ·next h=>rw[bE (by omega),Bool.and_true]
theorem ZJ(p:Pt):p.bytes.length=32:=by
 unfold Pt.bytes
 split
 ·rw[List.length_set,Fe.bytes_len]
 ·exact Fe.bytes_len _
theorem PI(p:Pt)(n:Nat)(hn:n<256):wC p.bytes n=(wC (p.y.mul p.z.inv).bytes n||(decide (n=255)&&(p.x.mul p.z.inv).odd)):=by
 unfold Pt.bytes
 split
 ·next h=>
  rw[h,Bool.and_true,dr _ _ _ (by rw[Fe.bytes_len];decide)]
  split
  ·next h1=>
   rw[F9,wC,h1]
   congr 1
   exact decide_eq_decide.2 (by omega)
  ·next h1=>rw[bD (by omega),Bool.or_false]
 ·next h=>
  rw[Bool.eq_false_iff.2 h,Bool.and_false,Bool.or_false]
theorem Xw{p:Pt}{P:EPt dF}(r:CurP p P): ∃q,sZ p.bytes=some q/\CurP q P:=by
 have hz:=WQ r.sz r.rep.ne
 have sz:=Z8 r.sz
 have hX:(p.x.mul p.z.inv).F=P.x:=by
  rw[wu r.sx sz,r.rep.hx]
  generalize p.z.F=z at*
  generalize p.z.inv.F=w at*
  grind
 have hY:(p.y.mul p.z.inv).F=P.y:=by
  rw[wu r.sy sz,r.rep.hy]
  generalize p.z.F=z at*
  generalize p.z.inv.F=w at*
  grind
 have sY:(p.y.mul p.z.inv).Sm:=we _ _
 have hb:=PI p
 have hl:=ZJ p
 have ho:=R4 (p.x.mul p.z.inv)
 rw[hX]at ho
 generalize p.x.mul p.z.inv=X at*
 generalize p.y.mul p.z.inv=Y at*
 generalize p.bytes=b at*
 have e1:Fe.of b=Y.least:=GZ b Y λn hn=>by
  rw[hb n (by omega),bD (by omega),Bool.false_and,Bool.or_false]
 have e2:uZ b=Y.bytes:=O7 (by unfold uZ;rw[List.length_set,hl,Fe.bytes_len]) λn hn=>by
  have h32:(uZ b).length=32:=by unfold uZ;rw[List.length_set,hl]
  rw[h32]at hn
  rw[KF b hl n (by omega),hb n (by omega)]
  by_cases h:n<255
  ·rw[bE h,bD (by omega),Bool.false_and,Bool.or_false,Bool.and_true]
  ·obtain rfl:n=255:=by omega
   rw[Xs]
   simp
 have e3:qY b=X.odd:=by
  rw[KN,hb 255 (by omega),Xs]
  simp
 have hy:Y.least.F=P.y:=(YU Y).trans hY
 obtain⟨k1,k2,k3,k4,k5,k6⟩:=RC (Ut Y) hy (qY b) (by rw[e3];exact ho)
 refine⟨Pt.of (dS (qY b) (yY (xW (Fe.of b))).1) (Fe.of b),?_,?_⟩
 ·unfold sZ
  rw[cO hl,e1,cO (by rw[TP,e2]),cO]
  refine⟨k1,λ⟨c1,c2⟩=>?_⟩
  have z:=(qD _ _).1 c1
  rw[V0]at z
  rw[e3]at c2
  have c3:=ho.1 c2
  have:P.x=0:=edC.sq (by rw[<-k5,z];grind)
  rw[this]at c3
  exact absurd c3 (by decide+kernel)
 ·rw[e1]
  exact PC k2 (Ut Y) k3.symm hy.symm
theorem SU:(xj 5).F≠0:=by
 rw[my]
 exactλe=>absurd (cR Fin.val e) (by decide+kernel)
theorem baseY_F:baseY.F=Fin.ofNat pC yB:=by
 have h1:=WQ (pG 5) SU
 have h2:baseY.F=(xj 4).F*(xj 5).inv.F:=by
  rw[<-wu (pG 4) (Z8 (pG 5))]
  unfold baseY
  rfl
 have h3:(xj 5).F*Fin.ofNat pC yB=(xj 4).F:=by
  rw[my,my]
  decide+kernel
 refine edC.canc SU ?_
 rw[h3,h2]
 generalize (xj 5).F=a at*
 generalize (xj 5).inv.F=b at*
 generalize (xj 4).F=c at*
 grind
theorem Vj:baseY.Sm:=by
 unfold baseY
 exact we _ _
theorem P7(x:Fe):dS false x=x:=rfl
theorem Yl:CurP baseP bP:=by
 have hp:bP.x.val%2=0:=by decide+kernel
 obtain⟨k1,k2,k3,k4,k5,k6⟩:=RC (P:=bP) Vj baseY_F false ⟨λh=>absurd h (by decide),λh=>by rw[hp]at h;exact absurd h (by decide)⟩
 have:baseP=Pt.of (yY (xW baseY)).1 baseY:=by unfold baseP;rfl
 rw[this]
 rw[P7]at k3
 clear k2
 generalize (yY (xW baseY)).1=r at*
 exact PC k4 Vj k3.symm baseY_F.symm
theorem Fq{p q:Pt}{P:EPt dF}(r:CurP p P)(t:CurP q P):p.same q=true:=by
 have h1:wc (p.x.mul q.z) (q.x.mul p.z)=true:=by
  rw[qD,wu r.sx t.sz,wu t.sx r.sz,r.rep.hx,t.rep.hx]
  grind
 have h2:wc (p.y.mul q.z) (q.y.mul p.z)=true:=by
  rw[qD,wu r.sy t.sz,wu t.sy r.sz,r.rep.hy,t.rep.hy]
  grind
 unfold Pt.same
 rw[h1,h2]
 rfl
theorem Wn(n:Nat):smul edC bP (n%lC)=smul edC bP n:=by
 have h:smul edC bP (lC*(n/lC)+n%lC)=smul edC bP (n%lC):=by
  rw[sH,bf,Lr,Wo,add_comm,add_zero]
 rw[Nat.div_add_mod]at h
 exact h.symm
theorem NV{r a:Pt}{R s k:Nat}(hr:CurP r (smul edC bP R))(ha:CurP a (smul edC bP s)){S K:S4}(hS:S.N<lC)(hK:K.N<lC)(hKk:K.N=k)(hSs:S.N=(R+k*s%lC)%lC):mr r a S K=true:=by
 unfold mr
 have h1:=fS Yl S hS
 have h2:=T0 hr (fS ha K hK)
 have e:smul edC bP S.N=(smul edC bP R).add edC (smul edC (smul edC bP s) K.N):=by
  rw[<-bf,<-sH,hSs,Wn,hKk,sH,Wn,<-sH,Nat.mul_comm]
 rw[e]at h1
 exact Fq h1 h2
theorem sign_holds(seed text:cT):rp (pd seed) text (mD seed text)=true:=by
 have hs:(pj seed).N<lC:=Xc _
 have hr:(i5 seed text).N<lC:=Xc _
 have hk:(be seed text).N<lC:=Xc _
 obtain⟨r,d1,p1⟩:=Xw (fS Yl (i5 seed text) hr)
 obtain⟨a,d2,p2⟩:=Xw (fS Yl (pj seed) hs)
 have hm:=Fu (be seed text) (pj seed)
 have hN:=Oz hr hm
 rw[CH]at hN
 have hS:((i5 seed text).sum ((be seed text).mul (pj seed))).once.N<lC:=by
  rw[hN]
  exact Nat.mod_lt _ Uo
 have l1:(i4 seed text).length=32:=ZJ _
 have l2:(mD seed text).length=64:=by
  unfold mD
  rw[aL,l1,S4.bytes_len]
 have t1:(mD seed text).take 32=i4 seed text:=by
  unfold mD
  rw[List.take_append_of_le_length (by omega),bF (by omega)]
 have t2:(mD seed text).drop 32=((i5 seed text).sum ((be seed text).mul (pj seed))).once.bytes:=by
  unfold mD
  rw[List.drop_append_of_le_length (by omega),List.drop_of_length_le (by omega),cG]
 have q1:sZ (i4 seed text)=some r:=d1
 have q2:sZ (pd seed)=some a:=d2
 unfold rp
 rw[cO l2,t1,t2,q1,TU hS,q2]
 exact NV p1 p2 hS hk rfl hN
#print axioms sign_holds
theorem Ns(l:cT)(hl:l.length<=1000000):aG 92 [bs l,bs l] (.r (.b true)):=by
 refine aT Tryz.func92 rfl ?_
 refine zu (by simp only[zb]) (zq ?_)
 refine zy (λj:Nat=>{F:=[(0,.r (bs l)),(1,.r (bs l)),(5,.r (U8 0)),(13,.r (I l.length)),(14,.r (I j))],O:=[],nx:=0}) (λj=>j<=l.length) (λj=>l.length-j) 0 (by omega) (zM []) ?_
 intro j hj
 refine cZ (λh=>?_) λh=>?_
 ·simp only[zb]at h
  have hj':j<l.length:=by omega
  refine aV ?_
  refine cV (qP rfl hj') (zg rfl ?_)
  refine cV (qP rfl hj') ?_
  refine zg rfl ?_
  refine Vbits.xor8 _ _ rfl rfl ?_
  rw[UInt8.xor_self]
  refine Vbits.or8 0 0 rfl rfl ?_
  refine zd (m:=((j+1:Nat):Int)) (by omega) (by omega) ?_
  exact⟨j+1,by omega,by omega,zM []⟩
 ·refine zt rfl ?_
  exact cr
theorem Rb(v:ViewP)(m:MsgP)(hg:m.group=v.ctx.group)(he:m.epoch=v.ctx.epoch)(hl:m.group.length<=1000000):aG 90 [.ag v.c,.ag m.c] (.r (Er 0)):=by
 refine aT Tryz.func90 rfl ?_
 have hb:=sn m.group v.ctx.group
 rw[bE hg]at hb
 refine ze hb ?_
 refine cX ?_
 refine cX ?_ (by simp only[zb];omega)
 exact cr
theorem su(s:SecP)(l:cT)(h1:s.mb.length<=1000000)(h2:l.length<=10000000):aG 78 [.ag s.c,bs l] (.r (bs (wh s.mb l))):=by
 refine aT Tryz.func78 rfl ?_
 have h:=Zj s.mb [l] (by omega) (by simp;omega)
 have e:([l]:List cT).flatMap id=l:=by simp
 rw[e]at h
 refine zw ?_
 refine ze h ?_
 exact cr
abbrev vW:ByteArray:=⟨#[70,114,97,109,101,100,67,111,110,116,101,110,116,84,66,83]⟩
structure MsgP.of (m:MsgP) (v:ViewP) (lf:Leaf) (seed:cT):Prop where
 sm:m.sm
 group:m.group=v.ctx.group
 epoch:m.epoch=v.ctx.epoch
 sign:lf.sign=pd seed
 sig:m.sig=oo seed (sB vW) (vi m v.ctx)
 mem:m.mem=wh v.sec.mb (rS m v.ctx)
theorem Xd(m:MsgP)(hm:m.sm)(x:CtxP)(hx:x.fit):(vi m x).length<=4000000:=by
 have h1:=mq m hm
 have h2:=tI x
 obtain⟨k1,k2,k3,k4⟩:=hx
 simp only[vi,aL]
 omega
theorem Xg(m:MsgP)(hm:m.sm)(x:CtxP)(hx:x.fit):(rS m x).length<=4001000:=by
 have h1:=cy (vi m x) m hm
 have h2:=Xd m hm x hx
 exact Nat.le_trans h1 (by omega)
theorem Gk(v:ViewP)(m:MsgP)(lf:Leaf)(seed:cT)(hv:v.sm)(hx:v.ctx.fit)(h:m.of v lf seed)(hl:lf.fit):aG 28 [.ag v.c,.ag m.c,.ag lf.c] (.r (Er 0)):=by
 have hg:=h.sm.group
 have c1:=Rb v m h.group h.epoch (by omega)
 have c2:=XH m h.sm v.ctx hx
 have hs:=Xd m h.sm v.ctx hx
 have ht:=Xg m h.sm v.ctx hx
 have c3:aG 91 [bs lf.sign,vd vW,bs (vi m v.ctx),bs m.sig] (.r (.b true)):=by
  have hp:=hl.2.1
  have:=YD lf.sign vW (vi m v.ctx) m.sig (by omega) (by decide) (by omega)
  have e:rp lf.sign (rH (sB vW) (vi m v.ctx)) m.sig=true:=by
   rw[h.sign,h.sig]
   exact sign_holds _ _
  rw[e]at this
  exact this
 have c4:=gr m h.sm v.ctx hx
 have c5:=su v.sec (rS m v.ctx) (hv.sec.mb) (by omega)
 have c6:=Ns m.mem (by have:=h.sm.mem;omega)
 rw[<-h.mem]at c5
 refine aT Tryz.func28 rfl ?_
 refine cU ?_
 refine cU ?_
 refine ze c1 ?_
 refine cX ?_
 refine cU ?_
 refine cU ?_
 refine ze c2 ?_
 refine zu rfl ?_
 refine ze c3 ?_
 refine cX ?_
 refine cU ?_
 refine cU ?_
 refine ze c4 ?_
 refine aV ?_
 refine cU ?_
 refine ze c5 ?_
 refine ze c6 ?_
 refine cX ?_
 exact cr
abbrev fB(own:Int)(l:Leaf):List RV:=[nl,.i .u64 0,I own,U8 3,U8 0,nl,nl,nl,nl,U8 0,nl,nl,nl,nl,nl,nl,U8 0,nl,nl,I 0,nl,.b true,bs l.box,bs l.sign,bs l.ident,U8 l.src,bs l.parent,bs l.sig,nl,nl,nl,nl]
abbrev Xk(g:cT)(e:RV)(own:Int)(l:Leaf):List RV:=[bs g,e,I own,U8 3,U8 0,nl,nl,nl,nl,U8 0,nl,nl,nl,nl,nl,nl,U8 0,nl,nl,I 0,nl,.b true,bs l.box,bs l.sign,bs l.ident,U8 l.src,bs l.parent,bs l.sig,nl,nl,nl,nl]
abbrev zMsg:List RV:=[nl,.i .u64 0,I 0,U8 0,U8 0,nl,nl,nl,nl,U8 0,nl,nl,nl,nl,nl,nl,U8 0,nl,nl,I 0,nl,.b false,nl,nl,nl,U8 0,nl,nl,nl,nl,nl,nl]
def Oq(v:ViewP)(seed:cT)(o:Nat)(l:Leaf):cT:=oo seed (sB vW) (vi ⟨v.ctx.group,v.ctx.epoch,o,l,[],[],[]⟩ v.ctx)
def JB(v:ViewP)(seed tag:cT)(o:Nat)(l:Leaf):MsgP:=⟨v.ctx.group,v.ctx.epoch,o,l,Oq v seed o l,tag,wh v.sec.mb (rS ⟨v.ctx.group,v.ctx.epoch,o,l,Oq v seed o l,tag,[]⟩ v.ctx)⟩
abbrev vw(x:CtxP)(o:Nat)(it tg:cT)(sc:SecP)(ky:KeyP):ViewP:=⟨x,o,it,tg,sc,ky⟩
theorem Ka(x:CtxP)(it tg:cT)(sc:SecP)(ky:KeyP)(seed:cT)(o:Nat)(hol:o<65536)(hv:(vw x o it tg sc ky).sm)(hx:(vw x o it tg sc ky).ctx.fit)(hg:(vw x o it tg sc ky).ctx.group.length<=64)(hs:seed.length=32)(l:Leaf)(hlr:l.right=true)(hsr:l.src=3)(hpr:l.parent.length=0):
  aG 21 [.ag (vw x o it tg sc ky).c,bs seed,.ag (fB (o:Int) l)] (.r (.tu [.ag (JB (vw x o it tg sc ky) seed z32 o l).c,Er 0])):=by
 have c1:aG 42 [bs (vw x o it tg sc ky).ctx.group] (.r (bs (vw x o it tg sc ky).ctx.group)):=uH (x4 (vw x o it tg sc ky).ctx.group (by omega))
 refine aT Tryz.func21 rfl ?_
 refine Vdraw.code (Vcode.float mixed Tab_ok 15 [⟨0,10,.adr 0 0,[]⟩,⟨1,11,.adr 0 0,[0]⟩,⟨2,12,.r (bs (vw x o it tg sc ky).ctx.group),[1]⟩,⟨4,14,.adr 0 0,[]⟩,⟨5,15,.adr 0 1,[4]⟩,⟨6,16,.r (.i .u64 (vw x o it tg sc ky).ctx.epoch),[5]⟩,⟨7,17,.adr 0 4,[]⟩,⟨8,18,.r (I (o:Int)),[7]⟩,⟨9,19,.adr 1 0,[]⟩,⟨11,20,.adr 1 1,[]⟩,⟨13,21,.adr 1 2,[]⟩] [(3,[2]),(10,[9]),(12,[11,6]),(14,[13,8])] (by kernel_rfl) (F:=[(1,.r (bs seed)),(3,.own 0),(5,.own 1),(6,.own 2)]) (O:=[(0,some (.box ((vw x o it tg sc ky).c.map .r))),(1,some (.box ((fB (o:Int) l).map .r))),(2,some (.box (zMsg.map .r)))]) (nx:=3) (zM [(0,0),(1,1),(2,2)]) ?_)
 refine⟨rfl,⟨λY=>zo _,λY=>zo _,λY=>zo _,λY=>zo _,λY=>zo _,λY=>zo _,λY=>zo _,λY=>zo _,λY=>zo _,λY=>zo _,λY=>zo _,trivial⟩,(13,.r (bs (vw x o it tg sc ky).ctx.group))::[(1,.r (bs seed)),(3,.own 0),(5,.own 1),(6,.own 2)],[(0,some (.box ((vw x o it tg sc ky).c.map .r))),(1,some (.box ((fB (o:Int) l).map .r))),(2,some (.box (zMsg.map .r)))],3,λY=>ze c1 (zo _),?_⟩
 refine⟨rfl,⟨λY=>zo _,λY=>zo _,λY=>zo _,λY=>zo _,λY=>zo _,λY=>zo _,λY=>zo _,λY=>zo _,λY=>zo _,λY=>zo _,λY=>zo _,trivial⟩,(13,.r (bs (vw x o it tg sc ky).ctx.group))::[(1,.r (bs seed)),(3,.own 0),(5,.own 1),(6,.own 2)],(1,some (.box ((Xk (vw x o it tg sc ky).ctx.group (.i .u64 0) (o:Int) l).map .r)))::[(0,some (.box ((vw x o it tg sc ky).c.map .r))),(1,some (.box ((fB (o:Int) l).map .r))),(2,some (.box (zMsg.map .r)))],3,λY=>zo _,?_⟩
 refine⟨rfl,⟨λY=>zo _,λY=>zo _,λY=>zo _,λY=>zo _,λY=>zo _,λY=>zo _,λY=>zo _,λY=>zo _,λY=>zo _,λY=>zo _,λY=>zo _,trivial⟩,(13,.r (bs (vw x o it tg sc ky).ctx.group))::[(1,.r (bs seed)),(3,.own 0),(5,.own 1),(6,.own 2)],(1,some (.box ((Xk (vw x o it tg sc ky).ctx.group (.i .u64 (vw x o it tg sc ky).ctx.epoch) (o:Int) l).map .r)))::(1,some (.box ((Xk (vw x o it tg sc ky).ctx.group (.i .u64 0) (o:Int) l).map .r)))::[(0,some (.box ((vw x o it tg sc ky).c.map .r))),(1,some (.box ((fB (o:Int) l).map .r))),(2,some (.box (zMsg.map .r)))],3,λY=>zo _,?_⟩
 refine⟨rfl,⟨λY=>zo _,λY=>zo _,λY=>zo _,λY=>zo _,λY=>zo _,λY=>zo _,λY=>zo _,λY=>zo _,λY=>zo _,λY=>zo _,λY=>zo _,trivial⟩,(13,.r (bs (vw x o it tg sc ky).ctx.group))::[(1,.r (bs seed)),(3,.own 0),(5,.own 1),(6,.own 2)],(1,some (.box ((Xk (vw x o it tg sc ky).ctx.group (.i .u64 (vw x o it tg sc ky).ctx.epoch) (o:Int) l).map .r)))::(1,some (.box ((Xk (vw x o it tg sc ky).ctx.group (.i .u64 (vw x o it tg sc ky).ctx.epoch) (o:Int) l).map .r)))::(1,some (.box ((Xk (vw x o it tg sc ky).ctx.group (.i .u64 0) (o:Int) l).map .r)))::[(0,some (.box ((vw x o it tg sc ky).c.map .r))),(1,some (.box ((fB (o:Int) l).map .r))),(2,some (.box (zMsg.map .r)))],3,λY=>zo _,?_⟩
 refine⟨rfl,⟨λY=>zo _,λY=>zo _,λY=>zo _,λY=>zo _,λY=>zo _,λY=>zo _,λY=>zo _,λY=>zo _,λY=>zo _,λY=>zo _,λY=>zo _,trivial⟩,?_⟩
 have hm1:MsgP.sm ⟨(vw x o it tg sc ky).ctx.group,(vw x o it tg sc ky).ctx.epoch,o,l,List.replicate 64 0,z32,z32⟩:=⟨hg,hx.epoch,hol,by simp,rfl,rfl,hlr,hsr,hpr⟩
 have hm2:MsgP.sm ⟨(vw x o it tg sc ky).ctx.group,(vw x o it tg sc ky).ctx.epoch,o,l,Oq (vw x o it tg sc ky) seed o l,z32,z32⟩:=⟨hg,hx.epoch,hol,xg _ _ _,rfl,rfl,hlr,hsr,hpr⟩
 have hs1:=Xd _ hm1 (vw x o it tg sc ky).ctx hx
 have ht1:=Xg _ hm2 (vw x o it tg sc ky).ctx hx
 have c2:=XH _ hm1 (vw x o it tg sc ky).ctx hx
 have c3:=sN seed vW (vi ⟨(vw x o it tg sc ky).ctx.group,(vw x o it tg sc ky).ctx.epoch,o,l,List.replicate 64 0,z32,z32⟩ (vw x o it tg sc ky).ctx) hs (by decide) (by omega)
 have c4:=gr _ hm2 (vw x o it tg sc ky).ctx hx
 have c5:=su (vw x o it tg sc ky).sec (rS ⟨(vw x o it tg sc ky).ctx.group,(vw x o it tg sc ky).ctx.epoch,o,l,Oq (vw x o it tg sc ky) seed o l,z32,z32⟩ (vw x o it tg sc ky).ctx) hv.sec.mb (by omega)
 refine aV ?_
 refine⟨rfl,by decide,by decide,by decide,64,_,rfl,rfl,zw ?_⟩
 refine ze qk ?_
 refine zt rfl ?_
 refine cY ?_
 refine ze qk ?_
 refine cU ?_
 refine cU ?_
 refine zB c2 (zk (zf rfl) (zn _)) ?_
 refine cX ?_
 refine ze c3 ?_
 refine cX ?_
 refine cU ?_
 refine cU ?_
 refine zB c4 (zk (zf rfl) (zn _)) ?_
 refine cU ?_
 refine ze c5 ?_
 refine cU ?_
 refine cU ?_
 exact⟨_,rfl,zf rfl⟩
end Go.Proofs.YtkegaaonpekkgaaGreat.Sx
