import Derived.Test.YtkegaaonpekkgaaGreatXqSxY
import Derived.Test.YtkegaaonpekkgaaGreatXqYd
import Derived.Test.YtkegaaonpekkgaaGreatXqFv
import Derived.Test.YtkegaaonpekkgaaGreatXqMe
namespace Go.Proofs.YtkegaaonpekkgaaGreat.Sx
def pN:Nat:=57896044618658097711785492504343953926634992332820282019728792003956564819949
theorem iz(x:UInt64)(n:Nat):(yA x n).toNat=x.toNat/2^n:=by
 unfold yA
 rw[UInt64.toNat_ofNat']
 exact bS (Nat.lt_of_le_of_lt (Nat.div_le_self _ _) x.toNat_lt)
theorem sf(x:UInt64):(yA x 51).toNat=x.toNat/2251799813685248:=iz x 51
theorem Hs(x:UInt64):(yA x 32).toNat=x.toNat/4294967296:=iz x 32
theorem qX(x:UInt64):(x&&&wb).toNat=x.toNat%2251799813685248:=by
 rw[UInt64.toNat_and]
 exact Nat.and_two_pow_sub_one_eq_mod x.toNat 51
theorem Dl(x:UInt64):(x&&&dL).toNat=x.toNat%4294967296:=by
 rw[UInt64.toNat_and]
 exact Nat.and_two_pow_sub_one_eq_mod x.toNat 32
theorem wL(x y:UInt64):(x+y).toNat=(x.toNat+y.toNat)%18446744073709551616:=UInt64.toNat_add x y
theorem fT(x y:UInt64):(x*y).toNat=(x.toNat*y.toNat)%18446744073709551616:=UInt64.toNat_mul x y
theorem WL(x y c:UInt64)(h:c.toNat<=1):(wg x y c).toNat=(x.toNat+y.toNat+c.toNat)/18446744073709551616:=by
 have hx:=x.toNat_lt
 have hy:=y.toNat_lt
 unfold wg
 rw[UInt64.toNat_ofNat']
 omega
def Fe.val(x:Fe):Nat:=x.a.toNat+2251799813685248*(x.b.toNat+2251799813685248*(x.c.toNat+2251799813685248*(x.d.toNat+2251799813685248*x.e.toNat)))
theorem T7(a b c d e:UInt64):Fe.val ⟨a,b,c,d,e⟩=a.toNat+2251799813685248*(b.toNat+2251799813685248*(c.toNat+2251799813685248*(d.toNat+2251799813685248*e.toNat))):=rfl
structure Fe.Sm (x:Fe):Prop where
 a:x.a.toNat<2251799813947392
 b:x.b.toNat<2251799813947392
 c:x.c.toNat<2251799813947392
 d:x.d.toNat<2251799813947392
 e:x.e.toNat<2251799813947392
theorem Ys(x:Fe):x.carry.a.toNat=x.a.toNat%2251799813685248+x.e.toNat/2251799813685248*19/\x.carry.b.toNat=x.b.toNat%2251799813685248+x.a.toNat/2251799813685248/\x.carry.c.toNat=x.c.toNat%2251799813685248+x.b.toNat/2251799813685248/\x.carry.d.toNat=x.d.toNat%2251799813685248+x.c.toNat/2251799813685248/\x.carry.e.toNat=x.e.toNat%2251799813685248+x.d.toNat/2251799813685248:=by
 have ha:=x.a.toNat_lt
 have hb:=x.b.toNat_lt
 have hc:=x.c.toNat_lt
 have hd:=x.d.toNat_lt
 have he:=x.e.toNat_lt
 have h19:(19:UInt64).toNat=19:=rfl
 simp only[Fe.carry,wL,fT,qX,sf,h19]
 refine⟨?_,?_,?_,?_,?_⟩<;>omega
theorem ju(x:Fe):x.carry.Sm:=by
 have ha:=x.a.toNat_lt
 have hb:=x.b.toNat_lt
 have hc:=x.c.toNat_lt
 have hd:=x.d.toNat_lt
 have he:=x.e.toNat_lt
 obtain⟨h1,h2,h3,h4,h5⟩:=Ys x
 refine⟨?_,?_,?_,?_,?_⟩<;>omega
theorem oG(x:Fe):x.carry.val+x.e.toNat/2251799813685248*pN=x.val:=by
 obtain⟨h1,h2,h3,h4,h5⟩:=Ys x
 unfold Fe.val pN
 omega
theorem ri(x y:Fe):(x.add y).Sm:=ju _
theorem ib{a b c:Nat}(h:a+b*pN=c):a%pN=c%pN:=by rw[<-h,Nat.add_mul_mod_self_right]
theorem H4{x y:Fe}(hx:x.Sm)(hy:y.Sm):(x.add y).val%pN=(x.val+y.val)%pN:=by
 have h:=ib (oG ⟨x.a+y.a,x.b+y.b,x.c+y.c,x.d+y.d,x.e+y.e⟩)
 unfold Fe.add
 rw[h]
 congr 1
 obtain⟨a1,a2,a3,a4,a5⟩:=hx
 obtain⟨b1,b2,b3,b4,b5⟩:=hy
 simp only[Fe.val,wL]
 omega
theorem r8(x y:Fe):(x.sub y).Sm:=ju _
theorem ZY(x y:UInt64)(h:y.toNat<=x.toNat):(x-y).toNat=x.toNat-y.toNat:=UInt64.toNat_sub_of_le x y h
theorem F7{x y:Fe}(hx:x.Sm)(hy:y.Sm):((x.sub y).val+y.val)%pN=x.val%pN:=by
 have h:=ib (oG ⟨x.a+(tw0-y.a),x.b+(tw1-y.b),x.c+(tw1-y.c),x.d+(tw1-y.d),x.e+(tw1-y.e)⟩)
 unfold Fe.sub
 rw[Nat.add_mod,h,<-Nat.add_mod]
 obtain⟨a1,a2,a3,a4,a5⟩:=hx
 obtain⟨b1,b2,b3,b4,b5⟩:=hy
 have t0:tw0.toNat=4503599627370458:=rfl
 have t1:tw1.toNat=4503599627370494:=rfl
 have c1:=ZY tw0 y.a (by omega)
 have c2:=ZY tw1 y.b (by omega)
 have c3:=ZY tw1 y.c (by omega)
 have c4:=ZY tw1 y.d (by omega)
 have c5:=ZY tw1 y.e (by omega)
 simp only[Fe.val,wL,c1,c2,c3,c4,c5,t0,t1]
 rw[<-Nat.add_mul_mod_self_right (_+2251799813685248*_) 2 pN]
 refine cR (· %pN) ?_
 unfold pN
 omega
theorem UC(x y:UInt64):(rN x y).toNat*18446744073709551616+(x*y).toNat=x.toNat*y.toNat:=by
 have hx:=x.toNat_lt
 have hy:=y.toNat_lt
 have e1: ∀a b:Nat,a<4294967296->b<4294967296->a*b<=18446744065119617025:=λa b ha hb=>by
  have:=Nat.mul_le_mul (show a<=4294967295 by omega) (show b<=4294967295 by omega)
  omega
 have b1:=e1 (x.toNat/4294967296) (y.toNat%4294967296) (by omega) (by omega)
 have b2:=e1 (x.toNat%4294967296) (y.toNat%4294967296) (by omega) (by omega)
 have b3:=e1 (x.toNat/4294967296) (y.toNat/4294967296) (by omega) (by omega)
 have b4:=e1 (x.toNat%4294967296) (y.toNat/4294967296) (by omega) (by omega)
 have ex:x.toNat*y.toNat=(x.toNat/4294967296)*(y.toNat/4294967296)*18446744073709551616+((x.toNat/4294967296)*(y.toNat%4294967296)+(x.toNat%4294967296)*(y.toNat/4294967296))*4294967296+(x.toNat%4294967296)*(y.toNat%4294967296):=by
  have hx2:x.toNat=x.toNat/4294967296*4294967296+x.toNat%4294967296:=by omega
  have hy2:y.toNat=y.toNat/4294967296*4294967296+y.toNat%4294967296:=by omega
  conv=>lhs;rw[hx2,hy2]
  generalize x.toNat/4294967296=p
  generalize x.toNat%4294967296=q
  generalize y.toNat/4294967296=r
  generalize y.toNat%4294967296=s
  grind
 have m1:(P5 x y).toNat=(x.toNat/4294967296)*(y.toNat%4294967296)+(x.toNat%4294967296)*(y.toNat%4294967296)/4294967296:=by
  simp only[P5,wL,fT,Hs,Dl]
  omega
 simp only[rN,wL,fT,Hs,Dl,m1]
 rw[ex]
 generalize (x.toNat/4294967296)*(y.toNat%4294967296)=A at*
 generalize (x.toNat%4294967296)*(y.toNat%4294967296)=B at*
 generalize (x.toNat/4294967296)*(y.toNat/4294967296)=C at*
 generalize (x.toNat%4294967296)*(y.toNat/4294967296)=D at*
 omega
def Two.val(t:Two):Nat:=t.h.toNat*18446744073709551616+t.l.toNat
theorem mA(t:Two)(a b:UInt64)(h:t.val+a.toNat*b.toNat<340282366920938463463374607431768211456):(t.plus a b).val=t.val+a.toNat*b.toNat:=by
 have m:=UC a b
 have h1:=t.h.toNat_lt
 have h2:=t.l.toNat_lt
 have h3:=(rN a b).toNat_lt
 have h4:=(a*b).toNat_lt
 have z:(0:UInt64).toNat=0:=rfl
 rw[<-m]at h⊢
 simp only[Two.val,Two.plus,PK,PL,wL,WL t.l (a*b) 0 (by decide),z]at h⊢
 clear m z
 generalize (rN a b).toNat=hi at*
 generalize (a*b).toNat=lo at*
 generalize t.h.toNat=H at*
 generalize t.l.toNat=L at*
 have e:H+hi+(L+lo)/18446744073709551616<18446744073709551616:=by omega
 omega
theorem Ar(x y:UInt64)(h:y.toNat<8192)(k:Nat)(hx:x.toNat=8192*k):(x|||y).toNat=x.toNat+y.toNat:=by
 rw[UInt64.toNat_or,hx]
 exact(Nat.two_pow_add_eq_or_of_lt (i:=13) h k).symm
theorem BD(x:UInt64)(h:x.toNat<2251799813685248):(rR x 13).toNat=8192*x.toNat:=by
 unfold rR
 rw[UInt64.toNat_ofNat']
 omega
theorem gk(t:Two)(f:UInt64)(h:t.val<10384593717069655257060992658440192)(hf:f.toNat<1152921504606846976):(eH t f&&&wb).toNat=(t.val+f.toNat)%2251799813685248/\(oJ t f).toNat=(t.val+f.toNat)/2251799813685248:=by
 have z:(0:UInt64).toNat=0:=rfl
 have h1:=t.h.toNat_lt
 have h2:=t.l.toNat_lt
 have l1:(eH t f).toNat=(t.l.toNat+f.toNat)%18446744073709551616:=by
  simp only[eH,wL,z]
  omega
 have c1:=WL t.l f 0 (by decide)
 rw[z]at c1
 have l2:(t.h+wg t.l f 0).toNat=t.h.toNat+(t.l.toNat+f.toNat)/18446744073709551616:=by
  rw[wL,c1]
  unfold Two.val at h
  omega
 unfold Two.val at h⊢
 refine⟨by rw[qX,l1];omega,?_⟩
 unfold oJ
 have s:=BD (t.h+wg t.l f 0) (by rw[l2];omega)
 rw[Ar _ _ (by rw[sf];omega) _ s,s,l2,sf,l1]
 omega
theorem pb{x y:Nat}{B C:Nat}(hx:x<B)(hy:y<C):x*y<=B*C:=Nat.mul_le_mul (by omega) (by omega)
def z2:Two:=⟨0,0⟩
theorem Vy(a1 b1 a2 b2 a3 b3 a4 b4 a5 b5:UInt64)(h1:a1.toNat<2251799813947392)(h2:a2.toNat<2251799813947392)(h3:a3.toNat<2251799813947392)(h4:a4.toNat<2251799813947392)(h5:a5.toNat<2251799813947392){M1 M2 M3 M4 M5:Nat}(k1:b1.toNat<M1)(k2:b2.toNat<M2)(k3:b3.toNat<M3)(k4:b4.toNat<M4)(k5:b5.toNat<M5)(hM:M1<=42784196465000448/\M2<=42784196465000448/\M3<=42784196465000448/\M4<=42784196465000448/\M5<=42784196465000448):
  (((((z2.plus a1 b1).plus a2 b2).plus a3 b3).plus a4 b4).plus a5 b5).val=a1.toNat*b1.toNat+a2.toNat*b2.toNat+a3.toNat*b3.toNat+a4.toNat*b4.toNat+a5.toNat*b5.toNat/\a1.toNat*b1.toNat+a2.toNat*b2.toNat+a3.toNat*b3.toNat+a4.toNat*b4.toNat+a5.toNat*b5.toNat<=2251799813947392*(M1+M2+M3+M4+M5):=by
 have p1:=pb h1 k1
 have p2:=pb h2 k2
 have p3:=pb h3 k3
 have p4:=pb h4 k4
 have p5:=pb h5 k5
 have z:z2.val=0:=rfl
 refine⟨?_,by omega⟩
 have q1:=mA z2 a1 b1 (by rw[z];omega)
 have q2:=mA (z2.plus a1 b1) a2 b2 (by rw[q1,z];omega)
 have q3:=mA ((z2.plus a1 b1).plus a2 b2) a3 b3 (by rw[q2,q1,z];omega)
 have q4:=mA (((z2.plus a1 b1).plus a2 b2).plus a3 b3) a4 b4 (by rw[q3,q2,q1,z];omega)
 have q5:=mA ((((z2.plus a1 b1).plus a2 b2).plus a3 b3).plus a4 b4) a5 b5 (by rw[q4,q3,q2,q1,z];omega)
 rw[q5,q4,q3,q2,q1,z,Nat.zero_add]
theorem Hh(x:UInt64)(h:x.toNat<2251799813947392):(x*19).toNat=x.toNat*19:=by
 have h19:(19:UInt64).toNat=19:=rfl
 rw[fT,h19]
 omega
theorem we(x y:Fe):(x.mul y).Sm:=ju _
theorem Bm(S0 S1 S2 S3 S4 f0 f1 f2 f3 f4:Nat)(h0:f0=S0/2251799813685248)(h1:f1=(S1+f0)/2251799813685248)(h2:f2=(S2+f1)/2251799813685248)(h3:f3=(S3+f2)/2251799813685248)(h4:f4=(S4+f3)/2251799813685248):
  (S0%2251799813685248+f4*19)+2251799813685248*((S1+f0)%2251799813685248+2251799813685248*((S2+f1)%2251799813685248+2251799813685248*((S3+f2)%2251799813685248+2251799813685248*((S4+f3)%2251799813685248))))+f4*pN=S0+2251799813685248*(S1+2251799813685248*(S2+2251799813685248*(S3+2251799813685248*S4))):=by
 unfold pN
 omega
theorem Bo(M p a0 a1 a2 a3 a4 b0 b1 b2 b3 b4:Int)(hM:M*(M*(M*(M*M)))=p+19):
  (a0+M*(a1+M*(a2+M*(a3+M*a4))))*(b0+M*(b1+M*(b2+M*(b3+M*b4))))=
  (a0*b0+a1*(b4*19)+a2*(b3*19)+a3*(b2*19)+a4*(b1*19))+M*((a0*b1+a1*b0+a2*(b4*19)+a3*(b3*19)+a4*(b2*19))+M*((a0*b2+a1*b1+a2*b0+a3*(b4*19)+a4*(b3*19))+M*((a0*b3+a1*b2+a2*b1+a3*b0+a4*(b4*19))+M*(a0*b4+a1*b3+a2*b2+a3*b1+a4*b0))))+
  p*((a1*b4+a2*b3+a3*b2+a4*b1)+M*((a2*b4+a3*b3+a4*b2)+M*((a3*b4+a4*b3)+M*(a4*b4)))):=by
 have:p=M*(M*(M*(M*M)))-19:=by omega
 subst this
 grind
theorem Ea(M p a0 a1 a2 a3 a4 b0 b1 b2 b3 b4:Nat)(hM:M*(M*(M*(M*M)))=p+19):
  (a0+M*(a1+M*(a2+M*(a3+M*a4))))*(b0+M*(b1+M*(b2+M*(b3+M*b4))))=
  (a0*b0+a1*(b4*19)+a2*(b3*19)+a3*(b2*19)+a4*(b1*19))+M*((a0*b1+a1*b0+a2*(b4*19)+a3*(b3*19)+a4*(b2*19))+M*((a0*b2+a1*b1+a2*b0+a3*(b4*19)+a4*(b3*19))+M*((a0*b3+a1*b2+a2*b1+a3*b0+a4*(b4*19))+M*(a0*b4+a1*b3+a2*b2+a3*b1+a4*b0))))+
  p*((a1*b4+a2*b3+a3*b2+a4*b1)+M*((a2*b4+a3*b3+a4*b2)+M*((a3*b4+a4*b3)+M*(a4*b4)))):=by
 have h:=Bo M p a0 a1 a2 a3 a4 b0 b1 b2 b3 b4 (by exact_mod_cast hM)
 exact_mod_cast h
theorem GV{x y:Fe}(hx:x.Sm)(hy:y.Sm):(x.mul y).val%pN=x.val*y.val%pN:=by
 obtain⟨a0,a1,a2,a3,a4⟩:=hx
 obtain⟨b0,b1,b2,b3,b4⟩:=hy
 have n1:=Hh y.b b1
 have n2:=Hh y.c b2
 have n3:=Hh y.d b3
 have n4:=Hh y.e b4
 have c1:(y.b*19).toNat<42784196465000448:=by omega
 have c2:(y.c*19).toNat<42784196465000448:=by omega
 have c3:(y.d*19).toNat<42784196465000448:=by omega
 have c4:(y.e*19).toNat<42784196465000448:=by omega
 obtain⟨s0,l0⟩:=Vy x.a y.a x.b (y.e*19) x.c (y.d*19) x.d (y.c*19) x.e (y.b*19) a0 a1 a2 a3 a4 b0 c4 c3 c2 c1 (by decide)
 obtain⟨s1,l1⟩:=Vy x.a y.b x.b y.a x.c (y.e*19) x.d (y.d*19) x.e (y.c*19) a0 a1 a2 a3 a4 b1 b0 c4 c3 c2 (by decide)
 obtain⟨s2,l2⟩:=Vy x.a y.c x.b y.b x.c y.a x.d (y.e*19) x.e (y.d*19) a0 a1 a2 a3 a4 b2 b1 b0 c4 c3 (by decide)
 obtain⟨s3,l3⟩:=Vy x.a y.d x.b y.c x.c y.b x.d y.a x.e (y.e*19) a0 a1 a2 a3 a4 b3 b2 b1 b0 c4 (by decide)
 obtain⟨s4,l4⟩:=Vy x.a y.e x.b y.d x.c y.c x.d y.b x.e y.a a0 a1 a2 a3 a4 b4 b3 b2 b1 b0 (by decide)
 have cv:=Ea 2251799813685248 pN x.a.toNat x.b.toNat x.c.toNat x.d.toNat x.e.toNat y.a.toNat y.b.toNat y.c.toNat y.d.toNat y.e.toNat (by decide)
 rw[n1,n2,n3,n4]at s0
 rw[n2,n3,n4]at s1
 rw[n3,n4]at s2
 rw[n4]at s3
 rw[n1,n2,n3,n4]at l0
 rw[n2,n3,n4]at l1
 rw[n3,n4]at l2
 rw[n4]at l3
 unfold Fe.mul
 have e0:(me x y).1=((((z2.plus x.a y.a).plus x.b (y.e*19)).plus x.c (y.d*19)).plus x.d (y.c*19)).plus x.e (y.b*19):=rfl
 have e1:(me x y).2.1=((((z2.plus x.a y.b).plus x.b y.a).plus x.c (y.e*19)).plus x.d (y.d*19)).plus x.e (y.c*19):=rfl
 have e2:(me x y).2.2.1=((((z2.plus x.a y.c).plus x.b y.b).plus x.c y.a).plus x.d (y.e*19)).plus x.e (y.d*19):=rfl
 have e3:(me x y).2.2.2.1=((((z2.plus x.a y.d).plus x.b y.c).plus x.c y.b).plus x.d y.a).plus x.e (y.e*19):=rfl
 have e4:(me x y).2.2.2.2=((((z2.plus x.a y.e).plus x.b y.d).plus x.c y.c).plus x.d y.b).plus x.e y.a:=rfl
 rw[<-e0]at s0
 rw[<-e1]at s1
 rw[<-e2]at s2
 rw[<-e3]at s3
 rw[<-e4]at s4
 clear e0 e1 e2 e3 e4
 have xv:x.val*y.val=(x.a.toNat+2251799813685248*(x.b.toNat+2251799813685248*(x.c.toNat+2251799813685248*(x.d.toNat+2251799813685248*x.e.toNat))))*(y.a.toNat+2251799813685248*(y.b.toNat+2251799813685248*(y.c.toNat+2251799813685248*(y.d.toNat+2251799813685248*y.e.toNat)))):=rfl
 rw[xv]
 rw[cv,Nat.mul_comm pN,Nat.add_mul_mod_self_right]
 clear cv xv
 rw[<-s0]at l0⊢
 rw[<-s1]at l1⊢
 rw[<-s2]at l2⊢
 rw[<-s3]at l3⊢
 rw[<-s4]at l4⊢
 clear s0 s1 s2 s3 s4 n1 n2 n3 n4 c1 c2 c3 c4
 dsimp only
 generalize (me x y).1=t0 at*
 generalize (me x y).2.1=t1 at*
 generalize (me x y).2.2.1=t2 at*
 generalize (me x y).2.2.2.1=t3 at*
 generalize (me x y).2.2.2.2=t4 at*
 have z:(0:UInt64).toNat=0:=rfl
 obtain⟨u0,v0⟩:=gk t0 0 (by omega) (by decide)
 have k0:(oJ t0 0).toNat<1152921504606846976:=by omega
 rw[z,Nat.add_zero]at v0 u0
 generalize oJ t0 0=f0 at*
 obtain⟨u1,v1⟩:=gk t1 f0 (by omega) k0
 have k1:(oJ t1 f0).toNat<1152921504606846976:=by omega
 generalize oJ t1 f0=f1 at*
 obtain⟨u2,v2⟩:=gk t2 f1 (by omega) k1
 have k2:(oJ t2 f1).toNat<1152921504606846976:=by omega
 generalize oJ t2 f1=f2 at*
 obtain⟨u3,v3⟩:=gk t3 f2 (by omega) k2
 have k3:(oJ t3 f2).toNat<1152921504606846976:=by omega
 generalize oJ t3 f2=f3 at*
 obtain⟨u4,v4⟩:=gk t4 f3 (by omega) k3
 have k4:(oJ t4 f3).toNat<288230376151711744:=by omega
 generalize oJ t4 f3=f4 at*
 have cc:=Bm t0.val t1.val t2.val t3.val t4.val f0.toNat f1.toNat f2.toNat f3.toNat f4.toNat v0 v1 v2 v3 v4
 rw[ib (oG _),<-cc,Nat.add_mul_mod_self_right]
 clear cc v0 v1 v2 v3 v4
 refine cR (· %pN) ?_
 have h19:(19:UInt64).toNat=19:=rfl
 have w:((eH t0 0&&&wb)+f4*19).toNat=t0.val%2251799813685248+f4.toNat*19:=by
  rw[wL,fT,u0,h19]
  clear u0 u1 u2 u3 u4 l0 l1 l2 l3 l4
  omega
 rw[T7,w,u1,u2,u3,u4]
theorem Sv(a b c d e:Nat)(ha:a<2251799813685267)(hb:b<2251799813685249)(hc:c<2251799813685249)(hd:d<2251799813685249)(he:e<2251799813685249){q0 q1 q2 q3 q a' b' c' d' e':Nat}(h0:q0=(a+19)/2251799813685248)(h1:q1=(b+q0)/2251799813685248)(h2:q2=(c+q1)/2251799813685248)(h3:q3=(d+q2)/2251799813685248)(h4:q=(e+q3)/2251799813685248)
  (ka:a'=a+19*q) (kb:b'=b+a'/2251799813685248) (kc:c'=c+b'/2251799813685248) (kd:d'=d+c'/2251799813685248) (ke:e'=e+d'/2251799813685248):
  a'%2251799813685248+2251799813685248*(b'%2251799813685248+2251799813685248*(c'%2251799813685248+2251799813685248*(d'%2251799813685248+2251799813685248*(e'%2251799813685248))))+q*pN=a+2251799813685248*(b+2251799813685248*(c+2251799813685248*(d+2251799813685248*e)))/\a'%2251799813685248+2251799813685248*(b'%2251799813685248+2251799813685248*(c'%2251799813685248+2251799813685248*(d'%2251799813685248+2251799813685248*(e'%2251799813685248))))<pN/\q<=1:=by
 unfold pN
 have hq:q=0\/q=1:=by omega
 rcases hq with rfl |rfl
 ·refine⟨by omega,by omega,by omega⟩
 ·refine⟨by omega,by omega,by omega⟩
theorem FW(y:Fe):y.carry.carry.a.toNat<2251799813685267/\y.carry.carry.b.toNat<2251799813685249/\y.carry.carry.c.toNat<2251799813685249/\y.carry.carry.d.toNat<2251799813685249/\y.carry.carry.e.toNat<2251799813685249:=by
 obtain⟨a1,a2,a3,a4,a5⟩:=ju y
 obtain⟨h1,h2,h3,h4,h5⟩:=Ys y.carry
 refine⟨?_,?_,?_,?_,?_⟩<;>omega
theorem tl(y:Fe):y.least.val=y.val%pN/\y.least.a.toNat<2251799813685248/\y.least.b.toNat<2251799813685248/\y.least.c.toNat<2251799813685248/\y.least.d.toNat<2251799813685248/\y.least.e.toNat<2251799813685248:=by
 obtain⟨ha,hb,hc,hd,he⟩:=FW y
 have v1:=oG y
 have v2:=oG y.carry
 unfold Fe.least
 generalize y.carry.carry=x at*
 dsimp only
 have h19:(19:UInt64).toNat=19:=rfl
 have e0:(x.a+19).toNat=x.a.toNat+19:=by rw[wL,h19];omega
 have q0:(yA (x.a+19) 51).toNat=(x.a.toNat+19)/2251799813685248:=by rw[sf,e0]
 generalize yA (x.a+19) 51=Q0 at*
 have e1:(x.b+Q0).toNat=x.b.toNat+Q0.toNat:=by rw[wL];omega
 have q1:(yA (x.b+Q0) 51).toNat=(x.b.toNat+Q0.toNat)/2251799813685248:=by rw[sf,e1]
 generalize yA (x.b+Q0) 51=Q1 at*
 have e2:(x.c+Q1).toNat=x.c.toNat+Q1.toNat:=by rw[wL];omega
 have q2:(yA (x.c+Q1) 51).toNat=(x.c.toNat+Q1.toNat)/2251799813685248:=by rw[sf,e2]
 generalize yA (x.c+Q1) 51=Q2 at*
 have e3:(x.d+Q2).toNat=x.d.toNat+Q2.toNat:=by rw[wL];omega
 have q3:(yA (x.d+Q2) 51).toNat=(x.d.toNat+Q2.toNat)/2251799813685248:=by rw[sf,e3]
 generalize yA (x.d+Q2) 51=Q3 at*
 have e4:(x.e+Q3).toNat=x.e.toNat+Q3.toNat:=by rw[wL];omega
 have q4:(yA (x.e+Q3) 51).toNat=(x.e.toNat+Q3.toNat)/2251799813685248:=by rw[sf,e4]
 generalize yA (x.e+Q3) 51=Q at*
 have qb:Q.toNat<=1:=by omega
 have f0:(x.a+19*Q).toNat=x.a.toNat+19*Q.toNat:=by rw[wL,fT,h19];omega
 generalize x.a+19*Q=A at*
 have f1:(x.b+yA A 51).toNat=x.b.toNat+A.toNat/2251799813685248:=by rw[wL,sf];omega
 generalize x.b+yA A 51=B at*
 have f2:(x.c+yA B 51).toNat=x.c.toNat+B.toNat/2251799813685248:=by rw[wL,sf];omega
 generalize x.c+yA B 51=C at*
 have f3:(x.d+yA C 51).toNat=x.d.toNat+C.toNat/2251799813685248:=by rw[wL,sf];omega
 generalize x.d+yA C 51=D at*
 have f4:(x.e+yA D 51).toNat=x.e.toNat+D.toNat/2251799813685248:=by rw[wL,sf];omega
 generalize x.e+yA D 51=E at*
 obtain⟨r1,r2, -⟩:=Sv x.a.toNat x.b.toNat x.c.toNat x.d.toNat x.e.toNat ha hb hc hd he q0 q1 q2 q3 q4 f0 f1 f2 f3 f4
 have lim: ∀z:UInt64,(z&&&wb).toNat<2251799813685248:=λz=>by rw[qX];omega
 refine⟨?_,lim _,lim _,lim _,lim _,lim _⟩
 have xv:x.val=x.a.toNat+2251799813685248*(x.b.toNat+2251799813685248*(x.c.toNat+2251799813685248*(x.d.toNat+2251799813685248*x.e.toNat))):=rfl
 rw[T7,qX,qX,qX,qX,qX]
 rw[<-xv]at r1
 rw[<-v1,Nat.add_mul_mod_self_right,<-v2,Nat.add_mul_mod_self_right,<-r1,Nat.add_mul_mod_self_right]
 exact(bS r2).symm
theorem PG:pN=pC:=by decide+kernel
def Fe.F(x:Fe):Fin pC:=Fin.ofNat pC x.val
theorem of_eq{a b:Nat}(h:a%pN=b%pN):Fin.ofNat pC a=Fin.ofNat pC b:=by
 rw[PG]at h
 exact Fin.ext h
theorem jk{x y:Fe}(hx:x.Sm)(hy:y.Sm):(x.add y).F=x.F+y.F:=(of_eq (H4 hx hy)).trans (mz _ _)
theorem wu{x y:Fe}(hx:x.Sm)(hy:y.Sm):(x.mul y).F=x.F*y.F:=(of_eq (GV hx hy)).trans (tH _ _)
theorem mH{x y:Fe}(hx:x.Sm)(hy:y.Sm):(x.sub y).F=x.F-y.F:=by
 have h:(x.sub y).F+y.F=x.F:=(mz _ _).symm.trans (of_eq (F7 hx hy))
 generalize (x.sub y).F=a at*
 generalize x.F=b at*
 generalize y.F=c at*
 grind
theorem pG(n:UInt64):(xj n).Sm:=by
 have h1:=qX n
 have h2:=sf n
 have h3:=n.toNat_lt
 unfold xj
 exact⟨by simp only;omega,by simp only;omega,by simp,by simp,by simp⟩
theorem my(n:UInt64):(xj n).F=Fin.ofNat pC n.toNat:=by
 have h1:=qX n
 have h2:=sf n
 have h:(xj n).val=n.toNat:=by
  unfold xj
  rw[T7]
  simp only[show(0:UInt64).toNat=0 from rfl]
  omega
 rw[Fe.F,h]
theorem WM:fz.Sm:=⟨by decide,by decide,by decide,by decide,by decide⟩
theorem V0:fz.F=0:=by
 have:fz.val=0:=by decide
 rw[Fe.F,this]
 rfl
theorem gL:one.Sm:=⟨by decide+kernel,by decide+kernel,by decide+kernel,by decide+kernel,by decide+kernel⟩
theorem one_F:one.F=1:=by
 have:one.val=1:=by decide+kernel
 rw[Fe.F,this]
 rfl
def pt(e:cT)(n:Nat):Nat->Nat
 |0=>0
 |j+1=>if tO e (n-1-j)=1 then 2*pt e n j+1 else 2*pt e n j
theorem ZK{x:Fe}(hx:x.Sm)(e:cT)(n:Nat): ∀j,(vK x e n j).Sm/\(vK x e n j).F=Fin.ofNat pC (x.val^pt e n j)
 |0=>by
  rw[Wd]
  exact⟨gL,one_F.trans rfl⟩
 |j+1=>by
  obtain⟨s,h⟩:=ZK hx e n j
  have m1:=we (vK x e n j) (vK x e n j)
  have m2:=wu s s
  rw[h,<-tH,<-Nat.pow_add,<-Nat.two_mul]at m2
  rw[gR,pt]
  split
  ·refine⟨we _ _,?_⟩
   rw[wu m1 hx,m2,Nat.pow_succ,tH]
   rfl
  ·exact⟨m1,m2⟩
theorem fermat{x:Nat}(h:Fin.ofNat pC x≠0):Fin.ofNat pC (x^(pC-1))=1:=by
 have:x%pC≠0:=λe=>h (Fin.ext e)
 have:=genC.fermat this
 exact Fin.ext this
theorem Z8{x:Fe}(hx:x.Sm):x.inv.Sm:=(ZK hx _ _ _).1
theorem GH:pt (v7 235 127) 256 256=pC-2:=by decide+kernel
theorem WQ{x:Fe}(hx:x.Sm)(h:x.F≠0):x.F*x.inv.F=1:=by
 have h1:x.inv.F=Fin.ofNat pC (x.val^(pC-2)):=by
  rw[<-GH]
  exact(ZK hx _ _ _).2
 have h2:=fermat h
 rw[h1,show x.F=Fin.ofNat pC x.val from rfl,<-tH,Nat.mul_comm,<-Nat.pow_succ,show(pC-2).succ=pC-1 by decide+kernel]
 exact h2
abbrev dF:Fin pC:=Fin.ofNat pC dN
theorem Ql:dC.Sm:=by
 unfold dC
 exact we _ _
theorem Eb:dC.F=dF:=by
 have hn:(xj 121666).F≠0:=by
  rw[my]
  exactλe=>absurd (cR Fin.val e) (by decide+kernel)
 have h1:=WQ (pG 121666) hn
 have h2:dC.F=(0-(xj 121665).F)*(xj 121666).inv.F:=by
  rw[show dC=(Fe.sub fz (xj 121665)).mul (xj 121666).inv by unfold dC fz;rfl,wu (r8 _ _) (Z8 (pG _)),mH WM (pG _),V0]
 have h3:(xj 121666).F*dF=0-(xj 121665).F:=by
  rw[my,my]
  decide+kernel
 refine edC.canc hn ?_
 rw[h3,h2]
 generalize (xj 121666).F=a at*
 generalize (xj 121666).inv.F=b at*
 generalize (xj 121665).F=c at*
 grind
theorem Bp:dD.Sm:=by
 unfold dD
 exact ri _ _
theorem Ad:dD.F=dF+dF:=by
 have:dD=dC.add dC:=by unfold dD;rfl
 rw[this,jk Ql Ql,Eb]
structure CurP (p:Pt) (P:EPt dF):Prop where
 sx:p.x.Sm
 sy:p.y.Sm
 sz:p.z.Sm
 st:p.t.Sm
 rep:Rep4 p.x.F p.y.F p.z.F p.t.F P
theorem T0{p q:Pt}{P Q:EPt dF}(r1:CurP p P)(r2:CurP q Q):CurP (p.sum q dD) (P.add edC Q):=by
 refine⟨we _ _,we _ _,we _ _,we _ _,?_⟩
 have ha:=wu (r8 p.y p.x) (r8 q.y q.x)
 rw[mH r1.sy r1.sx,mH r2.sy r2.sx]at ha
 have hb:=wu (ri p.y p.x) (ri q.y q.x)
 rw[jk r1.sy r1.sx,jk r2.sy r2.sx]at hb
 have hc:=wu (we p.t dD) r2.st
 rw[wu r1.st Bp,Ad]at hc
 have he:=wu (ri p.z p.z) r2.sz
 rw[jk r1.sz r1.sz]at he
 have:=Ti edC r1.rep r2.rep ha hb hc he
 simp only[Pt.sum]
 rw[wu (r8 _ _) (r8 _ _),wu (ri _ _) (ri _ _),wu (r8 _ _) (ri _ _),wu (r8 _ _) (ri _ _)]
 rw[mH (we _ _) (we _ _),mH (we _ _) (we _ _),jk (we _ _) (we _ _),jk (we _ _) (we _ _)]
 exact this
theorem DC:(1:Fin pC)≠0:=λx=>absurd (cR Fin.val x) (by decide+kernel)
theorem PC{x y:Fe}(hx:x.Sm)(hy:y.Sm){P:EPt dF}(h1:P.x=x.F)(h2:P.y=y.F):CurP (Pt.of x y) P:=by
 refine⟨hx,hy,gL,we _ _,?_⟩
 show Rep4 x.F y.F one.F (x.mul y).F P
 rw[wu hx hy,one_F]
 exact⟨DC,by rw[h1];grind,by rw[h2];grind,by rw[h1,h2];grind⟩
theorem D7:CurP Pt.nil (.zero dF):=by
 have:Pt.nil=Pt.of fz one:=by unfold Pt.nil fz;rfl
 rw[this]
 exact PC WM gL (by rw[V0];rfl) (by rw[one_F];rfl)
def S4.N(s:S4):Nat:=s.a.toNat+18446744073709551616*(s.b.toNat+18446744073709551616*(s.c.toNat+18446744073709551616*s.d.toNat))
def Yy(s:S4):Nat->Nat
 |0=>0
 |j+1=>if s.bit (252-j)=1 then 2*Yy s j+1 else 2*Yy s j
theorem Mk{p:Pt}{P:EPt dF}(r:CurP p P)(s:S4): ∀j,CurP (wE p s j) (smul edC P (Yy s j))
 |0=>by
  rw[XX]
  exact D7
 |j+1=>by
  have h:=Mk r s j
  have h2:=T0 h h
  rw[<-Jn]at h2
  rw[Yy]
  split
  ·next hb=>
   rw[UD _ _ _ hb]
   exact T0 h2 r
  ·next hb=>
   rw[ZG _ _ _ hb]
   exact h2
theorem av(a b r:Nat)(hr:r<64):(a+18446744073709551616*b)/2^r%2=a/2^r%2:=by
 have h:18446744073709551616=2^r*(2*2^(63-r)):=by
  rw[show(18446744073709551616:Nat)=2^64 by decide,<-Nat.pow_succ',<-Nat.pow_add]
  congr 1
  omega
 rw[h,Nat.mul_assoc,Nat.add_mul_div_left _ _ (Nat.two_pow_pos r),Nat.mul_assoc,Nat.add_mul_mod_self_left]
theorem j3(a b k:Nat)(ha:a<18446744073709551616):(a+18446744073709551616*b)/2^(64+k)=b/2^k:=by
 rw[Nat.pow_add,<-Nat.div_div_eq_div_mul,show(2:Nat)^64=18446744073709551616 by decide,Nat.add_mul_div_left _ _ (by decide),Nat.div_eq_of_lt ha,Nat.zero_add]
theorem Ac(w:UInt64)(r:Nat):yA w r&&&1=1↔w.toNat/2^r%2=1:=by
 rw[<-UInt64.toNat_inj,UInt64.toNat_and,iz,show(1:UInt64).toNat=1 by rfl,Nat.and_one_is_mod]
theorem C9(s:S4)(i:Nat)(hi:i<256):s.bit i=1↔s.N/2^i%2=1:=by
 have ha:=s.a.toNat_lt
 have hb:=s.b.toNat_lt
 have hc:=s.c.toNat_lt
 have h0:i%64<64:=Nat.mod_lt _ (by decide)
 obtain⟨q,hq⟩: ∃q,q=i/64:=⟨_,rfl⟩
 obtain⟨r,hr⟩: ∃r,r=i%64:=⟨_,rfl⟩
 have e:i=64*q+r:=by omega
 have hq4:q<4:=by omega
 have hr6:r<64:=by omega
 unfold S4.bit
 rw[Ac,<-hq,<-hr,e,S4.N]
 rcases(show q=0\/q=1\/q=2\/q=3 by omega)with rfl |rfl |rfl |rfl
 ·rw[Nat.mul_zero,Nat.zero_add,av _ _ _ hr6]
  rfl
 ·rw[cL,j3 _ _ _ ha,av _ _ _ hr6]
  rfl
 ·rw[show 64*2+r=64+(64+r)by omega,j3 _ _ _ ha,j3 _ _ _ hb,av _ _ _ hr6]
  rfl
 ·rw[show 64*3+r=64+(64+(64+r))by omega,j3 _ _ _ ha,j3 _ _ _ hb,j3 _ _ _ hc]
  rfl
theorem SS(s:S4)(hs:s.N<2^253): ∀j,j<=253->Yy s j=s.N/2^(253-j)
 |0,_=>(Nat.div_eq_of_lt hs).symm
 |j+1,hj=>by
  have ih:=SS s hs j (by omega)
  have hb:=C9 s (252-j) (by omega)
  have e:s.N/2^(253-j)=s.N/2^(252-j)/2:=by
   rw[Nat.div_div_eq_div_mul,<-Nat.pow_succ,show(252-j).succ=253-j by omega]
  rw[Yy,ih,e,show 253-(j+1)=252-j by omega]
  split
  ·next h=>have:=hb.1 h;omega
  ·next h=>have: ¬s.N/2^(252-j)%2=1:=λx=>h (hb.2 x);omega
theorem fS{p:Pt}{P:EPt dF}(r:CurP p P)(s:S4)(hs:s.N<lC):CurP (wE p s 253) (smul edC P s.N):=by
 have h:=Mk r s 253
 have hl:lC<2^253:=by decide+kernel
 rw[SS s (by omega) 253 (by omega),show 253-253=0 from rfl,Nat.pow_zero,Nat.div_one]at h
 exact h
theorem JJ(x y c:UInt64):(uk x y c).toNat=if x.toNat<y.toNat+c.toNat then 1 else 0:=by
 unfold uk
 split<;>rfl
theorem Yf(x y c:UInt64)(h:c.toNat<=1):(x+y+c).toNat+18446744073709551616*(wg x y c).toNat=x.toNat+y.toNat+c.toNat:=by
 rw[WL x y c h,wL,wL]
 omega
theorem PX(x y c:UInt64)(h:c.toNat<=1):(x-y-c).toNat+y.toNat+c.toNat=x.toNat+18446744073709551616*(uk x y c).toNat:=by
 have hx:=x.toNat_lt
 have hy:=y.toNat_lt
 rw[JJ,UInt64.toNat_sub,UInt64.toNat_sub]
 split<;>omega
theorem Yr(x y c:UInt64)(h:c.toNat<=1):(wg x y c).toNat<=1:=by
 have hx:=x.toNat_lt
 have hy:=y.toNat_lt
 rw[WL x y c h]
 omega
theorem fF(x y c:UInt64):(uk x y c).toNat<=1:=by
 rw[JJ]
 split<;>omega
theorem u0:(0:UInt64).toNat=0:=rfl
theorem Hu(x y:S4):(x.sum y).N+115792089237316195423570985008687907853269984665640564039457584007913129639936*(x.car y).toNat=x.N+y.N:=by
 obtain⟨xa,xb,xc,xd⟩:=x
 obtain⟨ya,yb,yc,yd⟩:=y
 have h1:=Yf xa ya 0 (by simp)
 have l1:=Yr xa ya 0 (by simp)
 have h2:=Yf xb yb _ l1
 have l2:=Yr xb yb _ l1
 have h3:=Yf xc yc _ l2
 have l3:=Yr xc yc _ l2
 have h4:=Yf xd yd _ l3
 rw[u0]at h1
 simp only[S4.sum,S4.car,S4.N]
 omega
theorem JL(x y:S4):(x.dif y).N+y.N=x.N+115792089237316195423570985008687907853269984665640564039457584007913129639936*(x.bor y).toNat:=by
 obtain⟨xa,xb,xc,xd⟩:=x
 obtain⟨ya,yb,yc,yd⟩:=y
 have h1:=PX xa ya 0 (by simp)
 have l1:=fF xa ya 0
 have h2:=PX xb yb _ l1
 have l2:=fF xb yb (uk xa ya 0)
 have h3:=PX xc yc _ l2
 have l3:=fF xc yc (uk xb yb (uk xa ya 0))
 have h4:=PX xd yd _ l3
 rw[u0]at h1
 simp only[S4.dif,S4.bor,S4.N]
 omega
theorem Lo(x:S4):x.N<115792089237316195423570985008687907853269984665640564039457584007913129639936:=by
 have h1:=x.a.toNat_lt
 have h2:=x.b.toNat_lt
 have h3:=x.c.toNat_lt
 have h4:=x.d.toNat_lt
 unfold S4.N
 omega
theorem Pz:lC<2^253:=by decide+kernel
theorem Uo:0<lC:=by decide+kernel
theorem Mu:ord4.N=lC:=by decide+kernel
theorem FT(x y:S4):(x.bor y).toNat<=1:=fF _ _ _
theorem SI(x y:S4):x.bor y=0↔y.N<=x.N:=by
 have h:=JL x y
 have h1:=Lo x
 have h2:=Lo y
 have h3:=Lo (x.dif y)
 have h4:=FT x y
 rw[<-UInt64.toNat_inj,u0]
 omega
theorem Mr{x:S4}(h:x.N<2*lC):x.once.N=x.N%lC:=by
 have h0:=Pz
 have h1:=SI x ord4
 have h2:=JL x ord4
 rw[Mu]at h1 h2
 unfold S4.once
 split
 ·next e=>
  rw[e,u0]at h2
  have:=h1.1 e
  rw[Nat.mod_eq_sub_mod this,bS (by omega)]
  omega
 ·next e=>
  have:x.N<lC:=by
   refine Nat.lt_of_not_le λc=>e (h1.2 c)
  rw[bS this]
theorem Oz{x y:S4}(hx:x.N<lC)(hy:y.N<lC):(x.sum y).once.N=(x.N+y.N)%lC:=by
 have h0:=Pz
 have h:=Hu x y
 have e:(x.sum y).N=x.N+y.N:=by omega
 rw[Mr (by omega),e]
def uQ:List UInt64->Nat
 |[]=>0
 |w::r=>w.toNat+18446744073709551616*uQ r
theorem RW: ∀(l:List UInt64) (i:Nat),i<64*l.length->(jr l i).toNat=uQ l/2^i%2
 |[],i,h=>absurd h (by simp)
 |w::r,i,h=>by
  have e:(jr (w::r) i).toNat=((w::r).getD (i/64) 0).toNat/2^(i%64)%2:=by
   rw[jr,UInt64.toNat_and,iz,show(1:UInt64).toNat=1 from rfl,Nat.and_one_is_mod]
  rw[e,uQ]
  by_cases hi:i<64
  ·rw[Nat.div_eq_of_lt hi,bS hi,av _ _ _ hi]
   rfl
  ·obtain⟨k,rfl⟩: ∃k,i=64+k:=⟨i-64,by omega⟩
   have ih:=RW r k (by rw[bJ]at h;omega)
   have e2:(jr r k).toNat=(r.getD (k/64) 0).toNat/2^(k%64)%2:=by
    rw[jr,UInt64.toNat_and,iz,show(1:UInt64).toNat=1 from rfl,Nat.and_one_is_mod]
   rw[j3 _ _ _ w.toNat_lt,<-ih,e2,show(64+k)/64=k/64+1 by omega,show(64+k)%64=k%64 by omega]
   rfl
theorem Lj: ∀l:List UInt64,uQ l<2^(64*l.length)
 |[]=>by simp[uQ]
 |w::r=>by
  have:=Lj r
  have hw:=w.toNat_lt
  rw[uQ,bJ,show 64*(r.length+1)=64+64*r.length by omega,Nat.pow_add,show(2:Nat)^64=18446744073709551616 by decide]
  omega
theorem Hl(x:S4)(b:UInt64)(hb:b.toNat<=1):((x.sum x).orb b).N=(x.sum x).N+b.toNat:=by
 have h:(x.a+x.a+0:UInt64).toNat=2^1*(x.a.toNat%9223372036854775808):=by
  have:=x.a.toNat_lt
  rw[wL,wL,u0]
  omega
 have e:((x.a+x.a+0)|||b).toNat=(x.a+x.a+0:UInt64).toNat+b.toNat:=by
  rw[UInt64.toNat_or,h,<-Nat.two_pow_add_eq_or_of_lt (by omega)]
 have e1:((x.sum x).orb b).N=((x.a+x.a+0)|||b).toNat+18446744073709551616*((x.sum x).b.toNat+18446744073709551616*((x.sum x).c.toNat+18446744073709551616*(x.sum x).d.toNat)):=rfl
 have e2:(x.sum x).N=(x.a+x.a+0:UInt64).toNat+18446744073709551616*((x.sum x).b.toNat+18446744073709551616*((x.sum x).c.toNat+18446744073709551616*(x.sum x).d.toNat)):=rfl
 rw[e1,e2,e]
 omega
theorem Hp(ws:List UInt64): ∀j,j<=64*ws.length->(sE ws j).N=uQ ws/2^(64*ws.length-j)%lC
 |0,_=>by
  rw[Wg,Nat.sub_zero,Nat.div_eq_of_lt (Lj ws)]
  exact(Nat.zero_mod _).symm
 |j+1,hj=>by
  have ih:=Hp ws j (by omega)
  have h0:=Pz
  have hl:(sE ws j).N<lC:=by rw[ih];exact Nat.mod_lt _ Uo
  have hb:=RW ws (64*ws.length-1-j) (by omega)
  have hb1:(jr ws (64*ws.length-1-j)).toNat<=1:=by omega
  have hs:=Hu (sE ws j) (sE ws j)
  have hs2:((sE ws j).sum (sE ws j)).N=2*(sE ws j).N:=by omega
  rw[Wf,Mr (by rw[Hl _ _ hb1];omega),Hl _ _ hb1,hs2,hb,ih]
  have e:uQ ws/2^(64*ws.length-j)=uQ ws/2^(64*ws.length-1-j)/2:=by
   rw[Nat.div_div_eq_div_mul,<-Nat.pow_succ,show(64*ws.length-1-j).succ=64*ws.length-j by omega]
  rw[e,show 64*ws.length-(j+1)=64*ws.length-1-j by omega]
  generalize uQ ws/2^(64*ws.length-1-j)=m
  rw[Nat.add_mod,Nat.mul_mod,Nat.mod_mod,<-Nat.mul_mod,<-Nat.add_mod]
  congr 1
  omega
theorem Te(ws:List UInt64):(nQ ws).N=uQ ws%lC:=by
 have:=Hp ws (64*ws.length) (bQ _)
 rw[Nat.sub_self,Nat.pow_zero,Nat.div_one]at this
 exact this
theorem Wh(ws:List UInt64):(nQ ws).N<lC:=by
 rw[Te]
 exact Nat.mod_lt _ Uo
theorem Xl: ∀(l:List UInt64) (j:Nat) (v:UInt64),j<l.length->uQ (l.set j v)+(l.getD j 0).toNat*18446744073709551616^j=uQ l+v.toNat*18446744073709551616^j
 |[],j,v,h=>absurd h (by simp)
 |w::r,0,v,h=>by
  simp only[List.set_cons_zero,uQ,List.getD_cons_zero,Nat.pow_zero,cL]
  omega
 |w::r,j+1,v,h=>by
  have ih:=Xl r j v (by simpa using h)
  simp only[List.set_cons_succ,uQ,List.getD_cons_succ,Nat.pow_succ]
  generalize 18446744073709551616^j=q at*
  generalize uQ (r.set j v)=a at*
  generalize (r.getD j 0).toNat=b at*
  rw[<-Nat.mul_assoc,<-Nat.mul_assoc,Nat.mul_comm (b*q),Nat.mul_comm (v.toNat*q)]
  omega
def qR(l:List UInt64)(k:Nat):Nat:=uQ (l.take k)
theorem gG: ∀(l:List UInt64) (k:Nat),k<l.length->qR l (k+1)=qR l k+(l.getD k 0).toNat*18446744073709551616^k
 |[],k,h=>absurd h (by simp)
 |w::r,0,h=>by simp[qR,uQ]
 |w::r,k+1,h=>by
  have ih:=gG r k (by simpa using h)
  simp only[qR,List.take_succ_cons,uQ,List.getD_cons_succ,Nat.pow_succ]at*
  rw[ih,Nat.mul_add,Nat.add_assoc,<-Nat.mul_assoc (r.getD k 0).toNat,Nat.mul_comm (18446744073709551616) ((r.getD k 0).toNat*_)]
theorem B4(a b v c:UInt64):(mL a b v+c+0).toNat+18446744073709551616*((rN a b+wg (a*b) v 0)+wg (mL a b v) c 0).toNat=a.toNat*b.toNat+v.toNat+c.toNat:=by
 have h0:=UC a b
 have h1:=Yf (a*b) v 0 (by simp)
 have h2:=Yf (mL a b v) c 0 (by simp)
 rw[u0]at h1 h2
 have e:mL a b v=a*b+v+0:=rfl
 rw[<-e]at h1
 have la:=a.toNat_lt
 have lb:=b.toNat_lt
 have lv:=v.toNat_lt
 have lc:=c.toNat_lt
 have hp:a.toNat*b.toNat<=18446744073709551615*18446744073709551615:=Nat.mul_le_mul (by omega) (by omega)
 generalize mL a b v=m at*
 have l1:=m.toNat_lt
 have l2:=(m+c+0).toNat_lt
 generalize a*b=ab at*
 have l3:=ab.toNat_lt
 generalize a.toNat*b.toNat=p at*
 rw[wL (rN a b+wg ab v 0),wL (rN a b)]
 generalize (wg ab v 0).toNat=c1 at*
 generalize (wg m c 0).toNat=c2 at*
 generalize (rN a b).toNat=mh at*
 generalize (m+c+0).toNat=m' at*
 have k1:18446744073709551616*(mh+c1+c2)+m'=p+v.toNat+c.toNat:=by omega
 have k2:mh+c1+c2<18446744073709551616:=by omega
 rw[bS (show mh+c1<18446744073709551616 by omega),bS k2]
 omega
theorem VA(l:List UInt64)(i j:Nat)(v:UInt64)(h:j≠i):(l.set i v).getD j 0=l.getD j 0:=by
 rw[bK,bK,List.getElem?_set_ne (Ne.symm h)]
theorem Mh(a:UInt64)(y:S4)(w:List UInt64)(i:Nat)(hw:w.length=8)(hi:i<4): ∀k,k<=4->
  uQ (uP a y w i k).1+(uP a y w i k).2.toNat*18446744073709551616^(i+k)=uQ w+a.toNat*qR y.l k*18446744073709551616^i/\∀j,i+k<=j->(uP a y w i k).1.getD j 0=w.getD j 0
 |0,_=>by
  rw[dO]
  refine⟨?_,λ_ _=>rfl⟩
  simp[qR,uQ]
 |k+1,hk=>by
  obtain⟨ih,ig⟩:=Mh a y w i hw hi k (by omega)
  have hl:=kS a y w i k
  rw[jV]
  simp only
  generalize (uP a y w i k).1=W at*
  generalize (uP a y w i k).2=C at*
  have hm:=B4 a (y.l.getD k 0) (W.getD (i+k) 0) C
  have hlow:=gG y.l k (by simp;omega)
  generalize y.l.getD k 0=b at*
  have hs:=Xl W (i+k) (mL a b (W.getD (i+k) 0)+C+0) (by omega)
  generalize hv:W.getD (i+k) 0=v at*
  generalize mL a b v+C+0=v' at*
  generalize (rN a b+wg (a*b) v 0)+wg (mL a b v) C 0=C' at*
  refine⟨?_,λj hj=>?_⟩
  ·rw[hlow,show i+(k+1)=(i+k)+1 by omega,Nat.pow_succ]
   rw[Nat.pow_add]at*
   generalize uQ (W.set (i+k) v')=w2 at*
   generalize uQ W=w1 at*
   generalize uQ w=w0 at*
   generalize (18446744073709551616:Nat)^i=p at*
   generalize (18446744073709551616:Nat)^k=q at*
   generalize qR y.l k=lo at*
   generalize a.toNat=A at*
   generalize b.toNat=B at*
   generalize v.toNat=V at*
   generalize v'.toNat=V' at*
   generalize C.toNat=c at*
   generalize C'.toNat=c' at*
   have hm2:(V'+18446744073709551616*c')*(p*q)=(A*B+V+c)*(p*q):=by rw[hm]
   grind
  ·rw[VA _ _ _ _ (by omega),ig j (by omega)]
theorem Ru(x y:S4): ∀i,i<=4->uQ (uz x y i)=qR x.l i*qR y.l 4/\∀j,i+4<=j->(uz x y i).getD j 0=0
 |0,_=>by
  rw[XV]
  refine⟨by simp[qR,uQ,List.replicate],λj hj=>?_⟩
  rw[bK,List.getElem?_replicate]
  split<;>rfl
 |i+1,hi=>by
  obtain⟨ih,ig⟩:=Ru x y i (by omega)
  have hl:=mv x y i
  have hlow:=gG x.l i (by simp;omega)
  rw[gJ]
  generalize x.l.getD i 0=a at*
  generalize uz x y i=w at*
  obtain⟨h1,h2⟩:=Mh a y w i hl (by omega) 4 (by omega)
  have hl2:=kS a y w i 4
  generalize (uP a y w i 4).1=W at*
  generalize (uP a y w i 4).2=C at*
  have hs:=Xl W (i+4) C (by omega)
  rw[h2 (i+4) (by omega),ig (i+4) (by omega),u0,Nat.zero_mul,Nat.add_zero]at hs
  refine⟨?_,λj hj=>?_⟩
  ·rw[hs,h1,ih,hlow]
   generalize (18446744073709551616:Nat)^i=p
   generalize qR y.l 4=Y
   generalize qR x.l i=X
   generalize a.toNat=A
   grind
  ·rw[VA _ _ _ _ (by omega),h2 j (by omega),ig j (by omega)]
theorem Hf(x:S4):qR x.l 4=x.N:=by
 simp only[qR,S4.l,List.take_succ_cons,List.take_zero,uQ,S4.N]
 omega
theorem CH(x y:S4):(x.mul y).N=x.N*y.N%lC:=by
 have h:=(Ru x y 4 (by omega)).1
 rw[Hf,Hf]at h
 rw[<-h]
 exact Te _
theorem Fu(x y:S4):(x.mul y).N<lC:=Wh _
theorem Xc(b:cT):(lV b).N<lC:=Wh _
end Go.Proofs.YtkegaaonpekkgaaGreat.Sx
