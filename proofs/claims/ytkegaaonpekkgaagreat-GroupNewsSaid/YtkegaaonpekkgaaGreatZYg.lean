import Derived.Test.YtkegaaonpekkgaaGreatZYa
import Derived.Test.YtkegaaonpekkgaaGreatZSxY
namespace Go.Proofs.YtkegaaonpekkgaaGreat.Sx
structure Fld (n:Nat) [NeZero n]:Prop where
 dom: ∀a b:Fin n,a*b=0->a=0\/b=0
 inv: ∀a:Fin n,a≠0->∃b,a*b=1
 two:(2:Fin n)≠0
structure EdC (n:Nat) [NeZero n] (d i:Fin n):Prop extends Fld n where
 ii:i*i= -1
 ns: ∀s t:Fin n,s*s=d*(t*t)->t=0
section
variable {n:Nat} [NeZero n]
theorem Fld.canc(h:Fld n){a b c:Fin n}(ha:a≠0)(e:a*b=a*c):b=c:=by
 rcases h.dom a (b-c) (by grind)with x |x
 ·exact absurd x ha
 ·grind
theorem Fld.mul_ne(h:Fld n){a b:Fin n}(ha:a≠0)(hb:b≠0):a*b≠0:=λe=>by
 rcases h.dom a b e with x |x
 ·exact ha x
 ·exact hb x
theorem Fld.sq(h:Fld n){a:Fin n}(e:a*a=0):a=0:=by
 rcases h.dom a a e with x |x<;>exact x
def On(d x y:Fin n):Prop:=y*y=1+x*x+d*(x*x)*(y*y)
theorem den{d i:Fin n}(h:EdC n d i){x1 y1 x2 y2 e:Fin n}(h1:On d x1 y1)(h2:On d x2 y2)(he:e*e=1)(hd:d*x1*x2*y1*y2=e):False:=by
 unfold On at h1 h2
 have a1:(i*x1+e*y1)*(i*x1+e*y1)=d*((x1*y1*(i*x2+y2))*(x1*y1*(i*x2+y2))):=by
  have:=h.ii
  grind
 have a2:(i*x1-e*y1)*(i*x1-e*y1)=d*((x1*y1*(i*x2-y2))*(x1*y1*(i*x2-y2))):=by
  have:=h.ii
  grind
 have e0:(0:Fin n)≠1:=λx=>h.two (by grind)
 have b1:=h.ns _ _ a1
 have b2:=h.ns _ _ a2
 have c:2*(x1*y1*y2)=0:=by clear a1 a2 e0 hd he h1 h2;grind
 rcases h.dom _ _ c with c |c
 ·exact h.two c
 ·have:e=0:=by clear a1 a2 e0 h1 h2 b1 b2 he;grind
  clear a1 a2 h1 h2 b1 b2 hd;grind
structure EPt (d:Fin n)where
 x:Fin n
 y:Fin n
 on:On d x y
theorem EPt.ext{d:Fin n}{p q:EPt d}(h1:p.x=q.x)(h2:p.y=q.y):p=q:=by
 cases p;cases q;cases h1;cases h2;rfl
theorem den1{d i:Fin n}(h:EdC n d i)(p q:EPt d):1+d*p.x*q.x*p.y*q.y≠0:=λe=>den h p.on q.on (e:= -1) (by grind) (by grind)
theorem den2{d i:Fin n}(h:EdC n d i)(p q:EPt d):1-d*p.x*q.x*p.y*q.y≠0:=λe=>den h p.on q.on (e:=1) (by grind) (by grind)
theorem zzv{d i:Fin n}(h:EdC n d i)(p q:EPt d): ∃r:EPt d,r.x*(1+d*p.x*q.x*p.y*q.y)=p.x*q.y+q.x*p.y/\r.y*(1-d*p.x*q.x*p.y*q.y)=p.y*q.y+p.x*q.x:=by
 have n1:=den1 h p q
 have n2:=den2 h p q
 obtain⟨a,ha⟩:=h.inv _ n1
 obtain⟨b,hb⟩:=h.inv _ n2
 have hp:=p.on
 have hq:=q.on
 unfold On at hp hq
 refine⟨⟨(p.x*q.y+q.x*p.y)*a,(p.y*q.y+p.x*q.x)*b,?_⟩,by grind,by grind⟩
 unfold On
 have cl:(p.y*q.y+p.x*q.x)^2*(1+d*p.x*q.x*p.y*q.y)^2-(p.x*q.y+q.x*p.y)^2*(1-d*p.x*q.x*p.y*q.y)^2=(1+d*p.x*q.x*p.y*q.y)^2*(1-d*p.x*q.x*p.y*q.y)^2+d*(p.x*q.y+q.x*p.y)^2*(p.y*q.y+p.x*q.x)^2:=by
  generalize p.x=x1 at*
  generalize p.y=y1 at*
  generalize q.x=x2 at*
  generalize q.y=y2 at*
  clear ha hb n1 n2
  grind
 generalize p.y*q.y+p.x*q.x=u at*
 generalize p.x*q.y+q.x*p.y=v at*
 generalize d*p.x*q.x*p.y*q.y=m at*
 have:(u*b)*(u*b)-(v*a)*(v*a)=1+d*((v*a)*(v*a))*((u*b)*(u*b)):=by
  have e1:(u^2*(1+m)^2-v^2*(1-m)^2)*(a*a*b*b)=((1+m)^2*(1-m)^2+d*v^2*u^2)*(a*a*b*b):=by rw[cl]
  have e2:u^2*(1+m)^2*(a*a*b*b)=(u*b)*(u*b)*(((1+m)*a)*((1+m)*a)):=by grind
  have e3:v^2*(1-m)^2*(a*a*b*b)=(v*a)*(v*a)*(((1-m)*b)*((1-m)*b)):=by grind
  have e4:(1+m)^2*(1-m)^2*(a*a*b*b)=(((1+m)*a)*((1+m)*a))*(((1-m)*b)*((1-m)*b)):=by grind
  rw[ha]at e2 e4
  rw[hb]at e3 e4
  grind
 grind
noncomputable def EPt.add {d i:Fin n}(h:EdC n d i)(p q:EPt d):EPt d:=(zzv h p q).choose
theorem zle{d i:Fin n}(h:EdC n d i)(p q:EPt d):(p.add h q).x*(1+d*p.x*q.x*p.y*q.y)=p.x*q.y+q.x*p.y:=(zzv h p q).choose_spec.1
theorem zlf{d i:Fin n}(h:EdC n d i)(p q:EPt d):(p.add h q).y*(1-d*p.x*q.x*p.y*q.y)=p.y*q.y+p.x*q.x:=(zzv h p q).choose_spec.2
theorem z6r{d i:Fin n}(h:EdC n d i){p q r:EPt d}(h1:r.x*(1+d*p.x*q.x*p.y*q.y)=p.x*q.y+q.x*p.y)(h2:r.y*(1-d*p.x*q.x*p.y*q.y)=p.y*q.y+p.x*q.x):p.add h q=r:=by
 have n1:=den1 h p q
 have n2:=den2 h p q
 have a:=zle h p q
 have b:=zlf h p q
 refine EPt.ext (h.canc n1 ?_) (h.canc n2 ?_)
 ·exact(Fin.mul_comm _ _).trans ((a.trans h1.symm).trans (Fin.mul_comm _ _))
 ·exact(Fin.mul_comm _ _).trans ((b.trans h2.symm).trans (Fin.mul_comm _ _))
theorem add_comm{d i:Fin n}(h:EdC n d i)(p q:EPt d):p.add h q=q.add h p:=by
 refine z6r h ?_ ?_
 ·have:=zle h q p
  grind
 ·have:=zlf h q p
  grind
def EPt.zero(d:Fin n):EPt d:=⟨0,1,by unfold On;grind⟩
theorem add_zero{d i:Fin n}(h:EdC n d i)(p:EPt d):p.add h (.zero d)=p:=by
 refine z6r h ?_ ?_<;>simp only[EPt.zero]<;>grind
theorem asx(d x1 y1 x2 y2 x3 y3:Fin n)(h1:On d x1 y1)(h2:On d x2 y2)(h3:On d x3 y3):
 ((x1*y2+x2*y1)*(1-d*x1*x2*y1*y2)*y3+x3*(y1*y2+x1*x2)*(1+d*x1*x2*y1*y2))*((1+d*x2*x3*y2*y3)*(1-d*x2*x3*y2*y3)+d*x1*y1*(x2*y3+x3*y2)*(y2*y3+x2*x3))
 =(x1*(y2*y3+x2*x3)*(1+d*x2*x3*y2*y3)+(x2*y3+x3*y2)*(1-d*x2*x3*y2*y3)*y1)*((1+d*x1*x2*y1*y2)*(1-d*x1*x2*y1*y2)+d*x3*y3*(x1*y2+x2*y1)*(y1*y2+x1*x2)):=by
 unfold On at h1 h2 h3
 grind
theorem asy(d x1 y1 x2 y2 x3 y3:Fin n)(h1:On d x1 y1)(h2:On d x2 y2)(h3:On d x3 y3):
 ((y1*y2+x1*x2)*(1+d*x1*x2*y1*y2)*y3+(x1*y2+x2*y1)*(1-d*x1*x2*y1*y2)*x3)*((1+d*x2*x3*y2*y3)*(1-d*x2*x3*y2*y3)-d*x1*y1*(x2*y3+x3*y2)*(y2*y3+x2*x3))
 =(y1*(y2*y3+x2*x3)*(1+d*x2*x3*y2*y3)+x1*(x2*y3+x3*y2)*(1-d*x2*x3*y2*y3))*((1+d*x1*x2*y1*y2)*(1-d*x1*x2*y1*y2)-d*x3*y3*(x1*y2+x2*y1)*(y1*y2+x1*x2)):=by
 unfold On at h1 h2 h3
 grind
theorem add_assoc{d i:Fin n}(h:EdC n d i)(p q r:EPt d):(p.add h q).add h r=p.add h (q.add h r):=by
 have nn: ∀p q:EPt d,1+d*p.x*q.x*p.y*q.y≠0/\1-d*p.x*q.x*p.y*q.y≠0:=λp q=>⟨den1 h p q,den2 h p q⟩
 have A:=asx d p.x p.y q.x q.y r.x r.y p.on q.on r.on
 have B:=asy d p.x p.y q.x q.y r.x r.y p.on q.on r.on
 obtain⟨m1,m2⟩:=nn p q
 obtain⟨m3,m4⟩:=nn q r
 obtain⟨m5,m6⟩:=nn (p.add h q) r
 obtain⟨m7,m8⟩:=nn p (q.add h r)
 have a1:=zle h p q
 have a2:=zlf h p q
 have a3:=zle h q r
 have a4:=zlf h q r
 have a5:=zle h (p.add h q) r
 have a6:=zlf h (p.add h q) r
 have a7:=zle h p (q.add h r)
 have a8:=zlf h p (q.add h r)
 rw[<-a1,<-a2,<-a3,<-a4]at A B
 generalize (p.add h q).add h r=s at*
 generalize p.add h (q.add h r)=t at*
 generalize p.add h q=u at*
 generalize q.add h r=v at*
 clear a1 a2 a3 a4
 generalize 1+d*p.x*q.x*p.y*q.y=D1 at*
 generalize 1-d*p.x*q.x*p.y*q.y=D2 at*
 generalize 1+d*q.x*r.x*q.y*r.y=D3 at*
 generalize 1-d*q.x*r.x*q.y*r.y=D4 at*
 have A':(u.x*r.y+r.x*u.y)*(1+d*p.x*v.x*p.y*v.y)*(D1*D2*(D3*D4))=(p.x*v.y+v.x*p.y)*(1+d*u.x*r.x*u.y*r.y)*(D1*D2*(D3*D4)):=by
  clear a5 a6 a7 a8 B
  grind
 have B':(u.y*r.y+u.x*r.x)*(1-d*p.x*v.x*p.y*v.y)*(D1*D2*(D3*D4))=(p.y*v.y+p.x*v.x)*(1-d*u.x*r.x*u.y*r.y)*(D1*D2*(D3*D4)):=by
  clear a5 a6 a7 a8 A
  grind
 have nD:D1*D2*(D3*D4)≠0:=h.mul_ne (h.mul_ne m1 m2) (h.mul_ne m3 m4)
 clear A B
 generalize D1*D2*(D3*D4)=D at*
 rw[<-a5,<-a7]at A'
 rw[<-a6,<-a8]at B'
 generalize 1+d*p.x*v.x*p.y*v.y=E1 at*
 generalize 1-d*p.x*v.x*p.y*v.y=E2 at*
 generalize 1+d*u.x*r.x*u.y*r.y=E3 at*
 generalize 1-d*u.x*r.x*u.y*r.y=E4 at*
 refine EPt.ext (h.canc (h.mul_ne nD (h.mul_ne m5 m7)) (by grind)) (h.canc (h.mul_ne nD (h.mul_ne m6 m8)) (by grind))
noncomputable def smul {d i:Fin n}(h:EdC n d i)(p:EPt d):Nat->EPt d
 |0=> .zero d
 |k+1=>(smul h p k).add h p
theorem ze0{d i:Fin n}(h:EdC n d i)(p:EPt d)(a:Nat): ∀b,smul h p (a+b)=(smul h p a).add h (smul h p b)
 |0=>(add_zero h _).symm
 |b+1=>by
  show(smul h p (a+b)).add h p=_
  rw[ze0 h p a b,add_assoc]
  rfl
theorem zva{d i:Fin n}(h:EdC n d i): ∀k,smul h (.zero d) k= .zero d
 |0=>rfl
 |k+1=>by rw[smul,zva h k,add_zero]
theorem zqv{d i:Fin n}(h:EdC n d i)(p:EPt d)(a:Nat): ∀b,smul h p (a*b)=smul h (smul h p a) b
 |0=>rfl
 |b+1=>by rw[Nat.mul_succ,ze0,zqv h p a b];rfl
theorem zdwb{d i:Fin n}(h:EdC n d i)(p:EPt d)(a:Nat):smul h p (2*a)=(smul h p a).add h (smul h p a):=by
 rw[Nat.two_mul,ze0]
end
structure Gen (n g:Nat):Prop where
 lt:1<n
 one:g^(n-1)%n=1
 all: ∀x,x%n≠0->∃k,g^k%n=x%n
theorem zf3b{n:Nat}(g f:Nat)(l:List Nat)(hf:n<2^f)(hl: ∀q∈l,Prm q)(h:chk n g f l=true):Gen n g:=by
 simp only[chk,Bool.and_eq_true,Nat.ble_eq,List.all_eq_true,Bool.not_eq_true']at h
 obtain⟨⟨⟨a,b⟩,c⟩,d⟩:=h
 have b:=Nat.eq_of_beq_eq_true b
 have c:=Nat.eq_of_beq_eq_true c
 rw[ziq g n f _ (by omega)]at c
 refine⟨by omega,c,zxe n g l (by omega) hl b c λq hq e=>?_⟩
 have d:=d q hq
 rw[ziq g n f _ (by have:=Nat.div_le_self (n-1) q;omega),e]at d
 exact absurd d (by decide)
theorem Gen.fermat{n g:Nat}(h:Gen n g){x:Nat}(hx:x%n≠0):x^(n-1)%n=1:=by
 obtain⟨k,hk⟩:=h.all x hx
 rw[Nat.pow_mod,<-hk,<-Nat.pow_mod,<-Nat.pow_mul,Nat.mul_comm,zfk (by rw[h.one,Nat.mod_eq_of_lt h.lt]),Nat.mod_eq_of_lt h.lt]
theorem Gen.dom{n g:Nat}(h:Gen n g){a b:Nat}(e:a*b%n=0):a%n=0\/b%n=0:=by
 by_cases ha:a%n=0
 ·exact .inl ha
 by_cases hb:b%n=0
 ·exact .inr hb
 exfalso
 have e1:=h.fermat ha
 have e2:=h.fermat hb
 have e3:(a*b)^(n-1)%n=0:=by
  rw[Nat.pow_mod,e,Nat.zero_pow (by have:=h.lt;omega)]
  exact Nat.zero_mod n
 rw[Nat.mul_pow,Nat.mul_mod,e1,e2,Nat.mod_eq_of_lt (by have:=h.lt;omega)]at e3
 omega
theorem Gen.ns{n g:Nat}(h:Gen n g){d s t:Nat}(h2:(n-1)/2*2=n-1)(hd:d^((n-1)/2)%n=n-1)(hn:2<n)(e:s*s%n=d*(t*t)%n):t%n=0:=by
 refine Decidable.byContradiction λht=>?_
 have d0:d%n≠0:=by
  intro x
  rw[Nat.pow_mod,x,Nat.zero_pow (by omega),Nat.zero_mod]at hd
  omega
 have e1:(s*s)^((n-1)/2)%n=(d*(t*t))^((n-1)/2)%n:=by rw[Nat.pow_mod,e,<-Nat.pow_mod]
 rw[Nat.mul_pow d,<-Nat.pow_two,<-Nat.pow_two,<-Nat.pow_mul,<-Nat.pow_mul,Nat.mul_comm 2,h2,Nat.mul_mod,hd,h.fermat ht,Nat.mul_one,Nat.mod_eq_of_lt (show n-1<n by omega)]at e1
 by_cases hs:s%n=0
 ·rw[Nat.pow_mod,hs,Nat.zero_pow (by omega),Nat.zero_mod]at e1
  omega
 ·rw[h.fermat hs]at e1
  omega
section
variable {n:Nat} [NeZero n]
theorem fin0{a:Fin n}:a=0↔a.val=0:=by
 constructor
 ·rintro rfl;rfl
 ·intro h;exact Fin.ext (by rw[h];rfl)
theorem Gen.fld{g:Nat}(h:Gen n g)(hn:2<n):Fld n:=by
 have ml: ∀a:Fin n,a.val%n=a.val:=λa=>Nat.mod_eq_of_lt a.isLt
 refine⟨λa b e=>?_,λa ha=>?_,λe=>?_⟩
 ·have e:(a*b).val=0:=fin0.1 e
  rw[Fin.val_mul]at e
  rcases h.dom e with x |x<;>rw[ml]at x
  ·exact .inl (fin0.2 x)
  ·exact .inr (fin0.2 x)
 ·have e:=h.fermat (x:=a.val) (by rw[ml];exactλx=>ha (fin0.2 x))
  refine⟨Fin.ofNat n (a.val^(n-2)),Fin.ext ?_⟩
  rw[Fin.val_mul]
  show a.val*(a.val^(n-2)%n)%n=1%n
  rw[Nat.mul_mod_mod,Nat.mul_comm,<-Nat.pow_succ,show(n-2).succ=n-1 by omega,e,Nat.mod_eq_of_lt (by omega)]
 ·have e:(2:Fin n).val=0:=fin0.1 e
  have:(2:Fin n).val=2%n:=rfl
  rw[this,Nat.mod_eq_of_lt hn]at e
  omega
theorem Gen.edc{g:Nat}(h:Gen n g)(hn:2<n)(h2:(n-1)/2*2=n-1)(d i:Nat)(hd:d^((n-1)/2)%n=n-1)(hi:i*i%n=n-1):EdC n (Fin.ofNat n d) (Fin.ofNat n i):=by
 refine⟨h.fld hn,Fin.ext ?_,λs t e=>?_⟩
 ·have e1:(-1:Fin n).val=(n-1%n)%n:=rfl
  rw[e1,Fin.val_mul]
  show(i%n)*(i%n)%n=_
  rw[<-Nat.mul_mod,hi,Nat.mod_eq_of_lt (show 1<n by omega),Nat.mod_eq_of_lt (by omega)]
 ·have e:=congrArg Fin.val e
  rw[Fin.val_mul,Fin.val_mul,Fin.val_mul]at e
  have e:s.val*s.val%n=(d%n)*(t.val*t.val%n)%n:=e
  rw[<-Nat.mul_mod]at e
  have:=h.ns h2 hd hn e
  rw[Nat.mod_eq_of_lt t.isLt]at this
  exact fin0.2 this
end
def pC:Nat:=57896044618658097711785492504343953926634992332820282019728792003956564819949
instance :NeZero pC:=⟨by decide+kernel⟩
def dN:Nat:=37095705934669439343138083508754565189542113879843219016388785533085940283555
def iC:Nat:=19681161376707505956807079304988542015446066515923890162744021073123829784752
theorem genC:Gen pC 2:=zf3b 2 255 [2,2,3,65147,74058212732561358302231226437062788676166966415465897661863160754340907] (by decide+kernel) (all_cons prm2 (all_cons prm2 (all_cons za9 (all_cons znob (all_cons zmbb (all_nil)))))) (by decide+kernel)
theorem z91(n f d e r:Nat)(h:e<2^f)(hr:pmod d n f e=r):d^e%n=r:=by rw[<-ziq d n f e h,hr]
theorem edC:EdC pC (Fin.ofNat pC dN) (Fin.ofNat pC iC):=genC.edc (by decide+kernel) (by decide+kernel) dN iC (z91 _ 255 _ _ _ (by decide+kernel) (by decide+kernel)) (by decide+kernel)
section
variable {n:Nat} [NeZero n]
structure Rep4 {d:Fin n} (x y z t:Fin n) (p:EPt d):Prop where
 ne:z≠0
 hx:x=p.x*z
 hy:y=p.y*z
 ht:t=p.x*p.y*z
theorem zzg{d i:Fin n}(h:EdC n d i){p q:EPt d}{x1 y1 z1 t1 x2 y2 z2 t2:Fin n}(r1:Rep4 x1 y1 z1 t1 p)(r2:Rep4 x2 y2 z2 t2 q){a b c e:Fin n}(ha:a=(y1-x1)*(y2-x2))(hb:b=(y1+x1)*(y2+x2))(hc:c=t1*(d+d)*t2)(he:e=(z1+z1)*z2):
  Rep4 ((b-a)*(e-c)) ((e+c)*(b+a)) ((e-c)*(e+c)) ((b-a)*(b+a)) (p.add h q):=by
 have ax:=zle h p q
 have ay:=zlf h p q
 have n1:=den1 h p q
 have n2:=den2 h p q
 generalize p.add h q=s at*
 obtain⟨ne1,rfl,rfl,rfl⟩:=r1
 obtain⟨ne2,rfl,rfl,rfl⟩:=r2
 have zz:(2:Fin n)*(z1*z2)≠0:=h.mul_ne h.two (h.mul_ne ne1 ne2)
 have f1:b-a=2*(z1*z2)*(p.x*q.y+q.x*p.y):=by rw[ha,hb];clear ax ay n1 n2 zz;grind
 have i1:b+a=2*(z1*z2)*(p.y*q.y+p.x*q.x):=by rw[ha,hb];clear ax ay n1 n2 zz;grind
 have g1:e-c=2*(z1*z2)*(1-d*p.x*q.x*p.y*q.y):=by rw[he,hc];clear ax ay n1 n2 zz f1 i1 ha hb;grind
 have h1:e+c=2*(z1*z2)*(1+d*p.x*q.x*p.y*q.y):=by rw[he,hc];clear ax ay n1 n2 zz f1 i1 ha hb;grind
 rw[f1,i1,g1,h1,<-ax,<-ay]
 generalize d*p.x*q.x*p.y*q.y=m at*
 generalize 2*(z1*z2)=w at*
 clear f1 i1 g1 h1 ha hb hc he ax ay
 refine⟨h.mul_ne (h.mul_ne zz n2) (h.mul_ne zz n1),?_,?_,?_⟩<;>clear n1 n2 zz<;>grind
theorem zu5(d:Fin n)(h1:(1:Fin n)≠0):Rep4 0 1 1 0 (EPt.zero d):=⟨h1,by simp only[EPt.zero];grind,by simp only[EPt.zero];grind,by simp only[EPt.zero];grind⟩
theorem zhtb{d i:Fin n}(h:EdC n d i){p:EPt d}{x y z t:Fin n}(r:Rep4 x y z t p)(hx:x=0)(hy:y=z):p= .zero d:=by
 refine EPt.ext ?_ ?_
 ·have:=r.hx
  rw[hx]at this
  rcases h.dom _ _ this.symm with c |c
  ·exact c
  ·exact absurd c r.ne
 ·refine h.canc r.ne ?_
  have:=r.hy
  rw[hy]at this
  simp only[EPt.zero]
  clear hx hy
  grind
structure Q4 where
 x:Nat
 y:Nat
 z:Nat
 t:Nat
def Q4.k(q:Q4){α:Type}(f:Nat->Nat->Nat->Nat->α):α:=f q.x q.y q.z q.t
def qadd(m dd x1 y1 z1 t1 x2 y2 z2 t2:Nat):Q4:=
 let a:=(y1+(m-x1))*(y2+(m-x2))%m
 let b:=(y1+x1)*(y2+x2)%m
 let c:=t1*dd%m*t2%m
 let e:=(z1+z1)*z2%m
 let f:=b+(m-a)
 let g:=e+(m-c)
 let h:=e+c
 let i:=b+a
 ⟨f*g%m,h*i%m,g*h%m,f*i%m⟩
structure QR {d:Fin n} (q:Q4) (p:EPt d):Prop where
 rep:Rep4 (Fin.ofNat n q.x) (Fin.ofNat n q.y) (Fin.ofNat n q.z) (Fin.ofNat n q.t) p
 lx:q.x<n
 ly:q.y<n
 lz:q.z<n
 lt:q.t<n
theorem zje(a b:Nat):Fin.ofNat n (a+b)=Fin.ofNat n a+Fin.ofNat n b:=by
 apply Fin.ext
 rw[Fin.val_add]
 show(a+b)%n=(a%n+b%n)%n
 rw[<-Nat.add_mod]
theorem zeh(a b:Nat):Fin.ofNat n (a*b)=Fin.ofNat n a*Fin.ofNat n b:=by
 apply Fin.ext
 rw[Fin.val_mul]
 show(a*b)%n=(a%n*(b%n))%n
 rw[<-Nat.mul_mod]
theorem zr6(a:Nat):Fin.ofNat n (a%n)=Fin.ofNat n a:=Fin.ext (Nat.mod_mod _ _)
theorem zhjb:Fin.ofNat n n=0:=Fin.ext (by show n%n=0;exact Nat.mod_self n)
theorem zyt{a b:Nat}(h:b<=n):Fin.ofNat n (a+(n-b))=Fin.ofNat n a-Fin.ofNat n b:=by
 have e:=zje (n:=n) b (n-b)
 rw[show b+(n-b)=n by omega,zhjb]at e
 rw[zje]
 generalize Fin.ofNat n b=u at*
 generalize Fin.ofNat n (n-b)=v at*
 generalize Fin.ofNat n a=w at*
 grind
theorem z2s{d i:Fin n}(h:EdC n d i){a b:Q4}{p q:EPt d}{dd:Nat}(hd:Fin.ofNat n dd=d+d)(ra:QR a p)(rb:QR b q):QR (qadd n dd a.x a.y a.z a.t b.x b.y b.z b.t) (p.add h q):=by
 have n0:0<n:=Nat.pos_of_ne_zero (NeZero.ne n)
 have ml: ∀k,k%n<=n:=λk=>Nat.le_of_lt (Nat.mod_lt _ n0)
 refine⟨?_,Nat.mod_lt _ n0,Nat.mod_lt _ n0,Nat.mod_lt _ n0,Nat.mod_lt _ n0⟩
 have:=zzg h ra.rep rb.rep rfl rfl rfl rfl
 have hx1:=Nat.le_of_lt ra.lx
 have hx2:=Nat.le_of_lt rb.lx
 simp only[qadd,zr6,zeh,zje,zyt hx1,zyt hx2,zyt (ml _),hd]
 exact this
def qmul(m dd:Nat)(q:Q4):Nat->Nat->Q4
 |0,_=>⟨0,1,1,0⟩
 |f+1,e=>
  if e=0 then⟨0,1,1,0⟩else
  (qmul m dd q f (e/2)).k λx y z t=>(qadd m dd x y z t x y z t).k λx y z t=>
   if e%2=1 then qadd m dd x y z t q.x q.y q.z q.t else⟨x,y,z,t⟩
theorem z2t{d i:Fin n}(h:EdC n d i){q:Q4}{p:EPt d}{dd:Nat}(hd:Fin.ofNat n dd=d+d)(h1:1<n)(r:QR q p): ∀f e,e<2^f->QR (qmul n dd q f e) (smul h p e)
 |0,e,he=>by
  have:e=0:=by omega
  subst this
  have o:(1:Fin n)≠0:=λx=>by have:=congrArg Fin.val x;have e1:(1:Fin n).val=1%n:=rfl;rw[e1,Nat.mod_eq_of_lt h1]at this;exact absurd this (by simp)
  exact⟨zu5 d o,by show 0<n;omega,h1,h1,by show 0<n;omega⟩
 |f+1,e,he=>by
  rw[qmul]
  split
  ·next e0=>
   subst e0
   have o:(1:Fin n)≠0:=λx=>by have:=congrArg Fin.val x;have e1:(1:Fin n).val=1%n:=rfl;rw[e1,Nat.mod_eq_of_lt h1]at this;exact absurd this (by simp)
   exact⟨zu5 d o,by show 0<n;omega,h1,h1,by show 0<n;omega⟩
  ·have ih:=z2t h hd h1 r f (e/2) (by rw[Nat.pow_succ]at he;omega)
   have d1:=z2s h hd ih ih
   rw[<-ze0]at d1
   show QR (if e%2=1 then _ else _) _
   split
   ·next e1=>
    have:=z2s h hd d1 r
    have e2:e=e/2+e/2+1:=by omega
    have e3:smul h p e=(smul h p (e/2+e/2)).add h p:=(congrArg (smul h p) e2).trans rfl
    rw[e3]
    exact this
   ·have e2:e=e/2+e/2:=by omega
    rw[e2]
    rw[show(e/2+e/2)/2=e/2 by omega]
    exact d1
end
def ddC:Nat:=(dN+dN)%pC
def xB:Nat:=15112221349535400772501151409588531511454012693041857206046113283949847762202
def yB:Nat:=46316835694926478169428394003475163141307993866256225615783033603165251855960
def lC:Nat:=7237005577332262213973186563042994240857116359379907606001950938285454250989
def qB:Q4:=⟨xB,yB,1,xB*yB%pC⟩
theorem zk0b{n:Nat}[NeZero n](d x y:Nat)(h:y*y%n=(1+x*x+d*(x*x)*(y*y))%n):On (Fin.ofNat n d) (Fin.ofNat n x) (Fin.ofNat n y):=by
 have e:=congrArg (Fin.ofNat n) h
 rw[zr6,zr6]at e
 simp only[zeh,zje]at e
 exact e
def bP:EPt (Fin.ofNat pC dN):=⟨Fin.ofNat pC xB,Fin.ofNat pC yB,zk0b dN xB yB (by decide+kernel)⟩
theorem znpb:QR qB bP:=⟨⟨(λx=>absurd (congrArg Fin.val x) (by decide+kernel)),Fin.ext (by decide+kernel),Fin.ext (by decide+kernel),Fin.ext (by decide+kernel)⟩,by decide+kernel,by decide+kernel,by decide+kernel,by decide+kernel⟩
theorem z9r:(let q:=qmul pC ddC qB 253 lC;Nat.beq q.x 0&&Nat.beq q.y q.z)=true:=by decide+kernel
theorem za3b:smul edC bP lC= .zero _:=by
 have h:=z9r
 have r:=z2t edC (dd:=ddC) (by rw[ddC,zr6,zje]) (by decide+kernel) znpb 253 lC (by decide+kernel)
 simp only[Bool.and_eq_true]at h
 have hx:=Nat.eq_of_beq_eq_true h.1
 have hy:=Nat.eq_of_beq_eq_true h.2
 exact zhtb edC r.rep (by rw[hx];rfl) (by rw[hy])
def pN:Nat:=57896044618658097711785492504343953926634992332820282019728792003956564819949
theorem zml(x:UInt64)(n:Nat):(shrW x n).toNat=x.toNat/2^n:=by
 unfold shrW
 rw[UInt64.toNat_ofNat']
 exact Nat.mod_eq_of_lt (Nat.lt_of_le_of_lt (Nat.div_le_self _ _) x.toNat_lt)
theorem zeo(x:UInt64):(shrW x 51).toNat=x.toNat/2251799813685248:=zml x 51
theorem ze4b(x:UInt64):(shrW x 32).toNat=x.toNat/4294967296:=zml x 32
theorem zgg(x:UInt64):(x&&&msk).toNat=x.toNat%2251799813685248:=by
 rw[UInt64.toNat_and]
 exact Nat.and_two_pow_sub_one_eq_mod x.toNat 51
theorem lo_n(x:UInt64):(x&&&lo32).toNat=x.toNat%4294967296:=by
 rw[UInt64.toNat_and]
 exact Nat.and_two_pow_sub_one_eq_mod x.toNat 32
theorem zb8(x y:UInt64):(x+y).toNat=(x.toNat+y.toNat)%18446744073709551616:=UInt64.toNat_add x y
theorem zo0(x y:UInt64):(x*y).toNat=(x.toNat*y.toNat)%18446744073709551616:=UInt64.toNat_mul x y
theorem zv9(x y c:UInt64)(h:c.toNat<=1):(carW x y c).toNat=(x.toNat+y.toNat+c.toNat)/18446744073709551616:=by
 have hx:=x.toNat_lt
 have hy:=y.toNat_lt
 unfold carW
 rw[UInt64.toNat_ofNat']
 omega
def Fe.val(x:Fe):Nat:=x.a.toNat+2251799813685248*(x.b.toNat+2251799813685248*(x.c.toNat+2251799813685248*(x.d.toNat+2251799813685248*x.e.toNat)))
theorem zz1(a b c d e:UInt64):Fe.val ⟨a,b,c,d,e⟩=a.toNat+2251799813685248*(b.toNat+2251799813685248*(c.toNat+2251799813685248*(d.toNat+2251799813685248*e.toNat))):=rfl
structure Fe.Sm (x:Fe):Prop where
 a:x.a.toNat<2251799813947392
 b:x.b.toNat<2251799813947392
 c:x.c.toNat<2251799813947392
 d:x.d.toNat<2251799813947392
 e:x.e.toNat<2251799813947392
theorem zsv(x:Fe):x.carry.a.toNat=x.a.toNat%2251799813685248+x.e.toNat/2251799813685248*19/\x.carry.b.toNat=x.b.toNat%2251799813685248+x.a.toNat/2251799813685248/\x.carry.c.toNat=x.c.toNat%2251799813685248+x.b.toNat/2251799813685248/\x.carry.d.toNat=x.d.toNat%2251799813685248+x.c.toNat/2251799813685248/\x.carry.e.toNat=x.e.toNat%2251799813685248+x.d.toNat/2251799813685248:=by
 have ha:=x.a.toNat_lt
 have hb:=x.b.toNat_lt
 have hc:=x.c.toNat_lt
 have hd:=x.d.toNat_lt
 have he:=x.e.toNat_lt
 have h19:(19:UInt64).toNat=19:=rfl
 simp only[Fe.carry,zb8,zo0,zgg,zeo,h19]
 refine⟨?_,?_,?_,?_,?_⟩<;>omega
theorem zlh(x:Fe):x.carry.Sm:=by
 have ha:=x.a.toNat_lt
 have hb:=x.b.toNat_lt
 have hc:=x.c.toNat_lt
 have hd:=x.d.toNat_lt
 have he:=x.e.toNat_lt
 obtain⟨h1,h2,h3,h4,h5⟩:=zsv x
 refine⟨?_,?_,?_,?_,?_⟩<;>omega
theorem zho(x:Fe):x.carry.val+x.e.toNat/2251799813685248*pN=x.val:=by
 obtain⟨h1,h2,h3,h4,h5⟩:=zsv x
 unfold Fe.val pN
 omega
theorem zfc(x y:Fe):(x.add y).Sm:=zlh _
theorem zmb{a b c:Nat}(h:a+b*pN=c):a%pN=c%pN:=by rw[<-h,Nat.add_mul_mod_self_right]
theorem zfeb{x y:Fe}(hx:x.Sm)(hy:y.Sm):(x.add y).val%pN=(x.val+y.val)%pN:=by
 have h:=zmb (zho ⟨x.a+y.a,x.b+y.b,x.c+y.c,x.d+y.d,x.e+y.e⟩)
 unfold Fe.add
 rw[h]
 congr 1
 obtain⟨a1,a2,a3,a4,a5⟩:=hx
 obtain⟨b1,b2,b3,b4,b5⟩:=hy
 simp only[Fe.val,zb8]
 omega
theorem zfm(x y:Fe):(x.sub y).Sm:=zlh _
theorem zsi(x y:UInt64)(h:y.toNat<=x.toNat):(x-y).toNat=x.toNat-y.toNat:=UInt64.toNat_sub_of_le x y h
theorem zidb{x y:Fe}(hx:x.Sm)(hy:y.Sm):((x.sub y).val+y.val)%pN=x.val%pN:=by
 have h:=zmb (zho ⟨x.a+(tw0-y.a),x.b+(tw1-y.b),x.c+(tw1-y.c),x.d+(tw1-y.d),x.e+(tw1-y.e)⟩)
 unfold Fe.sub
 rw[Nat.add_mod,h,<-Nat.add_mod]
 obtain⟨a1,a2,a3,a4,a5⟩:=hx
 obtain⟨b1,b2,b3,b4,b5⟩:=hy
 have t0:tw0.toNat=4503599627370458:=rfl
 have t1:tw1.toNat=4503599627370494:=rfl
 have c1:=zsi tw0 y.a (by omega)
 have c2:=zsi tw1 y.b (by omega)
 have c3:=zsi tw1 y.c (by omega)
 have c4:=zsi tw1 y.d (by omega)
 have c5:=zsi tw1 y.e (by omega)
 simp only[Fe.val,zb8,c1,c2,c3,c4,c5,t0,t1]
 rw[<-Nat.add_mul_mod_self_right (_+2251799813685248*_) 2 pN]
 refine congrArg (· %pN) ?_
 unfold pN
 omega
theorem zyo(x y:UInt64):(mulH x y).toNat*18446744073709551616+(x*y).toNat=x.toNat*y.toNat:=by
 have hx:=x.toNat_lt
 have hy:=y.toNat_lt
 have e1: ∀a b:Nat,a<4294967296->b<4294967296->a*b<=18446744065119617025:=λa b ha hb=>by
  have:=Nat.mul_le_mul (show a<=4294967295 by omega) (show b<=4294967295 by omega)
  omega
 have b1:=e1 (x.toNat/4294967296) (y.toNat%4294967296) (by omega) (by omega)
 have b2:=e1 (x.toNat%4294967296) (y.toNat%4294967296) (by omega) (by omega)
 have b3:=e1 (x.toNat/4294967296) (y.toNat/4294967296) (by omega) (by omega)
 have b4:=e1 (x.toNat%4294967296) (y.toNat/4294967296) (by omega) (by omega)
 have ex:x.toNat*y.toNat=(x.toNat/4294967296)*(y.toNat/4294967296)*18446744073709551616+((x.toNat/4294967296)*(y.toNat%4294967296)+(x.toNat%4294967296)*(y.toNat/4294967296))*4294967296+(x.toNat%4294967296)*(y.toNat%4294967296):=by
  have hx2:x.toNat=x.toNat/4294967296*4294967296+x.toNat%4294967296:=by omega
  have hy2:y.toNat=y.toNat/4294967296*4294967296+y.toNat%4294967296:=by omega
  conv=>lhs;rw[hx2,hy2]
  generalize x.toNat/4294967296=p
  generalize x.toNat%4294967296=q
  generalize y.toNat/4294967296=r
  generalize y.toNat%4294967296=s
  grind
 have m1:(mulM x y).toNat=(x.toNat/4294967296)*(y.toNat%4294967296)+(x.toNat%4294967296)*(y.toNat%4294967296)/4294967296:=by
  simp only[mulM,zb8,zo0,ze4b,lo_n]
  omega
 simp only[mulH,zb8,zo0,ze4b,lo_n,m1]
 rw[ex]
 generalize (x.toNat/4294967296)*(y.toNat%4294967296)=A at*
 generalize (x.toNat%4294967296)*(y.toNat%4294967296)=B at*
 generalize (x.toNat/4294967296)*(y.toNat/4294967296)=C at*
 generalize (x.toNat%4294967296)*(y.toNat/4294967296)=D at*
 omega
def Two.val(t:Two):Nat:=t.h.toNat*18446744073709551616+t.l.toNat
theorem zjf(t:Two)(a b:UInt64)(h:t.val+a.toNat*b.toNat<340282366920938463463374607431768211456):(t.plus a b).val=t.val+a.toNat*b.toNat:=by
 have m:=zyo a b
 have h1:=t.h.toNat_lt
 have h2:=t.l.toNat_lt
 have h3:=(mulH a b).toNat_lt
 have h4:=(a*b).toNat_lt
 have z:(0:UInt64).toNat=0:=rfl
 rw[<-m]at h⊢
 simp only[Two.val,Two.plus,z52,z54,zb8,zv9 t.l (a*b) 0 (by decide),z]at h⊢
 clear m z
 generalize (mulH a b).toNat=hi at*
 generalize (a*b).toNat=lo at*
 generalize t.h.toNat=H at*
 generalize t.l.toNat=L at*
 have e:H+hi+(L+lo)/18446744073709551616<18446744073709551616:=by omega
 omega
theorem or_n(x y:UInt64)(h:y.toNat<8192)(k:Nat)(hx:x.toNat=8192*k):(x|||y).toNat=x.toNat+y.toNat:=by
 rw[UInt64.toNat_or,hx]
 exact(Nat.two_pow_add_eq_or_of_lt (i:=13) h k).symm
theorem znrb(x:UInt64)(h:x.toNat<2251799813685248):(shlW x 13).toNat=8192*x.toNat:=by
 unfold shlW
 rw[UInt64.toNat_ofNat']
 omega
theorem zna(t:Two)(f:UInt64)(h:t.val<10384593717069655257060992658440192)(hf:f.toNat<1152921504606846976):(flo t f&&&msk).toNat=(t.val+f.toNat)%2251799813685248/\(ffr t f).toNat=(t.val+f.toNat)/2251799813685248:=by
 have z:(0:UInt64).toNat=0:=rfl
 have h1:=t.h.toNat_lt
 have h2:=t.l.toNat_lt
 have l1:(flo t f).toNat=(t.l.toNat+f.toNat)%18446744073709551616:=by
  simp only[flo,zb8,z]
  omega
 have c1:=zv9 t.l f 0 (by decide)
 rw[z]at c1
 have l2:(t.h+carW t.l f 0).toNat=t.h.toNat+(t.l.toNat+f.toNat)/18446744073709551616:=by
  rw[zb8,c1]
  unfold Two.val at h
  omega
 unfold Two.val at h⊢
 refine⟨by rw[zgg,l1];omega,?_⟩
 unfold ffr
 have s:=znrb (t.h+carW t.l f 0) (by rw[l2];omega)
 rw[or_n _ _ (by rw[zeo];omega) _ s,s,l2,zeo,l1]
 omega
theorem pb{x y:Nat}{B C:Nat}(hx:x<B)(hy:y<C):x*y<=B*C:=Nat.mul_le_mul (by omega) (by omega)
def z2:Two:=⟨0,0⟩
theorem five(a1 b1 a2 b2 a3 b3 a4 b4 a5 b5:UInt64)(h1:a1.toNat<2251799813947392)(h2:a2.toNat<2251799813947392)(h3:a3.toNat<2251799813947392)(h4:a4.toNat<2251799813947392)(h5:a5.toNat<2251799813947392){M1 M2 M3 M4 M5:Nat}(k1:b1.toNat<M1)(k2:b2.toNat<M2)(k3:b3.toNat<M3)(k4:b4.toNat<M4)(k5:b5.toNat<M5)(hM:M1<=42784196465000448/\M2<=42784196465000448/\M3<=42784196465000448/\M4<=42784196465000448/\M5<=42784196465000448):
  (((((z2.plus a1 b1).plus a2 b2).plus a3 b3).plus a4 b4).plus a5 b5).val=a1.toNat*b1.toNat+a2.toNat*b2.toNat+a3.toNat*b3.toNat+a4.toNat*b4.toNat+a5.toNat*b5.toNat/\a1.toNat*b1.toNat+a2.toNat*b2.toNat+a3.toNat*b3.toNat+a4.toNat*b4.toNat+a5.toNat*b5.toNat<=2251799813947392*(M1+M2+M3+M4+M5):=by
 have p1:=pb h1 k1
 have p2:=pb h2 k2
 have p3:=pb h3 k3
 have p4:=pb h4 k4
 have p5:=pb h5 k5
 have z:z2.val=0:=rfl
 refine⟨?_,by omega⟩
 have q1:=zjf z2 a1 b1 (by rw[z];omega)
 have q2:=zjf (z2.plus a1 b1) a2 b2 (by rw[q1,z];omega)
 have q3:=zjf ((z2.plus a1 b1).plus a2 b2) a3 b3 (by rw[q2,q1,z];omega)
 have q4:=zjf (((z2.plus a1 b1).plus a2 b2).plus a3 b3) a4 b4 (by rw[q3,q2,q1,z];omega)
 have q5:=zjf ((((z2.plus a1 b1).plus a2 b2).plus a3 b3).plus a4 b4) a5 b5 (by rw[q4,q3,q2,q1,z];omega)
 rw[q5,q4,q3,q2,q1,z,Nat.zero_add]
theorem m19(x:UInt64)(h:x.toNat<2251799813947392):(x*19).toNat=x.toNat*19:=by
 have h19:(19:UInt64).toNat=19:=rfl
 rw[zo0,h19]
 omega
theorem zbv(x y:Fe):(x.mul y).Sm:=zlh _
theorem zm4b(S0 S1 S2 S3 S4 f0 f1 f2 f3 f4:Nat)(h0:f0=S0/2251799813685248)(h1:f1=(S1+f0)/2251799813685248)(h2:f2=(S2+f1)/2251799813685248)(h3:f3=(S3+f2)/2251799813685248)(h4:f4=(S4+f3)/2251799813685248):
  (S0%2251799813685248+f4*19)+2251799813685248*((S1+f0)%2251799813685248+2251799813685248*((S2+f1)%2251799813685248+2251799813685248*((S3+f2)%2251799813685248+2251799813685248*((S4+f3)%2251799813685248))))+f4*pN=S0+2251799813685248*(S1+2251799813685248*(S2+2251799813685248*(S3+2251799813685248*S4))):=by
 unfold pN
 omega
theorem zm5b(M p a0 a1 a2 a3 a4 b0 b1 b2 b3 b4:Int)(hM:M*(M*(M*(M*M)))=p+19):
  (a0+M*(a1+M*(a2+M*(a3+M*a4))))*(b0+M*(b1+M*(b2+M*(b3+M*b4))))=
  (a0*b0+a1*(b4*19)+a2*(b3*19)+a3*(b2*19)+a4*(b1*19))+M*((a0*b1+a1*b0+a2*(b4*19)+a3*(b3*19)+a4*(b2*19))+M*((a0*b2+a1*b1+a2*b0+a3*(b4*19)+a4*(b3*19))+M*((a0*b3+a1*b2+a2*b1+a3*b0+a4*(b4*19))+M*(a0*b4+a1*b3+a2*b2+a3*b1+a4*b0))))+
  p*((a1*b4+a2*b3+a3*b2+a4*b1)+M*((a2*b4+a3*b3+a4*b2)+M*((a3*b4+a4*b3)+M*(a4*b4)))):=by
 have:p=M*(M*(M*(M*M)))-19:=by omega
 subst this
 grind
theorem zixb(M p a0 a1 a2 a3 a4 b0 b1 b2 b3 b4:Nat)(hM:M*(M*(M*(M*M)))=p+19):
  (a0+M*(a1+M*(a2+M*(a3+M*a4))))*(b0+M*(b1+M*(b2+M*(b3+M*b4))))=
  (a0*b0+a1*(b4*19)+a2*(b3*19)+a3*(b2*19)+a4*(b1*19))+M*((a0*b1+a1*b0+a2*(b4*19)+a3*(b3*19)+a4*(b2*19))+M*((a0*b2+a1*b1+a2*b0+a3*(b4*19)+a4*(b3*19))+M*((a0*b3+a1*b2+a2*b1+a3*b0+a4*(b4*19))+M*(a0*b4+a1*b3+a2*b2+a3*b1+a4*b0))))+
  p*((a1*b4+a2*b3+a3*b2+a4*b1)+M*((a2*b4+a3*b3+a4*b2)+M*((a3*b4+a4*b3)+M*(a4*b4)))):=by
 have h:=zm5b M p a0 a1 a2 a3 a4 b0 b1 b2 b3 b4 (by exact_mod_cast hM)
 exact_mod_cast h
theorem zhdb{x y:Fe}(hx:x.Sm)(hy:y.Sm):(x.mul y).val%pN=x.val*y.val%pN:=by
 obtain⟨a0,a1,a2,a3,a4⟩:=hx
 obtain⟨b0,b1,b2,b3,b4⟩:=hy
 have n1:=m19 y.b b1
 have n2:=m19 y.c b2
 have n3:=m19 y.d b3
 have n4:=m19 y.e b4
 have c1:(y.b*19).toNat<42784196465000448:=by omega
 have c2:(y.c*19).toNat<42784196465000448:=by omega
 have c3:(y.d*19).toNat<42784196465000448:=by omega
 have c4:(y.e*19).toNat<42784196465000448:=by omega
 obtain⟨s0,l0⟩:=five x.a y.a x.b (y.e*19) x.c (y.d*19) x.d (y.c*19) x.e (y.b*19) a0 a1 a2 a3 a4 b0 c4 c3 c2 c1 (by decide)
 obtain⟨s1,l1⟩:=five x.a y.b x.b y.a x.c (y.e*19) x.d (y.d*19) x.e (y.c*19) a0 a1 a2 a3 a4 b1 b0 c4 c3 c2 (by decide)
 obtain⟨s2,l2⟩:=five x.a y.c x.b y.b x.c y.a x.d (y.e*19) x.e (y.d*19) a0 a1 a2 a3 a4 b2 b1 b0 c4 c3 (by decide)
 obtain⟨s3,l3⟩:=five x.a y.d x.b y.c x.c y.b x.d y.a x.e (y.e*19) a0 a1 a2 a3 a4 b3 b2 b1 b0 c4 (by decide)
 obtain⟨s4,l4⟩:=five x.a y.e x.b y.d x.c y.c x.d y.b x.e y.a a0 a1 a2 a3 a4 b4 b3 b2 b1 b0 (by decide)
 have cv:=zixb 2251799813685248 pN x.a.toNat x.b.toNat x.c.toNat x.d.toNat x.e.toNat y.a.toNat y.b.toNat y.c.toNat y.d.toNat y.e.toNat (by decide)
 rw[n1,n2,n3,n4]at s0
 rw[n2,n3,n4]at s1
 rw[n3,n4]at s2
 rw[n4]at s3
 rw[n1,n2,n3,n4]at l0
 rw[n2,n3,n4]at l1
 rw[n3,n4]at l2
 rw[n4]at l3
 unfold Fe.mul
 have e0:(fsum x y).1=((((z2.plus x.a y.a).plus x.b (y.e*19)).plus x.c (y.d*19)).plus x.d (y.c*19)).plus x.e (y.b*19):=rfl
 have e1:(fsum x y).2.1=((((z2.plus x.a y.b).plus x.b y.a).plus x.c (y.e*19)).plus x.d (y.d*19)).plus x.e (y.c*19):=rfl
 have e2:(fsum x y).2.2.1=((((z2.plus x.a y.c).plus x.b y.b).plus x.c y.a).plus x.d (y.e*19)).plus x.e (y.d*19):=rfl
 have e3:(fsum x y).2.2.2.1=((((z2.plus x.a y.d).plus x.b y.c).plus x.c y.b).plus x.d y.a).plus x.e (y.e*19):=rfl
 have e4:(fsum x y).2.2.2.2=((((z2.plus x.a y.e).plus x.b y.d).plus x.c y.c).plus x.d y.b).plus x.e y.a:=rfl
 rw[<-e0]at s0
 rw[<-e1]at s1
 rw[<-e2]at s2
 rw[<-e3]at s3
 rw[<-e4]at s4
 clear e0 e1 e2 e3 e4
 have xv:x.val*y.val=(x.a.toNat+2251799813685248*(x.b.toNat+2251799813685248*(x.c.toNat+2251799813685248*(x.d.toNat+2251799813685248*x.e.toNat))))*(y.a.toNat+2251799813685248*(y.b.toNat+2251799813685248*(y.c.toNat+2251799813685248*(y.d.toNat+2251799813685248*y.e.toNat)))):=rfl
 rw[xv]
 rw[cv,Nat.mul_comm pN,Nat.add_mul_mod_self_right]
 clear cv xv
 rw[<-s0]at l0⊢
 rw[<-s1]at l1⊢
 rw[<-s2]at l2⊢
 rw[<-s3]at l3⊢
 rw[<-s4]at l4⊢
 clear s0 s1 s2 s3 s4 n1 n2 n3 n4 c1 c2 c3 c4
 dsimp only
 generalize (fsum x y).1=t0 at*
 generalize (fsum x y).2.1=t1 at*
 generalize (fsum x y).2.2.1=t2 at*
 generalize (fsum x y).2.2.2.1=t3 at*
 generalize (fsum x y).2.2.2.2=t4 at*
 have z:(0:UInt64).toNat=0:=rfl
 obtain⟨u0,v0⟩:=zna t0 0 (by omega) (by decide)
 have k0:(ffr t0 0).toNat<1152921504606846976:=by omega
 rw[z,Nat.add_zero]at v0 u0
 generalize ffr t0 0=f0 at*
 obtain⟨u1,v1⟩:=zna t1 f0 (by omega) k0
 have k1:(ffr t1 f0).toNat<1152921504606846976:=by omega
 generalize ffr t1 f0=f1 at*
 obtain⟨u2,v2⟩:=zna t2 f1 (by omega) k1
 have k2:(ffr t2 f1).toNat<1152921504606846976:=by omega
 generalize ffr t2 f1=f2 at*
 obtain⟨u3,v3⟩:=zna t3 f2 (by omega) k2
 have k3:(ffr t3 f2).toNat<1152921504606846976:=by omega
 generalize ffr t3 f2=f3 at*
 obtain⟨u4,v4⟩:=zna t4 f3 (by omega) k3
 have k4:(ffr t4 f3).toNat<288230376151711744:=by omega
 generalize ffr t4 f3=f4 at*
 have cc:=zm4b t0.val t1.val t2.val t3.val t4.val f0.toNat f1.toNat f2.toNat f3.toNat f4.toNat v0 v1 v2 v3 v4
 rw[zmb (zho _),<-cc,Nat.add_mul_mod_self_right]
 clear cc v0 v1 v2 v3 v4
 refine congrArg (· %pN) ?_
 have h19:(19:UInt64).toNat=19:=rfl
 have w:((flo t0 0&&&msk)+f4*19).toNat=t0.val%2251799813685248+f4.toNat*19:=by
  rw[zb8,zo0,u0,h19]
  clear u0 u1 u2 u3 u4 l0 l1 l2 l3 l4
  omega
 rw[zz1,w,u1,u2,u3,u4]
theorem z00(a b c d e:Nat)(ha:a<2251799813685267)(hb:b<2251799813685249)(hc:c<2251799813685249)(hd:d<2251799813685249)(he:e<2251799813685249){q0 q1 q2 q3 q a' b' c' d' e':Nat}(h0:q0=(a+19)/2251799813685248)(h1:q1=(b+q0)/2251799813685248)(h2:q2=(c+q1)/2251799813685248)(h3:q3=(d+q2)/2251799813685248)(h4:q=(e+q3)/2251799813685248)
  (ka:a'=a+19*q) (kb:b'=b+a'/2251799813685248) (kc:c'=c+b'/2251799813685248) (kd:d'=d+c'/2251799813685248) (ke:e'=e+d'/2251799813685248):
  a'%2251799813685248+2251799813685248*(b'%2251799813685248+2251799813685248*(c'%2251799813685248+2251799813685248*(d'%2251799813685248+2251799813685248*(e'%2251799813685248))))+q*pN=a+2251799813685248*(b+2251799813685248*(c+2251799813685248*(d+2251799813685248*e)))/\a'%2251799813685248+2251799813685248*(b'%2251799813685248+2251799813685248*(c'%2251799813685248+2251799813685248*(d'%2251799813685248+2251799813685248*(e'%2251799813685248))))<pN/\q<=1:=by
 unfold pN
 have hq:q=0\/q=1:=by omega
 rcases hq with rfl |rfl
 ·refine⟨by omega,by omega,by omega⟩
 ·refine⟨by omega,by omega,by omega⟩
theorem ziub(y:Fe):y.carry.carry.a.toNat<2251799813685267/\y.carry.carry.b.toNat<2251799813685249/\y.carry.carry.c.toNat<2251799813685249/\y.carry.carry.d.toNat<2251799813685249/\y.carry.carry.e.toNat<2251799813685249:=by
 obtain⟨a1,a2,a3,a4,a5⟩:=zlh y
 obtain⟨h1,h2,h3,h4,h5⟩:=zsv y.carry
 refine⟨?_,?_,?_,?_,?_⟩<;>omega
theorem zd5(y:Fe):y.least.val=y.val%pN/\y.least.a.toNat<2251799813685248/\y.least.b.toNat<2251799813685248/\y.least.c.toNat<2251799813685248/\y.least.d.toNat<2251799813685248/\y.least.e.toNat<2251799813685248:=by
 obtain⟨ha,hb,hc,hd,he⟩:=ziub y
 have v1:=zho y
 have v2:=zho y.carry
 unfold Fe.least
 generalize y.carry.carry=x at*
 dsimp only
 have h19:(19:UInt64).toNat=19:=rfl
 have e0:(x.a+19).toNat=x.a.toNat+19:=by rw[zb8,h19];omega
 have q0:(shrW (x.a+19) 51).toNat=(x.a.toNat+19)/2251799813685248:=by rw[zeo,e0]
 generalize shrW (x.a+19) 51=Q0 at*
 have e1:(x.b+Q0).toNat=x.b.toNat+Q0.toNat:=by rw[zb8];omega
 have q1:(shrW (x.b+Q0) 51).toNat=(x.b.toNat+Q0.toNat)/2251799813685248:=by rw[zeo,e1]
 generalize shrW (x.b+Q0) 51=Q1 at*
 have e2:(x.c+Q1).toNat=x.c.toNat+Q1.toNat:=by rw[zb8];omega
 have q2:(shrW (x.c+Q1) 51).toNat=(x.c.toNat+Q1.toNat)/2251799813685248:=by rw[zeo,e2]
 generalize shrW (x.c+Q1) 51=Q2 at*
 have e3:(x.d+Q2).toNat=x.d.toNat+Q2.toNat:=by rw[zb8];omega
 have q3:(shrW (x.d+Q2) 51).toNat=(x.d.toNat+Q2.toNat)/2251799813685248:=by rw[zeo,e3]
 generalize shrW (x.d+Q2) 51=Q3 at*
 have e4:(x.e+Q3).toNat=x.e.toNat+Q3.toNat:=by rw[zb8];omega
 have q4:(shrW (x.e+Q3) 51).toNat=(x.e.toNat+Q3.toNat)/2251799813685248:=by rw[zeo,e4]
 generalize shrW (x.e+Q3) 51=Q at*
 have qb:Q.toNat<=1:=by omega
 have f0:(x.a+19*Q).toNat=x.a.toNat+19*Q.toNat:=by rw[zb8,zo0,h19];omega
 generalize x.a+19*Q=A at*
 have f1:(x.b+shrW A 51).toNat=x.b.toNat+A.toNat/2251799813685248:=by rw[zb8,zeo];omega
 generalize x.b+shrW A 51=B at*
 have f2:(x.c+shrW B 51).toNat=x.c.toNat+B.toNat/2251799813685248:=by rw[zb8,zeo];omega
 generalize x.c+shrW B 51=C at*
 have f3:(x.d+shrW C 51).toNat=x.d.toNat+C.toNat/2251799813685248:=by rw[zb8,zeo];omega
 generalize x.d+shrW C 51=D at*
 have f4:(x.e+shrW D 51).toNat=x.e.toNat+D.toNat/2251799813685248:=by rw[zb8,zeo];omega
 generalize x.e+shrW D 51=E at*
 obtain⟨r1,r2, -⟩:=z00 x.a.toNat x.b.toNat x.c.toNat x.d.toNat x.e.toNat ha hb hc hd he q0 q1 q2 q3 q4 f0 f1 f2 f3 f4
 have lim: ∀z:UInt64,(z&&&msk).toNat<2251799813685248:=λz=>by rw[zgg];omega
 refine⟨?_,lim _,lim _,lim _,lim _,lim _⟩
 have xv:x.val=x.a.toNat+2251799813685248*(x.b.toNat+2251799813685248*(x.c.toNat+2251799813685248*(x.d.toNat+2251799813685248*x.e.toNat))):=rfl
 rw[zz1,zgg,zgg,zgg,zgg,zgg]
 rw[<-xv]at r1
 rw[<-v1,Nat.add_mul_mod_self_right,<-v2,Nat.add_mul_mod_self_right,<-r1,Nat.add_mul_mod_self_right]
 exact(Nat.mod_eq_of_lt r2).symm
end Go.Proofs.YtkegaaonpekkgaaGreat.Sx
