import Derived.Laws.BitsAllLaws
namespace Go.Proofs.YtpdllgbfemnemaaGreat
set_option linter.unusedVariables false
section
def lvF:Nat->Nat->Nat
 |0,_=>0
 |f+1,x=>if x%2=1 then lvF f (x/2)+1 else 0
def lv(x:Nat):Nat:=lvF 17 x
def nd(h k:Nat):Nat:=k*2^(h+1)+2^h-1
theorem zag(n:Nat):0<2^n:=Nat.pow_pos (by omega)
theorem z7i: ∀(f x:Nat),x<2^f-1->lvF f x<f/\x%2^(lvF f x)=2^(lvF f x)-1/\x/2^(lvF f x)%2=0
 |0,x,h=>by simp at h
 |f+1,x,h=>by
  have hp:=zag f
  have e:2^(f+1)=2*2^f:=by rw[Nat.pow_succ];omega
  unfold lvF
  by_cases hx:x%2=1
  ·rw[if_pos hx]
   have ih:=z7i f (x/2) (by omega)
   generalize lvF f (x/2)=l at ih
   have hl:=zag l
   refine⟨by omega,?_,?_⟩
   ·rw[Nat.pow_succ,Nat.mul_comm,Nat.mod_mul,ih.2.1];omega
   ·rw[Nat.pow_succ,Nat.mul_comm,<-Nat.div_div_eq_div_mul];exact ih.2.2
  ·rw[if_neg hx]
   refine⟨by omega,by simp;omega,by simp;omega⟩
theorem zg6{x:Nat}(h:x<=131070):lv x<=16/\x%2^(lv x)=2^(lv x)-1/\x/2^(lv x)%2=0:=by
 have:=z7i 17 x (by omega)
 exact⟨by unfold lv;omega,this.2⟩
theorem z6e{x:Nat}(h:x<=131070):x=nd (lv x) (x/2^(lv x+1)):=by
 obtain⟨_,h1,h2⟩:=zg6 h
 generalize lv x=l at*
 have hp:=zag l
 unfold nd
 have e1:x/2^(l+1)=x/2^l/2:=by rw[Nat.pow_succ,Nat.div_div_eq_div_mul]
 have e2:=Nat.div_add_mod x (2^l)
 have e3:=Nat.div_add_mod (x/2^l) 2
 rw[e1]
 rw[h1]at e2
 rw[h2]at e3
 generalize x/2^l/2=k at*
 have e4:k*2^(l+1)=2^l*(2*k):=by rw[Nat.pow_succ,Nat.mul_comm (2^l) 2,<-Nat.mul_assoc,Nat.mul_comm,Nat.mul_comm k 2]
 rw[e4]
 have e5:2*k=x/2^l:=by omega
 rw[e5]
 omega
theorem z91: ∀(f h k:Nat),h<f->lvF f (nd h k)=h
 |0,h,k,hh=>by omega
 |f+1,0,k,_=>by unfold lvF nd;simp
 |f+1,h+1,k,hh=>by
  have hp:=zag h
  have e:nd (h+1) k=2*nd h k+1:=by
   unfold nd
   rw[Nat.pow_succ 2 (h+1),Nat.pow_succ 2 h,<-Nat.mul_assoc]
   omega
  unfold lvF
  rw[e,if_pos (by omega),show(2*nd h k+1)/2=nd h k by omega,z91 f h k (by omega)]
theorem zrf{h k:Nat}(hh:h<=16):lv (nd h k)=h:=z91 17 h k (by omega)
theorem zesb(h k:Nat):nd (h+1) k=2*nd h k+1:=by
 have hp:=zag h
 unfold nd
 rw[Nat.pow_succ 2 (h+1),Nat.pow_succ 2 h,<-Nat.mul_assoc]
 omega
theorem zd1(k:Nat):nd 0 k=2*k:=by unfold nd;simp;omega
def fitsL:List Int:=[1,2,4,8,16,32,64,128,256,512,1024,2048,4096,8192,16384,32768,65536]
def za0(n:Int):Bool:=fitsL.contains n
theorem zde{n:Int}(h:za0 n=true): ∃d,d<=16/\n=((2^d:Nat):Int):=by
 unfold za0 fitsL at h
 simp at h
 rcases h with h |h |h |h |h |h |h |h |h |h |h |h |h |h |h |h |h
 ·exact⟨0,by omega,by simpa using h⟩
 ·exact⟨1,by omega,by simpa using h⟩
 ·exact⟨2,by omega,by simpa using h⟩
 ·exact⟨3,by omega,by simpa using h⟩
 ·exact⟨4,by omega,by simpa using h⟩
 ·exact⟨5,by omega,by simpa using h⟩
 ·exact⟨6,by omega,by simpa using h⟩
 ·exact⟨7,by omega,by simpa using h⟩
 ·exact⟨8,by omega,by simpa using h⟩
 ·exact⟨9,by omega,by simpa using h⟩
 ·exact⟨10,by omega,by simpa using h⟩
 ·exact⟨11,by omega,by simpa using h⟩
 ·exact⟨12,by omega,by simpa using h⟩
 ·exact⟨13,by omega,by simpa using h⟩
 ·exact⟨14,by omega,by simpa using h⟩
 ·exact⟨15,by omega,by simpa using h⟩
 ·exact⟨16,by omega,by simpa using h⟩
theorem zdd: ∀d,d<=16->za0 ((2^d:Nat):Int)=true:=by decide+kernel
theorem zc4{n:Int}(h:za0 n=true):1<=n/\n<=65536:=by
 obtain⟨d,hd,rfl⟩:=zde h
 have h1:=zag d
 have h2:2^d<=2^16:=Nat.pow_le_pow_right (by omega) hd
 omega
def za1(x:Int):Bool:=decide (0<=x)&&decide (x<=131070)
def ofI(x n:Int):Bool:=za0 n&&(decide (0<=x)&&decide (x<=2*n-2))
theorem zdl{x:Int}:za1 x=true↔0<=x/\x<=131070:=by simp[za1]
theorem zey{x n:Int}:ofI x n=true↔za0 n=true/\0<=x/\x<=2*n-2:=by simp[ofI]
def lvI(x:Int):Int:=if za1 x then(lv x.toNat:Int)else-1
def zdo(x:Int):Int:=if 0<lvI x then 2^(lvI x-1).toNat else 0
def zbj(x:Int):Int:=if zdo x=0 then-1 else x-zdo x
def zbi(x:Int):Int:=if zdo x=0 then-1 else x+zdo x
def zgu(n:Int):Int:=if za0 n then n-1 else-1
def upN(x:Nat):Nat:=if x/2^(lv x+1)%2=0 then x+2^lv x else x-2^lv x
def parI(x n:Int):Int:=if ofI x n&&decide (x≠n-1)then(upN x.toNat:Int)else-1
def sibI(x n:Int):Int:=if parI x n<0 then-1 else if x<parI x n then zbi (parI x n)else zbj (parI x n)
def zeg(n:Int):Nat->Int->List Int
 |0,_=>[]
 |f+1,x=>if parI x n<0 then[]else parI x n::zeg n f (parI x n)
def za4(x n:Int):List Int:=zeg n 17 x
def zdi(n:Int):Nat->Int->List Int
 |0,_=>[]
 |f+1,x=>if parI x n<0 then[]else sibI x n::zdi n f (parI x n)
def zau(x n:Int):List Int:=zdi n 17 x
def zq7(y:Int):Int:=2^(lvI y).toNat-1
def zal(x y:Int):Bool:=(za1 x&&za1 y)&&(decide (y-zq7 y<=x)&&decide (x<=y+zq7 y))
theorem zky{x y:Int}:zal x y=true↔(za1 x=true/\za1 y=true)/\y-zq7 y<=x/\x<=y+zq7 y:=by
 simp only[zal,Bool.and_eq_true,decide_eq_true_eq]
theorem ztj(y:Int):zq7 y=2^(lvI y).toNat-1:=rfl
theorem zt5(x:Int): -1<=lvI x/\lvI x<=16:=by
 unfold lvI
 split
 ·rename_i h
  rw[zdl]at h
  have:=(zg6 (x:=x.toNat) (by omega)).1
  omega
 ·omega
theorem zow{x:Int}(h:za1 x=true):lvI x=lv x.toNat:=by simp[lvI,h]
theorem z0v{x:Int}(h:za1 x=false):lvI x= -1:=by simp[lvI,h]
theorem zfdb{h k:Nat}(hh:h+1<=16):upN (nd h k)=nd (h+1) (k/2):=by
 have hp:=zag h
 unfold upN
 rw[zrf (by omega)]
 have e1:nd h k/2^(h+1)=k:=by
  unfold nd
  have:2^h<2^(h+1):=by rw[Nat.pow_succ];omega
  rw[Nat.add_sub_assoc (by omega),Nat.add_comm,Nat.add_mul_div_right _ _ (zag _),Nat.div_eq_of_lt (by omega)]
  omega
 rw[e1]
 unfold nd
 rw[Nat.pow_succ 2 (h+1),Nat.pow_succ 2 h]
 generalize 2^h=q at*
 split
 ·rename_i hk
  have:k=2*(k/2):=by omega
  generalize k/2=j at*
  subst this
  rw[show 2*j*(q*2)=j*(q*2*2)by rw[Nat.mul_comm 2 j,Nat.mul_assoc,Nat.mul_comm 2]]
  omega
 ·rename_i hk
  have:k=2*(k/2)+1:=by omega
  generalize k/2=j at*
  subst this
  rw[Nat.add_mul,show 2*j*(q*2)=j*(q*2*2)by rw[Nat.mul_comm 2 j,Nat.mul_assoc,Nat.mul_comm 2]]
  omega
theorem z9u{a j:Nat}(h:a/2^j%2=0):a|||2^j=a+2^j:=by
 have hp:=zag j
 have e3:a=a/2^(j+1)*2^(j+1)+a%2^j:=by
  have e4:=Nat.div_add_mod a (2^j)
  have e5:a/2^(j+1)=a/2^j/2:=by rw[Nat.pow_succ,Nat.div_div_eq_div_mul]
  have e6:a/2^(j+1)*2^(j+1)=2^j*(2*(a/2^j/2)):=by rw[e5,Nat.pow_succ,Nat.mul_comm,Nat.mul_assoc]
  rw[e6,show 2*(a/2^j/2)=a/2^j by omega]
  omega
 have hlt:a%2^j<2^j:=Nat.mod_lt _ hp
 have hs:2^(j+1)=2*2^j:=by rw[Nat.pow_succ];omega
 have hq:(a/2^(j+1)*2^(j+1))%2^(j+1)=0:=by simp
 generalize a/2^(j+1)*2^(j+1)=q at*
 generalize a%2^j=r at*
 have e7:q|||r=q+r:=nat_join (j+1) q r hq (by omega)
 have e8:r|||2^j=2^j+r:=by rw[Nat.or_comm];exact nat_join j _ _ (by simp) hlt
 have e9:q|||(2^j+r)=q+(2^j+r):=nat_join (j+1) q _ hq (by omega)
 rw[e3,<-e7,Nat.or_assoc,e8,e9,e7]
 omega
theorem z8y{a j:Nat}(ha:a<2^64)(hj:j<64):a&&&(2^64-(2^j+1))=a-a/2^j%2*2^j:=by
 have hjj:2^j<2^64:=Nat.pow_lt_pow_right (by omega) hj
 have key: ∀b:Nat,b<2^64->b/2^j%2=0->b&&&(2^64-(2^j+1))=b:=by
  intro b hb h0
  apply Nat.eq_of_testBit_eq
  intro i
  rw[Nat.testBit_and,Nat.testBit_two_pow_sub_succ hjj,Nat.testBit_two_pow]
  by_cases hi:i<64
  ·by_cases hij:j=i
   ·subst hij
    simp[Nat.testBit_eq_decide_div_mod_eq,h0]
   ·simp[hij,hi]
  ·have:b.testBit i=false:=Nat.testBit_lt_two_pow (Nat.lt_of_lt_of_le hb (Nat.pow_le_pow_right (by omega) (by omega)))
   simp[this]
 have hp:=zag j
 rcases Nat.mod_two_eq_zero_or_one (a/2^j)with h |h
 ·rw[h,key a ha h];omega
 ·have hge:2^j<=a:=by
   rcases Nat.lt_or_ge a (2^j)with hl |hl
   ·rw[Nat.div_eq_of_lt hl]at h;omega
   ·exact hl
  have h0:(a-2^j)/2^j%2=0:=by
   have:(a-2^j)/2^j=a/2^j-1:=by have:=Nat.sub_mul_div a (2^j) 1;rwa[Nat.mul_one]at this
   omega
  have e:a=(a-2^j)|||2^j:=by rw[z9u h0];omega
  have:=key (a-2^j) (by omega) h0
  rw[h,Nat.one_mul]
  conv=>lhs;rw[e]
  rw[Nat.and_or_distrib_right,this]
  have h2:2^j&&&(2^64-(2^j+1))=0:=by
   apply Nat.eq_of_testBit_eq
   intro i
   rw[Nat.testBit_and,Nat.testBit_two_pow_sub_succ hjj,Nat.testBit_two_pow]
   by_cases hij:j=i<;>simp[hij]
  rw[h2,Nat.or_zero]
theorem z50{h k d:Nat}(hd:h<=d):nd h k<=2*2^d-2↔k<2^(d-h):=by
 have hp:=zag h
 have hq:=zag (d-h)
 have e:2^d=2^h*2^(d-h):=by rw[<-Nat.pow_add];congr 1;omega
 unfold nd
 rw[e,Nat.pow_succ]
 generalize 2^h=q at*
 generalize 2^(d-h)=Q at*
 have e1:k*(q*2)=2*(q*k):=by rw[<-Nat.mul_assoc,Nat.mul_comm k q,Nat.mul_comm]
 rw[e1]
 constructor
 ·intro h1
  rcases Nat.lt_or_ge k Q with h2 |h2
  ·exact h2
  ·have:=Nat.mul_le_mul_left q h2
   have:q*1<=q*Q:=Nat.mul_le_mul_left q hq
   omega
 ·intro h1
  have:=Nat.mul_le_mul_left q (show k+1<=Q from h1)
  rw[Nat.mul_add]at this
  omega
theorem zex{x n:Int}(h:ofI x n=true): ∃d h k,d<=16/\n=((2^d:Nat):Int)/\h<=d/\k<2^(d-h)/\x=(nd h k:Int):=by
 rw[zey]at h
 obtain⟨d,hd,hn⟩:=zde h.1
 obtain⟨m,rfl⟩:=Int.eq_ofNat_of_zero_le h.2.1
 have h16:2^d<=2^16:=Nat.pow_le_pow_right (by omega) hd
 have hm:m<=2*2^d-2:=by omega
 have hf:=z6e (x:=m) (by omega)
 have hl:lv m<=d:=by
  rcases Nat.lt_or_ge d (lv m)with h1 |h1
  ·exfalso
   have h2:2^(d+1)<=2^lv m:=Nat.pow_le_pow_right (by omega) h1
   rw[Nat.pow_succ]at h2
   have hp:=zag d
   have:2^lv m-1<=m:=by
    conv=>rhs;rw[hf]
    unfold nd
    omega
   omega
  ·exact h1
 refine⟨d,lv m,m/2^(lv m+1),hd,hn,hl,?_,by rw[<-hf]⟩
 rw[<-z50 hl,<-hf];exact hm
theorem zys{d h k:Nat}(hd:d<=16)(hh:h<=d)(hk:k<2^(d-h)):ofI (nd h k:Int) ((2^d:Nat):Int)=true:=by
 rw[zey]
 have:=(z50 hh).2 hk
 exact⟨zdd d hd,by omega,by have:=zag d;omega⟩
theorem z2w{d h k:Nat}(hd:d<=16)(hh:h<=d)(hk:k<2^(d-h)):nd h k<=131070:=by
 have:=(z50 hh).2 hk
 have h16:2^d<=2^16:=Nat.pow_le_pow_right (by omega) hd
 omega
theorem zcg{d h k:Nat}(hd:d<=16)(hh:h<=d)(hk:k<2^(d-h)):za1 (nd h k:Int)=true:=by
 have:=z2w hd hh hk
 rw[zdl];omega
theorem zkb{d h k:Nat}(hd:d<=16)(hh:h<=d)(hk:k<2^(d-h)):lvI (nd h k:Int)=h:=by
 rw[zow (zcg hd hh hk),Int.toNat_natCast,zrf (by omega)]
theorem zg0(d:Nat):(nd d 0:Int)=((2^d:Nat):Int)-1:=by
 have:=zag d
 unfold nd;omega
theorem zfk{h k h' k':Nat}(hh:h<=16)(hh':h'<=16)(e:nd h k=nd h' k'):h=h'/\k=k':=by
 have h1:h=h':=by rw[<-zrf (h:=h) (k:=k) hh,<-zrf (h:=h') (k:=k') hh',e]
 subst h1
 refine⟨rfl,?_⟩
 unfold nd at e
 have hp:=zag h
 have:k*2^(h+1)=k'*2^(h+1):=by omega
 exact Nat.eq_of_mul_eq_mul_right (zag _) this
theorem zk7{d h k:Nat}(hd:d<=16)(hh:h<d)(hk:k<2^(d-h)):parI (nd h k:Int) ((2^d:Nat):Int)=(nd (h+1) (k/2):Int):=by
 have hne:(nd h k:Int)≠((2^d:Nat):Int)-1:=by
  rw[<-zg0]
  intro e
  have:=(zfk (by omega) hd (Int.ofNat.inj e)).1
  omega
 unfold parI
 rw[zys hd (by omega) hk,Int.toNat_natCast,zfdb (by omega),Bool.true_and,if_pos (by rw[decide_eq_true_eq];exact hne)]
theorem zkd{d:Nat}:parI (nd d 0:Int) ((2^d:Nat):Int)= -1:=by
 unfold parI
 rw[zg0];simp
theorem znr{d h k:Nat}(hh:h<d)(hk:k<2^(d-h)):k/2<2^(d-(h+1)):=by
 have e:2^(d-h)=2*2^(d-(h+1)):=by
  rw[show d-h=d-(h+1)+1 by omega,Nat.pow_succ];omega
 omega
theorem zl3{x n:Int}(h:0<=parI x n):ofI x n=true/\ofI (parI x n) n=true/\lvI (parI x n)=lvI x+1/\0<=lvI x:=by
 have ho:ofI x n=true:=by
  unfold parI at h
  split at h
  ·rename_i h1;simp at h1;exact h1.1
  ·omega
 obtain⟨d,l,k,hd,rfl,hh,hk,rfl⟩:=zex ho
 rcases Nat.lt_or_ge l d with hlt |hge
 ·rw[zk7 hd hlt hk]at*
  exact⟨ho,zys hd (by omega) (znr hlt hk),by rw[zkb hd (by omega) (znr hlt hk),zkb hd hh hk];rfl,by rw[zkb hd hh hk];omega⟩
 ·obtain rfl:l=d:=by omega
  have:k=0:=by simpa using hk
  subst this
  rw[zkd]at h
  omega
end
section
def beB:Nat->Nat->List UInt8
 |0,_=>[]
 |s+1,n=>UInt8.ofNat (n/256^s)::beB s n
theorem zaw: ∀(s n:Nat),(beB s n).length=s
 |0,_=>rfl
 |s+1,n=>by rw[beB,List.length_cons,zaw s n]
def lenB(n:Nat):List UInt8:=if n<64 then beB 1 n else if n<16384 then beB 2 (16384+n)else beB 4 (2147483648+n)
def zb4(n:Nat):Nat:=if n<64 then 1 else if n<16384 then 2 else 4
theorem zs8(n:Nat):(lenB n).length=zb4 n:=by
 unfold lenB zb4
 split
 ·exact zaw _ _
 ·split<;>exact zaw _ _
theorem zlj(n:Nat):1<=zb4 n/\zb4 n<=4:=by unfold zb4;split<;>(try split)<;>omega
def vecB(v:List UInt8):List UInt8:=lenB v.length++v
theorem zsw(v:List UInt8):(vecB v).length=zb4 v.length+v.length:=by rw[vecB,List.length_append,zs8]
theorem zat(v:List UInt8):(vecB v).length<=v.length+4:=by rw[zsw];have:=zlj v.length;omega
theorem ztq(n:Nat):((UInt8.ofNat n).toNat:Int)=(n:Int)%256:=by rw[UInt8.toNat_ofNat'];omega
theorem z9q(i:Nat):2^(8*i)=256^i:=by rw[Nat.pow_mul]
end
section
def on6(f:Nat):Nat:=Nat.land (Nat.add f (Nat.div f 4294967296)) 127
def on5(e:Nat):Nat:=on6 (Nat.add e (Nat.div e 65536))
def on4(d:Nat):Nat:=on5 (Nat.add d (Nat.div d 256))
def on3(b:Nat):Nat:=on4 (Nat.land (Nat.add (Nat.div b 16) b) 1085102592571150095)
def on2(a:Nat):Nat:=on3 (Nat.add (Nat.land (Nat.div a 4) 3689348814741910323) (Nat.land a 3689348814741910323))
def ztw(n:Nat):Nat:=on2 (Nat.add (Nat.land (Nat.div n 2) 6148914691236517205) (Nat.land n 6148914691236517205))
def pwN(n:Nat):Bool:=Nat.beq (Nat.land n (Nat.sub n 1)) 0
def beqB:Bool->Bool->Bool
 |true,b=>b
 |false,true=>false
 |false,false=>true
def z8q(n:Nat):Bool:=beqB (Nat.beq (ztw n) 1) (pwN n)
def upTo(p:Nat->Bool):Nat->Bool
 |0=>true
 |n+1=>match p (n+1)with |true=>upTo p n |false=>false
theorem zwn{p:Nat->Bool}: ∀{n:Nat},upTo p n=true->∀i,i<n->p (i+1)=true
 |0,_,i,h=>by omega
 |n+1,h,i,hi=>by
  unfold upTo at h
  split at h
  ·by_cases e:i=n
   ·subst e;assumption
   ·exact zwn h i (by omega)
  ·cases h
theorem z11:upTo (λk=>upTo (λi=>z8q (Nat.add (Nat.mul 2048 (Nat.sub k 1)) i)) 2048) 32=true:=by decide+kernel
theorem zdrb{n:Nat}(h1:1<=n)(h2:n<=65536):z8q n=true:=by
 have h:=zwn z11 ((n-1)/2048) (by omega)
 have h':=zwn h ((n-1)%2048) (by omega)
 have e:Nat.add (Nat.mul 2048 (Nat.sub ((n-1)/2048+1) 1)) ((n-1)%2048+1)=n:=by
  show 2048*((n-1)/2048+1-1)+((n-1)%2048+1)=n
  omega
 rw[e]at h'
 exact h'
theorem zdib{a b:Bool}(h:beqB a b=true):a=b:=by cases a<;>cases b<;>simp[beqB]at*
theorem zf8b{n:Nat}(h1:1<=n)(h2:n<=65536)(h:n&&&(n-1)=0): ∃d,d<=16/\n=2^d:=by
 obtain⟨hl,_,_⟩:=zg6 (x:=n-1) (by omega)
 have hn:=z6e (x:=n-1) (by omega)
 generalize lv (n-1)=l at*
 generalize (n-1)/2^(l+1)=k at hn
 have hp:=zag l
 have hp1:=zag (l+1)
 have hlt:2^l<2^(l+1):=by rw[Nat.pow_succ];omega
 unfold nd at hn
 have e1:n=k*2^(l+1)+2^l:=by omega
 have d1:n/2^(l+1)=k:=by
  rw[e1,Nat.add_comm,Nat.add_mul_div_right _ _ hp1,Nat.div_eq_of_lt (by omega)];omega
 have d2:(n-1)/2^(l+1)=k:=by
  rw[hn,Nat.add_sub_assoc (by omega),Nat.add_comm,Nat.add_mul_div_right _ _ hp1,Nat.div_eq_of_lt (by omega)];omega
 have:=Nat.and_div_two_pow (a:=n) (b:=n-1) (n:=l+1)
 rw[h,d1,d2,Nat.and_self,Nat.zero_div]at this
 subst this
 exact⟨l,hl,by omega⟩
theorem zfob: ∀d,d<=16->pwN (2^d)=true:=by decide+kernel
theorem zb9b{n:Nat}(h1:1<=n)(h2:n<=65536):(ztw n=1)↔za0 (n:Int)=true:=by
 have h:=zdib (zdrb h1 h2)
 constructor
 ·intro h3
  rw[h3]at h
  have h4:n&&&(n-1)=0:=Nat.eq_of_beq_eq_true (h.symm.trans rfl)
  obtain⟨d,hd,rfl⟩:=zf8b h1 h2 h4
  exact zdd d hd
 ·intro h3
  obtain⟨d,hd,e⟩:=zde h3
  have e':n=2^d:=by omega
  rw[e',zfob d hd]at h
  rw[e']
  exact Nat.eq_of_beq_eq_true h
end
end Go.Proofs.YtpdllgbfemnemaaGreat
