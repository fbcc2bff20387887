import Derived.Test.YtfjkblpnbgfkeaaGreatZWireB
import Derived.Test.YtfjkblpnbgfkeaaGreatProg
import Derived.Deep.QuietTactic
import Derived.BigQuiet
import Derived.Deep.LoopGhost
namespace Go.Proofs.YtfjkblpnbgfkeaaGreat
open Go.RowKit
set_option linter.unusedVariables false
section
theorem z1t(p q:AC)(l v:List UInt8){S S':Nat->Prop}(w:World)(hp:By w S p l)(hq:By w S' q v)(hl:l.length<=1000000000000)(hv:v.length<=1073741823):
  Calls Tryz.prog 64 #[.slice p.a l.length p.c, .slice q.a v.length q.c] w (Ret w λw' r=>∃g,OwB w' w.heap.size r (l++vecB v) g):=by
 go_enter Tryz.func64,Tryz.ntmps64
 go_wp2_with fail
 refine(z1s p l _ _ hp hl hv).mono ?_
 rintro e w1 ⟨r,rfl,hb,g,ho⟩
 have hlen:=(ziw v.length)
 obtain⟨L,hL⟩: ∃L,L=l++lenB v.length:=⟨_,rfl⟩
 have HL:=Lib.hid hL
 have hll:L.length<=l.length+4:=by rw[hL,List.length_append,zg7];omega
 rw[<-hL]at ho
 obtain⟨a,c,rfl⟩:=ho.form
 clear hL
 go_wp2_with (first |(at_builtin;refine zc5 ?_))
 refine zc3 (zb5 rfl (.tmp 8) (.tmp 9) rfl rfl ho rfl rfl (hq.ext hb) ?_ ?_ ?_)
 ·omega
 ·exact hb.le
 intro a1 c1 g1 w2 r1 r2 r3
 have r4:=ho.grown r2 hb (Nat.le_refl _)
 go_wp2_with fail
 go_ret
 exact⟨_,rfl,r4,g1,by rw[vecB,<-List.append_assoc,<-HL.out];exact r1⟩
set_option maxRecDepth 100000 in
theorem z1u(n:Nat)(w:World)(hn:n<=1073741823):
  Calls Tryz.prog 91 #[.int .i64 (n:Int)] w (Ret w λw' v=>∃g,OwB w' w.heap.size v (lenB n) g):=by
 by_cases h1:n<64
 ·have HL:Hid (lenB n=beB 1 n):=Lib.hid (by unfold lenB;rw[if_pos h1])
  go_enter Tryz.func91,Tryz.ntmps91
  go_wp2_with fail
  go_ret
  refine⟨_,rfl,(by(repeat (first |exact Ext.refl _ |refine Ext.drew ?_ |refine Ext.drewN ?_ _ |refine Ext.alloc ?_ _ |(refine Ext.setCell ?_ (by first |omega |(simp;done) |(simp;omega)) _) |refine Ext.trans ?_ (by assumption)))),some w.heap.size,?_⟩
  rw[HL.out]
  refine OwB.ofNew (Nat.le_refl _) ?_ (za0 _ _).symm (by rw[za0];omega)
  simp[beB]
  omega
 ·have h1':64<=n:=by omega
  by_cases h2:n<16384
  ·have HL:Hid (lenB n=beB 2 (16384+n)):=Lib.hid (by unfold lenB;rw[if_neg h1,if_pos h2])
   clear h1
   go_enter Tryz.func91,Tryz.ntmps91
   go_wp2_with fail
   go_ret
   refine⟨_,rfl,(by(repeat (first |exact Ext.refl _ |refine Ext.drew ?_ |refine Ext.drewN ?_ _ |refine Ext.alloc ?_ _ |(refine Ext.setCell ?_ (by first |omega |(simp;done) |(simp;omega)) _) |refine Ext.trans ?_ (by assumption)))),some w.heap.size,?_⟩
   rw[HL.out]
   refine OwB.ofNew (Nat.le_refl _) ?_ (za0 _ _).symm (by rw[za0];omega)
   simp[beB]
   omega
  ·have HL:Hid (lenB n=beB 4 (2147483648+n)):=Lib.hid (by unfold lenB;rw[if_neg h1,if_neg h2])
   clear h1
   go_enter Tryz.func91,Tryz.ntmps91
   go_wp2_with fail
   go_ret
   refine⟨_,rfl,(by(repeat (first |exact Ext.refl _ |refine Ext.drew ?_ |refine Ext.drewN ?_ _ |refine Ext.alloc ?_ _ |(refine Ext.setCell ?_ (by first |omega |(simp;done) |(simp;omega)) _) |refine Ext.trans ?_ (by assumption)))),some w.heap.size,?_⟩
   rw[HL.out]
   refine OwB.ofNew (Nat.le_refl _) ?_ (za0 _ _).symm (by rw[za0];omega)
   simp[beB]
   omega
theorem z1w(q:AC)(v:List UInt8){S':Nat->Prop}(w:World)(hq:By w S' q v)(hv:v.length<=1073741823):
  Calls Tryz.prog 42 #[.slice q.a v.length q.c] w (Ret w λw' r=>∃g,OwB w' w.heap.size r (vecB v) g):=by
 go_enter Tryz.func42,Tryz.ntmps42
 go_wp2_with fail
 refine(z1u _ _ hv).mono ?_
 rintro e w1 ⟨r,rfl,hb,g,ho⟩
 have hlen:=(ziw v.length)
 obtain⟨L,hL⟩: ∃L,L=lenB v.length:=⟨_,rfl⟩
 have HL:=Lib.hid hL
 have hll:L.length<=4:=by rw[hL,zg7];omega
 rw[<-hL]at ho
 obtain⟨a,c,rfl⟩:=ho.form
 clear hL
 go_wp2_with (first |(at_builtin;refine zc5 ?_))
 refine zc3 (zb5 rfl (.tmp 5) (.tmp 6) rfl rfl ho rfl rfl (hq.ext hb) ?_ ?_ ?_)
 ·omega
 ·exact hb.le
 intro a1 c1 g1 w2 r1 r2 r3
 have r4:=ho.grown r2 hb (Nat.le_refl _)
 go_wp2_with fail
 go_ret
 exact⟨_,rfl,r4,g1,by rw[vecB,<-HL.out];exact r1⟩
def z2h(size m:Nat)(w:World)(n out i:Value)(wr:World):Prop:=
 ∃(j:Nat) (p:AC),i= .int .i64 (j:Int)/\j<=size/\n= .int .u64 ((m/256^j:Nat):Int)/\out= .slice p.a j p.c/\By wr (w.heap.size<= ·) p (beB j m)/\(∃g,OwB wr w.heap.size out (beB j m) g)/\Ext w wr
theorem z1v(size m:Nat)(w:World)(hs:size<=8)(hm:m<18446744073709551616):
  Calls Tryz.prog 41 #[.int .i64 (size:Int), .int .u64 (m:Int)] w (Ret w λw' v=>∃g,OwB w' w.heap.size v (beB size m) g):=by
 go_enter Tryz.func41,Tryz.ntmps41
 go_wp2_with fail
 go_loopw [1,5,6] (λn out i wr=>z2h size m w n out i wr) (λ_ _ i _=>size-(intOf i).toNat)
 case atStart=>exact⟨0,⟨none,0⟩,rfl,by omega,by simp,rfl,By.nil _ _,⟨none,Ow.nil _ _ _ _⟩,Ext.refl _⟩
 case round=>
  obtain⟨j,p,rfl,e1,rfl,rfl,e3,⟨g0,e4⟩,e5⟩:=hrel
  have hbl:=Lib.hid (za0 j m)
  by_cases hj:j<size
  ·have hd:m/256^j<18446744073709551616:=Nat.lt_of_le_of_lt (Nat.div_le_self _ _) hm
   obtain⟨d,hd'⟩: ∃d,d=m/256^j:=⟨_,rfl⟩
   have HD:=Lib.hid hd'
   rw[<-hd']at hd
   rw[<-hd']
   clear hd'
   go_wp2_with (first |(at_builtin;refine zc5 ?_))
   refine zc3 (zb5 (l:=[UInt8.ofNat d]) (l2:=beB j m) (m:=j) rfl (.tmp 15) (.tmp 16) rfl rfl (OwB.ofNew e5.le ?_ rfl (by simp)) rfl (za0 _ _).symm (e3.ext (zar _ _)) ?_ ?_ ?_)
   ·simp
   ·rw[za0];simp;omega
   ·have:=e5.le;simp;omega
   intro a' c' g' w' r1 r2 r3
   have r4:=Ext.grown (e5.alloc _) r2 (λk hk=>by cases hk;exact e5.le)
   have HR:Hid (OwB w' w.heap.size (.slice a' (1+j) c') (beB (j+1) m) g'):=Lib.hid (by rw[beB,<-HD.out];exact r1)
   go_wp2_with fail
   go_roundw
   case rel=>
    obtain⟨q,hq,hby⟩:=OwB.by_ HR.out
    rw[za0]at hq
    injection hq with q1 q2 q3
    subst q1;subst q3
    have ej:(1+j:Nat)=j+1:=by omega
    refine⟨j+1,q,rfl,by omega,?_,?_,hby,⟨g',?_⟩,r4⟩
    ·rw[HD.out,Nat.pow_succ,<-Nat.div_div_eq_div_mul];simp
    ·rw[<-ej]
    ·exact HR.out
   case measure=>(first |omega |(simp[intOf];done) |(simp[intOf];omega))
  ·go_wp2_with fail
   go_ret
   have:j=size:=by omega
   subst this
   exact⟨_,rfl,e5,g0,e4⟩
def z6i(l m:List UInt8)(i:Value)(w wr:World):Prop:=∃j:Nat,i= .int .i64 (j:Int)/\j<=l.length/\l.take j=m.take j/\Ext w wr
theorem zx9(p q:AC)(l m:List UInt8){S S':Nat->Prop}(w:World)(hp:By w S p l)(hq:By w S' q m):
  Calls Tryz.prog 10 #[.slice p.a l.length p.c, .slice q.a m.length q.c] w (Ret w λ_ v=>v= .bool (decide (l=m))):=by
 have hl:=hp.lens
 have hm:=hq.lens
 unfold maxLen at hl hm
 by_cases hlen:l.length=m.length
 ·have ht:((l.length:Int) != (m.length:Int))=false:=by simp[hlen]
  have HL:=Lib.hid hlen
  obtain⟨N,hN⟩: ∃N,N=l.length:=⟨_,rfl⟩
  have HN:=Lib.hid hN
  have hNb:N<=9223372036854775807:=by omega
  rw[<-hlen,<-hN]at ht
  rw[<-hlen,<-hN]
  clear hlen hN hl hm
  go_enter Tryz.func10,Tryz.ntmps10
  go_wp2_with fail
  go_loopw [5] (λi wr=>z6i l m i w wr) (λi _=>N-(intOf i).toNat)
  case atStart=>exact⟨0,rfl,Nat.zero_le _,by simp,Ext.refl _⟩
  case round=>
   obtain⟨j,rfl,e1,e2,e3⟩:=hrel
   have E2:=Lib.hid e2
   rw[<-HN.out]at e1
   clear e2
   by_cases hj:j<N
   ·have hj1:j<l.length:=by rw[<-HN.out];exact hj
    have hj2:j<m.length:=by rw[<-HL.out];exact hj1
    obtain⟨b,o,hpa,hc⟩:=(hp.ext e3).at_ hj1
    obtain⟨b',o',hqa,hc'⟩:=(hq.ext e3).at_ hj2
    have hj0:(0:Int)<=(j:Int):=by omega
    have hjN:(j:Int)< (N:Int):=by omega
    rw[hpa,hqa]
    clear hpa hqa
    by_cases he:l[j]=m[j]
    ·have ht2:((l[j].toNat:Int) != (m[j].toNat:Int))=false:=by simp[he]
     have HE:=Lib.hid he
     obtain⟨X,hX⟩: ∃X:Int,X=l[j].toNat:=⟨_,rfl⟩
     obtain⟨Y,hY⟩: ∃Y:Int,Y=m[j].toNat:=⟨_,rfl⟩
     rw[<-hX]at hc ht2
     rw[<-hY]at hc' ht2
     clear he hX hY
     go_wp2_with fail
     go_quiet (fail)
     go_wp2_with fail
     go_roundw
     case rel=>exact⟨j+1,by simp,by have:=HN.out;omega,by rw[List.take_add_one,List.take_add_one,E2.out,List.getElem?_eq_getElem hj1,List.getElem?_eq_getElem hj2,HE.out],by(repeat (first |exact Ext.refl _ |refine Ext.drew ?_ |refine Ext.drewN ?_ _ |refine Ext.alloc ?_ _ |(refine Ext.setCell ?_ (by first |omega |(simp;done) |(simp;omega)) _) |refine Ext.trans ?_ (by assumption)))⟩
     case measure=>(first |omega |(simp[intOf];done) |(simp[intOf];omega))
    ·have ht2:((l[j].toNat:Int) != (m[j].toNat:Int))=true:=by
      have:l[j].toNat≠m[j].toNat:=λh=>he (UInt8.toNat_inj.1 h)
      simp;omega
     have HE:Hid (l≠m):=Lib.hid (λh=>he (by subst h;rfl))
     obtain⟨X,hX⟩: ∃X:Int,X=l[j].toNat:=⟨_,rfl⟩
     obtain⟨Y,hY⟩: ∃Y:Int,Y=m[j].toNat:=⟨_,rfl⟩
     rw[<-hX]at hc ht2
     rw[<-hY]at hc' ht2
     clear he hX hY
     go_wp2_with fail
     go_quiet (fail)
     go_wp2_with fail
     go_ret
     exact⟨_,rfl,by(repeat (first |exact Ext.refl _ |refine Ext.drew ?_ |refine Ext.drewN ?_ _ |refine Ext.alloc ?_ _ |(refine Ext.setCell ?_ (by first |omega |(simp;done) |(simp;omega)) _) |refine Ext.trans ?_ (by assumption))),by simp[HE.out]⟩
   ·go_wp2_with fail
    go_ret
    have:l=m:=by
     have h1:=HN.out
     have h2:=HL.out
     have h3:=E2.out
     rwa[List.take_of_length_le (by omega),List.take_of_length_le (by omega)]at h3
    exact⟨_,rfl,by(repeat (first |exact Ext.refl _ |refine Ext.drew ?_ |refine Ext.drewN ?_ _ |refine Ext.alloc ?_ _ |(refine Ext.setCell ?_ (by first |omega |(simp;done) |(simp;omega)) _) |refine Ext.trans ?_ (by assumption))),by simp[this]⟩
 ·have ht:((l.length:Int) != (m.length:Int))=true:=by simp;omega
  have HE:Hid (l≠m):=Lib.hid (λh=>hlen (by rw[h]))
  clear hlen
  go_enter Tryz.func10,Tryz.ntmps10
  go_wp2_with fail
  go_ret
  exact⟨_,rfl,by(repeat (first |exact Ext.refl _ |refine Ext.drew ?_ |refine Ext.drewN ?_ _ |refine Ext.alloc ?_ _ |(refine Ext.setCell ?_ (by first |omega |(simp;done) |(simp;omega)) _) |refine Ext.trans ?_ (by assumption))),by simp[HE.out]⟩
end
section
def on6(f:Nat):Nat:=Nat.land (Nat.add f (Nat.div f 4294967296)) 127
def on5(e:Nat):Nat:=on6 (Nat.add e (Nat.div e 65536))
def on4(d:Nat):Nat:=on5 (Nat.add d (Nat.div d 256))
def on3(b:Nat):Nat:=on4 (Nat.land (Nat.add (Nat.div b 16) b) 1085102592571150095)
def on2(a:Nat):Nat:=on3 (Nat.add (Nat.land (Nat.div a 4) 3689348814741910323) (Nat.land a 3689348814741910323))
def zqr(n:Nat):Nat:=on2 (Nat.add (Nat.land (Nat.div n 2) 6148914691236517205) (Nat.land n 6148914691236517205))
def pwN(n:Nat):Bool:=Nat.beq (Nat.land n (Nat.sub n 1)) 0
def beqB:Bool->Bool->Bool
 |true,b=>b
 |false,true=>false
 |false,false=>true
def z42(n:Nat):Bool:=beqB (Nat.beq (zqr n) 1) (pwN n)
def upTo(p:Nat->Bool):Nat->Bool
 |0=>true
 |n+1=>match p (n+1)with |true=>upTo p n |false=>false
theorem zsh{p:Nat->Bool}: ∀{n:Nat},upTo p n=true->∀i,i<n->p (i+1)=true
 |0,_,i,h=>by omega
 |n+1,h,i,hi=>by
  unfold upTo at h
  split at h
  ·by_cases e:i=n
   ·subst e;assumption
   ·exact zsh h i (by omega)
  ·cases h
theorem zx7:upTo (λk=>upTo (λi=>z42 (Nat.add (Nat.mul 2048 (Nat.sub k 1)) i)) 2048) 32=true:=by decide+kernel
theorem zbyb{n:Nat}(h1:1<=n)(h2:n<=65536):z42 n=true:=by
 have h:=zsh zx7 ((n-1)/2048) (by omega)
 have h':=zsh h ((n-1)%2048) (by omega)
 have e:Nat.add (Nat.mul 2048 (Nat.sub ((n-1)/2048+1) 1)) ((n-1)%2048+1)=n:=by
  show 2048*((n-1)/2048+1-1)+((n-1)%2048+1)=n
  omega
 rw[e]at h'
 exact h'
theorem zabb{a b:Bool}(h:beqB a b=true):a=b:=by cases a<;>cases b<;>simp[beqB]at*
theorem zesb{n:Nat}(h1:1<=n)(h2:n<=65536)(h:n&&&(n-1)=0): ∃d,d<=16/\n=2^d:=by
 obtain⟨hl,_,_⟩:=zfc (x:=n-1) (by omega)
 have hn:=z1i (x:=n-1) (by omega)
 generalize lv (n-1)=l at*
 generalize (n-1)/2^(l+1)=k at hn
 have hp:=zag l
 have hp1:=zag (l+1)
 have hlt:2^l<2^(l+1):=by rw[Nat.pow_succ];omega
 unfold nd at hn
 have e1:n=k*2^(l+1)+2^l:=by omega
 have d1:n/2^(l+1)=k:=by
  rw[e1,Nat.add_comm,Nat.add_mul_div_right _ _ hp1,Nat.div_eq_of_lt (by omega)];omega
 have d2:(n-1)/2^(l+1)=k:=by
  rw[hn,Nat.add_sub_assoc (by omega),Nat.add_comm,Nat.add_mul_div_right _ _ hp1,Nat.div_eq_of_lt (by omega)];omega
 have:=Nat.and_div_two_pow (a:=n) (b:=n-1) (n:=l+1)
 rw[h,d1,d2,Nat.and_self,Nat.zero_div]at this
 subst this
 exact⟨l,hl,by omega⟩
theorem zerb: ∀d,d<=16->pwN (2^d)=true:=by decide+kernel
theorem z72{n:Nat}(h1:1<=n)(h2:n<=65536):(zqr n=1)↔zbj (n:Int)=true:=by
 have h:=zabb (zbyb h1 h2)
 constructor
 ·intro h3
  rw[h3]at h
  have h4:n&&&(n-1)=0:=Nat.eq_of_beq_eq_true (h.symm.trans rfl)
  obtain⟨d,hd,rfl⟩:=zesb h1 h2 h4
  exact zi1 d hd
 ·intro h3
  obtain⟨d,hd,e⟩:=zfy h3
  have e':n=2^d:=by omega
  rw[e',zerb d hd]at h
  rw[e']
  exact Nat.eq_of_beq_eq_true h
end
section
theorem zii{a b:Nat}{x y:Int}(hx:x=(a:Int))(hy:y=(b:Int))(ha:a<18446744073709551616)(hb:b<18446744073709551616):bits .and .u64 x y=((a&&&b:Nat):Int):=by
 rw[hx,hy];exact u64_and_nat a b ha hb
theorem zgf{a:Nat}{x:Int}(hx:x=(a:Int))(ha:a<18446744073709551616):IntKind.u64.wrap x=(a:Int):=by
 rw[hx];simp[IntKind.wrap,IntKind.bits,IntKind.signed];omega
theorem zf9(a:Nat)(ha:a<9223372036854775808):(BitVec.ofInt 64 (a:Int)).toNat=a:=by
 rw[BitVec.ofInt_natCast,BitVec.toNat_ofNat];exact Nat.mod_eq_of_lt (by omega)
theorem zjs(a b:Nat)(ha:a<9223372036854775808)(hb:b<9223372036854775808):bits .and .i64 (a:Int) (b:Int)=((a&&&b:Nat):Int):=by
 have hx:a&&&b<2^63:=Nat.and_lt_two_pow _ (by omega)
 show IntKind.i64.wrap ((BitVec.ofInt 64 (a:Int)&&&BitVec.ofInt 64 (b:Int)).toNat:Int)=_
 rw[BitVec.toNat_and,zf9 a ha,zf9 b hb,IntKind.wrap_i64]
 omega
theorem zr5(a:Nat){j:Nat}(ha:a<9223372036854775808)(hj:j<63):bits .andNot .i64 (a:Int) ((2^j:Nat):Int)=((a-a/2^j%2*2^j:Nat):Int):=by
 have hb:2^j<2^63:=Nat.pow_lt_pow_right (by omega) hj
 show IntKind.i64.wrap ((BitVec.ofInt 64 (a:Int)&&& ~~~ BitVec.ofInt 64 ((2^j:Nat):Int)).toNat:Int)=_
 rw[BitVec.toNat_and,BitVec.toNat_not,zf9 a ha,zf9 _ (by omega),IntKind.wrap_i64]
 rw[show 2^64-1-2^j=2^64-(2^j+1)by omega,z2s (by omega) (by omega)]
 omega
theorem z04(a b:Nat)(ha:a<9223372036854775808)(hb:b<9223372036854775808):bits .or .i64 (a:Int) (b:Int)=((a|||b:Nat):Int):=by
 have hx:a|||b<2^63:=Nat.or_lt_two_pow (by omega) (by omega)
 show IntKind.i64.wrap ((BitVec.ofInt 64 (a:Int)|||BitVec.ofInt 64 (b:Int)).toNat:Int)=_
 rw[BitVec.toNat_or,zf9 a ha,zf9 b hb,IntKind.wrap_i64]
 omega
set_option maxHeartbeats 1000000 in
theorem z1o(n:Nat)(w:World)(hn:n<=65536):
  Calls Tryz.prog 277 #[.int .u64 (n:Int)] w λe w'=>e= .returned (.int .i64 (zqr n))/\w=w':=by
 go_enter Tryz.func277,Tryz.ntmps277
 go_wp2_with fail
 go_ret
 refine⟨za9 ?_,rfl⟩
 have hand: ∀x y:Nat,x&&&y<=x:=λx y=>Nat.and_le_left
 obtain⟨a0,ha0⟩: ∃a,a=(n/2&&&6148914691236517205):=⟨_,rfl⟩
 obtain⟨a1,ha1⟩: ∃a,a=(n&&&6148914691236517205):=⟨_,rfl⟩
 have l0:a0<=65536:=by have:=hand (n/2) 6148914691236517205;omega
 have l1:a1<=65536:=by have:=hand n 6148914691236517205;omega
 obtain⟨b0,hb0⟩: ∃a,a=((a0+a1)/4&&&3689348814741910323):=⟨_,rfl⟩
 obtain⟨b1,hb1⟩: ∃a,a=(a0+a1&&&3689348814741910323):=⟨_,rfl⟩
 have m0:b0<=131072:=by have:=hand ((a0+a1)/4) 3689348814741910323;omega
 have m1:b1<=131072:=by have:=hand (a0+a1) 3689348814741910323;omega
 obtain⟨c0,hc0⟩: ∃a,a=((b0+b1)/16+(b0+b1)&&&1085102592571150095):=⟨_,rfl⟩
 have p0:c0<=1048576:=by have:=hand ((b0+b1)/16+(b0+b1)) 1085102592571150095;omega
 have E1:bits BinOp.and IntKind.u64 ((n:Int)/2) 6148914691236517205=(a0:Int):=by rw[ha0];exact zii (by omega) rfl (by omega) (by omega)
 have E2:bits BinOp.and IntKind.u64 (n:Int) 6148914691236517205=(a1:Int):=by rw[ha1];exact zii rfl rfl (by omega) (by omega)
 have E3:IntKind.u64.wrap ((a0:Int)+a1)=((a0+a1:Nat):Int):=zgf (by omega) (by omega)
 have E4:bits BinOp.and IntKind.u64 (((a0+a1:Nat):Int)/4) 3689348814741910323=(b0:Int):=by rw[hb0];exact zii (by omega) rfl (by omega) (by omega)
 have E5:bits BinOp.and IntKind.u64 ((a0+a1:Nat):Int) 3689348814741910323=(b1:Int):=by rw[hb1];exact zii rfl rfl (by omega) (by omega)
 have E6:IntKind.u64.wrap ((b0:Int)+b1)=((b0+b1:Nat):Int):=zgf (by omega) (by omega)
 have E7:IntKind.u64.wrap (((b0+b1:Nat):Int)/16+((b0+b1:Nat):Int))=(((b0+b1)/16+(b0+b1):Nat):Int):=zgf (by omega) (by omega)
 have E8:bits BinOp.and IntKind.u64 (((b0+b1)/16+(b0+b1):Nat):Int) 1085102592571150095=(c0:Int):=by rw[hc0];exact zii rfl rfl (by omega) (by omega)
 have E9:IntKind.u64.wrap ((c0:Int)+(c0:Int)/256)=((c0+c0/256:Nat):Int):=zgf (by omega) (by omega)
 obtain⟨d,hd⟩: ∃d,d=c0+c0/256:=⟨_,rfl⟩
 have E10:IntKind.u64.wrap ((d:Int)+(d:Int)/65536)=((d+d/65536:Nat):Int):=zgf (by omega) (by omega)
 obtain⟨e,he⟩: ∃e,e=d+d/65536:=⟨_,rfl⟩
 have E11:IntKind.u64.wrap ((e:Int)+(e:Int)/4294967296)=((e+e/4294967296:Nat):Int):=zgf (by omega) (by omega)
 simp only[E1,E2,E3,E4,E5,E6,E7,E8,E9,<-hd,E10,<-he,E11]
 rw[IntWalk.wrap64_in _ ⟨by omega,by omega⟩]
 rw[show(127:Int)=((127:Nat):Int)from rfl,zjs _ _ (by omega) (by omega)]
 subst he hd hc0 hb0 hb1 ha0 ha1
 rfl
theorem z71(n:Nat)(w:World)(hn:n<=65536):
  Calls Tryz.prog 227 #[.int .u64 (n:Int)] w λe w'=>e= .returned (.int .i64 (zqr n))/\w=w':=by
 go_enter Tryz.func227,Tryz.ntmps227
 go_wp2_with fail
 refine(z1o n _ hn).mono ?_
 rintro e w' ⟨rfl,rfl⟩
 go_wp2_with fail
 go_ret
 exact⟨rfl,rfl⟩
theorem zvg{n:Int}(h: ¬(1<=n/\n<=65536)):zbj n=false:=by
 rcases hf:zbj n with _ |_
 ·rfl
 ·exact absurd (ze8 hf) h
theorem zg3(n:Int)(w:World):
  Calls Tryz.prog 154 #[.int .i64 n] w λe w'=>e= .returned (.bool (zbj n))/\w=w':=by
 by_cases h1:1<=n
 ·by_cases h2:n<=65536
  ·obtain⟨m,rfl⟩:=Int.eq_ofNat_of_zero_le (show 0<=n by omega)
   have hf:zbj (m:Int)=((zqr m:Int)==1):=by
    have h:=z72 (n:=m) (by omega) (by omega)
    rw[Bool.eq_iff_iff,<-h]
    simp;omega
   have HF:=Lib.hid hf
   clear hf
   go_enter Tryz.func154,Tryz.ntmps154
   go_wp2_with fail
   refine(z71 m _ (by omega)).mono ?_
   rintro e w' ⟨rfl,rfl⟩
   go_wp2_with fail
   go_ret
   exact⟨zcp HF.out.symm,rfl⟩
  ·have HF:=Lib.hid (zvg (n:=n) (by omega))
   go_enter Tryz.func154,Tryz.ntmps154
   go_wp2_with fail
   go_ret
   exact⟨zcp HF.out.symm,rfl⟩
 ·have HF:=Lib.hid (zvg (n:=n) (by omega))
  go_enter Tryz.func154,Tryz.ntmps154
  go_wp2_with fail
  go_ret
  exact⟨zcp HF.out.symm,rfl⟩
theorem zf0(x:Int)(w:World):
  Calls Tryz.prog 128 #[.int .i64 x] w λe w'=>e= .returned (.bool (za6 x))/\w=w':=by
 by_cases h:0<=x
 ·go_enter Tryz.func128,Tryz.ntmps128
  go_wp2_with fail
  go_ret
  exact⟨zcp (by simp[za6,h]),rfl⟩
 ·go_enter Tryz.func128,Tryz.ntmps128
  go_wp2_with fail
  go_ret
  exact⟨zcp (by simp[za6];omega),rfl⟩
theorem zwh(x n:Int)(w:World):
  Calls Tryz.prog 180 #[.int .i64 x, .int .i64 n] w λe w'=>e= .returned (.bool (ofI x n))/\w=w':=by
 rcases hf:zbj n with _ |_
 ·have HF:=Lib.hid hf
  clear hf
  go_enter Tryz.func180,Tryz.ntmps180
  go_wp2_with fail
  refine(zg3 n _).mono ?_
  rintro e w' ⟨rfl,rfl⟩
  rw[HF.out]
  go_wp2_with fail
  go_ret
  exact⟨zcp (by simp[ofI,HF.out]),rfl⟩
 ·obtain⟨b1,b2⟩:=ze8 hf
  have HF:=Lib.hid hf
  clear hf
  by_cases h:0<=x
  ·go_enter Tryz.func180,Tryz.ntmps180
   go_wp2_with fail
   refine(zg3 n _).mono ?_
   rintro e w' ⟨rfl,rfl⟩
   rw[HF.out]
   go_wp2_with fail
   go_ret
   exact⟨zcp (by simp[ofI,HF.out,h]),rfl⟩
  ·go_enter Tryz.func180,Tryz.ntmps180
   go_wp2_with fail
   refine(zg3 n _).mono ?_
   rintro e w' ⟨rfl,rfl⟩
   rw[HF.out]
   go_wp2_with fail
   go_ret
   exact⟨zcp (by simp[ofI,HF.out];omega),rfl⟩
theorem zze{m:Nat}(hm:m<=131070){k:Nat}(hk:k<lv m):(bits BinOp.and IntKind.i64 ((m:Int)/2^k) 1==1)=true:=by
 obtain⟨h1,h2,_⟩:=zfc hm
 generalize lv m=l at*
 have e:((m:Int)/2^k)=((m/2^k:Nat):Int):=by simp
 have hlt:m/2^k<9223372036854775808:=Nat.lt_of_le_of_lt (Nat.div_le_self _ _) (by omega)
 rw[e,show(1:Int)=((1:Nat):Int)from rfl,zjs _ _ hlt (by omega),nat_mask1]
 have h3:m%2^l/2^k%2=m/2^k%2:=by
  obtain⟨j,rfl⟩: ∃j,l=k+(j+1):=⟨l-k-1,by omega⟩
  rw[Nat.pow_add,Nat.mod_mul_right_div_self,Nat.pow_succ,Nat.mul_comm,Nat.mod_mul_right_mod]
 rw[h2]at h3
 have h4:(2^l-1)/2^k%2=1:=by
  obtain⟨j,rfl⟩: ∃j,l=k+(j+1):=⟨l-k-1,by omega⟩
  have hp:=zag k
  have hj:=zag j
  have e1:2^(k+(j+1))-1=2^k*(2*2^j-1)+(2^k-1):=by
   rw[Nat.pow_add,Nat.pow_succ,Nat.mul_comm (2^j) 2,Nat.mul_sub,Nat.mul_one]
   have:2^k*1<=2^k*(2*2^j):=Nat.mul_le_mul_left _ (by omega)
   omega
  rw[e1,Nat.mul_add_div hp,Nat.div_eq_of_lt (by omega)]
  omega
 rw[h4]at h3
 rw[<-h3];rfl
theorem zql{m:Nat}(hm:m<=131070):(bits BinOp.and IntKind.i64 ((m:Int)/2^lv m) 1==1)=false:=by
 obtain⟨h1,_,h2⟩:=zfc hm
 generalize lv m=l at*
 have e:((m:Int)/2^l)=((m/2^l:Nat):Int):=by simp
 have hlt:m/2^l<9223372036854775808:=Nat.lt_of_le_of_lt (Nat.div_le_self _ _) (by omega)
 rw[e,show(1:Int)=((1:Nat):Int)from rfl,zjs _ _ hlt (by omega),nat_mask1,h2]
 rfl
def zcyb(m:Nat)(w:World)(a':Act)(w':World):Prop:=
 w=w'/\∃(k:Nat) (u4 u5 u6 u7 u8 u9 u10 u11 u12 u13:Value),a'={tmps:= #[.int .i64 m,undef, .int .i64 0, .int .i64 k,u4,u5,u6,u7,u8,u9,u10,u11,u12,u13,undef],defers:=[]}/\k<=lv m
def z2g(m:Nat)(a':Act)(_:World):Nat:=lv m-(intOf (a'.tmps.getD 3 undef)).toNat
theorem zjc(x:Int)(w:World):
  Calls Tryz.prog 129 #[.int .i64 x] w λe w'=>e= .returned (.int .i64 (lvI x))/\w=w':=by
 rcases hf:za6 x with _ |_
 ·have HF:=Lib.hid hf
  have HL:=Lib.hid (zv5 hf)
  clear hf
  go_enter Tryz.func129,Tryz.ntmps129
  go_wp2_with fail
  go_step3
  go_wp2_with fail
  refine(zf0 x _).mono ?_
  rintro e w' ⟨rfl,rfl⟩
  rw[HF.out]
  go_wp2_with fail
  try rw[Exit.noGoto_ret]
  go_ret
  exact⟨za9 HL.out.symm,rfl⟩
 ·have HF:=Lib.hid hf
  have HL:=Lib.hid (zla hf)
  rw[zdo]at hf
  obtain⟨m,rfl⟩:=Int.eq_ofNat_of_zero_le hf.1
  rw[Int.toNat_natCast]at HL
  have hm:m<=131070:=by omega
  obtain⟨hl,_⟩:=zfc hm
  go_enter Tryz.func129,Tryz.ntmps129
  go_wp2_with fail
  refine wp_scope_jumps 0 (zcyb m w) (z2g m) rfl ?_ ?_
  rotate_left
  ·rintro a' w' ⟨rfl,k,u4,u5,u6,u7,u8,u9,u10,u11,u12,u13,rfl,hk⟩
   by_cases hlt:k<lv m
   ·have ht:=zze hm hlt
    go_wp2_with fail
    go_step3
    exact⟨rfl,⟨rfl,k+1,_,_,_,_,_,_,_,_,_,_,rfl,by omega⟩,by simp[z2g,intOf];omega⟩
   ·obtain rfl:k=lv m:=by omega
    have ht:=zql hm
    go_wp2_with fail
    try simp only[Exit.jump]
    go_ret
    exact⟨za9 HL.out.symm,rfl⟩
  ·go_wp2_with fail
   refine(zf0 m _).mono ?_
   rintro e w' ⟨rfl,rfl⟩
   rw[HF.out]
   go_wp2_with fail
   go_step3
   by_cases hlt:0<lv m
   ·have ht:=zze hm hlt
    simp at ht
    go_wp2_with fail
    go_step3
    exact⟨rfl,⟨rfl,1,_,_,_,_,_,_,_,_,_,_,rfl,by omega⟩⟩
   ·have hz:lv m=0:=by omega
    have ht:=zql hm
    rw[hz]at HL ht
    clear hz
    simp at ht
    go_wp2_with fail
    try simp only[Exit.jump]
    go_ret
    exact⟨za9 HL.out.symm,rfl⟩
theorem zzp{k:Nat}(h:k<=16):1<=(2:Int)^k/\(2:Int)^k<=65536:=by
 have h1:(2:Nat)^k<=2^16:=Nat.pow_le_pow_right (by omega) h
 have h2:=zag k
 have e:(2:Int)^k=((2^k:Nat):Int):=by simp
 omega
theorem zg5(x:Int)(w:World):
  Calls Tryz.prog 255 #[.int .i64 x] w λe w'=>e= .returned (.int .i64 (zco x))/\w=w':=by
 obtain⟨h1,h2⟩:=zqk x
 by_cases h:0<lvI x
 ·have HH:Hid (zco x=2^(lvI x-1).toNat):=Lib.hid (by simp[zco,h])
  have hb:=zzp (k:=(lvI x).toNat-1) (by omega)
  go_enter Tryz.func255,Tryz.ntmps255
  go_wp2_with fail
  refine(zjc x _).mono ?_
  rintro e w' ⟨rfl,rfl⟩
  go_wp2_with fail
  go_ret
  exact⟨za9 (by rw[HH.out,show(lvI x-1).toNat=(lvI x).toNat-1 by omega]),rfl⟩
 ·have HH:Hid (zco x=0):=Lib.hid (by simp[zco,h])
  go_enter Tryz.func255,Tryz.ntmps255
  go_wp2_with fail
  refine(zjc x _).mono ?_
  rintro e w' ⟨rfl,rfl⟩
  go_wp2_with fail
  go_ret
  exact⟨za9 HH.out.symm,rfl⟩
theorem zvq(x:Int):0<=zco x/\zco x<=32768:=by
 obtain⟨h1,h2⟩:=zqk x
 unfold zco
 split
 ·have h3:(2:Nat)^(lvI x-1).toNat<=2^15:=Nat.pow_le_pow_right (by omega) (by omega)
  have e:(2:Int)^(lvI x-1).toNat=((2^(lvI x-1).toNat:Nat):Int):=by simp
  rw[e]
  generalize (2:Nat)^(lvI x-1).toNat=q at*
  omega
 ·omega
theorem zk3{x:Int}(h:za6 x=false):zco x=0:=by simp[zco,zv5 h]
theorem zv2(x:Int)(w:World):
  Calls Tryz.prog 179 #[.int .i64 x] w λe w'=>e= .returned (.int .i64 (zbl x))/\w=w':=by
 obtain⟨h1,h2⟩:=zvq x
 rcases hn:za6 x with _ |_
 ·have HH:=Lib.hid (zk3 hn)
  go_enter Tryz.func179,Tryz.ntmps179
  go_wp2_with fail
  refine(zg5 x _).mono ?_
  rintro e w' ⟨rfl,rfl⟩
  rw[HH.out]
  go_wp2_with fail
  go_ret
  exact⟨za9 (by simp[zbl,HH.out]),rfl⟩
 ·rw[zdo]at hn
  by_cases hz:zco x=0
  ·have HH:=Lib.hid hz
   clear hz
   go_enter Tryz.func179,Tryz.ntmps179
   go_wp2_with fail
   refine(zg5 x _).mono ?_
   rintro e w' ⟨rfl,rfl⟩
   rw[HH.out]
   go_wp2_with fail
   go_ret
   exact⟨za9 (by simp[zbl,HH.out]),rfl⟩
  ·have hz':(zco x==0)=false:=by simpa using hz
   have HL:Hid (zbl x=x-zco x):=Lib.hid (by simp[zbl,hz])
   go_enter Tryz.func179,Tryz.ntmps179
   go_wp2_with fail
   refine(zg5 x _).mono ?_
   rintro e w' ⟨rfl,rfl⟩
   go_wp2_with fail
   go_ret
   exact⟨za9 HL.out.symm,rfl⟩
theorem zts(x:Int)(w:World):
  Calls Tryz.prog 178 #[.int .i64 x] w λe w'=>e= .returned (.int .i64 (zby x))/\w=w':=by
 obtain⟨h1,h2⟩:=zvq x
 rcases hn:za6 x with _ |_
 ·have HH:=Lib.hid (zk3 hn)
  go_enter Tryz.func178,Tryz.ntmps178
  go_wp2_with fail
  refine(zg5 x _).mono ?_
  rintro e w' ⟨rfl,rfl⟩
  rw[HH.out]
  go_wp2_with fail
  go_ret
  exact⟨za9 (by simp[zby,HH.out]),rfl⟩
 ·rw[zdo]at hn
  by_cases hz:zco x=0
  ·have HH:=Lib.hid hz
   clear hz
   go_enter Tryz.func178,Tryz.ntmps178
   go_wp2_with fail
   refine(zg5 x _).mono ?_
   rintro e w' ⟨rfl,rfl⟩
   rw[HH.out]
   go_wp2_with fail
   go_ret
   exact⟨za9 (by simp[zby,HH.out]),rfl⟩
  ·have hz':(zco x==0)=false:=by simpa using hz
   have HL:Hid (zby x=x+zco x):=Lib.hid (by simp[zby,hz])
   go_enter Tryz.func178,Tryz.ntmps178
   go_wp2_with fail
   refine(zg5 x _).mono ?_
   rintro e w' ⟨rfl,rfl⟩
   go_wp2_with fail
   go_ret
   exact⟨za9 HL.out.symm,rfl⟩
theorem z8l(n:Int)(w:World):
  Calls Tryz.prog 250 #[.int .i64 n] w λe w'=>e= .returned (.int .i64 (zlo n))/\w=w':=by
 rcases hf:zbj n with _ |_
 ·have HF:=Lib.hid hf
  clear hf
  go_enter Tryz.func250,Tryz.ntmps250
  go_wp2_with fail
  refine(zg3 n _).mono ?_
  rintro e w' ⟨rfl,rfl⟩
  rw[HF.out]
  go_wp2_with fail
  go_ret
  exact⟨za9 (by simp[zlo,HF.out]),rfl⟩
 ·obtain⟨b1,b2⟩:=ze8 hf
  have HF:=Lib.hid hf
  clear hf
  go_enter Tryz.func250,Tryz.ntmps250
  go_wp2_with fail
  refine(zg3 n _).mono ?_
  rintro e w' ⟨rfl,rfl⟩
  rw[HF.out]
  go_wp2_with fail
  go_ret
  exact⟨za9 (by simp[zlo,HF.out]),rfl⟩
theorem z54(x y:Int)(w:World):
  Calls Tryz.prog 74 #[.int .i64 x, .int .i64 y] w λe w'=>e= .returned (.bool (zbh x y))/\w=w':=by
 rcases hx:za6 x with _ |_
 ·have HX:=Lib.hid hx
  clear hx
  go_enter Tryz.func74,Tryz.ntmps74
  go_wp2_with fail
  refine(zf0 x _).mono ?_
  rintro e w' ⟨rfl,rfl⟩
  rw[HX.out]
  go_wp2_with fail
  go_ret
  exact⟨zcp (by simp[zbh,HX.out]),rfl⟩
 ·rcases hy:za6 y with _ |_
  ·have HX:=Lib.hid hx
   have HY:=Lib.hid hy
   clear hx hy
   go_enter Tryz.func74,Tryz.ntmps74
   go_wp2_with fail
   refine(zf0 x _).mono ?_
   rintro e w' ⟨rfl,rfl⟩
   rw[HX.out]
   go_wp2_with fail
   refine(zf0 y _).mono ?_
   rintro e w' ⟨rfl,rfl⟩
   rw[HY.out]
   go_wp2_with fail
   go_ret
   exact⟨zcp (by simp[zbh,HX.out,HY.out]),rfl⟩
  ·have HX:=Lib.hid hx
   have HY:=Lib.hid hy
   rw[zdo]at hx hy
   have hL:0<=lvI y:=by rw[zla HY.out];omega
   obtain⟨_,hL2⟩:=zqk y
   obtain⟨hp1,hp2⟩:=zzp (k:=(lvI y).toNat) (by omega)
   go_enter Tryz.func74,Tryz.ntmps74
   go_wp2_with fail
   refine(zf0 x _).mono ?_
   rintro e w' ⟨rfl,rfl⟩
   rw[HX.out]
   go_wp2_with fail
   refine(zf0 y _).mono ?_
   rintro e w' ⟨rfl,rfl⟩
   rw[HY.out]
   go_wp2_with fail
   refine(zjc y _).mono ?_
   rintro e w' ⟨rfl,rfl⟩
   go_wp2_with fail
   ·go_ret
    have h3:y-(2^(lvI y).toNat-1)<=x:=by assumption
    exact⟨zcp (by rw[Bool.eq_iff_iff,zic,zph];simp[HX.out,HY.out,h3]),rfl⟩
   ·go_ret
    have h3:x<y-(2^(lvI y).toNat-1):=by assumption
    exact⟨zcp (by rw[Bool.eq_iff_iff,zic,zph];constructor<;>intro h<;>first |cases h;done |omega),rfl⟩
theorem zqp{x n:Int}(h:ofI x n=true):0<=x/\x<=131070/\1<=n/\n<=65536/\x<=2*n-2:=by
 rw[zf8]at h
 have:=ze8 h.1
 omega
theorem ztm{x n:Int}(h:ofI x n=false\/x=n-1):parI x n= -1:=by
 rcases h with h |h<;>simp[parI,h]
theorem zbob{m d:Nat}(hd:d<=16)(hm:m<=2*2^d-2)(hne:m≠2^d-1):lv m<d:=by
 have h16:2^d<=2^16:=Nat.pow_le_pow_right (by omega) hd
 obtain⟨_,h1,h2⟩:=zfc (x:=m) (by omega)
 have hp:=zag d
 rcases Nat.lt_or_ge (lv m) d with h |h
 ·exact h
 ·exfalso
  have h3:2^d<=2^lv m:=Nat.pow_le_pow_right (by omega) h
  have h4:=Nat.div_add_mod m (2^lv m)
  rw[h1]at h4
  rcases Nat.eq_zero_or_pos (m/2^lv m)with h5 |h5
  ·rw[h5]at h4
   have:2^lv m<2^(d+1):=by rw[Nat.pow_succ];omega
   have:lv m<d+1:=(Nat.pow_lt_pow_iff_right (by omega)).1 this
   have:lv m=d:=by omega
   rw[this]at h4
   omega
  ·have:2^lv m*1<=2^lv m*(m/2^lv m):=Nat.mul_le_mul_left _ h5
   omega
theorem z8b{m l:Nat}(hm:m<=131070)(hl:l=lv m)(h16:l<16):bits BinOp.andNot IntKind.i64 (bits BinOp.or IntKind.i64 (m:Int) (wrap64 (2^l))) (wrap64 (2^(l+1)))=(upN m:Int):=by
 obtain⟨_,h1,h2⟩:=zfc hm
 rw[<-hl]at h1 h2
 have hp:=zag l
 have hb:2^(l+1)<=2^16:=Nat.pow_le_pow_right (by omega) (by omega)
 have e2:2^(l+1)=2*2^l:=by rw[Nat.pow_succ];omega
 have w1:wrap64 ((2:Int)^l)=((2^l:Nat):Int):=by
  rw[show((2:Int)^l)=((2^l:Nat):Int)by simp]
  exact IntWalk.wrap64_in _ ⟨by omega,by omega⟩
 have w2:wrap64 ((2:Int)^(l+1))=((2^(l+1):Nat):Int):=by
  rw[show((2:Int)^(l+1))=((2^(l+1):Nat):Int)by simp]
  exact IntWalk.wrap64_in _ ⟨by omega,by omega⟩
 rw[w1,w2,z04 _ _ (by omega) (by omega)]
 have hm0:m/2^l%2=0:=h2
 rw[z47 hm0,zr5 _ (by omega) (by omega)]
 have hd:(m+2^l)/2^(l+1)=m/2^(l+1):=by
  have e4:=Nat.div_add_mod m (2^(l+1))
  have e5:m%2^(l+1)=2^l-1:=by
   rw[Nat.pow_succ,Nat.mod_mul,h1,h2];omega
  rw[e5]at e4
  have e6:m+2^l=(2^(l+1)-1)+m/2^(l+1)*2^(l+1):=by rw[Nat.mul_comm (m/2^(l+1))];omega
  rw[e6,Nat.add_mul_div_right _ _ (zag _),Nat.div_eq_of_lt (by omega)]
  omega
 rw[hd]
 unfold upN
 rw[<-hl]
 have hge:m/2^(l+1)%2=1->2^(l+1)<=m:=λh=>by
  rcases Nat.lt_or_ge m (2^(l+1))with h3 |h3
  ·rw[Nat.div_eq_of_lt h3]at h;omega
  ·exact h3
 rcases Nat.mod_two_eq_zero_or_one (m/2^(l+1))with h |h
 ·rw[h];simp
 ·have:=hge h
  rw[h,if_neg (by omega)]
  congr 1
  omega
theorem zgr(x n:Int)(w:World):
  Calls Tryz.prog 116 #[.int .i64 x, .int .i64 n] w λe w'=>e= .returned (.int .i64 (parI x n))/\Ext w w':=by
 rcases ho:ofI x n with _ |_
 ·have HP:=Lib.hid (ztm (.inl ho))
  have HO:=Lib.hid ho
  clear ho
  go_enter Tryz.func116,Tryz.ntmps116
  go_wp2_with fail
  refine(zwh x n _).mono ?_
  rintro e w' ⟨rfl,rfl⟩
  rw[HO.out]
  go_wp2_with fail
  go_ret
  exact⟨za9 HP.out.symm,Ext.refl _⟩
 ·obtain⟨b1,b2,b3,b4,b5⟩:=zqp ho
  have HO:=Lib.hid ho
  by_cases hr:x=n-1
  ·have HP:=Lib.hid (ztm (.inr hr))
   have hr':(x==n-1)=true:=by simpa using hr
   clear ho hr
   go_enter Tryz.func116,Tryz.ntmps116
   go_wp2_with fail
   refine(zwh x n _).mono ?_
   rintro e w' ⟨rfl,rfl⟩
   rw[HO.out]
   go_wp2_with fail
   go_ret
   exact⟨za9 HP.out.symm,Ext.refl _⟩
  ·have hr':(x==n-1)=false:=by simpa using hr
   have HP:Hid (parI x n=(upN x.toNat:Int)):=Lib.hid (by simp[parI,ho,hr])
   obtain⟨m,rfl⟩:=Int.eq_ofNat_of_zero_le b1
   rw[Int.toNat_natCast]at HP
   have hlv:lv m<16:=by
    obtain⟨d,hd,hd'⟩:=zfy (zf8.1 ho).1
    have:=zbob (m:=m) hd (by omega) (by omega)
    omega
   have HL:=Lib.hid (zla (x:=(m:Int)) (zdo.2 (by omega)))
   rw[Int.toNat_natCast]at HL
   obtain⟨l,hl⟩: ∃l,l=lv m:=⟨_,rfl⟩
   rw[<-hl]at HL hlv
   have HLL:=Lib.hid hl
   clear ho hr hl
   go_enter Tryz.func116,Tryz.ntmps116
   go_wp2_with fail
   refine(zwh m n _).mono ?_
   rintro e w' ⟨rfl,rfl⟩
   rw[HO.out]
   go_wp2_with fail
   refine(zjc m _).mono ?_
   rintro e w' ⟨rfl,rfl⟩
   rw[HL.out]
   go_wp2_with fail
   go_quiet (fail)
   go_wp2_with fail
   go_ret
   exact⟨za9 (by rw[HP.out];exact z8b (by omega) HLL.out hlv),(Ext.refl _).drewN _⟩
theorem zyc(x n:Int)(w:World):
  Calls Tryz.prog 115 #[.int .i64 x, .int .i64 n] w λe w'=>e= .returned (.int .i64 (sibI x n))/\Ext w w':=by
 obtain⟨p,hp⟩: ∃p,p=parI x n:=⟨_,rfl⟩
 have HP:=Lib.hid hp
 by_cases h1:p<0
 ·have HS:Hid (sibI x n= -1):=Lib.hid (by simp[sibI,<-hp,h1])
  clear hp
  go_enter Tryz.func115,Tryz.ntmps115
  go_wp2_with fail
  refine(zgr x n _).mono ?_
  rintro e w1 ⟨rfl,hb⟩
  rw[<-HP.out]
  go_wp2_with fail
  go_ret
  exact⟨za9 HS.out.symm,hb⟩
 ·by_cases h2:x<p
  ·have HS:Hid (sibI x n=zby p):=Lib.hid (by simp[sibI,<-hp,h1,h2])
   clear hp
   go_enter Tryz.func115,Tryz.ntmps115
   go_wp2_with fail
   refine(zgr x n _).mono ?_
   rintro e w1 ⟨rfl,hb⟩
   rw[<-HP.out]
   go_wp2_with fail
   refine(zts p _).mono ?_
   rintro e w2 ⟨rfl,rfl⟩
   go_wp2_with fail
   go_ret
   exact⟨za9 HS.out.symm,hb⟩
  ·have HS:Hid (sibI x n=zbl p):=Lib.hid (by simp[sibI,<-hp,h1,h2])
   clear hp
   go_enter Tryz.func115,Tryz.ntmps115
   go_wp2_with fail
   refine(zgr x n _).mono ?_
   rintro e w1 ⟨rfl,hb⟩
   rw[<-HP.out]
   go_wp2_with fail
   refine(zv2 p _).mono ?_
   rintro e w2 ⟨rfl,rfl⟩
   go_wp2_with fail
   go_ret
   exact⟨za9 HS.out.symm,hb⟩
def zyj(x0 n:Int)(w:World)(k:Nat)(x l:Value)(wr:World):Prop:=
 ∃(y:Int) (done:List Int) (g:Option Nat),x= .int .i64 y/\zb2 x0 n=done++(if y<0 then[]else y::zda n k y)/\(0<=y->17<=k+lvI y)/\done.length+k<=17/\OwI wr w.heap.size l done g/\Ext w wr
theorem zwq(x n:Int)(w:World):
  Calls Tryz.prog 60 #[.int .i64 x, .int .i64 n] w (Ret w λw' v=>∃g,OwI w' w.heap.size v (zb2 x n) g):=by
 have HS:Hid (zyj x n w 16 (.int .i64 (parI x n)) (.slice none 0 0) w):=Lib.hid (by
  refine⟨_,[],none,rfl,?_,λh=>?_,by simp,Ow.nil _ _ _ _,Ext.refl _⟩
  ·rw[List.nil_append,zb2,zda]
  ·have:=(zje h).2.2;omega)
 go_enter Tryz.func60,Tryz.ntmps60
 go_wp2_with fail
 refine(zgr x n _).mono ?_
 rintro e w1 ⟨rfl,hb⟩
 go_wp2_with fail
 go_loopg [0,5] 16 (λk x0 l wr=>zyj x n w k x0 l wr)
 case atStart=>
  obtain⟨y,done,g,e1,e2,e3,e4,e5,e6⟩:=HS.out
  exact⟨y,done,g,e1,e2,e3,e4,e5.ext hb,e6.trans hb⟩
 case round=>
  obtain⟨y,done,g,rfl,e2,e3,e4,e5,e6⟩:=hrel
  have E2:=Lib.hid e2
  obtain⟨a,c,rfl⟩:=e5.form
  clear e2
  by_cases hy:0<=y
  ·have hk:1<=gk:=by have:=e3 hy;have:=zqk y;omega
   go_wp2_with (first |(at_builtin;refine zc5 ?_))
   refine zc3 (zfr rfl (.tmp 14) (.tmp 16) rfl rfl (e5.alloc _) rfl rfl (zqq _ _ _) ?_ ?_ ?_)
   ·simp;omega
   ·have:=e6.le;simp;omega
   intro a' c' g' w' h1 h2 h3
   have h4:=(e5.alloc _).grown h2 (e6.alloc _) (Nat.le_refl _)
   go_wp2_with fail
   refine(zgr y n _).mono ?_
   rintro e w2 ⟨rfl,hb2⟩
   go_wp2_with fail
   go_roundg (gk-1)
   case measure=>omega
   case rel=>
    refine⟨_,_,g',rfl,?_,λh=>?_,?_,h1.ext hb2,h4.trans hb2⟩
    ·rw[E2.out,if_neg (by omega),show gk=gk-1+1 by omega,List.append_assoc]
     rfl
    ·have:=(zje h).2.2;have:=e3 hy;omega
    ·simp;omega
  ·go_wp2_with fail
   go_ret
   exact⟨_,rfl,e6,g,by rw[E2.out,if_pos (by omega),List.append_nil];exact e5⟩
theorem zwo{n:Int}: ∀(f:Nat) (x:Int),∀y∈zda n f x,ofI y n=true/\0<=y/\y<=131070
 |0,x,y,h=>by cases h
 |f+1,x,y,h=>by
  unfold zda at h
  split at h
  ·cases h
  ·rename_i h0
   rcases List.mem_cons.1 h with h |h
   ·subst h
    have:=(zje (x:=x) (n:=n) (by omega)).2.1
    have hb:=zqp this
    exact⟨this,hb.1,hb.2.1⟩
   ·exact zwo f _ y h
theorem zwp{x n:Int}{y:Int}(h:y∈zb2 x n):ofI y n=true/\0<=y/\y<=131070:=zwo 17 x y h
theorem ztn{n:Int}: ∀(f:Nat) (x:Int),(zda n f x).length<=f
 |0,x=>Nat.le_refl _
 |f+1,x=>by
  unfold zda
  split
  ·exact Nat.zero_le _
  ·simp only[List.length_cons];have:=ztn (n:=n) f (parI x n);omega
theorem zjf(x n:Int):(zb2 x n).length<=17:=ztn 17 x
theorem z8e{x n:Int}: ∀y∈zb2 x n,I64 y:=λy h=>by have:=zwp h;exact⟨by omega,by omega⟩
def zsm(x0 n:Int)(w:World)(k:Nat)(x l i:Value)(wr:World):Prop:=
 ∃(y:Int) (j:Nat) (done:List Int) (g:Option Nat),x= .int .i64 y/\i= .int .i64 (j:Int)/\j+k=17/\j<=(zb2 x0 n).length/\(zb2 x0 n).drop j=zda n k y/\zbz x0 n=done++zcz n k y/\done.length=j/\
  OwI wr w.heap.size l done g/\Ext w wr
theorem zxv{n y:Int}{k:Nat}{l:List Int}{j:Nat}(h:l.drop j=zda n k y)(hj:j<l.length): ∃k',k=k'+1/\l[j]=parI y n/\0<=parI y n/\l.drop (j+1)=zda n k' (parI y n)/\zcz n k y=sibI y n::zcz n k' (parI y n):=by
 rw[List.drop_eq_getElem_cons hj]at h
 cases k with
 |zero=>cases h
 |succ k=>
  unfold zda at h
  split at h
  ·cases h
  ·rename_i h0
   injection h with h1 h2
   refine⟨k,rfl,h1,by omega,h2,?_⟩
   rw[zcz,if_neg h0]
theorem z0c(x n:Int)(w:World):
  Calls Tryz.prog 59 #[.int .i64 x, .int .i64 n] w (Ret w λw' v=>∃g,OwI w' w.heap.size v (zbz x n) g):=by
 have hlen:=zjf x n
 go_enter Tryz.func59,Tryz.ntmps59
 go_wp2_with fail
 refine(zwq x n _).mono ?_
 rintro e w1 ⟨v,rfl,hb,g1,ho⟩
 obtain⟨p,rfl,hp⟩:=ho.is_ z8e
 clear ho
 have HS:Hid (zsm x n w1 17 (.int .i64 x) (.slice none 0 0) (.int .i64 (0:Nat)) w1):=Lib.hid ⟨x,0,[],none,rfl,rfl,rfl,Nat.zero_le _,rfl,rfl,rfl,Ow.nil _ _ _ _,Ext.refl _⟩
 obtain⟨N,hN⟩: ∃N,N=(zb2 x n).length:=⟨_,rfl⟩
 have HN:=Lib.hid hN
 rw[<-hN]at hlen
 rw[<-hN]
 clear hN
 go_wp2_with fail
 go_loopg [0,5,12] 17 (λk x0 l i wr=>zsm x n w1 k x0 l i wr)
 case atStart=>exact HS.out
 case round=>
  obtain⟨y,j,done,g,rfl,rfl,e1,e2,e3,e4,e5,e6,e7⟩:=hrel
  have E3:=Lib.hid e3
  have E4:=Lib.hid e4
  have E5:=Lib.hid e5
  have E1:gk+j<=17/\17<=gk+j:=by omega
  obtain⟨a,c,rfl⟩:=e6.form
  rw[<-HN.out]at e2
  clear e1 e3 e4 e5
  by_cases hj:j<N
  ·have hj':j< (zb2 x n).length:=by have:=HN.out;omega
   obtain⟨k',h1,h2,h3,h4,h5⟩:=zxv E3.out hj'
   obtain⟨b,o,hpa,hcell⟩:=(hp.ext e7).at_ hj'
   rw[h2]at hcell
   have H1:=Lib.hid h1
   have H4:=Lib.hid h4
   have H5:=Lib.hid h5
   have HA:=Lib.hid hpa
   rw[hpa]
   clear h1 h2 h4 h5 hpa
   go_wp2_with fail
   refine(zyc y n _).mono ?_
   rintro e w2 ⟨rfl,hb2⟩
   go_wp2_with (first |(at_builtin;refine zc5 ?_))
   refine zc3 (zfr rfl (.tmp 16) (.tmp 20) rfl rfl ((e6.ext hb2).alloc _) rfl rfl (zqq _ _ _) ?_ ?_ ?_)
   ·simp;have:=E5.out;omega
   ·have:=(e7.trans hb2).le;simp;omega
   intro a' c' g' w' r1 r2 r3
   have r4:=((e6.ext hb2).alloc _).grown r2 ((e7.trans hb2).alloc _) (Nat.le_refl _)
   go_wp2_with fail
   rw[<-HA.out]
   have E5':=E5.out
   have H1':=H1.out
   go_roundg k'
   case measure=>omega
   case rel=>
    refine⟨_,j+1,_,g',rfl,rfl,by omega,?_,H4.out,?_,by simp;omega,r1,r4⟩
    ·have:=HN.out;omega
    ·rw[E4.out,H5.out,List.append_assoc];rfl
  ·go_wp2_with fail
   go_ret
   refine⟨_,rfl,hb.trans e7,g,OwI.base_mono ?_ hb.le⟩
   have h1:(zb2 x n).drop j=[]:=List.drop_eq_nil_of_le (by have:=HN.out;omega)
   rw[E3.out]at h1
   have h2:zcz n gk y=[]:=by
    cases gk with
    |zero=>rfl
    |succ k=>
     unfold zda at h1
     split at h1
     ·rename_i h3
      rw[zcz,if_pos h3]
     ·cases h1
   rw[E4.out,h2,List.append_nil]
   exact e6
end
end Go.Proofs.YtfjkblpnbgfkeaaGreat
