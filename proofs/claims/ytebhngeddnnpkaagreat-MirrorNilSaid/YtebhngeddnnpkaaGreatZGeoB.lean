import Derived.Test.YtebhngeddnnpkaaGreatZWire
import Derived.Test.YtebhngeddnnpkaaGreatProg
import Derived.Deep.QuietTactic
import Derived.BigQuiet
import Derived.Deep.LoopGhost
namespace Go.Proofs.YtebhngeddnnpkaaGreat
open Go.RowKit
set_option linter.unusedVariables false
section
theorem zm5{w:World}{x:Int}{e:TypeId}(b:UInt8)(h:x=(b.toNat:Int)):Sl (w.alloc (.cells #[.int .u8 x] e)) (λ_=>True) 1 ⟨some ⟨w.heap.size,0,none⟩,1⟩ [b].length ([b].map bv):=by
 subst h;exact z8r _ _ _
def z6p(l:List UInt8)(size m:Nat)(w:World)(b i:Value)(wr:World):Prop:=
 ∃(j:Nat) (done:List UInt8) (g:Option Nat),i= .int .i64 ((j:Int)-1)/\j<=size/\done.length+j=l.length+size/\l++beB size m=done++beB j m/\OwB wr w.heap.size b done g/\Ext w wr
theorem zuk(n:Int)(w:World)(hn:n=1\/n=2\/n=4\/n=8):
  Calls Tryz.prog 208 #[.int .i64 n] w λe w'=>e= .returned (.bool true)/\w=w':=by
 rcases hn with rfl |rfl |rfl |rfl<;>
 ·go_enter Tryz.func208,Tryz.ntmps208
  go_wp2_with fail
  go_ret
  exact⟨rfl,rfl⟩
theorem zgb(p:AC)(l:List UInt8){S:Nat->Prop}(size m:Nat)(w:World)(hp:By w S p l)(hl:l.length<=1000000000000)(hs:size=1\/size=2\/size=4\/size=8):
  Calls Tryz.prog 109 #[.slice p.a l.length p.c, .int .i64 (size:Int), .int .u64 (m:Int)] w (Ret w λw' v=>∃g,OwB w' w.heap.size v (l++beB size m) g):=by
 have hs8:size<=8:=by omega
 have hs1:1<=size:=by omega
 have HS:Hid ((size:Int)=1\/(size:Int)=2\/(size:Int)=4\/(size:Int)=8):=Lib.hid (by omega)
 clear hs
 go_enter Tryz.func109,Tryz.ntmps109
 go_wp2_with fail
 refine(zf3 p l _ hp (by omega)).mono ?_
 rintro e w1 ⟨v,rfl,hb,g1,ho⟩
 go_wp2_with fail
 refine(zuk _ _ HS.out).mono ?_
 rintro e w' ⟨rfl,rfl⟩
 go_wp2_with fail
 go_loopw [0,7] (λb i wr=>z6p l size m w b i wr) (λ_ i _=>(intOf i+1).toNat)
 case atStart=>exact⟨size,l,g1,rfl,by omega,by omega,rfl,ho,hb⟩
 case round=>
  obtain⟨j,done,g,rfl,e1,e2,e3,e4,e5⟩:=hrel
  have E3:=Lib.hid e3
  have E2:done.length<=l.length+size:=by omega
  have E2':=Lib.hid e2
  obtain⟨a,c,rfl⟩:=e4.form
  clear e3 e2
  by_cases h0:j=0
  ·subst h0
   go_wp2_with fail
   go_ret
   exact⟨_,rfl,(by(repeat (first |exact Ext.refl _ |refine Ext.drew ?_ |refine Ext.drewN ?_ _ |refine Ext.alloc ?_ _ |(refine Ext.setCell ?_ (by first |omega |(simp;done) |(simp;omega)) _) |refine Ext.trans ?_ (by assumption)))),g,by rw[E3.out];simpa[beB]using e4⟩
  ·obtain⟨k,rfl⟩: ∃k,j=k+1:=⟨j-1,by omega⟩
   have ek:((k+1:Nat):Int)-1=(k:Int):=by omega
   rw[ek]
   clear h0 ek
   go_wp2_with (first |(at_builtin;refine zdm ?_))
   refine zdg (zbi (l2:=[UInt8.ofNat (m/256^k)]) rfl (.tmp 20) (.tmp 26) rfl rfl (e4.alloc _) rfl rfl (zm5 _ ?_) ?_ ?_ ?_)
   ·rw[zi0,<-zr0];simp
   ·simp;omega
   ·have:=e5.le;simp;omega
   intro a' c' g' w' r1 r2 r3
   have r4:=(e4.alloc _).grown r2 (e5.alloc _) (Nat.le_refl _)
   go_wp2_with fail
   go_roundw
   case rel=>exact⟨k,_,g',rfl,by omega,by have:=E2'.out;simp;omega,by rw[E3.out,beB,List.append_assoc];rfl,r1,r4⟩
   case measure=>(first |omega |(simp[intOf];done) |(simp[intOf];omega))
set_option maxRecDepth 100000 in
theorem zhh(n:Nat)(w:World)(hn:n<=1073741823):
  Calls Tryz.prog 347 #[.int .i64 (n:Int)] w λe w'=>e= .returned (.int .i64 (zci n:Int))/\w=w':=by
 by_cases h1:n<64
 ·have HH:Hid (zci n=1):=Lib.hid (by unfold zci;rw[if_pos h1])
  go_enter Tryz.func347,Tryz.ntmps347
  go_wp2_with fail
  go_ret
  exact⟨zbs (by rw[HH.out];rfl),rfl⟩
 ·have h1':64<=n:=by omega
  by_cases h2:n<16384
  ·have HH:Hid (zci n=2):=Lib.hid (by unfold zci;rw[if_neg h1,if_pos h2])
   clear h1
   go_enter Tryz.func347,Tryz.ntmps347
   go_wp2_with fail
   go_ret
   exact⟨zbs (by rw[HH.out];rfl),rfl⟩
  ·have HH:Hid (zci n=4):=Lib.hid (by unfold zci;rw[if_neg h1,if_neg h2])
   clear h1
   go_enter Tryz.func347,Tryz.ntmps347
   go_wp2_with fail
   go_ret
   exact⟨zbs (by rw[HH.out];rfl),rfl⟩
theorem zwd(p:AC)(l:List UInt8){S:Nat->Prop}(n:Nat)(w:World)(hp:By w S p l)(hl:l.length<=1000000000000)(hn:n<=1073741823):
  Calls Tryz.prog 217 #[.slice p.a l.length p.c, .int .i64 (n:Int)] w (Ret w λw' v=>∃g,OwB w' w.heap.size v (l++lenB n) g):=by
 by_cases h1:n<64
 ·have HH:Hid (zci n=1):=Lib.hid (by unfold zci;rw[if_pos h1])
  have HL:Hid (lenB n=beB 1 n):=Lib.hid (by unfold lenB;rw[if_pos h1])
  have HB:Hid (bits BinOp.or IntKind.u64 0 (n:Int)=(n:Int)):=Lib.hid (by rw[show(0:Int)=((0:Nat):Int)from rfl,u64_or_nat _ _ (by omega) (by omega),Nat.zero_or])
  go_enter Tryz.func217,Tryz.ntmps217
  go_wp2_with fail
  refine(zhh n _ hn).mono ?_
  rintro e w' ⟨rfl,rfl⟩
  rw[HH.out]
  go_wp2_with fail
  rw[HB.out]
  refine(zgb p l 1 (n) _ hp (by omega) (by omega)).mono ?_
  rintro e w1 ⟨v,rfl,hb,g,ho⟩
  go_wp2_with fail
  go_ret
  exact⟨_,rfl,hb,g,by rw[HL.out];exact ho⟩
 ·by_cases h2:n<16384
  ·have HH:Hid (zci n=2):=Lib.hid (by unfold zci;rw[if_neg h1,if_pos h2])
   have HL:Hid (lenB n=beB 2 (16384+n)):=Lib.hid (by unfold lenB;rw[if_neg h1,if_pos h2])
   have HB:Hid (bits BinOp.or IntKind.u64 16384 (n:Int)=((16384+n:Nat):Int)):=Lib.hid (by rw[show(16384:Int)=((16384:Nat):Int)from rfl,u64_or_nat _ _ (by omega) (by omega),nat_join 14 _ _ (by omega) (by omega)])
   go_enter Tryz.func217,Tryz.ntmps217
   go_wp2_with fail
   refine(zhh n _ hn).mono ?_
   rintro e w' ⟨rfl,rfl⟩
   rw[HH.out]
   go_wp2_with fail
   rw[HB.out]
   refine(zgb p l 2 (16384+n) _ hp (by omega) (by omega)).mono ?_
   rintro e w1 ⟨v,rfl,hb,g,ho⟩
   go_wp2_with fail
   go_ret
   exact⟨_,rfl,hb,g,by rw[HL.out];exact ho⟩
  ·have HH:Hid (zci n=4):=Lib.hid (by unfold zci;rw[if_neg h1,if_neg h2])
   have HL:Hid (lenB n=beB 4 (2147483648+n)):=Lib.hid (by unfold lenB;rw[if_neg h1,if_neg h2])
   have HB:Hid (bits BinOp.or IntKind.u64 2147483648 (n:Int)=((2147483648+n:Nat):Int)):=Lib.hid (by rw[show(2147483648:Int)=((2147483648:Nat):Int)from rfl,u64_or_nat _ _ (by omega) (by omega),nat_join 31 _ _ (by omega) (by omega)])
   go_enter Tryz.func217,Tryz.ntmps217
   go_wp2_with fail
   refine(zhh n _ hn).mono ?_
   rintro e w' ⟨rfl,rfl⟩
   rw[HH.out]
   go_wp2_with fail
   rw[HB.out]
   refine(zgb p l 4 (2147483648+n) _ hp (by omega) (by omega)).mono ?_
   rintro e w1 ⟨v,rfl,hb,g,ho⟩
   go_wp2_with fail
   go_ret
   exact⟨_,rfl,hb,g,by rw[HL.out];exact ho⟩
theorem z4x(p q:AC)(l m:List UInt8){S S':Nat->Prop}(w:World)(hp:By w S p l)(hq:By w S' q m)(hl:l.length<=1000000000000)(hm:m.length<=1000000000000):
  Calls Tryz.prog 398 #[.slice p.a l.length p.c, .slice q.a m.length q.c] w (Ret w λw' v=>∃g,OwB w' w.heap.size v (l++m) g):=by
 go_enter Tryz.func398,Tryz.ntmps398
 go_wp2_with (first |(at_builtin;refine zdm ?_))
 refine zdg (zbi rfl (.tmp 5) (.tmp 6) rfl rfl (OwB.ofNew (l:=[]) (Nat.le_refl _) rfl rfl (by decide)) rfl rfl (hp.ext (zaz _ _)) ?_ ?_ ?_)
 ·simp;omega
 ·simp
 intro a1 c1 g1 w1 r1 r2 r3
 have r4:=Ext.grown (zaz _ _) r2 (λk hk=>by cases hk;simp)
 simp only[List.nil_append,List.length_nil,Nat.zero_add]at r1
 go_wp2_with (first |(at_builtin;refine zdm ?_))
 refine zdg (zbi rfl (.tmp 7) (.tmp 8) rfl rfl r1 rfl rfl (hq.ext r4) ?_ ?_ ?_)
 ·omega
 ·exact r4.le
 intro a2 c2 g2 w2 r5 r6 r7
 have r8:=r1.grown r6 r4 (Nat.le_refl _)
 go_wp2_with fail
 go_ret
 exact⟨_,rfl,r8,g2,r5⟩
end
section
theorem zwf(p q:AC)(l v:List UInt8){S S':Nat->Prop}(w:World)(hp:By w S p l)(hq:By w S' q v)(hl:l.length<=1000000000000)(hv:v.length<=1073741823):
  Calls Tryz.prog 113 #[.slice p.a l.length p.c, .slice q.a v.length q.c] w (Ret w λw' r=>∃g,OwB w' w.heap.size r (l++vecB v) g):=by
 go_enter Tryz.func113,Tryz.ntmps113
 go_wp2_with fail
 refine(zwd p l _ _ hp hl hv).mono ?_
 rintro e w1 ⟨r,rfl,hb,g,ho⟩
 have hlen:=(zgx v.length)
 obtain⟨L,hL⟩: ∃L,L=l++lenB v.length:=⟨_,rfl⟩
 have HL:=Lib.hid hL
 have hll:L.length<=l.length+4:=by rw[hL,List.length_append,zfh];omega
 rw[<-hL]at ho
 obtain⟨a,c,rfl⟩:=ho.form
 clear hL
 go_wp2_with (first |(at_builtin;refine zdm ?_))
 refine zdg (zbi rfl (.tmp 8) (.tmp 9) rfl rfl ho rfl rfl (hq.ext hb) ?_ ?_ ?_)
 ·omega
 ·exact hb.le
 intro a1 c1 g1 w2 r1 r2 r3
 have r4:=ho.grown r2 hb (Nat.le_refl _)
 go_wp2_with fail
 go_ret
 exact⟨_,rfl,r4,g1,by rw[vecB,<-List.append_assoc,<-HL.out];exact r1⟩
set_option maxRecDepth 100000 in
theorem zwg(n:Nat)(w:World)(hn:n<=1073741823):
  Calls Tryz.prog 153 #[.int .i64 (n:Int)] w (Ret w λw' v=>∃g,OwB w' w.heap.size v (lenB n) g):=by
 by_cases h1:n<64
 ·have HL:Hid (lenB n=beB 1 n):=Lib.hid (by unfold lenB;rw[if_pos h1])
  go_enter Tryz.func153,Tryz.ntmps153
  go_wp2_with fail
  go_ret
  refine⟨_,rfl,(by(repeat (first |exact Ext.refl _ |refine Ext.drew ?_ |refine Ext.drewN ?_ _ |refine Ext.alloc ?_ _ |(refine Ext.setCell ?_ (by first |omega |(simp;done) |(simp;omega)) _) |refine Ext.trans ?_ (by assumption)))),some w.heap.size,?_⟩
  rw[HL.out]
  refine OwB.ofNew (Nat.le_refl _) ?_ (zam _ _).symm (by rw[zam];omega)
  simp[beB]
  omega
 ·have h1':64<=n:=by omega
  by_cases h2:n<16384
  ·have HL:Hid (lenB n=beB 2 (16384+n)):=Lib.hid (by unfold lenB;rw[if_neg h1,if_pos h2])
   clear h1
   go_enter Tryz.func153,Tryz.ntmps153
   go_wp2_with fail
   go_ret
   refine⟨_,rfl,(by(repeat (first |exact Ext.refl _ |refine Ext.drew ?_ |refine Ext.drewN ?_ _ |refine Ext.alloc ?_ _ |(refine Ext.setCell ?_ (by first |omega |(simp;done) |(simp;omega)) _) |refine Ext.trans ?_ (by assumption)))),some w.heap.size,?_⟩
   rw[HL.out]
   refine OwB.ofNew (Nat.le_refl _) ?_ (zam _ _).symm (by rw[zam];omega)
   simp[beB]
   omega
  ·have HL:Hid (lenB n=beB 4 (2147483648+n)):=Lib.hid (by unfold lenB;rw[if_neg h1,if_neg h2])
   clear h1
   go_enter Tryz.func153,Tryz.ntmps153
   go_wp2_with fail
   go_ret
   refine⟨_,rfl,(by(repeat (first |exact Ext.refl _ |refine Ext.drew ?_ |refine Ext.drewN ?_ _ |refine Ext.alloc ?_ _ |(refine Ext.setCell ?_ (by first |omega |(simp;done) |(simp;omega)) _) |refine Ext.trans ?_ (by assumption)))),some w.heap.size,?_⟩
   rw[HL.out]
   refine OwB.ofNew (Nat.le_refl _) ?_ (zam _ _).symm (by rw[zam];omega)
   simp[beB]
   omega
theorem zwi(q:AC)(v:List UInt8){S':Nat->Prop}(w:World)(hq:By w S' q v)(hv:v.length<=1073741823):
  Calls Tryz.prog 70 #[.slice q.a v.length q.c] w (Ret w λw' r=>∃g,OwB w' w.heap.size r (vecB v) g):=by
 go_enter Tryz.func70,Tryz.ntmps70
 go_wp2_with fail
 refine(zwg _ _ hv).mono ?_
 rintro e w1 ⟨r,rfl,hb,g,ho⟩
 have hlen:=(zgx v.length)
 obtain⟨L,hL⟩: ∃L,L=lenB v.length:=⟨_,rfl⟩
 have HL:=Lib.hid hL
 have hll:L.length<=4:=by rw[hL,zfh];omega
 rw[<-hL]at ho
 obtain⟨a,c,rfl⟩:=ho.form
 clear hL
 go_wp2_with (first |(at_builtin;refine zdm ?_))
 refine zdg (zbi rfl (.tmp 5) (.tmp 6) rfl rfl ho rfl rfl (hq.ext hb) ?_ ?_ ?_)
 ·omega
 ·exact hb.le
 intro a1 c1 g1 w2 r1 r2 r3
 have r4:=ho.grown r2 hb (Nat.le_refl _)
 go_wp2_with fail
 go_ret
 exact⟨_,rfl,r4,g1,by rw[vecB,<-HL.out];exact r1⟩
def zw1(size m:Nat)(w:World)(n out i:Value)(wr:World):Prop:=
 ∃(j:Nat) (p:AC),i= .int .i64 (j:Int)/\j<=size/\n= .int .u64 ((m/256^j:Nat):Int)/\out= .slice p.a j p.c/\By wr (w.heap.size<= ·) p (beB j m)/\(∃g,OwB wr w.heap.size out (beB j m) g)/\Ext w wr
theorem zwh(size m:Nat)(w:World)(hs:size<=8)(hm:m<18446744073709551616):
  Calls Tryz.prog 69 #[.int .i64 (size:Int), .int .u64 (m:Int)] w (Ret w λw' v=>∃g,OwB w' w.heap.size v (beB size m) g):=by
 go_enter Tryz.func69,Tryz.ntmps69
 go_wp2_with fail
 go_loopw [1,5,6] (λn out i wr=>zw1 size m w n out i wr) (λ_ _ i _=>size-(intOf i).toNat)
 case atStart=>exact⟨0,⟨none,0⟩,rfl,by omega,by simp,rfl,By.nil _ _,⟨none,Ow.nil _ _ _ _⟩,Ext.refl _⟩
 case round=>
  obtain⟨j,p,rfl,e1,rfl,rfl,e3,⟨g0,e4⟩,e5⟩:=hrel
  have hbl:=Lib.hid (zam j m)
  by_cases hj:j<size
  ·have hd:m/256^j<18446744073709551616:=Nat.lt_of_le_of_lt (Nat.div_le_self _ _) hm
   obtain⟨d,hd'⟩: ∃d,d=m/256^j:=⟨_,rfl⟩
   have HD:=Lib.hid hd'
   rw[<-hd']at hd
   rw[<-hd']
   clear hd'
   go_wp2_with (first |(at_builtin;refine zdm ?_))
   refine zdg (zbi (l:=[UInt8.ofNat d]) (l2:=beB j m) (m:=j) rfl (.tmp 15) (.tmp 16) rfl rfl (OwB.ofNew e5.le ?_ rfl (by simp)) rfl (zam _ _).symm (e3.ext (zaz _ _)) ?_ ?_ ?_)
   ·simp
   ·rw[zam];simp;omega
   ·have:=e5.le;simp;omega
   intro a' c' g' w' r1 r2 r3
   have r4:=Ext.grown (e5.alloc _) r2 (λk hk=>by cases hk;exact e5.le)
   have HR:Hid (OwB w' w.heap.size (.slice a' (1+j) c') (beB (j+1) m) g'):=Lib.hid (by rw[beB,<-HD.out];exact r1)
   go_wp2_with fail
   go_roundw
   case rel=>
    obtain⟨q,hq,hby⟩:=OwB.by_ HR.out
    rw[zam]at hq
    injection hq with q1 q2 q3
    subst q1;subst q3
    have ej:(1+j:Nat)=j+1:=by omega
    refine⟨j+1,q,rfl,by omega,?_,?_,hby,⟨g',?_⟩,r4⟩
    ·rw[HD.out,Nat.pow_succ,<-Nat.div_div_eq_div_mul];simp
    ·rw[<-ej]
    ·exact HR.out
   case measure=>(first |omega |(simp[intOf];done) |(simp[intOf];omega))
  ·go_wp2_with fail
   go_ret
   have:j=size:=by omega
   subst this
   exact⟨_,rfl,e5,g0,e4⟩
def zz2(l m:List UInt8)(i:Value)(w wr:World):Prop:=∃j:Nat,i= .int .i64 (j:Int)/\j<=l.length/\l.take j=m.take j/\Ext w wr
theorem ztd(p q:AC)(l m:List UInt8){S S':Nat->Prop}(w:World)(hp:By w S p l)(hq:By w S' q m):
  Calls Tryz.prog 50 #[.slice p.a l.length p.c, .slice q.a m.length q.c] w (Ret w λ_ v=>v= .bool (decide (l=m))):=by
 have hl:=hp.lens
 have hm:=hq.lens
 unfold maxLen at hl hm
 by_cases hlen:l.length=m.length
 ·have ht:((l.length:Int) != (m.length:Int))=false:=by simp[hlen]
  have HL:=Lib.hid hlen
  obtain⟨N,hN⟩: ∃N,N=l.length:=⟨_,rfl⟩
  have HN:=Lib.hid hN
  have hNb:N<=9223372036854775807:=by omega
  rw[<-hlen,<-hN]at ht
  rw[<-hlen,<-hN]
  clear hlen hN hl hm
  go_enter Tryz.func50,Tryz.ntmps50
  go_wp2_with fail
  go_loopw [5] (λi wr=>zz2 l m i w wr) (λi _=>N-(intOf i).toNat)
  case atStart=>exact⟨0,rfl,Nat.zero_le _,by simp,Ext.refl _⟩
  case round=>
   obtain⟨j,rfl,e1,e2,e3⟩:=hrel
   have E2:=Lib.hid e2
   rw[<-HN.out]at e1
   clear e2
   by_cases hj:j<N
   ·have hj1:j<l.length:=by rw[<-HN.out];exact hj
    have hj2:j<m.length:=by rw[<-HL.out];exact hj1
    obtain⟨b,o,hpa,hc⟩:=(hp.ext e3).at_ hj1
    obtain⟨b',o',hqa,hc'⟩:=(hq.ext e3).at_ hj2
    have hj0:(0:Int)<=(j:Int):=by omega
    have hjN:(j:Int)< (N:Int):=by omega
    rw[hpa,hqa]
    clear hpa hqa
    by_cases he:l[j]=m[j]
    ·have ht2:((l[j].toNat:Int) != (m[j].toNat:Int))=false:=by simp[he]
     have HE:=Lib.hid he
     obtain⟨X,hX⟩: ∃X:Int,X=l[j].toNat:=⟨_,rfl⟩
     obtain⟨Y,hY⟩: ∃Y:Int,Y=m[j].toNat:=⟨_,rfl⟩
     rw[<-hX]at hc ht2
     rw[<-hY]at hc' ht2
     clear he hX hY
     go_wp2_with fail
     go_quiet (fail)
     go_wp2_with fail
     go_roundw
     case rel=>exact⟨j+1,by simp,by have:=HN.out;omega,by rw[List.take_add_one,List.take_add_one,E2.out,List.getElem?_eq_getElem hj1,List.getElem?_eq_getElem hj2,HE.out],by(repeat (first |exact Ext.refl _ |refine Ext.drew ?_ |refine Ext.drewN ?_ _ |refine Ext.alloc ?_ _ |(refine Ext.setCell ?_ (by first |omega |(simp;done) |(simp;omega)) _) |refine Ext.trans ?_ (by assumption)))⟩
     case measure=>(first |omega |(simp[intOf];done) |(simp[intOf];omega))
    ·have ht2:((l[j].toNat:Int) != (m[j].toNat:Int))=true:=by
      have:l[j].toNat≠m[j].toNat:=λh=>he (UInt8.toNat_inj.1 h)
      simp;omega
     have HE:Hid (l≠m):=Lib.hid (λh=>he (by subst h;rfl))
     obtain⟨X,hX⟩: ∃X:Int,X=l[j].toNat:=⟨_,rfl⟩
     obtain⟨Y,hY⟩: ∃Y:Int,Y=m[j].toNat:=⟨_,rfl⟩
     rw[<-hX]at hc ht2
     rw[<-hY]at hc' ht2
     clear he hX hY
     go_wp2_with fail
     go_quiet (fail)
     go_wp2_with fail
     go_ret
     exact⟨_,rfl,by(repeat (first |exact Ext.refl _ |refine Ext.drew ?_ |refine Ext.drewN ?_ _ |refine Ext.alloc ?_ _ |(refine Ext.setCell ?_ (by first |omega |(simp;done) |(simp;omega)) _) |refine Ext.trans ?_ (by assumption))),by simp[HE.out]⟩
   ·go_wp2_with fail
    go_ret
    have:l=m:=by
     have h1:=HN.out
     have h2:=HL.out
     have h3:=E2.out
     rwa[List.take_of_length_le (by omega),List.take_of_length_le (by omega)]at h3
    exact⟨_,rfl,by(repeat (first |exact Ext.refl _ |refine Ext.drew ?_ |refine Ext.drewN ?_ _ |refine Ext.alloc ?_ _ |(refine Ext.setCell ?_ (by first |omega |(simp;done) |(simp;omega)) _) |refine Ext.trans ?_ (by assumption))),by simp[this]⟩
 ·have ht:((l.length:Int) != (m.length:Int))=true:=by simp;omega
  have HE:Hid (l≠m):=Lib.hid (λh=>hlen (by rw[h]))
  clear hlen
  go_enter Tryz.func50,Tryz.ntmps50
  go_wp2_with fail
  go_ret
  exact⟨_,rfl,by(repeat (first |exact Ext.refl _ |refine Ext.drew ?_ |refine Ext.drewN ?_ _ |refine Ext.alloc ?_ _ |(refine Ext.setCell ?_ (by first |omega |(simp;done) |(simp;omega)) _) |refine Ext.trans ?_ (by assumption))),by simp[HE.out]⟩
end
section
def on6(f:Nat):Nat:=Nat.land (Nat.add f (Nat.div f 4294967296)) 127
def on5(e:Nat):Nat:=on6 (Nat.add e (Nat.div e 65536))
def on4(d:Nat):Nat:=on5 (Nat.add d (Nat.div d 256))
def on3(b:Nat):Nat:=on4 (Nat.land (Nat.add (Nat.div b 16) b) 1085102592571150095)
def on2(a:Nat):Nat:=on3 (Nat.add (Nat.land (Nat.div a 4) 3689348814741910323) (Nat.land a 3689348814741910323))
def zm6(n:Nat):Nat:=on2 (Nat.add (Nat.land (Nat.div n 2) 6148914691236517205) (Nat.land n 6148914691236517205))
def pwN(n:Nat):Bool:=Nat.beq (Nat.land n (Nat.sub n 1)) 0
def beqB:Bool->Bool->Bool
 |true,b=>b
 |false,true=>false
 |false,false=>true
def zy0(n:Nat):Bool:=beqB (Nat.beq (zm6 n) 1) (pwN n)
def upTo(p:Nat->Bool):Nat->Bool
 |0=>true
 |n+1=>match p (n+1)with |true=>upTo p n |false=>false
theorem zoc{p:Nat->Bool}: ∀{n:Nat},upTo p n=true->∀i,i<n->p (i+1)=true
 |0,_,i,h=>by omega
 |n+1,h,i,hi=>by
  unfold upTo at h
  split at h
  ·by_cases e:i=n
   ·subst e;assumption
   ·exact zoc h i (by omega)
  ·cases h
theorem ztc:upTo (λk=>upTo (λi=>zy0 (Nat.add (Nat.mul 2048 (Nat.sub k 1)) i)) 2048) 32=true:=by decide+kernel
theorem z5f{n:Nat}(h1:1<=n)(h2:n<=65536):zy0 n=true:=by
 have h:=zoc ztc ((n-1)/2048) (by omega)
 have h':=zoc h ((n-1)%2048) (by omega)
 have e:Nat.add (Nat.mul 2048 (Nat.sub ((n-1)/2048+1) 1)) ((n-1)%2048+1)=n:=by
  show 2048*((n-1)/2048+1-1)+((n-1)%2048+1)=n
  omega
 rw[e]at h'
 exact h'
theorem z3v{a b:Bool}(h:beqB a b=true):a=b:=by cases a<;>cases b<;>simp[beqB]at*
theorem z84{n:Nat}(h1:1<=n)(h2:n<=65536)(h:n&&&(n-1)=0): ∃d,d<=16/\n=2^d:=by
 obtain⟨hl,_,_⟩:=zgk (x:=n-1) (by omega)
 have hn:=z9r (x:=n-1) (by omega)
 generalize lv (n-1)=l at*
 generalize (n-1)/2^(l+1)=k at hn
 have hp:=za4 l
 have hp1:=za4 (l+1)
 have hlt:2^l<2^(l+1):=by rw[Nat.pow_succ];omega
 unfold nd at hn
 have e1:n=k*2^(l+1)+2^l:=by omega
 have d1:n/2^(l+1)=k:=by
  rw[e1,Nat.add_comm,Nat.add_mul_div_right _ _ hp1,Nat.div_eq_of_lt (by omega)];omega
 have d2:(n-1)/2^(l+1)=k:=by
  rw[hn,Nat.add_sub_assoc (by omega),Nat.add_comm,Nat.add_mul_div_right _ _ hp1,Nat.div_eq_of_lt (by omega)];omega
 have:=Nat.and_div_two_pow (a:=n) (b:=n-1) (n:=l+1)
 rw[h,d1,d2,Nat.and_self,Nat.zero_div]at this
 subst this
 exact⟨l,hl,by omega⟩
theorem z83: ∀d,d<=16->pwN (2^d)=true:=by decide+kernel
theorem z1k{n:Nat}(h1:1<=n)(h2:n<=65536):(zm6 n=1)↔zc6 (n:Int)=true:=by
 have h:=z3v (z5f h1 h2)
 constructor
 ·intro h3
  rw[h3]at h
  have h4:n&&&(n-1)=0:=Nat.eq_of_beq_eq_true (h.symm.trans rfl)
  obtain⟨d,hd,rfl⟩:=z84 h1 h2 h4
  exact zr1 d hd
 ·intro h3
  obtain⟨d,hd,e⟩:=zln h3
  have e':n=2^d:=by omega
  rw[e',z83 d hd]at h
  rw[e']
  exact Nat.eq_of_beq_eq_true h
end
section
theorem zgo{a b:Nat}{x y:Int}(hx:x=(a:Int))(hy:y=(b:Int))(ha:a<18446744073709551616)(hb:b<18446744073709551616):bits .and .u64 x y=((a&&&b:Nat):Int):=by
 rw[hx,hy];exact u64_and_nat a b ha hb
theorem zeu{a:Nat}{x:Int}(hx:x=(a:Int))(ha:a<18446744073709551616):IntKind.u64.wrap x=(a:Int):=by
 rw[hx];simp[IntKind.wrap,IntKind.bits,IntKind.signed];omega
theorem zo7(a:Nat)(ha:a<9223372036854775808):(BitVec.ofInt 64 (a:Int)).toNat=a:=by
 rw[BitVec.ofInt_natCast,BitVec.toNat_ofNat];exact Nat.mod_eq_of_lt (by omega)
theorem zhg(a b:Nat)(ha:a<9223372036854775808)(hb:b<9223372036854775808):bits .and .i64 (a:Int) (b:Int)=((a&&&b:Nat):Int):=by
 have hx:a&&&b<2^63:=Nat.and_lt_two_pow _ (by omega)
 show IntKind.i64.wrap ((BitVec.ofInt 64 (a:Int)&&&BitVec.ofInt 64 (b:Int)).toNat:Int)=_
 rw[BitVec.toNat_and,zo7 a ha,zo7 b hb,IntKind.wrap_i64]
 omega
set_option maxHeartbeats 1000000 in
theorem zwb(n:Nat)(w:World)(hn:n<=65536):
  Calls Tryz.prog 452 #[.int .u64 (n:Int)] w λe w'=>e= .returned (.int .i64 (zm6 n))/\w=w':=by
 go_enter Tryz.func452,Tryz.ntmps452
 go_wp2_with fail
 go_ret
 refine⟨zbs ?_,rfl⟩
 have hand: ∀x y:Nat,x&&&y<=x:=λx y=>Nat.and_le_left
 obtain⟨a0,ha0⟩: ∃a,a=(n/2&&&6148914691236517205):=⟨_,rfl⟩
 obtain⟨a1,ha1⟩: ∃a,a=(n&&&6148914691236517205):=⟨_,rfl⟩
 have l0:a0<=65536:=by have:=hand (n/2) 6148914691236517205;omega
 have l1:a1<=65536:=by have:=hand n 6148914691236517205;omega
 obtain⟨b0,hb0⟩: ∃a,a=((a0+a1)/4&&&3689348814741910323):=⟨_,rfl⟩
 obtain⟨b1,hb1⟩: ∃a,a=(a0+a1&&&3689348814741910323):=⟨_,rfl⟩
 have m0:b0<=131072:=by have:=hand ((a0+a1)/4) 3689348814741910323;omega
 have m1:b1<=131072:=by have:=hand (a0+a1) 3689348814741910323;omega
 obtain⟨c0,hc0⟩: ∃a,a=((b0+b1)/16+(b0+b1)&&&1085102592571150095):=⟨_,rfl⟩
 have p0:c0<=1048576:=by have:=hand ((b0+b1)/16+(b0+b1)) 1085102592571150095;omega
 have E1:bits BinOp.and IntKind.u64 ((n:Int)/2) 6148914691236517205=(a0:Int):=by rw[ha0];exact zgo (by omega) rfl (by omega) (by omega)
 have E2:bits BinOp.and IntKind.u64 (n:Int) 6148914691236517205=(a1:Int):=by rw[ha1];exact zgo rfl rfl (by omega) (by omega)
 have E3:IntKind.u64.wrap ((a0:Int)+a1)=((a0+a1:Nat):Int):=zeu (by omega) (by omega)
 have E4:bits BinOp.and IntKind.u64 (((a0+a1:Nat):Int)/4) 3689348814741910323=(b0:Int):=by rw[hb0];exact zgo (by omega) rfl (by omega) (by omega)
 have E5:bits BinOp.and IntKind.u64 ((a0+a1:Nat):Int) 3689348814741910323=(b1:Int):=by rw[hb1];exact zgo rfl rfl (by omega) (by omega)
 have E6:IntKind.u64.wrap ((b0:Int)+b1)=((b0+b1:Nat):Int):=zeu (by omega) (by omega)
 have E7:IntKind.u64.wrap (((b0+b1:Nat):Int)/16+((b0+b1:Nat):Int))=(((b0+b1)/16+(b0+b1):Nat):Int):=zeu (by omega) (by omega)
 have E8:bits BinOp.and IntKind.u64 (((b0+b1)/16+(b0+b1):Nat):Int) 1085102592571150095=(c0:Int):=by rw[hc0];exact zgo rfl rfl (by omega) (by omega)
 have E9:IntKind.u64.wrap ((c0:Int)+(c0:Int)/256)=((c0+c0/256:Nat):Int):=zeu (by omega) (by omega)
 obtain⟨d,hd⟩: ∃d,d=c0+c0/256:=⟨_,rfl⟩
 have E10:IntKind.u64.wrap ((d:Int)+(d:Int)/65536)=((d+d/65536:Nat):Int):=zeu (by omega) (by omega)
 obtain⟨e,he⟩: ∃e,e=d+d/65536:=⟨_,rfl⟩
 have E11:IntKind.u64.wrap ((e:Int)+(e:Int)/4294967296)=((e+e/4294967296:Nat):Int):=zeu (by omega) (by omega)
 simp only[E1,E2,E3,E4,E5,E6,E7,E8,E9,<-hd,E10,<-he,E11]
 rw[IntWalk.wrap64_in _ ⟨by omega,by omega⟩]
 rw[show(127:Int)=((127:Nat):Int)from rfl,zhg _ _ (by omega) (by omega)]
 subst he hd hc0 hb0 hb1 ha0 ha1
 rfl
theorem z1j(n:Nat)(w:World)(hn:n<=65536):
  Calls Tryz.prog 340 #[.int .u64 (n:Int)] w λe w'=>e= .returned (.int .i64 (zm6 n))/\w=w':=by
 go_enter Tryz.func340,Tryz.ntmps340
 go_wp2_with fail
 refine(zwb n _ hn).mono ?_
 rintro e w' ⟨rfl,rfl⟩
 go_wp2_with fail
 go_ret
 exact⟨rfl,rfl⟩
theorem zqt{n:Int}(h: ¬(1<=n/\n<=65536)):zc6 n=false:=by
 rcases hf:zc6 n with _ |_
 ·rfl
 ·exact absurd (znx hf) h
theorem zlm(n:Int)(w:World):
  Calls Tryz.prog 209 #[.int .i64 n] w λe w'=>e= .returned (.bool (zc6 n))/\w=w':=by
 by_cases h1:1<=n
 ·by_cases h2:n<=65536
  ·obtain⟨m,rfl⟩:=Int.eq_ofNat_of_zero_le (show 0<=n by omega)
   have hf:zc6 (m:Int)=((zm6 m:Int)==1):=by
    have h:=z1k (n:=m) (by omega) (by omega)
    rw[Bool.eq_iff_iff,<-h]
    simp;omega
   have HF:=Lib.hid hf
   clear hf
   go_enter Tryz.func209,Tryz.ntmps209
   go_wp2_with fail
   refine(z1j m _ (by omega)).mono ?_
   rintro e w' ⟨rfl,rfl⟩
   go_wp2_with fail
   go_ret
   exact⟨zdk HF.out.symm,rfl⟩
  ·have HF:=Lib.hid (zqt (n:=n) (by omega))
   go_enter Tryz.func209,Tryz.ntmps209
   go_wp2_with fail
   go_ret
   exact⟨zdk HF.out.symm,rfl⟩
 ·have HF:=Lib.hid (zqt (n:=n) (by omega))
  go_enter Tryz.func209,Tryz.ntmps209
  go_wp2_with fail
  go_ret
  exact⟨zdk HF.out.symm,rfl⟩
theorem zel(x:Int)(w:World):
  Calls Tryz.prog 413 #[.int .i64 x] w λe w'=>e= .returned (.bool (zcj x))/\w=w':=by
 by_cases h:0<=x
 ·go_enter Tryz.func413,Tryz.ntmps413
  go_wp2_with fail
  go_ret
  exact⟨zdk (by simp[zcj,h]),rfl⟩
 ·go_enter Tryz.func413,Tryz.ntmps413
  go_wp2_with fail
  go_ret
  exact⟨zdk (by simp[zcj];omega),rfl⟩
theorem zuh{m:Nat}(hm:m<=131070){k:Nat}(hk:k<lv m):(bits BinOp.and IntKind.i64 ((m:Int)/2^k) 1==1)=true:=by
 obtain⟨h1,h2,_⟩:=zgk hm
 generalize lv m=l at*
 have e:((m:Int)/2^k)=((m/2^k:Nat):Int):=by simp
 have hlt:m/2^k<9223372036854775808:=Nat.lt_of_le_of_lt (Nat.div_le_self _ _) (by omega)
 rw[e,show(1:Int)=((1:Nat):Int)from rfl,zhg _ _ hlt (by omega),nat_mask1]
 have h3:m%2^l/2^k%2=m/2^k%2:=by
  obtain⟨j,rfl⟩: ∃j,l=k+(j+1):=⟨l-k-1,by omega⟩
  rw[Nat.pow_add,Nat.mod_mul_right_div_self,Nat.pow_succ,Nat.mul_comm,Nat.mod_mul_right_mod]
 rw[h2]at h3
 have h4:(2^l-1)/2^k%2=1:=by
  obtain⟨j,rfl⟩: ∃j,l=k+(j+1):=⟨l-k-1,by omega⟩
  have hp:=za4 k
  have hj:=za4 j
  have e1:2^(k+(j+1))-1=2^k*(2*2^j-1)+(2^k-1):=by
   rw[Nat.pow_add,Nat.pow_succ,Nat.mul_comm (2^j) 2,Nat.mul_sub,Nat.mul_one]
   have:2^k*1<=2^k*(2*2^j):=Nat.mul_le_mul_left _ (by omega)
   omega
  rw[e1,Nat.mul_add_div hp,Nat.div_eq_of_lt (by omega)]
  omega
 rw[h4]at h3
 rw[<-h3];rfl
theorem zm3{m:Nat}(hm:m<=131070):(bits BinOp.and IntKind.i64 ((m:Int)/2^lv m) 1==1)=false:=by
 obtain⟨h1,_,h2⟩:=zgk hm
 generalize lv m=l at*
 have e:((m:Int)/2^l)=((m/2^l:Nat):Int):=by simp
 have hlt:m/2^l<9223372036854775808:=Nat.lt_of_le_of_lt (Nat.div_le_self _ _) (by omega)
 rw[e,show(1:Int)=((1:Nat):Int)from rfl,zhg _ _ hlt (by omega),nat_mask1,h2]
 rfl
def z6n(m:Nat)(w:World)(a':Act)(w':World):Prop:=
 w=w'/\∃(k:Nat) (u4 u5 u6 u7 u8 u9 u10 u11 u12 u13:Value),a'={tmps:= #[.int .i64 m,undef, .int .i64 0, .int .i64 k,u4,u5,u6,u7,u8,u9,u10,u11,u12,u13,undef],defers:=[]}/\k<=lv m
def zw0(m:Nat)(a':Act)(_:World):Nat:=lv m-(intOf (a'.tmps.getD 3 undef)).toNat
theorem zjp(x:Int)(w:World):
  Calls Tryz.prog 414 #[.int .i64 x] w λe w'=>e= .returned (.int .i64 (lvI x))/\w=w':=by
 rcases hf:zcj x with _ |_
 ·have HF:=Lib.hid hf
  have HL:=Lib.hid (zrj hf)
  clear hf
  go_enter Tryz.func414,Tryz.ntmps414
  go_wp2_with fail
  go_step3
  go_wp2_with fail
  refine(zel x _).mono ?_
  rintro e w' ⟨rfl,rfl⟩
  rw[HF.out]
  go_wp2_with fail
  try rw[Exit.noGoto_ret]
  go_ret
  exact⟨zbs HL.out.symm,rfl⟩
 ·have HF:=Lib.hid hf
  have HL:=Lib.hid (zls hf)
  rw[zer]at hf
  obtain⟨m,rfl⟩:=Int.eq_ofNat_of_zero_le hf.1
  rw[Int.toNat_natCast]at HL
  have hm:m<=131070:=by omega
  obtain⟨hl,_⟩:=zgk hm
  go_enter Tryz.func414,Tryz.ntmps414
  go_wp2_with fail
  refine wp_scope_jumps 0 (z6n m w) (zw0 m) rfl ?_ ?_
  rotate_left
  ·rintro a' w' ⟨rfl,k,u4,u5,u6,u7,u8,u9,u10,u11,u12,u13,rfl,hk⟩
   by_cases hlt:k<lv m
   ·have ht:=zuh hm hlt
    go_wp2_with fail
    go_step3
    exact⟨rfl,⟨rfl,k+1,_,_,_,_,_,_,_,_,_,_,rfl,by omega⟩,by simp[zw0,intOf];omega⟩
   ·obtain rfl:k=lv m:=by omega
    have ht:=zm3 hm
    go_wp2_with fail
    try simp only[Exit.jump]
    go_ret
    exact⟨zbs HL.out.symm,rfl⟩
  ·go_wp2_with fail
   refine(zel m _).mono ?_
   rintro e w' ⟨rfl,rfl⟩
   rw[HF.out]
   go_wp2_with fail
   go_step3
   by_cases hlt:0<lv m
   ·have ht:=zuh hm hlt
    simp at ht
    go_wp2_with fail
    go_step3
    exact⟨rfl,⟨rfl,1,_,_,_,_,_,_,_,_,_,_,rfl,by omega⟩⟩
   ·have hz:lv m=0:=by omega
    have ht:=zm3 hm
    rw[hz]at HL ht
    clear hz
    simp at ht
    go_wp2_with fail
    try simp only[Exit.jump]
    go_ret
    exact⟨zbs HL.out.symm,rfl⟩
theorem zup{k:Nat}(h:k<=16):1<=(2:Int)^k/\(2:Int)^k<=65536:=by
 have h1:(2:Nat)^k<=2^16:=Nat.pow_le_pow_right (by omega) h
 have h2:=za4 k
 have e:(2:Int)^k=((2^k:Nat):Int):=by simp
 omega
theorem zfg(x:Int)(w:World):
  Calls Tryz.prog 339 #[.int .i64 x] w λe w'=>e= .returned (.int .i64 (zb3 x))/\w=w':=by
 obtain⟨h1,h2⟩:=zri x
 by_cases h:0<lvI x
 ·have HH:Hid (zb3 x=2^(lvI x-1).toNat):=Lib.hid (by simp[zb3,h])
  have hb:=zup (k:=(lvI x).toNat-1) (by omega)
  go_enter Tryz.func339,Tryz.ntmps339
  go_wp2_with fail
  refine(zjp x _).mono ?_
  rintro e w' ⟨rfl,rfl⟩
  go_wp2_with fail
  go_ret
  exact⟨zbs (by rw[HH.out,show(lvI x-1).toNat=(lvI x).toNat-1 by omega]),rfl⟩
 ·have HH:Hid (zb3 x=0):=Lib.hid (by simp[zb3,h])
  go_enter Tryz.func339,Tryz.ntmps339
  go_wp2_with fail
  refine(zjp x _).mono ?_
  rintro e w' ⟨rfl,rfl⟩
  go_wp2_with fail
  go_ret
  exact⟨zbs HH.out.symm,rfl⟩
theorem zrb(x:Int):0<=zb3 x/\zb3 x<=32768:=by
 obtain⟨h1,h2⟩:=zri x
 unfold zb3
 split
 ·have h3:(2:Nat)^(lvI x-1).toNat<=2^15:=Nat.pow_le_pow_right (by omega) (by omega)
  have e:(2:Int)^(lvI x-1).toNat=((2^(lvI x-1).toNat:Nat):Int):=by simp
  rw[e]
  generalize (2:Nat)^(lvI x-1).toNat=q at*
  omega
 ·omega
theorem zmw{x:Int}(h:zcj x=false):zb3 x=0:=by simp[zb3,zrj h]
theorem z1d(x:Int)(w:World):
  Calls Tryz.prog 205 #[.int .i64 x] w λe w'=>e= .returned (.int .i64 (zf8 x))/\w=w':=by
 obtain⟨h1,h2⟩:=zrb x
 rcases hn:zcj x with _ |_
 ·have HH:=Lib.hid (zmw hn)
  go_enter Tryz.func205,Tryz.ntmps205
  go_wp2_with fail
  refine(zfg x _).mono ?_
  rintro e w' ⟨rfl,rfl⟩
  rw[HH.out]
  go_wp2_with fail
  go_ret
  exact⟨zbs (by simp[zf8,HH.out]),rfl⟩
 ·rw[zer]at hn
  by_cases hz:zb3 x=0
  ·have HH:=Lib.hid hz
   clear hz
   go_enter Tryz.func205,Tryz.ntmps205
   go_wp2_with fail
   refine(zfg x _).mono ?_
   rintro e w' ⟨rfl,rfl⟩
   rw[HH.out]
   go_wp2_with fail
   go_ret
   exact⟨zbs (by simp[zf8,HH.out]),rfl⟩
  ·have hz':(zb3 x==0)=false:=by simpa using hz
   have HL:Hid (zf8 x=x-zb3 x):=Lib.hid (by simp[zf8,hz])
   go_enter Tryz.func205,Tryz.ntmps205
   go_wp2_with fail
   refine(zfg x _).mono ?_
   rintro e w' ⟨rfl,rfl⟩
   go_wp2_with fail
   go_ret
   exact⟨zbs HL.out.symm,rfl⟩
theorem zzc(x:Int)(w:World):
  Calls Tryz.prog 206 #[.int .i64 x] w λe w'=>e= .returned (.int .i64 (ze5 x))/\w=w':=by
 obtain⟨h1,h2⟩:=zrb x
 rcases hn:zcj x with _ |_
 ·have HH:=Lib.hid (zmw hn)
  go_enter Tryz.func206,Tryz.ntmps206
  go_wp2_with fail
  refine(zfg x _).mono ?_
  rintro e w' ⟨rfl,rfl⟩
  rw[HH.out]
  go_wp2_with fail
  go_ret
  exact⟨zbs (by simp[ze5,HH.out]),rfl⟩
 ·rw[zer]at hn
  by_cases hz:zb3 x=0
  ·have HH:=Lib.hid hz
   clear hz
   go_enter Tryz.func206,Tryz.ntmps206
   go_wp2_with fail
   refine(zfg x _).mono ?_
   rintro e w' ⟨rfl,rfl⟩
   rw[HH.out]
   go_wp2_with fail
   go_ret
   exact⟨zbs (by simp[ze5,HH.out]),rfl⟩
  ·have hz':(zb3 x==0)=false:=by simpa using hz
   have HL:Hid (ze5 x=x+zb3 x):=Lib.hid (by simp[ze5,hz])
   go_enter Tryz.func206,Tryz.ntmps206
   go_wp2_with fail
   refine(zfg x _).mono ?_
   rintro e w' ⟨rfl,rfl⟩
   go_wp2_with fail
   go_ret
   exact⟨zbs HL.out.symm,rfl⟩
theorem z1w(n:Int)(w:World):
  Calls Tryz.prog 110 #[.int .i64 n] w λe w'=>e= .returned (.int .i64 (ziv n))/\w=w':=by
 rcases hf:zc6 n with _ |_
 ·have HF:=Lib.hid hf
  clear hf
  go_enter Tryz.func110,Tryz.ntmps110
  go_wp2_with fail
  refine(zlm n _).mono ?_
  rintro e w' ⟨rfl,rfl⟩
  rw[HF.out]
  go_wp2_with fail
  go_ret
  exact⟨zbs (by simp[ziv,HF.out]),rfl⟩
 ·obtain⟨b1,b2⟩:=znx hf
  have HF:=Lib.hid hf
  clear hf
  go_enter Tryz.func110,Tryz.ntmps110
  go_wp2_with fail
  refine(zlm n _).mono ?_
  rintro e w' ⟨rfl,rfl⟩
  rw[HF.out]
  go_wp2_with fail
  go_ret
  exact⟨zbs (by simp[ziv,HF.out]),rfl⟩
theorem zzq(x y:Int)(w:World):
  Calls Tryz.prog 296 #[.int .i64 x, .int .i64 y] w λe w'=>e= .returned (.bool (zb8 x y))/\w=w':=by
 rcases hx:zcj x with _ |_
 ·have HX:=Lib.hid hx
  clear hx
  go_enter Tryz.func296,Tryz.ntmps296
  go_wp2_with fail
  refine(zel x _).mono ?_
  rintro e w' ⟨rfl,rfl⟩
  rw[HX.out]
  go_wp2_with fail
  go_ret
  exact⟨zdk (by simp[zb8,HX.out]),rfl⟩
 ·rcases hy:zcj y with _ |_
  ·have HX:=Lib.hid hx
   have HY:=Lib.hid hy
   clear hx hy
   go_enter Tryz.func296,Tryz.ntmps296
   go_wp2_with fail
   refine(zel x _).mono ?_
   rintro e w' ⟨rfl,rfl⟩
   rw[HX.out]
   go_wp2_with fail
   refine(zel y _).mono ?_
   rintro e w' ⟨rfl,rfl⟩
   rw[HY.out]
   go_wp2_with fail
   go_ret
   exact⟨zdk (by simp[zb8,HX.out,HY.out]),rfl⟩
  ·have HX:=Lib.hid hx
   have HY:=Lib.hid hy
   rw[zer]at hx hy
   have hL:0<=lvI y:=by rw[zls HY.out];omega
   obtain⟨_,hL2⟩:=zri y
   obtain⟨hp1,hp2⟩:=zup (k:=(lvI y).toNat) (by omega)
   go_enter Tryz.func296,Tryz.ntmps296
   go_wp2_with fail
   refine(zel x _).mono ?_
   rintro e w' ⟨rfl,rfl⟩
   rw[HX.out]
   go_wp2_with fail
   refine(zel y _).mono ?_
   rintro e w' ⟨rfl,rfl⟩
   rw[HY.out]
   go_wp2_with fail
   refine(zjp y _).mono ?_
   rintro e w' ⟨rfl,rfl⟩
   go_wp2_with fail
   ·go_ret
    have h3:y-(2^(lvI y).toNat-1)<=x:=by assumption
    exact⟨zdk (by rw[Bool.eq_iff_iff,zni,zsq];simp[HX.out,HY.out,h3]),rfl⟩
   ·go_ret
    have h3:x<y-(2^(lvI y).toNat-1):=by assumption
    exact⟨zdk (by rw[Bool.eq_iff_iff,zni,zsq];constructor<;>intro h<;>first |cases h;done |omega),rfl⟩
end
section
structure D3 where
 at_:Int
 lo:Int
 hi:Int
theorem zua{d h k:Nat}(hd:d<=16)(hh:h<=d)(hk:k<2^(d-h)):zb3 (nd h k:Int)=if h=0 then 0 else((2^(h-1):Nat):Int):=by
 unfold zb3
 rw[z8e hd hh hk]
 rcases Nat.eq_zero_or_pos h with rfl |hp
 ·simp
 ·rw[if_pos (by omega),if_neg (by omega),show((h:Int)-1).toNat=h-1 by omega];simp
theorem z43{d h k:Nat}(hd:d<=16)(hh:h+1<=d)(hk:k<2^(d-(h+1))):zf8 (nd (h+1) k:Int)=(nd h (2*k):Int):=by
 unfold zf8
 rw[zua hd hh hk,if_neg (by omega: ¬h+1=0)]
 have hp:=za4 h
 simp only[Nat.add_sub_cancel]
 rw[if_neg (by omega)]
 unfold nd
 rw[Nat.pow_succ 2 (h+1),Nat.pow_succ 2 h,show 2*k*(2^h*2)=k*(2^h*2*2)by rw[Nat.mul_comm 2 k,Nat.mul_assoc,Nat.mul_comm 2]]
 omega
theorem z1v{d h k:Nat}(hd:d<=16)(hh:h+1<=d)(hk:k<2^(d-(h+1))):ze5 (nd (h+1) k:Int)=(nd h (2*k+1):Int):=by
 unfold ze5
 rw[zua hd hh hk,if_neg (by omega: ¬h+1=0)]
 have hp:=za4 h
 simp only[Nat.add_sub_cancel]
 rw[if_neg (by omega)]
 unfold nd
 rw[Nat.pow_succ 2 (h+1),Nat.pow_succ 2 h,Nat.add_mul,show 2*k*(2^h*2)=k*(2^h*2*2)by rw[Nat.mul_comm 2 k,Nat.mul_assoc,Nat.mul_comm 2]]
 omega
end
end Go.Proofs.YtebhngeddnnpkaaGreat
