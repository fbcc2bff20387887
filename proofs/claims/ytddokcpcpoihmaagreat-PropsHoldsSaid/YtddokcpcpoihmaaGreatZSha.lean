import Derived.Test.YtddokcpcpoihmaaGreatZWire
import Derived.Test.YtddokcpcpoihmaaGreatProg
import Derived.Deep.QuietTactic
import Derived.BigQuiet
import Derived.Deep.LoopGhost
namespace Go.Proofs.YtddokcpcpoihmaaGreat
open Go.RowKit
set_option linter.unusedVariables false
section
theorem zqz{w:World}{x:Int}{e:TypeId}(b:UInt8)(h:x=(b.toNat:Int)):Sl (w.alloc (.cells #[.int .u8 x] e)) (λ_=>True) 1 ⟨some ⟨w.heap.size,0,none⟩,1⟩ [b].length ([b].map bv):=by
 subst h;exact z5h _ _ _
def z3v(l:List UInt8)(size m:Nat)(w:World)(b i:Value)(wr:World):Prop:=
 ∃(j:Nat) (done:List UInt8) (g:Option Nat),i= .int .i64 ((j:Int)-1)/\j<=size/\done.length+j=l.length+size/\l++beB size m=done++beB j m/\OwB wr w.heap.size b done g/\Ext w wr
theorem z2t(n:Int)(w:World)(hn:n=1\/n=2\/n=4\/n=8):
  Calls Tryz.prog 177 #[.int .i64 n] w λe w'=>e= .returned (.bool true)/\w=w':=by
 rcases hn with rfl |rfl |rfl |rfl<;>
 ·go_enter Tryz.func177,Tryz.ntmps177
  go_wp2_with fail
  go_ret
  exact⟨rfl,rfl⟩
theorem zfr(p:AC)(l:List UInt8){S:Nat->Prop}(size m:Nat)(w:World)(hp:By w S p l)(hl:l.length<=1000000000000)(hs:size=1\/size=2\/size=4\/size=8):
  Calls Tryz.prog 107 #[.slice p.a l.length p.c, .int .i64 (size:Int), .int .u64 (m:Int)] w (Ret w λw' v=>∃g,OwB w' w.heap.size v (l++beB size m) g):=by
 have hs8:size<=8:=by omega
 have hs1:1<=size:=by omega
 have HS:Hid ((size:Int)=1\/(size:Int)=2\/(size:Int)=4\/(size:Int)=8):=Lib.hid (by omega)
 clear hs
 go_enter Tryz.func107,Tryz.ntmps107
 go_wp2_with fail
 refine(zho p l _ hp (by omega)).mono ?_
 rintro e w1 ⟨v,rfl,hb,g1,ho⟩
 go_wp2_with fail
 refine(z2t _ _ HS.out).mono ?_
 rintro e w' ⟨rfl,rfl⟩
 go_wp2_with fail
 go_loopw [0,7] (λb i wr=>z3v l size m w b i wr) (λ_ i _=>(intOf i+1).toNat)
 case atStart=>exact⟨size,l,g1,rfl,by omega,by omega,rfl,ho,hb⟩
 case round=>
  obtain⟨j,done,g,rfl,e1,e2,e3,e4,e5⟩:=hrel
  have E3:=Lib.hid e3
  have E2:done.length<=l.length+size:=by omega
  have E2':=Lib.hid e2
  obtain⟨a,c,rfl⟩:=e4.form
  clear e3 e2
  by_cases h0:j=0
  ·subst h0
   go_wp2_with fail
   go_ret
   exact⟨_,rfl,(by(repeat (first |exact Ext.refl _ |refine Ext.drew ?_ |refine Ext.drewN ?_ _ |refine Ext.alloc ?_ _ |(refine Ext.setCell ?_ (by first |omega |(simp;done) |(simp;omega)) _) |refine Ext.trans ?_ (by assumption)))),g,by rw[E3.out];simpa[beB]using e4⟩
  ·obtain⟨k,rfl⟩: ∃k,j=k+1:=⟨j-1,by omega⟩
   have ek:((k+1:Nat):Int)-1=(k:Int):=by omega
   rw[ek]
   clear h0 ek
   go_wp2_with (first |(at_builtin;refine zdi ?_))
   refine zdb (zbb (l2:=[UInt8.ofNat (m/256^k)]) rfl (.tmp 20) (.tmp 26) rfl rfl (e4.alloc _) rfl rfl (zqz _ ?_) ?_ ?_ ?_)
   ·rw[zlb,<-zxe];simp
   ·simp;omega
   ·have:=e5.le;simp;omega
   intro a' c' g' w' r1 r2 r3
   have r4:=(e4.alloc _).grown r2 (e5.alloc _) (Nat.le_refl _)
   go_wp2_with fail
   go_roundw
   case rel=>exact⟨k,_,g',rfl,by omega,by have:=E2'.out;simp;omega,by rw[E3.out,beB,List.append_assoc];rfl,r1,r4⟩
   case measure=>(first |omega |(simp[intOf];done) |(simp[intOf];omega))
set_option maxRecDepth 100000 in
theorem zgr(n:Nat)(w:World)(hn:n<=1073741823):
  Calls Tryz.prog 229 #[.int .i64 (n:Int)] w λe w'=>e= .returned (.int .i64 (zb1 n:Int))/\w=w':=by
 by_cases h1:n<64
 ·have HH:Hid (zb1 n=1):=Lib.hid (by unfold zb1;rw[if_pos h1])
  go_enter Tryz.func229,Tryz.ntmps229
  go_wp2_with fail
  go_ret
  exact⟨zjt (by rw[HH.out];rfl),rfl⟩
 ·have h1':64<=n:=by omega
  by_cases h2:n<16384
  ·have HH:Hid (zb1 n=2):=Lib.hid (by unfold zb1;rw[if_neg h1,if_pos h2])
   clear h1
   go_enter Tryz.func229,Tryz.ntmps229
   go_wp2_with fail
   go_ret
   exact⟨zjt (by rw[HH.out];rfl),rfl⟩
  ·have HH:Hid (zb1 n=4):=Lib.hid (by unfold zb1;rw[if_neg h1,if_neg h2])
   clear h1
   go_enter Tryz.func229,Tryz.ntmps229
   go_wp2_with fail
   go_ret
   exact⟨zjt (by rw[HH.out];rfl),rfl⟩
theorem zuv(p:AC)(l:List UInt8){S:Nat->Prop}(n:Nat)(w:World)(hp:By w S p l)(hl:l.length<=1000000000000)(hn:n<=1073741823):
  Calls Tryz.prog 178 #[.slice p.a l.length p.c, .int .i64 (n:Int)] w (Ret w λw' v=>∃g,OwB w' w.heap.size v (l++lenB n) g):=by
 by_cases h1:n<64
 ·have HH:Hid (zb1 n=1):=Lib.hid (by unfold zb1;rw[if_pos h1])
  have HL:Hid (lenB n=beB 1 n):=Lib.hid (by unfold lenB;rw[if_pos h1])
  have HB:Hid (bits BinOp.or IntKind.u64 0 (n:Int)=(n:Int)):=Lib.hid (by rw[show(0:Int)=((0:Nat):Int)from rfl,u64_or_nat _ _ (by omega) (by omega),Nat.zero_or])
  go_enter Tryz.func178,Tryz.ntmps178
  go_wp2_with fail
  refine(zgr n _ hn).mono ?_
  rintro e w' ⟨rfl,rfl⟩
  rw[HH.out]
  go_wp2_with fail
  rw[HB.out]
  refine(zfr p l 1 (n) _ hp (by omega) (by omega)).mono ?_
  rintro e w1 ⟨v,rfl,hb,g,ho⟩
  go_wp2_with fail
  go_ret
  exact⟨_,rfl,hb,g,by rw[HL.out];exact ho⟩
 ·by_cases h2:n<16384
  ·have HH:Hid (zb1 n=2):=Lib.hid (by unfold zb1;rw[if_neg h1,if_pos h2])
   have HL:Hid (lenB n=beB 2 (16384+n)):=Lib.hid (by unfold lenB;rw[if_neg h1,if_pos h2])
   have HB:Hid (bits BinOp.or IntKind.u64 16384 (n:Int)=((16384+n:Nat):Int)):=Lib.hid (by rw[show(16384:Int)=((16384:Nat):Int)from rfl,u64_or_nat _ _ (by omega) (by omega),nat_join 14 _ _ (by omega) (by omega)])
   go_enter Tryz.func178,Tryz.ntmps178
   go_wp2_with fail
   refine(zgr n _ hn).mono ?_
   rintro e w' ⟨rfl,rfl⟩
   rw[HH.out]
   go_wp2_with fail
   rw[HB.out]
   refine(zfr p l 2 (16384+n) _ hp (by omega) (by omega)).mono ?_
   rintro e w1 ⟨v,rfl,hb,g,ho⟩
   go_wp2_with fail
   go_ret
   exact⟨_,rfl,hb,g,by rw[HL.out];exact ho⟩
  ·have HH:Hid (zb1 n=4):=Lib.hid (by unfold zb1;rw[if_neg h1,if_neg h2])
   have HL:Hid (lenB n=beB 4 (2147483648+n)):=Lib.hid (by unfold lenB;rw[if_neg h1,if_neg h2])
   have HB:Hid (bits BinOp.or IntKind.u64 2147483648 (n:Int)=((2147483648+n:Nat):Int)):=Lib.hid (by rw[show(2147483648:Int)=((2147483648:Nat):Int)from rfl,u64_or_nat _ _ (by omega) (by omega),nat_join 31 _ _ (by omega) (by omega)])
   go_enter Tryz.func178,Tryz.ntmps178
   go_wp2_with fail
   refine(zgr n _ hn).mono ?_
   rintro e w' ⟨rfl,rfl⟩
   rw[HH.out]
   go_wp2_with fail
   rw[HB.out]
   refine(zfr p l 4 (2147483648+n) _ hp (by omega) (by omega)).mono ?_
   rintro e w1 ⟨v,rfl,hb,g,ho⟩
   go_wp2_with fail
   go_ret
   exact⟨_,rfl,hb,g,by rw[HL.out];exact ho⟩
theorem z2m(p q:AC)(l m:List UInt8){S S':Nat->Prop}(w:World)(hp:By w S p l)(hq:By w S' q m)(hl:l.length<=1000000000000)(hm:m.length<=1000000000000):
  Calls Tryz.prog 134 #[.slice p.a l.length p.c, .slice q.a m.length q.c] w (Ret w λw' v=>∃g,OwB w' w.heap.size v (l++m) g):=by
 go_enter Tryz.func134,Tryz.ntmps134
 go_wp2_with (first |(at_builtin;refine zdi ?_))
 refine zdb (zbb rfl (.tmp 5) (.tmp 6) rfl rfl (OwB.ofNew (l:=[]) (Nat.le_refl _) rfl rfl (by decide)) rfl rfl (hp.ext (zaw _ _)) ?_ ?_ ?_)
 ·simp;omega
 ·simp
 intro a1 c1 g1 w1 r1 r2 r3
 have r4:=Ext.grown (zaw _ _) r2 (λk hk=>by cases hk;simp)
 simp only[List.nil_append,List.length_nil,Nat.zero_add]at r1
 go_wp2_with (first |(at_builtin;refine zdi ?_))
 refine zdb (zbb rfl (.tmp 7) (.tmp 8) rfl rfl r1 rfl rfl (hq.ext r4) ?_ ?_ ?_)
 ·omega
 ·exact r4.le
 intro a2 c2 g2 w2 r5 r6 r7
 have r8:=r1.grown r6 r4 (Nat.le_refl _)
 go_wp2_with fail
 go_ret
 exact⟨_,rfl,r8,g2,r5⟩
end
section
theorem zuw(p q:AC)(l v:List UInt8){S S':Nat->Prop}(w:World)(hp:By w S p l)(hq:By w S' q v)(hl:l.length<=1000000000000)(hv:v.length<=1073741823):
  Calls Tryz.prog 108 #[.slice p.a l.length p.c, .slice q.a v.length q.c] w (Ret w λw' r=>∃g,OwB w' w.heap.size r (l++vecB v) g):=by
 go_enter Tryz.func108,Tryz.ntmps108
 go_wp2_with fail
 refine(zuv p l _ _ hp hl hv).mono ?_
 rintro e w1 ⟨r,rfl,hb,g,ho⟩
 have hlen:=(zky v.length)
 obtain⟨L,hL⟩: ∃L,L=l++lenB v.length:=⟨_,rfl⟩
 have HL:=Lib.hid hL
 have hll:L.length<=l.length+4:=by rw[hL,List.length_append,zex];omega
 rw[<-hL]at ho
 obtain⟨a,c,rfl⟩:=ho.form
 clear hL
 go_wp2_with (first |(at_builtin;refine zdi ?_))
 refine zdb (zbb rfl (.tmp 8) (.tmp 9) rfl rfl ho rfl rfl (hq.ext hb) ?_ ?_ ?_)
 ·omega
 ·exact hb.le
 intro a1 c1 g1 w2 r1 r2 r3
 have r4:=ho.grown r2 hb (Nat.le_refl _)
 go_wp2_with fail
 go_ret
 exact⟨_,rfl,r4,g1,by rw[vecB,<-List.append_assoc,<-HL.out];exact r1⟩
set_option maxRecDepth 100000 in
theorem zux(n:Nat)(w:World)(hn:n<=1073741823):
  Calls Tryz.prog 183 #[.int .i64 (n:Int)] w (Ret w λw' v=>∃g,OwB w' w.heap.size v (lenB n) g):=by
 by_cases h1:n<64
 ·have HL:Hid (lenB n=beB 1 n):=Lib.hid (by unfold lenB;rw[if_pos h1])
  go_enter Tryz.func183,Tryz.ntmps183
  go_wp2_with fail
  go_ret
  refine⟨_,rfl,(by(repeat (first |exact Ext.refl _ |refine Ext.drew ?_ |refine Ext.drewN ?_ _ |refine Ext.alloc ?_ _ |(refine Ext.setCell ?_ (by first |omega |(simp;done) |(simp;omega)) _) |refine Ext.trans ?_ (by assumption)))),some w.heap.size,?_⟩
  rw[HL.out]
  refine OwB.ofNew (Nat.le_refl _) ?_ (zar _ _).symm (by rw[zar];omega)
  simp[beB]
  omega
 ·have h1':64<=n:=by omega
  by_cases h2:n<16384
  ·have HL:Hid (lenB n=beB 2 (16384+n)):=Lib.hid (by unfold lenB;rw[if_neg h1,if_pos h2])
   clear h1
   go_enter Tryz.func183,Tryz.ntmps183
   go_wp2_with fail
   go_ret
   refine⟨_,rfl,(by(repeat (first |exact Ext.refl _ |refine Ext.drew ?_ |refine Ext.drewN ?_ _ |refine Ext.alloc ?_ _ |(refine Ext.setCell ?_ (by first |omega |(simp;done) |(simp;omega)) _) |refine Ext.trans ?_ (by assumption)))),some w.heap.size,?_⟩
   rw[HL.out]
   refine OwB.ofNew (Nat.le_refl _) ?_ (zar _ _).symm (by rw[zar];omega)
   simp[beB]
   omega
  ·have HL:Hid (lenB n=beB 4 (2147483648+n)):=Lib.hid (by unfold lenB;rw[if_neg h1,if_neg h2])
   clear h1
   go_enter Tryz.func183,Tryz.ntmps183
   go_wp2_with fail
   go_ret
   refine⟨_,rfl,(by(repeat (first |exact Ext.refl _ |refine Ext.drew ?_ |refine Ext.drewN ?_ _ |refine Ext.alloc ?_ _ |(refine Ext.setCell ?_ (by first |omega |(simp;done) |(simp;omega)) _) |refine Ext.trans ?_ (by assumption)))),some w.heap.size,?_⟩
   rw[HL.out]
   refine OwB.ofNew (Nat.le_refl _) ?_ (zar _ _).symm (by rw[zar];omega)
   simp[beB]
   omega
theorem zuz(q:AC)(v:List UInt8){S':Nat->Prop}(w:World)(hq:By w S' q v)(hv:v.length<=1073741823):
  Calls Tryz.prog 114 #[.slice q.a v.length q.c] w (Ret w λw' r=>∃g,OwB w' w.heap.size r (vecB v) g):=by
 go_enter Tryz.func114,Tryz.ntmps114
 go_wp2_with fail
 refine(zux _ _ hv).mono ?_
 rintro e w1 ⟨r,rfl,hb,g,ho⟩
 have hlen:=(zky v.length)
 obtain⟨L,hL⟩: ∃L,L=lenB v.length:=⟨_,rfl⟩
 have HL:=Lib.hid hL
 have hll:L.length<=4:=by rw[hL,zex];omega
 rw[<-hL]at ho
 obtain⟨a,c,rfl⟩:=ho.form
 clear hL
 go_wp2_with (first |(at_builtin;refine zdi ?_))
 refine zdb (zbb rfl (.tmp 5) (.tmp 6) rfl rfl ho rfl rfl (hq.ext hb) ?_ ?_ ?_)
 ·omega
 ·exact hb.le
 intro a1 c1 g1 w2 r1 r2 r3
 have r4:=ho.grown r2 hb (Nat.le_refl _)
 go_wp2_with fail
 go_ret
 exact⟨_,rfl,r4,g1,by rw[vecB,<-HL.out];exact r1⟩
def zve(size m:Nat)(w:World)(n out i:Value)(wr:World):Prop:=
 ∃(j:Nat) (p:AC),i= .int .i64 (j:Int)/\j<=size/\n= .int .u64 ((m/256^j:Nat):Int)/\out= .slice p.a j p.c/\By wr (w.heap.size<= ·) p (beB j m)/\(∃g,OwB wr w.heap.size out (beB j m) g)/\Ext w wr
theorem zuy(size m:Nat)(w:World)(hs:size<=8)(hm:m<18446744073709551616):
  Calls Tryz.prog 113 #[.int .i64 (size:Int), .int .u64 (m:Int)] w (Ret w λw' v=>∃g,OwB w' w.heap.size v (beB size m) g):=by
 go_enter Tryz.func113,Tryz.ntmps113
 go_wp2_with fail
 go_loopw [1,5,6] (λn out i wr=>zve size m w n out i wr) (λ_ _ i _=>size-(intOf i).toNat)
 case atStart=>exact⟨0,⟨none,0⟩,rfl,by omega,by simp,rfl,By.nil _ _,⟨none,Ow.nil _ _ _ _⟩,Ext.refl _⟩
 case round=>
  obtain⟨j,p,rfl,e1,rfl,rfl,e3,⟨g0,e4⟩,e5⟩:=hrel
  have hbl:=Lib.hid (zar j m)
  by_cases hj:j<size
  ·have hd:m/256^j<18446744073709551616:=Nat.lt_of_le_of_lt (Nat.div_le_self _ _) hm
   obtain⟨d,hd'⟩: ∃d,d=m/256^j:=⟨_,rfl⟩
   have HD:=Lib.hid hd'
   rw[<-hd']at hd
   rw[<-hd']
   clear hd'
   go_wp2_with (first |(at_builtin;refine zdi ?_))
   refine zdb (zbb (l:=[UInt8.ofNat d]) (l2:=beB j m) (m:=j) rfl (.tmp 15) (.tmp 16) rfl rfl (OwB.ofNew e5.le ?_ rfl (by simp)) rfl (zar _ _).symm (e3.ext (zaw _ _)) ?_ ?_ ?_)
   ·simp
   ·rw[zar];simp;omega
   ·have:=e5.le;simp;omega
   intro a' c' g' w' r1 r2 r3
   have r4:=Ext.grown (e5.alloc _) r2 (λk hk=>by cases hk;exact e5.le)
   have HR:Hid (OwB w' w.heap.size (.slice a' (1+j) c') (beB (j+1) m) g'):=Lib.hid (by rw[beB,<-HD.out];exact r1)
   go_wp2_with fail
   go_roundw
   case rel=>
    obtain⟨q,hq,hby⟩:=OwB.by_ HR.out
    rw[zar]at hq
    injection hq with q1 q2 q3
    subst q1;subst q3
    have ej:(1+j:Nat)=j+1:=by omega
    refine⟨j+1,q,rfl,by omega,?_,?_,hby,⟨g',?_⟩,r4⟩
    ·rw[HD.out,Nat.pow_succ,<-Nat.div_div_eq_div_mul];simp
    ·rw[<-ej]
    ·exact HR.out
   case measure=>(first |omega |(simp[intOf];done) |(simp[intOf];omega))
  ·go_wp2_with fail
   go_ret
   have:j=size:=by omega
   subst this
   exact⟨_,rfl,e5,g0,e4⟩
def zyc(l m:List UInt8)(i:Value)(w wr:World):Prop:=∃j:Nat,i= .int .i64 (j:Int)/\j<=l.length/\l.take j=m.take j/\Ext w wr
theorem zsb(p q:AC)(l m:List UInt8){S S':Nat->Prop}(w:World)(hp:By w S p l)(hq:By w S' q m):
  Calls Tryz.prog 18 #[.slice p.a l.length p.c, .slice q.a m.length q.c] w (Ret w λ_ v=>v= .bool (decide (l=m))):=by
 have hl:=hp.lens
 have hm:=hq.lens
 unfold maxLen at hl hm
 by_cases hlen:l.length=m.length
 ·have ht:((l.length:Int) != (m.length:Int))=false:=by simp[hlen]
  have HL:=Lib.hid hlen
  obtain⟨N,hN⟩: ∃N,N=l.length:=⟨_,rfl⟩
  have HN:=Lib.hid hN
  have hNb:N<=9223372036854775807:=by omega
  rw[<-hlen,<-hN]at ht
  rw[<-hlen,<-hN]
  clear hlen hN hl hm
  go_enter Tryz.func18,Tryz.ntmps18
  go_wp2_with fail
  go_loopw [5] (λi wr=>zyc l m i w wr) (λi _=>N-(intOf i).toNat)
  case atStart=>exact⟨0,rfl,Nat.zero_le _,by simp,Ext.refl _⟩
  case round=>
   obtain⟨j,rfl,e1,e2,e3⟩:=hrel
   have E2:=Lib.hid e2
   rw[<-HN.out]at e1
   clear e2
   by_cases hj:j<N
   ·have hj1:j<l.length:=by rw[<-HN.out];exact hj
    have hj2:j<m.length:=by rw[<-HL.out];exact hj1
    obtain⟨b,o,hpa,hc⟩:=(hp.ext e3).at_ hj1
    obtain⟨b',o',hqa,hc'⟩:=(hq.ext e3).at_ hj2
    have hj0:(0:Int)<=(j:Int):=by omega
    have hjN:(j:Int)< (N:Int):=by omega
    rw[hpa,hqa]
    clear hpa hqa
    by_cases he:l[j]=m[j]
    ·have ht2:((l[j].toNat:Int) != (m[j].toNat:Int))=false:=by simp[he]
     have HE:=Lib.hid he
     obtain⟨X,hX⟩: ∃X:Int,X=l[j].toNat:=⟨_,rfl⟩
     obtain⟨Y,hY⟩: ∃Y:Int,Y=m[j].toNat:=⟨_,rfl⟩
     rw[<-hX]at hc ht2
     rw[<-hY]at hc' ht2
     clear he hX hY
     go_wp2_with fail
     go_quiet (fail)
     go_wp2_with fail
     go_roundw
     case rel=>exact⟨j+1,by simp,by have:=HN.out;omega,by rw[List.take_add_one,List.take_add_one,E2.out,List.getElem?_eq_getElem hj1,List.getElem?_eq_getElem hj2,HE.out],by(repeat (first |exact Ext.refl _ |refine Ext.drew ?_ |refine Ext.drewN ?_ _ |refine Ext.alloc ?_ _ |(refine Ext.setCell ?_ (by first |omega |(simp;done) |(simp;omega)) _) |refine Ext.trans ?_ (by assumption)))⟩
     case measure=>(first |omega |(simp[intOf];done) |(simp[intOf];omega))
    ·have ht2:((l[j].toNat:Int) != (m[j].toNat:Int))=true:=by
      have:l[j].toNat≠m[j].toNat:=λh=>he (UInt8.toNat_inj.1 h)
      simp;omega
     have HE:Hid (l≠m):=Lib.hid (λh=>he (by subst h;rfl))
     obtain⟨X,hX⟩: ∃X:Int,X=l[j].toNat:=⟨_,rfl⟩
     obtain⟨Y,hY⟩: ∃Y:Int,Y=m[j].toNat:=⟨_,rfl⟩
     rw[<-hX]at hc ht2
     rw[<-hY]at hc' ht2
     clear he hX hY
     go_wp2_with fail
     go_quiet (fail)
     go_wp2_with fail
     go_ret
     exact⟨_,rfl,by(repeat (first |exact Ext.refl _ |refine Ext.drew ?_ |refine Ext.drewN ?_ _ |refine Ext.alloc ?_ _ |(refine Ext.setCell ?_ (by first |omega |(simp;done) |(simp;omega)) _) |refine Ext.trans ?_ (by assumption))),by simp[HE.out]⟩
   ·go_wp2_with fail
    go_ret
    have:l=m:=by
     have h1:=HN.out
     have h2:=HL.out
     have h3:=E2.out
     rwa[List.take_of_length_le (by omega),List.take_of_length_le (by omega)]at h3
    exact⟨_,rfl,by(repeat (first |exact Ext.refl _ |refine Ext.drew ?_ |refine Ext.drewN ?_ _ |refine Ext.alloc ?_ _ |(refine Ext.setCell ?_ (by first |omega |(simp;done) |(simp;omega)) _) |refine Ext.trans ?_ (by assumption))),by simp[this]⟩
 ·have ht:((l.length:Int) != (m.length:Int))=true:=by simp;omega
  have HE:Hid (l≠m):=Lib.hid (λh=>hlen (by rw[h]))
  clear hlen
  go_enter Tryz.func18,Tryz.ntmps18
  go_wp2_with fail
  go_ret
  exact⟨_,rfl,by(repeat (first |exact Ext.refl _ |refine Ext.drew ?_ |refine Ext.drewN ?_ _ |refine Ext.alloc ?_ _ |(refine Ext.setCell ?_ (by first |omega |(simp;done) |(simp;omega)) _) |refine Ext.trans ?_ (by assumption))),by simp[HE.out]⟩
end
section
def on6(f:Nat):Nat:=Nat.land (Nat.add f (Nat.div f 4294967296)) 127
def on5(e:Nat):Nat:=on6 (Nat.add e (Nat.div e 65536))
def on4(d:Nat):Nat:=on5 (Nat.add d (Nat.div d 256))
def on3(b:Nat):Nat:=on4 (Nat.land (Nat.add (Nat.div b 16) b) 1085102592571150095)
def on2(a:Nat):Nat:=on3 (Nat.add (Nat.land (Nat.div a 4) 3689348814741910323) (Nat.land a 3689348814741910323))
def zmb(n:Nat):Nat:=on2 (Nat.add (Nat.land (Nat.div n 2) 6148914691236517205) (Nat.land n 6148914691236517205))
def pwN(n:Nat):Bool:=Nat.beq (Nat.land n (Nat.sub n 1)) 0
def beqB:Bool->Bool->Bool
 |true,b=>b
 |false,true=>false
 |false,false=>true
def zxa(n:Nat):Bool:=beqB (Nat.beq (zmb n) 1) (pwN n)
def upTo(p:Nat->Bool):Nat->Bool
 |0=>true
 |n+1=>match p (n+1)with |true=>upTo p n |false=>false
theorem znp{p:Nat->Bool}: ∀{n:Nat},upTo p n=true->∀i,i<n->p (i+1)=true
 |0,_,i,h=>by omega
 |n+1,h,i,hi=>by
  unfold upTo at h
  split at h
  ·by_cases e:i=n
   ·subst e;assumption
   ·exact znp h i (by omega)
  ·cases h
theorem zsa:upTo (λk=>upTo (λi=>zxa (Nat.add (Nat.mul 2048 (Nat.sub k 1)) i)) 2048) 32=true:=by decide+kernel
theorem z2w{n:Nat}(h1:1<=n)(h2:n<=65536):zxa n=true:=by
 have h:=znp zsa ((n-1)/2048) (by omega)
 have h':=znp h ((n-1)%2048) (by omega)
 have e:Nat.add (Nat.mul 2048 (Nat.sub ((n-1)/2048+1) 1)) ((n-1)%2048+1)=n:=by
  show 2048*((n-1)/2048+1-1)+((n-1)%2048+1)=n
  omega
 rw[e]at h'
 exact h'
theorem z1r{a b:Bool}(h:beqB a b=true):a=b:=by cases a<;>cases b<;>simp[beqB]at*
theorem z5r{n:Nat}(h1:1<=n)(h2:n<=65536)(h:n&&&(n-1)=0): ∃d,d<=16/\n=2^d:=by
 obtain⟨hl,_,_⟩:=zs5 (x:=n-1) (by omega)
 have hn:=z6g (x:=n-1) (by omega)
 generalize lv (n-1)=l at*
 generalize (n-1)/2^(l+1)=k at hn
 have hp:=zck l
 have hp1:=zck (l+1)
 have hlt:2^l<2^(l+1):=by rw[Nat.pow_succ];omega
 unfold nd at hn
 have e1:n=k*2^(l+1)+2^l:=by omega
 have d1:n/2^(l+1)=k:=by
  rw[e1,Nat.add_comm,Nat.add_mul_div_right _ _ hp1,Nat.div_eq_of_lt (by omega)];omega
 have d2:(n-1)/2^(l+1)=k:=by
  rw[hn,Nat.add_sub_assoc (by omega),Nat.add_comm,Nat.add_mul_div_right _ _ hp1,Nat.div_eq_of_lt (by omega)];omega
 have:=Nat.and_div_two_pow (a:=n) (b:=n-1) (n:=l+1)
 rw[h,d1,d2,Nat.and_self,Nat.zero_div]at this
 subst this
 exact⟨l,hl,by omega⟩
theorem z5q: ∀d,d<=16->pwN (2^d)=true:=by decide+kernel
theorem zzt{n:Nat}(h1:1<=n)(h2:n<=65536):(zmb n=1)↔zek (n:Int)=true:=by
 have h:=z1r (z2w h1 h2)
 constructor
 ·intro h3
  rw[h3]at h
  have h4:n&&&(n-1)=0:=Nat.eq_of_beq_eq_true (h.symm.trans rfl)
  obtain⟨d,hd,rfl⟩:=z5r h1 h2 h4
  exact zz0 d hd
 ·intro h3
  obtain⟨d,hd,e⟩:=zpw h3
  have e':n=2^d:=by omega
  rw[e',z5q d hd]at h
  rw[e']
  exact Nat.eq_of_beq_eq_true h
end
section
theorem zfy{a b:Nat}{x y:Int}(hx:x=(a:Int))(hy:y=(b:Int))(ha:a<18446744073709551616)(hb:b<18446744073709551616):bits .and .u64 x y=((a&&&b:Nat):Int):=by
 rw[hx,hy];exact u64_and_nat a b ha hb
theorem zed{a:Nat}{x:Int}(hx:x=(a:Int))(ha:a<18446744073709551616):IntKind.u64.wrap x=(a:Int):=by
 rw[hx];simp[IntKind.wrap,IntKind.bits,IntKind.signed];omega
theorem zod(a:Nat)(ha:a<9223372036854775808):(BitVec.ofInt 64 (a:Int)).toNat=a:=by
 rw[BitVec.ofInt_natCast,BitVec.toNat_ofNat];exact Nat.mod_eq_of_lt (by omega)
theorem zr8(a b:Nat)(ha:a<9223372036854775808)(hb:b<9223372036854775808):bits .and .i64 (a:Int) (b:Int)=((a&&&b:Nat):Int):=by
 have hx:a&&&b<2^63:=Nat.and_lt_two_pow _ (by omega)
 show IntKind.i64.wrap ((BitVec.ofInt 64 (a:Int)&&&BitVec.ofInt 64 (b:Int)).toNat:Int)=_
 rw[BitVec.toNat_and,zod a ha,zod b hb,IntKind.wrap_i64]
 omega
set_option maxHeartbeats 1000000 in
theorem zut(n:Nat)(w:World)(hn:n<=65536):
  Calls Tryz.prog 259 #[.int .u64 (n:Int)] w λe w'=>e= .returned (.int .i64 (zmb n))/\w=w':=by
 go_enter Tryz.func259,Tryz.ntmps259
 go_wp2_with fail
 go_ret
 refine⟨zjt ?_,rfl⟩
 have hand: ∀x y:Nat,x&&&y<=x:=λx y=>Nat.and_le_left
 obtain⟨a0,ha0⟩: ∃a,a=(n/2&&&6148914691236517205):=⟨_,rfl⟩
 obtain⟨a1,ha1⟩: ∃a,a=(n&&&6148914691236517205):=⟨_,rfl⟩
 have l0:a0<=65536:=by have:=hand (n/2) 6148914691236517205;omega
 have l1:a1<=65536:=by have:=hand n 6148914691236517205;omega
 obtain⟨b0,hb0⟩: ∃a,a=((a0+a1)/4&&&3689348814741910323):=⟨_,rfl⟩
 obtain⟨b1,hb1⟩: ∃a,a=(a0+a1&&&3689348814741910323):=⟨_,rfl⟩
 have m0:b0<=131072:=by have:=hand ((a0+a1)/4) 3689348814741910323;omega
 have m1:b1<=131072:=by have:=hand (a0+a1) 3689348814741910323;omega
 obtain⟨c0,hc0⟩: ∃a,a=((b0+b1)/16+(b0+b1)&&&1085102592571150095):=⟨_,rfl⟩
 have p0:c0<=1048576:=by have:=hand ((b0+b1)/16+(b0+b1)) 1085102592571150095;omega
 have E1:bits BinOp.and IntKind.u64 ((n:Int)/2) 6148914691236517205=(a0:Int):=by rw[ha0];exact zfy (by omega) rfl (by omega) (by omega)
 have E2:bits BinOp.and IntKind.u64 (n:Int) 6148914691236517205=(a1:Int):=by rw[ha1];exact zfy rfl rfl (by omega) (by omega)
 have E3:IntKind.u64.wrap ((a0:Int)+a1)=((a0+a1:Nat):Int):=zed (by omega) (by omega)
 have E4:bits BinOp.and IntKind.u64 (((a0+a1:Nat):Int)/4) 3689348814741910323=(b0:Int):=by rw[hb0];exact zfy (by omega) rfl (by omega) (by omega)
 have E5:bits BinOp.and IntKind.u64 ((a0+a1:Nat):Int) 3689348814741910323=(b1:Int):=by rw[hb1];exact zfy rfl rfl (by omega) (by omega)
 have E6:IntKind.u64.wrap ((b0:Int)+b1)=((b0+b1:Nat):Int):=zed (by omega) (by omega)
 have E7:IntKind.u64.wrap (((b0+b1:Nat):Int)/16+((b0+b1:Nat):Int))=(((b0+b1)/16+(b0+b1):Nat):Int):=zed (by omega) (by omega)
 have E8:bits BinOp.and IntKind.u64 (((b0+b1)/16+(b0+b1):Nat):Int) 1085102592571150095=(c0:Int):=by rw[hc0];exact zfy rfl rfl (by omega) (by omega)
 have E9:IntKind.u64.wrap ((c0:Int)+(c0:Int)/256)=((c0+c0/256:Nat):Int):=zed (by omega) (by omega)
 obtain⟨d,hd⟩: ∃d,d=c0+c0/256:=⟨_,rfl⟩
 have E10:IntKind.u64.wrap ((d:Int)+(d:Int)/65536)=((d+d/65536:Nat):Int):=zed (by omega) (by omega)
 obtain⟨e,he⟩: ∃e,e=d+d/65536:=⟨_,rfl⟩
 have E11:IntKind.u64.wrap ((e:Int)+(e:Int)/4294967296)=((e+e/4294967296:Nat):Int):=zed (by omega) (by omega)
 simp only[E1,E2,E3,E4,E5,E6,E7,E8,E9,<-hd,E10,<-he,E11]
 rw[IntWalk.wrap64_in _ ⟨by omega,by omega⟩]
 rw[show(127:Int)=((127:Nat):Int)from rfl,zr8 _ _ (by omega) (by omega)]
 subst he hd hc0 hb0 hb1 ha0 ha1
 rfl
theorem zzs(n:Nat)(w:World)(hn:n<=65536):
  Calls Tryz.prog 209 #[.int .u64 (n:Int)] w λe w'=>e= .returned (.int .i64 (zmb n))/\w=w':=by
 go_enter Tryz.func209,Tryz.ntmps209
 go_wp2_with fail
 refine(zut n _ hn).mono ?_
 rintro e w' ⟨rfl,rfl⟩
 go_wp2_with fail
 go_ret
 exact⟨rfl,rfl⟩
theorem zpv{n:Int}(h: ¬(1<=n/\n<=65536)):zek n=false:=by
 rcases hf:zek n with _ |_
 ·rfl
 ·exact absurd (z1v hf) h
theorem zyp(n:Int)(w:World):
  Calls Tryz.prog 145 #[.int .i64 n] w λe w'=>e= .returned (.bool (zek n))/\w=w':=by
 by_cases h1:1<=n
 ·by_cases h2:n<=65536
  ·obtain⟨m,rfl⟩:=Int.eq_ofNat_of_zero_le (show 0<=n by omega)
   have hf:zek (m:Int)=((zmb m:Int)==1):=by
    have h:=zzt (n:=m) (by omega) (by omega)
    rw[Bool.eq_iff_iff,<-h]
    simp;omega
   have HF:=Lib.hid hf
   clear hf
   go_enter Tryz.func145,Tryz.ntmps145
   go_wp2_with fail
   refine(zzs m _ (by omega)).mono ?_
   rintro e w' ⟨rfl,rfl⟩
   go_wp2_with fail
   go_ret
   exact⟨zk6 HF.out.symm,rfl⟩
  ·have HF:=Lib.hid (zpv (n:=n) (by omega))
   go_enter Tryz.func145,Tryz.ntmps145
   go_wp2_with fail
   go_ret
   exact⟨zk6 HF.out.symm,rfl⟩
 ·have HF:=Lib.hid (zpv (n:=n) (by omega))
  go_enter Tryz.func145,Tryz.ntmps145
  go_wp2_with fail
  go_ret
  exact⟨zk6 HF.out.symm,rfl⟩
end
section
structure D3 where
 at_:Int
 lo:Int
 hi:Int
end
section
def z1k(l m:List Int)(i:Value)(w wr:World):Prop:=∃j:Nat,i= .int .i64 (j:Int)/\j<=l.length/\l.take j=m.take j/\Ext w wr
theorem zsc(p q:AC)(l m:List Int){S S':Nat->Prop}(w:World)(hp:Is w S p l)(hq:Is w S' q m):
  Calls Tryz.prog 46 #[.slice p.a l.length p.c, .slice q.a m.length q.c] w (Ret w λ_ v=>v= .bool (decide (l=m))):=by
 have hl:=hp.lens
 have hm:=hq.lens
 unfold maxLen at hl hm
 by_cases hlen:l.length=m.length
 ·have ht:((l.length:Int) != (m.length:Int))=false:=by simp[hlen]
  have HL:=Lib.hid hlen
  obtain⟨N,hN⟩: ∃N,N=l.length:=⟨_,rfl⟩
  have HN:=Lib.hid hN
  have hNb:N<=9223372036854775807:=by omega
  rw[<-hlen,<-hN]at ht
  rw[<-hlen,<-hN]
  clear hlen hN hl hm
  go_enter Tryz.func46,Tryz.ntmps46
  go_wp2_with fail
  go_loopw [5] (λi wr=>z1k l m i w wr) (λi _=>N-(intOf i).toNat)
  case atStart=>exact⟨0,rfl,Nat.zero_le _,by simp,Ext.refl _⟩
  case round=>
   obtain⟨j,rfl,e1,e2,e3⟩:=hrel
   have E2:=Lib.hid e2
   rw[<-HN.out]at e1
   clear e2
   by_cases hj:j<N
   ·have hj1:j<l.length:=by rw[<-HN.out];exact hj
    have hj2:j<m.length:=by rw[<-HL.out];exact hj1
    obtain⟨b,o,hpa,hc⟩:=(hp.ext e3).at_ hj1
    obtain⟨b',o',hqa,hc'⟩:=(hq.ext e3).at_ hj2
    have hj0:(0:Int)<=(j:Int):=by omega
    have hjN:(j:Int)< (N:Int):=by omega
    rw[hpa,hqa]
    clear hpa hqa
    by_cases he:l[j]=m[j]
    ·have ht2:(l[j] != m[j])=false:=by simp[he]
     have HE:=Lib.hid he
     obtain⟨X,hX⟩: ∃X,X=l[j]:=⟨_,rfl⟩
     obtain⟨Y,hY⟩: ∃Y,Y=m[j]:=⟨_,rfl⟩
     rw[<-hX]at hc ht2
     rw[<-hY]at hc' ht2
     clear he hX hY
     go_wp2_with fail
     go_quiet (fail)
     go_wp2_with fail
     go_roundw
     case rel=>exact⟨j+1,by simp,by have:=HN.out;omega,by rw[List.take_add_one,List.take_add_one,E2.out,List.getElem?_eq_getElem hj1,List.getElem?_eq_getElem hj2,HE.out],by(repeat (first |exact Ext.refl _ |refine Ext.drew ?_ |refine Ext.drewN ?_ _ |refine Ext.alloc ?_ _ |(refine Ext.setCell ?_ (by first |omega |(simp;done) |(simp;omega)) _) |refine Ext.trans ?_ (by assumption)))⟩
     case measure=>(first |omega |(simp[intOf];done) |(simp[intOf];omega))
    ·have ht2:(l[j] != m[j])=true:=by simpa using he
     have HE:Hid (l≠m):=Lib.hid (λh=>he (by subst h;rfl))
     obtain⟨X,hX⟩: ∃X,X=l[j]:=⟨_,rfl⟩
     obtain⟨Y,hY⟩: ∃Y,Y=m[j]:=⟨_,rfl⟩
     rw[<-hX]at hc ht2
     rw[<-hY]at hc' ht2
     clear he hX hY
     go_wp2_with fail
     go_quiet (fail)
     go_wp2_with fail
     go_ret
     exact⟨_,rfl,by(repeat (first |exact Ext.refl _ |refine Ext.drew ?_ |refine Ext.drewN ?_ _ |refine Ext.alloc ?_ _ |(refine Ext.setCell ?_ (by first |omega |(simp;done) |(simp;omega)) _) |refine Ext.trans ?_ (by assumption))),by simp[HE.out]⟩
   ·go_wp2_with fail
    go_ret
    have:l=m:=by
     have h1:=HN.out
     have h2:=HL.out
     have h3:=E2.out
     rwa[List.take_of_length_le (by omega),List.take_of_length_le (by omega)]at h3
    exact⟨_,rfl,by(repeat (first |exact Ext.refl _ |refine Ext.drew ?_ |refine Ext.drewN ?_ _ |refine Ext.alloc ?_ _ |(refine Ext.setCell ?_ (by first |omega |(simp;done) |(simp;omega)) _) |refine Ext.trans ?_ (by assumption))),by simp[this]⟩
 ·have ht:((l.length:Int) != (m.length:Int))=true:=by simp;omega
  have HE:Hid (l≠m):=Lib.hid (λh=>hlen (by rw[h]))
  clear hlen
  go_enter Tryz.func46,Tryz.ntmps46
  go_wp2_with fail
  go_ret
  exact⟨_,rfl,by(repeat (first |exact Ext.refl _ |refine Ext.drew ?_ |refine Ext.drewN ?_ _ |refine Ext.alloc ?_ _ |(refine Ext.setCell ?_ (by first |omega |(simp;done) |(simp;omega)) _) |refine Ext.trans ?_ (by assumption))),by simp[HE.out]⟩
end
section
def rotr(n x:Nat):Nat:=x/2^n+x%2^n*2^(32-n)
def chN(e f g:Nat):Nat:=(e&&&f)^^^((4294967295-e)&&&g)
def majN(a b c:Nat):Nat:=((a&&&b)^^^(a&&&c))^^^(b&&&c)
def bs0(a:Nat):Nat:=(rotr 2 a^^^rotr 13 a)^^^rotr 22 a
def bs1(e:Nat):Nat:=(rotr 6 e^^^rotr 11 e)^^^rotr 25 e
def ss0(x:Nat):Nat:=(rotr 7 x^^^rotr 18 x)^^^(x/8)
def ss1(x:Nat):Nat:=(rotr 17 x^^^rotr 19 x)^^^(x/1024)
theorem z6k:(2:Nat)^32=4294967296:=rfl
theorem zc8{n x:Nat}(hx:x<4294967296)(h1:1<=n)(h2:n<=31):rotr n x<4294967296:=by
 unfold rotr
 have hp:=zck n
 have hq:=zck (32-n)
 have e:2^(32-n)*2^n=4294967296:=by rw[<-Nat.pow_add,show 32-n+n=32 by omega]
 have hd:x/2^n<2^(32-n):=Nat.div_lt_of_lt_mul (by rw[Nat.mul_comm,e];exact hx)
 have hm:x%2^n<2^n:=Nat.mod_lt _ hp
 generalize x/2^n=d at*
 generalize x%2^n=m at*
 have:=Nat.mul_le_mul_right (2^(32-n)) (show m+1<=2^n from hm)
 rw[Nat.add_mul,Nat.mul_comm (2^n),e]at this
 omega
theorem zmw{a b:Nat}(ha:a<4294967296)(hb:b<4294967296):a^^^b<4294967296:=by
 rw[<-z6k]at*;exact Nat.xor_lt_two_pow ha hb
theorem zfz{a b:Nat}(ha:a<4294967296):a&&&b<4294967296:=Nat.lt_of_le_of_lt Nat.and_le_left ha
structure H8 where
 a:Nat
 b:Nat
 c:Nat
 d:Nat
 e:Nat
 f:Nat
 g:Nat
 h:Nat
def H8.ok(s:H8):Prop:=s.a<4294967296/\s.b<4294967296/\s.c<4294967296/\s.d<4294967296/\s.e<4294967296/\s.f<4294967296/\s.g<4294967296/\s.h<4294967296
def H8.list(s:H8):List Nat:=[s.a,s.b,s.c,s.d,s.e,s.f,s.g,s.h]
def be32(b:List UInt8)(i:Nat):Nat:=(((b.getD i 0).toNat*256+(b.getD (i+1) 0).toNat)*256+(b.getD (i+2) 0).toNat)*256+(b.getD (i+3) 0).toNat
theorem z1q(b:List UInt8)(i:Nat):be32 b i<4294967296:=by
 unfold be32
 have h0:=(b.getD i 0).toNat_lt
 have h1:=(b.getD (i+1) 0).toNat_lt
 have h2:=(b.getD (i+2) 0).toNat_lt
 have h3:=(b.getD (i+3) 0).toNat_lt
 omega
def zh9(b:List UInt8)(L:List Nat):Nat:=
 if L.length<16 then be32 b (4*L.length)
 else(ss1 (L.getD (L.length-2) 0)+L.getD (L.length-7) 0+ss0 (L.getD (L.length-15) 0)+L.getD (L.length-16) 0)%4294967296
def wTo(b:List UInt8):Nat->List Nat
 |0=>[]
 |t+1=>wTo b t++[zh9 b (wTo b t)]
theorem zbm(b:List UInt8): ∀t,(wTo b t).length=t
 |0=>rfl
 |t+1=>by rw[wTo,List.length_append,zbm b t];rfl
theorem z0l(b:List UInt8)(L:List Nat):zh9 b L<4294967296:=by
 unfold zh9
 split
 ·exact z1q _ _
 ·exact Nat.mod_lt _ (by omega)
theorem zx4(b:List UInt8): ∀t,∀x∈wTo b t,x<4294967296
 |0,x,h=>by cases h
 |t+1,x,h=>by
  rcases List.mem_append.1 h with h |h
  ·exact zx4 b t x h
  ·rw[List.mem_singleton.1 h];exact z0l _ _
def kTab:List Nat:=[
 0x428a2f98,0x71374491,0xb5c0fbcf,0xe9b5dba5,0x3956c25b,0x59f111f1,0x923f82a4,0xab1c5ed5,
 0xd807aa98,0x12835b01,0x243185be,0x550c7dc3,0x72be5d74,0x80deb1fe,0x9bdc06a7,0xc19bf174,
 0xe49b69c1,0xefbe4786,0x0fc19dc6,0x240ca1cc,0x2de92c6f,0x4a7484aa,0x5cb0a9dc,0x76f988da,
 0x983e5152,0xa831c66d,0xb00327c8,0xbf597fc7,0xc6e00bf3,0xd5a79147,0x06ca6351,0x14292967,
 0x27b70a85,0x2e1b2138,0x4d2c6dfc,0x53380d13,0x650a7354,0x766a0abb,0x81c2c92e,0x92722c85,
 0xa2bfe8a1,0xa81a664b,0xc24b8b70,0xc76c51a3,0xd192e819,0xd6990624,0xf40e3585,0x106aa070,
 0x19a4c116,0x1e376c08,0x2748774c,0x34b0bcb5,0x391c0cb3,0x4ed8aa4a,0x5b9cca4f,0x682e6ff3,
 0x748f82ee,0x78a5636f,0x84c87814,0x8cc70208,0x90befffa,0xa4506ceb,0xbef9a3f7,0xc67178f2]
def h0Tab:H8:=⟨0x6a09e667,0xbb67ae85,0x3c6ef372,0xa54ff53a,0x510e527f,0x9b05688c,0x1f83d9ab,0x5be0cd19⟩
theorem zx3(b:List UInt8)(n t:Nat):(wTo b n).getD t 0<4294967296:=by
 rcases Nat.lt_or_ge t n with h |h
 ·have hl:t< (wTo b n).length:=by rw[zbm];exact h
  rw[List.getD_eq_getElem?_getD,List.getElem?_eq_getElem hl]
  exact zx4 _ _ _ (List.getElem_mem hl)
 ·rw[List.getD_eq_getElem?_getD,List.getElem?_eq_none (by rw[zbm];exact h)];decide
def t1N(k w:Nat)(s:H8):Nat:=s.h+bs1 s.e+chN s.e s.f s.g+k+w
def t2N(s:H8):Nat:=bs0 s.a+majN s.a s.b s.c
def zmi(k w:Nat)(s:H8):H8:=⟨(t1N k w s+t2N s)%4294967296,s.a,s.b,s.c,(s.d+t1N k w s)%4294967296,s.e,s.f,s.g⟩
theorem zxl{k w:Nat}{s:H8}(h:s.ok):(zmi k w s).ok:=by
 obtain⟨ha,hb,hc,hd,he,hf,hg,hh⟩:=h
 exact⟨Nat.mod_lt _ (by omega),ha,hb,hc,Nat.mod_lt _ (by omega),he,hf,hg⟩
def zcs(b:List UInt8)(s:H8):Nat->H8
 |0=>s
 |t+1=>zmi (kTab.getD t 0) ((wTo b 64).getD t 0) (zcs b s t)
theorem zmj{b:List UInt8}{s:H8}(h:s.ok): ∀t,(zcs b s t).ok
 |0=>h
 |t+1=>zxl (zmj h t)
def addH(s x:H8):H8:=⟨(s.a+x.a)%4294967296,(s.b+x.b)%4294967296,(s.c+x.c)%4294967296,(s.d+x.d)%4294967296,(s.e+x.e)%4294967296,(s.f+x.f)%4294967296,(s.g+x.g)%4294967296,(s.h+x.h)%4294967296⟩
theorem z1o(s x:H8):(addH s x).ok:=⟨Nat.mod_lt _ (by omega),Nat.mod_lt _ (by omega),Nat.mod_lt _ (by omega),Nat.mod_lt _ (by omega),Nat.mod_lt _ (by omega),Nat.mod_lt _ (by omega),Nat.mod_lt _ (by omega),Nat.mod_lt _ (by omega)⟩
def zjy(s:H8)(b:List UInt8):H8:=addH s (zcs b s 64)
def runH:Nat->H8->List UInt8->H8
 |0,s,_=>s
 |m+1,s,l=>runH m (zjy s (l.take 64)) (l.drop 64)
theorem zno: ∀(m:Nat) (s:H8) (l:List UInt8),s.ok->(runH m s l).ok
 |0,s,l,h=>h
 |m+1,s,l,h=>zno m _ _ (z1o _ _)
theorem zok: ∀(m:Nat) (s:H8) (l:List UInt8),runH (m+1) s l=zjy (runH m s l) ((l.drop (64*m)).take 64)
 |0,s,l=>by simp[runH]
 |m+1,s,l=>by
  rw[runH,zok m,runH,List.drop_drop,show 64+64*m=64*(m+1)by omega]
def zct(n:Nat):Nat:=(119-n%64)%64
def zgn(n:Nat):List UInt8:=128::(List.replicate (zct n) 0++beB 8 (n*8))
theorem zop(n:Nat):(zgn n).length=9+zct n:=by
 unfold zgn
 rw[List.length_cons,List.length_append,List.length_replicate,zar];omega
theorem zjc(n:Nat):zct n<64:=Nat.mod_lt _ (by omega)
theorem zzy(n:Nat):(n+(9+zct n))%64=0:=by unfold zct;omega
def outH(s:H8):List UInt8:=s.list.flatMap (beB 4)
theorem zd6(s:H8):(outH s).length=32:=by simp[outH,H8.list,zar]
def shaB(l:List UInt8):List UInt8:=outH (runH ((l++zgn l.length).length/64) h0Tab (l++zgn l.length))
theorem zd7(l:List UInt8):(shaB l).length=32:=zd6 _
theorem z0w:h0Tab.ok:=by unfold H8.ok;decide
end
end Go.Proofs.YtddokcpcpoihmaaGreat
