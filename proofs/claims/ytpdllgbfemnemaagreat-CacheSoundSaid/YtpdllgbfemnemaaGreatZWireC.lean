import Derived.Test.YtpdllgbfemnemaaGreatZApp
import Derived.Test.YtpdllgbfemnemaaGreatZOnes
import Derived.Deep.QuietTactic
import Derived.BigQuiet
import Derived.Deep.LoopGhost
namespace Go.Proofs.YtpdllgbfemnemaaGreat
open Go.RowKit
set_option linter.unusedVariables false
section
theorem OwB.ofNew{w:World}{base:Nat}{l:List UInt8}{cs:Array Value}{n:Nat}(hb:base<=w.heap.size)(hcs:cs.toList=l.map bv)(hn:n=l.length)(hl:l.length<=1000000):
  OwB (w.alloc (.cells cs 5)) base (.slice (some ⟨w.heap.size,0,none⟩) n n) l (some w.heap.size):=by
 subst hn
 unfold OwB
 rw[<-hcs]
 exact Ow.made (by rw[<-Array.length_toList,hcs];simp) (by simp only[maxLen];omega) hb
theorem OwI.ofNew{w:World}{base:Nat}{l:List Int}{cs:Array Value}{n:Nat}(hb:base<=w.heap.size)(hcs:cs.toList=l.map iv)(hn:n=l.length)(hl:l.length<=1000000):
  OwI (w.alloc (.cells cs 3)) base (.slice (some ⟨w.heap.size,0,none⟩) n n) l (some w.heap.size):=by
 subst hn
 unfold OwI
 rw[<-hcs]
 exact Ow.made (by rw[<-Array.length_toList,hcs];simp) (by simp only[maxLen];omega) hb
theorem By.none_nil{w:World}{S:Nat->Prop}{c:Nat}{l:List UInt8}(h:By w S ⟨none,c⟩ l):l=[]:=by
 rcases Nat.eq_zero_or_pos l.length with h0 |h0
 ·exact List.eq_nil_of_length_eq_zero h0
 ·obtain⟨_,_,e,_⟩:=Sl.at_ h h0;cases e
theorem Is.none_nil{w:World}{S:Nat->Prop}{c:Nat}{l:List Int}(h:Is w S ⟨none,c⟩ l):l=[]:=by
 rcases Nat.eq_zero_or_pos l.length with h0 |h0
 ·exact List.eq_nil_of_length_eq_zero h0
 ·obtain⟨_,_,e,_⟩:=Sl.at_ h.1 h0;cases e
theorem zvp(p:AC)(l:List UInt8){S:Nat->Prop}(w:World)(hp:By w S p l)(hl:l.length<=8000000000000):
  Calls Tryz.prog 165 #[.slice p.a l.length p.c] w (Ret w λw' v=>∃g,OwB w' w.heap.size v l g):=by
 have hq: ∀w (a:Option Addr) (n c:Nat),(binOp .eql 28 (.slice a n c) (.slice none 0 0)).run Tryz.prog w= .ok (.bool a.isNone) w:=λw a n c=>Lib.run_eql_slice_nil w _ _ a n c 0 0 Tryz.underlying28
 obtain⟨a,c⟩:=p
 cases a with
 |none=>
  have hn:=hp.none_nil
  subst hn
  go_enter Tryz.func165,Tryz.ntmps165
  go_wp2_with fail
  go_ret
  exact⟨_,rfl,(by(repeat (first |exact Ext.refl _ |refine Ext.drew ?_ |refine Ext.drewN ?_ _ |refine Ext.alloc ?_ _ |(refine Ext.setCell ?_ (by first |omega |(simp;done) |(simp;omega)) _) |refine Ext.trans ?_ (by assumption)))),none,Ow.nil _ _ _ _⟩
 |some ad=>
  go_enter Tryz.func165,Tryz.ntmps165
  go_wp2_with (first |(at_builtin;refine zdn ?_))
  refine zdu (zcj rfl (.tmp 5) (.tmp 6) rfl rfl (OwB.ofNew (l:=[]) (Nat.le_refl _) rfl rfl (by decide)) rfl rfl (id ((hp.ext (za3 _ _)))) ?_ ?_ ?_)
  ·simp;omega
  ·simp
  intro a' c' g' w' r1 r2 r3
  have r4:=Ext.grown (za3 _ _) r2 (λk hk=>by cases hk;simp)
  rw[List.nil_append]at r1
  go_wp2_with fail
  go_ret
  exact⟨_,rfl,r4,g',by simpa using r1⟩
theorem zvc(p:AC)(l:List UInt8){S:Nat->Prop}(w:World)(hp:By w S p l)(hl:l.length<=8000000000000):
  Calls Tryz.prog 87 #[.slice p.a l.length p.c] w (Ret w λw' v=>∃g,OwB w' w.heap.size v l g):=by
 have hq: ∀w (a:Option Addr) (n c:Nat),(binOp .eql 28 (.slice a n c) (.slice none 0 0)).run Tryz.prog w= .ok (.bool a.isNone) w:=λw a n c=>Lib.run_eql_slice_nil w _ _ a n c 0 0 Tryz.underlying28
 obtain⟨a,c⟩:=p
 cases a with
 |none=>
  have hn:=hp.none_nil
  subst hn
  go_enter Tryz.func87,Tryz.ntmps87
  go_wp2_with fail
  go_ret
  exact⟨_,rfl,(by(repeat (first |exact Ext.refl _ |refine Ext.drew ?_ |refine Ext.drewN ?_ _ |refine Ext.alloc ?_ _ |(refine Ext.setCell ?_ (by first |omega |(simp;done) |(simp;omega)) _) |refine Ext.trans ?_ (by assumption)))),none,Ow.nil _ _ _ _⟩
 |some ad=>
  go_enter Tryz.func87,Tryz.ntmps87
  go_wp2_with (first |(at_builtin;refine zdn ?_))
  refine zdu (zcj rfl (.tmp 5) (.tmp 6) rfl rfl (OwB.ofNew (l:=[]) (Nat.le_refl _) rfl rfl (by decide)) rfl rfl (id ((hp.ext (za3 _ _)))) ?_ ?_ ?_)
  ·simp;omega
  ·simp
  intro a' c' g' w' r1 r2 r3
  have r4:=Ext.grown (za3 _ _) r2 (λk hk=>by cases hk;simp)
  rw[List.nil_append]at r1
  go_wp2_with fail
  go_ret
  exact⟨_,rfl,r4,g',by simpa using r1⟩
theorem z59(p:AC)(l:List Int){S:Nat->Prop}(w:World)(hp:Is w S p l)(hl:l.length<=8000000000000):
  Calls Tryz.prog 144 #[.slice p.a l.length p.c] w (Ret w λw' v=>∃g,OwI w' w.heap.size v l g):=by
 have hq: ∀w (a:Option Addr) (n c:Nat),(binOp .eql 34 (.slice a n c) (.slice none 0 0)).run Tryz.prog w= .ok (.bool a.isNone) w:=λw a n c=>Lib.run_eql_slice_nil w _ _ a n c 0 0 Tryz.underlying34
 obtain⟨a,c⟩:=p
 cases a with
 |none=>
  have hn:=hp.none_nil
  subst hn
  go_enter Tryz.func144,Tryz.ntmps144
  go_wp2_with fail
  go_ret
  exact⟨_,rfl,(by(repeat (first |exact Ext.refl _ |refine Ext.drew ?_ |refine Ext.drewN ?_ _ |refine Ext.alloc ?_ _ |(refine Ext.setCell ?_ (by first |omega |(simp;done) |(simp;omega)) _) |refine Ext.trans ?_ (by assumption)))),none,Ow.nil _ _ _ _⟩
 |some ad=>
  go_enter Tryz.func144,Tryz.ntmps144
  go_wp2_with (first |(at_builtin;refine zdn ?_))
  refine zdu (zha rfl (.tmp 5) (.tmp 6) rfl rfl (OwI.ofNew (l:=[]) (Nat.le_refl _) rfl rfl (by decide)) rfl rfl (And.left ((hp.ext (za3 _ _)))) ?_ ?_ ?_)
  ·simp;omega
  ·simp
  intro a' c' g' w' r1 r2 r3
  have r4:=Ext.grown (za3 _ _) r2 (λk hk=>by cases hk;simp)
  rw[List.nil_append]at r1
  go_wp2_with fail
  go_ret
  exact⟨_,rfl,r4,g',by simpa using r1⟩
end
section
theorem zzk{w:World}{x:Int}{e:TypeId}(b:UInt8)(h:x=(b.toNat:Int)):Sl (w.alloc (.cells #[.int .u8 x] e)) (λ_=>True) 1 ⟨some ⟨w.heap.size,0,none⟩,1⟩ [b].length ([b].map bv):=by
 subst h;exact zfkb _ _ _
def zgeb(l:List UInt8)(size m:Nat)(w:World)(b i:Value)(wr:World):Prop:=
 ∃(j:Nat) (done:List UInt8) (g:Option Nat),i= .int .i64 ((j:Int)-1)/\j<=size/\done.length+j=l.length+size/\l++beB size m=done++beB j m/\OwB wr w.heap.size b done g/\Ext w wr
theorem zdsb(n:Int)(w:World)(hn:n=1\/n=2\/n=4\/n=8):
  Calls Tryz.prog 166 #[.int .i64 n] w λe w'=>e= .returned (.bool true)/\w=w':=by
 rcases hn with rfl |rfl |rfl |rfl<;>
 ·go_enter Tryz.func166,Tryz.ntmps166
  go_wp2_with fail
  go_ret
  exact⟨rfl,rfl⟩
theorem zkp(p:AC)(l:List UInt8){S:Nat->Prop}(size m:Nat)(w:World)(hp:By w S p l)(hl:l.length<=1000000000000)(hs:size=1\/size=2\/size=4\/size=8):
  Calls Tryz.prog 129 #[.slice p.a l.length p.c, .int .i64 (size:Int), .int .u64 (m:Int)] w (Ret w λw' v=>∃g,OwB w' w.heap.size v (l++beB size m) g):=by
 have hs8:size<=8:=by omega
 have hs1:1<=size:=by omega
 have HS:Hid ((size:Int)=1\/(size:Int)=2\/(size:Int)=4\/(size:Int)=8):=Lib.hid (by omega)
 clear hs
 go_enter Tryz.func129,Tryz.ntmps129
 go_wp2_with fail
 refine(zvp p l _ hp (by omega)).mono ?_
 rintro e w1 ⟨v,rfl,hb,g1,ho⟩
 go_wp2_with fail
 refine(zdsb _ _ HS.out).mono ?_
 rintro e w' ⟨rfl,rfl⟩
 go_wp2_with fail
 go_loopw [0,7] (λb i wr=>zgeb l size m w b i wr) (λ_ i _=>(intOf i+1).toNat)
 case atStart=>exact⟨size,l,g1,rfl,by omega,by omega,rfl,ho,hb⟩
 case round=>
  obtain⟨j,done,g,rfl,e1,e2,e3,e4,e5⟩:=hrel
  have E3:=Lib.hid e3
  have E2:done.length<=l.length+size:=by omega
  have E2':=Lib.hid e2
  obtain⟨a,c,rfl⟩:=e4.form
  clear e3 e2
  by_cases h0:j=0
  ·subst h0
   go_wp2_with fail
   go_ret
   exact⟨_,rfl,(by(repeat (first |exact Ext.refl _ |refine Ext.drew ?_ |refine Ext.drewN ?_ _ |refine Ext.alloc ?_ _ |(refine Ext.setCell ?_ (by first |omega |(simp;done) |(simp;omega)) _) |refine Ext.trans ?_ (by assumption)))),g,by rw[E3.out];simpa[beB]using e4⟩
  ·obtain⟨k,rfl⟩: ∃k,j=k+1:=⟨j-1,by omega⟩
   have ek:((k+1:Nat):Int)-1=(k:Int):=by omega
   rw[ek]
   clear h0 ek
   go_wp2_with (first |(at_builtin;refine zdn ?_))
   refine zdu (zcj (l2:=[UInt8.ofNat (m/256^k)]) rfl (.tmp 20) (.tmp 26) rfl rfl (e4.alloc _) rfl rfl (zzk _ ?_) ?_ ?_ ?_)
   ·rw[ztq,<-z9q];simp
   ·simp;omega
   ·have:=e5.le;simp;omega
   intro a' c' g' w' r1 r2 r3
   have r4:=(e4.alloc _).grown r2 (e5.alloc _) (Nat.le_refl _)
   go_wp2_with fail
   go_roundw
   case rel=>exact⟨k,_,g',rfl,by omega,by have:=E2'.out;simp;omega,by rw[E3.out,beB,List.append_assoc];rfl,r1,r4⟩
   case measure=>(first |omega |(simp[intOf];done) |(simp[intOf];omega))
set_option maxRecDepth 100000 in
theorem zmz(n:Nat)(w:World)(hn:n<=1073741823):
  Calls Tryz.prog 192 #[.int .i64 (n:Int)] w λe w'=>e= .returned (.int .i64 (zb4 n:Int))/\w=w':=by
 by_cases h1:n<64
 ·have HH:Hid (zb4 n=1):=Lib.hid (by unfold zb4;rw[if_pos h1])
  go_enter Tryz.func192,Tryz.ntmps192
  go_wp2_with fail
  go_ret
  exact⟨zch (by rw[HH.out];rfl),rfl⟩
 ·have h1':64<=n:=by omega
  by_cases h2:n<16384
  ·have HH:Hid (zb4 n=2):=Lib.hid (by unfold zb4;rw[if_neg h1,if_pos h2])
   clear h1
   go_enter Tryz.func192,Tryz.ntmps192
   go_wp2_with fail
   go_ret
   exact⟨zch (by rw[HH.out];rfl),rfl⟩
  ·have HH:Hid (zb4 n=4):=Lib.hid (by unfold zb4;rw[if_neg h1,if_neg h2])
   clear h1
   go_enter Tryz.func192,Tryz.ntmps192
   go_wp2_with fail
   go_ret
   exact⟨zch (by rw[HH.out];rfl),rfl⟩
theorem z6i(p:AC)(l:List UInt8){S:Nat->Prop}(n:Nat)(w:World)(hp:By w S p l)(hl:l.length<=1000000000000)(hn:n<=1073741823):
  Calls Tryz.prog 167 #[.slice p.a l.length p.c, .int .i64 (n:Int)] w (Ret w λw' v=>∃g,OwB w' w.heap.size v (l++lenB n) g):=by
 by_cases h1:n<64
 ·have HH:Hid (zb4 n=1):=Lib.hid (by unfold zb4;rw[if_pos h1])
  have HL:Hid (lenB n=beB 1 n):=Lib.hid (by unfold lenB;rw[if_pos h1])
  have HB:Hid (bits BinOp.or IntKind.u64 0 (n:Int)=(n:Int)):=Lib.hid (by rw[show(0:Int)=((0:Nat):Int)from rfl,u64_or_nat _ _ (by omega) (by omega),Nat.zero_or])
  go_enter Tryz.func167,Tryz.ntmps167
  go_wp2_with fail
  refine(zmz n _ hn).mono ?_
  rintro e w' ⟨rfl,rfl⟩
  rw[HH.out]
  go_wp2_with fail
  rw[HB.out]
  refine(zkp p l 1 (n) _ hp (by omega) (by omega)).mono ?_
  rintro e w1 ⟨v,rfl,hb,g,ho⟩
  go_wp2_with fail
  go_ret
  exact⟨_,rfl,hb,g,by rw[HL.out];exact ho⟩
 ·by_cases h2:n<16384
  ·have HH:Hid (zb4 n=2):=Lib.hid (by unfold zb4;rw[if_neg h1,if_pos h2])
   have HL:Hid (lenB n=beB 2 (16384+n)):=Lib.hid (by unfold lenB;rw[if_neg h1,if_pos h2])
   have HB:Hid (bits BinOp.or IntKind.u64 16384 (n:Int)=((16384+n:Nat):Int)):=Lib.hid (by rw[show(16384:Int)=((16384:Nat):Int)from rfl,u64_or_nat _ _ (by omega) (by omega),nat_join 14 _ _ (by omega) (by omega)])
   go_enter Tryz.func167,Tryz.ntmps167
   go_wp2_with fail
   refine(zmz n _ hn).mono ?_
   rintro e w' ⟨rfl,rfl⟩
   rw[HH.out]
   go_wp2_with fail
   rw[HB.out]
   refine(zkp p l 2 (16384+n) _ hp (by omega) (by omega)).mono ?_
   rintro e w1 ⟨v,rfl,hb,g,ho⟩
   go_wp2_with fail
   go_ret
   exact⟨_,rfl,hb,g,by rw[HL.out];exact ho⟩
  ·have HH:Hid (zb4 n=4):=Lib.hid (by unfold zb4;rw[if_neg h1,if_neg h2])
   have HL:Hid (lenB n=beB 4 (2147483648+n)):=Lib.hid (by unfold lenB;rw[if_neg h1,if_neg h2])
   have HB:Hid (bits BinOp.or IntKind.u64 2147483648 (n:Int)=((2147483648+n:Nat):Int)):=Lib.hid (by rw[show(2147483648:Int)=((2147483648:Nat):Int)from rfl,u64_or_nat _ _ (by omega) (by omega),nat_join 31 _ _ (by omega) (by omega)])
   go_enter Tryz.func167,Tryz.ntmps167
   go_wp2_with fail
   refine(zmz n _ hn).mono ?_
   rintro e w' ⟨rfl,rfl⟩
   rw[HH.out]
   go_wp2_with fail
   rw[HB.out]
   refine(zkp p l 4 (2147483648+n) _ hp (by omega) (by omega)).mono ?_
   rintro e w1 ⟨v,rfl,hb,g,ho⟩
   go_wp2_with fail
   go_ret
   exact⟨_,rfl,hb,g,by rw[HL.out];exact ho⟩
theorem zc1b(p q:AC)(l m:List UInt8){S S':Nat->Prop}(w:World)(hp:By w S p l)(hq:By w S' q m)(hl:l.length<=1000000000000)(hm:m.length<=1000000000000):
  Calls Tryz.prog 160 #[.slice p.a l.length p.c, .slice q.a m.length q.c] w (Ret w λw' v=>∃g,OwB w' w.heap.size v (l++m) g):=by
 go_enter Tryz.func160,Tryz.ntmps160
 go_wp2_with (first |(at_builtin;refine zdn ?_))
 refine zdu (zcj rfl (.tmp 5) (.tmp 6) rfl rfl (OwB.ofNew (l:=[]) (Nat.le_refl _) rfl rfl (by decide)) rfl rfl (hp.ext (za3 _ _)) ?_ ?_ ?_)
 ·simp;omega
 ·simp
 intro a1 c1 g1 w1 r1 r2 r3
 have r4:=Ext.grown (za3 _ _) r2 (λk hk=>by cases hk;simp)
 simp only[List.nil_append,List.length_nil,Nat.zero_add]at r1
 go_wp2_with (first |(at_builtin;refine zdn ?_))
 refine zdu (zcj rfl (.tmp 7) (.tmp 8) rfl rfl r1 rfl rfl (hq.ext r4) ?_ ?_ ?_)
 ·omega
 ·exact r4.le
 intro a2 c2 g2 w2 r5 r6 r7
 have r8:=r1.grown r6 r4 (Nat.le_refl _)
 go_wp2_with fail
 go_ret
 exact⟨_,rfl,r8,g2,r5⟩
theorem zdnb(p q:AC)(l m:List UInt8){S S':Nat->Prop}(w:World)(hp:By w S p l)(hq:By w S' q m)(hl:l.length<=1000000000000)(hm:m.length<=1000000000000):
  Calls Tryz.prog 77 #[.slice p.a l.length p.c, .slice q.a m.length q.c] w (Ret w λw' v=>∃g,OwB w' w.heap.size v (l++m) g):=by
 go_enter Tryz.func77,Tryz.ntmps77
 go_wp2_with (first |(at_builtin;refine zdn ?_))
 refine zdu (zcj rfl (.tmp 5) (.tmp 6) rfl rfl (OwB.ofNew (l:=[]) (Nat.le_refl _) rfl rfl (by decide)) rfl rfl (hp.ext (za3 _ _)) ?_ ?_ ?_)
 ·simp;omega
 ·simp
 intro a1 c1 g1 w1 r1 r2 r3
 have r4:=Ext.grown (za3 _ _) r2 (λk hk=>by cases hk;simp)
 simp only[List.nil_append,List.length_nil,Nat.zero_add]at r1
 go_wp2_with (first |(at_builtin;refine zdn ?_))
 refine zdu (zcj rfl (.tmp 7) (.tmp 8) rfl rfl r1 rfl rfl (hq.ext r4) ?_ ?_ ?_)
 ·omega
 ·exact r4.le
 intro a2 c2 g2 w2 r5 r6 r7
 have r8:=r1.grown r6 r4 (Nat.le_refl _)
 go_wp2_with fail
 go_ret
 exact⟨_,rfl,r8,g2,r5⟩
end
section
theorem z5x(p q:AC)(l v:List UInt8){S S':Nat->Prop}(w:World)(hp:By w S p l)(hq:By w S' q v)(hl:l.length<=1000000000000)(hv:v.length<=1073741823):
  Calls Tryz.prog 130 #[.slice p.a l.length p.c, .slice q.a v.length q.c] w (Ret w λw' r=>∃g,OwB w' w.heap.size r (l++vecB v) g):=by
 go_enter Tryz.func130,Tryz.ntmps130
 go_wp2_with fail
 refine(z6i p l _ _ hp hl hv).mono ?_
 rintro e w1 ⟨r,rfl,hb,g,ho⟩
 have hlen:=(zlj v.length)
 obtain⟨L,hL⟩: ∃L,L=l++lenB v.length:=⟨_,rfl⟩
 have HL:=Lib.hid hL
 have hll:L.length<=l.length+4:=by rw[hL,List.length_append,zs8];omega
 rw[<-hL]at ho
 obtain⟨a,c,rfl⟩:=ho.form
 clear hL
 go_wp2_with (first |(at_builtin;refine zdn ?_))
 refine zdu (zcj rfl (.tmp 8) (.tmp 9) rfl rfl ho rfl rfl (hq.ext hb) ?_ ?_ ?_)
 ·omega
 ·exact hb.le
 intro a1 c1 g1 w2 r1 r2 r3
 have r4:=ho.grown r2 hb (Nat.le_refl _)
 go_wp2_with fail
 go_ret
 exact⟨_,rfl,r4,g1,by rw[vecB,<-List.append_assoc,<-HL.out];exact r1⟩
set_option maxRecDepth 100000 in
theorem z6v(n:Nat)(w:World)(hn:n<=1073741823):
  Calls Tryz.prog 164 #[.int .i64 (n:Int)] w (Ret w λw' v=>∃g,OwB w' w.heap.size v (lenB n) g):=by
 by_cases h1:n<64
 ·have HL:Hid (lenB n=beB 1 n):=Lib.hid (by unfold lenB;rw[if_pos h1])
  go_enter Tryz.func164,Tryz.ntmps164
  go_wp2_with fail
  go_ret
  refine⟨_,rfl,(by(repeat (first |exact Ext.refl _ |refine Ext.drew ?_ |refine Ext.drewN ?_ _ |refine Ext.alloc ?_ _ |(refine Ext.setCell ?_ (by first |omega |(simp;done) |(simp;omega)) _) |refine Ext.trans ?_ (by assumption)))),some w.heap.size,?_⟩
  rw[HL.out]
  refine OwB.ofNew (Nat.le_refl _) ?_ (zaw _ _).symm (by rw[zaw];omega)
  simp[beB]
  omega
 ·have h1':64<=n:=by omega
  by_cases h2:n<16384
  ·have HL:Hid (lenB n=beB 2 (16384+n)):=Lib.hid (by unfold lenB;rw[if_neg h1,if_pos h2])
   clear h1
   go_enter Tryz.func164,Tryz.ntmps164
   go_wp2_with fail
   go_ret
   refine⟨_,rfl,(by(repeat (first |exact Ext.refl _ |refine Ext.drew ?_ |refine Ext.drewN ?_ _ |refine Ext.alloc ?_ _ |(refine Ext.setCell ?_ (by first |omega |(simp;done) |(simp;omega)) _) |refine Ext.trans ?_ (by assumption)))),some w.heap.size,?_⟩
   rw[HL.out]
   refine OwB.ofNew (Nat.le_refl _) ?_ (zaw _ _).symm (by rw[zaw];omega)
   simp[beB]
   omega
  ·have HL:Hid (lenB n=beB 4 (2147483648+n)):=Lib.hid (by unfold lenB;rw[if_neg h1,if_neg h2])
   clear h1
   go_enter Tryz.func164,Tryz.ntmps164
   go_wp2_with fail
   go_ret
   refine⟨_,rfl,(by(repeat (first |exact Ext.refl _ |refine Ext.drew ?_ |refine Ext.drewN ?_ _ |refine Ext.alloc ?_ _ |(refine Ext.setCell ?_ (by first |omega |(simp;done) |(simp;omega)) _) |refine Ext.trans ?_ (by assumption)))),some w.heap.size,?_⟩
   rw[HL.out]
   refine OwB.ofNew (Nat.le_refl _) ?_ (zaw _ _).symm (by rw[zaw];omega)
   simp[beB]
   omega
theorem z68(q:AC)(v:List UInt8){S':Nat->Prop}(w:World)(hq:By w S' q v)(hv:v.length<=1073741823):
  Calls Tryz.prog 128 #[.slice q.a v.length q.c] w (Ret w λw' r=>∃g,OwB w' w.heap.size r (vecB v) g):=by
 go_enter Tryz.func128,Tryz.ntmps128
 go_wp2_with fail
 refine(z6v _ _ hv).mono ?_
 rintro e w1 ⟨r,rfl,hb,g,ho⟩
 have hlen:=(zlj v.length)
 obtain⟨L,hL⟩: ∃L,L=lenB v.length:=⟨_,rfl⟩
 have HL:=Lib.hid hL
 have hll:L.length<=4:=by rw[hL,zs8];omega
 rw[<-hL]at ho
 obtain⟨a,c,rfl⟩:=ho.form
 clear hL
 go_wp2_with (first |(at_builtin;refine zdn ?_))
 refine zdu (zcj rfl (.tmp 5) (.tmp 6) rfl rfl ho rfl rfl (hq.ext hb) ?_ ?_ ?_)
 ·omega
 ·exact hb.le
 intro a1 c1 g1 w2 r1 r2 r3
 have r4:=ho.grown r2 hb (Nat.le_refl _)
 go_wp2_with fail
 go_ret
 exact⟨_,rfl,r4,g1,by rw[vecB,<-HL.out];exact r1⟩
def z8o(size m:Nat)(w:World)(n out i:Value)(wr:World):Prop:=
 ∃(j:Nat) (p:AC),i= .int .i64 (j:Int)/\j<=size/\n= .int .u64 ((m/256^j:Nat):Int)/\out= .slice p.a j p.c/\By wr (w.heap.size<= ·) p (beB j m)/\(∃g,OwB wr w.heap.size out (beB j m) g)/\Ext w wr
theorem z5c(size m:Nat)(w:World)(hs:size<=8)(hm:m<18446744073709551616):
  Calls Tryz.prog 78 #[.int .i64 (size:Int), .int .u64 (m:Int)] w (Ret w λw' v=>∃g,OwB w' w.heap.size v (beB size m) g):=by
 go_enter Tryz.func78,Tryz.ntmps78
 go_wp2_with fail
 go_loopw [1,5,6] (λn out i wr=>z8o size m w n out i wr) (λ_ _ i _=>size-(intOf i).toNat)
 case atStart=>exact⟨0,⟨none,0⟩,rfl,by omega,by simp,rfl,By.nil _ _,⟨none,Ow.nil _ _ _ _⟩,Ext.refl _⟩
 case round=>
  obtain⟨j,p,rfl,e1,rfl,rfl,e3,⟨g0,e4⟩,e5⟩:=hrel
  have hbl:=Lib.hid (zaw j m)
  by_cases hj:j<size
  ·have hd:m/256^j<18446744073709551616:=Nat.lt_of_le_of_lt (Nat.div_le_self _ _) hm
   obtain⟨d,hd'⟩: ∃d,d=m/256^j:=⟨_,rfl⟩
   have HD:=Lib.hid hd'
   rw[<-hd']at hd
   rw[<-hd']
   clear hd'
   go_wp2_with (first |(at_builtin;refine zdn ?_))
   refine zdu (zcj (l:=[UInt8.ofNat d]) (l2:=beB j m) (m:=j) rfl (.tmp 15) (.tmp 16) rfl rfl (OwB.ofNew e5.le ?_ rfl (by simp)) rfl (zaw _ _).symm (e3.ext (za3 _ _)) ?_ ?_ ?_)
   ·simp
   ·rw[zaw];simp;omega
   ·have:=e5.le;simp;omega
   intro a' c' g' w' r1 r2 r3
   have r4:=Ext.grown (e5.alloc _) r2 (λk hk=>by cases hk;exact e5.le)
   have HR:Hid (OwB w' w.heap.size (.slice a' (1+j) c') (beB (j+1) m) g'):=Lib.hid (by rw[beB,<-HD.out];exact r1)
   go_wp2_with fail
   go_roundw
   case rel=>
    obtain⟨q,hq,hby⟩:=OwB.by_ HR.out
    rw[zaw]at hq
    injection hq with q1 q2 q3
    subst q1;subst q3
    have ej:(1+j:Nat)=j+1:=by omega
    refine⟨j+1,q,rfl,by omega,?_,?_,hby,⟨g',?_⟩,r4⟩
    ·rw[HD.out,Nat.pow_succ,<-Nat.div_div_eq_div_mul];simp
    ·rw[<-ej]
    ·exact HR.out
   case measure=>(first |omega |(simp[intOf];done) |(simp[intOf];omega))
  ·go_wp2_with fail
   go_ret
   have:j=size:=by omega
   subst this
   exact⟨_,rfl,e5,g0,e4⟩
def za5b(l m:List UInt8)(i:Value)(w wr:World):Prop:=∃j:Nat,i= .int .i64 (j:Int)/\j<=l.length/\l.take j=m.take j/\Ext w wr
theorem z2o(p q:AC)(l m:List UInt8){S S':Nat->Prop}(w:World)(hp:By w S p l)(hq:By w S' q m):
  Calls Tryz.prog 19 #[.slice p.a l.length p.c, .slice q.a m.length q.c] w (Ret w λ_ v=>v= .bool (decide (l=m))):=by
 have hl:=hp.lens
 have hm:=hq.lens
 unfold maxLen at hl hm
 by_cases hlen:l.length=m.length
 ·have ht:((l.length:Int) != (m.length:Int))=false:=by simp[hlen]
  have HL:=Lib.hid hlen
  obtain⟨N,hN⟩: ∃N,N=l.length:=⟨_,rfl⟩
  have HN:=Lib.hid hN
  have hNb:N<=9223372036854775807:=by omega
  rw[<-hlen,<-hN]at ht
  rw[<-hlen,<-hN]
  clear hlen hN hl hm
  go_enter Tryz.func19,Tryz.ntmps19
  go_wp2_with fail
  go_loopw [5] (λi wr=>za5b l m i w wr) (λi _=>N-(intOf i).toNat)
  case atStart=>exact⟨0,rfl,Nat.zero_le _,by simp,Ext.refl _⟩
  case round=>
   obtain⟨j,rfl,e1,e2,e3⟩:=hrel
   have E2:=Lib.hid e2
   rw[<-HN.out]at e1
   clear e2
   by_cases hj:j<N
   ·have hj1:j<l.length:=by rw[<-HN.out];exact hj
    have hj2:j<m.length:=by rw[<-HL.out];exact hj1
    obtain⟨b,o,hpa,hc⟩:=(hp.ext e3).at_ hj1
    obtain⟨b',o',hqa,hc'⟩:=(hq.ext e3).at_ hj2
    have hj0:(0:Int)<=(j:Int):=by omega
    have hjN:(j:Int)< (N:Int):=by omega
    rw[hpa,hqa]
    clear hpa hqa
    by_cases he:l[j]=m[j]
    ·have ht2:((l[j].toNat:Int) != (m[j].toNat:Int))=false:=by simp[he]
     have HE:=Lib.hid he
     obtain⟨X,hX⟩: ∃X:Int,X=l[j].toNat:=⟨_,rfl⟩
     obtain⟨Y,hY⟩: ∃Y:Int,Y=m[j].toNat:=⟨_,rfl⟩
     rw[<-hX]at hc ht2
     rw[<-hY]at hc' ht2
     clear he hX hY
     go_wp2_with fail
     go_quiet (fail)
     go_wp2_with fail
     go_roundw
     case rel=>exact⟨j+1,by simp,by have:=HN.out;omega,by rw[List.take_add_one,List.take_add_one,E2.out,List.getElem?_eq_getElem hj1,List.getElem?_eq_getElem hj2,HE.out],by(repeat (first |exact Ext.refl _ |refine Ext.drew ?_ |refine Ext.drewN ?_ _ |refine Ext.alloc ?_ _ |(refine Ext.setCell ?_ (by first |omega |(simp;done) |(simp;omega)) _) |refine Ext.trans ?_ (by assumption)))⟩
     case measure=>(first |omega |(simp[intOf];done) |(simp[intOf];omega))
    ·have ht2:((l[j].toNat:Int) != (m[j].toNat:Int))=true:=by
      have:l[j].toNat≠m[j].toNat:=λh=>he (UInt8.toNat_inj.1 h)
      simp;omega
     have HE:Hid (l≠m):=Lib.hid (λh=>he (by subst h;rfl))
     obtain⟨X,hX⟩: ∃X:Int,X=l[j].toNat:=⟨_,rfl⟩
     obtain⟨Y,hY⟩: ∃Y:Int,Y=m[j].toNat:=⟨_,rfl⟩
     rw[<-hX]at hc ht2
     rw[<-hY]at hc' ht2
     clear he hX hY
     go_wp2_with fail
     go_quiet (fail)
     go_wp2_with fail
     go_ret
     exact⟨_,rfl,by(repeat (first |exact Ext.refl _ |refine Ext.drew ?_ |refine Ext.drewN ?_ _ |refine Ext.alloc ?_ _ |(refine Ext.setCell ?_ (by first |omega |(simp;done) |(simp;omega)) _) |refine Ext.trans ?_ (by assumption))),by simp[HE.out]⟩
   ·go_wp2_with fail
    go_ret
    have:l=m:=by
     have h1:=HN.out
     have h2:=HL.out
     have h3:=E2.out
     rwa[List.take_of_length_le (by omega),List.take_of_length_le (by omega)]at h3
    exact⟨_,rfl,by(repeat (first |exact Ext.refl _ |refine Ext.drew ?_ |refine Ext.drewN ?_ _ |refine Ext.alloc ?_ _ |(refine Ext.setCell ?_ (by first |omega |(simp;done) |(simp;omega)) _) |refine Ext.trans ?_ (by assumption))),by simp[this]⟩
 ·have ht:((l.length:Int) != (m.length:Int))=true:=by simp;omega
  have HE:Hid (l≠m):=Lib.hid (λh=>hlen (by rw[h]))
  clear hlen
  go_enter Tryz.func19,Tryz.ntmps19
  go_wp2_with fail
  go_ret
  exact⟨_,rfl,by(repeat (first |exact Ext.refl _ |refine Ext.drew ?_ |refine Ext.drewN ?_ _ |refine Ext.alloc ?_ _ |(refine Ext.setCell ?_ (by first |omega |(simp;done) |(simp;omega)) _) |refine Ext.trans ?_ (by assumption))),by simp[HE.out]⟩
end
end Go.Proofs.YtpdllgbfemnemaaGreat
