import Derived.Test.YtpdllgbfemnemaaGreatZWalkW
import Derived.Test.YtpdllgbfemnemaaGreatZGeoC
namespace Go.Proofs.YtpdllgbfemnemaaGreat
open Go.RowKit
set_option linter.unusedVariables false
section
def d3c(t:D3):List Value:=[iv t.at_,iv t.lo,iv t.hi]
def d3s(l:List D3):List Value:=l.flatMap d3c
theorem zfmb{l:List D3}{k:Nat}(h:k<l.length):(d3s l)[k*3]?=some (iv l[k].at_)/\(d3s l)[k*3+1]?=some (iv l[k].lo)/\(d3s l)[k*3+2]?=some (iv l[k].hi):=by
 induction l generalizing k with
 |nil=>simp at h
 |cons x l ih=>
  cases k with
  |zero=>simp[d3s,d3c]
  |succ k=>
   have:=ih (k:=k) (by simpa using h)
   simp only[d3s,List.flatMap_cons]at*
   rw[show(k+1)*3=k*3+3 by omega]
   simpa[d3c]using this
theorem zeqb(l:List D3): ∀u∈d3s l,u.oneCell'=true:=by
 intro u hu
 obtain⟨t,_,ht⟩:=List.mem_flatMap.1 hu
 simp[d3c]at ht
 rcases ht with rfl |rfl |rfl<;>rfl
theorem Tryz.infoD3:(Tryz.prog.info? 109).map (λi=>(i.zero,i.size,i.bytes))=some (some (.agg #[.int .i64 0, .int .i64 0, .int .i64 0]),3,24):=by kernel_rfl
def OwD(w':World)(base:Nat)(v:Value)(l:List D3)(g:Option Nat):Prop:=Ow w' base 109 3 v l.length (d3s l) g
theorem OwD.form{w:World}{base:Nat}{v:Value}{l:List D3}{g:Option Nat}(h:OwD w base v l g): ∃a c,v= .slice a l.length c:=by obtain⟨p,e,_⟩:=Ow.sl h;exact⟨p.a,p.c,e⟩
def z6r(n:Int)(k:Value)(w wr:World):Prop:=∃d,d<=17/\k= .int .i64 ((2^d:Nat):Int)/\(∀e,e<d->n≠((2^e:Nat):Int))/\w=wr
theorem zjy(n:Int)(w:World):
  Calls Tryz.prog 43 #[.int .i64 n] w λe w'=>e= .returned (.bool (za0 n))/\w=w':=by
 go_enter Tryz.func43,Tryz.ntmps43
 go_wp2_with fail
 go_loopw [3] (λk wr=>z6r n k w wr) (λk _=>131073-(intOf k).toNat)
 case atStart=>exact⟨0,by omega,rfl,λe h=>by omega,rfl⟩
 case round=>
  obtain⟨d,hd,rfl,hn,rfl⟩:=hrel
  have HN:=Lib.hid hn
  clear hn
  by_cases h17:d=17
  ·subst h17
   have HF:Hid (za0 n=false):=Lib.hid (by
    rcases hf:za0 n with _ |_
    ·rfl
    ·obtain⟨e,he,h⟩:=zde hf
     exact absurd h (HN.out e (by omega)))
   go_wp2_with fail
   go_ret
   exact⟨zdm HF.out.symm,rfl⟩
  ·have hp:2^d<=2^16:=Nat.pow_le_pow_right (by omega) (by omega)
   have hp0:=zag d
   have HD:Hid ((2^(d+1):Nat)=2*2^d):=Lib.hid (by rw[Nat.pow_succ];omega)
   obtain⟨P,hP⟩: ∃P,P=2^d:=⟨_,rfl⟩
   have HP:=Lib.hid hP
   rw[<-hP]at hp hp0 HD
   rw[<-hP]
   clear hP
   by_cases he:n=(P:Int)
   ·have HF:Hid (za0 n=true):=Lib.hid (by rw[he,HP.out];exact zdd d (by omega))
    have ht:((P:Int)==n)=true:=by simp[he]
    clear he
    go_wp2_with fail
    go_ret
    exact⟨zdm HF.out.symm,rfl⟩
   ·have ht:((P:Int)==n)=false:=by simpa usingλh=>he h.symm
    have HE:=Lib.hid he
    clear he
    go_wp2_with fail
    go_roundw
    case rel=>
     refine⟨d+1,by omega,by rw[HD.out];simp,λe he h=>?_,rfl⟩
     rcases Nat.lt_or_ge e d with h1 |h1
     ·exact HN.out e h1 h
     ·obtain rfl:e=d:=by omega
      rw[<-HP.out]at h
      exact HE.out h
    case measure=>simp[intOf];omega
def z2x(x n:Int)(w:World)(k:Nat)(lo hi out:Value)(wr:World):Prop:=
 ∃(a b:Int) (Q:Nat) (done:List D3) (g:Option Nat),lo= .int .i64 a/\hi= .int .i64 b/\0<=a/\a<=x/\x<=b/\b<=131070/\Q=2^k/\b-a+2<=(Q:Int)/\k+done.length<=17/\zbx x n=done++zg3 x k a b/\
  OwD wr w.heap.size out done g/\Ext w wr
theorem zy6(w:World)(a b c:Int)(e:TypeId):Sl (w.alloc (.cells #[.int .i64 a, .int .i64 b, .int .i64 c] e)) (λ_=>True) 3 ⟨some ⟨w.heap.size,0,none⟩,1⟩ [D3.mk a b c].length (d3s [D3.mk a b c]):=
 Sl.block (heap_alloc_new w _) trivial rfl (Nat.le_refl _) (by decide)
section
variable {w:World} {ops:Array Oper} {rest:List Oper} {o:Oper} {a:Act} {Q:Exit->Act->World->Prop}
theorem zm8(hgd:o.guard=none)(s x:Operand)(ho:o.op= .call {callee:= .builtin .append,args:= #[s,x],argTypes:= #[105,105]})
  {base:Nat} {v:Value} {l:List D3} {g:Option Nat} (hs:a.eval s=v) (hown:OwD w base v l g)
  {qa:Option Addr} {qc m:Nat} {l2:List D3} {S:Nat->Prop} (hx:a.eval x= .slice qa m qc) (hm:m=l2.length) (hsrc:Sl w S 3 ⟨qa,qc⟩ l2.length (d3s l2))
  (hsmall:l.length+l2.length<=1099511627776) (hbase:base<=w.heap.size)
  (h: ∀a' c' g' w',OwD w' base (.slice a' (l.length+m) c') (l++l2) g'->w.grownBy w' g->(g'=g\/g'=some w.heap.size)->wpList Tryz.prog ops Q rest (a.put o.dst (.slice a' (l.length+m) c')) w'):
  wpList Tryz.prog ops Q (o::rest) a w:=by
 subst hm
 obtain⟨i0,hi,hz0,hz1,hz2⟩:=info_parts Tryz.infoD3
 refine zoi w hgd s x 105 ho base 109 i0 _ 3 24 Tryz.underlying105 hi hz0 hz1 hz2 rfl (by decide) v l.length (d3s l) g hs hown qa l2.length qc (d3s l2) hx hsrc (zeqb _) (by simp only[maxLen];omega) (by omega) hbase ?_
 intro a' c' g' w' h1 h2 h3
 refine h a' c' g' w' ?_ h2 h3
 unfold OwD
 rw[List.length_append,show d3s (l++l2)=d3s l++d3s l2 by simp[d3s]]
 exact h1
end
theorem zht(x n:Int)(w:World):
  Calls Tryz.prog 72 #[.int .i64 x, .int .i64 n] w (Ret w λw' v=>∃g,OwD w' w.heap.size v (zbx x n) g):=by
 rcases ho:ofI x n with _ |_
 ·have HD:=Lib.hid (zit ho)
  rcases hf:za0 n with _ |_
  ·have HF:=Lib.hid hf
   clear hf ho
   go_enter Tryz.func72,Tryz.ntmps72
   go_wp2_with fail
   refine(zjy n _).mono ?_
   rintro e w' ⟨rfl,rfl⟩
   rw[HF.out]
   go_wp2_with fail
   go_ret
   exact⟨_,rfl,Ext.refl _,none,by rw[HD.out];exact Ow.nil _ _ _ _⟩
  ·have hb:=zc4 hf
   have HF:=Lib.hid hf
   have hx:x<0\/2*n-2<x:=by
    rcases Int.lt_or_le x 0 with h |h
    ·exact .inl h
    ·refine .inr ?_
     rcases Int.lt_or_le (2*n-2) x with h2 |h2
     ·exact h2
     ·have:ofI x n=true:=zey.2 ⟨hf,h,h2⟩
      rw[ho]at this;cases this
   clear hf ho
   rcases Int.lt_or_le x 0 with h |h
   ·clear hx
    go_enter Tryz.func72,Tryz.ntmps72
    go_wp2_with fail
    refine(zjy n _).mono ?_
    rintro e w' ⟨rfl,rfl⟩
    rw[HF.out]
    go_wp2_with fail
    go_ret
    exact⟨_,rfl,Ext.refl _,none,by rw[HD.out];exact Ow.nil _ _ _ _⟩
   ·have h2:2*n-2<x:=by omega
    clear hx
    go_enter Tryz.func72,Tryz.ntmps72
    go_wp2_with fail
    refine(zjy n _).mono ?_
    rintro e w' ⟨rfl,rfl⟩
    rw[HF.out]
    go_wp2_with fail
    go_ret
    exact⟨_,rfl,Ext.refl _,none,by rw[HD.out];exact Ow.nil _ _ _ _⟩
 ·obtain⟨b1,b2,b3,b4,b5⟩:=zva ho
  have HF:=Lib.hid (zey.1 ho).1
  have HD:Hid (z2x x n w 17 (.int .i64 0) (.int .i64 (2*n-2)) (.slice none 0 0) w):=Lib.hid (by
   refine⟨0,2*n-2,2^17,[],none,rfl,rfl,by omega,b1,b5,by omega,rfl,by omega,by simp,?_,Ow.nil _ _ _ _,Ext.refl _⟩
   simp[zbx,ho])
  clear ho
  go_enter Tryz.func72,Tryz.ntmps72
  go_wp2_with fail
  refine(zjy n _).mono ?_
  rintro e w' ⟨rfl,rfl⟩
  rw[HF.out]
  go_wp2_with fail
  go_loopg [5,6,7] 17 (λk lo hi out wr=>z2x x n w k lo hi out wr)
  case atStart=>exact HD.out
  case round=>
   obtain⟨a,b,Q,done,g,rfl,rfl,e1,e2,e3,e4,e5,e6,e7,e8,e9,e10⟩:=hrel
   have hk:gk≠0:=λh=>by subst h;omega
   obtain⟨j,rfl⟩: ∃j,gk=j+1:=⟨gk-1,by omega⟩
   have E8:=Lib.hid e8
   have E5:=Lib.hid (show Q=2*2^j by rw[e5,Nat.pow_succ];omega)
   obtain⟨A,c,rfl⟩:=OwD.form e9
   clear e5 e8 hk
   by_cases hm:(a+b)/2=x
   ·have ht:((a+b)/2==x)=true:=by simp[hm]
    have HM:=Lib.hid hm
    clear hm
    go_wp2_with (first |(at_builtin;refine zdn ?_))
    refine zdu (zm8 rfl (.tmp 30) (.tmp 35) rfl rfl (Ow.ext e9 (za3 _ _)) rfl rfl (zy6 _ _ _ _ _) ?_ ?_ ?_)
    ·simp;omega
    ·have:=e10.le;simp;omega
    intro a' c' g' w' r1 r2 r3
    have r4:=(Ow.ext e9 (za3 _ _)).grown r2 (e10.alloc _) (Nat.le_refl _)
    go_wp2_with fail
    go_ret
    refine⟨_,rfl,r4,g',?_⟩
    have h1:zbx x n=done++[⟨(a+b)/2,a,b⟩]:=by rw[E8.out,zg3,if_pos HM.out]
    rw[h1];exact r1
   ·have ht:((a+b)/2==x)=false:=by simpa using hm
    have HM:=Lib.hid hm
    by_cases hlt:x< (a+b)/2
    ·clear hm
     go_wp2_with (first |(at_builtin;refine zdn ?_))
     refine zdu (zm8 rfl (.tmp 30) (.tmp 35) rfl rfl (Ow.ext e9 (za3 _ _)) rfl rfl (zy6 _ _ _ _ _) ?_ ?_ ?_)
     ·simp;omega
     ·have:=e10.le;simp;omega
     intro a' c' g' w' r1 r2 r3
     have r4:=(Ow.ext e9 (za3 _ _)).grown r2 (e10.alloc _) (Nat.le_refl _)
     go_wp2_with fail
     have E5':=E5.out
     go_roundg j
     case measure=>omega
     case rel=>
      refine⟨a,(a+b)/2-1,2^j,_,g',rfl,rfl,e1,e2,by omega,by omega,rfl,by omega,by simp;omega,?_,r1,r4⟩
      rw[E8.out,zg3,if_neg HM.out,if_pos hlt,List.append_assoc];rfl
    ·have hgt:(a+b)/2<x:=by omega
     clear hm
     go_wp2_with (first |(at_builtin;refine zdn ?_))
     refine zdu (zm8 rfl (.tmp 30) (.tmp 35) rfl rfl (Ow.ext e9 (za3 _ _)) rfl rfl (zy6 _ _ _ _ _) ?_ ?_ ?_)
     ·simp;omega
     ·have:=e10.le;simp;omega
     intro a' c' g' w' r1 r2 r3
     have r4:=(Ow.ext e9 (za3 _ _)).grown r2 (e10.alloc _) (Nat.le_refl _)
     go_wp2_with fail
     have E5':=E5.out
     go_roundg j
     case measure=>omega
     case rel=>
      refine⟨(a+b)/2+1,b,2^j,_,g',rfl,rfl,by omega,by omega,e3,e4,rfl,by omega,by simp;omega,?_,r1,r4⟩
      rw[E8.out,zg3,if_neg HM.out,if_neg (by omega),List.append_assoc];rfl
def zb9(x n:Int):D3:=((zbx x n).getLast?).getD ⟨0,0,0⟩
theorem OwD.sl{w:World}{base:Nat}{v:Value}{l:List D3}{g:Option Nat}(h:OwD w base v l g): ∃p:AC,v= .slice p.a l.length p.c/\Sl w (base<= ·) 3 p l.length (d3s l):=Ow.sl h
theorem zq4{w:World}{S:Nat->Prop}{p:AC}{l:List D3}(h:Sl w S 3 p l.length (d3s l)){k:Nat}{t:D3}(hk:l[k]?=some t): ∃b o,p.a=some ⟨b,o,none⟩/\
  w.cell? ⟨b,o+k*3,none⟩=some (iv t.at_)/\w.cell? ⟨b,o+k*3+1,none⟩=some (iv t.lo)/\w.cell? ⟨b,o+k*3+2,none⟩=some (iv t.hi):=by
 obtain⟨hlt,rfl⟩:=List.getElem?_eq_some_iff.1 hk
 obtain⟨b,o,e,_,_,hc⟩:=h.at_ (by omega)
 obtain⟨h0,h1,h2⟩:=zfmb hlt
 exact⟨b,o,e,hc _ _ h0,by rw[Nat.add_assoc];exact hc _ _ h1,by rw[Nat.add_assoc];exact hc _ _ h2⟩
theorem zpw(x:Int): ∀(f:Nat) (a b:Int),(zg3 x f a b).length<=f
 |0,a,b=>Nat.le_refl _
 |f+1,a,b=>by
  unfold zg3
  simp only[List.length_cons]
  have h1:=zpw x f a ((a+b)/2-1)
  have h2:=zpw x f ((a+b)/2+1) b
  split
  ·simp
  ·split<;>omega
theorem zmp(x n:Int):(zbx x n).length<=17:=by
 unfold zbx
 split
 ·exact zpw _ _ _ _
 ·simp
theorem z93{x n:Int}:0< (zbx x n).length↔ofI x n=true:=by
 unfold zbx
 split
 ·rename_i h;exact⟨λ_=>h,λ_=>by unfold zg3;exact Nat.succ_pos _⟩
 ·rename_i h;simp[h]
theorem zeo(x n:Int)(w:World):
  Calls Tryz.prog 85 #[.int .i64 x, .int .i64 n] w (Ret w λ_ v=>v= .tuple #[.agg #[.int .i64 (zb9 x n).at_, .int .i64 (zb9 x n).lo, .int .i64 (zb9 x n).hi], .bool (ofI x n)]):=by
 have hlen:=zmp x n
 have hpos:=Lib.hid (z93 (x:=x) (n:=n))
 obtain⟨L,hL⟩: ∃L,L=zbx x n:=⟨_,rfl⟩
 have HL:=Lib.hid hL
 rw[<-hL]at hlen hpos
 clear hL
 by_cases h0:L.length=0
 ·have HF:Hid (zb9 x n=⟨0,0,0⟩/\ofI x n=false):=Lib.hid (by
   have hp:=hpos.out
   refine⟨by unfold zb9;rw[<-HL.out,List.eq_nil_of_length_eq_zero h0];rfl,?_⟩
   rcases ho:ofI x n with _ |_
   ·rfl
   ·have:=hp.2 ho;omega)
  have H0:=Lib.hid h0
  clear h0
  go_enter Tryz.func85,Tryz.ntmps85
  go_wp2_with fail
  refine(zht x n _).mono ?_
  rintro e w1 ⟨v,rfl,hb,g,ho⟩
  rw[<-HL.out]at ho
  obtain⟨p,rfl,hs⟩:=ho.sl
  obtain⟨hc,hf⟩:=hb.cells
  rw[H0.out]
  clear hs ho
  go_wp2_with fail
  refine bodyPost_ret (v:= .tuple #[.agg #[.int .i64 0, .int .i64 0, .int .i64 0], .bool false]) (by simp[results,Tryz.results85,go_sem,hc]) rfl ⟨_,rfl,?_,?_⟩
  ·(repeat (first |exact Ext.refl _ |refine Ext.drew ?_ |refine Ext.drewN ?_ _ |refine Ext.alloc ?_ _ |(refine Ext.setCell ?_ (by first |omega |(simp;done) |(simp;omega)) _) |refine Ext.trans ?_ (by assumption)))
  ·rw[HF.out.1,HF.out.2]
 ·have HF:Hid (ofI x n=true):=Lib.hid (hpos.out.1 (by omega))
  obtain⟨m,hm⟩: ∃m,L.length=m+1:=⟨L.length-1,by omega⟩
  have HM:=Lib.hid hm
  have hm16:m<=16:=by omega
  have HT:Hid (L[m]?=some (zb9 x n)):=Lib.hid (by
   unfold zb9
   rw[<-HL.out,List.getLast?_eq_getElem?,hm,Nat.add_sub_cancel]
   obtain⟨t,ht⟩: ∃t,L[m]?=some t:=⟨_,List.getElem?_eq_getElem (by omega)⟩
   rw[ht];rfl)
  clear h0 hm
  obtain⟨T,hT⟩: ∃T,T=zb9 x n:=⟨_,rfl⟩
  have HTT:=Lib.hid hT
  rw[<-hT]at HT
  rw[<-hT]
  clear hT
  go_enter Tryz.func85,Tryz.ntmps85
  go_wp2_with fail
  refine(zht x n _).mono ?_
  rintro e w1 ⟨v,rfl,hb,g,ho⟩
  rw[<-HL.out]at ho
  obtain⟨p,rfl,hs⟩:=ho.sl
  obtain⟨hc,hf⟩:=hb.cells
  obtain⟨b,o,hp,c0,c1,c2⟩:=zq4 hs HT.out
  rw[HM.out,hp]
  clear hs ho hp
  go_wp2_with fail
  refine bodyPost_ret (v:= .tuple #[.agg #[.int .i64 T.at_, .int .i64 T.lo, .int .i64 T.hi], .bool true]) (by simp[results,Tryz.results85,go_sem,hc]) rfl ⟨_,rfl,?_,?_⟩
  ·(repeat (first |exact Ext.refl _ |refine Ext.drew ?_ |refine Ext.drewN ?_ _ |refine Ext.alloc ?_ _ |(refine Ext.setCell ?_ (by first |omega |(simp;done) |(simp;omega)) _) |refine Ext.trans ?_ (by assumption)))
  ·rw[HF.out]
theorem zi5{x n:Int}(ho:ofI x n=true): ∃d h k,d<=16/\h<=d/\k<2^(d-h)/\n=((2^d:Nat):Int)/\x=(nd h k:Int)/\zb9 x n=trip h k:=by
 obtain⟨d,h,k,hd,hh,hk,rfl,rfl,_,hl⟩:=z75 ho
 exact⟨d,h,k,hd,hh,hk,rfl,rfl,by unfold zb9;rw[hl];rfl⟩
theorem z4x{x n:Int}(ho:ofI x n=false):zb9 x n=⟨0,0,0⟩:=by unfold zb9;rw[zit ho];rfl
theorem z0d{x n:Int}:0<=(zb9 x n).lo/\(zb9 x n).lo<=131070/\0<=(zb9 x n).hi/\(zb9 x n).hi<=131070/\(zb9 x n).lo<=(zb9 x n).hi:=by
 rcases ho:ofI x n with _ |_
 ·rw[z4x ho];simp
 ·obtain⟨d,h,k,hd,hh,hk,rfl,rfl,hl⟩:=zi5 ho
  rw[hl]
  have hp:=zag h
  have e2:2^(h+1)=2*2^h:=by rw[Nat.pow_succ];omega
  have h1:(k+1)*2^(h+1)<=2^(d+1):=by
   have:=Nat.mul_le_mul_right (2^(h+1)) (show k+1<=2^(d-h)from hk)
   rw[<-Nat.pow_add,show d-h+(h+1)=d+1 by omega]at this
   exact this
  have h2:2^(d+1)<=2^17:=Nat.pow_le_pow_right (by omega) (by omega)
  rw[Nat.add_mul]at h1
  simp only[trip,e2]at*
  generalize k*(2*2^h)=q at*
  omega
theorem z8l{x n:Int}(ho:ofI x n=true)(h:(zb9 x n).lo≠(zb9 x n).hi):1<=x:=by
 obtain⟨d,g,k,hd,hh,hk,rfl,rfl,hl⟩:=zi5 ho
 rw[hl]at h
 rcases Nat.eq_zero_or_pos g with rfl |hg
 ·simp[trip]at h
 ·have:2^1<=2^g:=Nat.pow_le_pow_right (by omega) hg
  unfold nd
  omega
end
section
theorem zlu(x:Int)(w:World):
  Calls Tryz.prog 49 #[.int .i64 x] w (Ret w λ_ v=>v= .tuple #[.int .i64 (zbj x), .int .i64 (zbi x)]):=by
 obtain⟨b1,b2,b3,b4,b5⟩:=z0d (x:=x) (n:=65536)
 rcases ho:ofI x 65536 with _ |_
 ·have HO:=Lib.hid ho
  have HC:Hid (zbj x= -1/\zbi x= -1):=Lib.hid (by
   have:zdo x=0:=zon (by rw[zk9];exact ho)
   simp[zbj,zbi,this])
  clear ho
  go_enter Tryz.func49,Tryz.ntmps49
  go_wp2_with fail
  refine(zeo x 65536 _).mono ?_
  rintro e w1 ⟨v,rfl,hb,rfl⟩
  rw[HO.out]
  go_wp2_with fail
  go_ret2
  exact⟨_,rfl,by(repeat (first |exact Ext.refl _ |refine Ext.drew ?_ |refine Ext.drewN ?_ _ |refine Ext.alloc ?_ _ |(refine Ext.setCell ?_ (by first |omega |(simp;done) |(simp;omega)) _) |refine Ext.trans ?_ (by assumption))),by rw[HC.out.1,HC.out.2];rfl⟩
 ·have hx:=zva ho
  have hx1:=hx.1
  have hx2:=hx.2.1
  have HO:=Lib.hid ho
  have HC:Hid ((if(zb9 x 65536).lo=(zb9 x 65536).hi then((-1:Int),(-1:Int))else(((zb9 x 65536).lo+x-1)/2,(x+1+(zb9 x 65536).hi)/2))=(zbj x,zbi x)):=Lib.hid (by
   obtain⟨d,h,k,hd,hh,hk,_,e,hl⟩:=zi5 ho
   rw[hl,e]
   exact zyq hd hh hk)
  obtain⟨T,hT⟩: ∃T,T=zb9 x 65536:=⟨_,rfl⟩
  have HT:=Lib.hid hT
  have H1:=Lib.hid (z8l ho)
  rw[<-hT]at HC b1 b2 b3 b4 b5 H1
  clear ho hT hx
  by_cases he:T.lo=T.hi
  ·have ht:(T.lo==T.hi)=true:=by simp[he]
   have HE:=Lib.hid he
   clear he
   go_enter Tryz.func49,Tryz.ntmps49
   go_wp2_with fail
   refine(zeo x 65536 _).mono ?_
   rintro e w1 ⟨v,rfl,hb,rfl⟩
   rw[HO.out,<-HT.out]
   go_wp2_with fail
   go_ret2
   have:=HC.out
   rw[if_pos HE.out]at this
   injection this with h1 h2
   exact⟨_,rfl,by(repeat (first |exact Ext.refl _ |refine Ext.drew ?_ |refine Ext.drewN ?_ _ |refine Ext.alloc ?_ _ |(refine Ext.setCell ?_ (by first |omega |(simp;done) |(simp;omega)) _) |refine Ext.trans ?_ (by assumption))),by rw[<-h1,<-h2];rfl⟩
  ·have ht:(T.lo==T.hi)=false:=by simpa using he
   have hx3:=H1.out he
   have HE:=Lib.hid he
   clear he
   go_enter Tryz.func49,Tryz.ntmps49
   go_wp2_with fail
   refine(zeo x 65536 _).mono ?_
   rintro e w1 ⟨v,rfl,hb,rfl⟩
   rw[HO.out,<-HT.out]
   go_wp2_with fail
   go_quiet (fail)
   go_wp2_with fail
   go_ret2
   have:=HC.out
   rw[if_neg HE.out]at this
   injection this with h1 h2
   exact⟨_,rfl,by(repeat (first |exact Ext.refl _ |refine Ext.drew ?_ |refine Ext.drewN ?_ _ |refine Ext.alloc ?_ _ |(refine Ext.setCell ?_ (by first |omega |(simp;done) |(simp;omega)) _) |refine Ext.trans ?_ (by assumption))),by rw[<-h1,<-h2];rfl⟩
theorem zkk(x n:Int)(w:World):
  Calls Tryz.prog 115 #[.int .i64 x, .int .i64 n] w (Ret w λ_ v=>v= .int .i64 (parI x n)):=by
 have hlen:=zmp x n
 have HP:=Lib.hid (zapb x n)
 obtain⟨L,hL⟩: ∃L,L=zbx x n:=⟨_,rfl⟩
 have HL:=Lib.hid hL
 rw[<-hL]at hlen HP
 clear hL
 by_cases h0:L.length<2
 ·have H0:=Lib.hid h0
  go_enter Tryz.func115,Tryz.ntmps115
  go_wp2_with fail
  refine(zht x n _).mono ?_
  rintro e w1 ⟨v,rfl,hb,g,ho⟩
  rw[<-HL.out]at ho
  obtain⟨a,c,rfl⟩:=OwD.form ho
  go_wp2_with fail
  go_ret
  have:=HP.out
  rw[if_pos H0.out]at this
  exact⟨_,rfl,by(repeat (first |exact Ext.refl _ |refine Ext.drew ?_ |refine Ext.drewN ?_ _ |refine Ext.alloc ?_ _ |(refine Ext.setCell ?_ (by first |omega |(simp;done) |(simp;omega)) _) |refine Ext.trans ?_ (by assumption))),by rw[<-this];rfl⟩
 ·obtain⟨m,hm⟩: ∃m,L.length=m+2:=⟨L.length-2,by omega⟩
  have HM:=Lib.hid hm
  have hm15:m<=15:=by omega
  obtain⟨T,hT⟩: ∃T,L[m]?=some T:=⟨_,List.getElem?_eq_getElem (by omega)⟩
  have HT:Hid (L[m]?=some T):=Lib.hid hT
  have HQ:Hid (T.at_=parI x n):=Lib.hid (by
   have:=HP.out
   rw[if_neg h0,hm,Nat.add_sub_cancel,hT]at this
   exact this)
  clear h0 hm hT hlen
  go_enter Tryz.func115,Tryz.ntmps115
  go_wp2_with fail
  refine(zht x n _).mono ?_
  rintro e w1 ⟨v,rfl,hb,g,ho⟩
  rw[<-HL.out]at ho
  obtain⟨p,rfl,hs⟩:=ho.sl
  obtain⟨b,o,hp,c0,c1,c2⟩:=zq4 hs HT.out
  rw[HM.out,hp]
  clear hs ho hp
  go_wp2_with fail
  go_ret
  exact⟨_,rfl,by(repeat (first |exact Ext.refl _ |refine Ext.drew ?_ |refine Ext.drewN ?_ _ |refine Ext.alloc ?_ _ |(refine Ext.setCell ?_ (by first |omega |(simp;done) |(simp;omega)) _) |refine Ext.trans ?_ (by assumption))),by rw[<-HQ.out];rfl⟩
theorem zwb(x n:Int)(w:World):
  Calls Tryz.prog 73 #[.int .i64 x, .int .i64 n] w (Ret w λ_ v=>v= .int .i64 (sibI x n)):=by
 have HS:=Lib.hid (zqj x n)
 obtain⟨P,hP⟩: ∃P,P=parI x n:=⟨_,rfl⟩
 have HP:=Lib.hid hP
 rw[<-hP]at HS
 clear hP
 by_cases h0:P<0
 ·go_enter Tryz.func73,Tryz.ntmps73
  go_wp2_with fail
  refine(zkk x n _).mono ?_
  rintro e w1 ⟨v,rfl,hb,rfl⟩
  rw[<-HP.out]
  go_wp2_with fail
  go_ret
  have:=HS.out
  rw[if_pos h0]at this
  exact⟨_,rfl,by(repeat (first |exact Ext.refl _ |refine Ext.drew ?_ |refine Ext.drewN ?_ _ |refine Ext.alloc ?_ _ |(refine Ext.setCell ?_ (by first |omega |(simp;done) |(simp;omega)) _) |refine Ext.trans ?_ (by assumption))),by rw[<-this];rfl⟩
 ·by_cases h1:zbj P=x
  ·have ht:(zbj P==x)=true:=by simp[h1]
   have H1:=Lib.hid h1
   clear h1
   go_enter Tryz.func73,Tryz.ntmps73
   go_wp2_with fail
   refine(zkk x n _).mono ?_
   rintro e w1 ⟨v,rfl,hb,rfl⟩
   rw[<-HP.out]
   go_wp2_with fail
   refine(zlu P _).mono ?_
   rintro e w2 ⟨v,rfl,hb2,rfl⟩
   go_wp2_with fail
   go_ret
   have:=HS.out
   rw[if_neg (by omega),if_pos H1.out]at this
   exact⟨_,rfl,by(repeat (first |exact Ext.refl _ |refine Ext.drew ?_ |refine Ext.drewN ?_ _ |refine Ext.alloc ?_ _ |(refine Ext.setCell ?_ (by first |omega |(simp;done) |(simp;omega)) _) |refine Ext.trans ?_ (by assumption))),by rw[<-this];rfl⟩
  ·have ht:(zbj P==x)=false:=by simpa using h1
   have H1:=Lib.hid h1
   clear h1
   go_enter Tryz.func73,Tryz.ntmps73
   go_wp2_with fail
   refine(zkk x n _).mono ?_
   rintro e w1 ⟨v,rfl,hb,rfl⟩
   rw[<-HP.out]
   go_wp2_with fail
   refine(zlu P _).mono ?_
   rintro e w2 ⟨v,rfl,hb2,rfl⟩
   go_wp2_with fail
   go_ret
   have:=HS.out
   rw[if_neg (by omega),if_neg H1.out]at this
   exact⟨_,rfl,by(repeat (first |exact Ext.refl _ |refine Ext.drew ?_ |refine Ext.drewN ?_ _ |refine Ext.alloc ?_ _ |(refine Ext.setCell ?_ (by first |omega |(simp;done) |(simp;omega)) _) |refine Ext.trans ?_ (by assumption))),by rw[<-this];rfl⟩
theorem z0t(x y:Int)(w:World):
  Calls Tryz.prog 45 #[.int .i64 x, .int .i64 y] w (Ret w λ_ v=>v= .bool (zal x y)):=by
 have hx:=z0d (x:=x) (n:=65536)
 have HX:Hid (ofI x 65536=true->(zb9 x 65536).at_=x):=Lib.hid (λh=>by
  obtain⟨d,g,k,hd,hh,hk,_,e,hl⟩:=zi5 h
  rw[hl,e];rfl)
 have HU:Hid (ofI x 65536=true->ofI y 65536=true->zal x y=(decide ((zb9 y 65536).lo<=x)&&decide (x<=(zb9 y 65536).hi))):=Lib.hid (λh h'=>by
  obtain⟨d,g,k,hd,hh,hk,_,e,hl⟩:=zi5 h'
  rw[hl,e]
  exact zty hd hh hk (by rw[zk9];exact h))
 have HN:Hid (ofI x 65536=false\/ofI y 65536=false->zal x y=false):=Lib.hid (λh=>by
  rcases h with h |h<;>simp[zal,zk9,h])
 obtain⟨A,hA⟩: ∃T,T=zb9 x 65536:=⟨_,rfl⟩
 obtain⟨B,hB⟩: ∃T,T=zb9 y 65536:=⟨_,rfl⟩
 have HA:=Lib.hid hA
 have HB:=Lib.hid hB
 rw[<-hA]at HX
 rw[<-hB]at HU
 clear hA hB hx
 rcases ho:ofI x 65536 with _ |_
 ·have HO:=Lib.hid ho
  clear ho
  go_enter Tryz.func45,Tryz.ntmps45
  go_wp2_with fail
  refine(zeo x 65536 _).mono ?_
  rintro e w1 ⟨v,rfl,hb,rfl⟩
  rw[HO.out,<-HA.out]
  go_wp2_with fail
  refine(zeo y 65536 _).mono ?_
  rintro e w2 ⟨v,rfl,hb2,rfl⟩
  rw[<-HB.out]
  go_wp2_with fail
  go_ret
  exact⟨_,rfl,by(repeat (first |exact Ext.refl _ |refine Ext.drew ?_ |refine Ext.drewN ?_ _ |refine Ext.alloc ?_ _ |(refine Ext.setCell ?_ (by first |omega |(simp;done) |(simp;omega)) _) |refine Ext.trans ?_ (by assumption))),by rw[HN.out (.inl HO.out)];rfl⟩
 ·have HO:=Lib.hid ho
  clear ho
  rcases hy:ofI y 65536 with _ |_
  ·have HY:=Lib.hid hy
   clear hy
   go_enter Tryz.func45,Tryz.ntmps45
   go_wp2_with fail
   refine(zeo x 65536 _).mono ?_
   rintro e w1 ⟨v,rfl,hb,rfl⟩
   rw[HO.out,<-HA.out]
   go_wp2_with fail
   refine(zeo y 65536 _).mono ?_
   rintro e w2 ⟨v,rfl,hb2,rfl⟩
   rw[HY.out,<-HB.out]
   go_wp2_with fail
   go_ret
   exact⟨_,rfl,by(repeat (first |exact Ext.refl _ |refine Ext.drew ?_ |refine Ext.drewN ?_ _ |refine Ext.alloc ?_ _ |(refine Ext.setCell ?_ (by first |omega |(simp;done) |(simp;omega)) _) |refine Ext.trans ?_ (by assumption))),by rw[HN.out (.inr HY.out)];rfl⟩
  ·have HY:=Lib.hid hy
   clear hy
   by_cases hl:B.lo<=x
   ·go_enter Tryz.func45,Tryz.ntmps45
    go_wp2_with fail
    refine(zeo x 65536 _).mono ?_
    rintro e w1 ⟨v,rfl,hb,rfl⟩
    rw[HO.out,<-HA.out,HX.out HO.out]
    go_wp2_with fail
    refine(zeo y 65536 _).mono ?_
    rintro e w2 ⟨v,rfl,hb2,rfl⟩
    rw[HY.out,<-HB.out]
    obtain⟨hc,hf⟩:=hb2.cells
    have hz:w1.heap.size<w2.heap.size:=(by have:=(hb2).le;simp at this;omega)
    go_wp2_with fail
    go_ret
    exact⟨_,rfl,by(repeat (first |exact Ext.refl _ |refine Ext.drew ?_ |refine Ext.drewN ?_ _ |refine Ext.alloc ?_ _ |(refine Ext.setCell ?_ (by first |omega |(simp;done) |(simp;omega)) _) |refine Ext.trans ?_ (by assumption))),by rw[HU.out HO.out HY.out];simp[hl]⟩
   ·go_enter Tryz.func45,Tryz.ntmps45
    go_wp2_with fail
    refine(zeo x 65536 _).mono ?_
    rintro e w1 ⟨v,rfl,hb,rfl⟩
    rw[HO.out,<-HA.out,HX.out HO.out]
    go_wp2_with fail
    refine(zeo y 65536 _).mono ?_
    rintro e w2 ⟨v,rfl,hb2,rfl⟩
    rw[HY.out,<-HB.out]
    obtain⟨hc,hf⟩:=hb2.cells
    have hz:w1.heap.size<w2.heap.size:=(by have:=(hb2).le;simp at this;omega)
    go_wp2_with fail
    go_ret
    exact⟨_,rfl,by(repeat (first |exact Ext.refl _ |refine Ext.drew ?_ |refine Ext.drewN ?_ _ |refine Ext.alloc ?_ _ |(refine Ext.setCell ?_ (by first |omega |(simp;done) |(simp;omega)) _) |refine Ext.trans ?_ (by assumption))),by rw[HU.out HO.out HY.out];simp;omega⟩
end
section
theorem zpa{α:Type}{l:List α}{j:Nat}{t:α}(h:l[j]?=some t):(l.take (j+1)).reverse=t::(l.take j).reverse:=by
 rw[List.take_add_one,h];simp
def z5t(L:List D3)(all:List Int)(w:World)(out i:Value)(wr:World):Prop:=
 ∃(j:Nat) (z:Int) (done:List Int) (g:Option Nat),i= .int .i64 z/\(z=(j:Int)-1\/(j=0/\z= -2))/\j+done.length+1<=L.length+1/\j<L.length+1/\j<=16/\all=done++((L.take j).reverse.map (·.at_))/\OwI wr w.heap.size out done g/\Ext w wr
theorem z2j(x n:Int)(w:World):
  Calls Tryz.prog 46 #[.int .i64 x, .int .i64 n] w (Ret w λw' v=>∃g,OwI w' w.heap.size v (za4 x n) g):=by
 have hlen:=zmp x n
 have HP:=Lib.hid (zx3 x n)
 obtain⟨L,hL⟩: ∃L,L=zbx x n:=⟨_,rfl⟩
 have HL:=Lib.hid hL
 rw[<-hL]at hlen HP
 clear hL
 go_enter Tryz.func46,Tryz.ntmps46
 go_wp2_with fail
 refine(zht x n _).mono ?_
 rintro e w1 ⟨v,rfl,hb,g1,ho⟩
 rw[<-HL.out]at ho
 obtain⟨p,rfl,hs⟩:=ho.sl
 go_wp2_with fail
 go_loopw [6,7] (λout i wr=>z5t L (za4 x n) w1 out i wr) (λ_ i _=>(intOf i+1).toNat)
 case atStart=>
  exact⟨L.length-1,_,[],none,rfl,by omega,(by first |omega |(simp;done) |(simp;omega)),by omega,by omega,by rw[<-HP.out,List.nil_append,List.dropLast_eq_take],Ow.nil _ _ _ _,Ext.refl _⟩
 case round=>
  obtain⟨j,z,done,g,rfl,hz,e1,e2,e3,e4,e5,e6⟩:=hrel
  have E4:=Lib.hid e4
  obtain⟨a,c,rfl⟩:=e5.form
  clear e4
  by_cases h0:j=0
  ·subst h0
   have hz':z<0:=by omega
   go_wp2_with fail
   go_ret
   exact⟨_,rfl,by(repeat (first |exact Ext.refl _ |refine Ext.drew ?_ |refine Ext.drewN ?_ _ |refine Ext.alloc ?_ _ |(refine Ext.setCell ?_ (by first |omega |(simp;done) |(simp;omega)) _) |refine Ext.trans ?_ (by assumption))),g,by rw[E4.out];simpa using OwI.base_mono e5 hb.le⟩
  ·obtain⟨k,rfl⟩: ∃k,j=k+1:=⟨j-1,by omega⟩
   obtain⟨T,hT⟩: ∃T,L[k]?=some T:=⟨_,List.getElem?_eq_getElem (by omega)⟩
   obtain⟨b,o,hp,c0,c1,c2⟩:=zq4 (hs.ext e6) hT
   have HA:=Lib.hid hp
   have HT:=Lib.hid hT
   obtain rfl:z=(k:Int):=by omega
   rw[hp]
   clear hT hp h0 hz
   go_wp2_with (first |(at_builtin;refine zdn ?_))
   refine zdu (zha rfl (.tmp 18) (.tmp 24) rfl rfl (e5.alloc _) rfl rfl (zvm _ _ _) ?_ ?_ ?_)
   ·simp;omega
   ·have:=e6.le;simp;omega
   intro a' c' g' w' r1 r2 r3
   have r4:=(e5.alloc _).grown r2 (e6.alloc _) (Nat.le_refl _)
   go_wp2_with fail
   go_roundw
   case rel=>exact⟨k,_,_,g',rfl,by omega,(by first |omega |(simp;done) |(simp;omega)),by omega,by omega,by rw[E4.out,zpa HT.out,List.map_cons,List.append_assoc];rfl,r1,r4⟩
   case measure=>(first |omega |(simp[intOf];done) |(simp[intOf];omega))
def z8d(n:Int)(L:List D3)(all:List Int)(w:World)(out i:Value)(wr:World):Prop:=
 ∃(j:Nat) (z:Int) (done:List Int) (g:Option Nat),i= .int .i64 z/\(z=(j:Int)\/(j=0/\z= -1))/\j+done.length+1<=L.length+1/\j<L.length+1/\j<=16/\all=done++((L.tail.take j).reverse.map (λt=>sibI t.at_ n))/\j<=L.tail.length/\OwI wr w.heap.size out done g/\Ext w wr
theorem zyh(x n:Int)(w:World):
  Calls Tryz.prog 33 #[.int .i64 x, .int .i64 n] w (Ret w λw' v=>∃g,OwI w' w.heap.size v (zau x n) g):=by
 have hlen:=zmp x n
 have HP:=Lib.hid (z14 x n)
 obtain⟨L,hL⟩: ∃L,L=zbx x n:=⟨_,rfl⟩
 have HL:=Lib.hid hL
 rw[<-hL]at hlen HP
 clear hL
 go_enter Tryz.func33,Tryz.ntmps33
 go_wp2_with fail
 refine(zht x n _).mono ?_
 rintro e w1 ⟨v,rfl,hb,g1,ho⟩
 rw[<-HL.out]at ho
 obtain⟨p,rfl,hs⟩:=ho.sl
 go_wp2_with fail
 go_loopw [6,7] (λout i wr=>z8d n L (zau x n) w1 out i wr) (λ_ i _=>(intOf i+1).toNat)
 case atStart=>
  exact⟨L.length-1,_,[],none,rfl,by omega,(by first |omega |(simp;done) |(simp;omega)),by omega,by omega,by rw[<-HP.out,List.nil_append,<-List.length_tail,List.take_length],by simp,Ow.nil _ _ _ _,Ext.refl _⟩
 case round=>
  obtain⟨j,z,done,g,rfl,hz,e1,e2,e3,e4,e4',e5,e6⟩:=hrel
  have E4:=Lib.hid e4
  obtain⟨a,c,rfl⟩:=e5.form
  clear e4
  by_cases h0:j=0
  ·subst h0
   have hz':z<1:=by omega
   go_wp2_with fail
   go_ret
   exact⟨_,rfl,by(repeat (first |exact Ext.refl _ |refine Ext.drew ?_ |refine Ext.drewN ?_ _ |refine Ext.alloc ?_ _ |(refine Ext.setCell ?_ (by first |omega |(simp;done) |(simp;omega)) _) |refine Ext.trans ?_ (by assumption))),g,by rw[E4.out];simpa using OwI.base_mono e5 hb.le⟩
  ·obtain⟨k,rfl⟩: ∃k,j=k+1:=⟨j-1,by omega⟩
   rw[List.length_tail]at e4'
   obtain⟨T,hT⟩: ∃T,L[k+1]?=some T:=⟨_,List.getElem?_eq_getElem (by omega)⟩
   have hT':L.tail[k]?=some T:=by rw[List.getElem?_tail];exact hT
   obtain⟨b,o,hp,c0,c1,c2⟩:=zq4 (hs.ext e6) hT
   have HT:=Lib.hid hT'
   have hz2:z=(k:Int)+1:=by omega
   rw[hz2,hp]
   clear hT hT' hp h0 hz hz2
   go_wp2_with fail
   refine(zwb T.at_ n _).mono ?_
   rintro e w2 ⟨v,rfl,hb2,rfl⟩
   go_wp2_with (first |(at_builtin;refine zdn ?_))
   refine zdu (zha rfl (.tmp 18) (.tmp 26) rfl rfl ((e5.ext hb2).alloc _) rfl rfl (zvm _ _ _) ?_ ?_ ?_)
   ·simp;omega
   ·have:=(e6.trans hb2).le;simp;omega
   intro a' c' g' w' r1 r2 r3
   have r4:=((e5.ext hb2).alloc _).grown r2 ((e6.trans hb2).alloc _) (Nat.le_refl _)
   go_wp2_with fail
   go_roundw
   case rel=>exact⟨k,_,_,g',rfl,by omega,(by first |omega |(simp;done) |(simp;omega)),by omega,by omega,by rw[E4.out,zpa HT.out,List.map_cons,List.append_assoc];rfl,by simp;omega,r1,r4⟩
   case measure=>(first |omega |(simp[intOf];done) |(simp[intOf];omega))
def ze8b(l m:List Int)(i:Value)(w wr:World):Prop:=∃j:Nat,i= .int .i64 (j:Int)/\j<=l.length/\l.take j=m.take j/\Ext w wr
theorem z2g(p q:AC)(l m:List Int){S S':Nat->Prop}(w:World)(hp:Is w S p l)(hq:Is w S' q m):
  Calls Tryz.prog 21 #[.slice p.a l.length p.c, .slice q.a m.length q.c] w (Ret w λ_ v=>v= .bool (decide (l=m))):=by
 have hl:=hp.lens
 have hm:=hq.lens
 unfold maxLen at hl hm
 by_cases hlen:l.length=m.length
 ·have ht:((l.length:Int) != (m.length:Int))=false:=by simp[hlen]
  have HL:=Lib.hid hlen
  obtain⟨N,hN⟩: ∃N,N=l.length:=⟨_,rfl⟩
  have HN:=Lib.hid hN
  have hNb:N<=9223372036854775807:=by omega
  rw[<-hlen,<-hN]at ht
  rw[<-hlen,<-hN]
  clear hlen hN hl hm
  go_enter Tryz.func21,Tryz.ntmps21
  go_wp2_with fail
  go_loopw [5] (λi wr=>ze8b l m i w wr) (λi _=>N-(intOf i).toNat)
  case atStart=>exact⟨0,rfl,Nat.zero_le _,by simp,Ext.refl _⟩
  case round=>
   obtain⟨j,rfl,e1,e2,e3⟩:=hrel
   have E2:=Lib.hid e2
   rw[<-HN.out]at e1
   clear e2
   by_cases hj:j<N
   ·have hj1:j<l.length:=by rw[<-HN.out];exact hj
    have hj2:j<m.length:=by rw[<-HL.out];exact hj1
    obtain⟨b,o,hpa,hc⟩:=(hp.ext e3).at_ hj1
    obtain⟨b',o',hqa,hc'⟩:=(hq.ext e3).at_ hj2
    have hj0:(0:Int)<=(j:Int):=by omega
    have hjN:(j:Int)< (N:Int):=by omega
    rw[hpa,hqa]
    clear hpa hqa
    by_cases he:l[j]=m[j]
    ·have ht2:(l[j] != m[j])=false:=by simp[he]
     have HE:=Lib.hid he
     obtain⟨X,hX⟩: ∃X,X=l[j]:=⟨_,rfl⟩
     obtain⟨Y,hY⟩: ∃Y,Y=m[j]:=⟨_,rfl⟩
     rw[<-hX]at hc ht2
     rw[<-hY]at hc' ht2
     clear he hX hY
     go_wp2_with fail
     go_quiet (fail)
     go_wp2_with fail
     go_roundw
     case rel=>exact⟨j+1,by simp,by have:=HN.out;omega,by rw[List.take_add_one,List.take_add_one,E2.out,List.getElem?_eq_getElem hj1,List.getElem?_eq_getElem hj2,HE.out],by(repeat (first |exact Ext.refl _ |refine Ext.drew ?_ |refine Ext.drewN ?_ _ |refine Ext.alloc ?_ _ |(refine Ext.setCell ?_ (by first |omega |(simp;done) |(simp;omega)) _) |refine Ext.trans ?_ (by assumption)))⟩
     case measure=>(first |omega |(simp[intOf];done) |(simp[intOf];omega))
    ·have ht2:(l[j] != m[j])=true:=by simpa using he
     have HE:Hid (l≠m):=Lib.hid (λh=>he (by subst h;rfl))
     obtain⟨X,hX⟩: ∃X,X=l[j]:=⟨_,rfl⟩
     obtain⟨Y,hY⟩: ∃Y,Y=m[j]:=⟨_,rfl⟩
     rw[<-hX]at hc ht2
     rw[<-hY]at hc' ht2
     clear he hX hY
     go_wp2_with fail
     go_quiet (fail)
     go_wp2_with fail
     go_ret
     exact⟨_,rfl,by(repeat (first |exact Ext.refl _ |refine Ext.drew ?_ |refine Ext.drewN ?_ _ |refine Ext.alloc ?_ _ |(refine Ext.setCell ?_ (by first |omega |(simp;done) |(simp;omega)) _) |refine Ext.trans ?_ (by assumption))),by simp[HE.out]⟩
   ·go_wp2_with fail
    go_ret
    have:l=m:=by
     have h1:=HN.out
     have h2:=HL.out
     have h3:=E2.out
     rwa[List.take_of_length_le (by omega),List.take_of_length_le (by omega)]at h3
    exact⟨_,rfl,by(repeat (first |exact Ext.refl _ |refine Ext.drew ?_ |refine Ext.drewN ?_ _ |refine Ext.alloc ?_ _ |(refine Ext.setCell ?_ (by first |omega |(simp;done) |(simp;omega)) _) |refine Ext.trans ?_ (by assumption))),by simp[this]⟩
 ·have ht:((l.length:Int) != (m.length:Int))=true:=by simp;omega
  have HE:Hid (l≠m):=Lib.hid (λh=>hlen (by rw[h]))
  clear hlen
  go_enter Tryz.func21,Tryz.ntmps21
  go_wp2_with fail
  go_ret
  exact⟨_,rfl,by(repeat (first |exact Ext.refl _ |refine Ext.drew ?_ |refine Ext.drewN ?_ _ |refine Ext.alloc ?_ _ |(refine Ext.setCell ?_ (by first |omega |(simp;done) |(simp;omega)) _) |refine Ext.trans ?_ (by assumption))),by simp[HE.out]⟩
end
end Go.Proofs.YtpdllgbfemnemaaGreat
