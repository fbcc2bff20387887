import Derived.Test.YtlofklpckddkfaaGreatProg
import Derived.Test.YtlofklpckddkfaaGreatZPc
import Derived.Laws.BitsAllLaws
import Derived.Deep.QuietTactic
import Derived.BigQuiet
import Derived.Deep.LoopGhost
namespace Go.Proofs.YtlofklpckddkfaaGreat
open Go.RowKit
set_option linter.unusedVariables false
section
theorem zbp{a b:Int}(h:a=b):Ending.returned (.int .i64 a)= .returned (.int .i64 b):=by rw[h]
theorem zdf{a b:Bool}(h:a=b):Ending.returned (.bool a)= .returned (.bool b):=by rw[h]
theorem Tryz.infoInt:(Tryz.prog.info? 3).map (λi=>(i.zero,i.size,i.bytes))=some (some (.int .i64 0),1,8):=by kernel_rfl
theorem Tryz.infoU8:(Tryz.prog.info? 5).map (λi=>(i.zero,i.size,i.bytes))=some (some (.int .u8 0),1,1):=by kernel_rfl
def OwI(w':World)(base:Nat)(v:Value)(l:List Int)(g:Option Nat):Prop:=Ow w' base 3 1 v l.length (l.map iv) g
def OwB(w':World)(base:Nat)(v:Value)(l:List UInt8)(g:Option Nat):Prop:=Ow w' base 5 1 v l.length (l.map bv) g
section
variable {w w':World} {base:Nat} {v:Value} {l:List Int} {m:List UInt8} {g:Option Nat}
theorem OwB.nil(w:World)(base:Nat):OwB w base (.slice none 0 0) [] none:=Ow.nil _ _ _ _
theorem OwB.ext(h:OwB w base v m g)(k:Ext w w'):OwB w' base v m g:=Ow.ext h k
theorem OwB.alloc(h:OwB w base v m g)(o:Obj):OwB (w.alloc o) base v m g:=Ow.ext h (za0 _ _)
theorem OwB.form(h:OwB w base v m g): ∃a c,v= .slice a m.length c:=by obtain⟨p,e,_⟩:=Ow.sl h;exact⟨p.a,p.c,e⟩
theorem OwB.by_(h:OwB w base v m g): ∃p:AC,v= .slice p.a m.length p.c/\By w (base<= ·) p m:=Ow.sl h
theorem OwB.base_mono{b:Nat}(h:OwB w base v m g)(hb:b<=base):OwB w b v m g:=Ow.base_mono h hb
end
theorem Ow.grown{w w' a:World}{base:Nat}{e:TypeId}{sz n:Nat}{v:Value}{xs:List Value}{g:Option Nat}(h:Ow w base e sz v n xs g)(hg:w.grownBy w' g)(ha:Ext a w)(hb:a.heap.size<=base):Ext a w':=
 ha.grown hg λk hk=>Nat.le_trans hb (h.lt k hk).1
theorem OwB.grown{w w' a:World}{base:Nat}{v:Value}{l:List UInt8}{g:Option Nat}(h:OwB w base v l g)(hg:w.grownBy w' g)(ha:Ext a w)(hb:a.heap.size<=base):Ext a w':=Ow.grown h hg ha hb
theorem Sl.block{w:World}{b:Nat}{cs:Array Value}{t:TypeId}{fr:Nat×Nat}{sz n c:Nat}{S:Nat->Prop}(hb:w.heap[b]?=some (.cells cs t fr))(hs:S b)(hn:cs.size=n*sz)(hc:n<=c)(hm:c<=maxLen):
  Sl w S sz ⟨some ⟨b,0,none⟩,c⟩ n cs.toList:=
 ⟨by simpa using hn,hc,hm,λ_=>⟨b,0,rfl,hs,(Array.getElem?_eq_some_iff.1 hb).1,λj u hu=>by
  rw[Nat.zero_add,cell_of_row w b j cs t fr hb];simpa using hu⟩⟩
section
variable {w:World} {ops:Array Oper} {rest:List Oper} {o:Oper} {a:Act} {Q:Exit->Act->World->Prop}
theorem zto(hgd:o.guard=none)(s x:Operand)(ho:o.op= .call {callee:= .builtin .append,args:= #[s,x],argTypes:= #[169,169]})
  {base:Nat} {v:Value} {l:List Int} {g:Option Nat} (hs:a.eval s=v) (hown:OwI w base v l g)
  {qa:Option Addr} {qc m:Nat} {l2:List Int} {S:Nat->Prop} (hx:a.eval x= .slice qa m qc) (hm:m=l2.length) (hsrc:Sl w S 1 ⟨qa,qc⟩ l2.length (l2.map iv))
  (hsmall:l.length+l2.length<=8796093022208) (hbase:base<=w.heap.size)
  (h: ∀a' c' g' w',OwI w' base (.slice a' (l.length+m) c') (l++l2) g'->w.grownBy w' g->(g'=g\/g'=some w.heap.size)->wpList Tryz.prog ops Q rest (a.put o.dst (.slice a' (l.length+m) c')) w'):
  wpList Tryz.prog ops Q (o::rest) a w:=by
 subst hm
 obtain⟨i0,hi,hz0,hz1,hz2⟩:=info_parts Tryz.infoInt
 refine zno w hgd s x 169 ho base 3 i0 (.int .i64 0) 1 8 Tryz.underlying169 hi hz0 hz1 hz2 rfl (by decide) v l.length (l.map iv) g hs hown qa l2.length qc (l2.map iv) hx hsrc (z7m _) (by simp only[maxLen];omega) (by omega) hbase ?_
 intro a' c' g' w' h1 h2 h3
 refine h a' c' g' w' ?_ h2 h3
 unfold OwI
 rw[List.length_append,List.map_append]
 exact h1
theorem zck(hgd:o.guard=none)(s x:Operand)(ho:o.op= .call {callee:= .builtin .append,args:= #[s,x],argTypes:= #[22,22]})
  {base:Nat} {v:Value} {l:List UInt8} {g:Option Nat} (hs:a.eval s=v) (hown:OwB w base v l g)
  {qa:Option Addr} {qc m:Nat} {l2:List UInt8} {S:Nat->Prop} (hx:a.eval x= .slice qa m qc) (hm:m=l2.length) (hsrc:Sl w S 1 ⟨qa,qc⟩ l2.length (l2.map bv))
  (hsmall:l.length+l2.length<=8796093022208) (hbase:base<=w.heap.size)
  (h: ∀a' c' g' w',OwB w' base (.slice a' (l.length+m) c') (l++l2) g'->w.grownBy w' g->(g'=g\/g'=some w.heap.size)->wpList Tryz.prog ops Q rest (a.put o.dst (.slice a' (l.length+m) c')) w'):
  wpList Tryz.prog ops Q (o::rest) a w:=by
 subst hm
 obtain⟨i0,hi,hz0,hz1,hz2⟩:=info_parts Tryz.infoU8
 refine zno w hgd s x 22 ho base 5 i0 (.int .u8 0) 1 1 Tryz.underlying22 hi hz0 hz1 hz2 rfl (by decide) v l.length (l.map bv) g hs hown qa l2.length qc (l2.map bv) hx hsrc (z6n _) (by simp only[maxLen];omega) (by omega) hbase ?_
 intro a' c' g' w' h1 h2 h3
 refine h a' c' g' w' ?_ h2 h3
 unfold OwB
 rw[List.length_append,List.map_append]
 exact h1
end
theorem z8l(w:World)(y:UInt8)(e:TypeId):Sl (w.alloc (.cells #[.int .u8 y.toNat] e)) (λ_=>True) 1 ⟨some ⟨w.heap.size,0,none⟩,1⟩ [y].length ([y].map bv):=
 Sl.block (heap_alloc_new w _) trivial rfl (Nat.le_refl _) (by decide)
end
section
def lvF:Nat->Nat->Nat
 |0,_=>0
 |f+1,x=>if x%2=1 then lvF f (x/2)+1 else 0
def lv(x:Nat):Nat:=lvF 17 x
def nd(h k:Nat):Nat:=k*2^(h+1)+2^h-1
theorem za3(n:Nat):0<2^n:=Nat.pow_pos (by omega)
theorem zyq: ∀(f x:Nat),x<2^f-1->lvF f x<f/\x%2^(lvF f x)=2^(lvF f x)-1/\x/2^(lvF f x)%2=0
 |0,x,h=>by simp at h
 |f+1,x,h=>by
  have hp:=za3 f
  have e:2^(f+1)=2*2^f:=by rw[Nat.pow_succ];omega
  unfold lvF
  by_cases hx:x%2=1
  ·rw[if_pos hx]
   have ih:=zyq f (x/2) (by omega)
   generalize lvF f (x/2)=l at ih
   have hl:=za3 l
   refine⟨by omega,?_,?_⟩
   ·rw[Nat.pow_succ,Nat.mul_comm,Nat.mod_mul,ih.2.1];omega
   ·rw[Nat.pow_succ,Nat.mul_comm,<-Nat.div_div_eq_div_mul];exact ih.2.2
  ·rw[if_neg hx]
   refine⟨by omega,by simp;omega,by simp;omega⟩
theorem zgc{x:Nat}(h:x<=131070):lv x<=16/\x%2^(lv x)=2^(lv x)-1/\x/2^(lv x)%2=0:=by
 have:=zyq 17 x (by omega)
 exact⟨by unfold lv;omega,this.2⟩
theorem z9p{x:Nat}(h:x<=131070):x=nd (lv x) (x/2^(lv x+1)):=by
 obtain⟨_,h1,h2⟩:=zgc h
 generalize lv x=l at*
 have hp:=za3 l
 unfold nd
 have e1:x/2^(l+1)=x/2^l/2:=by rw[Nat.pow_succ,Nat.div_div_eq_div_mul]
 have e2:=Nat.div_add_mod x (2^l)
 have e3:=Nat.div_add_mod (x/2^l) 2
 rw[e1]
 rw[h1]at e2
 rw[h2]at e3
 generalize x/2^l/2=k at*
 have e4:k*2^(l+1)=2^l*(2*k):=by rw[Nat.pow_succ,Nat.mul_comm (2^l) 2,<-Nat.mul_assoc,Nat.mul_comm,Nat.mul_comm k 2]
 rw[e4]
 have e5:2*k=x/2^l:=by omega
 rw[e5]
 omega
theorem zyr: ∀(f h k:Nat),h<f->lvF f (nd h k)=h
 |0,h,k,hh=>by omega
 |f+1,0,k,_=>by unfold lvF nd;simp
 |f+1,h+1,k,hh=>by
  have hp:=za3 h
  have e:nd (h+1) k=2*nd h k+1:=by
   unfold nd
   rw[Nat.pow_succ 2 (h+1),Nat.pow_succ 2 h,<-Nat.mul_assoc]
   omega
  unfold lvF
  rw[e,if_pos (by omega),show(2*nd h k+1)/2=nd h k by omega,zyr f h k (by omega)]
theorem z9n{h k:Nat}(hh:h<=16):lv (nd h k)=h:=zyr 17 h k (by omega)
theorem z49(h k:Nat):nd (h+1) k=2*nd h k+1:=by
 have hp:=za3 h
 unfold nd
 rw[Nat.pow_succ 2 (h+1),Nat.pow_succ 2 h,<-Nat.mul_assoc]
 omega
theorem zum(k:Nat):nd 0 k=2*k:=by unfold nd;simp;omega
def fitsL:List Int:=[1,2,4,8,16,32,64,128,256,512,1024,2048,4096,8192,16384,32768,65536]
def zc5(n:Int):Bool:=fitsL.contains n
theorem zls{n:Int}(h:zc5 n=true): ∃d,d<=16/\n=((2^d:Nat):Int):=by
 unfold zc5 fitsL at h
 simp at h
 rcases h with h |h |h |h |h |h |h |h |h |h |h |h |h |h |h |h |h
 ·exact⟨0,by omega,by simpa using h⟩
 ·exact⟨1,by omega,by simpa using h⟩
 ·exact⟨2,by omega,by simpa using h⟩
 ·exact⟨3,by omega,by simpa using h⟩
 ·exact⟨4,by omega,by simpa using h⟩
 ·exact⟨5,by omega,by simpa using h⟩
 ·exact⟨6,by omega,by simpa using h⟩
 ·exact⟨7,by omega,by simpa using h⟩
 ·exact⟨8,by omega,by simpa using h⟩
 ·exact⟨9,by omega,by simpa using h⟩
 ·exact⟨10,by omega,by simpa using h⟩
 ·exact⟨11,by omega,by simpa using h⟩
 ·exact⟨12,by omega,by simpa using h⟩
 ·exact⟨13,by omega,by simpa using h⟩
 ·exact⟨14,by omega,by simpa using h⟩
 ·exact⟨15,by omega,by simpa using h⟩
 ·exact⟨16,by omega,by simpa using h⟩
theorem zr0: ∀d,d<=16->zc5 ((2^d:Nat):Int)=true:=by decide+kernel
theorem znw{n:Int}(h:zc5 n=true):1<=n/\n<=65536:=by
 obtain⟨d,hd,rfl⟩:=zls h
 have h1:=za3 d
 have h2:2^d<=2^16:=Nat.pow_le_pow_right (by omega) hd
 omega
def zce(x:Int):Bool:=decide (0<=x)&&decide (x<=131070)
theorem zej{x:Int}:zce x=true↔0<=x/\x<=131070:=by simp[zce]
def lvI(x:Int):Int:=if zce x then(lv x.toNat:Int)else-1
def zb1(x:Int):Int:=if 0<lvI x then 2^(lvI x-1).toNat else 0
def zf2(x:Int):Int:=if zb1 x=0 then-1 else x-zb1 x
def ze1(x:Int):Int:=if zb1 x=0 then-1 else x+zb1 x
def ziu(n:Int):Int:=if zc5 n then n-1 else-1
def znl(y:Int):Int:=2^(lvI y).toNat-1
def zb6(x y:Int):Bool:=(zce x&&zce y)&&(decide (y-znl y<=x)&&decide (x<=y+znl y))
theorem znh{x y:Int}:zb6 x y=true↔(zce x=true/\zce y=true)/\y-znl y<=x/\x<=y+znl y:=by
 simp only[zb6,Bool.and_eq_true,decide_eq_true_eq]
theorem zsq(y:Int):znl y=2^(lvI y).toNat-1:=rfl
theorem zrk(x:Int): -1<=lvI x/\lvI x<=16:=by
 unfold lvI
 split
 ·rename_i h
  rw[zej]at h
  have:=(zgc (x:=x.toNat) (by omega)).1
  omega
 ·omega
theorem zlw{x:Int}(h:zce x=true):lvI x=lv x.toNat:=by simp[lvI,h]
theorem zrl{x:Int}(h:zce x=false):lvI x= -1:=by simp[lvI,h]
theorem z9o{h k d:Nat}(hd:h<=d):nd h k<=2*2^d-2↔k<2^(d-h):=by
 have hp:=za3 h
 have hq:=za3 (d-h)
 have e:2^d=2^h*2^(d-h):=by rw[<-Nat.pow_add];congr 1;omega
 unfold nd
 rw[e,Nat.pow_succ]
 generalize 2^h=q at*
 generalize 2^(d-h)=Q at*
 have e1:k*(q*2)=2*(q*k):=by rw[<-Nat.mul_assoc,Nat.mul_comm k q,Nat.mul_comm]
 rw[e1]
 constructor
 ·intro h1
  rcases Nat.lt_or_ge k Q with h2 |h2
  ·exact h2
  ·have:=Nat.mul_le_mul_left q h2
   have:q*1<=q*Q:=Nat.mul_le_mul_left q hq
   omega
 ·intro h1
  have:=Nat.mul_le_mul_left q (show k+1<=Q from h1)
  rw[Nat.mul_add]at this
  omega
theorem z47{d h k:Nat}(hd:d<=16)(hh:h<=d)(hk:k<2^(d-h)):nd h k<=131070:=by
 have:=(z9o hh).2 hk
 have h16:2^d<=2^16:=Nat.pow_le_pow_right (by omega) hd
 omega
theorem z1h{d h k:Nat}(hd:d<=16)(hh:h<=d)(hk:k<2^(d-h)):zce (nd h k:Int)=true:=by
 have:=z47 hd hh hk
 rw[zej];omega
theorem z78{d h k:Nat}(hd:d<=16)(hh:h<=d)(hk:k<2^(d-h)):lvI (nd h k:Int)=h:=by
 rw[zlw (z1h hd hh hk),Int.toNat_natCast,z9n (by omega)]
theorem z48(d:Nat):(nd d 0:Int)=((2^d:Nat):Int)-1:=by
 have:=za3 d
 unfold nd;omega
end
section
def beB:Nat->Nat->List UInt8
 |0,_=>[]
 |s+1,n=>UInt8.ofNat (n/256^s)::beB s n
theorem zay: ∀(s n:Nat),(beB s n).length=s
 |0,_=>rfl
 |s+1,n=>by rw[beB,List.length_cons,zay s n]
def lenB(n:Nat):List UInt8:=if n<64 then beB 1 n else if n<16384 then beB 2 (16384+n)else beB 4 (2147483648+n)
def zcd(n:Nat):Nat:=if n<64 then 1 else if n<16384 then 2 else 4
theorem zgs(n:Nat):(lenB n).length=zcd n:=by
 unfold lenB zcd
 split
 ·exact zay _ _
 ·split<;>exact zay _ _
theorem zq7(n:Nat):1<=zcd n/\zcd n<=4:=by unfold zcd;split<;>(try split)<;>omega
def vecB(v:List UInt8):List UInt8:=lenB v.length++v
theorem z2c(v:List UInt8):(vecB v).length=zcd v.length+v.length:=by rw[vecB,List.length_append,zgs]
theorem zal(v:List UInt8):(vecB v).length<=v.length+4:=by rw[z2c];have:=zq7 v.length;omega
theorem zl6(n:Nat):((UInt8.ofNat n).toNat:Int)=(n:Int)%256:=by rw[UInt8.toNat_ofNat'];omega
theorem zy2(i:Nat):2^(8*i)=256^i:=by rw[Nat.pow_mul]
end
section
theorem OwB.ofNew{w:World}{base:Nat}{l:List UInt8}{cs:Array Value}{n:Nat}(hb:base<=w.heap.size)(hcs:cs.toList=l.map bv)(hn:n=l.length)(hl:l.length<=1000000):
  OwB (w.alloc (.cells cs 5)) base (.slice (some ⟨w.heap.size,0,none⟩) n n) l (some w.heap.size):=by
 subst hn
 unfold OwB
 rw[<-hcs]
 exact Ow.made (by rw[<-Array.length_toList,hcs];simp) (by simp only[maxLen];omega) hb
theorem OwI.ofNew{w:World}{base:Nat}{l:List Int}{cs:Array Value}{n:Nat}(hb:base<=w.heap.size)(hcs:cs.toList=l.map iv)(hn:n=l.length)(hl:l.length<=1000000):
  OwI (w.alloc (.cells cs 3)) base (.slice (some ⟨w.heap.size,0,none⟩) n n) l (some w.heap.size):=by
 subst hn
 unfold OwI
 rw[<-hcs]
 exact Ow.made (by rw[<-Array.length_toList,hcs];simp) (by simp only[maxLen];omega) hb
theorem By.none_nil{w:World}{S:Nat->Prop}{c:Nat}{l:List UInt8}(h:By w S ⟨none,c⟩ l):l=[]:=by
 rcases Nat.eq_zero_or_pos l.length with h0 |h0
 ·exact List.eq_nil_of_length_eq_zero h0
 ·obtain⟨_,_,e,_⟩:=Sl.at_ h h0;cases e
theorem Is.none_nil{w:World}{S:Nat->Prop}{c:Nat}{l:List Int}(h:Is w S ⟨none,c⟩ l):l=[]:=by
 rcases Nat.eq_zero_or_pos l.length with h0 |h0
 ·exact List.eq_nil_of_length_eq_zero h0
 ·obtain⟨_,_,e,_⟩:=Sl.at_ h.1 h0;cases e
theorem zh3(p:AC)(l:List UInt8){S:Nat->Prop}(w:World)(hp:By w S p l)(hl:l.length<=8000000000000):
  Calls Tryz.prog 171 #[.slice p.a l.length p.c] w (Ret w λw' v=>∃g,OwB w' w.heap.size v l g):=by
 have hq: ∀w (a:Option Addr) (n c:Nat),(binOp .eql 22 (.slice a n c) (.slice none 0 0)).run Tryz.prog w= .ok (.bool a.isNone) w:=λw a n c=>Lib.run_eql_slice_nil w _ _ a n c 0 0 Tryz.underlying22
 obtain⟨a,c⟩:=p
 cases a with
 |none=>
  have hn:=hp.none_nil
  subst hn
  go_enter Tryz.func171,Tryz.ntmps171
  go_wp2_with fail
  go_ret
  exact⟨_,rfl,(by(repeat (first |exact Ext.refl _ |refine Ext.drew ?_ |refine Ext.drewN ?_ _ |refine Ext.alloc ?_ _ |(refine Ext.setCell ?_ (by first |omega |(simp;done) |(simp;omega)) _) |refine Ext.trans ?_ (by assumption)))),none,Ow.nil _ _ _ _⟩
 |some ad=>
  go_enter Tryz.func171,Tryz.ntmps171
  go_wp2_with (first |(at_builtin;refine zfo ?_))
  refine zfi (zck rfl (.tmp 5) (.tmp 6) rfl rfl (OwB.ofNew (l:=[]) (Nat.le_refl _) rfl rfl (by decide)) rfl rfl (id ((hp.ext (za0 _ _)))) ?_ ?_ ?_)
  ·simp;omega
  ·simp
  intro a' c' g' w' r1 r2 r3
  have r4:=Ext.grown (za0 _ _) r2 (λk hk=>by cases hk;simp)
  rw[List.nil_append]at r1
  go_wp2_with fail
  go_ret
  exact⟨_,rfl,r4,g',by simpa using r1⟩
theorem zmc(p:AC)(l:List UInt8){S:Nat->Prop}(w:World)(hp:By w S p l)(hl:l.length<=8000000000000):
  Calls Tryz.prog 61 #[.slice p.a l.length p.c] w (Ret w λw' v=>∃g,OwB w' w.heap.size v l g):=by
 have hq: ∀w (a:Option Addr) (n c:Nat),(binOp .eql 22 (.slice a n c) (.slice none 0 0)).run Tryz.prog w= .ok (.bool a.isNone) w:=λw a n c=>Lib.run_eql_slice_nil w _ _ a n c 0 0 Tryz.underlying22
 obtain⟨a,c⟩:=p
 cases a with
 |none=>
  have hn:=hp.none_nil
  subst hn
  go_enter Tryz.func61,Tryz.ntmps61
  go_wp2_with fail
  go_ret
  exact⟨_,rfl,(by(repeat (first |exact Ext.refl _ |refine Ext.drew ?_ |refine Ext.drewN ?_ _ |refine Ext.alloc ?_ _ |(refine Ext.setCell ?_ (by first |omega |(simp;done) |(simp;omega)) _) |refine Ext.trans ?_ (by assumption)))),none,Ow.nil _ _ _ _⟩
 |some ad=>
  go_enter Tryz.func61,Tryz.ntmps61
  go_wp2_with (first |(at_builtin;refine zfo ?_))
  refine zfi (zck rfl (.tmp 5) (.tmp 6) rfl rfl (OwB.ofNew (l:=[]) (Nat.le_refl _) rfl rfl (by decide)) rfl rfl (id ((hp.ext (za0 _ _)))) ?_ ?_ ?_)
  ·simp;omega
  ·simp
  intro a' c' g' w' r1 r2 r3
  have r4:=Ext.grown (za0 _ _) r2 (λk hk=>by cases hk;simp)
  rw[List.nil_append]at r1
  go_wp2_with fail
  go_ret
  exact⟨_,rfl,r4,g',by simpa using r1⟩
theorem zu7(p:AC)(l:List Int){S:Nat->Prop}(w:World)(hp:Is w S p l)(hl:l.length<=8000000000000):
  Calls Tryz.prog 228 #[.slice p.a l.length p.c] w (Ret w λw' v=>∃g,OwI w' w.heap.size v l g):=by
 have hq: ∀w (a:Option Addr) (n c:Nat),(binOp .eql 169 (.slice a n c) (.slice none 0 0)).run Tryz.prog w= .ok (.bool a.isNone) w:=λw a n c=>Lib.run_eql_slice_nil w _ _ a n c 0 0 Tryz.underlying169
 obtain⟨a,c⟩:=p
 cases a with
 |none=>
  have hn:=hp.none_nil
  subst hn
  go_enter Tryz.func228,Tryz.ntmps228
  go_wp2_with fail
  go_ret
  exact⟨_,rfl,(by(repeat (first |exact Ext.refl _ |refine Ext.drew ?_ |refine Ext.drewN ?_ _ |refine Ext.alloc ?_ _ |(refine Ext.setCell ?_ (by first |omega |(simp;done) |(simp;omega)) _) |refine Ext.trans ?_ (by assumption)))),none,Ow.nil _ _ _ _⟩
 |some ad=>
  go_enter Tryz.func228,Tryz.ntmps228
  go_wp2_with (first |(at_builtin;refine zfo ?_))
  refine zfi (zto rfl (.tmp 5) (.tmp 6) rfl rfl (OwI.ofNew (l:=[]) (Nat.le_refl _) rfl rfl (by decide)) rfl rfl (And.left ((hp.ext (za0 _ _)))) ?_ ?_ ?_)
  ·simp;omega
  ·simp
  intro a' c' g' w' r1 r2 r3
  have r4:=Ext.grown (za0 _ _) r2 (λk hk=>by cases hk;simp)
  rw[List.nil_append]at r1
  go_wp2_with fail
  go_ret
  exact⟨_,rfl,r4,g',by simpa using r1⟩
end
section
theorem zrx{w:World}{x:Int}{e:TypeId}(b:UInt8)(h:x=(b.toNat:Int)):Sl (w.alloc (.cells #[.int .u8 x] e)) (λ_=>True) 1 ⟨some ⟨w.heap.size,0,none⟩,1⟩ [b].length ([b].map bv):=by
 subst h;exact z8l _ _ _
def z6l(l:List UInt8)(size m:Nat)(w:World)(b i:Value)(wr:World):Prop:=
 ∃(j:Nat) (done:List UInt8) (g:Option Nat),i= .int .i64 ((j:Int)-1)/\j<=size/\done.length+j=l.length+size/\l++beB size m=done++beB j m/\OwB wr w.heap.size b done g/\Ext w wr
theorem z43(n:Int)(w:World)(hn:n=1\/n=2\/n=4\/n=8):
  Calls Tryz.prog 172 #[.int .i64 n] w λe w'=>e= .returned (.bool true)/\w=w':=by
 rcases hn with rfl |rfl |rfl |rfl<;>
 ·go_enter Tryz.func172,Tryz.ntmps172
  go_wp2_with fail
  go_ret
  exact⟨rfl,rfl⟩
theorem zf4(p:AC)(l:List UInt8){S:Nat->Prop}(size m:Nat)(w:World)(hp:By w S p l)(hl:l.length<=1000000000000)(hs:size=1\/size=2\/size=4\/size=8):
  Calls Tryz.prog 83 #[.slice p.a l.length p.c, .int .i64 (size:Int), .int .u64 (m:Int)] w (Ret w λw' v=>∃g,OwB w' w.heap.size v (l++beB size m) g):=by
 have hs8:size<=8:=by omega
 have hs1:1<=size:=by omega
 have HS:Hid ((size:Int)=1\/(size:Int)=2\/(size:Int)=4\/(size:Int)=8):=Lib.hid (by omega)
 clear hs
 go_enter Tryz.func83,Tryz.ntmps83
 go_wp2_with fail
 refine(zh3 p l _ hp (by omega)).mono ?_
 rintro e w1 ⟨v,rfl,hb,g1,ho⟩
 go_wp2_with fail
 refine(z43 _ _ HS.out).mono ?_
 rintro e w' ⟨rfl,rfl⟩
 go_wp2_with fail
 go_loopw [0,7] (λb i wr=>z6l l size m w b i wr) (λ_ i _=>(intOf i+1).toNat)
 case atStart=>exact⟨size,l,g1,rfl,by omega,by omega,rfl,ho,hb⟩
 case round=>
  obtain⟨j,done,g,rfl,e1,e2,e3,e4,e5⟩:=hrel
  have E3:=Lib.hid e3
  have E2:done.length<=l.length+size:=by omega
  have E2':=Lib.hid e2
  obtain⟨a,c,rfl⟩:=e4.form
  clear e3 e2
  by_cases h0:j=0
  ·subst h0
   go_wp2_with fail
   go_ret
   exact⟨_,rfl,(by(repeat (first |exact Ext.refl _ |refine Ext.drew ?_ |refine Ext.drewN ?_ _ |refine Ext.alloc ?_ _ |(refine Ext.setCell ?_ (by first |omega |(simp;done) |(simp;omega)) _) |refine Ext.trans ?_ (by assumption)))),g,by rw[E3.out];simpa[beB]using e4⟩
  ·obtain⟨k,rfl⟩: ∃k,j=k+1:=⟨j-1,by omega⟩
   have ek:((k+1:Nat):Int)-1=(k:Int):=by omega
   rw[ek]
   clear h0 ek
   go_wp2_with (first |(at_builtin;refine zfo ?_))
   refine zfi (zck (l2:=[UInt8.ofNat (m/256^k)]) rfl (.tmp 20) (.tmp 26) rfl rfl (e4.alloc _) rfl rfl (zrx _ ?_) ?_ ?_ ?_)
   ·rw[zl6,<-zy2];simp
   ·simp;omega
   ·have:=e5.le;simp;omega
   intro a' c' g' w' r1 r2 r3
   have r4:=(e4.alloc _).grown r2 (e5.alloc _) (Nat.le_refl _)
   go_wp2_with fail
   go_roundw
   case rel=>exact⟨k,_,g',rfl,by omega,by have:=E2'.out;simp;omega,by rw[E3.out,beB,List.append_assoc];rfl,r1,r4⟩
   case measure=>(first |omega |(simp[intOf];done) |(simp[intOf];omega))
set_option maxRecDepth 100000 in
theorem zhe(n:Nat)(w:World)(hn:n<=1073741823):
  Calls Tryz.prog 288 #[.int .i64 (n:Int)] w λe w'=>e= .returned (.int .i64 (zcd n:Int))/\w=w':=by
 by_cases h1:n<64
 ·have HH:Hid (zcd n=1):=Lib.hid (by unfold zcd;rw[if_pos h1])
  go_enter Tryz.func288,Tryz.ntmps288
  go_wp2_with fail
  go_ret
  exact⟨zbp (by rw[HH.out];rfl),rfl⟩
 ·have h1':64<=n:=by omega
  by_cases h2:n<16384
  ·have HH:Hid (zcd n=2):=Lib.hid (by unfold zcd;rw[if_neg h1,if_pos h2])
   clear h1
   go_enter Tryz.func288,Tryz.ntmps288
   go_wp2_with fail
   go_ret
   exact⟨zbp (by rw[HH.out];rfl),rfl⟩
  ·have HH:Hid (zcd n=4):=Lib.hid (by unfold zcd;rw[if_neg h1,if_neg h2])
   clear h1
   go_enter Tryz.func288,Tryz.ntmps288
   go_wp2_with fail
   go_ret
   exact⟨zbp (by rw[HH.out];rfl),rfl⟩
theorem zwj(p:AC)(l:List UInt8){S:Nat->Prop}(n:Nat)(w:World)(hp:By w S p l)(hl:l.length<=1000000000000)(hn:n<=1073741823):
  Calls Tryz.prog 181 #[.slice p.a l.length p.c, .int .i64 (n:Int)] w (Ret w λw' v=>∃g,OwB w' w.heap.size v (l++lenB n) g):=by
 by_cases h1:n<64
 ·have HH:Hid (zcd n=1):=Lib.hid (by unfold zcd;rw[if_pos h1])
  have HL:Hid (lenB n=beB 1 n):=Lib.hid (by unfold lenB;rw[if_pos h1])
  have HB:Hid (bits BinOp.or IntKind.u64 0 (n:Int)=(n:Int)):=Lib.hid (by rw[show(0:Int)=((0:Nat):Int)from rfl,u64_or_nat _ _ (by omega) (by omega),Nat.zero_or])
  go_enter Tryz.func181,Tryz.ntmps181
  go_wp2_with fail
  refine(zhe n _ hn).mono ?_
  rintro e w' ⟨rfl,rfl⟩
  rw[HH.out]
  go_wp2_with fail
  rw[HB.out]
  refine(zf4 p l 1 (n) _ hp (by omega) (by omega)).mono ?_
  rintro e w1 ⟨v,rfl,hb,g,ho⟩
  go_wp2_with fail
  go_ret
  exact⟨_,rfl,hb,g,by rw[HL.out];exact ho⟩
 ·by_cases h2:n<16384
  ·have HH:Hid (zcd n=2):=Lib.hid (by unfold zcd;rw[if_neg h1,if_pos h2])
   have HL:Hid (lenB n=beB 2 (16384+n)):=Lib.hid (by unfold lenB;rw[if_neg h1,if_pos h2])
   have HB:Hid (bits BinOp.or IntKind.u64 16384 (n:Int)=((16384+n:Nat):Int)):=Lib.hid (by rw[show(16384:Int)=((16384:Nat):Int)from rfl,u64_or_nat _ _ (by omega) (by omega),nat_join 14 _ _ (by omega) (by omega)])
   go_enter Tryz.func181,Tryz.ntmps181
   go_wp2_with fail
   refine(zhe n _ hn).mono ?_
   rintro e w' ⟨rfl,rfl⟩
   rw[HH.out]
   go_wp2_with fail
   rw[HB.out]
   refine(zf4 p l 2 (16384+n) _ hp (by omega) (by omega)).mono ?_
   rintro e w1 ⟨v,rfl,hb,g,ho⟩
   go_wp2_with fail
   go_ret
   exact⟨_,rfl,hb,g,by rw[HL.out];exact ho⟩
  ·have HH:Hid (zcd n=4):=Lib.hid (by unfold zcd;rw[if_neg h1,if_neg h2])
   have HL:Hid (lenB n=beB 4 (2147483648+n)):=Lib.hid (by unfold lenB;rw[if_neg h1,if_neg h2])
   have HB:Hid (bits BinOp.or IntKind.u64 2147483648 (n:Int)=((2147483648+n:Nat):Int)):=Lib.hid (by rw[show(2147483648:Int)=((2147483648:Nat):Int)from rfl,u64_or_nat _ _ (by omega) (by omega),nat_join 31 _ _ (by omega) (by omega)])
   go_enter Tryz.func181,Tryz.ntmps181
   go_wp2_with fail
   refine(zhe n _ hn).mono ?_
   rintro e w' ⟨rfl,rfl⟩
   rw[HH.out]
   go_wp2_with fail
   rw[HB.out]
   refine(zf4 p l 4 (2147483648+n) _ hp (by omega) (by omega)).mono ?_
   rintro e w1 ⟨v,rfl,hb,g,ho⟩
   go_wp2_with fail
   go_ret
   exact⟨_,rfl,hb,g,by rw[HL.out];exact ho⟩
end
section
theorem zwk(p q:AC)(l v:List UInt8){S S':Nat->Prop}(w:World)(hp:By w S p l)(hq:By w S' q v)(hl:l.length<=1000000000000)(hv:v.length<=1073741823):
  Calls Tryz.prog 87 #[.slice p.a l.length p.c, .slice q.a v.length q.c] w (Ret w λw' r=>∃g,OwB w' w.heap.size r (l++vecB v) g):=by
 go_enter Tryz.func87,Tryz.ntmps87
 go_wp2_with fail
 refine(zwj p l _ _ hp hl hv).mono ?_
 rintro e w1 ⟨r,rfl,hb,g,ho⟩
 have hlen:=(zq7 v.length)
 obtain⟨L,hL⟩: ∃L,L=l++lenB v.length:=⟨_,rfl⟩
 have HL:=Lib.hid hL
 have hll:L.length<=l.length+4:=by rw[hL,List.length_append,zgs];omega
 rw[<-hL]at ho
 obtain⟨a,c,rfl⟩:=ho.form
 clear hL
 go_wp2_with (first |(at_builtin;refine zfo ?_))
 refine zfi (zck rfl (.tmp 8) (.tmp 9) rfl rfl ho rfl rfl (hq.ext hb) ?_ ?_ ?_)
 ·omega
 ·exact hb.le
 intro a1 c1 g1 w2 r1 r2 r3
 have r4:=ho.grown r2 hb (Nat.le_refl _)
 go_wp2_with fail
 go_ret
 exact⟨_,rfl,r4,g1,by rw[vecB,<-List.append_assoc,<-HL.out];exact r1⟩
def zz0(l m:List UInt8)(i:Value)(w wr:World):Prop:=∃j:Nat,i= .int .i64 (j:Int)/\j<=l.length/\l.take j=m.take j/\Ext w wr
theorem zti(p q:AC)(l m:List UInt8){S S':Nat->Prop}(w:World)(hp:By w S p l)(hq:By w S' q m):
  Calls Tryz.prog 41 #[.slice p.a l.length p.c, .slice q.a m.length q.c] w (Ret w λ_ v=>v= .bool (decide (l=m))):=by
 have hl:=hp.lens
 have hm:=hq.lens
 unfold maxLen at hl hm
 by_cases hlen:l.length=m.length
 ·have ht:((l.length:Int) != (m.length:Int))=false:=by simp[hlen]
  have HL:=Lib.hid hlen
  obtain⟨N,hN⟩: ∃N,N=l.length:=⟨_,rfl⟩
  have HN:=Lib.hid hN
  have hNb:N<=9223372036854775807:=by omega
  rw[<-hlen,<-hN]at ht
  rw[<-hlen,<-hN]
  clear hlen hN hl hm
  go_enter Tryz.func41,Tryz.ntmps41
  go_wp2_with fail
  go_loopw [5] (λi wr=>zz0 l m i w wr) (λi _=>N-(intOf i).toNat)
  case atStart=>exact⟨0,rfl,Nat.zero_le _,by simp,Ext.refl _⟩
  case round=>
   obtain⟨j,rfl,e1,e2,e3⟩:=hrel
   have E2:=Lib.hid e2
   rw[<-HN.out]at e1
   clear e2
   by_cases hj:j<N
   ·have hj1:j<l.length:=by rw[<-HN.out];exact hj
    have hj2:j<m.length:=by rw[<-HL.out];exact hj1
    obtain⟨b,o,hpa,hc⟩:=(hp.ext e3).at_ hj1
    obtain⟨b',o',hqa,hc'⟩:=(hq.ext e3).at_ hj2
    have hj0:(0:Int)<=(j:Int):=by omega
    have hjN:(j:Int)< (N:Int):=by omega
    rw[hpa,hqa]
    clear hpa hqa
    by_cases he:l[j]=m[j]
    ·have ht2:((l[j].toNat:Int) != (m[j].toNat:Int))=false:=by simp[he]
     have HE:=Lib.hid he
     obtain⟨X,hX⟩: ∃X:Int,X=l[j].toNat:=⟨_,rfl⟩
     obtain⟨Y,hY⟩: ∃Y:Int,Y=m[j].toNat:=⟨_,rfl⟩
     rw[<-hX]at hc ht2
     rw[<-hY]at hc' ht2
     clear he hX hY
     go_wp2_with fail
     go_quiet (fail)
     go_wp2_with fail
     go_roundw
     case rel=>exact⟨j+1,by simp,by have:=HN.out;omega,by rw[List.take_add_one,List.take_add_one,E2.out,List.getElem?_eq_getElem hj1,List.getElem?_eq_getElem hj2,HE.out],by(repeat (first |exact Ext.refl _ |refine Ext.drew ?_ |refine Ext.drewN ?_ _ |refine Ext.alloc ?_ _ |(refine Ext.setCell ?_ (by first |omega |(simp;done) |(simp;omega)) _) |refine Ext.trans ?_ (by assumption)))⟩
     case measure=>(first |omega |(simp[intOf];done) |(simp[intOf];omega))
    ·have ht2:((l[j].toNat:Int) != (m[j].toNat:Int))=true:=by
      have:l[j].toNat≠m[j].toNat:=λh=>he (UInt8.toNat_inj.1 h)
      simp;omega
     have HE:Hid (l≠m):=Lib.hid (λh=>he (by subst h;rfl))
     obtain⟨X,hX⟩: ∃X:Int,X=l[j].toNat:=⟨_,rfl⟩
     obtain⟨Y,hY⟩: ∃Y:Int,Y=m[j].toNat:=⟨_,rfl⟩
     rw[<-hX]at hc ht2
     rw[<-hY]at hc' ht2
     clear he hX hY
     go_wp2_with fail
     go_quiet (fail)
     go_wp2_with fail
     go_ret
     exact⟨_,rfl,by(repeat (first |exact Ext.refl _ |refine Ext.drew ?_ |refine Ext.drewN ?_ _ |refine Ext.alloc ?_ _ |(refine Ext.setCell ?_ (by first |omega |(simp;done) |(simp;omega)) _) |refine Ext.trans ?_ (by assumption))),by simp[HE.out]⟩
   ·go_wp2_with fail
    go_ret
    have:l=m:=by
     have h1:=HN.out
     have h2:=HL.out
     have h3:=E2.out
     rwa[List.take_of_length_le (by omega),List.take_of_length_le (by omega)]at h3
    exact⟨_,rfl,by(repeat (first |exact Ext.refl _ |refine Ext.drew ?_ |refine Ext.drewN ?_ _ |refine Ext.alloc ?_ _ |(refine Ext.setCell ?_ (by first |omega |(simp;done) |(simp;omega)) _) |refine Ext.trans ?_ (by assumption))),by simp[this]⟩
 ·have ht:((l.length:Int) != (m.length:Int))=true:=by simp;omega
  have HE:Hid (l≠m):=Lib.hid (λh=>hlen (by rw[h]))
  clear hlen
  go_enter Tryz.func41,Tryz.ntmps41
  go_wp2_with fail
  go_ret
  exact⟨_,rfl,by(repeat (first |exact Ext.refl _ |refine Ext.drew ?_ |refine Ext.drewN ?_ _ |refine Ext.alloc ?_ _ |(refine Ext.setCell ?_ (by first |omega |(simp;done) |(simp;omega)) _) |refine Ext.trans ?_ (by assumption))),by simp[HE.out]⟩
end
section
def on6(f:Nat):Nat:=Nat.land (Nat.add f (Nat.div f 4294967296)) 127
def on5(e:Nat):Nat:=on6 (Nat.add e (Nat.div e 65536))
def on4(d:Nat):Nat:=on5 (Nat.add d (Nat.div d 256))
def on3(b:Nat):Nat:=on4 (Nat.land (Nat.add (Nat.div b 16) b) 1085102592571150095)
def on2(a:Nat):Nat:=on3 (Nat.add (Nat.land (Nat.div a 4) 3689348814741910323) (Nat.land a 3689348814741910323))
def zm5(n:Nat):Nat:=on2 (Nat.add (Nat.land (Nat.div n 2) 6148914691236517205) (Nat.land n 6148914691236517205))
def pwN(n:Nat):Bool:=Nat.beq (Nat.land n (Nat.sub n 1)) 0
def beqB:Bool->Bool->Bool
 |true,b=>b
 |false,true=>false
 |false,false=>true
def zyx(n:Nat):Bool:=beqB (Nat.beq (zm5 n) 1) (pwN n)
def upTo(p:Nat->Bool):Nat->Bool
 |0=>true
 |n+1=>match p (n+1)with |true=>upTo p n |false=>false
theorem zob{p:Nat->Bool}: ∀{n:Nat},upTo p n=true->∀i,i<n->p (i+1)=true
 |0,_,i,h=>by omega
 |n+1,h,i,hi=>by
  unfold upTo at h
  split at h
  ·by_cases e:i=n
   ·subst e;assumption
   ·exact zob h i (by omega)
  ·cases h
theorem zth:upTo (λk=>upTo (λi=>zyx (Nat.add (Nat.mul 2048 (Nat.sub k 1)) i)) 2048) 32=true:=by decide+kernel
theorem z5c{n:Nat}(h1:1<=n)(h2:n<=65536):zyx n=true:=by
 have h:=zob zth ((n-1)/2048) (by omega)
 have h':=zob h ((n-1)%2048) (by omega)
 have e:Nat.add (Nat.mul 2048 (Nat.sub ((n-1)/2048+1) 1)) ((n-1)%2048+1)=n:=by
  show 2048*((n-1)/2048+1-1)+((n-1)%2048+1)=n
  omega
 rw[e]at h'
 exact h'
theorem z3t{a b:Bool}(h:beqB a b=true):a=b:=by cases a<;>cases b<;>simp[beqB]at*
theorem z8z{n:Nat}(h1:1<=n)(h2:n<=65536)(h:n&&&(n-1)=0): ∃d,d<=16/\n=2^d:=by
 obtain⟨hl,_,_⟩:=zgc (x:=n-1) (by omega)
 have hn:=z9p (x:=n-1) (by omega)
 generalize lv (n-1)=l at*
 generalize (n-1)/2^(l+1)=k at hn
 have hp:=za3 l
 have hp1:=za3 (l+1)
 have hlt:2^l<2^(l+1):=by rw[Nat.pow_succ];omega
 unfold nd at hn
 have e1:n=k*2^(l+1)+2^l:=by omega
 have d1:n/2^(l+1)=k:=by
  rw[e1,Nat.add_comm,Nat.add_mul_div_right _ _ hp1,Nat.div_eq_of_lt (by omega)];omega
 have d2:(n-1)/2^(l+1)=k:=by
  rw[hn,Nat.add_sub_assoc (by omega),Nat.add_comm,Nat.add_mul_div_right _ _ hp1,Nat.div_eq_of_lt (by omega)];omega
 have:=Nat.and_div_two_pow (a:=n) (b:=n-1) (n:=l+1)
 rw[h,d1,d2,Nat.and_self,Nat.zero_div]at this
 subst this
 exact⟨l,hl,by omega⟩
theorem z8x: ∀d,d<=16->pwN (2^d)=true:=by decide+kernel
theorem z1k{n:Nat}(h1:1<=n)(h2:n<=65536):(zm5 n=1)↔zc5 (n:Int)=true:=by
 have h:=z3t (z5c h1 h2)
 constructor
 ·intro h3
  rw[h3]at h
  have h4:n&&&(n-1)=0:=Nat.eq_of_beq_eq_true (h.symm.trans rfl)
  obtain⟨d,hd,rfl⟩:=z8z h1 h2 h4
  exact zr0 d hd
 ·intro h3
  obtain⟨d,hd,e⟩:=zls h3
  have e':n=2^d:=by omega
  rw[e',z8x d hd]at h
  rw[e']
  exact Nat.eq_of_beq_eq_true h
end
end Go.Proofs.YtlofklpckddkfaaGreat
