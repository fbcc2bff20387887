import Derived.Test.YtfjkblpnbgfkeaaGreatZFa
import Derived.Laws.Externs
import Derived.WalkKit
import Derived.WalkSpells
import Derived.WalkLawsBesides
import Derived.Lib.Hide
import Derived.Deep.Draws
import Derived.Deep.AppendLies
namespace Go.Proofs.YtfjkblpnbgfkeaaGreat.Sx
open Go.RowKit
section
abbrev W(x:UInt64):RV:= .i .u64 (x.toNat:Int)
def shrW(x:UInt64)(n:Nat):UInt64:=UInt64.ofNat (x.toNat/2^n)
def shlW(x:UInt64)(n:Nat):UInt64:=UInt64.ofNat (x.toNat*2^n)
def carW(x y c:UInt64):UInt64:=UInt64.ofNat ((x.toNat+y.toNat+c.toNat)/18446744073709551616)
def borW(x y c:UInt64):UInt64:=UInt64.ofNat (if x.toNat<y.toNat+c.toNat then 1 else 0)
theorem zyr{x y c:UInt64}(h:c.toNat<=1):(carW x y c).toNat<=1:=by
 have hx:=x.toNat_lt
 have hy:=y.toNat_lt
 unfold carW
 rw[UInt64.toNat_ofNat']
 omega
theorem zacb{x y c:UInt64}:(borW x y c).toNat<=1:=by
 unfold borW
 rw[UInt64.toNat_ofNat']
 split<;>omega
theorem Vadr.any{i:Int}{n:Nat}{K:Nat->Prop}(h:0<=i/\i< (n:Int))(hK:K i.toNat):Vadr i n K:=⟨h.1,h.2,hK⟩
theorem Vrem.any{a b:Int}{K:Int->Prop}(h:b≠0)(hK:K (a.tmod b)):Vrem a b K:=⟨h,_,rfl,hK⟩
theorem zm8(n:Nat):IntKind.u64.wrap (n:Int)=((UInt64.ofNat n).toNat:Int):=by
 rw[UInt64.toNat_ofNat']
 simp only[IntKind.wrap]
 simp[IntKind.bits,IntKind.signed]
theorem zctb(x y:UInt64):IntKind.u64.wrap ((x.toNat:Int)-(y.toNat:Int))=((x-y).toNat:Int):=by
 rw[UInt64.toNat_sub]
 have hx:=x.toNat_lt
 have hy:=y.toNat_lt
 simp only[IntKind.wrap]
 simp[IntKind.bits,IntKind.signed]
 omega
theorem Vint.w{e:Int}{K:Int->Prop}(n:Nat)(he:e=(n:Int))(hK:K ((UInt64.ofNat n).toNat:Int)):Vint .u64 e K:=⟨_,by rw[he,zm8],hK⟩
theorem Vint.wadd{a b:Int}{K:Int->Prop}(x y:UInt64)(ha:a=(x.toNat:Int))(hb:b=(y.toNat:Int))(hK:K ((x+y).toNat:Int)):Vint .u64 (a+b) K:=
 ⟨_,by subst ha;subst hb;rw[<-Int.natCast_add,zm8,UInt64.ofNat_add];simp,hK⟩
theorem Vint.wmul{a b:Int}{K:Int->Prop}(x y:UInt64)(ha:a=(x.toNat:Int))(hb:b=(y.toNat:Int))(hK:K ((x*y).toNat:Int)):Vint .u64 (a*b) K:=
 ⟨_,by subst ha;subst hb;rw[<-Int.natCast_mul,zm8,UInt64.ofNat_mul];simp,hK⟩
theorem Vint.wsub{a b:Int}{K:Int->Prop}(x y:UInt64)(ha:a=(x.toNat:Int))(hb:b=(y.toNat:Int))(hK:K ((x-y).toNat:Int)):Vint .u64 (a-b) K:=
 ⟨_,by subst ha;subst hb;rw[zctb],hK⟩
theorem bv_w(x:UInt64):BitVec.ofInt 64 (x.toNat:Int)=x.toBitVec:=by
 rw[BitVec.ofInt_natCast]
 simp
theorem zsi(x:UInt64):IntKind.u64.wrap (x.toNat:Int)=(x.toNat:Int):=by rw[zm8];simp
theorem Vbits.wand{a b:Int}{K:Int->Prop}(x y:UInt64)(ha:a=(x.toNat:Int))(hb:b=(y.toNat:Int))(hK:K ((x&&&y).toNat:Int)):Vbits .u64 .and a b K:=by
 subst ha;subst hb
 refine⟨_,?_,hK⟩
 show _=IntKind.u64.wrap (((BitVec.ofInt 64 (x.toNat:Int)&&&BitVec.ofInt 64 (y.toNat:Int)).toNat:Nat):Int)
 rw[bv_w,bv_w,<-zsi]
 rfl
theorem Vbits.wor{a b:Int}{K:Int->Prop}(x y:UInt64)(ha:a=(x.toNat:Int))(hb:b=(y.toNat:Int))(hK:K ((x|||y).toNat:Int)):Vbits .u64 .or a b K:=by
 subst ha;subst hb
 refine⟨_,?_,hK⟩
 show _=IntKind.u64.wrap (((BitVec.ofInt 64 (x.toNat:Int)|||BitVec.ofInt 64 (y.toNat:Int)).toNat:Nat):Int)
 rw[bv_w,bv_w,<-zsi]
 rfl
theorem Vbits.wxor{a b:Int}{K:Int->Prop}(x y:UInt64)(ha:a=(x.toNat:Int))(hb:b=(y.toNat:Int))(hK:K ((x^^^y).toNat:Int)):Vbits .u64 .xor a b K:=by
 subst ha;subst hb
 refine⟨_,?_,hK⟩
 show _=IntKind.u64.wrap (((BitVec.ofInt 64 (x.toNat:Int)^^^BitVec.ofInt 64 (y.toNat:Int)).toNat:Nat):Int)
 rw[bv_w,bv_w,<-zsi]
 rfl
theorem Vshr.w{a b:Int}{K:Int->Prop}(x:UInt64)(n:Nat)(ha:a=(x.toNat:Int))(hb:b=(n:Int))(hK:K ((shrW x n).toNat:Int)):Vshr .u64 a b K:=by
 subst ha;subst hb
 refine⟨by omega,_,?_,hK⟩
 have hx:=x.toNat_lt
 have h1:(shrW x n).toNat=x.toNat/2^n:=by
  unfold shrW
  rw[UInt64.toNat_ofNat']
  exact Nat.mod_eq_of_lt (Nat.lt_of_le_of_lt (Nat.div_le_self _ _) hx)
 rw[h1,Int.toNat_natCast]
 have h2:x.toNat/2^n=x.toNat/2^(min n IntKind.u64.bits):=by
  rcases Nat.le_total n IntKind.u64.bits with h |h
  ·rw[Nat.min_eq_left h]
  ·rw[Nat.min_eq_right h]
   have hb:IntKind.u64.bits=64:=rfl
   rw[hb]at h⊢
   have h64:(2:Nat)^64<=2^n:=Nat.pow_le_pow_right (by omega) h
   rw[Nat.div_eq_of_lt (by omega),Nat.div_eq_of_lt (by omega)]
 rw[h2,Int.fdiv_eq_ediv_of_nonneg _ (Int.pow_nonneg (by omega))]
 norm_cast
theorem Vshl.w{a b:Int}{K:Int->Prop}(x:UInt64)(n:Nat)(ha:a=(x.toNat:Int))(hb:b=(n:Int))(hn:n<=64)(hK:K ((shlW x n).toNat:Int)):Vshl .u64 a b K:=by
 subst ha;subst hb
 refine⟨by omega,_,?_,hK⟩
 have hb:IntKind.u64.bits=64:=rfl
 rw[Int.toNat_natCast,hb,Nat.min_eq_left hn]
 unfold shlW
 rw[<-zm8]
 norm_cast
theorem Extn.add{P:Program}{f:FuncId}(hrun: ∀(us:Array Value) (w:World),(callFunc f us).run P w=((add64Entry us).run P w).andThen λv w=> .ok (.value v) w)(x y c:UInt64)(hc:c.toNat<=1):Extn P f [W x,W y,W c] (.r (.tu [W (x+y+c),W (carW x y c)])):=by
 intro w k vs h
 simp only[RV.partsAt,RV.at_]at h
 obtain⟨_,_,rfl,rfl,_,_,rfl,rfl,_,_,rfl,rfl,rfl⟩:=h
 refine⟨.tuple #[.int .u64 (((x.toNat:Int)+(y.toNat:Int)+(c.toNat:Int))%18446744073709551616), .int .u64 (((x.toNat:Int)+(y.toNat:Int)+(c.toNat:Int))/18446744073709551616)],w,?_,Ext.refl w,k,λ_ _=>rfl,?_⟩
 ·rw[hrun]
  show((add64Entry #[.int .u64 (x.toNat:Int), .int .u64 (y.toNat:Int), .int .u64 (c.toNat:Int)]).run P w).andThen _=_
  rw[run_add64 _ _ _ (by omega) (by omega) (by omega) (by omega)]
  rfl
 ·simp only[Res.at_,RV.at_,RV.partsAt]
  have hx:=x.toNat_lt
  have hy:=y.toNat_lt
  refine⟨_,rfl,_,_,rfl,?_,_,_,rfl,?_,rfl⟩
  ·congr 1
   rw[UInt64.toNat_add,UInt64.toNat_add]
   omega
  ·unfold carW
   rw[UInt64.toNat_ofNat']
   congr 1
   omega
def zxd:Array Value->Sem Value:=λargs=>do
 let(x,y,b)<-Extern.MathBitsCarry.three "Sub64" args
 pure (Extern.MathBitsCarry.pair ((x+Extern.MathBitsCarry.m64-y-b)%Extern.MathBitsCarry.m64) (if x<y+b then 1 else 0))
theorem z10{P:Program}(x y b:Nat)(hb:b<=1)(w:World):
  (zxd #[.int .u64 x, .int .u64 y, .int .u64 b]).run P w=
   .ok (.tuple #[.int .u64 (((x+18446744073709551616-y-b)%18446744073709551616:Nat):Int), .int .u64 ((if x<y+b then 1 else 0:Nat):Int)]) w:=by
 have:b=0\/b=1:=by omega
 rcases this with rfl |rfl<;>rfl
theorem Extn.sub{P:Program}{f:FuncId}(hrun: ∀(us:Array Value) (w:World),(callFunc f us).run P w=((zxd us).run P w).andThen λv w=> .ok (.value v) w)(x y c:UInt64)(hc:c.toNat<=1):Extn P f [W x,W y,W c] (.r (.tu [W (x-y-c),W (borW x y c)])):=by
 intro w k vs h
 simp only[RV.partsAt,RV.at_]at h
 obtain⟨_,_,rfl,rfl,_,_,rfl,rfl,_,_,rfl,rfl,rfl⟩:=h
 refine⟨.tuple #[.int .u64 (((x.toNat+18446744073709551616-y.toNat-c.toNat)%18446744073709551616:Nat):Int), .int .u64 ((if x.toNat<y.toNat+c.toNat then 1 else 0:Nat):Int)],w,(hrun _ _).trans ?_,Ext.refl w,k,λ_ _=>rfl,?_⟩
 ·exact congrArg (λr:Result Value=>r.andThen λv w=>Result.ok (Next.value v) w) (z10 x.toNat y.toNat c.toNat hc w)
 ·simp only[Res.at_,RV.at_,RV.partsAt]
  have hx:=x.toNat_lt
  have hy:=y.toNat_lt
  refine⟨_,rfl,_,_,rfl,?_,_,_,rfl,?_,rfl⟩
  ·congr 1
   rw[UInt64.toNat_sub,UInt64.toNat_sub]
   omega
  ·unfold borW
   rw[UInt64.toNat_ofNat']
   split<;>rfl
end
section
structure Fe where
 a:UInt64
 b:UInt64
 c:UInt64
 d:UInt64
 e:UInt64
abbrev Fe.v(x:Fe):List RV:=[W x.a,W x.b,W x.c,W x.d,W x.e]
abbrev msk:UInt64:=2251799813685247
theorem zi9(n:UInt64):zab Tryz.prog 45 [W n] (.r (.ag (Fe.v ⟨n&&&msk,shrW n 51,0,0,0⟩))):=by
 refine zaa (T:=Tab) mixed Tab_ok Tryz.func45 rfl (by kernel_rfl) ?_
 refine Vbits.wand n msk rfl rfl ?_
 refine Vshr.w n 51 rfl rfl ?_
 refine za rfl rfl ?_
 exact cr
def Fe.carry(x:Fe):Fe:=⟨(x.a&&&msk)+shrW x.e 51*19,(x.b&&&msk)+shrW x.a 51,(x.c&&&msk)+shrW x.b 51,(x.d&&&msk)+shrW x.c 51,(x.e&&&msk)+shrW x.d 51⟩
def Fe.add(x y:Fe):Fe:=Fe.carry ⟨x.a+y.a,x.b+y.b,x.c+y.c,x.d+y.d,x.e+y.e⟩
abbrev tw0:UInt64:=4503599627370458
abbrev tw1:UInt64:=4503599627370494
def Fe.sub(x y:Fe):Fe:=Fe.carry ⟨x.a+(tw0-y.a),x.b+(tw1-y.b),x.c+(tw1-y.c),x.d+(tw1-y.d),x.e+(tw1-y.e)⟩
set_option maxHeartbeats 4000000 in
theorem zka(x:Fe):zab Tryz.prog 146 [.ag x.v] (.r (.ag x.carry.v)):=by
 refine zaa (T:=Tab) mixed Tab_ok Tryz.func146 rfl (by kernel_rfl) ?_
 repeat' ((conv=>whnf);first |refine Vrounds.step mixed Tab_ok ?_ |refine zt rfl (zp ?_) |refine zu rfl (zq ?_) |refine zm (by decide) (by decide) rfl ?_ |refine Vadr.any (by decide) ?_ |refine Vshr.w _ 51 rfl rfl ?_ |refine Vint.any (k:= .i64) ?_ |refine Vrem.any (by decide) ?_ |refine Vint.wmul _ 19 rfl rfl ?_ |refine Vbits.wand _ msk rfl rfl ?_ |refine Vint.wadd _ _ rfl rfl ?_ |refine Vint.wsub _ _ rfl rfl ?_ |refine za rfl rfl ?_ |refine Vloop.rounds 6 ?_ |refine Vdraw.mk' (by kernel_rfl) ?_)
 exactλ_ _ _ h=>h
set_option maxHeartbeats 4000000 in
theorem zgm(x y:Fe):zab Tryz.prog 211 [.ag x.v, .ag y.v] (.r (.ag (x.add y).v)):=by
 refine zaa (T:=Tab) mixed Tab_ok Tryz.func211 rfl (by kernel_rfl) ?_
 repeat' ((conv=>whnf);first |refine Vrounds.step mixed Tab_ok ?_ |refine zt rfl (zp ?_) |refine zu rfl (zq ?_) |refine zm (by decide) (by decide) rfl ?_ |refine Vadr.any (by decide) ?_ |refine Vshr.w _ 51 rfl rfl ?_ |refine Vint.any (k:= .i64) ?_ |refine Vrem.any (by decide) ?_ |refine Vint.wmul _ 19 rfl rfl ?_ |refine Vbits.wand _ msk rfl rfl ?_ |refine Vint.wadd _ _ rfl rfl ?_ |refine Vint.wsub _ _ rfl rfl ?_ |refine za rfl rfl ?_ |refine Vloop.rounds 6 ?_ |refine Vdraw.mk' (by kernel_rfl) ?_)
 refine ze (zka ⟨x.a+y.a,x.b+y.b,x.c+y.c,x.d+y.d,x.e+y.e⟩) ?_
 repeat' ((conv=>whnf);first |refine Vrounds.step mixed Tab_ok ?_ |refine zt rfl (zp ?_) |refine zu rfl (zq ?_) |refine zm (by decide) (by decide) rfl ?_ |refine Vadr.any (by decide) ?_ |refine Vshr.w _ 51 rfl rfl ?_ |refine Vint.any (k:= .i64) ?_ |refine Vrem.any (by decide) ?_ |refine Vint.wmul _ 19 rfl rfl ?_ |refine Vbits.wand _ msk rfl rfl ?_ |refine Vint.wadd _ _ rfl rfl ?_ |refine Vint.wsub _ _ rfl rfl ?_ |refine za rfl rfl ?_ |refine Vloop.rounds 6 ?_ |refine Vdraw.mk' (by kernel_rfl) ?_)
 exactλ_ _ _ h=>h
end
section
set_option maxHeartbeats 4000000 in
theorem zhj(x y:Fe):zab Tryz.prog 212 [.ag x.v, .ag y.v] (.r (.ag (x.sub y).v)):=by
 refine zaa (T:=Tab) mixed Tab_ok Tryz.func212 rfl (by kernel_rfl) ?_
 repeat' ((conv=>whnf);first |refine Vint.wsub tw0 y.a rfl rfl ?_ |refine Vint.wsub tw1 _ rfl rfl ?_ |refine Vrounds.step mixed Tab_ok ?_ |refine zt rfl (zp ?_) |refine zu rfl (zq ?_) |refine Vadr.any (by decide) ?_ |refine Vint.any (k:= .i64) ?_ |refine Vint.wadd _ _ rfl rfl ?_ |refine za rfl rfl ?_ |refine Vloop.rounds 6 ?_ |refine Vdraw.mk' (by kernel_rfl) ?_ |refine ze (zka ⟨x.a+(tw0-y.a),x.b+(tw1-y.b),x.c+(tw1-y.c),x.d+(tw1-y.d),x.e+(tw1-y.e)⟩) ?_)
 exactλ_ _ _ h=>h
abbrev lo32:UInt64:=4294967295
def mulM(x y:UInt64):UInt64:=shrW x 32*(y&&&lo32)+shrW ((x&&&lo32)*(y&&&lo32)) 32
def mulH(x y:UInt64):UInt64:=shrW x 32*shrW y 32+shrW (mulM x y) 32+shrW ((mulM x y&&&lo32)+(x&&&lo32)*shrW y 32) 32
set_option maxHeartbeats 4000000 in
theorem zr0(x y:UInt64):zab Tryz.prog 264 [W x,W y] (.r (.tu [W (mulH x y),W (x*y)])):=by
 refine zaa (T:=Tab) mixed Tab_ok Tryz.func264 rfl (by kernel_rfl) ?_
 repeat' ((conv=>whnf);first |refine Vbits.wand _ lo32 rfl rfl ?_ |refine Vshr.w _ 32 rfl rfl ?_ |refine Vint.wadd _ _ rfl rfl ?_ |refine Vint.wmul _ _ rfl rfl ?_)
 exact⟨_,rfl,cr⟩
theorem zf5(x y c:UInt64)(hc:c.toNat<=1):Extn Tryz.prog 215 [W x,W y,W c] (.r (.tu [W (x+y+c),W (carW x y c)])):=
 Extn.add (λus w=>run_callFunc_extern Tryz.func215 (by kernel_rfl) (by kernel_rfl) (by kernel_rfl) (e:=add64Entry) (by kernel_rfl) us w) x y c hc
def z9s(h l a b:UInt64):UInt64:=h+mulH a b+carW l (a*b) 0
def z9t(l a b:UInt64):UInt64:=l+a*b+0
set_option maxHeartbeats 4000000 in
theorem z4b(h l a b:UInt64):zab Tryz.prog 214 [.ag [W h,W l],W a,W b] (.r (.ag [W (z9s h l a b),W (z9t l a b)])):=by
 refine zaa (T:=Tab) mixed Tab_ok Tryz.func214 rfl (by kernel_rfl) ?_
 refine ze (zr0 a b) ?_
 refine Vcall.ext (zf5 l (a*b) 0 (by decide)) ?_
 refine Vcall.ext (zf5 h (mulH a b) (carW l (a*b) 0) (zyr (by decide))) ?_
 repeat' ((conv=>whnf);first |refine za rfl rfl ?_)
 exactλ_ _ _ h=>h
end
section
structure Two where
 h:UInt64
 l:UInt64
def Two.plus(t:Two)(a b:UInt64):Two:=⟨z9s t.h t.l a b,z9t t.l a b⟩
def fsum(a b:Fe):Two×Two×Two×Two×Two:=
 let z:Two:=⟨0,0⟩
 (((((z.plus a.a b.a).plus a.b (b.e*19)).plus a.c (b.d*19)).plus a.d (b.c*19)).plus a.e (b.b*19),
 ((((z.plus a.a b.b).plus a.b b.a).plus a.c (b.e*19)).plus a.d (b.d*19)).plus a.e (b.c*19),
 ((((z.plus a.a b.c).plus a.b b.b).plus a.c b.a).plus a.d (b.e*19)).plus a.e (b.d*19),
 ((((z.plus a.a b.d).plus a.b b.c).plus a.c b.b).plus a.d b.a).plus a.e (b.e*19),
 ((((z.plus a.a b.e).plus a.b b.d).plus a.c b.c).plus a.d b.b).plus a.e b.a)
def flo(t:Two)(f:UInt64):UInt64:=t.l+f+0
def ffr(t:Two)(f:UInt64):UInt64:=shlW (t.h+carW t.l f 0) 13|||shrW (flo t f) 51
def Fe.mul(a b:Fe):Fe:=
 let s:=fsum a b
 let f0:=ffr s.1 0
 let f1:=ffr s.2.1 f0
 let f2:=ffr s.2.2.1 f1
 let f3:=ffr s.2.2.2.1 f2
 let f4:=ffr s.2.2.2.2 f3
 Fe.carry ⟨(flo s.1 0&&&msk)+f4*19,flo s.2.1 f0&&&msk,flo s.2.2.1 f1&&&msk,flo s.2.2.2.1 f2&&&msk,flo s.2.2.2.2 f3&&&msk⟩
set_option maxHeartbeats 40000000 in
set_option maxRecDepth 10000 in
theorem zb1(x y:Fe):zab Tryz.prog 143 [.ag x.v, .ag y.v] (.r (.ag (x.mul y).v)):=by
 refine zaa (T:=Tab) mixed Tab_ok Tryz.func143 rfl (by kernel_rfl) ?_
 repeat' ((conv=>whnf);first |refine Vrounds.step mixed Tab_ok ?_ |refine zt rfl (zp ?_) |refine zu rfl (zq ?_) |refine zm (by decide) (by decide) rfl ?_ |refine Vadr.any (by decide) ?_ |refine Vint.any (k:= .i64) ?_ |refine Vrem.any (by decide) ?_ |refine Vint.wmul _ 19 rfl rfl ?_ |refine za rfl rfl ?_ |refine ze (z4b _ _ _ _) ?_ |refine ze (z4b 0 0 _ _) ?_ |refine Vcall.ext (zf5 _ 0 0 (by decide)) ?_ |refine Vcall.ext (zf5 _ _ 0 (by decide)) ?_ |refine Vshl.w _ 13 rfl rfl (by decide) ?_ |refine Vshr.w _ 51 rfl rfl ?_ |refine Vbits.wand _ msk rfl rfl ?_ |refine Vbits.wor _ _ rfl rfl ?_ |refine Vint.wadd _ _ rfl rfl ?_ |refine ze (zka ⟨_,_,_,_,_⟩) ?_ |refine Vloop.rounds 6 ?_)
 exactλ_ _ _ h=>h
end
section
theorem zd3(x:Fe):zab Tryz.prog 213 [.ag x.v] (.r (.ag (x.mul x).v)):=by
 refine zaa (T:=Tab) mixed Tab_ok Tryz.func213 rfl (by kernel_rfl) ?_
 repeat' ((conv=>whnf);first |refine za rfl rfl ?_ |refine ze (zb1 ⟨_,_,_,_,_⟩ ⟨_,_,_,_,_⟩) ?_)
 exactλ_ _ _ h=>h
def Fe.least(y:Fe):Fe:=
 let x:=y.carry.carry
 let q:=shrW (x.e+shrW (x.d+shrW (x.c+shrW (x.b+shrW (x.a+19) 51) 51) 51) 51) 51
 let a:=x.a+19*q
 let b:=x.b+shrW a 51
 let c:=x.c+shrW b 51
 let d:=x.d+shrW c 51
 let e:=x.e+shrW d 51
 ⟨a&&&msk,b&&&msk,c&&&msk,d&&&msk,e&&&msk⟩
set_option maxHeartbeats 40000000 in
theorem zkb(x:Fe):zab Tryz.prog 95 [.ag x.v] (.r (.ag x.least.v)):=by
 refine zaa (T:=Tab) mixed Tab_ok Tryz.func95 rfl (by kernel_rfl) ?_
 repeat' ((conv=>whnf);first |refine Vrounds.step mixed Tab_ok ?_ |refine zt rfl (zp ?_) |refine zu rfl (zq ?_) |refine Vadr.any (by decide) ?_ |refine Vint.any (k:= .i64) ?_ |refine za rfl rfl ?_ |refine ze (zka x) ?_ |refine ze (zka x.carry) ?_ |refine Vshr.w _ 51 rfl rfl ?_ |refine Vbits.wand _ msk rfl rfl ?_ |refine Vint.wadd _ 19 rfl rfl ?_ |refine Vint.wadd _ _ rfl rfl ?_ |refine Vint.wmul 19 _ rfl rfl ?_ |refine Vdraw.mk' (by kernel_rfl) ?_ |refine Vloop.rounds 6 ?_)
 exactλ_ _ _ h=>h
end
section
set_option maxHeartbeats 4000000 in
theorem z0x(x:Fe):zab Tryz.prog 273 [.ag x.v] (.r (.ag (Fe.sub ⟨0,0,0,0,0⟩ x).v)):=by
 refine zaa (T:=Tab) mixed Tab_ok Tryz.func273 rfl (by kernel_rfl) ?_
 repeat' ((conv=>whnf);first |refine za rfl rfl ?_ |refine ze (zhj ⟨0,0,0,0,0⟩ ⟨_,_,_,_,_⟩) ?_)
 exactλ_ _ _ h=>h
abbrev pv(x z:Fe):List RV:=[W x.a,W x.b,W x.c,W x.d,W x.e,W z.a,W z.b,W z.c,W z.d,W z.e]
def zdw(px pz qx qz u:Fe):(Fe×Fe)×(Fe×Fe):=
 let a:=px.add pz
 let b:=px.sub pz
 let c:=qx.add qz
 let d:=qx.sub qz
 let da:=d.mul a
 let cb:=c.mul b
 let aa:=a.mul a
 let bb:=b.mul b
 let e:=aa.sub bb
 let k:Fe:=⟨121665&&&msk,shrW 121665 51,0,0,0⟩
 let s:=da.add cb
 let t:=da.sub cb
 ((aa.mul bb,e.mul (aa.add (e.mul k))),(s.mul s,u.mul (t.mul t)))
end
section
set_option maxRecDepth 100000 in
set_option maxHeartbeats 40000000 in
theorem zqa(px pz qx qz u:Fe):zab Tryz.prog 142 [.ag (pv px pz), .ag (pv qx qz), .ag u.v] (.r (.tu [.ag (pv (zdw px pz qx qz u).1.1 (zdw px pz qx qz u).1.2), .ag (pv (zdw px pz qx qz u).2.1 (zdw px pz qx qz u).2.2)])):=by
 refine zaa (T:=Tab) mixed Tab_ok Tryz.func142 rfl (by kernel_rfl) ?_
 repeat' ((conv=>whnf);first |refine za rfl rfl ?_ |refine Vdraw.mk' (by kernel_rfl) ?_)
 refine ze (zgm px pz) ?_
 repeat' ((conv=>whnf);first |refine za rfl rfl ?_ |refine Vdraw.mk' (by kernel_rfl) ?_)
 refine ze (zhj px pz) ?_
 repeat' ((conv=>whnf);first |refine za rfl rfl ?_ |refine Vdraw.mk' (by kernel_rfl) ?_)
 refine ze (zgm qx qz) ?_
 repeat' ((conv=>whnf);first |refine za rfl rfl ?_ |refine Vdraw.mk' (by kernel_rfl) ?_)
 refine ze (zhj qx qz) ?_
 repeat' ((conv=>whnf);first |refine za rfl rfl ?_ |refine Vdraw.mk' (by kernel_rfl) ?_)
 refine ze (zb1 (qx.sub qz) (px.add pz)) ?_
 repeat' ((conv=>whnf);first |refine za rfl rfl ?_ |refine Vdraw.mk' (by kernel_rfl) ?_)
 refine ze (zb1 (qx.add qz) (px.sub pz)) ?_
 repeat' ((conv=>whnf);first |refine za rfl rfl ?_ |refine Vdraw.mk' (by kernel_rfl) ?_)
 refine ze (zd3 (px.add pz)) ?_
 repeat' ((conv=>whnf);first |refine za rfl rfl ?_ |refine Vdraw.mk' (by kernel_rfl) ?_)
 refine ze (zd3 (px.sub pz)) ?_
 repeat' ((conv=>whnf);first |refine za rfl rfl ?_ |refine Vdraw.mk' (by kernel_rfl) ?_)
 refine ze (zhj ((px.add pz).mul (px.add pz)) ((px.sub pz).mul (px.sub pz))) ?_
 repeat' ((conv=>whnf);first |refine za rfl rfl ?_ |refine Vdraw.mk' (by kernel_rfl) ?_)
 refine ze (zb1 ((px.add pz).mul (px.add pz)) ((px.sub pz).mul (px.sub pz))) ?_
 repeat' ((conv=>whnf);first |refine za rfl rfl ?_ |refine Vdraw.mk' (by kernel_rfl) ?_)
 refine ze (zi9 121665) ?_
 repeat' ((conv=>whnf);first |refine za rfl rfl ?_ |refine Vdraw.mk' (by kernel_rfl) ?_)
 refine ze (zb1 (Fe.sub ((px.add pz).mul (px.add pz)) ((px.sub pz).mul (px.sub pz))) ⟨121665&&&msk,shrW 121665 51,0,0,0⟩) ?_
 repeat' ((conv=>whnf);first |refine za rfl rfl ?_ |refine Vdraw.mk' (by kernel_rfl) ?_)
 refine ze (zgm ((px.add pz).mul (px.add pz)) (Fe.mul (Fe.sub ((px.add pz).mul (px.add pz)) ((px.sub pz).mul (px.sub pz))) ⟨121665&&&msk,shrW 121665 51,0,0,0⟩)) ?_
 repeat' ((conv=>whnf);first |refine za rfl rfl ?_ |refine Vdraw.mk' (by kernel_rfl) ?_)
 refine ze (zb1 (Fe.sub ((px.add pz).mul (px.add pz)) ((px.sub pz).mul (px.sub pz))) (Fe.add ((px.add pz).mul (px.add pz)) (Fe.mul (Fe.sub ((px.add pz).mul (px.add pz)) ((px.sub pz).mul (px.sub pz))) ⟨121665&&&msk,shrW 121665 51,0,0,0⟩))) ?_
 repeat' ((conv=>whnf);first |refine za rfl rfl ?_ |refine Vdraw.mk' (by kernel_rfl) ?_)
 refine ze (zgm ((qx.sub qz).mul (px.add pz)) ((qx.add qz).mul (px.sub pz))) ?_
 repeat' ((conv=>whnf);first |refine za rfl rfl ?_ |refine Vdraw.mk' (by kernel_rfl) ?_)
 refine ze (zd3 (Fe.add ((qx.sub qz).mul (px.add pz)) ((qx.add qz).mul (px.sub pz)))) ?_
 repeat' ((conv=>whnf);first |refine za rfl rfl ?_ |refine Vdraw.mk' (by kernel_rfl) ?_)
 refine ze (zhj ((qx.sub qz).mul (px.add pz)) ((qx.add qz).mul (px.sub pz))) ?_
 repeat' ((conv=>whnf);first |refine za rfl rfl ?_ |refine Vdraw.mk' (by kernel_rfl) ?_)
 refine ze (zd3 (Fe.sub ((qx.sub qz).mul (px.add pz)) ((qx.add qz).mul (px.sub pz)))) ?_
 repeat' ((conv=>whnf);first |refine za rfl rfl ?_ |refine Vdraw.mk' (by kernel_rfl) ?_)
 refine ze (zb1 u (Fe.mul (Fe.sub ((qx.sub qz).mul (px.add pz)) ((qx.add qz).mul (px.sub pz))) (Fe.sub ((qx.sub qz).mul (px.add pz)) ((qx.add qz).mul (px.sub pz))))) ?_
 repeat' ((conv=>whnf);first |refine za rfl rfl ?_ |refine Vdraw.mk' (by kernel_rfl) ?_)
 exact⟨_,rfl,cr⟩
end
section
theorem bv8(z:UInt8):BitVec.ofInt 8 (z.toNat:Int)=z.toBitVec:=by
 rw[BitVec.ofInt_natCast]
 simp
theorem z9y(n:Nat):IntKind.u8.wrap (n:Int)=((UInt8.ofNat n).toNat:Int):=by
 rw[UInt8.toNat_ofNat']
 simp only[IntKind.wrap]
 simp[IntKind.bits,IntKind.signed]
theorem zxp(x:UInt8):IntKind.u8.wrap (x.toNat:Int)=(x.toNat:Int):=by rw[z9y];simp
theorem Vbits.or8{a b:Int}{K:Int->Prop}(x y:UInt8)(ha:a=(x.toNat:Int))(hb:b=(y.toNat:Int))(hK:K ((x|||y).toNat:Int)):Vbits .u8 .or a b K:=by
 subst ha;subst hb
 refine⟨_,?_,hK⟩
 show _=IntKind.u8.wrap (((BitVec.ofInt 8 (x.toNat:Int)|||BitVec.ofInt 8 (y.toNat:Int)).toNat:Nat):Int)
 rw[bv8,bv8,<-zxp]
 rfl
theorem Vbits.and8{a b:Int}{K:Int->Prop}(x y:UInt8)(ha:a=(x.toNat:Int))(hb:b=(y.toNat:Int))(hK:K ((x&&&y).toNat:Int)):Vbits .u8 .and a b K:=by
 subst ha;subst hb
 refine⟨_,?_,hK⟩
 show _=IntKind.u8.wrap (((BitVec.ofInt 8 (x.toNat:Int)&&&BitVec.ofInt 8 (y.toNat:Int)).toNat:Nat):Int)
 rw[bv8,bv8,<-zxp]
 rfl
theorem Vbits.andn8{a b:Int}{K:Int->Prop}(x y:UInt8)(ha:a=(x.toNat:Int))(hb:b=(y.toNat:Int))(hK:K ((x&&& ~~~y).toNat:Int)):Vbits .u8 .andNot a b K:=by
 subst ha;subst hb
 refine⟨_,?_,hK⟩
 show _=IntKind.u8.wrap (((BitVec.ofInt 8 (x.toNat:Int)&&& ~~~(BitVec.ofInt 8 (y.toNat:Int))).toNat:Nat):Int)
 rw[bv8,bv8,<-zxp]
 rfl
def shl8(x:UInt8)(n:Nat):UInt8:=UInt8.ofNat (x.toNat*2^n)
theorem Vshl.b{a b:Int}{K:Int->Prop}(x:UInt8)(n:Nat)(ha:a=(x.toNat:Int))(hb:b=(n:Int))(hn:n<=8)(hK:K ((shl8 x n).toNat:Int)):Vshl .u8 a b K:=by
 subst ha;subst hb
 refine⟨by omega,_,?_,hK⟩
 have hb:IntKind.u8.bits=8:=rfl
 rw[Int.toNat_natCast,hb,Nat.min_eq_left hn]
 unfold shl8
 rw[<-z9y]
 norm_cast
end
end Go.Proofs.YtfjkblpnbgfkeaaGreat.Sx

namespace Go.Proofs.YtfjkblpnbgfkeaaGreat
open Go.RowKit
set_option linter.unusedVariables false
section
def Ext(w w':World):Prop:=Below w.heap.size w w'
theorem Ext.refl(w:World):Ext w w:=Below.refl _ _
theorem Ext.trans{a b c:World}(h:Ext a b)(k:Ext b c):Ext a c:=Below.trans h (Below.mono k h.size)
theorem Ext.alloc{a w:World}(h:Ext a w)(o:Obj):Ext a (w.alloc o):=Below.alloc h h.size o
theorem Ext.drew{a w:World}(h:Ext a w):Ext a w.drew:=Below.drew h
theorem Ext.drewN{a w:World}(h:Ext a w)(n:Nat):Ext a (w.drewN n):=⟨h.os,h.tape,h.output,h.size,h.block⟩
theorem Ext.setCell{a w:World}(h:Ext a w){p:Addr}(hp:a.heap.size<=p.block)(u:Value):Ext a (w.setCell p u):=Below.setCell h hp u
theorem Ext.le{a w:World}(h:Ext a w):a.heap.size<=w.heap.size:=h.size
theorem Ext.grown{a w w':World}{g:Option Nat}(h:Ext a w)(hg:w.grownBy w' g)(hr: ∀k,g=some k->a.heap.size<=k):Ext a w':=Below.grown h hg h.size hr
theorem zar(w:World)(o:Obj):Ext w (w.alloc o):=(Ext.refl w).alloc o
theorem Ext.cells{W w1:World}(hb:Ext W w1):(∀b o,b<W.heap.size->w1.cell? ⟨b,o,none⟩=W.cell? ⟨b,o,none⟩)/\(∀b o,b<W.heap.size->w1.frozen? ⟨b,o,none⟩=W.frozen? ⟨b,o,none⟩):=
 ⟨λb o h=>Below.cell hb (p:=⟨b,o,none⟩) h,λb o h=>Below.frozen hb (p:=⟨b,o,none⟩) h⟩
def Same(S:Nat->Prop)(w w':World):Prop:=w.heap.size<=w'.heap.size/\∀b,S b->b<w.heap.size->w'.heap[b]?=w.heap[b]?
theorem Same.of_ext{S:Nat->Prop}{w w':World}(h:Ext w w'):Same S w w':=⟨h.size,λb _ hb=>h.block b hb⟩
theorem Same.of_grown{S:Nat->Prop}{w w':World}{g:Option Nat}(h:w.grownBy w' g)(hS: ∀b,S b->some b≠g):Same S w w':=⟨h.size,λb hs hb=>h.block b hb (hS b hs)⟩
structure AC where
 a:Option Addr
 c:Nat
def Sl(w:World)(S:Nat->Prop)(sz:Nat)(p:AC)(n:Nat)(xs:List Value):Prop:=
 xs.length=n*sz/\n<=p.c/\p.c<=maxLen/\
  (0<n->∃b o,p.a=some ⟨b,o,none⟩/\S b/\b<w.heap.size/\∀j u,xs[j]?=some u->w.cell? ⟨b,o+j,none⟩=some u)
section
variable {w w':World} {S S':Nat->Prop} {sz n:Nat} {p:AC} {xs:List Value}
theorem Sl.same(h:Sl w S sz p n xs)(k:Same S w w'):Sl w' S sz p n xs:=by
 obtain⟨h1,h2,h3,h4⟩:=h
 refine⟨h1,h2,h3,λhn=>?_⟩
 obtain⟨b,o,e,hs,hb,hc⟩:=h4 hn
 exact⟨b,o,e,hs,Nat.lt_of_lt_of_le hb k.1,λj u hu=>(World.cell?_of_block (a:=⟨b,o+j,none⟩) (k.2 b hs hb)).trans (hc j u hu)⟩
theorem Sl.ext(h:Sl w S sz p n xs)(k:Ext w w'):Sl w' S sz p n xs:=h.same (.of_ext k)
theorem Sl.mono(h:Sl w S sz p n xs)(k: ∀b,S b->b<w.heap.size->S' b):Sl w S' sz p n xs:=by
 obtain⟨h1,h2,h3,h4⟩:=h
 refine⟨h1,h2,h3,λhn=>?_⟩
 obtain⟨b,o,e,hs,hb,hc⟩:=h4 hn
 exact⟨b,o,e,k b hs hb,hb,hc⟩
theorem Sl.capLe(h:Sl w S sz p n xs):n<=p.c/\p.c<=maxLen:=⟨h.2.1,h.2.2.1⟩
theorem Sl.nil(w:World)(S:Nat->Prop)(sz:Nat):Sl w S sz ⟨none,0⟩ 0 []:=⟨by simp,Nat.le_refl _,Nat.zero_le _,λh=>absurd h (by omega)⟩
theorem Sl.at_(h:Sl w S sz p n xs)(hn:0<n): ∃b o,p.a=some ⟨b,o,none⟩/\S b/\b<w.heap.size/\∀j u,xs[j]?=some u->w.cell? ⟨b,o+j,none⟩=some u:=h.2.2.2 hn
theorem Sl.cut(h:Sl w S sz p n xs){i j:Nat}(hij:i<=j)(hj:j<=n){a:Option Addr}{c:Nat}(hc:j-i<=c/\c<=maxLen)
  (ha:i<j->∀b o,p.a=some ⟨b,o,none⟩->a=some ⟨b,o+i*sz,none⟩):Sl w S sz ⟨a,c⟩ (j-i) ((xs.drop (i*sz)).take ((j-i)*sz)):=by
 have hl:i*sz+(j-i)*sz<=xs.length:=by
  rw[h.1,<-Nat.add_mul]
  exact Nat.mul_le_mul_right _ (by omega)
 refine⟨by rw[List.length_take,List.length_drop];omega,hc.1,hc.2,λhn=>?_⟩
 obtain⟨b,o,e,hs,hb,hcell⟩:=h.at_ (by omega)
 refine⟨b,o+i*sz,ha (by omega) b o e,hs,hb,λk u hu=>?_⟩
 have:=hcell (i*sz+k) u (by
  rw[List.getElem?_take]at hu
  split at hu
  ·rw[List.getElem?_drop]at hu;exact hu
  ·cases hu)
 rw[Nat.add_assoc];exact this
end
abbrev bv(b:UInt8):Value:= .int .u8 (b.toNat:Int)
abbrev iv(n:Int):Value:= .int .i64 n
def I64(n:Int):Prop:= -9223372036854775808<=n/\n<=9223372036854775807
def By(w:World)(S:Nat->Prop)(p:AC)(l:List UInt8):Prop:=Sl w S 1 p l.length (l.map bv)
def Is(w:World)(S:Nat->Prop)(p:AC)(l:List Int):Prop:=Sl w S 1 p l.length (l.map iv)/\∀x∈l,I64 x
section
variable {w w':World} {S S':Nat->Prop} {p:AC} {l:List UInt8} {m:List Int}
theorem By.same(h:By w S p l)(k:Same S w w'):By w' S p l:=Sl.same h k
theorem By.ext(h:By w S p l)(k:Ext w w'):By w' S p l:=Sl.ext h k
theorem By.mono(h:By w S p l)(k: ∀b,S b->b<w.heap.size->S' b):By w S' p l:=Sl.mono h k
theorem By.lens(h:By w S p l):l.length<=p.c/\p.c<=maxLen:=Sl.capLe h
theorem By.nil(w:World)(S:Nat->Prop):By w S ⟨none,0⟩ []:=Sl.nil w S 1
theorem Is.ext(h:Is w S p m)(k:Ext w w'):Is w' S p m:=⟨Sl.ext h.1 k,h.2⟩
theorem By.at_(h:By w S p l){k:Nat}(hk:k<l.length): ∃b o,p.a=some ⟨b,o,none⟩/\w.cell? ⟨b,o+k,none⟩=some (.int .u8 (l[k].toNat:Int)):=by
 obtain⟨b,o,e,_,_,hc⟩:=Sl.at_ h (by omega)
 exact⟨b,o,e,hc k _ (by simp[hk])⟩
theorem By.form(h:By w S p l)(hk:0<l.length): ∃b o,p.a=some ⟨b,o,none⟩/\∀(k:Nat) (h:k<l.length),w.cell? ⟨b,o+k,none⟩=some (.int .u8 (l[k].toNat:Int)):=by
 obtain⟨b,o,e,_,_,hc⟩:=Sl.at_ h hk
 exact⟨b,o,e,λk hk=>hc k _ (by simp[hk])⟩
theorem Is.at_(h:Is w S p m){k:Nat}(hk:k<m.length): ∃b o,p.a=some ⟨b,o,none⟩/\w.cell? ⟨b,o+k,none⟩=some (.int .i64 m[k]):=by
 obtain⟨b,o,e,_,_,hc⟩:=Sl.at_ h.1 (by omega)
 exact⟨b,o,e,hc k _ (by simp[hk])⟩
end
def Ow(w:World)(base:Nat)(e:TypeId)(sz:Nat)(v:Value)(n:Nat)(xs:List Value)(g:Option Nat):Prop:=
 xs.length=n*sz/\
 ((g=none/\∃a,v= .slice a n n/\Sl w (base<= ·) sz ⟨a,n⟩ n xs)\/
 (∃b cap cur,g=some b/\v= .slice (some ⟨b,0,none⟩) n cap/\base<=b/\w.heap[b]?=some (.cells cur e (0,0))/\n<=cap/\cap<=maxLen/\cur.size=cap*sz/\cur.toList.take (n*sz)=xs))
section
variable {w w':World} {base:Nat} {e:TypeId} {sz n:Nat} {v:Value} {xs:List Value} {g:Option Nat}
theorem Ow.nil(w:World)(base:Nat)(e:TypeId)(sz:Nat):Ow w base e sz (.slice none 0 0) 0 [] none:=
 ⟨by simp, .inl ⟨rfl,none,rfl,Sl.nil _ _ _⟩⟩
theorem Ow.made{w:World}{cs:Array Value}(hs:cs.size=n*sz)(hn:n<=maxLen)(hb:base<=w.heap.size):
  Ow (w.alloc (.cells cs e)) base e sz (.slice (some ⟨w.heap.size,0,none⟩) n n) n cs.toList (some w.heap.size):=
 ⟨by simpa using hs, .inr ⟨w.heap.size,n,cs,rfl,rfl,hb,heap_alloc_new w _,Nat.le_refl _,hn,hs,by rw[<-hs,<-Array.length_toList];exact List.take_length⟩⟩
theorem Ow.lt(h:Ow w base e sz v n xs g): ∀k,g=some k->base<=k/\k<w.heap.size:=by
 intro k hk
 rcases h.2 with⟨rfl,_⟩ |⟨b,cap,cur,rfl,_,hb,hh,_⟩
 ·cases hk
 ·cases hk
  exact⟨hb,(Array.getElem?_eq_some_iff.1 hh).1⟩
theorem Ow.sl(h:Ow w base e sz v n xs g): ∃p:AC,v= .slice p.a n p.c/\Sl w (base<= ·) sz p n xs:=by
 obtain⟨hl,h⟩:=h
 rcases h with⟨_,a,rfl,hs⟩ |⟨b,cap,cur,_,rfl,hb,hh,hnc,hcm,hcs,ht⟩
 ·exact⟨⟨a,n⟩,rfl,hs⟩
 ·refine⟨⟨some ⟨b,0,none⟩,cap⟩,rfl,hl,hnc,hcm,λ_=>⟨b,0,rfl,hb,(Array.getElem?_eq_some_iff.1 hh).1,λj u hu=>?_⟩⟩
  rw[Nat.zero_add,cell_of_row w b j cur e (0,0) hh]
  rw[<-ht,List.getElem?_take]at hu
  split at hu
  ·simpa using hu
  ·cases hu
theorem Ow.kept{g':Option Nat}(h:Ow w base e sz v n xs g)(k:Same (λb=>base<=b/\some b≠g') w w')(hg:g=none\/g≠g')(h0:g=none->n=0\/g'=none):Ow w' base e sz v n xs g:=by
 obtain⟨hl,h⟩:=h
 refine⟨hl,?_⟩
 rcases h with⟨hg0,a,rfl,hs⟩ |⟨b,cap,cur,hgb,rfl,hb,hh,r⟩
 ·refine .inl ⟨hg0,a,rfl,?_⟩
  rcases h0 hg0 with h1 |h1
  ·subst h1
   exact⟨hs.1,hs.2.1,hs.2.2.1,λh=>absurd h (by omega)⟩
  ·subst h1
   exact hs.same ⟨k.1,λb hb hlt=>k.2 b ⟨hb,by simp⟩ hlt⟩
 ·refine .inr ⟨b,cap,cur,hgb,rfl,hb,?_,r⟩
  refine(k.2 b ⟨hb,?_⟩ (Array.getElem?_eq_some_iff.1 hh).1).trans hh
  rcases hg with hg |hg
  ·rw[hg]at hgb;cases hgb
  ·rw[hgb]at hg;exact hg
theorem Ow.ext(h:Ow w base e sz v n xs g)(k:Ext w w'):Ow w' base e sz v n xs g:=by
 refine h.kept (g':=none) (Same.of_ext k) ?_ (λ_=> .inr rfl)
 cases g with
 |none=>exact .inl rfl
 |some _=>exact .inr (by simp)
theorem Ow.base_mono{base':Nat}(h:Ow w base e sz v n xs g)(hb:base'<=base):Ow w base' e sz v n xs g:=by
 obtain⟨hl,h⟩:=h
 refine⟨hl,?_⟩
 rcases h with⟨hg0,a,hv,hs⟩ |⟨b,cap,cur,hgb,hv,hbb,r⟩
 ·exact .inl ⟨hg0,a,hv,hs.mono λb hb' _=>Nat.le_trans hb hb'⟩
 ·exact .inr ⟨b,cap,cur,hgb,hv,Nat.le_trans hb hbb,r⟩
end
theorem zop(b o j:Nat):(⟨b,o,none⟩:Addr).add j=⟨b,o+j,none⟩:=by unfold Addr.add;split<;>simp_all
section
variable {P:Program} (w:World)
theorem zb6b(base:Nat)(t ty e:TypeId)(i:TypeInfo)(z:Value)(size bytes:Nat)(ht:P.underlying t=some (.slice e))(hi:P.info? e=some i)(hz:i.zero=some z)
  (hsize:i.size=size) (hby:i.bytes=bytes) (hzs:z.cells.size=size) (hsz:0<size)
  (v:Value) (n:Nat) (xs:List Value) (g:Option Nat) (hown:Ow w base e size v n xs g)
  (q:AC) (m:Nat) (news:List Value) {S:Nat->Prop} (hsrc:Sl w S size q m news) (h1: ∀u∈news,u.oneCell'=true)
  (h63:n+m<=maxLen) (hbytes:(n+m)*bytes<=140737488355328) (hbase:base<=w.heap.size):
  ∃a' c' g' w',(Builtin.append_ #[t,t] ty #[v, .slice q.a m q.c]).run P w= .ok (.slice a' (n+m) c') w'/\Ow w' base e size (.slice a' (n+m) c') (n+m) (xs++news) g'/\w.grownBy w' g/\(g'=g\/g'=some w.heap.size):=by
 obtain⟨p,rfl,hp⟩:=hown.sl
 rcases Nat.eq_zero_or_pos m with rfl |hm
 ·have hn:news=[]:=List.eq_nil_of_length_eq_zero (by simpa using hsrc.1)
  subst hn
  refine⟨p.a,p.c,g,w,?_,by simpa using hown,World.grownBy.refl _ _, .inl rfl⟩
  have hcap:=hp.2.1
  obtain⟨a,c⟩:=q
  cases a<;>cases hpa:p.a<;>simp[Builtin.append_,run_underlying ht,sizeOf,typeInfo,hi,Builtin.lenOf,Builtin.firstCells,loadCells,loadCellsFrom,hcap,storeCells]
 ·obtain⟨qb,qo,hqa,_,_,hqc⟩:=hsrc.at_ hm
  have hnews: ∀j u,news[j]?=some u->w.cell? ((⟨qb,qo,none⟩:Addr).add j)=some u:=λj u hu=>by rw[zop];exact hqc j u hu
  rw[hqa]
  obtain⟨hlx,hd⟩:=id hown
  rcases hd with⟨rfl,a,hv,hs⟩ |⟨b,cap,cur,rfl,hv,hb,hh,hnc,hcm,hcs,htk⟩
  ·injection hv with e1 _ e3
   rw[e1,e3]
   have hnl:=h63
   simp only[maxLen]at hnl
   have olds: ∀(b:Addr),a=some b->∀j u,xs[j]?=some u->w.cell? (b.add j)=some u:=by
    intro b hb j u hu
    have hpos:0<n:=by
     rcases Nat.eq_zero_or_pos n with h0 |h0
     ·subst h0
      have:=List.eq_nil_of_length_eq_zero (by simpa using hlx)
      subst this
      cases hu
     ·exact h0
    obtain⟨b',o',hab,_,_,hc⟩:=hs.at_ hpos
    simp only at hab
    rw[hb]at hab
    obtain rfl:=Option.some.inj hab
    rw[zop];exact hc j u hu
   have fin: ∀(c:Nat),n+m<=c->c<=maxLen->∀(cur:Array Value),cur.size=c*size->cur.toList.take ((n+m)*size)=xs++news->
     Ow (w.drew.alloc (.cells cur e)) base e size (.slice (some ⟨w.heap.size,0,none⟩) (n+m) c) (n+m) (xs++news) (some w.heap.size):=λc hc hcm cur hcs htk=>
    ⟨by rw[List.length_append,hlx,hsrc.1,Nat.add_mul], .inr ⟨w.heap.size,c,cur,rfl,rfl,hbase,heap_alloc_new w.drew _,hc,hcm,hcs,htk⟩⟩
   have gr: ∀(cur:Array Value),w.grownBy (w.drew.alloc (.cells cur e)) none:=λcur=>⟨rfl,rfl,rfl,by simp,λk hk _=>Below.heap_alloc w.drew _ k hk⟩
   cases a with
   |none=>
    have h0:n=0:=by
     rcases Nat.eq_zero_or_pos n with h0 |h0
     ·exact h0
     ·obtain⟨_,_,hab,_⟩:=hs.at_ h0;cases hab
    subst h0
    have hx:xs=[]:=List.eq_nil_of_length_eq_zero (by simpa using hlx)
    subst hx
    have hr:=run_append_nil (P:=P) w t ty e i z ht hi hz ⟨qb,qo,none⟩ m q.c news (by rw[hsize];exact hsrc.1) hnews hm (by omega) (by rw[hby];rw[Nat.zero_add]at hbytes;omega)
    have hge:=grownCap_ge w m 0 e
    have hcm:=grownCap_le_maxLen w m 0 e (by omega)
    refine⟨_,_,_,_,by rw[Nat.zero_add];exact hr,?_,gr _, .inr rfl⟩
    refine fin _ (by omega) hcm _ ?_ ?_
    ·simp only[Array.size_append,List.size_toArray,size_zeroCells,hzs,hsrc.1,<-Nat.add_mul]
     congr 1;omega
    ·simp only[Array.toList_append,Nat.zero_add,List.nil_append]
     rw[<-hsrc.1]
     exact List.take_left
   |some b=>
    have hr:=run_append_grow (P:=P) w t ty e i z ht hi hz b n n xs (by rw[hsize];exact hlx) (olds b rfl) ⟨qb,qo,none⟩ m q.c news (by rw[hsize];exact hsrc.1) hnews (by omega) (by omega) (growslice_fits (by omega) (by rw[hby];exact hbytes))
    have hge:=grownCap_ge w (n+m) n e
    have hcm:=grownCap_le_maxLen w (n+m) n e h63
    refine⟨_,_,_,_,hr,?_,gr _, .inr rfl⟩
    refine fin _ hge hcm _ ?_ ?_
    ·simp only[Array.size_append,List.size_toArray,size_zeroCells,hzs,hsrc.1,hlx,<-Nat.add_mul]
     congr 1;omega
    ·simp only[Array.toList_append,List.append_assoc]
     rw[<-List.append_assoc,show(n+m)*size=(xs++news).length by rw[List.length_append,hlx,hsrc.1,Nat.add_mul]]
     exact List.take_left
  ·have ho:w.ownsRow base e size (.slice (some ⟨b,0,none⟩) n cap) n xs:=⟨hlx, .inr ⟨b,cap,cur,rfl,hb,hh,hnc,hcm,hcs,htk⟩⟩
   obtain⟨g',cap',w',hr,ho',hgr,hat,_⟩:=run_append_lies (P:=P) w t ty base e i z size bytes ht hi hz hsize hby hzs hsz _ n xs ho ⟨qb,qo,none⟩ m q.c news hsrc.1 hnews h1 hm h63 hbytes hbase w.heap.size rfl
   rw[hv]
   refine⟨_,_,some g',w',hr,?_,hgr,?_⟩
   ·obtain⟨hl,h2⟩:=ho'
    refine⟨hl, .inr ?_⟩
    rcases h2 with⟨h2,_⟩ |⟨b2,cap2,cur2,hv2,r⟩
    ·cases h2
    ·injection hv2 with e1 _ e3
     injection e1 with e1
     injection e1 with e1
     subst e1;subst e3
     exact⟨g',cap',cur2,rfl,rfl,r⟩
   ·rcases hat with hat |hat
    ·left;simpa[Value.ownBlock]using hat.symm
    ·right;rw[hat]
theorem zlx{ops:Array Oper}{rest:List Oper}{o:Oper}{a:Act}{Q:Exit->Act->World->Prop}(hgd:o.guard=none)(s x:Operand)(t:TypeId)
  (ho:o.op= .call {callee:= .builtin .append,args:= #[s,x],argTypes:= #[t,t]})
  (base:Nat) (e:TypeId) (i:TypeInfo) (z:Value) (size bytes:Nat) (ht:P.underlying t=some (.slice e)) (hi:P.info? e=some i) (hz:i.zero=some z)
  (hsize:i.size=size) (hby:i.bytes=bytes) (hzs:z.cells.size=size) (hsz:0<size)
  (v:Value) (n:Nat) (xs:List Value) (g:Option Nat) (hs:a.eval s=v) (hown:Ow w base e size v n xs g)
  (qa:Option Addr) (m qc:Nat) (news:List Value) {S:Nat->Prop} (hx:a.eval x= .slice qa m qc) (hsrc:Sl w S size ⟨qa,qc⟩ m news) (h1: ∀u∈news,u.oneCell'=true)
  (h63:n+m<=maxLen) (hbytes:(n+m)*bytes<=140737488355328) (hbase:base<=w.heap.size)
  (h: ∀a' c' g' w',Ow w' base e size (.slice a' (n+m) c') (n+m) (xs++news) g'->w.grownBy w' g->(g'=g\/g'=some w.heap.size)->wpList P ops Q rest (a.put o.dst (.slice a' (n+m) c')) w'):
  wpList P ops Q (o::rest) a w:=by
 obtain⟨a',c',g',w',hr,h2,h3,h4⟩:=zb6b (P:=P) w base t o.type e i z size bytes ht hi hz hsize hby hzs hsz v n xs g hown ⟨qa,qc⟩ m news hsrc h1 h63 hbytes hbase
 refine wpList_plain hgd λK hK=>?_
 unfold Oper.wp execOp
 simp only[ho,resolve,invoke,builtin,Sem.run_bind,Sem.run_pure,Result.andThen_ok,List.map_toArray,List.map_cons,List.map_nil,hs,hx,hr]
 exact hK _ _ (h a' c' g' w' h2 h3 h4)
end
theorem zc5b(l:List UInt8): ∀u∈l.map bv,u.oneCell'=true:=by
 intro u hu
 obtain⟨_,_,rfl⟩:=List.mem_map.1 hu
 rfl
theorem zdxb(l:List Int): ∀u∈l.map iv,u.oneCell'=true:=by
 intro u hu
 obtain⟨_,_,rfl⟩:=List.mem_map.1 hu
 rfl
def Ret(w:World)(Post:World->Value->Prop)(e:Ending)(w':World):Prop:=∃v,e= .returned v/\Ext w w'/\Post w' v
def zyk(p:Prop):Prop:=p
theorem zc5{p:Prop}(h:zyk p):p:=h
theorem zc3{p:Prop}(h:p):zyk p:=h
end
end Go.Proofs.YtfjkblpnbgfkeaaGreat
