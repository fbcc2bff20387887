import Derived.Test.YtebhngeddnnpkaaGreatZSxV
import Derived.Laws.Externs
import Derived.Test.YtebhngeddnnpkaaGreatZMe
namespace Go.Proofs.YtebhngeddnnpkaaGreat.Sx
open Go.RowKit
section
abbrev W(x:UInt64):RV:= .i .u64 (x.toNat:Int)
def shrW(x:UInt64)(n:Nat):UInt64:=UInt64.ofNat (x.toNat/2^n)
def shlW(x:UInt64)(n:Nat):UInt64:=UInt64.ofNat (x.toNat*2^n)
def carW(x y c:UInt64):UInt64:=UInt64.ofNat ((x.toNat+y.toNat+c.toNat)/18446744073709551616)
def borW(x y c:UInt64):UInt64:=UInt64.ofNat (if x.toNat<y.toNat+c.toNat then 1 else 0)
theorem zts{x y c:UInt64}(h:c.toNat<=1):(carW x y c).toNat<=1:=by
 have hx:=x.toNat_lt
 have hy:=y.toNat_lt
 unfold carW
 rw[UInt64.toNat_ofNat']
 omega
theorem z3w{x y c:UInt64}:(borW x y c).toNat<=1:=by
 unfold borW
 rw[UInt64.toNat_ofNat']
 split<;>omega
theorem Vadr.any{i:Int}{n:Nat}{K:Nat->Prop}(h:0<=i/\i< (n:Int))(hK:K i.toNat):Vadr i n K:=⟨h.1,h.2,hK⟩
theorem Vrem.any{a b:Int}{K:Int->Prop}(h:b≠0)(hK:K (a.tmod b)):Vrem a b K:=⟨h,_,rfl,hK⟩
theorem zj7(n:Nat):IntKind.u64.wrap (n:Int)=((UInt64.ofNat n).toNat:Int):=by
 rw[UInt64.toNat_ofNat']
 simp only[IntKind.wrap]
 simp[IntKind.bits,IntKind.signed]
theorem z6f(x y:UInt64):IntKind.u64.wrap ((x.toNat:Int)-(y.toNat:Int))=((x-y).toNat:Int):=by
 rw[UInt64.toNat_sub]
 have hx:=x.toNat_lt
 have hy:=y.toNat_lt
 simp only[IntKind.wrap]
 simp[IntKind.bits,IntKind.signed]
 omega
theorem Vint.w{e:Int}{K:Int->Prop}(n:Nat)(he:e=(n:Int))(hK:K ((UInt64.ofNat n).toNat:Int)):Vint .u64 e K:=⟨_,by rw[he,zj7],hK⟩
theorem Vint.wadd{a b:Int}{K:Int->Prop}(x y:UInt64)(ha:a=(x.toNat:Int))(hb:b=(y.toNat:Int))(hK:K ((x+y).toNat:Int)):Vint .u64 (a+b) K:=
 ⟨_,by subst ha;subst hb;rw[<-Int.natCast_add,zj7,UInt64.ofNat_add];simp,hK⟩
theorem Vint.wmul{a b:Int}{K:Int->Prop}(x y:UInt64)(ha:a=(x.toNat:Int))(hb:b=(y.toNat:Int))(hK:K ((x*y).toNat:Int)):Vint .u64 (a*b) K:=
 ⟨_,by subst ha;subst hb;rw[<-Int.natCast_mul,zj7,UInt64.ofNat_mul];simp,hK⟩
theorem Vint.wsub{a b:Int}{K:Int->Prop}(x y:UInt64)(ha:a=(x.toNat:Int))(hb:b=(y.toNat:Int))(hK:K ((x-y).toNat:Int)):Vint .u64 (a-b) K:=
 ⟨_,by subst ha;subst hb;rw[z6f],hK⟩
theorem bv_w(x:UInt64):BitVec.ofInt 64 (x.toNat:Int)=x.toBitVec:=by
 rw[BitVec.ofInt_natCast]
 simp
theorem zod(x:UInt64):IntKind.u64.wrap (x.toNat:Int)=(x.toNat:Int):=by rw[zj7];simp
theorem Vbits.wand{a b:Int}{K:Int->Prop}(x y:UInt64)(ha:a=(x.toNat:Int))(hb:b=(y.toNat:Int))(hK:K ((x&&&y).toNat:Int)):Vbits .u64 .and a b K:=by
 subst ha;subst hb
 refine⟨_,?_,hK⟩
 show _=IntKind.u64.wrap (((BitVec.ofInt 64 (x.toNat:Int)&&&BitVec.ofInt 64 (y.toNat:Int)).toNat:Nat):Int)
 rw[bv_w,bv_w,<-zod]
 rfl
theorem Vbits.wor{a b:Int}{K:Int->Prop}(x y:UInt64)(ha:a=(x.toNat:Int))(hb:b=(y.toNat:Int))(hK:K ((x|||y).toNat:Int)):Vbits .u64 .or a b K:=by
 subst ha;subst hb
 refine⟨_,?_,hK⟩
 show _=IntKind.u64.wrap (((BitVec.ofInt 64 (x.toNat:Int)|||BitVec.ofInt 64 (y.toNat:Int)).toNat:Nat):Int)
 rw[bv_w,bv_w,<-zod]
 rfl
theorem Vbits.wxor{a b:Int}{K:Int->Prop}(x y:UInt64)(ha:a=(x.toNat:Int))(hb:b=(y.toNat:Int))(hK:K ((x^^^y).toNat:Int)):Vbits .u64 .xor a b K:=by
 subst ha;subst hb
 refine⟨_,?_,hK⟩
 show _=IntKind.u64.wrap (((BitVec.ofInt 64 (x.toNat:Int)^^^BitVec.ofInt 64 (y.toNat:Int)).toNat:Nat):Int)
 rw[bv_w,bv_w,<-zod]
 rfl
theorem Vshr.w{a b:Int}{K:Int->Prop}(x:UInt64)(n:Nat)(ha:a=(x.toNat:Int))(hb:b=(n:Int))(hK:K ((shrW x n).toNat:Int)):Vshr .u64 a b K:=by
 subst ha;subst hb
 refine⟨by omega,_,?_,hK⟩
 have hx:=x.toNat_lt
 have h1:(shrW x n).toNat=x.toNat/2^n:=by
  unfold shrW
  rw[UInt64.toNat_ofNat']
  exact Nat.mod_eq_of_lt (Nat.lt_of_le_of_lt (Nat.div_le_self _ _) hx)
 rw[h1,Int.toNat_natCast]
 have h2:x.toNat/2^n=x.toNat/2^(min n IntKind.u64.bits):=by
  rcases Nat.le_total n IntKind.u64.bits with h |h
  ·rw[Nat.min_eq_left h]
  ·rw[Nat.min_eq_right h]
   have hb:IntKind.u64.bits=64:=rfl
   rw[hb]at h⊢
   have h64:(2:Nat)^64<=2^n:=Nat.pow_le_pow_right (by omega) h
   rw[Nat.div_eq_of_lt (by omega),Nat.div_eq_of_lt (by omega)]
 rw[h2,Int.fdiv_eq_ediv_of_nonneg _ (Int.pow_nonneg (by omega))]
 norm_cast
theorem Vshl.w{a b:Int}{K:Int->Prop}(x:UInt64)(n:Nat)(ha:a=(x.toNat:Int))(hb:b=(n:Int))(hn:n<=64)(hK:K ((shlW x n).toNat:Int)):Vshl .u64 a b K:=by
 subst ha;subst hb
 refine⟨by omega,_,?_,hK⟩
 have hb:IntKind.u64.bits=64:=rfl
 rw[Int.toNat_natCast,hb,Nat.min_eq_left hn]
 unfold shlW
 rw[<-zj7]
 norm_cast
theorem Extn.add{P:Program}{f:FuncId}(hrun: ∀(us:Array Value) (w:World),(callFunc f us).run P w=((add64Entry us).run P w).andThen λv w=> .ok (.value v) w)(x y c:UInt64)(hc:c.toNat<=1):Extn P f [W x,W y,W c] (.r (.tu [W (x+y+c),W (carW x y c)])):=by
 intro w k vs h
 simp only[RV.partsAt,RV.at_]at h
 obtain⟨_,_,rfl,rfl,_,_,rfl,rfl,_,_,rfl,rfl,rfl⟩:=h
 refine⟨.tuple #[.int .u64 (((x.toNat:Int)+(y.toNat:Int)+(c.toNat:Int))%18446744073709551616), .int .u64 (((x.toNat:Int)+(y.toNat:Int)+(c.toNat:Int))/18446744073709551616)],w,?_,Ext.refl w,k,λ_ _=>rfl,?_⟩
 ·rw[hrun]
  show((add64Entry #[.int .u64 (x.toNat:Int), .int .u64 (y.toNat:Int), .int .u64 (c.toNat:Int)]).run P w).andThen _=_
  rw[run_add64 _ _ _ (by omega) (by omega) (by omega) (by omega)]
  rfl
 ·simp only[Res.at_,RV.at_,RV.partsAt]
  have hx:=x.toNat_lt
  have hy:=y.toNat_lt
  refine⟨_,rfl,_,_,rfl,?_,_,_,rfl,?_,rfl⟩
  ·congr 1
   rw[UInt64.toNat_add,UInt64.toNat_add]
   omega
  ·unfold carW
   rw[UInt64.toNat_ofNat']
   congr 1
   omega
def zsj:Array Value->Sem Value:=λargs=>do
 let(x,y,b)<-Extern.MathBitsCarry.three "Sub64" args
 pure (Extern.MathBitsCarry.pair ((x+Extern.MathBitsCarry.m64-y-b)%Extern.MathBitsCarry.m64) (if x<y+b then 1 else 0))
theorem zwl{P:Program}(x y b:Nat)(hb:b<=1)(w:World):
  (zsj #[.int .u64 x, .int .u64 y, .int .u64 b]).run P w=
   .ok (.tuple #[.int .u64 (((x+18446744073709551616-y-b)%18446744073709551616:Nat):Int), .int .u64 ((if x<y+b then 1 else 0:Nat):Int)]) w:=by
 have:b=0\/b=1:=by omega
 rcases this with rfl |rfl<;>rfl
theorem Extn.sub{P:Program}{f:FuncId}(hrun: ∀(us:Array Value) (w:World),(callFunc f us).run P w=((zsj us).run P w).andThen λv w=> .ok (.value v) w)(x y c:UInt64)(hc:c.toNat<=1):Extn P f [W x,W y,W c] (.r (.tu [W (x-y-c),W (borW x y c)])):=by
 intro w k vs h
 simp only[RV.partsAt,RV.at_]at h
 obtain⟨_,_,rfl,rfl,_,_,rfl,rfl,_,_,rfl,rfl,rfl⟩:=h
 refine⟨.tuple #[.int .u64 (((x.toNat+18446744073709551616-y.toNat-c.toNat)%18446744073709551616:Nat):Int), .int .u64 ((if x.toNat<y.toNat+c.toNat then 1 else 0:Nat):Int)],w,(hrun _ _).trans ?_,Ext.refl w,k,λ_ _=>rfl,?_⟩
 ·exact congrArg (λr:Result Value=>r.andThen λv w=>Result.ok (Next.value v) w) (zwl x.toNat y.toNat c.toNat hc w)
 ·simp only[Res.at_,RV.at_,RV.partsAt]
  have hx:=x.toNat_lt
  have hy:=y.toNat_lt
  refine⟨_,rfl,_,_,rfl,?_,_,_,rfl,?_,rfl⟩
  ·congr 1
   rw[UInt64.toNat_sub,UInt64.toNat_sub]
   omega
  ·unfold borW
   rw[UInt64.toNat_ofNat']
   split<;>rfl
end
section
structure Fe where
 a:UInt64
 b:UInt64
 c:UInt64
 d:UInt64
 e:UInt64
abbrev Fe.v(x:Fe):List RV:=[W x.a,W x.b,W x.c,W x.d,W x.e]
abbrev msk:UInt64:=2251799813685247
theorem zg3(n:UInt64):zab Tryz.prog 248 [W n] (.r (.ag (Fe.v ⟨n&&&msk,shrW n 51,0,0,0⟩))):=by
 refine zaa (T:=Tab) mixed Tab_ok Tryz.func248 rfl (by kernel_rfl) ?_
 refine Vbits.wand n msk rfl rfl ?_
 refine Vshr.w n 51 rfl rfl ?_
 refine za rfl rfl ?_
 exact cr
def Fe.carry(x:Fe):Fe:=⟨(x.a&&&msk)+shrW x.e 51*19,(x.b&&&msk)+shrW x.a 51,(x.c&&&msk)+shrW x.b 51,(x.d&&&msk)+shrW x.c 51,(x.e&&&msk)+shrW x.d 51⟩
def Fe.add(x y:Fe):Fe:=Fe.carry ⟨x.a+y.a,x.b+y.b,x.c+y.c,x.d+y.d,x.e+y.e⟩
abbrev tw0:UInt64:=4503599627370458
abbrev tw1:UInt64:=4503599627370494
def Fe.sub(x y:Fe):Fe:=Fe.carry ⟨x.a+(tw0-y.a),x.b+(tw1-y.b),x.c+(tw1-y.c),x.d+(tw1-y.d),x.e+(tw1-y.e)⟩
set_option maxHeartbeats 4000000 in
theorem zhs(x:Fe):zab Tryz.prog 384 [.ag x.v] (.r (.ag x.carry.v)):=by
 refine zaa (T:=Tab) mixed Tab_ok Tryz.func384 rfl (by kernel_rfl) ?_
 repeat' ((conv=>whnf);first |refine Vrounds.step mixed Tab_ok ?_ |refine zt rfl (zp ?_) |refine zu rfl (zq ?_) |refine zm (by decide) (by decide) rfl ?_ |refine Vadr.any (by decide) ?_ |refine Vshr.w _ 51 rfl rfl ?_ |refine Vint.any (k:= .i64) ?_ |refine Vrem.any (by decide) ?_ |refine Vint.wmul _ 19 rfl rfl ?_ |refine Vbits.wand _ msk rfl rfl ?_ |refine Vint.wadd _ _ rfl rfl ?_ |refine Vint.wsub _ _ rfl rfl ?_ |refine za rfl rfl ?_ |refine Vloop.rounds 6 ?_ |refine Vdraw.mk' (by kernel_rfl) ?_)
 exactλ_ _ _ h=>h
set_option maxHeartbeats 4000000 in
theorem zey(x y:Fe):zab Tryz.prog 257 [.ag x.v, .ag y.v] (.r (.ag (x.add y).v)):=by
 refine zaa (T:=Tab) mixed Tab_ok Tryz.func257 rfl (by kernel_rfl) ?_
 repeat' ((conv=>whnf);first |refine Vrounds.step mixed Tab_ok ?_ |refine zt rfl (zp ?_) |refine zu rfl (zq ?_) |refine zm (by decide) (by decide) rfl ?_ |refine Vadr.any (by decide) ?_ |refine Vshr.w _ 51 rfl rfl ?_ |refine Vint.any (k:= .i64) ?_ |refine Vrem.any (by decide) ?_ |refine Vint.wmul _ 19 rfl rfl ?_ |refine Vbits.wand _ msk rfl rfl ?_ |refine Vint.wadd _ _ rfl rfl ?_ |refine Vint.wsub _ _ rfl rfl ?_ |refine za rfl rfl ?_ |refine Vloop.rounds 6 ?_ |refine Vdraw.mk' (by kernel_rfl) ?_)
 refine ze (zhs ⟨x.a+y.a,x.b+y.b,x.c+y.c,x.d+y.d,x.e+y.e⟩) ?_
 repeat' ((conv=>whnf);first |refine Vrounds.step mixed Tab_ok ?_ |refine zt rfl (zp ?_) |refine zu rfl (zq ?_) |refine zm (by decide) (by decide) rfl ?_ |refine Vadr.any (by decide) ?_ |refine Vshr.w _ 51 rfl rfl ?_ |refine Vint.any (k:= .i64) ?_ |refine Vrem.any (by decide) ?_ |refine Vint.wmul _ 19 rfl rfl ?_ |refine Vbits.wand _ msk rfl rfl ?_ |refine Vint.wadd _ _ rfl rfl ?_ |refine Vint.wsub _ _ rfl rfl ?_ |refine za rfl rfl ?_ |refine Vloop.rounds 6 ?_ |refine Vdraw.mk' (by kernel_rfl) ?_)
 exactλ_ _ _ h=>h
end
section
set_option maxHeartbeats 4000000 in
theorem zfo(x y:Fe):zab Tryz.prog 388 [.ag x.v, .ag y.v] (.r (.ag (x.sub y).v)):=by
 refine zaa (T:=Tab) mixed Tab_ok Tryz.func388 rfl (by kernel_rfl) ?_
 repeat' ((conv=>whnf);first |refine Vint.wsub tw0 y.a rfl rfl ?_ |refine Vint.wsub tw1 _ rfl rfl ?_ |refine Vrounds.step mixed Tab_ok ?_ |refine zt rfl (zp ?_) |refine zu rfl (zq ?_) |refine Vadr.any (by decide) ?_ |refine Vint.any (k:= .i64) ?_ |refine Vint.wadd _ _ rfl rfl ?_ |refine za rfl rfl ?_ |refine Vloop.rounds 6 ?_ |refine Vdraw.mk' (by kernel_rfl) ?_ |refine ze (zhs ⟨x.a+(tw0-y.a),x.b+(tw1-y.b),x.c+(tw1-y.c),x.d+(tw1-y.d),x.e+(tw1-y.e)⟩) ?_)
 exactλ_ _ _ h=>h
abbrev lo32:UInt64:=4294967295
def mulM(x y:UInt64):UInt64:=shrW x 32*(y&&&lo32)+shrW ((x&&&lo32)*(y&&&lo32)) 32
def mulH(x y:UInt64):UInt64:=shrW x 32*shrW y 32+shrW (mulM x y) 32+shrW ((mulM x y&&&lo32)+(x&&&lo32)*shrW y 32) 32
set_option maxHeartbeats 4000000 in
theorem zn5(x y:UInt64):zab Tryz.prog 397 [W x,W y] (.r (.tu [W (mulH x y),W (x*y)])):=by
 refine zaa (T:=Tab) mixed Tab_ok Tryz.func397 rfl (by kernel_rfl) ?_
 repeat' ((conv=>whnf);first |refine Vbits.wand _ lo32 rfl rfl ?_ |refine Vshr.w _ 32 rfl rfl ?_ |refine Vint.wadd _ _ rfl rfl ?_ |refine Vint.wmul _ _ rfl rfl ?_)
 exact⟨_,rfl,cr⟩
theorem zep(x y c:UInt64)(hc:c.toNat<=1):Extn Tryz.prog 383 [W x,W y,W c] (.r (.tu [W (x+y+c),W (carW x y c)])):=
 Extn.add (λus w=>run_callFunc_extern Tryz.func383 (by kernel_rfl) (by kernel_rfl) (by kernel_rfl) (e:=add64Entry) (by kernel_rfl) us w) x y c hc
def z3c(h l a b:UInt64):UInt64:=h+mulH a b+carW l (a*b) 0
def z3d(l a b:UInt64):UInt64:=l+a*b+0
set_option maxHeartbeats 4000000 in
theorem zx9(h l a b:UInt64):zab Tryz.prog 382 [.ag [W h,W l],W a,W b] (.r (.ag [W (z3c h l a b),W (z3d l a b)])):=by
 refine zaa (T:=Tab) mixed Tab_ok Tryz.func382 rfl (by kernel_rfl) ?_
 refine ze (zn5 a b) ?_
 refine Vcall.ext (zep l (a*b) 0 (by decide)) ?_
 refine Vcall.ext (zep h (mulH a b) (carW l (a*b) 0) (zts (by decide))) ?_
 repeat' ((conv=>whnf);first |refine za rfl rfl ?_)
 exactλ_ _ _ h=>h
end
section
structure Two where
 h:UInt64
 l:UInt64
def Two.plus(t:Two)(a b:UInt64):Two:=⟨z3c t.h t.l a b,z3d t.l a b⟩
def fsum(a b:Fe):Two×Two×Two×Two×Two:=
 let z:Two:=⟨0,0⟩
 (((((z.plus a.a b.a).plus a.b (b.e*19)).plus a.c (b.d*19)).plus a.d (b.c*19)).plus a.e (b.b*19),
 ((((z.plus a.a b.b).plus a.b b.a).plus a.c (b.e*19)).plus a.d (b.d*19)).plus a.e (b.c*19),
 ((((z.plus a.a b.c).plus a.b b.b).plus a.c b.a).plus a.d (b.e*19)).plus a.e (b.d*19),
 ((((z.plus a.a b.d).plus a.b b.c).plus a.c b.b).plus a.d b.a).plus a.e (b.e*19),
 ((((z.plus a.a b.e).plus a.b b.d).plus a.c b.c).plus a.d b.b).plus a.e b.a)
def flo(t:Two)(f:UInt64):UInt64:=t.l+f+0
def ffr(t:Two)(f:UInt64):UInt64:=shlW (t.h+carW t.l f 0) 13|||shrW (flo t f) 51
def Fe.mul(a b:Fe):Fe:=
 let s:=fsum a b
 let f0:=ffr s.1 0
 let f1:=ffr s.2.1 f0
 let f2:=ffr s.2.2.1 f1
 let f3:=ffr s.2.2.2.1 f2
 let f4:=ffr s.2.2.2.2 f3
 Fe.carry ⟨(flo s.1 0&&&msk)+f4*19,flo s.2.1 f0&&&msk,flo s.2.2.1 f1&&&msk,flo s.2.2.2.1 f2&&&msk,flo s.2.2.2.2 f3&&&msk⟩
set_option maxHeartbeats 40000000 in
set_option maxRecDepth 10000 in
theorem zbe(x y:Fe):zab Tryz.prog 250 [.ag x.v, .ag y.v] (.r (.ag (x.mul y).v)):=by
 refine zaa (T:=Tab) mixed Tab_ok Tryz.func250 rfl (by kernel_rfl) ?_
 repeat' ((conv=>whnf);first |refine Vrounds.step mixed Tab_ok ?_ |refine zt rfl (zp ?_) |refine zu rfl (zq ?_) |refine zm (by decide) (by decide) rfl ?_ |refine Vadr.any (by decide) ?_ |refine Vint.any (k:= .i64) ?_ |refine Vrem.any (by decide) ?_ |refine Vint.wmul _ 19 rfl rfl ?_ |refine za rfl rfl ?_ |refine ze (zx9 _ _ _ _) ?_ |refine ze (zx9 0 0 _ _) ?_ |refine Vcall.ext (zep _ 0 0 (by decide)) ?_ |refine Vcall.ext (zep _ _ 0 (by decide)) ?_ |refine Vshl.w _ 13 rfl rfl (by decide) ?_ |refine Vshr.w _ 51 rfl rfl ?_ |refine Vbits.wand _ msk rfl rfl ?_ |refine Vbits.wor _ _ rfl rfl ?_ |refine Vint.wadd _ _ rfl rfl ?_ |refine ze (zhs ⟨_,_,_,_,_⟩) ?_ |refine Vloop.rounds 6 ?_)
 exactλ_ _ _ h=>h
end
section
theorem zc2(x:Fe):zab Tryz.prog 387 [.ag x.v] (.r (.ag (x.mul x).v)):=by
 refine zaa (T:=Tab) mixed Tab_ok Tryz.func387 rfl (by kernel_rfl) ?_
 repeat' ((conv=>whnf);first |refine za rfl rfl ?_ |refine ze (zbe ⟨_,_,_,_,_⟩ ⟨_,_,_,_,_⟩) ?_)
 exactλ_ _ _ h=>h
def Fe.least(y:Fe):Fe:=
 let x:=y.carry.carry
 let q:=shrW (x.e+shrW (x.d+shrW (x.c+shrW (x.b+shrW (x.a+19) 51) 51) 51) 51) 51
 let a:=x.a+19*q
 let b:=x.b+shrW a 51
 let c:=x.c+shrW b 51
 let d:=x.d+shrW c 51
 let e:=x.e+shrW d 51
 ⟨a&&&msk,b&&&msk,c&&&msk,d&&&msk,e&&&msk⟩
set_option maxHeartbeats 40000000 in
theorem zht(x:Fe):zab Tryz.prog 381 [.ag x.v] (.r (.ag x.least.v)):=by
 refine zaa (T:=Tab) mixed Tab_ok Tryz.func381 rfl (by kernel_rfl) ?_
 repeat' ((conv=>whnf);first |refine Vrounds.step mixed Tab_ok ?_ |refine zt rfl (zp ?_) |refine zu rfl (zq ?_) |refine Vadr.any (by decide) ?_ |refine Vint.any (k:= .i64) ?_ |refine za rfl rfl ?_ |refine ze (zhs x) ?_ |refine ze (zhs x.carry) ?_ |refine Vshr.w _ 51 rfl rfl ?_ |refine Vbits.wand _ msk rfl rfl ?_ |refine Vint.wadd _ 19 rfl rfl ?_ |refine Vint.wadd _ _ rfl rfl ?_ |refine Vint.wmul 19 _ rfl rfl ?_ |refine Vdraw.mk' (by kernel_rfl) ?_ |refine Vloop.rounds 6 ?_)
 exactλ_ _ _ h=>h
end
section
set_option maxHeartbeats 4000000 in
theorem zvr(x:Fe):zab Tryz.prog 390 [.ag x.v] (.r (.ag (Fe.sub ⟨0,0,0,0,0⟩ x).v)):=by
 refine zaa (T:=Tab) mixed Tab_ok Tryz.func390 rfl (by kernel_rfl) ?_
 repeat' ((conv=>whnf);first |refine za rfl rfl ?_ |refine ze (zfo ⟨0,0,0,0,0⟩ ⟨_,_,_,_,_⟩) ?_)
 exactλ_ _ _ h=>h
abbrev pv(x z:Fe):List RV:=[W x.a,W x.b,W x.c,W x.d,W x.e,W z.a,W z.b,W z.c,W z.d,W z.e]
def zcw(px pz qx qz u:Fe):(Fe×Fe)×(Fe×Fe):=
 let a:=px.add pz
 let b:=px.sub pz
 let c:=qx.add qz
 let d:=qx.sub qz
 let da:=d.mul a
 let cb:=c.mul b
 let aa:=a.mul a
 let bb:=b.mul b
 let e:=aa.sub bb
 let k:Fe:=⟨121665&&&msk,shrW 121665 51,0,0,0⟩
 let s:=da.add cb
 let t:=da.sub cb
 ((aa.mul bb,e.mul (aa.add (e.mul k))),(s.mul s,u.mul (t.mul t)))
end
section
set_option maxRecDepth 100000 in
set_option maxHeartbeats 40000000 in
theorem zmv(px pz qx qz u:Fe):zab Tryz.prog 477 [.ag (pv px pz), .ag (pv qx qz), .ag u.v] (.r (.tu [.ag (pv (zcw px pz qx qz u).1.1 (zcw px pz qx qz u).1.2), .ag (pv (zcw px pz qx qz u).2.1 (zcw px pz qx qz u).2.2)])):=by
 refine zaa (T:=Tab) mixed Tab_ok Tryz.func477 rfl (by kernel_rfl) ?_
 repeat' ((conv=>whnf);first |refine za rfl rfl ?_ |refine Vdraw.mk' (by kernel_rfl) ?_)
 refine ze (zey px pz) ?_
 repeat' ((conv=>whnf);first |refine za rfl rfl ?_ |refine Vdraw.mk' (by kernel_rfl) ?_)
 refine ze (zfo px pz) ?_
 repeat' ((conv=>whnf);first |refine za rfl rfl ?_ |refine Vdraw.mk' (by kernel_rfl) ?_)
 refine ze (zey qx qz) ?_
 repeat' ((conv=>whnf);first |refine za rfl rfl ?_ |refine Vdraw.mk' (by kernel_rfl) ?_)
 refine ze (zfo qx qz) ?_
 repeat' ((conv=>whnf);first |refine za rfl rfl ?_ |refine Vdraw.mk' (by kernel_rfl) ?_)
 refine ze (zbe (qx.sub qz) (px.add pz)) ?_
 repeat' ((conv=>whnf);first |refine za rfl rfl ?_ |refine Vdraw.mk' (by kernel_rfl) ?_)
 refine ze (zbe (qx.add qz) (px.sub pz)) ?_
 repeat' ((conv=>whnf);first |refine za rfl rfl ?_ |refine Vdraw.mk' (by kernel_rfl) ?_)
 refine ze (zc2 (px.add pz)) ?_
 repeat' ((conv=>whnf);first |refine za rfl rfl ?_ |refine Vdraw.mk' (by kernel_rfl) ?_)
 refine ze (zc2 (px.sub pz)) ?_
 repeat' ((conv=>whnf);first |refine za rfl rfl ?_ |refine Vdraw.mk' (by kernel_rfl) ?_)
 refine ze (zfo ((px.add pz).mul (px.add pz)) ((px.sub pz).mul (px.sub pz))) ?_
 repeat' ((conv=>whnf);first |refine za rfl rfl ?_ |refine Vdraw.mk' (by kernel_rfl) ?_)
 refine ze (zbe ((px.add pz).mul (px.add pz)) ((px.sub pz).mul (px.sub pz))) ?_
 repeat' ((conv=>whnf);first |refine za rfl rfl ?_ |refine Vdraw.mk' (by kernel_rfl) ?_)
 refine ze (zg3 121665) ?_
 repeat' ((conv=>whnf);first |refine za rfl rfl ?_ |refine Vdraw.mk' (by kernel_rfl) ?_)
 refine ze (zbe (Fe.sub ((px.add pz).mul (px.add pz)) ((px.sub pz).mul (px.sub pz))) ⟨121665&&&msk,shrW 121665 51,0,0,0⟩) ?_
 repeat' ((conv=>whnf);first |refine za rfl rfl ?_ |refine Vdraw.mk' (by kernel_rfl) ?_)
 refine ze (zey ((px.add pz).mul (px.add pz)) (Fe.mul (Fe.sub ((px.add pz).mul (px.add pz)) ((px.sub pz).mul (px.sub pz))) ⟨121665&&&msk,shrW 121665 51,0,0,0⟩)) ?_
 repeat' ((conv=>whnf);first |refine za rfl rfl ?_ |refine Vdraw.mk' (by kernel_rfl) ?_)
 refine ze (zbe (Fe.sub ((px.add pz).mul (px.add pz)) ((px.sub pz).mul (px.sub pz))) (Fe.add ((px.add pz).mul (px.add pz)) (Fe.mul (Fe.sub ((px.add pz).mul (px.add pz)) ((px.sub pz).mul (px.sub pz))) ⟨121665&&&msk,shrW 121665 51,0,0,0⟩))) ?_
 repeat' ((conv=>whnf);first |refine za rfl rfl ?_ |refine Vdraw.mk' (by kernel_rfl) ?_)
 refine ze (zey ((qx.sub qz).mul (px.add pz)) ((qx.add qz).mul (px.sub pz))) ?_
 repeat' ((conv=>whnf);first |refine za rfl rfl ?_ |refine Vdraw.mk' (by kernel_rfl) ?_)
 refine ze (zc2 (Fe.add ((qx.sub qz).mul (px.add pz)) ((qx.add qz).mul (px.sub pz)))) ?_
 repeat' ((conv=>whnf);first |refine za rfl rfl ?_ |refine Vdraw.mk' (by kernel_rfl) ?_)
 refine ze (zfo ((qx.sub qz).mul (px.add pz)) ((qx.add qz).mul (px.sub pz))) ?_
 repeat' ((conv=>whnf);first |refine za rfl rfl ?_ |refine Vdraw.mk' (by kernel_rfl) ?_)
 refine ze (zc2 (Fe.sub ((qx.sub qz).mul (px.add pz)) ((qx.add qz).mul (px.sub pz)))) ?_
 repeat' ((conv=>whnf);first |refine za rfl rfl ?_ |refine Vdraw.mk' (by kernel_rfl) ?_)
 refine ze (zbe u (Fe.mul (Fe.sub ((qx.sub qz).mul (px.add pz)) ((qx.add qz).mul (px.sub pz))) (Fe.sub ((qx.sub qz).mul (px.add pz)) ((qx.add qz).mul (px.sub pz))))) ?_
 repeat' ((conv=>whnf);first |refine za rfl rfl ?_ |refine Vdraw.mk' (by kernel_rfl) ?_)
 exact⟨_,rfl,cr⟩
end
section
theorem bv8(z:UInt8):BitVec.ofInt 8 (z.toNat:Int)=z.toBitVec:=by
 rw[BitVec.ofInt_natCast]
 simp
theorem z3i(n:Nat):IntKind.u8.wrap (n:Int)=((UInt8.ofNat n).toNat:Int):=by
 rw[UInt8.toNat_ofNat']
 simp only[IntKind.wrap]
 simp[IntKind.bits,IntKind.signed]
theorem zsv(x:UInt8):IntKind.u8.wrap (x.toNat:Int)=(x.toNat:Int):=by rw[z3i];simp
theorem Vbits.or8{a b:Int}{K:Int->Prop}(x y:UInt8)(ha:a=(x.toNat:Int))(hb:b=(y.toNat:Int))(hK:K ((x|||y).toNat:Int)):Vbits .u8 .or a b K:=by
 subst ha;subst hb
 refine⟨_,?_,hK⟩
 show _=IntKind.u8.wrap (((BitVec.ofInt 8 (x.toNat:Int)|||BitVec.ofInt 8 (y.toNat:Int)).toNat:Nat):Int)
 rw[bv8,bv8,<-zsv]
 rfl
theorem Vbits.and8{a b:Int}{K:Int->Prop}(x y:UInt8)(ha:a=(x.toNat:Int))(hb:b=(y.toNat:Int))(hK:K ((x&&&y).toNat:Int)):Vbits .u8 .and a b K:=by
 subst ha;subst hb
 refine⟨_,?_,hK⟩
 show _=IntKind.u8.wrap (((BitVec.ofInt 8 (x.toNat:Int)&&&BitVec.ofInt 8 (y.toNat:Int)).toNat:Nat):Int)
 rw[bv8,bv8,<-zsv]
 rfl
theorem Vbits.andn8{a b:Int}{K:Int->Prop}(x y:UInt8)(ha:a=(x.toNat:Int))(hb:b=(y.toNat:Int))(hK:K ((x&&& ~~~y).toNat:Int)):Vbits .u8 .andNot a b K:=by
 subst ha;subst hb
 refine⟨_,?_,hK⟩
 show _=IntKind.u8.wrap (((BitVec.ofInt 8 (x.toNat:Int)&&& ~~~(BitVec.ofInt 8 (y.toNat:Int))).toNat:Nat):Int)
 rw[bv8,bv8,<-zsv]
 rfl
def shl8(x:UInt8)(n:Nat):UInt8:=UInt8.ofNat (x.toNat*2^n)
theorem Vshl.b{a b:Int}{K:Int->Prop}(x:UInt8)(n:Nat)(ha:a=(x.toNat:Int))(hb:b=(n:Int))(hn:n<=8)(hK:K ((shl8 x n).toNat:Int)):Vshl .u8 a b K:=by
 subst ha;subst hb
 refine⟨by omega,_,?_,hK⟩
 have hb:IntKind.u8.bits=8:=rfl
 rw[Int.toNat_natCast,hb,Nat.min_eq_left hn]
 unfold shl8
 rw[<-z3i]
 norm_cast
end
section
abbrev Str(s:ByteArray):RV:= .x (.string s)
abbrev sB(s:ByteArray):List UInt8:=s.data.toList
def keyB(k:List UInt8):List UInt8:=if 64<k.length then shaB k else k
def zdh(k:List UInt8)(w:UInt8):List UInt8:=(List.range 64).map λi=>(keyB k).getD i 0^^^w
def macB(k t:List UInt8):List UInt8:=shaB (zdh k 92++shaB (zdh k 54++t))
theorem zg4(k:List UInt8)(w:UInt8):(zdh k w).length=64:=by simp[zdh]
theorem zdi(k t:List UInt8):(macB k t).length=32:=zdl _
theorem z40(k:List UInt8):(keyB k).length<=64:=by
 unfold keyB
 split
 ·rw[zdl];omega
 ·omega
theorem z89(x y:UInt8):IntKind.u8.wrap (((BitVec.ofInt 8 (x.toNat:Int)^^^BitVec.ofInt 8 (y.toNat:Int)).toNat:Nat):Int)=(((x^^^y).toNat:Nat):Int):=by
 have e: ∀z:UInt8,BitVec.ofInt 8 (z.toNat:Int)=z.toBitVec:=λz=>by
  rw[BitVec.ofInt_natCast]
  simp
 rw[e,e]
 have h:=(x^^^y).toNat_lt
 have e2:(x.toBitVec^^^y.toBitVec).toNat=(x^^^y).toNat:=by simp
 rw[e2]
 generalize (x^^^y).toNat=z at h
 simp only[IntKind.wrap]
 simp[IntKind.bits,IntKind.signed]
 omega
theorem Vbits.xor8{a b:Int}{K:Int->Prop}(x y:UInt8)(ha:a=(x.toNat:Int))(hb:b=(y.toNat:Int))(hK:K (((x^^^y).toNat:Nat):Int)):Vbits .u8 .xor a b K:=by
 subst ha;subst hb
 exact⟨_,(z89 x y).symm,hK⟩
def zcx(k:List UInt8)(w:UInt8)(i:Nat):List UInt8:=(List.range 64).map λj=>if j<i then k.getD j 0^^^w else k.getD j 0
theorem zih(k:List UInt8)(w:UInt8)(i:Nat):(zcx k w i).length=64:=by simp[zcx]
theorem z05(k:List UInt8)(w:UInt8):zcx (keyB k) w 64=zdh k w:=by
 unfold zcx zdh
 exact List.map_congr_left λj hj=>by rw[if_pos (List.mem_range.1 hj)]
theorem z07(k:List UInt8)(w:UInt8){i:Nat}(hi:i<64):(zcx k w i)[i]'(by rw[zih];exact hi)=k.getD i 0:=by simp[zcx]
theorem z08(k:List UInt8)(w:UInt8){i:Nat}(hi:i<64):(zcx k w i).set i (k.getD i 0^^^w)=zcx k w (i+1):=by
 apply List.ext_getElem
 ·simp[zcx]
 ·intro j h1 h2
  simp only[zcx,List.getElem_set,List.getElem_map,List.getElem_range]
  by_cases h:i=j
  ·subst h;simp
  ·rw[if_neg h]
   by_cases h3:j<i
   ·rw[if_pos h3,if_pos (by omega)]
   ·rw[if_neg h3,if_neg (by omega)]
theorem zoy(k:List UInt8)(w:UInt8)(hk:k.length<=64):(k.map U8).take (Nat.min k.length 64*1)++(List.replicate 64 (RV.i .u8 0)).drop (Nat.min k.length 64*1)=(zcx k w 0).map U8:=by
 have e:Nat.min k.length 64*1=k.length:=by rw[Nat.mul_one];exact Nat.min_eq_left hk
 rw[e]
 apply List.ext_getElem
 ·simp[zcx];omega
 ·intro j h1 h2
  simp only[List.getElem_append,List.length_take,List.length_map,Nat.min_self,List.getElem_take,List.getElem_map,List.getElem_drop,List.getElem_replicate,zcx,List.getElem_range]
  split
  ·rename_i h;simp[List.getD,h]
  ·rename_i h;simp[List.getD,List.getElem?_eq_none (Nat.le_of_not_lt h)]
theorem zcs{α:Type}{f:α->RV}{l:List α}{i:Nat}{x:α}(hi:i<l.length):zdv (l.map f) i [f x]=(l.set i x).map f:=by
 unfold zdv
 simp only[List.length_cons,List.length_nil,Nat.zero_add]
 rw[<-List.map_take,<-List.map_drop]
 have:l.set i x=l.take i++[x]++l.drop (i+1):=by rw[List.set_eq_take_append_cons_drop,if_pos hi];simp
 rw[this]
 simp
def zub(k:List UInt8)(w:UInt8)(i:Nat):St:={F:=[(1, .r (U8 w)),(5, .own 0),(18, .r (I 64)),(19, .r (I i))],O:=[(0,some (.ch 5 1 64 ((zcx k w i).map U8) false))],nx:=1}
theorem z06(k:List UInt8)(w:UInt8):some (Ow.ch 5 1 64 ((zcx (keyB k) w 64).map U8) true)=some (Ow.ch 5 1 (zdh k w).length ((zdh k w).map U8) true):=by rw[z05,zg4]
theorem zs64:(List.replicate ((64:Int).toNat) ([Value.int .u8 0].map ofC)).flatten=List.replicate 64 (RV.i .u8 0):=by simp[ofC]
theorem zxi(k:List UInt8)(w:UInt8)(hk:k.length<=1000000000):zab Tryz.prog 74 [bs k,U8 w] (bch (zdh k w)):=by
 refine zax (T:=Tab) mixed Tab_ok Tryz.func74 rfl (by kernel_rfl) ?_
 have hkey:=z40 k
 refine zh (λh=>zp ?a) (λh=>zq ?b)
 case' a=>
  simp only[zb]at h
  have hx:shaB ([k].flatMap id)=keyB k:=by unfold keyB;rw[if_pos (by omega)];simp
  refine zw ?_
  refine ze (zmr [k] (by simp;omega)) ?_
  rw[hx]
  refine⟨rfl,by decide,by decide,by decide,_,_,rfl,zs64,Vpub.own ?_⟩
  refine Vstep.copy (id:=2) Tab_ok rfl rfl rfl rfl rfl rfl rfl rfl (zoy (keyB k) w hkey) ?_
  refine zy (zub (keyB k) w) (λi=>i<=64) (λi=>64-i) 0 (by omega) (zad [(0,2)] rfl ⟨cr,rfl,cr,cr,trivial⟩ ⟨⟨rfl,rfl,rfl,rfl,zn _⟩,trivial⟩) ?_
 case' b=>
  simp only[zb]at h
  have hx:k=keyB k:=by unfold keyB;rw[if_neg (by omega)]
  refine⟨rfl,by decide,by decide,by decide,_,_,rfl,zs64,Vpub.own ?_⟩
  refine Vstep.copy (id:=0) (zs:=(zcx (keyB k) w 0).map U8) Tab_ok rfl rfl rfl rfl rfl rfl rfl rfl (by rw[<-hx];exact zoy k w (by omega)) ?_
  refine zy (zub (keyB k) w) (λi=>i<=64) (λi=>64-i) 0 (by omega) (zad [(0,0)] rfl ⟨cr,rfl,cr,cr,trivial⟩ ⟨⟨rfl,rfl,rfl,rfl,zn _⟩,trivial⟩) ?_
 all_goals
  intro i hi
  refine zh (λh=>zp ?_) (λh=>zq ?_)
  ·simp only[zb]at h
   have hi':i<64:=by omega
   refine Vadr.mk' i rfl hi' ?_
   refine zg (f:=U8 ((keyB k).getD i 0)) (by rw[Nat.mul_one,List.getElem?_map,List.getElem?_eq_getElem (by rw[zih];exact hi'),z07 _ _ hi'];rfl) ?_
   refine Vbits.xor8 _ _ rfl rfl ?_
   refine Vadr.mk' i rfl hi' ?_
   refine⟨by simp[zih];omega,(zcx (keyB k) w (i+1)).map U8,?_,?_⟩
   ·rw[<-z08 _ _ hi',Nat.mul_one]
    exact zcs (by rw[zih];exact hi')
   refine zd (m:=((i+1:Nat):Int)) (by omega) (by omega) ?_
   exact⟨i+1,by omega,by omega,zad [(0,0)] rfl ⟨cr,rfl,cr,cr,trivial⟩ ⟨⟨rfl,rfl,rfl,rfl,zn _⟩,trivial⟩⟩
  ·simp only[zb]at h
   obtain rfl:i=64:=by omega
   refine⟨_,zbd (id:=0) rfl,?_⟩
   exact z06 k w
theorem zvk(key:List UInt8)(parts:List (List UInt8))(hk:key.length<=1000000000)(hp:(parts.flatMap id).length<=10000000000):zab Tryz.prog 23 [bs key,bss parts] (bch (macB key (parts.flatMap id))):=by
 refine zaa (T:=Tab) mixed Tab_ok Tryz.func23 rfl (by kernel_rfl) ?_
 have e1: ∀l:List UInt8,[l].flatMap id=l:=λl=>by simp
 have e2:[zdh key 54,parts.flatMap id].flatMap id=zdh key 54++parts.flatMap id:=by simp
 refine ze (zxi key 54 hk) ?_
 refine ze (zgu parts (by omega)) ?_
 refine zw ?_
 refine ze (zgu [zdh key 54,parts.flatMap id] (by rw[e2,List.length_append,zg4];omega)) ?_
 refine zw ?_
 refine ze (zmr [[zdh key 54,parts.flatMap id].flatMap id] (by rw[e2,e1,List.length_append,zg4];omega)) ?_
 refine ze (zxi key 92 hk) ?_
 refine zw ?_
 refine ze (zmr [zdh key 92,shaB ([[zdh key 54,parts.flatMap id].flatMap id].flatMap id)] (by simp[zg4,zdl])) ?_
 exact zde (by simp[macB])
end
section
def zd3(x:Fe):List UInt64:=[x.a,x.b,x.c,x.d,x.e]
def bitB(o:List UInt8)(v:UInt64)(at_ k:Nat):List UInt8:=o.set ((at_+k)/8) (o.getD ((at_+k)/8) 0|||shl8 (UInt8.ofNat (shrW v k&&&1).toNat) ((at_+k)%8))
def rowB(o:List UInt8)(v:UInt64)(at_:Nat):Nat->List UInt8
 |0=>o
 |k+1=>bitB (rowB o v at_ k) v at_ k
def allF(x:Fe):Nat->List UInt8
 |0=>List.replicate 32 0
 |i+1=>rowB (allF x i) ((zd3 x).getD i 0) (i*51) 51
theorem ziw(o:List UInt8)(v:UInt64)(at_:Nat): ∀k,(rowB o v at_ k).length=o.length
 |0=>rfl
 |k+1=>by rw[rowB,bitB,List.length_set,ziw o v at_ k]
theorem zh4(x:Fe): ∀i,(allF x i).length=32
 |0=>by simp[allF]
 |i+1=>by rw[allF,ziw,zh4 x i]
theorem zog(x:Fe)(i:Nat):allF x (i+1)=rowB (allF x i) ((zd3 x).getD i 0) (i*51) 51:=rfl
theorem zpd(o:List UInt8)(v:UInt64)(at_:Nat):rowB o v at_ 0=o:=rfl
theorem zoh(x:Fe):allF x 0=List.replicate 32 0:=rfl
attribute [irreducible] rowB allF zd3
def Fe.bytes(x:Fe):List UInt8:=allF x.least 5
theorem Fe.bytes_len(x:Fe):x.bytes.length=32:=zh4 _ _
theorem Vquo.i64{a b:Int}{K:Int->Prop}(x y:Nat)(ha:a=(x:Int))(hb:b=(y:Int))(hy:0<y)(hx:x<9223372036854775808)(hK:K ((x/y:Nat):Int)):Vquo .i64 a b K:=by
 subst ha;subst hb
 refine⟨by omega,_,?_,hK⟩
 have h:=Nat.div_le_self x y
 rw[Int.tdiv_eq_ediv_of_nonneg (by omega),<-Int.natCast_ediv]
 generalize x/y=z at*
 exact wrap_i64 (by omega)
theorem zs32:(List.replicate ((32:Int).toNat) ([Value.int .u8 0].map ofC)).flatten=(List.replicate 32 (0:UInt8)).map U8:=by simp[ofC]
theorem zek{l:List UInt8}{j:Nat}(h:j<l.length):(l.map U8)[j]?=some (U8 (l.getD j 0)):=by
 rw[List.getElem?_map,List.getElem?_eq_getElem h,List.getD_eq_getElem?_getD,List.getElem?_eq_getElem h]
 rfl
theorem zug(x:Fe){i:Nat}(hi:i<5):(x.v.drop (i*1)).take 1=[W ((zd3 x).getD i 0)]:=by
 have:i=0\/i=1\/i=2\/i=3\/i=4:=by omega
 unfold zd3
 rcases this with rfl |rfl |rfl |rfl |rfl<;>rfl
def outI(x:Fe)(i:Nat):St:={F:=[(3, .own 0),(12, .r (.ag x.v)),(13, .r (I i))],O:=[(0,some (.ch 5 1 32 ((allF x i).map U8) false))],nx:=1}
def inI(x:Fe)(i k:Nat):St:={F:=[(3, .own 0),(12, .r (.ag x.v)),(13, .r (I i)),(5, .r (W ((zd3 x).getD i 0))),(6, .r (I ((i*51:Nat):Int))),(19, .r (I k))],O:=[(0,some (.ch 5 1 32 ((rowB (allF x i) ((zd3 x).getD i 0) (i*51) k).map U8) false))],nx:=1}
set_option maxHeartbeats 1000000 in
theorem zn4(x:Fe):zab Tryz.prog 249 [.ag x.v] (bch x.bytes):=by
 refine zax (T:=Tab) mixed Tab_ok Tryz.func249 rfl (by kernel_rfl) ?_
 refine za rfl rfl ?_
 refine ze (zht x) ?_
 refine⟨rfl,by decide,by decide,by decide,_,_,rfl,zs32,Vpub.own ?_⟩
 refine za rfl rfl ?_
 refine Vloop.mkx (outI x.least) (λi=>i<=5) (λi=>5-i) 0 (by omega) (zad [(0,1)] rfl ⟨rfl,cr,cr,trivial⟩ ⟨⟨rfl,rfl,rfl,rfl,by rw[zoh];exact zn _⟩,trivial⟩) ?_
 intro i hi
 refine zh (λh=>zp ?_) (λh=>zq ?_)
 ·simp only[zb]at h
  have hi':i<5:=by omega
  refine zm (by omega) (by simp;omega) (zug x.least hi') ?_
  refine zd (m:=((i*51:Nat):Int)) (by omega) (by omega) ?_
  refine Vloop.mkx (inI x.least i) (λk=>k<=51) (λk=>51-k) 0 (by omega) (zad [(0,0)] rfl ⟨rfl,cr,cr,cr,cr,cr,trivial⟩ ⟨⟨rfl,rfl,rfl,rfl,by rw[zpd];exact zn _⟩,trivial⟩) ?_
  intro k hk
  refine zh (λh=>zp ?_) (λh=>zq ?_)
  ·simp only[zb]at h
   have hk':k<51:=by omega
   have hL:(rowB (allF x.least i) ((zd3 x.least).getD i 0) (i*51) k).length=32:=by rw[ziw,zh4]
   refine Vdraw.mk' (by kernel_rfl) ?_
   refine zd (m:=((i*51+k:Nat):Int)) (by omega) (by omega) ?_
   refine Vquo.i64 (i*51+k) 8 rfl rfl (by omega) (by omega) ?_
   refine Vadr.mk' ((i*51+k)/8) rfl (by omega) ?_
   refine zg (f:=U8 ((rowB (allF x.least i) ((zd3 x.least).getD i 0) (i*51) k).getD ((i*51+k)/8) 0)) (by rw[Nat.mul_one];exact zek (by rw[hL];omega)) ?_
   refine Vshr.w _ k rfl rfl ?_
   refine Vbits.wand _ 1 rfl rfl ?_
   refine Vint.u8 _ rfl ?_
   refine zd (m:=((i*51+k:Nat):Int)) (by omega) (by omega) ?_
   refine Vrem.nat (i*51+k) 8 rfl rfl (by omega) ?_
   refine Vshl.b _ ((i*51+k)%8) rfl rfl (by omega) ?_
   refine Vbits.or8 _ _ rfl rfl ?_
   refine Vadr.mk' ((i*51+k)/8) rfl (by omega) ?_
   refine⟨by rw[List.length_map,hL];show(i*51+k)/8*1+1<=32;omega,(rowB (allF x.least i) ((zd3 x.least).getD i 0) (i*51) (k+1)).map U8,?_,?_⟩
   ·rw[rowB,bitB,Nat.mul_one]
    exact zcs (by rw[hL];omega)
   refine zd (m:=((k+1:Nat):Int)) (by omega) (by omega) ?_
   exact⟨k+1,by omega,by omega,zad [(0,0)] rfl ⟨rfl,cr,cr,cr,cr,cr,trivial⟩ ⟨⟨rfl,rfl,rfl,rfl,zn _⟩,trivial⟩⟩
  ·simp only[zb]at h
   obtain rfl:k=51:=by omega
   refine⟨_,zo _,?_⟩
   refine zd (m:=((i+1:Nat):Int)) (by omega) (by omega) ?_
   exact⟨i+1,by omega,by omega,zad [(0,0)] rfl ⟨rfl,cr,cr,trivial⟩ ⟨⟨rfl,rfl,rfl,rfl,by rw[zog];exact zn _⟩,trivial⟩⟩
 ·simp only[zb]at h
  obtain rfl:i=5:=by omega
  refine⟨_,zo _,?_⟩
  refine⟨_,zbd (id:=0) rfl,?_⟩
  exact congrArg (λn=>some (Ow.ch 5 1 n (x.bytes.map U8) true)) x.bytes_len.symm
end
end Go.Proofs.YtebhngeddnnpkaaGreat.Sx
