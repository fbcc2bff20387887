import Derived.Test.YtkegaaonpekkgaaGreatXqSxV
import Derived.Laws.Externs
namespace Go.Proofs.YtkegaaonpekkgaaGreat.Sx
open Go.RowKit
set_option maxHeartbeats 40000000
abbrev W(x:UInt64):RV:= .i .u64 (x.toNat:Int)
def yA(x:UInt64)(n:Nat):UInt64:=UInt64.ofNat (x.toNat/2^n)
def rR(x:UInt64)(n:Nat):UInt64:=UInt64.ofNat (x.toNat*2^n)
def wg(x y c:UInt64):UInt64:=UInt64.ofNat ((x.toNat+y.toNat+c.toNat)/18446744073709551616)
def uk(x y c:UInt64):UInt64:=UInt64.ofNat (if x.toNat<y.toNat+c.toNat then 1 else 0)
theorem SN{x y c:UInt64}(h:c.toNat<=1):(wg x y c).toNat<=1:=by
 have hx:=x.toNat_lt
 have hy:=y.toNat_lt
 unfold wg
 rw[UInt64.toNat_ofNat']
 omega
theorem HC{x y c:UInt64}:(uk x y c).toNat<=1:=by
 unfold uk
 rw[UInt64.toNat_ofNat']
 split<;>omega
theorem Vadr.any{i:Int}{n:Nat}{K:Nat->Prop}(h:0<=i/\i< (n:Int))(hK:K i.toNat):Vadr i n K:=⟨h.1,h.2,hK⟩
abbrev zH:= @Vadr.any
theorem Vrem.any{a b:Int}{K:Int->Prop}(h:b≠0)(hK:K (a.tmod b)):Vrem a b K:=⟨h,_,rfl,hK⟩
theorem fA(n:Nat):IntKind.u64.wrap (n:Int)=((UInt64.ofNat n).toNat:Int):=by
 rw[UInt64.toNat_ofNat']
 simp only[IntKind.wrap]
 simp[IntKind.bits,IntKind.signed]
theorem FG(x y:UInt64):IntKind.u64.wrap ((x.toNat:Int)-(y.toNat:Int))=((x-y).toNat:Int):=by
 rw[UInt64.toNat_sub]
 have hx:=x.toNat_lt
 have hy:=y.toNat_lt
 simp only[IntKind.wrap]
 simp[IntKind.bits,IntKind.signed]
 omega
theorem Vint.w{e:Int}{K:Int->Prop}(n:Nat)(he:e=(n:Int))(hK:K ((UInt64.ofNat n).toNat:Int)):Vint .u64 e K:=⟨_,by rw[he,fA],hK⟩
theorem Vint.wadd{a b:Int}{K:Int->Prop}(x y:UInt64)(ha:a=(x.toNat:Int))(hb:b=(y.toNat:Int))(hK:K ((x+y).toNat:Int)):Vint .u64 (a+b) K:=
 ⟨_,by subst ha;subst hb;rw[<-Int.natCast_add,fA,UInt64.ofNat_add];simp,hK⟩
theorem Vint.wmul{a b:Int}{K:Int->Prop}(x y:UInt64)(ha:a=(x.toNat:Int))(hb:b=(y.toNat:Int))(hK:K ((x*y).toNat:Int)):Vint .u64 (a*b) K:=
 ⟨_,by subst ha;subst hb;rw[<-Int.natCast_mul,fA,UInt64.ofNat_mul];simp,hK⟩
theorem Vint.wsub{a b:Int}{K:Int->Prop}(x y:UInt64)(ha:a=(x.toNat:Int))(hb:b=(y.toNat:Int))(hK:K ((x-y).toNat:Int)):Vint .u64 (a-b) K:=
 ⟨_,by subst ha;subst hb;rw[FG],hK⟩
theorem Yp(x:UInt64):BitVec.ofInt 64 (x.toNat:Int)=x.toBitVec:=by
 rw[BitVec.ofInt_natCast]
 simp
theorem Xj(x:UInt64):IntKind.u64.wrap (x.toNat:Int)=(x.toNat:Int):=by rw[fA];simp
theorem Vbits.wand{a b:Int}{K:Int->Prop}(x y:UInt64)(ha:a=(x.toNat:Int))(hb:b=(y.toNat:Int))(hK:K ((x&&&y).toNat:Int)):Vbits .u64 .and a b K:=by
 subst ha;subst hb
 refine⟨_,?_,hK⟩
 show _=IntKind.u64.wrap (((BitVec.ofInt 64 (x.toNat:Int)&&&BitVec.ofInt 64 (y.toNat:Int)).toNat:Nat):Int)
 rw[Yp,Yp,<-Xj]
 rfl
theorem Vbits.wor{a b:Int}{K:Int->Prop}(x y:UInt64)(ha:a=(x.toNat:Int))(hb:b=(y.toNat:Int))(hK:K ((x|||y).toNat:Int)):Vbits .u64 .or a b K:=by
 subst ha;subst hb
 refine⟨_,?_,hK⟩
 show _=IntKind.u64.wrap (((BitVec.ofInt 64 (x.toNat:Int)|||BitVec.ofInt 64 (y.toNat:Int)).toNat:Nat):Int)
 rw[Yp,Yp,<-Xj]
 rfl
theorem Vbits.wxor{a b:Int}{K:Int->Prop}(x y:UInt64)(ha:a=(x.toNat:Int))(hb:b=(y.toNat:Int))(hK:K ((x^^^y).toNat:Int)):Vbits .u64 .xor a b K:=by
 subst ha;subst hb
 refine⟨_,?_,hK⟩
 show _=IntKind.u64.wrap (((BitVec.ofInt 64 (x.toNat:Int)^^^BitVec.ofInt 64 (y.toNat:Int)).toNat:Nat):Int)
 rw[Yp,Yp,<-Xj]
 rfl
theorem Vshr.w{a b:Int}{K:Int->Prop}(x:UInt64)(n:Nat)(ha:a=(x.toNat:Int))(hb:b=(n:Int))(hK:K ((yA x n).toNat:Int)):Vshr .u64 a b K:=by
 subst ha;subst hb
 refine⟨by omega,_,?_,hK⟩
 have hx:=x.toNat_lt
 have h1:(yA x n).toNat=x.toNat/2^n:=by
  unfold yA
  rw[UInt64.toNat_ofNat']
  exact bS (Nat.lt_of_le_of_lt (Nat.div_le_self _ _) hx)
 rw[h1,cF]
 have h2:x.toNat/2^n=x.toNat/2^(min n IntKind.u64.bits):=by
  rcases Nat.le_total n IntKind.u64.bits with h |h
  ·rw[Nat.min_eq_left h]
  ·rw[Nat.min_eq_right h]
   have hb:IntKind.u64.bits=64:=rfl
   rw[hb]at h⊢
   have h64:(2:Nat)^64<=2^n:=bV (by omega) h
   rw[Nat.div_eq_of_lt (by omega),Nat.div_eq_of_lt (by omega)]
 rw[h2,Int.fdiv_eq_ediv_of_nonneg _ (Int.pow_nonneg (by omega))]
 norm_cast
theorem Vshl.w{a b:Int}{K:Int->Prop}(x:UInt64)(n:Nat)(ha:a=(x.toNat:Int))(hb:b=(n:Int))(hn:n<=64)(hK:K ((rR x n).toNat:Int)):Vshl .u64 a b K:=by
 subst ha;subst hb
 refine⟨by omega,_,?_,hK⟩
 have hb:IntKind.u64.bits=64:=rfl
 rw[cF,hb,Nat.min_eq_left hn]
 unfold rR
 rw[<-fA]
 norm_cast
theorem Extn.add{P:Program}{f:FuncId}(hrun: ∀(us:Array Value) (w:World),(callFunc f us).run P w=((add64Entry us).run P w).andThen λv w=> .ok (.value v) w)(x y c:UInt64)(hc:c.toNat<=1):Extn P f [W x,W y,W c] (.r (.tu [W (x+y+c),W (wg x y c)])):=by
 intro w k vs h
 simp only[RV.partsAt,RV.at_]at h
 obtain⟨_,_,rfl,rfl,_,_,rfl,rfl,_,_,rfl,rfl,rfl⟩:=h
 refine⟨.tuple #[.int .u64 (((x.toNat:Int)+(y.toNat:Int)+(c.toNat:Int))%18446744073709551616),.int .u64 (((x.toNat:Int)+(y.toNat:Int)+(c.toNat:Int))/18446744073709551616)],w,?_,Ext.refl w,k,λ_ _=>rfl,?_⟩
 ·rw[hrun]
  show((add64Entry #[.int .u64 (x.toNat:Int),.int .u64 (y.toNat:Int),.int .u64 (c.toNat:Int)]).run P w).andThen _=_
  rw[run_add64 _ _ _ (by omega) (by omega) (by omega) (by omega)]
  rfl
 ·simp only[Res.at_,RV.at_,RV.partsAt]
  have hx:=x.toNat_lt
  have hy:=y.toNat_lt
  refine⟨_,rfl,_,_,rfl,?_,_,_,rfl,?_,rfl⟩
  ·congr 1
   rw[UInt64.toNat_add,UInt64.toNat_add]
   omega
  ·unfold wg
   rw[UInt64.toNat_ofNat']
   congr 1
   omega
def Ty:Array Value->Sem Value:=λargs=>do
 let(x,y,b)<-Extern.MathBitsCarry.three "Sub64" args
 pure (Extern.MathBitsCarry.pair ((x+Extern.MathBitsCarry.m64-y-b)%Extern.MathBitsCarry.m64) (if x<y+b then 1 else 0))
theorem PW{P:Program}(x y b:Nat)(hb:b<=1)(w:World):
  (Ty #[.int .u64 x,.int .u64 y,.int .u64 b]).run P w=
   .ok (.tuple #[.int .u64 (((x+18446744073709551616-y-b)%18446744073709551616:Nat):Int),.int .u64 ((if x<y+b then 1 else 0:Nat):Int)]) w:=by
 have:b=0\/b=1:=by omega
 rcases this with rfl |rfl<;>rfl
theorem Extn.sub{P:Program}{f:FuncId}(hrun: ∀(us:Array Value) (w:World),(callFunc f us).run P w=((Ty us).run P w).andThen λv w=> .ok (.value v) w)(x y c:UInt64)(hc:c.toNat<=1):Extn P f [W x,W y,W c] (.r (.tu [W (x-y-c),W (uk x y c)])):=by
 intro w k vs h
 simp only[RV.partsAt,RV.at_]at h
 obtain⟨_,_,rfl,rfl,_,_,rfl,rfl,_,_,rfl,rfl,rfl⟩:=h
 refine⟨.tuple #[.int .u64 (((x.toNat+18446744073709551616-y.toNat-c.toNat)%18446744073709551616:Nat):Int),.int .u64 ((if x.toNat<y.toNat+c.toNat then 1 else 0:Nat):Int)],w,(hrun _ _).trans ?_,Ext.refl w,k,λ_ _=>rfl,?_⟩
 ·exact cR (λr:Result Value=>r.andThen λv w=>Result.ok (Next.value v) w) (PW x.toNat y.toNat c.toNat hc w)
 ·simp only[Res.at_,RV.at_,RV.partsAt]
  have hx:=x.toNat_lt
  have hy:=y.toNat_lt
  refine⟨_,rfl,_,_,rfl,?_,_,_,rfl,?_,rfl⟩
  ·congr 1
   rw[UInt64.toNat_sub,UInt64.toNat_sub]
   omega
  ·unfold uk
   rw[UInt64.toNat_ofNat']
   split<;>rfl
structure Fe where
 a:UInt64
 b:UInt64
 c:UInt64
 d:UInt64
 e:UInt64
abbrev Fe.v(x:Fe):List RV:=[W x.a,W x.b,W x.c,W x.d,W x.e]
abbrev wb:UInt64:=2251799813685247
theorem mT(n:UInt64):aG 210 [W n] (.r (.ag (Fe.v ⟨n&&&wb,yA n 51,0,0,0⟩))):=by
 refine aT Tryz.func210 rfl ?_
 refine Vbits.wand n wb rfl rfl ?_
 refine Vshr.w n 51 rfl rfl ?_
 refine cU ?_
 exact cr
def Fe.carry(x:Fe):Fe:=⟨(x.a&&&wb)+yA x.e 51*19,(x.b&&&wb)+yA x.a 51,(x.c&&&wb)+yA x.b 51,(x.d&&&wb)+yA x.c 51,(x.e&&&wb)+yA x.d 51⟩
def Fe.add(x y:Fe):Fe:=Fe.carry ⟨x.a+y.a,x.b+y.b,x.c+y.c,x.d+y.d,x.e+y.e⟩
abbrev tw0:UInt64:=4503599627370458
abbrev tw1:UInt64:=4503599627370494
def Fe.sub(x y:Fe):Fe:=Fe.carry ⟨x.a+(tw0-y.a),x.b+(tw1-y.b),x.c+(tw1-y.c),x.d+(tw1-y.d),x.e+(tw1-y.e)⟩
theorem kA(x:Fe):aG 326 [.ag x.v] (.r (.ag x.carry.v)):=by
 refine aT Tryz.func326 rfl ?_
 repeat' ((conv=>whnf);first|refine zC mixed Tab_ok ?_|refine zt rfl (zp ?_)|refine zu rfl (zq ?_)|refine zm (by decide) (by decide) rfl ?_|refine zH (by decide) ?_|refine Vshr.w _ 51 rfl rfl ?_|refine Vint.any (k:= .i64) ?_|refine Vrem.any (by decide) ?_|refine Vint.wmul _ 19 rfl rfl ?_|refine Vbits.wand _ wb rfl rfl ?_|refine Vint.wadd _ _ rfl rfl ?_|refine Vint.wsub _ _ rfl rfl ?_|refine za rfl rfl ?_|refine zE 6 ?_|refine aV ?_)
 exactλ_ _ _ h=>h
theorem rD(x y:Fe):aG 219 [.ag x.v,.ag y.v] (.r (.ag (x.add y).v)):=by
 refine aT Tryz.func219 rfl ?_
 repeat' ((conv=>whnf);first|refine zC mixed Tab_ok ?_|refine zt rfl (zp ?_)|refine zu rfl (zq ?_)|refine zm (by decide) (by decide) rfl ?_|refine zH (by decide) ?_|refine Vshr.w _ 51 rfl rfl ?_|refine Vint.any (k:= .i64) ?_|refine Vrem.any (by decide) ?_|refine Vint.wmul _ 19 rfl rfl ?_|refine Vbits.wand _ wb rfl rfl ?_|refine Vint.wadd _ _ rfl rfl ?_|refine Vint.wsub _ _ rfl rfl ?_|refine za rfl rfl ?_|refine zE 6 ?_|refine aV ?_)
 refine ze (kA ⟨x.a+y.a,x.b+y.b,x.c+y.c,x.d+y.d,x.e+y.e⟩) ?_
 repeat' ((conv=>whnf);first|refine zC mixed Tab_ok ?_|refine zt rfl (zp ?_)|refine zu rfl (zq ?_)|refine zm (by decide) (by decide) rfl ?_|refine zH (by decide) ?_|refine Vshr.w _ 51 rfl rfl ?_|refine Vint.any (k:= .i64) ?_|refine Vrem.any (by decide) ?_|refine Vint.wmul _ 19 rfl rfl ?_|refine Vbits.wand _ wb rfl rfl ?_|refine Vint.wadd _ _ rfl rfl ?_|refine Vint.wsub _ _ rfl rfl ?_|refine za rfl rfl ?_|refine zE 6 ?_|refine aV ?_)
 exactλ_ _ _ h=>h
theorem pY(x y:Fe):aG 330 [.ag x.v,.ag y.v] (.r (.ag (x.sub y).v)):=by
 refine aT Tryz.func330 rfl ?_
 repeat' ((conv=>whnf);first|refine Vint.wsub tw0 y.a rfl rfl ?_|refine Vint.wsub tw1 _ rfl rfl ?_|refine zC mixed Tab_ok ?_|refine zt rfl (zp ?_)|refine zu rfl (zq ?_)|refine zH (by decide) ?_|refine Vint.any (k:= .i64) ?_|refine Vint.wadd _ _ rfl rfl ?_|refine za rfl rfl ?_|refine zE 6 ?_|refine aV ?_|refine ze (kA ⟨x.a+(tw0-y.a),x.b+(tw1-y.b),x.c+(tw1-y.c),x.d+(tw1-y.d),x.e+(tw1-y.e)⟩) ?_)
 exactλ_ _ _ h=>h
abbrev dL:UInt64:=4294967295
def P5(x y:UInt64):UInt64:=yA x 32*(y&&&dL)+yA ((x&&&dL)*(y&&&dL)) 32
def rN(x y:UInt64):UInt64:=yA x 32*yA y 32+yA (P5 x y) 32+yA ((P5 x y&&&dL)+(x&&&dL)*yA y 32) 32
theorem YJ(x y:UInt64):aG 339 [W x,W y] (.r (.tu [W (rN x y),W (x*y)])):=by
 refine aT Tryz.func339 rfl ?_
 repeat' ((conv=>whnf);first|refine Vbits.wand _ dL rfl rfl ?_|refine Vshr.w _ 32 rfl rfl ?_|refine Vint.wadd _ _ rfl rfl ?_|refine Vint.wmul _ _ rfl rfl ?_)
 exact⟨_,rfl,cr⟩
theorem qg(x y c:UInt64)(hc:c.toNat<=1):Extn aP 325 [W x,W y,W c] (.r (.tu [W (x+y+c),W (wg x y c)])):=
 Extn.add (λus w=>run_callFunc_extern Tryz.func325 (by kernel_rfl) (by kernel_rfl) (by kernel_rfl) (e:=add64Entry) (by kernel_rfl) us w) x y c hc
def PK(h l a b:UInt64):UInt64:=h+rN a b+wg l (a*b) 0
def PL(l a b:UInt64):UInt64:=l+a*b+0
theorem NA(h l a b:UInt64):aG 324 [.ag [W h,W l],W a,W b] (.r (.ag [W (PK h l a b),W (PL l a b)])):=by
 refine aT Tryz.func324 rfl ?_
 refine ze (YJ a b) ?_
 refine Vcall.ext (qg l (a*b) 0 (by decide)) ?_
 refine Vcall.ext (qg h (rN a b) (wg l (a*b) 0) (SN (by decide))) ?_
 repeat' ((conv=>whnf);first|refine za rfl rfl ?_)
 exactλ_ _ _ h=>h
structure Two where
 h:UInt64
 l:UInt64
def Two.plus(t:Two)(a b:UInt64):Two:=⟨PK t.h t.l a b,PL t.l a b⟩
def me(a b:Fe):Two×Two×Two×Two×Two:=
 let z:Two:=⟨0,0⟩
 (((((z.plus a.a b.a).plus a.b (b.e*19)).plus a.c (b.d*19)).plus a.d (b.c*19)).plus a.e (b.b*19),
 ((((z.plus a.a b.b).plus a.b b.a).plus a.c (b.e*19)).plus a.d (b.d*19)).plus a.e (b.c*19),
 ((((z.plus a.a b.c).plus a.b b.b).plus a.c b.a).plus a.d (b.e*19)).plus a.e (b.d*19),
 ((((z.plus a.a b.d).plus a.b b.c).plus a.c b.b).plus a.d b.a).plus a.e (b.e*19),
 ((((z.plus a.a b.e).plus a.b b.d).plus a.c b.c).plus a.d b.b).plus a.e b.a)
def eH(t:Two)(f:UInt64):UInt64:=t.l+f+0
def oJ(t:Two)(f:UInt64):UInt64:=rR (t.h+wg t.l f 0) 13|||yA (eH t f) 51
def Fe.mul(a b:Fe):Fe:=
 let s:=me a b
 let f0:=oJ s.1 0
 let f1:=oJ s.2.1 f0
 let f2:=oJ s.2.2.1 f1
 let f3:=oJ s.2.2.2.1 f2
 let f4:=oJ s.2.2.2.2 f3
 Fe.carry ⟨(eH s.1 0&&&wb)+f4*19,eH s.2.1 f0&&&wb,eH s.2.2.1 f1&&&wb,eH s.2.2.2.1 f2&&&wb,eH s.2.2.2.2 f3&&&wb⟩
set_option maxRecDepth 10000 in
theorem xI(x y:Fe):aG 212 [.ag x.v,.ag y.v] (.r (.ag (x.mul y).v)):=by
 refine aT Tryz.func212 rfl ?_
 repeat' ((conv=>whnf);first|refine zC mixed Tab_ok ?_|refine zt rfl (zp ?_)|refine zu rfl (zq ?_)|refine zm (by decide) (by decide) rfl ?_|refine zH (by decide) ?_|refine Vint.any (k:= .i64) ?_|refine Vrem.any (by decide) ?_|refine Vint.wmul _ 19 rfl rfl ?_|refine za rfl rfl ?_|refine ze (NA _ _ _ _) ?_|refine ze (NA 0 0 _ _) ?_|refine Vcall.ext (qg _ 0 0 (by decide)) ?_|refine Vcall.ext (qg _ _ 0 (by decide)) ?_|refine Vshl.w _ 13 rfl rfl (by decide) ?_|refine Vshr.w _ 51 rfl rfl ?_|refine Vbits.wand _ wb rfl rfl ?_|refine Vbits.wor _ _ rfl rfl ?_|refine Vint.wadd _ _ rfl rfl ?_|refine ze (kA ⟨_,_,_,_,_⟩) ?_|refine zE 6 ?_)
 exactλ_ _ _ h=>h
theorem uJ(x:Fe):aG 329 [.ag x.v] (.r (.ag (x.mul x).v)):=by
 refine aT Tryz.func329 rfl ?_
 repeat' ((conv=>whnf);first|refine za rfl rfl ?_|refine ze (xI ⟨_,_,_,_,_⟩ ⟨_,_,_,_,_⟩) ?_)
 exactλ_ _ _ h=>h
def Fe.least(y:Fe):Fe:=
 let x:=y.carry.carry
 let q:=yA (x.e+yA (x.d+yA (x.c+yA (x.b+yA (x.a+19) 51) 51) 51) 51) 51
 let a:=x.a+19*q
 let b:=x.b+yA a 51
 let c:=x.c+yA b 51
 let d:=x.d+yA c 51
 let e:=x.e+yA d 51
 ⟨a&&&wb,b&&&wb,c&&&wb,d&&&wb,e&&&wb⟩
theorem kB(x:Fe):aG 323 [.ag x.v] (.r (.ag x.least.v)):=by
 refine aT Tryz.func323 rfl ?_
 repeat' ((conv=>whnf);first|refine zC mixed Tab_ok ?_|refine zt rfl (zp ?_)|refine zu rfl (zq ?_)|refine zH (by decide) ?_|refine Vint.any (k:= .i64) ?_|refine za rfl rfl ?_|refine ze (kA x) ?_|refine ze (kA x.carry) ?_|refine Vshr.w _ 51 rfl rfl ?_|refine Vbits.wand _ wb rfl rfl ?_|refine Vint.wadd _ 19 rfl rfl ?_|refine Vint.wadd _ _ rfl rfl ?_|refine Vint.wmul 19 _ rfl rfl ?_|refine aV ?_|refine zE 6 ?_)
 exactλ_ _ _ h=>h
theorem WO(x:Fe):aG 332 [.ag x.v] (.r (.ag (Fe.sub ⟨0,0,0,0,0⟩ x).v)):=by
 refine aT Tryz.func332 rfl ?_
 repeat' ((conv=>whnf);first|refine za rfl rfl ?_|refine ze (pY ⟨0,0,0,0,0⟩ ⟨_,_,_,_,_⟩) ?_)
 exactλ_ _ _ h=>h
abbrev pv(x z:Fe):List RV:=[W x.a,W x.b,W x.c,W x.d,W x.e,W z.a,W z.b,W z.c,W z.d,W z.e]
def ux(px pz qx qz u:Fe):(Fe×Fe)×(Fe×Fe):=
 let a:=px.add pz
 let b:=px.sub pz
 let c:=qx.add qz
 let d:=qx.sub qz
 let da:=d.mul a
 let cb:=c.mul b
 let aa:=a.mul a
 let bb:=b.mul b
 let e:=aa.sub bb
 let k:Fe:=⟨121665&&&wb,yA 121665 51,0,0,0⟩
 let s:=da.add cb
 let t:=da.sub cb
 ((aa.mul bb,e.mul (aa.add (e.mul k))),(s.mul s,u.mul (t.mul t)))
set_option maxRecDepth 100000 in
theorem Z6(px pz qx qz u:Fe):aG 423 [.ag (pv px pz),.ag (pv qx qz),.ag u.v] (.r (.tu [.ag (pv (ux px pz qx qz u).1.1 (ux px pz qx qz u).1.2),.ag (pv (ux px pz qx qz u).2.1 (ux px pz qx qz u).2.2)])):=by
 refine aT Tryz.func423 rfl ?_
 repeat' ((conv=>whnf);first|refine za rfl rfl ?_|refine aV ?_)
 refine ze (rD px pz) ?_
 repeat' ((conv=>whnf);first|refine za rfl rfl ?_|refine aV ?_)
 refine ze (pY px pz) ?_
 repeat' ((conv=>whnf);first|refine za rfl rfl ?_|refine aV ?_)
 refine ze (rD qx qz) ?_
 repeat' ((conv=>whnf);first|refine za rfl rfl ?_|refine aV ?_)
 refine ze (pY qx qz) ?_
 repeat' ((conv=>whnf);first|refine za rfl rfl ?_|refine aV ?_)
 refine ze (xI (qx.sub qz) (px.add pz)) ?_
 repeat' ((conv=>whnf);first|refine za rfl rfl ?_|refine aV ?_)
 refine ze (xI (qx.add qz) (px.sub pz)) ?_
 repeat' ((conv=>whnf);first|refine za rfl rfl ?_|refine aV ?_)
 refine ze (uJ (px.add pz)) ?_
 repeat' ((conv=>whnf);first|refine za rfl rfl ?_|refine aV ?_)
 refine ze (uJ (px.sub pz)) ?_
 repeat' ((conv=>whnf);first|refine za rfl rfl ?_|refine aV ?_)
 refine ze (pY ((px.add pz).mul (px.add pz)) ((px.sub pz).mul (px.sub pz))) ?_
 repeat' ((conv=>whnf);first|refine za rfl rfl ?_|refine aV ?_)
 refine ze (xI ((px.add pz).mul (px.add pz)) ((px.sub pz).mul (px.sub pz))) ?_
 repeat' ((conv=>whnf);first|refine za rfl rfl ?_|refine aV ?_)
 refine ze (mT 121665) ?_
 repeat' ((conv=>whnf);first|refine za rfl rfl ?_|refine aV ?_)
 refine ze (xI (Fe.sub ((px.add pz).mul (px.add pz)) ((px.sub pz).mul (px.sub pz))) ⟨121665&&&wb,yA 121665 51,0,0,0⟩) ?_
 repeat' ((conv=>whnf);first|refine za rfl rfl ?_|refine aV ?_)
 refine ze (rD ((px.add pz).mul (px.add pz)) (Fe.mul (Fe.sub ((px.add pz).mul (px.add pz)) ((px.sub pz).mul (px.sub pz))) ⟨121665&&&wb,yA 121665 51,0,0,0⟩)) ?_
 repeat' ((conv=>whnf);first|refine za rfl rfl ?_|refine aV ?_)
 refine ze (xI (Fe.sub ((px.add pz).mul (px.add pz)) ((px.sub pz).mul (px.sub pz))) (Fe.add ((px.add pz).mul (px.add pz)) (Fe.mul (Fe.sub ((px.add pz).mul (px.add pz)) ((px.sub pz).mul (px.sub pz))) ⟨121665&&&wb,yA 121665 51,0,0,0⟩))) ?_
 repeat' ((conv=>whnf);first|refine za rfl rfl ?_|refine aV ?_)
 refine ze (rD ((qx.sub qz).mul (px.add pz)) ((qx.add qz).mul (px.sub pz))) ?_
 repeat' ((conv=>whnf);first|refine za rfl rfl ?_|refine aV ?_)
 refine ze (uJ (Fe.add ((qx.sub qz).mul (px.add pz)) ((qx.add qz).mul (px.sub pz)))) ?_
 repeat' ((conv=>whnf);first|refine za rfl rfl ?_|refine aV ?_)
 refine ze (pY ((qx.sub qz).mul (px.add pz)) ((qx.add qz).mul (px.sub pz))) ?_
 repeat' ((conv=>whnf);first|refine za rfl rfl ?_|refine aV ?_)
 refine ze (uJ (Fe.sub ((qx.sub qz).mul (px.add pz)) ((qx.add qz).mul (px.sub pz)))) ?_
 repeat' ((conv=>whnf);first|refine za rfl rfl ?_|refine aV ?_)
 refine ze (xI u (Fe.mul (Fe.sub ((qx.sub qz).mul (px.add pz)) ((qx.add qz).mul (px.sub pz))) (Fe.sub ((qx.sub qz).mul (px.add pz)) ((qx.add qz).mul (px.sub pz))))) ?_
 repeat' ((conv=>whnf);first|refine za rfl rfl ?_|refine aV ?_)
 exact⟨_,rfl,cr⟩
theorem SM(z:UInt8):BitVec.ofInt 8 (z.toNat:Int)=z.toBitVec:=by
 rw[BitVec.ofInt_natCast]
 simp
theorem Hx(n:Nat):IntKind.u8.wrap (n:Int)=((UInt8.ofNat n).toNat:Int):=by
 rw[UInt8.toNat_ofNat']
 simp only[IntKind.wrap]
 simp[IntKind.bits,IntKind.signed]
theorem TJ(x:UInt8):IntKind.u8.wrap (x.toNat:Int)=(x.toNat:Int):=by rw[Hx];simp
theorem Vbits.or8{a b:Int}{K:Int->Prop}(x y:UInt8)(ha:a=(x.toNat:Int))(hb:b=(y.toNat:Int))(hK:K ((x|||y).toNat:Int)):Vbits .u8 .or a b K:=by
 subst ha;subst hb
 refine⟨_,?_,hK⟩
 show _=IntKind.u8.wrap (((BitVec.ofInt 8 (x.toNat:Int)|||BitVec.ofInt 8 (y.toNat:Int)).toNat:Nat):Int)
 rw[SM,SM,<-TJ]
 rfl
theorem Vbits.and8{a b:Int}{K:Int->Prop}(x y:UInt8)(ha:a=(x.toNat:Int))(hb:b=(y.toNat:Int))(hK:K ((x&&&y).toNat:Int)):Vbits .u8 .and a b K:=by
 subst ha;subst hb
 refine⟨_,?_,hK⟩
 show _=IntKind.u8.wrap (((BitVec.ofInt 8 (x.toNat:Int)&&&BitVec.ofInt 8 (y.toNat:Int)).toNat:Nat):Int)
 rw[SM,SM,<-TJ]
 rfl
theorem Vbits.andn8{a b:Int}{K:Int->Prop}(x y:UInt8)(ha:a=(x.toNat:Int))(hb:b=(y.toNat:Int))(hK:K ((x&&& ~~~y).toNat:Int)):Vbits .u8 .andNot a b K:=by
 subst ha;subst hb
 refine⟨_,?_,hK⟩
 show _=IntKind.u8.wrap (((BitVec.ofInt 8 (x.toNat:Int)&&& ~~~(BitVec.ofInt 8 (y.toNat:Int))).toNat:Nat):Int)
 rw[SM,SM,<-TJ]
 rfl
def Tu(x:UInt8)(n:Nat):UInt8:=UInt8.ofNat (x.toNat*2^n)
theorem Vshl.b{a b:Int}{K:Int->Prop}(x:UInt8)(n:Nat)(ha:a=(x.toNat:Int))(hb:b=(n:Int))(hn:n<=8)(hK:K ((Tu x n).toNat:Int)):Vshl .u8 a b K:=by
 subst ha;subst hb
 refine⟨by omega,_,?_,hK⟩
 have hb:IntKind.u8.bits=8:=rfl
 rw[cF,hb,Nat.min_eq_left hn]
 unfold Tu
 rw[<-Hx]
 norm_cast
section
variable {P:Program} {T:TT} {B:Bs} {N:Nat} {S:St} {a:Act} {w:World} {k:Kp} {g:Env} {o:Oper} {Q:Exit->Act->World->Prop}
def um{α:Type}(P:Program)(arg:α->RV)(D:α->Prop)(q:α->Bool):Stable where
 at_ w k v:=∃f rvs cap,v= .func (.func f) #[] cap/\RV.partsAt w k rvs cap.toList/\∀x,D x->zW P f (arg x::rvs) (.r (.b (q x)))
 mono:=λh ⟨f,rvs,cap,e,hp,hg⟩=>⟨f,rvs,cap,e,RV.parts_mono h rvs _ hp,hg⟩
 one:=by rintro w k v ⟨f,rvs,cap,rfl,_⟩;rfl
theorem Vstep.sub{S':St}{K:St->Prop}(hs:Sub S S')(h:Vstep P S' o K):Vstep P S o K:=by
 obtain⟨ι,S2,hy,hK⟩:=h
 refine⟨ι,S2,λB N a w k Q hs0 hd=>?_,hK⟩
 obtain⟨k',hs'⟩:=hs B N a w k hs0
 exact hy B N a w k' Q hs' hd
abbrev zJ:= @Vstep.sub
theorem Vstep.clo{α:Type}{arg:α->RV}{D:α->Prop}{q:α->Bool}{t:Nat}{x:Operand}{ts:Array TypeId}{f:TF}{v:RV}{K:St->Prop}(y:α)
  (hop:o.op= .call {callee:= .value (.tmp t),args:= #[x],argTypes:=ts}) (hf:yl S.F t=some (.r (.s (um P arg D q)))) (hx:yv S x=some f) (hv:S.rv f=some v) (hc:Cv v (arg y)) (hD:D y)
  (hK:yI S o.dst (.r (.b (q y))) none K):Vstep P S o K:=by
 rw[yJ]at hK
 refine zI (λB N a w k Q ⟨g,hs⟩ hd=>?_) hK
 have hfv:=(hs.facts t _ hf).2
 simp only[TF.at_,RV.at_]at hfv
 obtain⟨fn,rvs,cap,e,hp,hg⟩:=hfv
 have hxv:=tC hs hv (yi hs hx).2
 have hus:RV.partsAt w k (v::rvs) (a.eval x::cap.toList):=by simp only[RV.partsAt];exact⟨_,_,rfl,hxv,hp⟩
 have:=nk (o:=o) (Q:=Q) (K:=λf ow=>f= .r (.b (q y))/\ow=none) hs hus (zk hc (zn rvs)) (hg y hD) (by
  have e2:a.eval (.tmp t)= .func (.func fn) #[] cap:=by
   have:a.eval (.tmp t)=a.tmps.getD t undef:=by simp[Act.eval]
   rw[this,e]
  have e3: #[a.eval x]++cap=(a.eval x::cap.toList).toArray:=by apply Array.ext';simp
  simp[execOp,hop,resolve,e2,Deferred.ofValue,invoke,e3]) ⟨rfl,rfl⟩
 refine Oper.wp_mono ?_ this
 rintro a' w' ⟨f',ow,u,k',⟨rfl,rfl⟩,rfl,hl⟩
 exact⟨k',hl.sat hs hd⟩
theorem Vstep.cloB{α:Type}{arg:α->RV}{D:α->Prop}{q:α->Bool}{t:Nat}{x:Operand}{ts:Array TypeId}{f:TF}{v:RV}{K:St->Prop}(y:α)
  (hop:o.op= .call {callee:= .value (.tmp t),args:= #[x],argTypes:=ts}) (hf:yl S.F t=some (.r (.s (um P arg D q)))) (hx:yv S x=some f) (hv:S.rv f=some v) (hc:Cv v (arg y)) (hD:D y)
  (h1:q y=true->yI S o.dst (.r (.b true)) none K) (h0:q y=false->yI S o.dst (.r (.b false)) none K):Vstep P S o K:=by
 refine Vstep.clo y hop hf hx hv hc hD ?_
 cases hq:q y
 ·exact h0 hq
 ·exact h1 hq
theorem SatE.pub(hs:SatE B N S a w k g){id:Nat}{vs:List RV}(ho:ye S.O id=some (.box (vs.map .r))):
  ∃b k',g id=(.pointer (some ⟨b,0,none⟩),some b)/\Le w k w k'/\b<w.heap.size/\RV.cellsAt w k' b 0 vs/\SatE B N (S.set id none) a w k' g:=by
 obtain⟨_,_,hat,_⟩:=hs.owns id _ ho
 simp only[Ow.at_]at hat
 obtain⟨b,cur,ty,e,hh,hk,hsz,hc⟩:=hat
 have hw:Wrote w k w (x6 k b vs.length) (some b):=⟨rfl,rfl,rfl,bQ _,λx _ hne=>⟨rfl,by simp[x6,show x≠b fromλh=>hne (by rw[h])]⟩,λx hx=>by
  cases hx
  exact⟨by omega,λ_ _=>rfl,λh=>by omega⟩⟩
 refine⟨b,x6 k b vs.length,e,hw.le,(Array.getElem?_eq_some_iff.1 hh).1,?_,hs.wrote hw (id:=some id) ⟨⟨_,ho⟩,by rw[e]⟩⟩
 rw[RV.cellsAt_iff]
 intro j f hf
 have hj:=(List.getElem?_eq_some_iff.1 hf).1
 rw[bC]at hsz
 have hcj:cur[j]?=some cur[j]:=Array.getElem?_eq_getElem (by omega)
 have h1:=hc j (.r f) cur[j] (by simp[hf]) hcj
 refine⟨by rw[wo];omega,cur[j],?_,h1.1,RV.mono hw.le f _ h1.2⟩
 rw[Nat.zero_add,cell_of_row w b j cur ty (0,0) hh]
 exact hcj
theorem xO{id t:Nat}(vs:List RV)(hf:yl S.F t=some (.own id))(ho:ye S.O id=some (.box (vs.map .r))):Sub S ⟨(t,.r (.ptr vs))::S.F,(id,none)::S.O,S.nx⟩:=by
 rintro B N a w k ⟨g,hs⟩
 obtain⟨b,k',hg,hle,hb,hc,h⟩:=hs.pub ho
 have hv:=(hs.facts t _ hf).2
 simp only[TF.at_]at hv
 refine⟨k',g,h.size,h.defers,h.keep,h.kk,λt' f hf'=>?_,h.owns,h.apart⟩
 rcases yO hf' with⟨rfl,rfl⟩ |⟨_,hf'⟩
 ·refine⟨trivial,?_⟩
  simp only[TF.at_,RV.at_]
  exact⟨b,0,by rw[hv,hg],hb,hc⟩
 ·exact h.facts t' f hf'
theorem ij(hs:SatE B N S a w k g): ∀{xs:List Operand} {vs:List RV},tU S xs=some vs->RV.partsAt w k vs (xs.map a.eval)
 |[],vs,h=>by simp only[tU]at h;cases h;rfl
 |x::xs,vs,h=>by
  simp only[tU]at h
  split at h
  ·rename_i f hf
   split at h
   ·rename_i v vs' hv hvs
    cases h
    simp only[cJ,RV.partsAt]
    exact⟨_,_,rfl,tC hs hv (yi hs hf).2,ij hs hvs⟩
   ·cases h
  ·cases h
theorem Vstep.mkfun{α:Type}(arg:α->RV)(D:α->Prop)(q:α->Bool){f:FuncId}{cap:Array Operand}{rvs:List RV}{K:St->Prop}(hop:o.op= .makeFunc (.func f) #[] cap) (hc:tU S cap.toList=some rvs)
  (hg: ∀x,D x->zW P f (arg x::rvs) (.r (.b (q x)))) (hK:yI S o.dst (.r (.s (um P arg D q))) none K):Vstep P S o K:=by
 rw[yJ]at hK
 refine zI (λB N a w k Q ⟨g,hs⟩ hd=>?_) hK
 have hp:=ij hs hc
 refine yG (v:= .func (.func f) #[] (cap.map a.eval)) (w':=w) (by simp[execOp,hop,Instr.makeFunc]) ⟨k,g,hs.put hd trivial ?_⟩
 simp only[TF.at_,RV.at_]
 exact⟨f,rvs,_,rfl,by simpa using hp,hg⟩
def entsAt(w:World)(k:Kp)(ents:List (Int×RV))(es:List MapEntry):Prop:=es.length=ents.length/\∀(j:Nat) (x:Int×RV) (e:MapEntry),ents[j]?=some x->es[j]?=some e->e.key= .int .i64 x.1/\x.2.at_ w k e.val
theorem entsAt.mono{w':World}{k':Kp}(h:Le w k w' k'){ents:List (Int×RV)}{es:List MapEntry}(he:entsAt w k ents es):entsAt w' k' ents es:=
 ⟨he.1,λj x e h1 h2=>⟨(he.2 j x e h1 h2).1,RV.mono h _ _ (he.2 j x e h1 h2).2⟩⟩
def stampE(es:Array MapEntry)(c:Nat):Prop:=(∀x∈es.toList,x.born<c)/\(es.toList.map (·.born)).Nodup/\(es.toList.map (·.key)).Nodup
theorem stampE.nil:stampE #[] 0:=⟨λx h=>by simp at h,by simp,by simp⟩
theorem stampE.push{es:Array MapEntry}{c:Nat}{key val:Value}(h:stampE es c)(hk: ∀x∈es.toList,x.key≠key):stampE (es.push {key:=key,val:=val,born:=c}) (c+1):=by
 refine⟨λx hx=>?_,?_,?_⟩
 ·rw[Array.toList_push]at hx
  rcases List.mem_append.1 hx with hx |hx
  ·have:=h.1 x hx;omega
  ·rw[List.mem_singleton.1 hx];exact Nat.lt_succ_self _
 ·rw[Array.toList_push,bM,List.nodup_append]
  refine⟨h.2.1,by simp,λx hx y hy e=>?_⟩
  obtain⟨z,hz,rfl⟩:=List.mem_map.1 hx
  have:=h.1 z hz
  simp at hy
  omega
 ·rw[Array.toList_push,bM,List.nodup_append]
  refine⟨h.2.2,by simp,λx hx y hy e=>?_⟩
  obtain⟨z,hz,rfl⟩:=List.mem_map.1 hx
  simp at hy
  exact hk z hz (e.trans hy)
def wD(ents:List (Int×RV)):Stable where
 at_ w k v:=(v= .map none/\ents=[])\/∃b es c,v= .map (some b)/\b<w.heap.size/\0<k b/\w.heap[b]?=some (.map es c)/\entsAt w k ents es.toList/\stampE es c
 mono:=by
  rintro w k w' k' v h (h1 |⟨b,es,c,e,hb,hk,hh,he,hst⟩)
  ·exact .inl h1
  ·exact .inr ⟨b,es,c,e,bN hb h.size,bN hk (h.keep b hb),h.map b hb hk es c hh,he.mono h,hst⟩
 one:=by
  rintro w k v (⟨rfl,_⟩ |⟨b,es,c,rfl,_⟩)<;>rfl
def qT(ents:List (Int×RV)):GOw where
 at_ w k vb:=∃b es c,vb=(.map (some b),some b)/\w.heap[b]?=some (.map es c)/\k b=0/\entsAt w k ents es.toList/\stampE es c
 mono:=by
  rintro w k w' k' vb h hb ⟨b,es,c,rfl,hh,hk,he,hst⟩
  have:=hb b rfl
  exact⟨b,es,c,rfl,this.1.trans hh,this.2.trans hk,he.mono h,hst⟩
 one:=by rintro w k vb ⟨b,es,c,rfl,_⟩;rfl
def wV:List (Int×RV)->Int->Option RV
 |[],_=>none
 |(m,r)::l,n=>if m=n then some r else wV l n
theorem SR: ∀{ents:List (Int×RV)} {es:List MapEntry} {n:Int},entsAt w k ents es->wV ents n=none->∀x∈es,x.key≠ .int .i64 n
 |[],[],n,_,_,x,hx=>by cases hx
 |[],e::es,n,h,_,x,hx=>by have:=h.1;simp at this
 |x::ents,[],n,h,_,y,hy=>by cases hy
 |(m,r)::ents,e::es,n,h,hm,x,hx=>by
  obtain⟨h1,h2⟩:=h.2 0 (m,r) e (by simp) (by simp)
  simp only[wV]at hm
  split at hm
  ·cases hm
  ·rename_i hne
   rcases List.mem_cons.1 hx with rfl |hx
   ·rw[h1]
    intro e'
    simp at e'
    exact hne e'
   ·exact SR ⟨by have:=h.1;simpa using this,λj x e h1 h2=>h.2 (j+1) x e (by simpa using h1) (by simpa using h2)⟩ hm x hx
theorem gc{kd:IntKind}{n:Int}: ∀{ents:List (Int×RV)} {es:List MapEntry} (i:Nat),entsAt w k ents es->
  ∃res,Instr.findNow (.int kd) (.int .i64 n) es i=some res/\match wV ents n with
   |some r=>∃j v,res=some (j,v)/\r.at_ w k v
   |none=>res=none
 |[],[],i,_=>⟨none,rfl,rfl⟩
 |[],e::es,i,h=>by have:=h.1;simp at this
 |x::ents,[],i,h=>by have:=h.1;simp at this
 |(m,r)::ents,e::es,i,h=>by
  obtain⟨h1,h2⟩:=h.2 0 (m,r) e (by simp) (by simp)
  simp only[Instr.findNow,h1,Instr.sameNow,if_true,wV]
  by_cases hm:m=n
  ·rw[cO hm]
   subst hm
   exact⟨some (i,e.val),by simp,i,e.val,rfl,h2⟩
  ·rw[cQ hm]
   have:(n==m)=false:=by simp;omega
   rw[this]
   simp only
   exact gc (i+1) ⟨by have:=h.1;simpa using this,λj x e h1 h2=>h.2 (j+1) x e (by simpa using h1) (by simpa using h2)⟩
theorem lU{kt:TypeId}{n:Int}{ents:List (Int×RV)}{es:List MapEntry}(hk:P.underlying kt=some (.int .i64))(he:entsAt w k ents es):
  ∃res,(Instr.findKey kt (.int .i64 n) es).run P w= .ok res w/\match wV ents n with
   |some r=>∃j v,res=some (j,v)/\r.at_ w k v
   |none=>res=none:=by
 obtain⟨res,h1,h2⟩:=gc (kd:= .i64) (n:=n) 0 he
 exact⟨res,by simp[Instr.findKey,run_underlying hk w,h1],h2⟩
theorem WH{kt:TypeId}{n:Int}{b:Bool}{m:Nat}(hk:P.underlying kt=some (.int .i64)):(Instr.checkKey b (m+1) kt (.int .i64 n)).run P w= .ok () w:=by
 simp[Instr.checkKey,run_underlying hk w]
theorem pg{kt:TypeId}{n:Int}{b:Bool}(hk:P.underlying kt=some (.int .i64)):(Instr.checkKey b 10000 kt (.int .i64 n)).run P w= .ok () w:=WH (m:=9999) hk
theorem nE{t kt et:TypeId}{v:Value}{n:Int}{ok:Bool}{ents:List (Int×RV)}{z:Value}{zr:RV}(hu:P.underlying t=some (.map kt et))(hk:P.underlying kt=some (.int .i64))(hz:(P.info? et).bind (·.zero)=some z)(hzr:zr.at_ w k z)
  (hv:(wD ents).at_ w k v): ∃u b,(Instr.lookup t v (.int .i64 n) ok).run P w= .ok (if ok then .tuple #[u,.bool b]else u) w/\match wV ents n with
   |some r=>r.at_ w k u/\b=true
   |none=>zr.at_ w k u/\b=false:=by
 obtain⟨i,hi,hz⟩:=Option.bind_eq_some_iff.1 hz
 have zv:(zeroValue et).run P w= .ok z w:=by simp[zeroValue,typeInfo,hi,hz]
 rcases hv with⟨rfl,rfl⟩ |⟨b,es,c,rfl,_,_,hh,he,_⟩
 ·refine⟨z,false,?_,hzr,rfl⟩
  obtain⟨res,h1,h2⟩:=lU (n:=n) (k:=k) hk (show entsAt w k [] []from⟨rfl,λj x e h=>by simp at h⟩)
  simp only[wV]at h2
  subst h2
  simp[Instr.lookup,run_underlying hu w,pg hk,h1,zv]
 ·obtain⟨res,h1,h2⟩:=lU (n:=n) hk he
  cases hm:wV ents n with
  |none=>
   rw[hm]at h2
   simp only at h2
   subst h2
   exact⟨z,false,by simp[Instr.lookup,run_underlying hu w,pg hk,h1,zv,hh,getObj,Sem.run],hzr,rfl⟩
  |some r=>
   rw[hm]at h2
   obtain⟨j,u,rfl,hr⟩:=h2
   exact⟨u,true,by simp[Instr.lookup,run_underlying hu w,pg hk,h1,hh,getObj,Sem.run],hr,rfl⟩
theorem Vstep.look2{t kt et:TypeId}{x y:Operand}{n:Int}{ents:List (Int×RV)}{z:Value}{K:St->Prop}(zr:RV)(hop:o.op= .lookup t x y true)(hx:yv S x=some (.r (.s (wD ents))))(hy:yv S y=some (.r (.i .i64 n)))
  (hu:P.underlying t=some (.map kt et)) (hk:P.underlying kt=some (.int .i64)) (hz:(P.info? et).bind (·.zero)=some z) (hzr: ∀w k,zr.at_ w k z)
  (h1: ∀r,wV ents n=some r->yI S o.dst (.r (.tu [r,.b true])) none K) (h0:wV ents n=none->yI S o.dst (.r (.tu [zr,.b false])) none K):Vstep P S o K:=by
 simp only[yJ]at h1 h0
 cases hm:wV ents n with
 |some r=>
  refine zI (λB N a w k Q ⟨g,hs⟩ hd=>?_) (h1 r hm)
  have hv:=(yi hs hx).2
  have hn:=(yi hs hy).2
  simp only[TF.at_,RV.at_]at hv hn
  obtain⟨u,b,hr,h2⟩:=nE (n:=n) (ok:=true) hu hk hz (hzr w k) hv
  rw[hm]at h2
  refine yG (v:= .tuple #[u,.bool b]) (w':=w) (by simp[execOp,hop,hn,hr]) ⟨k,g,hs.put hd trivial ?_⟩
  simp only[TF.at_,RV.at_]
  exact⟨_,rfl,by simp only[RV.partsAt];exact⟨_,_,rfl,h2.1,_,_,rfl,by simp[RV.at_,h2.2],rfl⟩⟩
 |none=>
  refine zI (λB N a w k Q ⟨g,hs⟩ hd=>?_) (h0 hm)
  have hv:=(yi hs hx).2
  have hn:=(yi hs hy).2
  simp only[TF.at_,RV.at_]at hv hn
  obtain⟨u,b,hr,h2⟩:=nE (n:=n) (ok:=true) hu hk hz (hzr w k) hv
  rw[hm]at h2
  refine yG (v:= .tuple #[u,.bool b]) (w':=w) (by simp[execOp,hop,hn,hr]) ⟨k,g,hs.put hd trivial ?_⟩
  simp only[TF.at_,RV.at_]
  exact⟨_,rfl,by simp only[RV.partsAt];exact⟨_,_,rfl,h2.1,_,_,rfl,by simp[RV.at_,h2.2],rfl⟩⟩
theorem Vstep.look1{t kt et:TypeId}{x y:Operand}{n:Int}{ents:List (Int×RV)}{z:Value}{K:St->Prop}(zr:RV)(hop:o.op= .lookup t x y false)(hx:yv S x=some (.r (.s (wD ents))))(hy:yv S y=some (.r (.i .i64 n)))
  (hu:P.underlying t=some (.map kt et)) (hk:P.underlying kt=some (.int .i64)) (hz:(P.info? et).bind (·.zero)=some z) (hzr: ∀w k,zr.at_ w k z)
  (h1: ∀r,wV ents n=some r->yI S o.dst (.r r) none K) (h0:wV ents n=none->yI S o.dst (.r zr) none K):Vstep P S o K:=by
 simp only[yJ]at h1 h0
 cases hm:wV ents n with
 |some r=>
  refine zI (λB N a w k Q ⟨g,hs⟩ hd=>?_) (h1 r hm)
  have hv:=(yi hs hx).2
  have hn:=(yi hs hy).2
  simp only[TF.at_,RV.at_]at hv hn
  obtain⟨u,b,hr,h2⟩:=nE (n:=n) (ok:=false) hu hk hz (hzr w k) hv
  rw[hm]at h2
  exact yG (v:=u) (w':=w) (by simp[execOp,hop,hn,hr]) ⟨k,g,hs.put hd trivial h2.1⟩
 |none=>
  refine zI (λB N a w k Q ⟨g,hs⟩ hd=>?_) (h0 hm)
  have hv:=(yi hs hx).2
  have hn:=(yi hs hy).2
  simp only[TF.at_,RV.at_]at hv hn
  obtain⟨u,b,hr,h2⟩:=nE (n:=n) (ok:=false) hu hk hz (hzr w k) hv
  rw[hm]at h2
  exact yG (v:=u) (w':=w) (by simp[execOp,hop,hn,hr]) ⟨k,g,hs.put hd trivial h2.1⟩
end
section
variable {P:Program} {T:TT} {B:Bs} {N:Nat} {S:St} {a:Act} {w:World} {k:Kp} {g:Env} {o:Oper} {Q:Exit->Act->World->Prop}
theorem iV{m n:Nat}(h:m≠n):Nat.beq m n=false:=by
 cases hb:Nat.beq m n
 ·rfl
 ·exact absurd (bI hb) h
end
section
variable {P:Program} {T:TT} {B:Bs} {N:Nat} {S:St} {a:Act} {w:World} {k:Kp} {g:Env} {o:Oper} {Q:Exit->Act->World->Prop}
theorem chAt.blk{e:TypeId}{sz n:Nat}{cells:List RV}{pub:Bool}{u:Value}{ob:Option Nat}(h:chAt w k e sz n cells pub u ob){b:Nat}(hb:ob=some b):k b=(if pub then n*sz else 0)/\(∃cur,w.heap[b]?=some (.cells cur e (0,0))):=by
 rcases h.2 with⟨h,_⟩ |⟨b',cap,cur,h,_,hh,_,_,_,h',_⟩
 ·rw[h]at hb;cases hb
 ·rw[h]at hb;cases hb;exact⟨h',cur,hh⟩
end
section
variable {P:Program} {T:TT} {B:Bs} {N:Nat} {S:St} {a:Act} {w:World} {k:Kp} {g:Env} {o:Oper} {Q:Exit->Act->World->Prop}
theorem SatE.reset(hs:SatE B N S a w k g){id:Nat}{ow:Ow}(ho:ye S.O id=some ow):SatE B N (S.set id (some ow)) a w k g:=by
 have up: ∀i o',ye (S.set id (some ow)).O i=some o'->ye S.O i=some o':=λi o' h=>by
  rcases yD h with⟨rfl,e⟩ |⟨_,h⟩
  ·cases e;exact ho
  ·exact h
 exact⟨hs.size,hs.defers,hs.keep,hs.kk,hs.facts,λi o' h=>hs.owns i o' (up i o' h),λi j o1 o2 b hi hj=>hs.apart i j o1 o2 b (up i o1 hi) (up j o2 hj)⟩
end
end Go.Proofs.YtkegaaonpekkgaaGreat.Sx
