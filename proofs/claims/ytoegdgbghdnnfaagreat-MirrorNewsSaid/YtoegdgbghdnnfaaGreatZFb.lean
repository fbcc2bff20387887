import Derived.Test.YtoegdgbghdnnfaaGreatZSha
import Derived.Test.YtoegdgbghdnnfaaGreatZSxV
import Derived.Test.YtoegdgbghdnnfaaGreatZLa
import Derived.Test.YtoegdgbghdnnfaaGreatZSxNm
import Derived.Test.YtoegdgbghdnnfaaGreatZKc
namespace Go.Proofs.YtoegdgbghdnnfaaGreat.Sx
open Go.RowKit
structure Fe where
 a:UInt64
 b:UInt64
 c:UInt64
 d:UInt64
 e:UInt64
abbrev Fe.v(x:Fe):List RV:=[W x.a,W x.b,W x.c,W x.d,W x.e]
abbrev msk:UInt64:=2251799813685247
theorem zka(n:UInt64):bG 237 [W n] (.r (.ag (Fe.v ⟨n&&&msk,shrW n 51,0,0,0⟩))):=by
 refine bT Tryz.func237 rfl ?_
 refine Vbits.wand n msk rfl rfl ?_
 refine Vshr.w n 51 rfl rfl ?_
 refine za rfl rfl ?_
 exact cr
def Fe.carry(x:Fe):Fe:=⟨(x.a&&&msk)+shrW x.e 51*19,(x.b&&&msk)+shrW x.a 51,(x.c&&&msk)+shrW x.b 51,(x.d&&&msk)+shrW x.c 51,(x.e&&&msk)+shrW x.d 51⟩
def Fe.add(x y:Fe):Fe:=Fe.carry ⟨x.a+y.a,x.b+y.b,x.c+y.c,x.d+y.d,x.e+y.e⟩
abbrev tw0:UInt64:=4503599627370458
abbrev tw1:UInt64:=4503599627370494
def Fe.sub(x y:Fe):Fe:=Fe.carry ⟨x.a+(tw0-y.a),x.b+(tw1-y.b),x.c+(tw1-y.c),x.d+(tw1-y.d),x.e+(tw1-y.e)⟩
set_option maxHeartbeats 4000000 in
theorem zk5(x:Fe):bG 290 [.ag x.v] (.r (.ag x.carry.v)):=by
 refine bT Tryz.func290 rfl ?_
 repeat' ((conv=>whnf);first|refine Vrounds.step mixed Tab_ok ?_|refine zu rfl (zq ?_)|refine zw rfl (zt ?_)|refine zm (by decide) (by decide) rfl ?_|refine Vadr.any (by decide) ?_|refine Vshr.w _ 51 rfl rfl ?_|refine Vint.any (k:= .i64) ?_|refine Vrem.any (by decide) ?_|refine Vint.wmul _ 19 rfl rfl ?_|refine Vbits.wand _ msk rfl rfl ?_|refine Vint.wadd _ _ rfl rfl ?_|refine Vint.wsub _ _ rfl rfl ?_|refine za rfl rfl ?_|refine Vloop.rounds 6 ?_|refine bV ?_)
 exactλ_ _ _ h=>h
set_option maxHeartbeats 4000000 in
theorem zg8(x y:Fe):bG 246 [.ag x.v, .ag y.v] (.r (.ag (x.add y).v)):=by
 refine bT Tryz.func246 rfl ?_
 repeat' ((conv=>whnf);first|refine Vrounds.step mixed Tab_ok ?_|refine zu rfl (zq ?_)|refine zw rfl (zt ?_)|refine zm (by decide) (by decide) rfl ?_|refine Vadr.any (by decide) ?_|refine Vshr.w _ 51 rfl rfl ?_|refine Vint.any (k:= .i64) ?_|refine Vrem.any (by decide) ?_|refine Vint.wmul _ 19 rfl rfl ?_|refine Vbits.wand _ msk rfl rfl ?_|refine Vint.wadd _ _ rfl rfl ?_|refine Vint.wsub _ _ rfl rfl ?_|refine za rfl rfl ?_|refine Vloop.rounds 6 ?_|refine bV ?_)
 refine ze (zk5 ⟨x.a+y.a,x.b+y.b,x.c+y.c,x.d+y.d,x.e+y.e⟩) ?_
 repeat' ((conv=>whnf);first|refine Vrounds.step mixed Tab_ok ?_|refine zu rfl (zq ?_)|refine zw rfl (zt ?_)|refine zm (by decide) (by decide) rfl ?_|refine Vadr.any (by decide) ?_|refine Vshr.w _ 51 rfl rfl ?_|refine Vint.any (k:= .i64) ?_|refine Vrem.any (by decide) ?_|refine Vint.wmul _ 19 rfl rfl ?_|refine Vbits.wand _ msk rfl rfl ?_|refine Vint.wadd _ _ rfl rfl ?_|refine Vint.wsub _ _ rfl rfl ?_|refine za rfl rfl ?_|refine Vloop.rounds 6 ?_|refine bV ?_)
 exactλ_ _ _ h=>h
set_option maxHeartbeats 4000000 in
theorem zh5(x y:Fe):bG 294 [.ag x.v, .ag y.v] (.r (.ag (x.sub y).v)):=by
 refine bT Tryz.func294 rfl ?_
 repeat' ((conv=>whnf);first|refine Vint.wsub tw0 y.a rfl rfl ?_|refine Vint.wsub tw1 _ rfl rfl ?_|refine Vrounds.step mixed Tab_ok ?_|refine zu rfl (zq ?_)|refine zw rfl (zt ?_)|refine Vadr.any (by decide) ?_|refine Vint.any (k:= .i64) ?_|refine Vint.wadd _ _ rfl rfl ?_|refine za rfl rfl ?_|refine Vloop.rounds 6 ?_|refine bV ?_|refine ze (zk5 ⟨x.a+(tw0-y.a),x.b+(tw1-y.b),x.c+(tw1-y.c),x.d+(tw1-y.d),x.e+(tw1-y.e)⟩) ?_)
 exactλ_ _ _ h=>h
abbrev lo32:UInt64:=4294967295
def mulM(x y:UInt64):UInt64:=shrW x 32*(y&&&lo32)+shrW ((x&&&lo32)*(y&&&lo32)) 32
def mulH(x y:UInt64):UInt64:=shrW x 32*shrW y 32+shrW (mulM x y) 32+shrW ((mulM x y&&&lo32)+(x&&&lo32)*shrW y 32) 32
set_option maxHeartbeats 4000000 in
theorem ztw(x y:UInt64):bG 303 [W x,W y] (.r (.tu [W (mulH x y),W (x*y)])):=by
 refine bT Tryz.func303 rfl ?_
 repeat' ((conv=>whnf);first|refine Vbits.wand _ lo32 rfl rfl ?_|refine Vshr.w _ 32 rfl rfl ?_|refine Vint.wadd _ _ rfl rfl ?_|refine Vint.wmul _ _ rfl rfl ?_)
 exact⟨_,rfl,cr⟩
theorem zgw(x y c:UInt64)(hc:c.toNat<=1):Extn bP 289 [W x,W y,W c] (.r (.tu [W (x+y+c),W (carW x y c)])):=
 Extn.add (λus w=>run_callFunc_extern Tryz.func289 (by kernel_rfl) (by kernel_rfl) (by kernel_rfl) (e:=add64Entry) (by kernel_rfl) us w) x y c hc
def zctb(h l a b:UInt64):UInt64:=h+mulH a b+carW l (a*b) 0
def zcub(l a b:UInt64):UInt64:=l+a*b+0
set_option maxHeartbeats 4000000 in
theorem z7a(h l a b:UInt64):bG 288 [.ag [W h,W l],W a,W b] (.r (.ag [W (zctb h l a b),W (zcub l a b)])):=by
 refine bT Tryz.func288 rfl ?_
 refine ze (ztw a b) ?_
 refine Vcall.ext (zgw l (a*b) 0 (by decide)) ?_
 refine Vcall.ext (zgw h (mulH a b) (carW l (a*b) 0) (z02 (by decide))) ?_
 repeat' ((conv=>whnf);first|refine za rfl rfl ?_)
 exactλ_ _ _ h=>h
structure Two where
 h:UInt64
 l:UInt64
def Two.plus(t:Two)(a b:UInt64):Two:=⟨zctb t.h t.l a b,zcub t.l a b⟩
def fsum(a b:Fe):Two×Two×Two×Two×Two:=
 let z:Two:=⟨0,0⟩
 (((((z.plus a.a b.a).plus a.b (b.e*19)).plus a.c (b.d*19)).plus a.d (b.c*19)).plus a.e (b.b*19),
 ((((z.plus a.a b.b).plus a.b b.a).plus a.c (b.e*19)).plus a.d (b.d*19)).plus a.e (b.c*19),
 ((((z.plus a.a b.c).plus a.b b.b).plus a.c b.a).plus a.d (b.e*19)).plus a.e (b.d*19),
 ((((z.plus a.a b.d).plus a.b b.c).plus a.c b.b).plus a.d b.a).plus a.e (b.e*19),
 ((((z.plus a.a b.e).plus a.b b.d).plus a.c b.c).plus a.d b.b).plus a.e b.a)
def flo(t:Two)(f:UInt64):UInt64:=t.l+f+0
def ffr(t:Two)(f:UInt64):UInt64:=shlW (t.h+carW t.l f 0) 13|||shrW (flo t f) 51
def Fe.mul(a b:Fe):Fe:=
 let s:=fsum a b
 let f0:=ffr s.1 0
 let f1:=ffr s.2.1 f0
 let f2:=ffr s.2.2.1 f1
 let f3:=ffr s.2.2.2.1 f2
 let f4:=ffr s.2.2.2.2 f3
 Fe.carry ⟨(flo s.1 0&&&msk)+f4*19,flo s.2.1 f0&&&msk,flo s.2.2.1 f1&&&msk,flo s.2.2.2.1 f2&&&msk,flo s.2.2.2.2 f3&&&msk⟩
set_option maxHeartbeats 40000000 in
set_option maxRecDepth 10000 in
theorem zb9(x y:Fe):bG 239 [.ag x.v, .ag y.v] (.r (.ag (x.mul y).v)):=by
 refine bT Tryz.func239 rfl ?_
 repeat' ((conv=>whnf);first|refine Vrounds.step mixed Tab_ok ?_|refine zu rfl (zq ?_)|refine zw rfl (zt ?_)|refine zm (by decide) (by decide) rfl ?_|refine Vadr.any (by decide) ?_|refine Vint.any (k:= .i64) ?_|refine Vrem.any (by decide) ?_|refine Vint.wmul _ 19 rfl rfl ?_|refine za rfl rfl ?_|refine ze (z7a _ _ _ _) ?_|refine ze (z7a 0 0 _ _) ?_|refine Vcall.ext (zgw _ 0 0 (by decide)) ?_|refine Vcall.ext (zgw _ _ 0 (by decide)) ?_|refine Vshl.w _ 13 rfl rfl (by decide) ?_|refine Vshr.w _ 51 rfl rfl ?_|refine Vbits.wand _ msk rfl rfl ?_|refine Vbits.wor _ _ rfl rfl ?_|refine Vint.wadd _ _ rfl rfl ?_|refine ze (zk5 ⟨_,_,_,_,_⟩) ?_|refine Vloop.rounds 6 ?_)
 exactλ_ _ _ h=>h
theorem zev(x:Fe):bG 293 [.ag x.v] (.r (.ag (x.mul x).v)):=by
 refine bT Tryz.func293 rfl ?_
 repeat' ((conv=>whnf);first|refine za rfl rfl ?_|refine ze (zb9 ⟨_,_,_,_,_⟩ ⟨_,_,_,_,_⟩) ?_)
 exactλ_ _ _ h=>h
def Fe.least(y:Fe):Fe:=
 let x:=y.carry.carry
 let q:=shrW (x.e+shrW (x.d+shrW (x.c+shrW (x.b+shrW (x.a+19) 51) 51) 51) 51) 51
 let a:=x.a+19*q
 let b:=x.b+shrW a 51
 let c:=x.c+shrW b 51
 let d:=x.d+shrW c 51
 let e:=x.e+shrW d 51
 ⟨a&&&msk,b&&&msk,c&&&msk,d&&&msk,e&&&msk⟩
set_option maxHeartbeats 40000000 in
theorem zk6(x:Fe):bG 287 [.ag x.v] (.r (.ag x.least.v)):=by
 refine bT Tryz.func287 rfl ?_
 repeat' ((conv=>whnf);first|refine Vrounds.step mixed Tab_ok ?_|refine zu rfl (zq ?_)|refine zw rfl (zt ?_)|refine Vadr.any (by decide) ?_|refine Vint.any (k:= .i64) ?_|refine za rfl rfl ?_|refine ze (zk5 x) ?_|refine ze (zk5 x.carry) ?_|refine Vshr.w _ 51 rfl rfl ?_|refine Vbits.wand _ msk rfl rfl ?_|refine Vint.wadd _ 19 rfl rfl ?_|refine Vint.wadd _ _ rfl rfl ?_|refine Vint.wmul 19 _ rfl rfl ?_|refine bV ?_|refine Vloop.rounds 6 ?_)
 exactλ_ _ _ h=>h
set_option maxHeartbeats 4000000 in
theorem z3v(x:Fe):bG 296 [.ag x.v] (.r (.ag (Fe.sub ⟨0,0,0,0,0⟩ x).v)):=by
 refine bT Tryz.func296 rfl ?_
 repeat' ((conv=>whnf);first|refine za rfl rfl ?_|refine ze (zh5 ⟨0,0,0,0,0⟩ ⟨_,_,_,_,_⟩) ?_)
 exactλ_ _ _ h=>h
abbrev pv(x z:Fe):List RV:=[W x.a,W x.b,W x.c,W x.d,W x.e,W z.a,W z.b,W z.c,W z.d,W z.e]
def zeh(px pz qx qz u:Fe):(Fe×Fe)×(Fe×Fe):=
 let a:=px.add pz
 let b:=px.sub pz
 let c:=qx.add qz
 let d:=qx.sub qz
 let da:=d.mul a
 let cb:=c.mul b
 let aa:=a.mul a
 let bb:=b.mul b
 let e:=aa.sub bb
 let k:Fe:=⟨121665&&&msk,shrW 121665 51,0,0,0⟩
 let s:=da.add cb
 let t:=da.sub cb
 ((aa.mul bb,e.mul (aa.add (e.mul k))),(s.mul s,u.mul (t.mul t)))
set_option maxRecDepth 100000 in
set_option maxHeartbeats 40000000 in
theorem zr8(px pz qx qz u:Fe):bG 326 [.ag (pv px pz), .ag (pv qx qz), .ag u.v] (.r (.tu [.ag (pv (zeh px pz qx qz u).1.1 (zeh px pz qx qz u).1.2), .ag (pv (zeh px pz qx qz u).2.1 (zeh px pz qx qz u).2.2)])):=by
 refine bT Tryz.func326 rfl ?_
 repeat' ((conv=>whnf);first|refine za rfl rfl ?_|refine bV ?_)
 refine ze (zg8 px pz) ?_
 repeat' ((conv=>whnf);first|refine za rfl rfl ?_|refine bV ?_)
 refine ze (zh5 px pz) ?_
 repeat' ((conv=>whnf);first|refine za rfl rfl ?_|refine bV ?_)
 refine ze (zg8 qx qz) ?_
 repeat' ((conv=>whnf);first|refine za rfl rfl ?_|refine bV ?_)
 refine ze (zh5 qx qz) ?_
 repeat' ((conv=>whnf);first|refine za rfl rfl ?_|refine bV ?_)
 refine ze (zb9 (qx.sub qz) (px.add pz)) ?_
 repeat' ((conv=>whnf);first|refine za rfl rfl ?_|refine bV ?_)
 refine ze (zb9 (qx.add qz) (px.sub pz)) ?_
 repeat' ((conv=>whnf);first|refine za rfl rfl ?_|refine bV ?_)
 refine ze (zev (px.add pz)) ?_
 repeat' ((conv=>whnf);first|refine za rfl rfl ?_|refine bV ?_)
 refine ze (zev (px.sub pz)) ?_
 repeat' ((conv=>whnf);first|refine za rfl rfl ?_|refine bV ?_)
 refine ze (zh5 ((px.add pz).mul (px.add pz)) ((px.sub pz).mul (px.sub pz))) ?_
 repeat' ((conv=>whnf);first|refine za rfl rfl ?_|refine bV ?_)
 refine ze (zb9 ((px.add pz).mul (px.add pz)) ((px.sub pz).mul (px.sub pz))) ?_
 repeat' ((conv=>whnf);first|refine za rfl rfl ?_|refine bV ?_)
 refine ze (zka 121665) ?_
 repeat' ((conv=>whnf);first|refine za rfl rfl ?_|refine bV ?_)
 refine ze (zb9 (Fe.sub ((px.add pz).mul (px.add pz)) ((px.sub pz).mul (px.sub pz))) ⟨121665&&&msk,shrW 121665 51,0,0,0⟩) ?_
 repeat' ((conv=>whnf);first|refine za rfl rfl ?_|refine bV ?_)
 refine ze (zg8 ((px.add pz).mul (px.add pz)) (Fe.mul (Fe.sub ((px.add pz).mul (px.add pz)) ((px.sub pz).mul (px.sub pz))) ⟨121665&&&msk,shrW 121665 51,0,0,0⟩)) ?_
 repeat' ((conv=>whnf);first|refine za rfl rfl ?_|refine bV ?_)
 refine ze (zb9 (Fe.sub ((px.add pz).mul (px.add pz)) ((px.sub pz).mul (px.sub pz))) (Fe.add ((px.add pz).mul (px.add pz)) (Fe.mul (Fe.sub ((px.add pz).mul (px.add pz)) ((px.sub pz).mul (px.sub pz))) ⟨121665&&&msk,shrW 121665 51,0,0,0⟩))) ?_
 repeat' ((conv=>whnf);first|refine za rfl rfl ?_|refine bV ?_)
 refine ze (zg8 ((qx.sub qz).mul (px.add pz)) ((qx.add qz).mul (px.sub pz))) ?_
 repeat' ((conv=>whnf);first|refine za rfl rfl ?_|refine bV ?_)
 refine ze (zev (Fe.add ((qx.sub qz).mul (px.add pz)) ((qx.add qz).mul (px.sub pz)))) ?_
 repeat' ((conv=>whnf);first|refine za rfl rfl ?_|refine bV ?_)
 refine ze (zh5 ((qx.sub qz).mul (px.add pz)) ((qx.add qz).mul (px.sub pz))) ?_
 repeat' ((conv=>whnf);first|refine za rfl rfl ?_|refine bV ?_)
 refine ze (zev (Fe.sub ((qx.sub qz).mul (px.add pz)) ((qx.add qz).mul (px.sub pz)))) ?_
 repeat' ((conv=>whnf);first|refine za rfl rfl ?_|refine bV ?_)
 refine ze (zb9 u (Fe.mul (Fe.sub ((qx.sub qz).mul (px.add pz)) ((qx.add qz).mul (px.sub pz))) (Fe.sub ((qx.sub qz).mul (px.add pz)) ((qx.add qz).mul (px.sub pz))))) ?_
 repeat' ((conv=>whnf);first|refine za rfl rfl ?_|refine bV ?_)
 exact⟨_,rfl,cr⟩
theorem bv8(z:UInt8):BitVec.ofInt 8 (z.toNat:Int)=z.toBitVec:=by
 rw[BitVec.ofInt_natCast]
 simp
theorem zcxb(n:Nat):IntKind.u8.wrap (n:Int)=((UInt8.ofNat n).toNat:Int):=by
 rw[UInt8.toNat_ofNat']
 simp only[IntKind.wrap]
 simp[IntKind.bits,IntKind.signed]
theorem zz1(x:UInt8):IntKind.u8.wrap (x.toNat:Int)=(x.toNat:Int):=by rw[zcxb];simp
theorem Vbits.or8{a b:Int}{K:Int->Prop}(x y:UInt8)(ha:a=(x.toNat:Int))(hb:b=(y.toNat:Int))(hK:K ((x|||y).toNat:Int)):Vbits .u8 .or a b K:=by
 subst ha;subst hb
 refine⟨_,?_,hK⟩
 show _=IntKind.u8.wrap (((BitVec.ofInt 8 (x.toNat:Int)|||BitVec.ofInt 8 (y.toNat:Int)).toNat:Nat):Int)
 rw[bv8,bv8,<-zz1]
 rfl
theorem Vbits.and8{a b:Int}{K:Int->Prop}(x y:UInt8)(ha:a=(x.toNat:Int))(hb:b=(y.toNat:Int))(hK:K ((x&&&y).toNat:Int)):Vbits .u8 .and a b K:=by
 subst ha;subst hb
 refine⟨_,?_,hK⟩
 show _=IntKind.u8.wrap (((BitVec.ofInt 8 (x.toNat:Int)&&&BitVec.ofInt 8 (y.toNat:Int)).toNat:Nat):Int)
 rw[bv8,bv8,<-zz1]
 rfl
theorem Vbits.andn8{a b:Int}{K:Int->Prop}(x y:UInt8)(ha:a=(x.toNat:Int))(hb:b=(y.toNat:Int))(hK:K ((x&&& ~~~y).toNat:Int)):Vbits .u8 .andNot a b K:=by
 subst ha;subst hb
 refine⟨_,?_,hK⟩
 show _=IntKind.u8.wrap (((BitVec.ofInt 8 (x.toNat:Int)&&& ~~~(BitVec.ofInt 8 (y.toNat:Int))).toNat:Nat):Int)
 rw[bv8,bv8,<-zz1]
 rfl
def shl8(x:UInt8)(n:Nat):UInt8:=UInt8.ofNat (x.toNat*2^n)
theorem Vshl.b{a b:Int}{K:Int->Prop}(x:UInt8)(n:Nat)(ha:a=(x.toNat:Int))(hb:b=(n:Int))(hn:n<=8)(hK:K ((shl8 x n).toNat:Int)):Vshl .u8 a b K:=by
 subst ha;subst hb
 refine⟨by omega,_,?_,hK⟩
 have hb:IntKind.u8.bits=8:=rfl
 rw[Int.toNat_natCast,hb,Nat.min_eq_left hn]
 unfold shl8
 rw[<-zcxb]
 norm_cast
abbrev Str(s:ByteArray):RV:= .x (.string s)
abbrev sB(s:ByteArray):List UInt8:=s.data.toList
def keyB(k:List UInt8):List UInt8:=if 64<k.length then shaB k else k
def zfd(k:List UInt8)(w:UInt8):List UInt8:=(List.range 64).map λi=>(keyB k).getD i 0^^^w
def macB(k t:List UInt8):List UInt8:=shaB (zfd k 92++shaB (zfd k 54++t))
theorem zkb(k:List UInt8)(w:UInt8):(zfd k w).length=64:=by simp[zfd]
theorem zfg(k t:List UInt8):(macB k t).length=32:=zf1 _
theorem zelb(k:List UInt8):(keyB k).length<=64:=by
 unfold keyB
 split
 ·rw[zf1];omega
 ·omega
theorem zimb(x y:UInt8):IntKind.u8.wrap (((BitVec.ofInt 8 (x.toNat:Int)^^^BitVec.ofInt 8 (y.toNat:Int)).toNat:Nat):Int)=(((x^^^y).toNat:Nat):Int):=by
 have e: ∀z:UInt8,BitVec.ofInt 8 (z.toNat:Int)=z.toBitVec:=λz=>by
  rw[BitVec.ofInt_natCast]
  simp
 rw[e,e]
 have h:=(x^^^y).toNat_lt
 have e2:(x.toBitVec^^^y.toBitVec).toNat=(x^^^y).toNat:=by simp
 rw[e2]
 generalize (x^^^y).toNat=z at h
 simp only[IntKind.wrap]
 simp[IntKind.bits,IntKind.signed]
 omega
theorem Vbits.xor8{a b:Int}{K:Int->Prop}(x y:UInt8)(ha:a=(x.toNat:Int))(hb:b=(y.toNat:Int))(hK:K (((x^^^y).toNat:Nat):Int)):Vbits .u8 .xor a b K:=by
 subst ha;subst hb
 exact⟨_,(zimb x y).symm,hK⟩
def zel(k:List UInt8)(w:UInt8)(i:Nat):List UInt8:=(List.range 64).map λj=>if j<i then k.getD j 0^^^w else k.getD j 0
theorem zl2(k:List UInt8)(w:UInt8)(i:Nat):(zel k w i).length=64:=by simp[zel]
theorem za1b(k:List UInt8)(w:UInt8):zel (keyB k) w 64=zfd k w:=by
 unfold zel zfd
 exact List.map_congr_left λj hj=>by rw[if_pos (List.mem_range.1 hj)]
theorem za3b(k:List UInt8)(w:UInt8){i:Nat}(hi:i<64):(zel k w i)[i]'(by rw[zl2];exact hi)=k.getD i 0:=by simp[zel]
theorem za4b(k:List UInt8)(w:UInt8){i:Nat}(hi:i<64):(zel k w i).set i (k.getD i 0^^^w)=zel k w (i+1):=by
 apply List.ext_getElem
 ·simp[zel]
 ·intro j h1 h2
  simp only[zel,List.getElem_set,List.getElem_map,List.getElem_range]
  by_cases h:i=j
  ·subst h;simp
  ·rw[if_neg h]
   by_cases h3:j<i
   ·rw[if_pos h3,if_pos (by omega)]
   ·rw[if_neg h3,if_neg (by omega)]
theorem zvb(k:List UInt8)(w:UInt8)(hk:k.length<=64):(k.map U8).take (Nat.min k.length 64*1)++(List.replicate 64 (RV.i .u8 0)).drop (Nat.min k.length 64*1)=(zel k w 0).map U8:=by
 have e:Nat.min k.length 64*1=k.length:=by rw[Nat.mul_one];exact Nat.min_eq_left hk
 rw[e]
 apply List.ext_getElem
 ·simp[zel];omega
 ·intro j h1 h2
  simp only[List.getElem_append,List.length_take,List.length_map,Nat.min_self,List.getElem_take,List.getElem_map,List.getElem_drop,List.getElem_replicate,zel,List.getElem_range]
  split
  ·rename_i h;simp[List.getD,h]
  ·rename_i h;simp[List.getD,List.getElem?_eq_none (Nat.le_of_not_lt h)]
theorem zd9{α:Type}{f:α->RV}{l:List α}{i:Nat}{x:α}(hi:i<l.length):zbl (l.map f) i [f x]=(l.set i x).map f:=by
 unfold zbl
 simp only[List.length_cons,List.length_nil,Nat.zero_add]
 rw[<-List.map_take,<-List.map_drop]
 have:l.set i x=l.take i++[x]++l.drop (i+1):=by rw[List.set_eq_take_append_cons_drop,if_pos hi];simp
 rw[this]
 simp
def z1t(k:List UInt8)(w:UInt8)(i:Nat):St:={F:=[(1, .r (U8 w)),(5, .own 0),(18, .r (I 64)),(19, .r (I i))],O:=[(0,some (.ch 5 1 64 ((zel k w i).map U8) false))],nx:=1}
theorem za2b(k:List UInt8)(w:UInt8):some (Ow.ch 5 1 64 ((zel (keyB k) w 64).map U8) true)=some (Ow.ch 5 1 (zfd k w).length ((zfd k w).map U8) true):=by rw[za1b,zkb]
theorem zs64:(List.replicate ((64:Int).toNat) ([Value.int .u8 0].map ofC)).flatten=List.replicate 64 (RV.i .u8 0):=by simp[ofC]
theorem z6c(k:List UInt8)(w:UInt8)(hk:k.length<=1000000000):bG 207 [bs k,U8 w] (bch (zfd k w)):=by
 refine zar (T:=Tab) mixed Tab_ok Tryz.func207 rfl (by kernel_rfl) ?_
 have hkey:=zelb k
 refine zh (λh=>zq ?a) (λh=>zt ?b)
 case' a=>
  simp only[zb]at h
  have hx:shaB ([k].flatMap id)=keyB k:=by unfold keyB;rw[if_pos (by omega)];simp
  refine zy ?_
  refine ze (zlw [k] (by simp;omega)) ?_
  rw[hx]
  refine⟨rfl,by decide,by decide,by decide,_,_,rfl,zs64,Vpub.own ?_⟩
  refine Vstep.copy (id:=2) Tab_ok rfl rfl rfl rfl rfl rfl rfl rfl (zvb (keyB k) w hkey) ?_
  refine Vloop.mk' (z1t (keyB k) w) (λi=>i<=64) (λi=>64-i) 0 (by omega) (zac [(0,2)] rfl ⟨cr,rfl,cr,cr,trivial⟩ ⟨⟨rfl,rfl,rfl,rfl,zn _⟩,trivial⟩) ?_
 case' b=>
  simp only[zb]at h
  have hx:k=keyB k:=by unfold keyB;rw[if_neg (by omega)]
  refine⟨rfl,by decide,by decide,by decide,_,_,rfl,zs64,Vpub.own ?_⟩
  refine Vstep.copy (id:=0) (zs:=(zel (keyB k) w 0).map U8) Tab_ok rfl rfl rfl rfl rfl rfl rfl rfl (by rw[<-hx];exact zvb k w (by omega)) ?_
  refine Vloop.mk' (z1t (keyB k) w) (λi=>i<=64) (λi=>64-i) 0 (by omega) (zac [(0,0)] rfl ⟨cr,rfl,cr,cr,trivial⟩ ⟨⟨rfl,rfl,rfl,rfl,zn _⟩,trivial⟩) ?_
 all_goals
  intro i hi
  refine zh (λh=>zq ?_) (λh=>zt ?_)
  ·simp only[zb]at h
   have hi':i<64:=by omega
   refine Vadr.mk' i rfl hi' ?_
   refine zg (f:=U8 ((keyB k).getD i 0)) (by rw[Nat.mul_one,List.getElem?_map,List.getElem?_eq_getElem (by rw[zl2];exact hi'),za3b _ _ hi'];rfl) ?_
   refine Vbits.xor8 _ _ rfl rfl ?_
   refine Vadr.mk' i rfl hi' ?_
   refine⟨by simp[zl2];omega,(zel (keyB k) w (i+1)).map U8,?_,?_⟩
   ·rw[<-za4b _ _ hi',Nat.mul_one]
    exact zd9 (by rw[zl2];exact hi')
   refine zd (m:=((i+1:Nat):Int)) (by omega) (by omega) ?_
   exact⟨i+1,by omega,by omega,zac [(0,0)] rfl ⟨cr,rfl,cr,cr,trivial⟩ ⟨⟨rfl,rfl,rfl,rfl,zn _⟩,trivial⟩⟩
  ·simp only[zb]at h
   obtain rfl:i=64:=by omega
   refine⟨_,zbr (id:=0) rfl,?_⟩
   exact za2b k w
theorem z3n(key:List UInt8)(parts:List (List UInt8))(hk:key.length<=1000000000)(hp:(parts.flatMap id).length<=10000000000):bG 142 [bs key,bss parts] (bch (macB key (parts.flatMap id))):=by
 refine bT Tryz.func142 rfl ?_
 have e1: ∀l:List UInt8,[l].flatMap id=l:=λl=>by simp
 have e2:[zfd key 54,parts.flatMap id].flatMap id=zfd key 54++parts.flatMap id:=by simp
 refine ze (z6c key 54 hk) ?_
 refine ze (zhl parts (by omega)) ?_
 refine zy ?_
 refine ze (zhl [zfd key 54,parts.flatMap id] (by rw[e2,bL,zkb];omega)) ?_
 refine zy ?_
 refine ze (zlw [[zfd key 54,parts.flatMap id].flatMap id] (by rw[e2,e1,bL,zkb];omega)) ?_
 refine ze (z6c key 92 hk) ?_
 refine zy ?_
 refine ze (zlw [zfd key 92,shaB ([[zfd key 54,parts.flatMap id].flatMap id].flatMap id)] (by simp[zkb,zf1])) ?_
 exact zez (by simp[macB])
section
def zf7(x:Fe):List UInt64:=[x.a,x.b,x.c,x.d,x.e]
def bitB(o:List UInt8)(v:UInt64)(at_ k:Nat):List UInt8:=o.set ((at_+k)/8) (o.getD ((at_+k)/8) 0|||shl8 (UInt8.ofNat (shrW v k&&&1).toNat) ((at_+k)%8))
def rowB(o:List UInt8)(v:UInt64)(at_:Nat):Nat->List UInt8
 |0=>o
 |k+1=>bitB (rowB o v at_ k) v at_ k
def allF(x:Fe):Nat->List UInt8
 |0=>List.replicate 32 0
 |i+1=>rowB (allF x i) ((zf7 x).getD i 0) (i*51) 51
theorem zmp(o:List UInt8)(v:UInt64)(at_:Nat): ∀k,(rowB o v at_ k).length=o.length
 |0=>rfl
 |k+1=>by rw[rowB,bitB,List.length_set,zmp o v at_ k]
theorem zlk(x:Fe): ∀i,(allF x i).length=32
 |0=>by simp[allF]
 |i+1=>by rw[allF,zmp,zlk x i]
theorem zul(x:Fe)(i:Nat):allF x (i+1)=rowB (allF x i) ((zf7 x).getD i 0) (i*51) 51:=rfl
theorem zvy(o:List UInt8)(v:UInt64)(at_:Nat):rowB o v at_ 0=o:=rfl
theorem zum(x:Fe):allF x 0=List.replicate 32 0:=rfl
attribute [irreducible] rowB allF zf7
def Fe.bytes(x:Fe):List UInt8:=allF x.least 5
theorem Fe.bytes_len(x:Fe):x.bytes.length=32:=zlk _ _
theorem Vquo.i64{a b:Int}{K:Int->Prop}(x y:Nat)(ha:a=(x:Int))(hb:b=(y:Int))(hy:0<y)(hx:x<9223372036854775808)(hK:K ((x/y:Nat):Int)):Vquo .i64 a b K:=by
 subst ha;subst hb
 refine⟨by omega,_,?_,hK⟩
 have h:=Nat.div_le_self x y
 rw[Int.tdiv_eq_ediv_of_nonneg (by omega),<-Int.natCast_ediv]
 generalize x/y=z at*
 exact wrap_i64 (by omega)
theorem zs32:(List.replicate ((32:Int).toNat) ([Value.int .u8 0].map ofC)).flatten=(List.replicate 32 (0:UInt8)).map U8:=by simp[ofC]
theorem zgr{l:List UInt8}{j:Nat}(h:j<l.length):(l.map U8)[j]?=some (U8 (l.getD j 0)):=by
 rw[List.getElem?_map,List.getElem?_eq_getElem h,List.getD_eq_getElem?_getD,List.getElem?_eq_getElem h]
 rfl
theorem z10(x:Fe){i:Nat}(hi:i<5):(x.v.drop (i*1)).take 1=[W ((zf7 x).getD i 0)]:=by
 have:i=0\/i=1\/i=2\/i=3\/i=4:=by omega
 unfold zf7
 rcases this with rfl |rfl |rfl |rfl |rfl<;>rfl
def outI(x:Fe)(i:Nat):St:={F:=[(3, .own 0),(12, .r (.ag x.v)),(13, .r (I i))],O:=[(0,some (.ch 5 1 32 ((allF x i).map U8) false))],nx:=1}
def inI(x:Fe)(i k:Nat):St:={F:=[(3, .own 0),(12, .r (.ag x.v)),(13, .r (I i)),(5, .r (W ((zf7 x).getD i 0))),(6, .r (I ((i*51:Nat):Int))),(19, .r (I k))],O:=[(0,some (.ch 5 1 32 ((rowB (allF x i) ((zf7 x).getD i 0) (i*51) k).map U8) false))],nx:=1}
set_option maxHeartbeats 1000000 in
theorem ztv(x:Fe):bG 238 [.ag x.v] (bch x.bytes):=by
 refine zar (T:=Tab) mixed Tab_ok Tryz.func238 rfl (by kernel_rfl) ?_
 refine za rfl rfl ?_
 refine ze (zk6 x) ?_
 refine⟨rfl,by decide,by decide,by decide,_,_,rfl,zs32,Vpub.own ?_⟩
 refine za rfl rfl ?_
 refine Vloop.mkx (outI x.least) (λi=>i<=5) (λi=>5-i) 0 (by omega) (zac [(0,1)] rfl ⟨rfl,cr,cr,trivial⟩ ⟨⟨rfl,rfl,rfl,rfl,by rw[zum];exact zn _⟩,trivial⟩) ?_
 intro i hi
 refine zh (λh=>zq ?_) (λh=>zt ?_)
 ·simp only[zb]at h
  have hi':i<5:=by omega
  refine zm (by omega) (by simp;omega) (z10 x.least hi') ?_
  refine zd (m:=((i*51:Nat):Int)) (by omega) (by omega) ?_
  refine Vloop.mkx (inI x.least i) (λk=>k<=51) (λk=>51-k) 0 (by omega) (zac [(0,0)] rfl ⟨rfl,cr,cr,cr,cr,cr,trivial⟩ ⟨⟨rfl,rfl,rfl,rfl,by rw[zvy];exact zn _⟩,trivial⟩) ?_
  intro k hk
  refine zh (λh=>zq ?_) (λh=>zt ?_)
  ·simp only[zb]at h
   have hk':k<51:=by omega
   have hL:(rowB (allF x.least i) ((zf7 x.least).getD i 0) (i*51) k).length=32:=by rw[zmp,zlk]
   refine bV ?_
   refine zd (m:=((i*51+k:Nat):Int)) (by omega) (by omega) ?_
   refine Vquo.i64 (i*51+k) 8 rfl rfl (by omega) (by omega) ?_
   refine Vadr.mk' ((i*51+k)/8) rfl (by omega) ?_
   refine zg (f:=U8 ((rowB (allF x.least i) ((zf7 x.least).getD i 0) (i*51) k).getD ((i*51+k)/8) 0)) (by rw[Nat.mul_one];exact zgr (by rw[hL];omega)) ?_
   refine Vshr.w _ k rfl rfl ?_
   refine Vbits.wand _ 1 rfl rfl ?_
   refine Vint.u8 _ rfl ?_
   refine zd (m:=((i*51+k:Nat):Int)) (by omega) (by omega) ?_
   refine Vrem.nat (i*51+k) 8 rfl rfl (by omega) ?_
   refine Vshl.b _ ((i*51+k)%8) rfl rfl (by omega) ?_
   refine Vbits.or8 _ _ rfl rfl ?_
   refine Vadr.mk' ((i*51+k)/8) rfl (by omega) ?_
   refine⟨by rw[List.length_map,hL];show(i*51+k)/8*1+1<=32;omega,(rowB (allF x.least i) ((zf7 x.least).getD i 0) (i*51) (k+1)).map U8,?_,?_⟩
   ·rw[rowB,bitB,Nat.mul_one]
    exact zd9 (by rw[hL];omega)
   refine zd (m:=((k+1:Nat):Int)) (by omega) (by omega) ?_
   exact⟨k+1,by omega,by omega,zac [(0,0)] rfl ⟨rfl,cr,cr,cr,cr,cr,trivial⟩ ⟨⟨rfl,rfl,rfl,rfl,zn _⟩,trivial⟩⟩
  ·simp only[zb]at h
   obtain rfl:k=51:=by omega
   refine⟨_,zo _,?_⟩
   refine zd (m:=((i+1:Nat):Int)) (by omega) (by omega) ?_
   exact⟨i+1,by omega,by omega,zac [(0,0)] rfl ⟨rfl,cr,cr,trivial⟩ ⟨⟨rfl,rfl,rfl,rfl,by rw[zul];exact zn _⟩,trivial⟩⟩
 ·simp only[zb]at h
  obtain rfl:i=5:=by omega
  refine⟨_,zo _,?_⟩
  refine⟨_,zbr (id:=0) rfl,?_⟩
  exact congrArg (λn=>some (Ow.ch 5 1 n (x.bytes.map U8) true)) x.bytes_len.symm
end
section
def zes(b:List UInt8)(at_:Nat):Nat->UInt64
 |0=>0
 |j+1=>shlW (zes b at_ j) 8|||UInt64.ofNat (b.getD (at_+(7-j)) 0).toNat
theorem zte(b:List UInt8)(at_:Nat):zes b at_ 0=0:=rfl
theorem ztd(b:List UInt8)(at_ j:Nat):zes b at_ (j+1)=shlW (zes b at_ j) 8|||UInt64.ofNat (b.getD (at_+(7-j)) 0).toNat:=rfl
attribute [irreducible] zes
def Fe.of(b:List UInt8):Fe:=⟨zes b 0 8&&&msk,shrW (zes b 6 8) 3&&&msk,shrW (zes b 12 8) 6&&&msk,shrW (zes b 19 8) 1&&&msk,shrW (zes b 24 8) 12&&&msk⟩
abbrev boxB(b:List UInt8):Ow:= .box ((b.map U8).map .r)
theorem z1e{l:List UInt8}{j:Nat}(h:j<l.length):((l.map U8).map TF.r)[j]?=some (.r (U8 (l.getD j 0))):=by
 rw[List.getElem?_map,zgr h]
 rfl
def z5f(b:List UInt8)(at_:Nat)(v:Value)(j:Nat):St:={F:=[(0, .r (I at_)),(1, .own 0),(4, .r (W (zes b at_ j))),(5, .r (I (7-(j:Int)))),(1000000, .nm 0 v)],O:=[(0,some (boxB b))],nx:=1}
theorem zzy(b:List UInt8)(at_:Nat)(v:Value)(j:Nat):stOk [(0,0)] (z5f b at_ v j)=true:=by
 have h:=ze3 (b.map U8) 1
 simp only[stOk,z5f,boxB,List.all_cons,List.all_nil,zeo,h]
 rfl
theorem znv(v:Value)(b:List UInt8)(hb:b.length=32)(at_:Nat)(ha:at_<=24):Acts bP 327 1 [(0,boxB b)] [.r (I at_), .own 0] [(0,v)] 1 [(0,boxB b)] (.r (W (zes b at_ 8))):=by
 refine zaz (T:=Tab) mixed Tab_ok Tryz.func327 rfl (by kernel_rfl) rfl ⟨⟨_,_,rfl,rfl,zai,zai⟩,trivial⟩ ?_
 refine Vloop.mk' (z5f b at_ v) (λj=>j<=8) (λj=>8-j) 0 (by omega) (zac [(0,0)] (zzy b at_ v _) ⟨cr,rfl,by rw[zte];exact cr,cr,⟨rfl,rfl⟩,trivial⟩ ⟨zae _,trivial⟩) ?_
 intro j hj
 refine zh (λh=>zq ?_) (λh=>zt ?_)
 ·simp only[zb]at h
  have hj':j<8:=by omega
  refine Vshl.w _ 8 rfl rfl (by decide) ?_
  refine zd (m:=((at_+(7-j):Nat):Int)) (by omega) (by omega) ?_
  refine Vadr.mk' (at_+(7-j)) rfl (by omega) ?_
  (conv=>whnf)
  generalize hq:lget _ _=q
  obtain rfl:q=some (TF.r (U8 (b.getD (at_+(7-j)) 0))):=hq.symm.trans ((zba _ ((at_+(7-j))*1)).trans (by rw[Nat.mul_one];exact z1e (by omega)))
  clear hq
  refine Vint.w _ rfl ?_
  refine Vbits.wor _ _ rfl rfl ?_
  refine zd (m:=7-((j+1:Nat):Int)) (by omega) (by omega) ?_
  exact⟨j+1,by omega,by omega,zac [(0,0)] (zzy b at_ v _) ⟨cr,rfl,by rw[ztd];exact cr,cr,⟨rfl,rfl⟩,trivial⟩ ⟨zae _,trivial⟩⟩
 ·simp only[zb]at h
  obtain rfl:j=8:=by omega
  exact zaw (.inl rfl) [(0,0)] [(3, .r (W (zes b at_ 8)))] [] (by have h:=ze3 (b.map U8) 1;simp only[stOk,lift,boxB,List.map_cons,List.map_nil,List.append_nil,List.all_cons,List.all_nil,zeo,h];rfl) ⟨cr,⟨rfl,rfl⟩,trivial⟩ ⟨zae _,trivial⟩ ⟨⟨1000000,rfl⟩,trivial⟩ (cr)
theorem ze8b{l:List TF}{ys:List RV}(h:l.length=ys.length):l.take 0++(ys.take ys.length).map TF.r++l.drop (0+ys.length)=ys.map TF.r:=by
 rw[List.take_zero,List.nil_append,List.take_length,Nat.zero_add,<-h,List.drop_length,List.append_nil]
theorem h_of(b:List UInt8)(hb:b.length=32):bG 286 [bs b] (.r (.ag (Fe.of b).v)):=by
 refine bT Tryz.func286 rfl ?_
 refine Vstep.val Tab_ok ?_
 refine Vcutn.mk' 0 32 rfl rfl (by decide) (by decide) ?_
 refine Vstep.copyBox Tab_ok rfl rfl rfl rfl rfl rfl rfl (by decide) rfl (.inl rfl) (zs:=(b.map U8).map .r) ?_ ?_
 ·have e:Nat.min b.length 32=(b.map U8).length:=by rw[hb,List.length_map,hb];rfl
  rw[e]
  exact ze8b (by rw[List.length_map,List.length_map,hb];rfl)
 refine Vstep.nm 1 1000000 rfl λp=>Vstep.mkfunX [p] rfl ⟨_,_,rfl,⟨1,1000000,rfl,rfl⟩,rfl⟩ ?_
 refine Vstep.actsBox 1 (λv=>znv v b hb 0 (by decide)) (Handed.clo (fs:=[.r (I 0)]) (cs:=[.own 0]) rfl rfl ⟨_,_,rfl,cr,rfl⟩ ⟨_,_,rfl,⟨1,1000000,rfl,rfl⟩,rfl⟩) rfl ?_
 refine Vbits.wand _ msk rfl rfl ?_
 refine Vstep.actsBox 1 (λv=>znv v b hb 6 (by decide)) (Handed.clo (fs:=[.r (I 6)]) (cs:=[.own 0]) rfl rfl ⟨_,_,rfl,cr,rfl⟩ ⟨_,_,rfl,⟨1,1000000,rfl,rfl⟩,rfl⟩) rfl ?_
 refine Vshr.w _ 3 rfl rfl ?_
 refine Vbits.wand _ msk rfl rfl ?_
 refine Vstep.actsBox 1 (λv=>znv v b hb 12 (by decide)) (Handed.clo (fs:=[.r (I 12)]) (cs:=[.own 0]) rfl rfl ⟨_,_,rfl,cr,rfl⟩ ⟨_,_,rfl,⟨1,1000000,rfl,rfl⟩,rfl⟩) rfl ?_
 refine Vshr.w _ 6 rfl rfl ?_
 refine Vbits.wand _ msk rfl rfl ?_
 refine Vstep.actsBox 1 (λv=>znv v b hb 19 (by decide)) (Handed.clo (fs:=[.r (I 19)]) (cs:=[.own 0]) rfl rfl ⟨_,_,rfl,cr,rfl⟩ ⟨_,_,rfl,⟨1,1000000,rfl,rfl⟩,rfl⟩) rfl ?_
 refine Vshr.w _ 1 rfl rfl ?_
 refine Vbits.wand _ msk rfl rfl ?_
 refine Vstep.actsBox 1 (λv=>znv v b hb 24 (by decide)) (Handed.clo (fs:=[.r (I 24)]) (cs:=[.own 0]) rfl rfl ⟨_,_,rfl,cr,rfl⟩ ⟨_,_,rfl,⟨1,1000000,rfl,rfl⟩,rfl⟩) rfl ?_
 refine Vshr.w _ 12 rfl rfl ?_
 refine Vbits.wand _ msk rfl rfl ?_
 repeat' ((conv=>whnf);first|refine za rfl rfl ?_)
 exactλ_ _ _ h=>h
end
section
def rorW(x:UInt64)(n:Nat):UInt64:=shlW x (64-n)|||shrW x n
theorem Vbits.wandN{a b:Int}{K:Int->Prop}(x y:UInt64)(m:Nat)(ha:a=(x.toNat:Int))(hb:b=(y.toNat:Int))(hm:(x&&&y).toNat=m)(hK:K (m:Int)):Vbits .u64 .and a b K:=Vbits.wand x y ha hb (by rw[hm];exact hK)
theorem zhab(x:UInt64)(n:Nat)(hn:1<=n/\n<=63):bG 378 [W x,I (-(n:Int))] (.r (W (rorW x n))):=by
 refine bT Tryz.func378 rfl ?_
 have e1:(UInt64.ofNat (18446744073709551616-n)).toNat=18446744073709551616-n:=by rw[UInt64.toNat_ofNat'];omega
 refine Vint.n ((UInt64.ofNat (18446744073709551616-n)).toNat:Int) (by rw[e1];simp only[IntKind.wrap];simp[IntKind.bits,IntKind.signed];omega) ?_
 refine Vbits.wandN (UInt64.ofNat (18446744073709551616-n)) 63 (64-n) rfl rfl (by
  rw[UInt64.toNat_and,e1]
  have:=Nat.and_two_pow_sub_one_eq_mod (18446744073709551616-n) 6
  have e:(63:UInt64).toNat=2^6-1:=rfl
  rw[e,this]
  omega) ?_
 refine Vshl.w x (64-n) rfl rfl (by omega) ?_
 refine Vint.u64 n (by omega) (by omega) ?_
 refine Vshr.w x n rfl rfl ?_
 refine Vbits.wor _ _ rfl rfl ?_
 exact cr
theorem zd2(x:UInt64)(n:Nat)(hn:1<=n/\n<=63):bG 362 [W x,I n] (.r (W (rorW x n))):=by
 refine bT Tryz.func362 rfl ?_
 refine zd (m:= -(n:Int)) (by omega) (by omega) ?_
 refine ze (zhab x n hn) ?_
 exact cr
abbrev boxW(l:List UInt64):Ow:= .box ((l.map W).map .r)
theorem zi2{l:List UInt64}{j:Nat}(h:j<l.length):lget ((l.map W).map TF.r) (j*1)=some (TF.r (W (l.getD j 0))):=zly W 0 h
theorem zy9{l:List UInt64}{j:Nat}{x:UInt64}{K:List TF->Prop}(h:j<l.length)(hK:K (((l.set j x).map W).map TF.r)):putK ((l.map W).map TF.r) (j*1) [TF.r (W x)] K:=zy8 h hK
def zi0(c:List UInt8):Nat->UInt64
 |0=>0
 |j+1=>shlW (zi0 c j) 8|||UInt64.ofNat (c.getD j 0).toNat
def wA(b:List UInt8)(t:Nat):List UInt64:=(List.range 80).map λi=>if i<t then zi0 (b.drop (8*i)) 8 else 0
def wI(b:List UInt8)(t j:Nat):List UInt64:=(wA b t).set t (zi0 (b.drop (8*t)) j)
theorem zzu(b:List UInt8)(t:Nat):(wA b t).length=80:=by simp[wA]
theorem zzv(b:List UInt8)(t j:Nat):(wI b t j).length=80:=by simp[wI,wA]
theorem zfub(b:List UInt8)(t:Nat)(ht:t<80):wI b t 0=wA b t:=by
 apply List.ext_getElem
 ·simp[wI]
 ·intro i h1 h2
  simp only[wI,List.getElem_set]
  split
  ·rename_i h;subst h;simp[wA,zi0]
  ·rfl
theorem ziqb(b:List UInt8)(t:Nat):wI b t 8=wA b (t+1):=by
 apply List.ext_getElem
 ·simp[wI,wA]
 ·intro i h1 h2
  simp only[wI,List.getElem_set,wA,List.getElem_map,List.getElem_range]
  split
  ·rename_i h;subst h;simp
  ·rename_i h
   by_cases h3:i<t
   ·rw[if_pos h3,if_pos (by omega)]
   ·rw[if_neg h3,if_neg (by omega)]
theorem zirb(b:List UInt8)(t j:Nat)(ht:t<80):(wI b t j).getD t 0=zi0 (b.drop (8*t)) j:=by
 rw[wI,List.getD_eq_getElem?_getD,List.getElem?_set_self (by rw[zzu];exact ht)]
 rfl
theorem zisb(b:List UInt8)(t j:Nat)(x:UInt64)(hx:x=zi0 (b.drop (8*t)) (j+1)):(wI b t j).set t x=wI b t (j+1):=by
 rw[hx,wI,List.set_set]
 rfl
theorem z3a(c:List UInt8)(j:Nat):zi0 c (j+1)=shlW (zi0 c j) 8|||UInt64.ofNat (c.getD j 0).toNat:=rfl
attribute [irreducible] wA wI zi0
end
end Go.Proofs.YtoegdgbghdnnfaaGreat.Sx
