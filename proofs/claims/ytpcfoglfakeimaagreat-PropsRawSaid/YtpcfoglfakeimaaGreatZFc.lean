import Derived.Test.YtpcfoglfakeimaaGreatZNt
import Derived.Test.YtpcfoglfakeimaaGreatZVa
import Derived.Test.YtpcfoglfakeimaaGreatZGg
import Derived.Test.YtpcfoglfakeimaaGreatZNx
import Derived.Test.YtpcfoglfakeimaaGreatZKf
namespace Go.Proofs.YtpcfoglfakeimaaGreat.Sx
open Go.RowKit
structure Fe where
 a:UInt64
 b:UInt64
 c:UInt64
 d:UInt64
 e:UInt64
abbrev Fe.v(x:Fe):List RV:=[W x.a,W x.b,W x.c,W x.d,W x.e]
abbrev msk:UInt64:=2251799813685247
theorem zi7(n:UInt64):aG 194 [W n] (.r (.ag (Fe.v ⟨n&&&msk,shrW n 51,0,0,0⟩))):=by
 refine aT Tryz.func194 rfl ?_
 refine Vbits.wand n msk rfl rfl ?_
 refine Vshr.w n 51 rfl rfl ?_
 refine za rfl rfl ?_
 exact cr
def Fe.carry(x:Fe):Fe:=⟨(x.a&&&msk)+shrW x.e 51*19,(x.b&&&msk)+shrW x.a 51,(x.c&&&msk)+shrW x.b 51,(x.d&&&msk)+shrW x.c 51,(x.e&&&msk)+shrW x.d 51⟩
def Fe.add(x y:Fe):Fe:=Fe.carry ⟨x.a+y.a,x.b+y.b,x.c+y.c,x.d+y.d,x.e+y.e⟩
abbrev tw0:UInt64:=4503599627370458
abbrev tw1:UInt64:=4503599627370494
def Fe.sub(x y:Fe):Fe:=Fe.carry ⟨x.a+(tw0-y.a),x.b+(tw1-y.b),x.c+(tw1-y.c),x.d+(tw1-y.d),x.e+(tw1-y.e)⟩
set_option maxHeartbeats 4000000 in
theorem zj2(x:Fe):aG 266 [.ag x.v] (.r (.ag x.carry.v)):=by
 refine aT Tryz.func266 rfl ?_
 repeat' ((conv=>whnf);first|refine Vrounds.step mixed Tab_ok ?_|refine zu rfl (zq ?_)|refine zw rfl (zt ?_)|refine zm (by decide) (by decide) rfl ?_|refine Vadr.any (by decide) ?_|refine Vshr.w _ 51 rfl rfl ?_|refine Vint.any (k:= .i64) ?_|refine Vrem.any (by decide) ?_|refine Vint.wmul _ 19 rfl rfl ?_|refine Vbits.wand _ msk rfl rfl ?_|refine Vint.wadd _ _ rfl rfl ?_|refine Vint.wsub _ _ rfl rfl ?_|refine za rfl rfl ?_|refine Vloop.rounds 6 ?_|refine aV ?_)
 exactλ_ _ _ h=>h
set_option maxHeartbeats 4000000 in
theorem zfh(x y:Fe):aG 203 [.ag x.v, .ag y.v] (.r (.ag (x.add y).v)):=by
 refine aT Tryz.func203 rfl ?_
 repeat' ((conv=>whnf);first|refine Vrounds.step mixed Tab_ok ?_|refine zu rfl (zq ?_)|refine zw rfl (zt ?_)|refine zm (by decide) (by decide) rfl ?_|refine Vadr.any (by decide) ?_|refine Vshr.w _ 51 rfl rfl ?_|refine Vint.any (k:= .i64) ?_|refine Vrem.any (by decide) ?_|refine Vint.wmul _ 19 rfl rfl ?_|refine Vbits.wand _ msk rfl rfl ?_|refine Vint.wadd _ _ rfl rfl ?_|refine Vint.wsub _ _ rfl rfl ?_|refine za rfl rfl ?_|refine Vloop.rounds 6 ?_|refine aV ?_)
 refine ze (zj2 ⟨x.a+y.a,x.b+y.b,x.c+y.c,x.d+y.d,x.e+y.e⟩) ?_
 repeat' ((conv=>whnf);first|refine Vrounds.step mixed Tab_ok ?_|refine zu rfl (zq ?_)|refine zw rfl (zt ?_)|refine zm (by decide) (by decide) rfl ?_|refine Vadr.any (by decide) ?_|refine Vshr.w _ 51 rfl rfl ?_|refine Vint.any (k:= .i64) ?_|refine Vrem.any (by decide) ?_|refine Vint.wmul _ 19 rfl rfl ?_|refine Vbits.wand _ msk rfl rfl ?_|refine Vint.wadd _ _ rfl rfl ?_|refine Vint.wsub _ _ rfl rfl ?_|refine za rfl rfl ?_|refine Vloop.rounds 6 ?_|refine aV ?_)
 exactλ_ _ _ h=>h
set_option maxHeartbeats 4000000 in
theorem zg5(x y:Fe):aG 270 [.ag x.v, .ag y.v] (.r (.ag (x.sub y).v)):=by
 refine aT Tryz.func270 rfl ?_
 repeat' ((conv=>whnf);first|refine Vint.wsub tw0 y.a rfl rfl ?_|refine Vint.wsub tw1 _ rfl rfl ?_|refine Vrounds.step mixed Tab_ok ?_|refine zu rfl (zq ?_)|refine zw rfl (zt ?_)|refine Vadr.any (by decide) ?_|refine Vint.any (k:= .i64) ?_|refine Vint.wadd _ _ rfl rfl ?_|refine za rfl rfl ?_|refine Vloop.rounds 6 ?_|refine aV ?_|refine ze (zj2 ⟨x.a+(tw0-y.a),x.b+(tw1-y.b),x.c+(tw1-y.c),x.d+(tw1-y.d),x.e+(tw1-y.e)⟩) ?_)
 exactλ_ _ _ h=>h
abbrev lo32:UInt64:=4294967295
def mulM(x y:UInt64):UInt64:=shrW x 32*(y&&&lo32)+shrW ((x&&&lo32)*(y&&&lo32)) 32
def mulH(x y:UInt64):UInt64:=shrW x 32*shrW y 32+shrW (mulM x y) 32+shrW ((mulM x y&&&lo32)+(x&&&lo32)*shrW y 32) 32
set_option maxHeartbeats 4000000 in
theorem zr5(x y:UInt64):aG 316 [W x,W y] (.r (.tu [W (mulH x y),W (x*y)])):=by
 refine aT Tryz.func316 rfl ?_
 repeat' ((conv=>whnf);first|refine Vbits.wand _ lo32 rfl rfl ?_|refine Vshr.w _ 32 rfl rfl ?_|refine Vint.wadd _ _ rfl rfl ?_|refine Vint.wmul _ _ rfl rfl ?_)
 exact⟨_,rfl,cr⟩
theorem zfq(x y c:UInt64)(hc:c.toNat<=1):Extn aP 265 [W x,W y,W c] (.r (.tu [W (x+y+c),W (carW x y c)])):=
 Extn.add (λus w=>run_callFunc_extern Tryz.func265 (by kernel_rfl) (by kernel_rfl) (by kernel_rfl) (e:=add64Entry) (by kernel_rfl) us w) x y c hc
def z9u(h l a b:UInt64):UInt64:=h+mulH a b+carW l (a*b) 0
def z9v(l a b:UInt64):UInt64:=l+a*b+0
set_option maxHeartbeats 4000000 in
theorem z30(h l a b:UInt64):aG 264 [.ag [W h,W l],W a,W b] (.r (.ag [W (z9u h l a b),W (z9v l a b)])):=by
 refine aT Tryz.func264 rfl ?_
 refine ze (zr5 a b) ?_
 refine Vcall.ext (zfq l (a*b) 0 (by decide)) ?_
 refine Vcall.ext (zfq h (mulH a b) (carW l (a*b) 0) (zza (by decide))) ?_
 repeat' ((conv=>whnf);first|refine za rfl rfl ?_)
 exactλ_ _ _ h=>h
structure Two where
 h:UInt64
 l:UInt64
def Two.plus(t:Two)(a b:UInt64):Two:=⟨z9u t.h t.l a b,z9v t.l a b⟩
def fsum(a b:Fe):Two×Two×Two×Two×Two:=
 let z:Two:=⟨0,0⟩
 (((((z.plus a.a b.a).plus a.b (b.e*19)).plus a.c (b.d*19)).plus a.d (b.c*19)).plus a.e (b.b*19),
 ((((z.plus a.a b.b).plus a.b b.a).plus a.c (b.e*19)).plus a.d (b.d*19)).plus a.e (b.c*19),
 ((((z.plus a.a b.c).plus a.b b.b).plus a.c b.a).plus a.d (b.e*19)).plus a.e (b.d*19),
 ((((z.plus a.a b.d).plus a.b b.c).plus a.c b.b).plus a.d b.a).plus a.e (b.e*19),
 ((((z.plus a.a b.e).plus a.b b.d).plus a.c b.c).plus a.d b.b).plus a.e b.a)
def flo(t:Two)(f:UInt64):UInt64:=t.l+f+0
def ffr(t:Two)(f:UInt64):UInt64:=shlW (t.h+carW t.l f 0) 13|||shrW (flo t f) 51
def Fe.mul(a b:Fe):Fe:=
 let s:=fsum a b
 let f0:=ffr s.1 0
 let f1:=ffr s.2.1 f0
 let f2:=ffr s.2.2.1 f1
 let f3:=ffr s.2.2.2.1 f2
 let f4:=ffr s.2.2.2.2 f3
 Fe.carry ⟨(flo s.1 0&&&msk)+f4*19,flo s.2.1 f0&&&msk,flo s.2.2.1 f1&&&msk,flo s.2.2.2.1 f2&&&msk,flo s.2.2.2.2 f3&&&msk⟩
set_option maxHeartbeats 40000000 in
set_option maxRecDepth 10000 in
theorem zbd(x y:Fe):aG 196 [.ag x.v, .ag y.v] (.r (.ag (x.mul y).v)):=by
 refine aT Tryz.func196 rfl ?_
 repeat' ((conv=>whnf);first|refine Vrounds.step mixed Tab_ok ?_|refine zu rfl (zq ?_)|refine zw rfl (zt ?_)|refine zm (by decide) (by decide) rfl ?_|refine Vadr.any (by decide) ?_|refine Vint.any (k:= .i64) ?_|refine Vrem.any (by decide) ?_|refine Vint.wmul _ 19 rfl rfl ?_|refine za rfl rfl ?_|refine ze (z30 _ _ _ _) ?_|refine ze (z30 0 0 _ _) ?_|refine Vcall.ext (zfq _ 0 0 (by decide)) ?_|refine Vcall.ext (zfq _ _ 0 (by decide)) ?_|refine Vshl.w _ 13 rfl rfl (by decide) ?_|refine Vshr.w _ 51 rfl rfl ?_|refine Vbits.wand _ msk rfl rfl ?_|refine Vbits.wor _ _ rfl rfl ?_|refine Vint.wadd _ _ rfl rfl ?_|refine ze (zj2 ⟨_,_,_,_,_⟩) ?_|refine Vloop.rounds 6 ?_)
 exactλ_ _ _ h=>h
theorem zdo(x:Fe):aG 269 [.ag x.v] (.r (.ag (x.mul x).v)):=by
 refine aT Tryz.func269 rfl ?_
 repeat' ((conv=>whnf);first|refine za rfl rfl ?_|refine ze (zbd ⟨_,_,_,_,_⟩ ⟨_,_,_,_,_⟩) ?_)
 exactλ_ _ _ h=>h
def Fe.least(y:Fe):Fe:=
 let x:=y.carry.carry
 let q:=shrW (x.e+shrW (x.d+shrW (x.c+shrW (x.b+shrW (x.a+19) 51) 51) 51) 51) 51
 let a:=x.a+19*q
 let b:=x.b+shrW a 51
 let c:=x.c+shrW b 51
 let d:=x.d+shrW c 51
 let e:=x.e+shrW d 51
 ⟨a&&&msk,b&&&msk,c&&&msk,d&&&msk,e&&&msk⟩
set_option maxHeartbeats 40000000 in
theorem zj3(x:Fe):aG 263 [.ag x.v] (.r (.ag x.least.v)):=by
 refine aT Tryz.func263 rfl ?_
 repeat' ((conv=>whnf);first|refine Vrounds.step mixed Tab_ok ?_|refine zu rfl (zq ?_)|refine zw rfl (zt ?_)|refine Vadr.any (by decide) ?_|refine Vint.any (k:= .i64) ?_|refine za rfl rfl ?_|refine ze (zj2 x) ?_|refine ze (zj2 x.carry) ?_|refine Vshr.w _ 51 rfl rfl ?_|refine Vbits.wand _ msk rfl rfl ?_|refine Vint.wadd _ 19 rfl rfl ?_|refine Vint.wadd _ _ rfl rfl ?_|refine Vint.wmul 19 _ rfl rfl ?_|refine aV ?_|refine Vloop.rounds 6 ?_)
 exactλ_ _ _ h=>h
set_option maxHeartbeats 4000000 in
theorem zuq(x:Fe):aG 250 [.ag x.v] (.r (.ag (Fe.sub ⟨0,0,0,0,0⟩ x).v)):=by
 refine aT Tryz.func250 rfl ?_
 repeat' ((conv=>whnf);first|refine za rfl rfl ?_|refine ze (zg5 ⟨0,0,0,0,0⟩ ⟨_,_,_,_,_⟩) ?_)
 exactλ_ _ _ h=>h
abbrev pv(x z:Fe):List RV:=[W x.a,W x.b,W x.c,W x.d,W x.e,W z.a,W z.b,W z.c,W z.d,W z.e]
def zdb(px pz qx qz u:Fe):(Fe×Fe)×(Fe×Fe):=
 let a:=px.add pz
 let b:=px.sub pz
 let c:=qx.add qz
 let d:=qx.sub qz
 let da:=d.mul a
 let cb:=c.mul b
 let aa:=a.mul a
 let bb:=b.mul b
 let e:=aa.sub bb
 let k:Fe:=⟨121665&&&msk,shrW 121665 51,0,0,0⟩
 let s:=da.add cb
 let t:=da.sub cb
 ((aa.mul bb,e.mul (aa.add (e.mul k))),(s.mul s,u.mul (t.mul t)))
set_option maxRecDepth 100000 in
set_option maxHeartbeats 40000000 in
theorem zqr(px pz qx qz u:Fe):aG 315 [.ag (pv px pz), .ag (pv qx qz), .ag u.v] (.r (.tu [.ag (pv (zdb px pz qx qz u).1.1 (zdb px pz qx qz u).1.2), .ag (pv (zdb px pz qx qz u).2.1 (zdb px pz qx qz u).2.2)])):=by
 refine aT Tryz.func315 rfl ?_
 repeat' ((conv=>whnf);first|refine za rfl rfl ?_|refine aV ?_)
 refine ze (zfh px pz) ?_
 repeat' ((conv=>whnf);first|refine za rfl rfl ?_|refine aV ?_)
 refine ze (zg5 px pz) ?_
 repeat' ((conv=>whnf);first|refine za rfl rfl ?_|refine aV ?_)
 refine ze (zfh qx qz) ?_
 repeat' ((conv=>whnf);first|refine za rfl rfl ?_|refine aV ?_)
 refine ze (zg5 qx qz) ?_
 repeat' ((conv=>whnf);first|refine za rfl rfl ?_|refine aV ?_)
 refine ze (zbd (qx.sub qz) (px.add pz)) ?_
 repeat' ((conv=>whnf);first|refine za rfl rfl ?_|refine aV ?_)
 refine ze (zbd (qx.add qz) (px.sub pz)) ?_
 repeat' ((conv=>whnf);first|refine za rfl rfl ?_|refine aV ?_)
 refine ze (zdo (px.add pz)) ?_
 repeat' ((conv=>whnf);first|refine za rfl rfl ?_|refine aV ?_)
 refine ze (zdo (px.sub pz)) ?_
 repeat' ((conv=>whnf);first|refine za rfl rfl ?_|refine aV ?_)
 refine ze (zg5 ((px.add pz).mul (px.add pz)) ((px.sub pz).mul (px.sub pz))) ?_
 repeat' ((conv=>whnf);first|refine za rfl rfl ?_|refine aV ?_)
 refine ze (zbd ((px.add pz).mul (px.add pz)) ((px.sub pz).mul (px.sub pz))) ?_
 repeat' ((conv=>whnf);first|refine za rfl rfl ?_|refine aV ?_)
 refine ze (zi7 121665) ?_
 repeat' ((conv=>whnf);first|refine za rfl rfl ?_|refine aV ?_)
 refine ze (zbd (Fe.sub ((px.add pz).mul (px.add pz)) ((px.sub pz).mul (px.sub pz))) ⟨121665&&&msk,shrW 121665 51,0,0,0⟩) ?_
 repeat' ((conv=>whnf);first|refine za rfl rfl ?_|refine aV ?_)
 refine ze (zfh ((px.add pz).mul (px.add pz)) (Fe.mul (Fe.sub ((px.add pz).mul (px.add pz)) ((px.sub pz).mul (px.sub pz))) ⟨121665&&&msk,shrW 121665 51,0,0,0⟩)) ?_
 repeat' ((conv=>whnf);first|refine za rfl rfl ?_|refine aV ?_)
 refine ze (zbd (Fe.sub ((px.add pz).mul (px.add pz)) ((px.sub pz).mul (px.sub pz))) (Fe.add ((px.add pz).mul (px.add pz)) (Fe.mul (Fe.sub ((px.add pz).mul (px.add pz)) ((px.sub pz).mul (px.sub pz))) ⟨121665&&&msk,shrW 121665 51,0,0,0⟩))) ?_
 repeat' ((conv=>whnf);first|refine za rfl rfl ?_|refine aV ?_)
 refine ze (zfh ((qx.sub qz).mul (px.add pz)) ((qx.add qz).mul (px.sub pz))) ?_
 repeat' ((conv=>whnf);first|refine za rfl rfl ?_|refine aV ?_)
 refine ze (zdo (Fe.add ((qx.sub qz).mul (px.add pz)) ((qx.add qz).mul (px.sub pz)))) ?_
 repeat' ((conv=>whnf);first|refine za rfl rfl ?_|refine aV ?_)
 refine ze (zg5 ((qx.sub qz).mul (px.add pz)) ((qx.add qz).mul (px.sub pz))) ?_
 repeat' ((conv=>whnf);first|refine za rfl rfl ?_|refine aV ?_)
 refine ze (zdo (Fe.sub ((qx.sub qz).mul (px.add pz)) ((qx.add qz).mul (px.sub pz)))) ?_
 repeat' ((conv=>whnf);first|refine za rfl rfl ?_|refine aV ?_)
 refine ze (zbd u (Fe.mul (Fe.sub ((qx.sub qz).mul (px.add pz)) ((qx.add qz).mul (px.sub pz))) (Fe.sub ((qx.sub qz).mul (px.add pz)) ((qx.add qz).mul (px.sub pz))))) ?_
 repeat' ((conv=>whnf);first|refine za rfl rfl ?_|refine aV ?_)
 exact⟨_,rfl,cr⟩
theorem bv8(z:UInt8):BitVec.ofInt 8 (z.toNat:Int)=z.toBitVec:=by
 rw[BitVec.ofInt_natCast]
 simp
theorem z9w(n:Nat):IntKind.u8.wrap (n:Int)=((UInt8.ofNat n).toNat:Int):=by
 rw[UInt8.toNat_ofNat']
 simp only[IntKind.wrap]
 simp[IntKind.bits,IntKind.signed]
theorem zyd(x:UInt8):IntKind.u8.wrap (x.toNat:Int)=(x.toNat:Int):=by rw[z9w];simp
theorem Vbits.or8{a b:Int}{K:Int->Prop}(x y:UInt8)(ha:a=(x.toNat:Int))(hb:b=(y.toNat:Int))(hK:K ((x|||y).toNat:Int)):Vbits .u8 .or a b K:=by
 subst ha;subst hb
 refine⟨_,?_,hK⟩
 show _=IntKind.u8.wrap (((BitVec.ofInt 8 (x.toNat:Int)|||BitVec.ofInt 8 (y.toNat:Int)).toNat:Nat):Int)
 rw[bv8,bv8,<-zyd]
 rfl
theorem Vbits.and8{a b:Int}{K:Int->Prop}(x y:UInt8)(ha:a=(x.toNat:Int))(hb:b=(y.toNat:Int))(hK:K ((x&&&y).toNat:Int)):Vbits .u8 .and a b K:=by
 subst ha;subst hb
 refine⟨_,?_,hK⟩
 show _=IntKind.u8.wrap (((BitVec.ofInt 8 (x.toNat:Int)&&&BitVec.ofInt 8 (y.toNat:Int)).toNat:Nat):Int)
 rw[bv8,bv8,<-zyd]
 rfl
theorem Vbits.andn8{a b:Int}{K:Int->Prop}(x y:UInt8)(ha:a=(x.toNat:Int))(hb:b=(y.toNat:Int))(hK:K ((x&&& ~~~y).toNat:Int)):Vbits .u8 .andNot a b K:=by
 subst ha;subst hb
 refine⟨_,?_,hK⟩
 show _=IntKind.u8.wrap (((BitVec.ofInt 8 (x.toNat:Int)&&& ~~~(BitVec.ofInt 8 (y.toNat:Int))).toNat:Nat):Int)
 rw[bv8,bv8,<-zyd]
 rfl
def shl8(x:UInt8)(n:Nat):UInt8:=UInt8.ofNat (x.toNat*2^n)
theorem Vshl.b{a b:Int}{K:Int->Prop}(x:UInt8)(n:Nat)(ha:a=(x.toNat:Int))(hb:b=(n:Int))(hn:n<=8)(hK:K ((shl8 x n).toNat:Int)):Vshl .u8 a b K:=by
 subst ha;subst hb
 refine⟨by omega,_,?_,hK⟩
 have hb:IntKind.u8.bits=8:=rfl
 rw[Int.toNat_natCast,hb,Nat.min_eq_left hn]
 unfold shl8
 rw[<-z9w]
 norm_cast
section
def ze4(x:Fe):List UInt64:=[x.a,x.b,x.c,x.d,x.e]
def bitB(o:List UInt8)(v:UInt64)(at_ k:Nat):List UInt8:=o.set ((at_+k)/8) (o.getD ((at_+k)/8) 0|||shl8 (UInt8.ofNat (shrW v k&&&1).toNat) ((at_+k)%8))
def rowB(o:List UInt8)(v:UInt64)(at_:Nat):Nat->List UInt8
 |0=>o
 |k+1=>bitB (rowB o v at_ k) v at_ k
def allF(x:Fe):Nat->List UInt8
 |0=>List.replicate 32 0
 |i+1=>rowB (allF x i) ((ze4 x).getD i 0) (i*51) 51
theorem zlq(o:List UInt8)(v:UInt64)(at_:Nat): ∀k,(rowB o v at_ k).length=o.length
 |0=>rfl
 |k+1=>by rw[rowB,bitB,List.length_set,zlq o v at_ k]
theorem zkp(x:Fe): ∀i,(allF x i).length=32
 |0=>by simp[allF]
 |i+1=>by rw[allF,zlq,zkp x i]
theorem zso(x:Fe)(i:Nat):allF x (i+1)=rowB (allF x i) ((ze4 x).getD i 0) (i*51) 51:=rfl
theorem zt0(o:List UInt8)(v:UInt64)(at_:Nat):rowB o v at_ 0=o:=rfl
theorem zsp(x:Fe):allF x 0=List.replicate 32 0:=rfl
attribute [irreducible] rowB allF ze4
def Fe.bytes(x:Fe):List UInt8:=allF x.least 5
theorem Fe.bytes_len(x:Fe):x.bytes.length=32:=zkp _ _
theorem Vquo.i64{a b:Int}{K:Int->Prop}(x y:Nat)(ha:a=(x:Int))(hb:b=(y:Int))(hy:0<y)(hx:x<9223372036854775808)(hK:K ((x/y:Nat):Int)):Vquo .i64 a b K:=by
 subst ha;subst hb
 refine⟨by omega,_,?_,hK⟩
 have h:=Nat.div_le_self x y
 rw[Int.tdiv_eq_ediv_of_nonneg (by omega),<-Int.natCast_ediv]
 generalize x/y=z at*
 exact wrap_i64 (by omega)
theorem zs32:(List.replicate ((32:Int).toNat) ([Value.int .u8 0].map ofC)).flatten=(List.replicate 32 (0:UInt8)).map U8:=by simp[ofC]
theorem zep{l:List UInt8}{j:Nat}(h:j<l.length):(l.map U8)[j]?=some (U8 (l.getD j 0)):=by
 rw[List.getElem?_map,List.getElem?_eq_getElem h,List.getD_eq_getElem?_getD,List.getElem?_eq_getElem h]
 rfl
theorem zzv(x:Fe){i:Nat}(hi:i<5):(x.v.drop (i*1)).take 1=[W ((ze4 x).getD i 0)]:=by
 have:i=0\/i=1\/i=2\/i=3\/i=4:=by omega
 unfold ze4
 rcases this with rfl |rfl |rfl |rfl |rfl<;>rfl
def outI(x:Fe)(i:Nat):St:={F:=[(3, .own 0),(12, .r (.ag x.v)),(13, .r (I i))],O:=[(0,some (.ch 5 1 32 ((allF x i).map U8) false))],nx:=1}
def inI(x:Fe)(i k:Nat):St:={F:=[(3, .own 0),(12, .r (.ag x.v)),(13, .r (I i)),(5, .r (W ((ze4 x).getD i 0))),(6, .r (I ((i*51:Nat):Int))),(19, .r (I k))],O:=[(0,some (.ch 5 1 32 ((rowB (allF x i) ((ze4 x).getD i 0) (i*51) k).map U8) false))],nx:=1}
set_option maxHeartbeats 1000000 in
theorem znz(x:Fe):aG 195 [.ag x.v] (bch x.bytes):=by
 refine za1 (T:=Tab) mixed Tab_ok Tryz.func195 rfl (by kernel_rfl) ?_
 refine za rfl rfl ?_
 refine ze (zj3 x) ?_
 refine⟨rfl,by decide,by decide,by decide,_,_,rfl,zs32,Vpub.own ?_⟩
 refine za rfl rfl ?_
 refine Vloop.mkx (outI x.least) (λi=>i<=5) (λi=>5-i) 0 (by omega) (zac [(0,1)] rfl ⟨rfl,cr,cr,trivial⟩ ⟨⟨rfl,rfl,rfl,rfl,by rw[zsp];exact zn _⟩,trivial⟩) ?_
 intro i hi
 refine zh (λh=>zq ?_) (λh=>zt ?_)
 ·simp only[zb]at h
  have hi':i<5:=by omega
  refine zm (by omega) (by simp;omega) (zzv x.least hi') ?_
  refine zd (m:=((i*51:Nat):Int)) (by omega) (by omega) ?_
  refine Vloop.mkx (inI x.least i) (λk=>k<=51) (λk=>51-k) 0 (by omega) (zac [(0,0)] rfl ⟨rfl,cr,cr,cr,cr,cr,trivial⟩ ⟨⟨rfl,rfl,rfl,rfl,by rw[zt0];exact zn _⟩,trivial⟩) ?_
  intro k hk
  refine zh (λh=>zq ?_) (λh=>zt ?_)
  ·simp only[zb]at h
   have hk':k<51:=by omega
   have hL:(rowB (allF x.least i) ((ze4 x.least).getD i 0) (i*51) k).length=32:=by rw[zlq,zkp]
   refine aV ?_
   refine zd (m:=((i*51+k:Nat):Int)) (by omega) (by omega) ?_
   refine Vquo.i64 (i*51+k) 8 rfl rfl (by omega) (by omega) ?_
   refine Vadr.mk' ((i*51+k)/8) rfl (by omega) ?_
   refine zg (f:=U8 ((rowB (allF x.least i) ((ze4 x.least).getD i 0) (i*51) k).getD ((i*51+k)/8) 0)) (by rw[Nat.mul_one];exact zep (by rw[hL];omega)) ?_
   refine Vshr.w _ k rfl rfl ?_
   refine Vbits.wand _ 1 rfl rfl ?_
   refine Vint.u8 _ rfl ?_
   refine zd (m:=((i*51+k:Nat):Int)) (by omega) (by omega) ?_
   refine Vrem.nat (i*51+k) 8 rfl rfl (by omega) ?_
   refine Vshl.b _ ((i*51+k)%8) rfl rfl (by omega) ?_
   refine Vbits.or8 _ _ rfl rfl ?_
   refine Vadr.mk' ((i*51+k)/8) rfl (by omega) ?_
   refine⟨by rw[List.length_map,hL];show(i*51+k)/8*1+1<=32;omega,(rowB (allF x.least i) ((ze4 x.least).getD i 0) (i*51) (k+1)).map U8,?_,?_⟩
   ·rw[rowB,bitB,Nat.mul_one]
    exact zb9 (by rw[hL];omega)
   refine zd (m:=((k+1:Nat):Int)) (by omega) (by omega) ?_
   exact⟨k+1,by omega,by omega,zac [(0,0)] rfl ⟨rfl,cr,cr,cr,cr,cr,trivial⟩ ⟨⟨rfl,rfl,rfl,rfl,zn _⟩,trivial⟩⟩
  ·simp only[zb]at h
   obtain rfl:k=51:=by omega
   refine⟨_,zo _,?_⟩
   refine zd (m:=((i+1:Nat):Int)) (by omega) (by omega) ?_
   exact⟨i+1,by omega,by omega,zac [(0,0)] rfl ⟨rfl,cr,cr,trivial⟩ ⟨⟨rfl,rfl,rfl,rfl,by rw[zso];exact zn _⟩,trivial⟩⟩
 ·simp only[zb]at h
  obtain rfl:i=5:=by omega
  refine⟨_,zo _,?_⟩
  refine⟨_,za7 (id:=0) rfl,?_⟩
  exact congrArg (λn=>some (Ow.ch 5 1 n (x.bytes.map U8) true)) x.bytes_len.symm
end
section
def zb0(b:List UInt8)(at_:Nat):Nat->UInt64
 |0=>0
 |j+1=>shlW (zb0 b at_ j) 8|||UInt64.ofNat (b.getD (at_+(7-j)) 0).toNat
theorem zrr(b:List UInt8)(at_:Nat):zb0 b at_ 0=0:=rfl
theorem zrq(b:List UInt8)(at_ j:Nat):zb0 b at_ (j+1)=shlW (zb0 b at_ j) 8|||UInt64.ofNat (b.getD (at_+(7-j)) 0).toNat:=rfl
attribute [irreducible] zb0
def Fe.of(b:List UInt8):Fe:=⟨zb0 b 0 8&&&msk,shrW (zb0 b 6 8) 3&&&msk,shrW (zb0 b 12 8) 6&&&msk,shrW (zb0 b 19 8) 1&&&msk,shrW (zb0 b 24 8) 12&&&msk⟩
abbrev boxB(b:List UInt8):Ow:= .box ((b.map U8).map .r)
theorem zzj{l:List UInt8}{j:Nat}(h:j<l.length):((l.map U8).map TF.r)[j]?=some (.r (U8 (l.getD j 0))):=by
 rw[List.getElem?_map,zep h]
 rfl
def z2j(b:List UInt8)(at_:Nat)(v:Value)(j:Nat):St:={F:=[(0, .r (I at_)),(1, .own 0),(4, .r (W (zb0 b at_ j))),(5, .r (I (7-(j:Int)))),(1000000, .nm 0 v)],O:=[(0,some (boxB b))],nx:=1}
theorem zyb(b:List UInt8)(at_:Nat)(v:Value)(j:Nat):stOk [(0,0)] (z2j b at_ v j)=true:=by
 have h:=zdw (b.map U8) 1
 simp only[stOk,z2j,boxB,List.all_cons,List.all_nil,zdl,h]
 rfl
theorem zms(v:Value)(b:List UInt8)(hb:b.length=32)(at_:Nat)(ha:at_<=24):Acts aP 304 1 [(0,boxB b)] [.r (I at_), .own 0] [(0,v)] 1 [(0,boxB b)] (.r (W (zb0 b at_ 8))):=by
 refine zb6 (T:=Tab) mixed Tab_ok Tryz.func304 rfl (by kernel_rfl) rfl ⟨⟨_,_,rfl,rfl,zbw,zbw⟩,trivial⟩ ?_
 refine Vloop.mk' (z2j b at_ v) (λj=>j<=8) (λj=>8-j) 0 (by omega) (zac [(0,0)] (zyb b at_ v _) ⟨cr,rfl,by rw[zrr];exact cr,cr,⟨rfl,rfl⟩,trivial⟩ ⟨zad _,trivial⟩) ?_
 intro j hj
 refine zh (λh=>zq ?_) (λh=>zt ?_)
 ·simp only[zb]at h
  have hj':j<8:=by omega
  refine Vshl.w _ 8 rfl rfl (by decide) ?_
  refine zd (m:=((at_+(7-j):Nat):Int)) (by omega) (by omega) ?_
  refine Vadr.mk' (at_+(7-j)) rfl (by omega) ?_
  (conv=>whnf)
  generalize hq:lget _ _=q
  obtain rfl:q=some (TF.r (U8 (b.getD (at_+(7-j)) 0))):=hq.symm.trans ((zao _ ((at_+(7-j))*1)).trans (by rw[Nat.mul_one];exact zzj (by omega)))
  clear hq
  refine Vint.w _ rfl ?_
  refine Vbits.wor _ _ rfl rfl ?_
  refine zd (m:=7-((j+1:Nat):Int)) (by omega) (by omega) ?_
  exact⟨j+1,by omega,by omega,zac [(0,0)] (zyb b at_ v _) ⟨cr,rfl,by rw[zrq];exact cr,cr,⟨rfl,rfl⟩,trivial⟩ ⟨zad _,trivial⟩⟩
 ·simp only[zb]at h
  obtain rfl:j=8:=by omega
  exact zfc (.inl rfl) [(0,0)] [(3, .r (W (zb0 b at_ 8)))] [] (by have h:=zdw (b.map U8) 1;simp only[stOk,lift,boxB,List.map_cons,List.map_nil,List.append_nil,List.all_cons,List.all_nil,zdl,h];rfl) ⟨cr,⟨rfl,rfl⟩,trivial⟩ ⟨zad _,trivial⟩ ⟨⟨1000000,rfl⟩,trivial⟩ (cr)
theorem zb2b{l:List TF}{ys:List RV}(h:l.length=ys.length):l.take 0++(ys.take ys.length).map TF.r++l.drop (0+ys.length)=ys.map TF.r:=by
 rw[List.take_zero,List.nil_append,List.take_length,Nat.zero_add,<-h,List.drop_length,List.append_nil]
theorem h_of(b:List UInt8)(hb:b.length=32):aG 248 [bs b] (.r (.ag (Fe.of b).v)):=by
 refine aT Tryz.func248 rfl ?_
 refine Vstep.val Tab_ok ?_
 refine Vcutn.mk' 0 32 rfl rfl (by decide) (by decide) ?_
 refine Vstep.copyBox Tab_ok rfl rfl rfl rfl rfl rfl rfl (by decide) rfl (.inl rfl) (zs:=(b.map U8).map .r) ?_ ?_
 ·have e:Nat.min b.length 32=(b.map U8).length:=by rw[hb,List.length_map,hb];rfl
  rw[e]
  exact zb2b (by rw[List.length_map,List.length_map,hb];rfl)
 refine Vstep.nm 1 1000000 rfl λp=>Vstep.mkfunX [p] rfl ⟨_,_,rfl,⟨1,1000000,rfl,rfl⟩,rfl⟩ ?_
 refine Vstep.actsBox 1 (λv=>zms v b hb 0 (by decide)) (Handed.clo (fs:=[.r (I 0)]) (cs:=[.own 0]) rfl rfl ⟨_,_,rfl,cr,rfl⟩ ⟨_,_,rfl,⟨1,1000000,rfl,rfl⟩,rfl⟩) rfl ?_
 refine Vbits.wand _ msk rfl rfl ?_
 refine Vstep.actsBox 1 (λv=>zms v b hb 6 (by decide)) (Handed.clo (fs:=[.r (I 6)]) (cs:=[.own 0]) rfl rfl ⟨_,_,rfl,cr,rfl⟩ ⟨_,_,rfl,⟨1,1000000,rfl,rfl⟩,rfl⟩) rfl ?_
 refine Vshr.w _ 3 rfl rfl ?_
 refine Vbits.wand _ msk rfl rfl ?_
 refine Vstep.actsBox 1 (λv=>zms v b hb 12 (by decide)) (Handed.clo (fs:=[.r (I 12)]) (cs:=[.own 0]) rfl rfl ⟨_,_,rfl,cr,rfl⟩ ⟨_,_,rfl,⟨1,1000000,rfl,rfl⟩,rfl⟩) rfl ?_
 refine Vshr.w _ 6 rfl rfl ?_
 refine Vbits.wand _ msk rfl rfl ?_
 refine Vstep.actsBox 1 (λv=>zms v b hb 19 (by decide)) (Handed.clo (fs:=[.r (I 19)]) (cs:=[.own 0]) rfl rfl ⟨_,_,rfl,cr,rfl⟩ ⟨_,_,rfl,⟨1,1000000,rfl,rfl⟩,rfl⟩) rfl ?_
 refine Vshr.w _ 1 rfl rfl ?_
 refine Vbits.wand _ msk rfl rfl ?_
 refine Vstep.actsBox 1 (λv=>zms v b hb 24 (by decide)) (Handed.clo (fs:=[.r (I 24)]) (cs:=[.own 0]) rfl rfl ⟨_,_,rfl,cr,rfl⟩ ⟨_,_,rfl,⟨1,1000000,rfl,rfl⟩,rfl⟩) rfl ?_
 refine Vshr.w _ 12 rfl rfl ?_
 refine Vbits.wand _ msk rfl rfl ?_
 repeat' ((conv=>whnf);first|refine za rfl rfl ?_)
 exactλ_ _ _ h=>h
end
section
def rorW(x:UInt64)(n:Nat):UInt64:=shlW x (64-n)|||shrW x n
theorem Vbits.wandN{a b:Int}{K:Int->Prop}(x y:UInt64)(m:Nat)(ha:a=(x.toNat:Int))(hb:b=(y.toNat:Int))(hm:(x&&&y).toNat=m)(hK:K (m:Int)):Vbits .u64 .and a b K:=Vbits.wand x y ha hb (by rw[hm];exact hK)
theorem zdpb(x:UInt64)(n:Nat)(hn:1<=n/\n<=63):aG 377 [W x,I (-(n:Int))] (.r (W (rorW x n))):=by
 refine aT Tryz.func377 rfl ?_
 have e1:(UInt64.ofNat (18446744073709551616-n)).toNat=18446744073709551616-n:=by rw[UInt64.toNat_ofNat'];omega
 refine Vint.n ((UInt64.ofNat (18446744073709551616-n)).toNat:Int) (by rw[e1];simp only[IntKind.wrap];simp[IntKind.bits,IntKind.signed];omega) ?_
 refine Vbits.wandN (UInt64.ofNat (18446744073709551616-n)) 63 (64-n) rfl rfl (by
  rw[UInt64.toNat_and,e1]
  have:=Nat.and_two_pow_sub_one_eq_mod (18446744073709551616-n) 6
  have e:(63:UInt64).toNat=2^6-1:=rfl
  rw[e,this]
  omega) ?_
 refine Vshl.w x (64-n) rfl rfl (by omega) ?_
 refine Vint.u64 n (by omega) (by omega) ?_
 refine Vshr.w x n rfl rfl ?_
 refine Vbits.wor _ _ rfl rfl ?_
 exact cr
theorem zc0(x:UInt64)(n:Nat)(hn:1<=n/\n<=63):aG 356 [W x,I n] (.r (W (rorW x n))):=by
 refine aT Tryz.func356 rfl ?_
 refine zd (m:= -(n:Int)) (by omega) (by omega) ?_
 refine ze (zdpb x n hn) ?_
 exact cr
abbrev boxW(l:List UInt64):Ow:= .box ((l.map W).map .r)
theorem zhy{l:List UInt64}{j:Nat}(h:j<l.length):lget ((l.map W).map TF.r) (j*1)=some (TF.r (W (l.getD j 0))):=zk4 W 0 h
theorem zxh{l:List UInt64}{j:Nat}{x:UInt64}{K:List TF->Prop}(h:j<l.length)(hK:K (((l.set j x).map W).map TF.r)):putK ((l.map W).map TF.r) (j*1) [TF.r (W x)] K:=zxg h hK
def zhx(c:List UInt8):Nat->UInt64
 |0=>0
 |j+1=>shlW (zhx c j) 8|||UInt64.ofNat (c.getD j 0).toNat
def wA(b:List UInt8)(t:Nat):List UInt64:=(List.range 80).map λi=>if i<t then zhx (b.drop (8*i)) 8 else 0
def wI(b:List UInt8)(t j:Nat):List UInt64:=(wA b t).set t (zhx (b.drop (8*t)) j)
theorem zx8(b:List UInt8)(t:Nat):(wA b t).length=80:=by simp[wA]
theorem zx9(b:List UInt8)(t j:Nat):(wI b t j).length=80:=by simp[wI,wA]
theorem zcib(b:List UInt8)(t:Nat)(ht:t<80):wI b t 0=wA b t:=by
 apply List.ext_getElem
 ·simp[wI]
 ·intro i h1 h2
  simp only[wI,List.getElem_set]
  split
  ·rename_i h;subst h;simp[wA,zhx]
  ·rfl
theorem ze5b(b:List UInt8)(t:Nat):wI b t 8=wA b (t+1):=by
 apply List.ext_getElem
 ·simp[wI,wA]
 ·intro i h1 h2
  simp only[wI,List.getElem_set,wA,List.getElem_map,List.getElem_range]
  split
  ·rename_i h;subst h;simp
  ·rename_i h
   by_cases h3:i<t
   ·rw[if_pos h3,if_pos (by omega)]
   ·rw[if_neg h3,if_neg (by omega)]
theorem ze6b(b:List UInt8)(t j:Nat)(ht:t<80):(wI b t j).getD t 0=zhx (b.drop (8*t)) j:=by
 rw[wI,List.getD_eq_getElem?_getD,List.getElem?_set_self (by rw[zx8];exact ht)]
 rfl
theorem ze7b(b:List UInt8)(t j:Nat)(x:UInt64)(hx:x=zhx (b.drop (8*t)) (j+1)):(wI b t j).set t x=wI b t (j+1):=by
 rw[hx,wI,List.set_set]
 rfl
theorem z0x(c:List UInt8)(j:Nat):zhx c (j+1)=shlW (zhx c j) 8|||UInt64.ofNat (c.getD j 0).toNat:=rfl
attribute [irreducible] wA wI zhx
end
section
def wS(x y p q:UInt64):UInt64:=((rorW y 19^^^rorW y 61)^^^shrW y 6)+p+((rorW x 1^^^rorW x 8)^^^shrW x 7)+q
def wB(b:List UInt8):Nat->List UInt64
 |0=>wA b 16
 |k+1=>(wB b k).set (16+k) (wS ((wB b k).getD (k+1) 0) ((wB b k).getD (k+14) 0) ((wB b k).getD (k+9) 0) ((wB b k).getD k 0))
theorem zcm(b:List UInt8): ∀k,(wB b k).length=80
 |0=>zx8 b 16
 |k+1=>by rw[wB,List.length_set,zcm b k]
theorem zchb(b:List UInt8):wB b 0=wA b 16:=rfl
theorem zcgb(b:List UInt8)(k:Nat):wB b (k+1)=(wB b k).set (16+k) (wS ((wB b k).getD (k+1) 0) ((wB b k).getD (k+14) 0) ((wB b k).getD (k+9) 0) ((wB b k).getD k 0)):=rfl
theorem zcfb(b:List UInt8):wA b 0=List.replicate 80 0:=by
 apply List.ext_getElem
 ·simp[zx8]
 ·intro i h1 h2
  unfold wA
  simp only[List.getElem_map,List.getElem_replicate,Nat.not_lt_zero,if_false]
attribute [irreducible] wB
theorem z2q{x:UInt64}{l:List UInt64}{j:Nat}(h:j<l.length):(za4 (W x)&&(Nat.beq (cellsOf (W x)).length 1&&Nat.ble (j*1+1) ((l.map W).map TF.r).length))=true:=zrx (by rw[List.length_map,List.length_map];exact h)
def woA(b:List UInt8)(t:Nat):St:={F:=[(0, .r (bs b)),(2, .own 0),(3, .own 1),(10, .r (I t))],O:=[(0,some (boxW (List.replicate 80 0))),(1,some (boxW (wA b t)))],nx:=2}
def woI(b:List UInt8)(t j:Nat):St:={F:=[(0, .r (bs b)),(2, .own 0),(3, .own 1),(10, .r (I t)),(4, .r (I t)),(19, .r (.sl 1 8 (((b.drop (8*t)).take 8).map U8))),(20, .r (I 8)),(21, .r (I j))],O:=[(0,some (boxW (List.replicate 80 0))),(1,some (boxW (wI b t j)))],nx:=2}
def woB(b:List UInt8)(k:Nat):St:={F:=[(2, .own 0),(3, .own 1),(7, .r (I ((16+k:Nat):Int)))],O:=[(0,some (boxW (List.replicate 80 0))),(1,some (boxW (wB b k)))],nx:=2}
theorem z53(b:List UInt8)(t:Nat):stOk [(0,0),(1,1)] (woA b t)=true:=by
 simp only[stOk,woA,boxW,List.all_cons,List.all_nil,zdl,zdw]
 rfl
theorem z55(b:List UInt8)(t j:Nat):stOk [(0,0),(1,1)] (woI b t j)=true:=by
 simp only[stOk,woI,boxW,List.all_cons,List.all_nil,zdl,zdw]
 rfl
theorem z54(b:List UInt8)(k:Nat):stOk [(0,0),(1,1)] (woB b k)=true:=by
 simp only[stOk,woB,boxW,List.all_cons,List.all_nil,zdl,zdw]
 rfl
set_option maxHeartbeats 1000000 in
theorem zbcb(b:List UInt8)(hb:b.length=128):aG 355 [bs b] (.r (.ag ((wB b 64).map W))):=by
 refine aT Tryz.func355 rfl ?_
 refine Vloop.mk' (woA b) (λt=>t<=16) (λt=>16-t) 0 (by omega) (zac [(0,0),(1,1)] (z53 b 0) ⟨cr,rfl,rfl,cr,trivial⟩ ⟨zad ((List.replicate 80 (0:UInt64)).map W),by rw[zcfb];exact zad ((List.replicate 80 (0:UInt64)).map W),trivial⟩) ?_
 intro t ht
 refine zh (λh=>zq ?_) (λh=>zt ?_)
 ·simp only[zb]at h
  refine zd (m:=((8*t:Nat):Int)) (by omega) (by omega) ?_
  refine zd (m:=((8*t:Nat):Int)) (by omega) (by omega) ?_
  refine zd (m:=((8*t+8:Nat):Int)) (by omega) (by omega) ?_
  refine⟨by omega,by omega,by omega,8,((b.drop (8*t)).take 8).map U8,by omega,by rw[Nat.mul_one,Int.toNat_natCast,Nat.mul_one,<-List.map_drop,<-List.map_take],?_⟩
  refine Vloop.mk' (woI b t) (λj=>j<=8) (λj=>8-j) 0 (by omega) (zac [(0,0),(1,1)] (z55 b t 0) ⟨cr,rfl,rfl,cr,cr,cr,cr,cr,trivial⟩ ⟨zad ((List.replicate 80 (0:UInt64)).map W),by rw[zcib b t (by omega)];exact zad ((wA b t).map W),trivial⟩) ?_
  intro j hj
  refine zh (λh=>zq ?_) (λh=>zt ?_)
  ·simp only[zb]at h
   have hc:((b.drop (8*t)).take 8).length=8:=by rw[List.length_take,List.length_drop];omega
   have ht':t<16:=by omega
   refine zm (by omega) (by omega) (zan rfl (i:=j) (by rw[hc];omega)) (zg rfl ?_)
   refine Vadr.mk' t rfl (by omega) ?_
   (conv=>whnf)
   generalize hq:lget _ _=q
   obtain rfl:=hq.symm.trans (zhy (by rw[zx9];omega))
   clear hq
   refine Vshl.w _ 8 rfl rfl (by decide) ?_
   refine Vint.w _ rfl ?_
   refine Vbits.wor _ _ rfl rfl ?_
   refine Vadr.mk' t rfl (by omega) ?_
   (conv=>whnf)
   generalize hq:(za4 _&&_)=q
   obtain rfl:=hq.symm.trans (z2q (x:=shlW ((wI b t j).getD t 0) 8|||UInt64.ofNat (((b.drop (8*t)).take 8)[j]).toNat) (j:=t) (by rw[zx9];omega))
   clear hq
   refine zxh (by rw[zx9];omega) ?_
   rw[ze7b b t j _ (by
    rw[ze6b b t j (by omega),z0x,List.getElem_take,List.getD_eq_getElem?_getD,List.getElem?_eq_getElem (by rw[List.length_drop];omega)]
    rfl)]
   refine zd (m:=((j+1:Nat):Int)) (by omega) (by omega) ?_
   exact⟨j+1,by omega,by omega,zac [(0,0),(1,1)] (z55 b t (j+1)) ⟨cr,rfl,rfl,cr,cr,cr,cr,cr,trivial⟩ ⟨zad ((List.replicate 80 (0:UInt64)).map W),zad ((wI b t (j+1)).map W),trivial⟩⟩
  ·simp only[zb]at h
   obtain rfl:j=8:=by omega
   refine zd (m:=((t+1:Nat):Int)) (by omega) (by omega) ?_
   exact⟨t+1,by omega,by omega,zac [(0,0),(1,1)] (z53 b (t+1)) ⟨cr,rfl,rfl,cr,trivial⟩ ⟨zad ((List.replicate 80 (0:UInt64)).map W),by rw[<-ze5b b t];exact zad ((wI b t 8).map W),trivial⟩⟩
 ·simp only[zb]at h
  obtain rfl:t=16:=by omega
  refine Vloop.mk' (woB b) (λk=>k<=64) (λk=>64-k) 0 (by omega) (zac [(0,0),(1,1)] (z54 b 0) ⟨rfl,rfl,cr,trivial⟩ ⟨zad ((List.replicate 80 (0:UInt64)).map W),by rw[zchb];exact zad ((wA b 16).map W),trivial⟩) ?_
  intro k hk
  refine zh (λh=>zq ?_) (λh=>zt ?_)
  ·simp only[zb]at h
   have hk':k<64:=by omega
   refine aV ?_
   refine zd (m:=((k+1:Nat):Int)) (by omega) (by omega) ?_
   (conv=>whnf)
   generalize hq:zaz _ _ _ _ _=q
   obtain rfl:=hq.symm.trans (zbc rfl rfl rfl)
   clear hq
   refine Vadr.mk' (k+1) rfl (by omega) ?_
   (conv=>whnf)
   generalize hq:zaz _ _ _ _ _=q
   obtain rfl:=hq.symm.trans (zbc rfl rfl rfl)
   clear hq
   (conv=>whnf)
   generalize hq:lget _ _=q
   obtain rfl:=hq.symm.trans (zhy (l:=wB b k) (j:=k+1) (by rw[zcm];omega))
   clear hq
   refine zd (m:=((k+14:Nat):Int)) (by omega) (by omega) ?_
   (conv=>whnf)
   generalize hq:zaz _ _ _ _ _=q
   obtain rfl:=hq.symm.trans (zbc rfl rfl rfl)
   clear hq
   refine Vadr.mk' (k+14) rfl (by omega) ?_
   (conv=>whnf)
   generalize hq:zaz _ _ _ _ _=q
   obtain rfl:=hq.symm.trans (zbc rfl rfl rfl)
   clear hq
   (conv=>whnf)
   generalize hq:lget _ _=q
   obtain rfl:=hq.symm.trans (zhy (l:=wB b k) (j:=k+14) (by rw[zcm];omega))
   clear hq
   refine aV ?_
   refine ze (zc0 _ 19 (by decide)) ?_
   refine ze (zc0 _ 61 (by decide)) ?_
   refine Vbits.wxor _ _ rfl rfl ?_
   refine Vshr.w _ 6 rfl rfl ?_
   refine Vbits.wxor _ _ rfl rfl ?_
   refine zd (m:=((k+9:Nat):Int)) (by omega) (by omega) ?_
   (conv=>whnf)
   generalize hq:zaz _ _ _ _ _=q
   obtain rfl:=hq.symm.trans (zbc rfl rfl rfl)
   clear hq
   refine Vadr.mk' (k+9) rfl (by omega) ?_
   (conv=>whnf)
   generalize hq:zaz _ _ _ _ _=q
   obtain rfl:=hq.symm.trans (zbc rfl rfl rfl)
   clear hq
   (conv=>whnf)
   generalize hq:lget _ _=q
   obtain rfl:=hq.symm.trans (zhy (l:=wB b k) (j:=k+9) (by rw[zcm];omega))
   clear hq
   refine Vint.wadd _ _ rfl rfl ?_
   refine ze (zc0 _ 1 (by decide)) ?_
   refine ze (zc0 _ 8 (by decide)) ?_
   refine Vbits.wxor _ _ rfl rfl ?_
   refine Vshr.w _ 7 rfl rfl ?_
   refine Vbits.wxor _ _ rfl rfl ?_
   refine Vint.wadd _ _ rfl rfl ?_
   refine zd (m:=(k:Int)) (by omega) (by omega) ?_
   (conv=>whnf)
   generalize hq:zaz _ _ _ _ _=q
   obtain rfl:=hq.symm.trans (zbc rfl rfl rfl)
   clear hq
   refine Vadr.mk' k rfl (by omega) ?_
   (conv=>whnf)
   generalize hq:zaz _ _ _ _ _=q
   obtain rfl:=hq.symm.trans (zbc rfl rfl rfl)
   clear hq
   (conv=>whnf)
   generalize hq:lget _ _=q
   obtain rfl:=hq.symm.trans (zhy (l:=wB b k) (j:=k) (by rw[zcm];omega))
   clear hq
   refine Vint.wadd _ _ rfl rfl ?_
   (conv=>whnf)
   generalize hq:zaz _ _ _ _ _=q
   obtain rfl:=hq.symm.trans (zbc rfl rfl rfl)
   clear hq
   refine Vadr.mk' (16+k) rfl (by omega) ?_
   (conv=>whnf)
   generalize hq:(za4 _&&_)=q
   obtain rfl:=hq.symm.trans (z2q (x:=wS ((wB b k).getD (k+1) 0) ((wB b k).getD (k+14) 0) ((wB b k).getD (k+9) 0) ((wB b k).getD k 0)) (j:=16+k) (by rw[zcm];omega))
   clear hq
   refine zxh (by rw[zcm];omega) ?_
   refine zd (m:=((16+(k+1):Nat):Int)) (by omega) (by omega) ?_
   exact⟨k+1,by omega,by omega,zac [(0,0),(1,1)] (z54 b (k+1)) ⟨rfl,rfl,cr,trivial⟩ ⟨zad ((List.replicate 80 (0:UInt64)).map W),by rw[zcgb];exact zad _,trivial⟩⟩
  ·simp only[zb]at h
   obtain rfl:k=64:=by omega
   refine za (l:=((wB b 64).map W).map TF.r) (List.take_of_length_le (by simp[zcm])) (by simp[zcm]) ?_
   (conv=>whnf)
   generalize hq:St.rvs _ _=q
   obtain rfl:=hq.symm.trans (zgv _ _)
   clear hq
   (conv=>whnf)
   generalize hq:(za4 _&&_)=q
   have hg:(za4 (.ag ((wB b 64).map W))&&(Nat.beq (cellsOf (.ag ((wB b 64).map W))).length 80&&Nat.ble (0+80) (((List.replicate 80 (0:UInt64)).map W).map TF.r).length))=true:=by
    have e1:(cellsOf (.ag ((wB b 64).map W))).length=80:=by show((wB b 64).map W).length=80;rw[List.length_map,zcm]
    rw[e1]
    have e2:za4 (.ag ((wB b 64).map W))=true:=rfl
    rw[e2]
    rfl
   obtain rfl:=hq.symm.trans hg
   clear hq
   show putK _ _ _ _
   rw[zef _ _ _ _ (by simp[zcm,cellsOf])]
   generalize hq:(List.take 0 _++_++_:List TF)=q
   have hg:(((List.replicate 80 (0:UInt64)).map W).map TF.r).take 0++((wB b 64).map W).map TF.r++(((List.replicate 80 (0:UInt64)).map W).map TF.r).drop (0+(((wB b 64).map W).map TF.r).length)=((wB b 64).map W).map TF.r:=by
    rw[List.length_map,List.length_map,zcm]
    exact List.append_nil _
   obtain rfl:=hq.symm.trans hg
   clear hq
   refine za (l:=((wB b 64).map W).map TF.r) (List.take_of_length_le (by simp[zcm])) (by simp[zcm]) ?_
   (conv=>whnf)
   generalize hq:St.rvs _ _=q
   obtain rfl:=hq.symm.trans (zgv _ _)
   clear hq
   exact cr
end
end Go.Proofs.YtpcfoglfakeimaaGreat.Sx
