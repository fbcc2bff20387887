import Derived.Laws.ComplexArith
import Derived.Test.YtpdllgbfemnemaaGreatZSxY
import Derived.Test.YtpdllgbfemnemaaGreatZSxW
import Derived.Laws.Cover3
namespace Go.Proofs.YtpdllgbfemnemaaGreat.Sx
open Go.RowKit
set_option linter.unusedVariables false
section
open Ieee
def fw(s:Bool)(n:Nat):Nat:=double.nearest s n 0
def fq(n:Nat):Nat:=if n=0 then 1074 else 52-n.log2
theorem zwe:double.leastPlace= -1074:=by decide
theorem zle{n:Nat}(hn:n≠0)(k:Nat):(n*2^k).log2=n.log2+k:=by
 have h1:=Nat.log2_self_le hn
 have h2:=Nat.lt_log2_self (n:=n)
 rw[Nat.log2_eq_iff (Nat.mul_ne_zero hn (by have:=Nat.two_pow_pos k;omega))]
 refine⟨?_,?_⟩
 ·rw[Nat.pow_add];exact Nat.mul_le_mul_right _ h1
 ·rw[show n.log2+k+1=(n.log2+1)+k by omega,Nat.pow_add]
  exact Nat.mul_lt_mul_of_pos_right h2 (Nat.two_pow_pos k)
theorem zx1(s:Bool)(m d:Nat):Toward.even.cut s (m*2^d) d=m:=by
 unfold Toward.cut
 rcases Nat.eq_zero_or_pos m with rfl |hm
 ·simp
 have hp:=Nat.two_pow_pos d
 have hl:d<=(m*2^d).log2+2:=by rw[zle (by omega)];omega
 simp only[Nat.min_eq_left hl,Nat.one_shiftLeft,Nat.mul_div_cancel _ hp,Nat.mul_mod_left]
 simp
theorem zpb(s:Bool){n:Nat}(hn:n<2^53)(k:Nat):double.nearest s (n*2^k) (-(k:Int))=if n=0 then double.word s 0 else double.word s ((n.log2+1022)*2^52+n*2^(52-n.log2)):=by
 by_cases h0:n=0
 ·subst h0;simp[Format.nearest]
 rw[if_neg h0]
 have hL:n.log2<53:=(Nat.log2_lt h0).2 hn
 have hp:=Nat.two_pow_pos k
 unfold Format.nearest
 rw[if_neg (Nat.mul_ne_zero h0 (by omega)),zle h0]
 have hf:double.fractionBits=52:=rfl
 have hlast:max (-(k:Int)+((n.log2+k:Nat):Int)-(double.fractionBits:Nat)) double.leastPlace=(n.log2:Int)-52:=by
  rw[zwe,hf];omega
 simp only[hlast]
 have hb:double.binade=2^52:=rfl
 have e1:((n.log2:Int)-52-double.leastPlace).toNat=n.log2+1022:=by rw[zwe];omega
 have hkept:Toward.even.cut s ((n*2^k)<<<(-(k:Int)-((n.log2:Int)-52)).toNat) ((n.log2:Int)-52- -(k:Int)).toNat=n*2^(52-n.log2):=by
  rcases Nat.lt_or_ge (52-n.log2) k with hk |hk
  ·have e2:(-(k:Int)-((n.log2:Int)-52)).toNat=0:=by omega
   have e3:((n.log2:Int)-52- -(k:Int)).toNat=k-(52-n.log2):=by omega
   rw[e2,e3,Nat.shiftLeft_zero,show n*2^k=n*2^(52-n.log2)*2^(k-(52-n.log2))by rw[Nat.mul_assoc,<-Nat.pow_add];congr 2;omega]
   exact zx1 s _ _
  ·have e2:(-(k:Int)-((n.log2:Int)-52)).toNat=52-n.log2-k:=by omega
   have e3:((n.log2:Int)-52- -(k:Int)).toNat=0:=by omega
   rw[e2,e3,Nat.shiftLeft_eq,show n*2^k*2^(52-n.log2-k)=n*2^(52-n.log2)*2^0 by rw[Nat.mul_assoc,<-Nat.pow_add];simp;congr 2;omega]
   exact zx1 s _ _
 rw[hkept,e1,hb]
 congr 1
 have hi:double.infRung=2047*2^52:=rfl
 rw[hi]
 have hlt:n*2^(52-n.log2)<2^53:=by
  have h2:=Nat.lt_log2_self (n:=n)
  have:n*2^(52-n.log2)<2^(n.log2+1)*2^(52-n.log2):=Nat.mul_lt_mul_of_pos_right h2 (Nat.two_pow_pos _)
  rwa[<-Nat.pow_add,show n.log2+1+(52-n.log2)=53 by omega]at this
 refine Nat.min_eq_left ?_
 omega
theorem zy1(s:Bool){n:Nat}(hn:n<2^53):fw s n=if n=0 then double.word s 0 else double.word s ((n.log2+1022)*2^52+n*2^(52-n.log2)):=by
 have:=zpb s hn 0
 simpa[fw]using this
theorem zt6(s:Bool){n:Nat}(hn:n<2^53)(k:Nat):double.nearest s (n*2^k) (-(k:Int))=fw s n:=by rw[zpb s hn,zy1 s hn]
theorem zjb(s:Bool){n:Nat}(hn:n<2^53):double.read (fw s n)= .number s (n*2^fq n) (-(fq n:Int)):=by
 rw[zy1 s hn]
 have hsw:double.signWeight=2^63:=rfl
 have hb:double.binade=2^52:=rfl
 have hi:double.infRung=2047*2^52:=rfl
 by_cases h0:n=0
 ·subst h0
  rw[if_pos rfl,Nat.zero_mul]
  cases s<;>decide
 rw[if_neg h0]
 have hL:n.log2<53:=(Nat.log2_lt h0).2 hn
 have h1:=Nat.log2_self_le h0
 have h2:=Nat.lt_log2_self (n:=n)
 have e5:(-1074:Int)+((n.log2+1023-1:Nat):Int)= -((52-n.log2:Nat):Int):=by omega
 obtain⟨m,hm⟩: ∃m,m=n*2^(52-n.log2):=⟨_,rfl⟩
 have hm1:2^52<=m:=by
  have:2^n.log2*2^(52-n.log2)<=n*2^(52-n.log2):=Nat.mul_le_mul_right _ h1
  rw[<-Nat.pow_add,show n.log2+(52-n.log2)=52 by omega]at this
  omega
 have hm2:m<2^53:=by
  have:n*2^(52-n.log2)<2^(n.log2+1)*2^(52-n.log2):=Nat.mul_lt_mul_of_pos_right h2 (Nat.two_pow_pos _)
  rw[<-Nat.pow_add,show n.log2+1+(52-n.log2)=53 by omega]at this
  omega
 rw[<-hm]
 obtain⟨r,hr⟩: ∃r,r=(n.log2+1022)*2^52+m:=⟨_,rfl⟩
 rw[<-hr]
 have hr63:r<2^63:=by omega
 have hw:double.word s r/2^63%2=(if s then 1 else 0)/\double.word s r%2^63=r:=by
  unfold Format.word
  rw[hsw]
  cases s
  ·simp only[Bool.false_eq_true,if_false];omega
  ·simp only[if_true];omega
 unfold Format.read
 simp only[hsw,hw.1,hw.2,hb,hi]
 have g1: ¬r<2^52:=by omega
 have g2:r<2047*2^52:=by omega
 rw[if_neg g1,if_pos g2]
 have hq:fq n=52-n.log2:=by unfold fq;rw[if_neg h0]
 have e1:2^52+r%2^52=m:=by omega
 have e2:r/2^52=n.log2+1023:=by omega
 rw[e1,e2,zwe,hq,<-hm,e5]
 have e6:((if s=true then 1 else 0)==1)=s:=by cases s<;>rfl
 rw[e6]
def sI(s:Bool)(n:Nat):Int:=if s then-(n:Int)else n
theorem zxo(s:Bool)(n q u:Nat):signed s (n*2^q) u=sI s n*2^(q+u):=by
 unfold signed sI
 rw[Nat.shiftLeft_eq,Nat.mul_assoc,<-Nat.pow_add]
 cases s<;>simp[Int.neg_mul]
def fl(n:Int):Nat:=fw (decide (n<0)) n.natAbs
theorem zf2b(n:Int):FloatKind.f64.nearest n=fl n:=rfl
theorem zua(s t:Bool){n m:Nat}(hn:n<2^53)(hm:m<2^53)(h:(sI s n+sI t m).natAbs<2^53):
  ((double.read (fw s n)).sum (double.read (fw t m))).map double.write=some (fw (if sI s n+sI t m=0 then s&&t else decide (sI s n+sI t m<0)) (sI s n+sI t m).natAbs):=by
 rw[zjb s hn,zjb t hm]
 simp only[Datum.sum,Option.map_some,Option.some.injEq]
 obtain⟨M,hM⟩: ∃M,M=max (fq n) (fq m):=⟨_,rfl⟩
 have hbase:min (-(fq n:Int)) (-(fq m:Int))= -(M:Int):=by omega
 have e1:(-(fq n:Int)- -(M:Int)).toNat=M-fq n:=by omega
 have e2:(-(fq m:Int)- -(M:Int)).toNat=M-fq m:=by omega
 rw[hbase,e1,e2,zxo,zxo,show fq n+(M-fq n)=M by omega,show fq m+(M-fq m)=M by omega,<-Int.add_mul]
 have hp:(0:Int)<2^M:=Int.pow_pos (by omega)
 have hz:(sI s n+sI t m)*2^M=0↔sI s n+sI t m=0:=by
  rw[Int.mul_eq_zero]
  constructor
  ·rintro(h |h)
   ·exact h
   ·omega
  ·exact .inl
 have hlt:(sI s n+sI t m)*2^M<0↔sI s n+sI t m<0:=by
  constructor
  ·intro h
   by_cases h':sI s n+sI t m<0
   ·exact h'
   ·have:=Int.mul_nonneg (Int.not_lt.1 h') (Int.le_of_lt hp);omega
  ·intro h;exact Int.mul_neg_of_neg_of_pos h hp
 have habs:((sI s n+sI t m)*2^M).natAbs=(sI s n+sI t m).natAbs*2^M:=by
  rw[Int.natAbs_mul,Int.natAbs_pow];rfl
 simp only[Format.write,hz,hlt,habs]
 exact zt6 _ h M
theorem z1q{a b:Int}(ha:a.natAbs<2^53)(hb:b.natAbs<2^53)(h:(a+b).natAbs<2^53):double.add (fl a) (fl b)=some (fl (a+b)):=by
 have e: ∀x:Int,sI (decide (x<0)) x.natAbs=x:=λx=>by unfold sI;by_cases hx:x<0<;>simp[hx]<;>omega
 have:=zua (decide (a<0)) (decide (b<0)) ha hb (by rw[e,e];exact h)
 rw[e,e]at this
 unfold Format.add
 refine this.trans ?_
 congr 1
 unfold fl
 congr 1
 split
 ·rename_i h0
  simp[h0];omega
 ·rfl
theorem zzp(s:Bool){n:Nat}(hn:n<2^53):(double.read (fw s n)).opposite=double.read (fw (!s) n):=by
 rw[zjb s hn,zjb (!s) hn];rfl
theorem z0l{a b:Int}(ha:a.natAbs<2^53)(hb:b.natAbs<2^53)(h:(a-b).natAbs<2^53):double.sub (fl a) (fl b)=some (fl (a-b)):=by
 have e: ∀x:Int,sI (decide (x<0)) x.natAbs=x:=λx=>by unfold sI;by_cases hx:x<0<;>simp[hx]<;>omega
 have e': ∀x:Int,sI (!decide (x<0)) x.natAbs= -x:=λx=>by unfold sI;by_cases hx:x<0<;>simp[hx]<;>omega
 have:=zua (decide (a<0)) (!decide (b<0)) ha hb (by rw[e,e',<-Int.sub_eq_add_neg];exact h)
 rw[e,e',<-Int.sub_eq_add_neg]at this
 unfold Format.sub fl
 rw[zzp _ hb]
 refine this.trans ?_
 congr 2
 split
 ·rename_i h0
  have:a=b:=by omega
  subst this
  simp
 ·rfl
theorem zqe(s t:Bool){n m:Nat}(hn:n<2^53)(hm:m<2^53)(h:n*m<2^53):double.mul (fw s n) (fw t m)=some (fw (s^^t) (n*m)):=by
 unfold Format.mul
 rw[zjb s hn,zjb t hm]
 simp only[Datum.product,Option.map_some,Option.some.injEq,Format.write]
 rw[show n*2^fq n*(m*2^fq m)=n*m*2^(fq n+fq m)by rw[Nat.pow_add];ac_rfl,show-(fq n:Int)+ -(fq m:Int)= -((fq n+fq m:Nat):Int)by omega]
 exact zt6 _ h _
theorem ztv{a b:Int}(ha:0<=a)(hb:0<=b)(ha':a.natAbs<2^53)(hb':b.natAbs<2^53)(h:a.natAbs*b.natAbs<2^53):double.mul (fl a) (fl b)=some (fl (a*b)):=by
 unfold fl
 rw[zqe _ _ ha' hb' h,<-Int.natAbs_mul]
 congr 2
 have:=Int.mul_nonneg ha hb
 simp[Int.not_lt.2 ha,Int.not_lt.2 hb,Int.not_lt.2 this]
theorem zglb{a:Int}(ha':a.natAbs<2^26):double.mul (fl a) (fl a)=some (fl (a*a)):=by
 have h2:a.natAbs*a.natAbs<2^53:=by
  have:=Nat.mul_lt_mul_of_lt_of_lt ha' ha'
  rw[<-Nat.pow_add]at this
  omega
 unfold fl
 rw[zqe _ _ (by omega) (by omega) h2,<-Int.natAbs_mul]
 congr 2
 have:0<=a*a:=by
  rcases Int.le_total 0 a with h |h
  ·exact Int.mul_nonneg h h
  ·exact Int.mul_nonneg_of_nonpos_of_nonpos h h
 simp[Int.not_lt.2 this]
end
section
abbrev C2(a b:Int):RV:= .x (.complex .f64 (fl a) (fl b))
abbrev F1(a:Int):RV:= .x (.float .f64 (fl a))
def neg1(a:Int):Nat:=Op.negFloat .f64 (fl a)
theorem zv5:fl 0=0:=by decide
theorem zfxb:fl 1=4607182418800017408:=by decide+kernel
theorem zbab(s:Bool){n:Nat}(hn:n<2^53):Op.negFloat .f64 (fw s n)=fw (!s) n:=by
 unfold Op.negFloat
 have he:FloatKind.f64.format.exponentBits+FloatKind.f64.format.fractionBits=63:=rfl
 rw[he,zy1 s hn,zy1 (!s) hn]
 have key: ∀r,r<2^63->Ieee.double.word s r^^^2^63=Ieee.double.word (!s) r:=λr hr=>by
  unfold Ieee.Format.word
  have hsw:Ieee.double.signWeight=2^63:=rfl
  rw[hsw]
  cases s
  ·simp only[Bool.false_eq_true,if_false,Bool.not_false,if_true]
   have:=Nat.two_pow_add_eq_or_of_lt (i:=63) hr 1
   rw[Nat.mul_one]at this
   rw[this]
   apply Nat.eq_of_testBit_eq
   intro i
   rw[Nat.testBit_xor,Nat.testBit_or]
   by_cases hi:i=63
   ·subst hi;rw[Nat.testBit_lt_two_pow hr];simp
   ·rw[Nat.testBit_two_pow_of_ne (Ne.symm hi)];simp
  ·simp only[if_true,Bool.not_true,Bool.false_eq_true,if_false]
   have:=Nat.two_pow_add_eq_or_of_lt (i:=63) hr 1
   rw[Nat.mul_one]at this
   rw[this]
   apply Nat.eq_of_testBit_eq
   intro i
   rw[Nat.testBit_xor,Nat.testBit_or]
   by_cases hi:i=63
   ·subst hi;rw[Nat.testBit_lt_two_pow hr];simp
   ·rw[Nat.testBit_two_pow_of_ne (Ne.symm hi)];simp
 split
 ·exact key 0 (by omega)
 ·rename_i h0
  have hL:n.log2<53:=(Nat.log2_lt h0).2 hn
  have h2:=Nat.lt_log2_self (n:=n)
  have:n*2^(52-n.log2)<2^(n.log2+1)*2^(52-n.log2):=Nat.mul_lt_mul_of_pos_right h2 (Nat.two_pow_pos _)
  rw[<-Nat.pow_add,show n.log2+1+(52-n.log2)=53 by omega]at this
  exact key _ (by omega)
theorem zc7b{a b:Int}(ha:a.natAbs<=4096)(hb:b.natAbs<=4096): ∃y,cMulBits (fl a) (fl b) (fl a) (neg1 b)=some (fl (a*a+b*b),y):=by
 have hb2:b.natAbs*b.natAbs<=16777216:=Nat.mul_le_mul hb hb
 have ha2:a.natAbs*a.natAbs<=16777216:=Nat.mul_le_mul ha ha
 have hab:a.natAbs*b.natAbs<=16777216:=Nat.mul_le_mul ha hb
 have hba:b.natAbs*a.natAbs<=16777216:=Nat.mul_le_mul hb ha
 have n1:neg1 b=fw (!decide (b<0)) b.natAbs:=zbab _ (by omega)
 have e1:floatBits .mul .f64 (fl a) (fl a)=some (fl (a*a)):=zglb (by omega)
 have e2:floatBits .mul .f64 (fl b) (neg1 b)=some (fw true (b.natAbs*b.natAbs)):=by
  rw[n1]
  have:=zqe (decide (b<0)) (!decide (b<0)) (n:=b.natAbs) (m:=b.natAbs) (by omega) (by omega) (by omega)
  have hx:(decide (b<0)^^ !decide (b<0))=true:=by cases decide (b<0)<;>rfl
  rw[hx]at this
  exact this
 have sq0: ∀x:Int,0<=x*x:=λx=>by
  rcases Int.le_total 0 x with h |h
  ·exact Int.mul_nonneg h h
  ·exact Int.mul_nonneg_of_nonpos_of_nonpos h h
 have hsq: ∀x:Int,((x.natAbs*x.natAbs:Nat):Int)=x*x:=λx=>by rw[<-Int.natAbs_mul_self' x];simp
 have e3:floatBits .sub .f64 (fl (a*a)) (fw true (b.natAbs*b.natAbs))=some (fl (a*a+b*b)):=by
  show Ieee.double.sub _ _=_
  unfold Ieee.Format.sub
  rw[zzp _ (by omega)]
  have hna:(a*a).natAbs=a.natAbs*a.natAbs:=Int.natAbs_mul a a
  have h0:=sq0 a
  have h1:=sq0 b
  have hs:=zua (decide (a*a<0)) (!true) (n:=(a*a).natAbs) (m:=b.natAbs*b.natAbs) (by omega) (by omega)
  have es:sI (decide (a*a<0)) (a*a).natAbs=a*a:=by unfold sI;simp[Int.not_lt.2 h0];omega
  have et:sI (!true) (b.natAbs*b.natAbs)=b*b:=by unfold sI;simp only[Bool.not_true,Bool.false_eq_true,if_false];exact hsq b
  rw[es,et]at hs
  have hh:=hs (by have:=hsq a;have:=hsq b;omega)
  refine hh.trans ?_
  unfold fl
  congr 2
  split
  ·rename_i hz;simp[hz]
  ·rfl
 have e4: ∃p,floatBits .mul .f64 (fl a) (neg1 b)=some (fw p (a.natAbs*b.natAbs)):=by
  rw[n1];exact⟨_,zqe _ _ (by omega) (by omega) (by omega)⟩
 have e5: ∃p,floatBits .mul .f64 (fl b) (fl a)=some (fw p (b.natAbs*a.natAbs)):=⟨_,zqe _ _ (by omega) (by omega) (by omega)⟩
 obtain⟨p,e4⟩:=e4
 obtain⟨q,e5⟩:=e5
 have hsi: ∀(r:Bool) (n:Nat),(sI r n).natAbs=n:=λr n=>by unfold sI;cases r<;>simp
 have e6:=zua p q (n:=a.natAbs*b.natAbs) (m:=b.natAbs*a.natAbs) (by omega) (by omega) (by
  have h1:=hsi p (a.natAbs*b.natAbs)
  have h2:=hsi q (b.natAbs*a.natAbs)
  have:=Int.natAbs_add_le (sI p (a.natAbs*b.natAbs)) (sI q (b.natAbs*a.natAbs))
  omega)
 obtain⟨z,hz⟩: ∃z,floatBits .add .f64 (fw p (a.natAbs*b.natAbs)) (fw q (b.natAbs*a.natAbs))=some z:=⟨_,e6⟩
 refine⟨z,?_⟩
 unfold cMulBits
 simp only[e1,e2,e3,e4,e5,hz,Option.bind_some]
theorem zdob{a:Int}(h0:0<=a)(ha:a.natAbs<=4096):cMulBits (fl a) (fl 0) (fl 0) (fl 1)=some (fl 0,fl a):=by
 have e1:floatBits .mul .f64 (fl a) (fl 0)=some (fl 0):=by
  have:=ztv h0 (show(0:Int)<=0 by omega) (by omega) (by decide) (by simp)
  rw[Int.mul_zero]at this
  exact this
 have e2:floatBits .mul .f64 (fl 0) (fl 1)=some (fl 0):=ztv (a:=0) (b:=1) (by omega) (by omega) (by decide) (by decide) (by simp)
 have e3:floatBits .sub .f64 (fl 0) (fl 0)=some (fl 0):=z0l (a:=0) (b:=0) (by decide) (by decide) (by decide)
 have e4:floatBits .mul .f64 (fl a) (fl 1)=some (fl a):=by
  have:=ztv h0 (show(0:Int)<=1 by omega) (by omega) (by decide) (by simp;omega)
  rw[Int.mul_one]at this
  exact this
 have e5:floatBits .mul .f64 (fl 0) (fl 0)=some (fl 0):=ztv (a:=0) (b:=0) (by omega) (by omega) (by decide) (by decide) (by simp)
 have e6:floatBits .add .f64 (fl a) (fl 0)=some (fl a):=by
  have:=z1q (a:=a) (b:=0) (by omega) (by decide) (by simp;omega)
  rw[Int.add_zero]at this
  exact this
 unfold cMulBits
 simp only[e1,e2,e3,e4,e5,e6,Option.bind_some]
theorem zfib{n:Int}(h0:0<=n)(hn:n.natAbs<2^53):(FloatKind.f64.decode (fl n)).toInt .zero=some n:=by
 show(Ieee.double.read (fw _ _)).toInt .zero=_
 rw[zjb _ hn]
 unfold Ieee.Datum.toInt Ieee.Datum.integral
 simp only[Option.some.injEq]
 have hd:decide (n<0)=false:=by simp;omega
 have e1:(-(fq n.natAbs:Int)).toNat=0:=by omega
 have e2:(-(-(fq n.natAbs:Int))).toNat=fq n.natAbs:=by omega
 rw[hd,e1,e2,Nat.shiftLeft_zero]
 have hc:Ieee.Toward.zero.cut false (n.natAbs*2^fq n.natAbs) (fq n.natAbs)=n.natAbs:=by
  unfold Ieee.Toward.cut
  rcases Nat.eq_zero_or_pos n.natAbs with h |h
  ·rw[h];simp
  have hp:=Nat.two_pow_pos (fq n.natAbs)
  have hl:fq n.natAbs<=(n.natAbs*2^fq n.natAbs).log2+2:=by rw[zle (by omega)];omega
  simp only[Nat.min_eq_left hl,Nat.one_shiftLeft,Nat.mul_div_cancel _ hp,Nat.mul_mod_left]
  simp
 rw[hc]
 unfold Ieee.signed
 simp
 omega
section
variable {P:Program} {T:TT} {S:St} {o:Oper} {K:RV->Prop}
theorem Vfun.one{x:Operand}{u v:Value}{r:RV}(hx:opr S x=some (.r (.x u)))(hr: ∀(a:Act) (w:World),a.eval x=u->(execOp a.eval o).run P w= .ok (.value v) w)(hv: ∀w k,r.at_ w k v)(hK:K r):Vfun P S o [x] K:=by
 refine⟨[.x u],by simp[oprs,hx,St.rv],r,λa w k hp=>?_,hK⟩
 obtain⟨a',e,h⟩:=zhe hp
 simp only[RV.at_]at h
 simp only[List.map_cons,List.map_nil,List.cons.injEq,and_true]at e
 exact⟨v,hr a w (e.trans h),hv w k⟩
theorem Vfun.two{x y:Operand}{u v z:Value}{r:RV}(hx:opr S x=some (.r (.x u)))(hy:opr S y=some (.r (.x v)))(hr: ∀(a:Act) (w:World),a.eval x=u->a.eval y=v->(execOp a.eval o).run P w= .ok (.value z) w)(hv: ∀w k,r.at_ w k z)(hK:K r):Vfun P S o [x,y] K:=by
 refine⟨[.x u, .x v],by simp[oprs,hx,hy,St.rv],r,λa w k hp=>?_,hK⟩
 obtain⟨a',b',e,h,h'⟩:=zim hp
 simp only[RV.at_]at h h'
 simp only[List.map_cons,List.map_nil,List.cons.injEq,and_true]at e
 exact⟨z,hr a w (e.1.trans h) (e.2.trans h'),hv w k⟩
theorem x_at(v:Value)(w:World)(k:Kp):(RV.x v).at_ w k v:=by simp only[RV.at_]
theorem Vfun.csub{x y:Operand}{t t2:TypeId}{a b c d:Int}(hop:o.op= .binOp .sub t x y t2)(hx:opr S x=some (.r (C2 a b)))(hy:opr S y=some (.r (C2 c d)))(ha:a.natAbs<=4096)(hb:b.natAbs<=4096)(hc:c.natAbs<=4096)(hd:d.natAbs<=4096)
  (hK:K (C2 (a-c) (b-d))):Vfun P S o [x,y] K:=
 Vfun.two hx hy (λact w e1 e2=>by
  have h1:=z0l (a:=a) (b:=c) (by omega) (by omega) (by omega)
  have h2:=z0l (a:=b) (b:=d) (by omega) (by omega) (by omega)
  have:=run_complex_sum (P:=P) w .sub (.inr rfl) t .f64 (fl a) (fl b) (fl c) (fl d) (fl (a-c)) (fl (b-d)) (by
   unfold cSumBits
   rw[show floatBits .sub .f64 (fl a) (fl c)=_ from h1,show floatBits .sub .f64 (fl b) (fl d)=_ from h2];rfl)
  simp only[execOp,hop,e1,e2,eqGuard]
  simp[this]) (x_at _) hK
theorem Vfun.cadd{x y:Operand}{t t2:TypeId}{a b c d:Int}(hop:o.op= .binOp .add t x y t2)(hx:opr S x=some (.r (C2 a b)))(hy:opr S y=some (.r (C2 c d)))(ha:a.natAbs<=4096)(hb:b.natAbs<=4096)(hc:c.natAbs<=4096)(hd:d.natAbs<=4096)
  (hK:K (C2 (a+c) (b+d))):Vfun P S o [x,y] K:=
 Vfun.two hx hy (λact w e1 e2=>by
  have h1:=z1q (a:=a) (b:=c) (by omega) (by omega) (by omega)
  have h2:=z1q (a:=b) (b:=d) (by omega) (by omega) (by omega)
  have:=run_complex_sum (P:=P) w .add (.inl rfl) t .f64 (fl a) (fl b) (fl c) (fl d) (fl (a+c)) (fl (b+d)) (by
   unfold cSumBits
   rw[show floatBits .add .f64 (fl a) (fl c)=_ from h1,show floatBits .add .f64 (fl b) (fl d)=_ from h2];rfl)
  simp only[execOp,hop,e1,e2,eqGuard]
  simp[this]) (x_at _) hK
theorem Vfun.ctimes{x y:Operand}{t t2:TypeId}{a b c d re im:Nat}(hop:o.op= .binOp .mul t x y t2)(hx:opr S x=some (.r (.x (.complex .f64 a b))))(hy:opr S y=some (.r (.x (.complex .f64 c d))))(hm:cMulBits a b c d=some (re,im))
  (hK:K (.x (.complex .f64 re im))):Vfun P S o [x,y] K:=
 Vfun.two hx hy (λact w e1 e2=>by
  have:=run_complex_mul (P:=P) w t a b c d re im hm
  simp only[execOp,hop,e1,e2,eqGuard]
  simp[this]) (x_at _) hK
theorem Vfun.neg{x:Operand}{t:TypeId}{b:Nat}(hop:o.op= .unOp .neg t x)(hx:opr S x=some (.r (.x (.float .f64 b))))(hK:K (.x (.float .f64 (Op.negFloat .f64 b)))):Vfun P S o [x] K:=
 Vfun.one hx (λact w e1=>by simp[execOp,hop,e1,Op.unary]) (x_at _) hK
theorem Vfun.real{x:Operand}{ts:Array TypeId}{a b:Nat}(hop:o.op= .call {callee:= .builtin .real,args:= #[x],argTypes:=ts}) (hx:opr S x=some (.r (.x (.complex .f64 a b)))) (hK:K (.x (.float .f64 a))):Vfun P S o [x] K:=
 Vfun.one hx (λact w e1=>by simp[execOp,hop,e1,resolve,invoke,builtin,run_real]) (x_at _) hK
theorem Vfun.imag{x:Operand}{ts:Array TypeId}{a b:Nat}(hop:o.op= .call {callee:= .builtin .imag,args:= #[x],argTypes:=ts}) (hx:opr S x=some (.r (.x (.complex .f64 a b)))) (hK:K (.x (.float .f64 b))):Vfun P S o [x] K:=
 Vfun.one hx (λact w e1=>by simp[execOp,hop,e1,resolve,invoke,builtin,run_imag]) (x_at _) hK
theorem Vfun.complex{x y:Operand}{ts:Array TypeId}{a b:Nat}(hop:o.op= .call {callee:= .builtin .complex,args:= #[x,y],argTypes:=ts}) (hx:opr S x=some (.r (.x (.float .f64 a)))) (hy:opr S y=some (.r (.x (.float .f64 b)))) (hK:K (.x (.complex .f64 a b))):Vfun P S o [x,y] K:=
 Vfun.two hx hy (λact w e1 e2=>by simp[execOp,hop,e1,e2,resolve,invoke,builtin,run_complex]) (x_at _) hK
theorem Vfun.i2f{x:Operand}{t0 t:TypeId}{n:Int}(hop:o.op= .convert t0 t x)(h0: ∃d,P.underlying t0=some d)(ht:P.underlying t=some (.float .f64))(hx:opr S x=some (.r (.i .i64 n)))(hK:K (F1 n)):Vfun P S o [x] K:=by
 refine⟨[.i .i64 n],by simp[oprs,hx,St.rv],F1 n,λa w k hp=>?_,hK⟩
 obtain⟨a',e,h⟩:=zhe hp
 simp only[RV.at_]at h
 simp only[List.map_cons,List.map_nil,List.cons.injEq,and_true]at e
 have e1:=e.trans h
 obtain⟨d0,h0⟩:=h0
 refine⟨.float .f64 (fl n),?_,by simp only[RV.at_]⟩
 simp only[execOp,hop,e1,convert,Sem.run_bind,run_underlying h0 w,run_underlying ht w,Result.andThen_ok]
 cases d0<;>simp[Conv.intToFloat,zf2b]
theorem Vfun.f2i{x:Operand}{t0 t:TypeId}{n:Int}(hop:o.op= .convert t0 t x)(h0:P.underlying t0=some (.float .f64))(ht:P.underlying t=some (.int .i64))(hx:opr S x=some (.r (F1 n)))(hn0:0<=n)(hn:n.natAbs<2^53)(hK:K (.i .i64 n)):Vfun P S o [x] K:=
 Vfun.one (v:= .int .i64 n) hx (λact w e1=>by
  have h1:IntKind.i64.min= -9223372036854775808:=by decide
  have h2:IntKind.i64.max=9223372036854775807:=by decide
  have hb:IntKind.i64.min<=n/\n<=IntKind.i64.max:=by rw[h1,h2];omega
  simp only[execOp,hop,e1,convert,Sem.run_bind,run_underlying h0 w,run_underlying ht w,Result.andThen_ok,Conv.floatToInt,zfib hn0 hn,hb,and_self,if_true]
  simp) (λ_ _=>by simp only[RV.at_]) hK
end
end
end Go.Proofs.YtpdllgbfemnemaaGreat.Sx
