import Derived.Test.YtkegaaonpekkgaaGreatXqSxU
import Derived.Test.YtkegaaonpekkgaaGreatXqSxV
import Derived.Lib.SliceRun
import Derived.Laws.BitsAllLaws
namespace Go.Proofs.YtkegaaonpekkgaaGreat.Sx
open Go.RowKit
theorem Sub.trans{S S' S'':St}(h:Sub S S')(h':Sub S' S''):Sub S S'':=λB N a w k hs=>by
 obtain⟨k',hs'⟩:=h B N a w k hs
 exact h' B N a w k' hs'
theorem ZX(pub:Bool){S:St}(t:Nat)(e:TypeId)(sz:Nat)(hf:yl S.F t=some (.r (.x (.slice none 0 0)))):Sub S {F:=(t,.own S.nx)::S.F,O:=(S.nx,some (.ch e sz 0 [] pub))::S.O,nx:=S.nx+1}:=by
 rintro B N a w k ⟨g,hs⟩
 have hv:=(hs.facts t _ hf).2
 simp only[TF.at_,RV.at_]at hv
 have hlt:t<a.tmps.size:=by
  rcases Nat.lt_or_ge t a.tmps.size with h |h
  ·exact h
  ·rw[Array.getD_eq_getD_getElem?,Array.getElem?_eq_none h]at hv
   simp[undef]at hv
 have h:=hs.adopt (dst:=some t) (λd hd=>by cases hd;rw[<-hs.size];exact hlt) (o:= .ch e sz 0 [] pub) (vb:=(.slice none 0 0,none)) trivial ⟨by simp,.inl ⟨rfl,.inl ⟨rfl,none,rfl⟩⟩⟩ (λb hb=>by cases hb) (λi o' b _ hb=>by cases hb)
 have e1:a.put (some t) (.slice none 0 0)=a:=by
  simp only[Act.put]
  have:a.tmps.setIfInBounds t (.slice none 0 0)=a.tmps:=by
   apply Array.ext
   ·simp
   ·intro i h1 h2
    by_cases hi:t=i
    ·subst hi
     rw[Array.getElem_setIfInBounds_self]
     rw[Array.getD_eq_getD_getElem?,Array.getElem?_eq_getElem hlt]at hv
     exact hv.symm
    ·rw[Array.getElem_setIfInBounds_ne _ hi]
  rw[this]
 rw[e1]at h
 exact⟨k,_,h⟩
theorem uh{S:St}(t:Nat)(e:TypeId)(sz:Nat)(hf:yl S.F t=some (.r (.x (.slice none 0 0)))):Sub S {F:=(t,.own S.nx)::S.F,O:=(S.nx,some (.ch e sz 0 [] true))::S.O,nx:=S.nx+1}:=ZX true t e sz hf
theorem nH{S:St}(t:Nat)(e:TypeId)(sz:Nat)(hf:yl S.F t=some (.r (.x (.slice none 0 0)))):Sub S {F:=(t,.own S.nx)::S.F,O:=(S.nx,some (.ch e sz 0 [] false))::S.O,nx:=S.nx+1}:=ZX false t e sz hf
theorem Cvs.of_eq{cs ds:List RV}(h:cs=ds):Cvs cs ds:=h▸zn cs
theorem qA{ρ:List (Nat×Nat)}{S:St}{e:TypeId}{l m:List UInt8}(h:l=m):jy ρ S (.ch e 1 l.length (l.map U8) true) (.ch e 1 m.length (m.map U8) true):=by
 subst h
 exact⟨rfl,rfl,rfl,rfl,zn _⟩
theorem JK{ρ:List (Nat×Nat)}{S:St}{e:TypeId}{l m:List Int}(h:l=m):jy ρ S (.ch e 1 l.length (l.map I) true) (.ch e 1 m.length (m.map I) true):=by
 subst h
 exact⟨rfl,rfl,rfl,rfl,zn _⟩
def xJ(l:List UInt8):Res:= .ch 5 1 l.length (l.map U8)
def Uh(l:List Int):Res:= .ch 3 1 l.length (l.map I)
theorem Vcall.bool{P:Program}{f:FuncId}{vs:List RV}{K:Res->Prop}{β:Bool}(hg:zW P f vs (.r (.b β)))(ht:β=true->K (.r (.b true)))(hf:β=false->K (.r (.b false))):Vcall P f vs K:=by
 cases β
 ·exact ze hg (hf rfl)
 ·exact ze hg (ht rfl)
abbrev z6:= @Vcall.bool
theorem t6{P:Program}{f:FuncId}{fn:Func}{c:Code}(hf:P.funcs[f]?=some fn)(hb:fn.body=some c)(hn:(!(fn.name== "runtime.NumGoroutine"))=true):mI P f:=
 ⟨fn,c,hf,hb,by simpa using hn⟩
theorem X9{P:Program}{f:FuncId}{sz n:Nat}{cells args:List RV}{res:Res}(hk:mI P f)(h:n<=9223372036854775807->zW P f (.sl sz n cells::args) res):zW P f (.sl sz n cells::args) res:=
 ⟨hk,λw k vs hp=>(h (by
  simp only[RV.partsAt,RV.at_]at hp
  obtain⟨_,_,rfl,⟨a,c,rfl,h1,h2,_⟩,_⟩:=hp
  simp only[maxLen]at h2
  omega)).2 w k vs hp⟩
def Ul(k:IntKind):Prop:=k= .u64\/k= .i64
theorem Ps{k:IntKind}(hk:Ul k){m:Nat}(h:m<9223372036854775808):(m:Int)=k.wrap (m:Int):=by
 rcases hk with rfl |rfl
 ·simp only[IntKind.wrap];simp[IntKind.bits,IntKind.signed];omega
 ·rw[IntKind.wrap_i64];omega
theorem Ml{a:Nat}(h:a<9223372036854775808):(BitVec.ofInt 64 (a:Int)).toNat=a:=by rw[BitVec.toNat_ofInt];omega
theorem Vint.nat{k:IntKind}(hk:Ul k){e:Int}{K:Int->Prop}(n:Nat)(he:e=(n:Int))(h:n<9223372036854775808)(hK:K (n:Int)):Vint k e K:=⟨n,by rw[he];exact Ps hk h,hK⟩
abbrev zK:= @Vint.nat
def Lw(op:BinOp)(x y:Nat):Nat:=match op with
 | .and=>x&&&y
 | .or=>x|||y
 | .xor=>x^^^y
 |_=>x&&&(18446744073709551615-y)
theorem HB{op:BinOp}{x y:Nat}{u v:BitVec 64}(hu:u.toNat=x)(hv:v.toNat=y):Lw op x y=(match op with
  | .and=>(u&&&v).toNat
  | .or=>(u|||v).toNat
  | .xor=>(u^^^v).toNat
  |_=>(u&&& ~~~v).toNat):=by
 subst hu;subst hv
 unfold Lw
 cases op<;>simp[BitVec.toNat_and,BitVec.toNat_or,BitVec.toNat_xor,BitVec.toNat_not]
theorem Vbits.nat{k:IntKind}(hk:Ul k){op:BinOp}{a b:Int}{K:Int->Prop}(x y m:Nat)(ha:a=(x:Int))(hb:b=(y:Int))(hx:x<9223372036854775808)(hy:y<9223372036854775808)(hm:m<9223372036854775808)
  (he:Lw op x y=m) (hK:K (m:Int)):Vbits k op a b K:=by
 subst ha;subst hb;subst he
 refine⟨_,(Ps hk hm).trans (congrArg (λz:Nat=>k.wrap (z:Int)) ?_),hK⟩
 have h1:=Ml hx
 have h2:=Ml hy
 rcases hk with rfl |rfl<;>exact HB h1 h2
abbrev zL:= @Vbits.nat
theorem Vshr.nat{k:IntKind}(hk:Ul k){a b:Int}{K:Int->Prop}(x n m:Nat)(ha:a=(x:Int))(hb:b=(n:Int))(hn:n<=64)(hm:x/2^n=m)(hK:K (m:Int)):Vshr k a b K:=by
 subst ha;subst hb;subst hm
 have e:k.bits=64:=by rcases hk with rfl |rfl<;>rfl
 refine⟨by omega,_,?_,hK⟩
 rw[Int.toNat_natCast,e,Nat.min_eq_left hn,Int.fdiv_eq_ediv_of_nonneg _ (Int.pow_nonneg (by omega))]
 norm_cast
theorem Vshl.nat{k:IntKind}(hk:Ul k){a b:Int}{K:Int->Prop}(x n m:Nat)(ha:a=(x:Int))(hb:b=(n:Int))(hn:n<=64)(hm:x*2^n=m)(hl:m<9223372036854775808)(hK:K (m:Int)):Vshl k a b K:=by
 subst ha;subst hb
 have e:k.bits=64:=by rcases hk with rfl |rfl<;>rfl
 refine⟨by omega,_,?_,hK⟩
 rw[Int.toNat_natCast,e,Nat.min_eq_left hn,show(x:Int)*2^n=((x*2^n:Nat):Int)by simp,hm]
 exact Ps hk hl
theorem Vstep.nilSl{P:Program}{S:St}{o:Oper}{t t2 e:TypeId}{x y:Operand}{sz n:Nat}{cells:List RV}{K:St->Prop}(hop:o.op= .binOp .eql t x y t2)(hx:yv S x=some (.r (.sl sz n cells)))(hy:yv S y=some (.r (.x (.slice none 0 0))))(hu:P.underlying t=some (.slice e))
  (h1:n=0->yI S o.dst (.r (.b true)) none K) (h0:yI S o.dst (.r (.b false)) none K):Vstep P S o K:=by
 simp only[yJ]at h1 h0
 have key: ∀B N a w k (Q:Exit->Act->World->Prop),yK B N S a w k->(∀d,o.dst=some d->d<N)->o.wp P a w (λa' w'=>∃b k',(b=true->n=0)/\yK B N (S.new o.dst (.r (.b b)) none) a' w' k') Q:=λB N a w k Q ⟨g,hs⟩ hd=>by
  have hv:=(yi hs hx).2
  have hn:=(yi hs hy).2
  simp only[TF.at_,RV.at_]at hv hn
  obtain⟨p,c,e1,_,_,_,h4⟩:=hv
  refine yG (v:= .bool p.isNone) (w':=w) ?_ ⟨p.isNone,k,λhb=>?_,g,hs.put hd trivial (by simp only[TF.at_,RV.at_])⟩
  ·have hq:=Go.Lib.run_eql_slice_nil (P:=P) w _ _ p n c 0 0 hu
   simp[execOp,hop,e1,hn,eqGuard,hq]
  ·rcases Nat.eq_zero_or_pos n with h |h
   ·exact h
   ·obtain⟨b,o',rfl,_⟩:=h4 h
    cases hb
 by_cases hn:n=0
 ·exact⟨Bool,λb=>S.new o.dst (.r (.b b)) none,λB N a w k Q hs hd=>Oper.wp_mono (λa' w' ⟨b,k',_,h⟩=>⟨b,k',h⟩) (key B N a w k Q hs hd),λb=>match b with |false=>h0 |true=>h1 hn⟩
 ·refine zI (λB N a w k Q hs hd=>Oper.wp_mono (λa' w' ⟨b,k',hb,h⟩=>?_) (key B N a w k Q hs hd)) h0
  cases b with
  |false=>exact⟨k',h⟩
  |true=>exact absurd (hb rfl) hn
abbrev yQ(n:Nat):RV:= .i .u64 (n:Int)
theorem mF{x:Nat}(h:x<18446744073709551616):IntKind.u64.wrap (x:Int)=(x:Int):=by
 have:((x:Int)%18446744073709551616)=x:=by omega
 simp only[IntKind.wrap]
 simp[IntKind.bits,IntKind.signed]
 omega
theorem Vint.u64{e:Int}{K:Int->Prop}(n:Nat)(he:e=(n:Int))(h:n<18446744073709551616)(hK:K (n:Int)):Vint .u64 e K:=⟨n,by rw[he,mF h],hK⟩
abbrev zF:= @Vint.u64
theorem Vquo.nat{a b:Int}{K:Int->Prop}(x y:Nat)(ha:a=(x:Int))(hb:b=(y:Int))(hy:0<y)(hx:x<18446744073709551616)(hK:K ((x/y:Nat):Int)):Vquo .u64 a b K:=by
 subst ha;subst hb
 refine⟨by omega,_,?_,hK⟩
 rw[Int.tdiv_eq_ediv_of_nonneg (by omega),<-Int.natCast_ediv,mF (Nat.lt_of_le_of_lt (Nat.div_le_self _ _) hx)]
theorem Vrem.nat{a b:Int}{K:Int->Prop}(x y:Nat)(ha:a=(x:Int))(hb:b=(y:Int))(hy:0<y)(hK:K ((x%y:Nat):Int)):Vrem a b K:=by
 subst ha;subst hb
 refine⟨by omega,_,?_,hK⟩
 rw[Int.tmod_eq_emod_of_nonneg (by omega),<-Int.natCast_emod]
theorem Vint.u8{e:Int}{K:Int->Prop}(n:Nat)(he:e=(n:Int))(hK:K (((UInt8.ofNat n).toNat:Nat):Int)):Vint .u8 e K:=by
 refine⟨_,?_,hK⟩
 subst he
 simp only[IntKind.wrap]
 simp[IntKind.bits,IntKind.signed]
theorem Vadr.mk'{i:Int}{n:Nat}{K:Nat->Prop}(j:Nat)(h:i=(j:Int))(hj:j<n)(hK:K j):Vadr i n K:=by
 subst h
 exact⟨by omega,by omega,by rw[Int.toNat_natCast];exact hK⟩
abbrev zD:= @Vadr.mk'
theorem fu(q:Nat):UInt8.ofNat (q%256)=UInt8.ofNat q:=by
 apply UInt8.toNat_inj.1
 simp
theorem mQ{P:Program}{f:FuncId}{args:List RV}{e:TypeId}{sz n:Nat}{cells:List RV}(h:zW P f args (.own e sz n cells)):zW P f args (.ch e sz n cells):=
 ⟨h.1,λw k vs hp=>(h.2 w k vs hp).mono λe' w' ⟨v,he,hx,k',hk,ob,⟨hl,hc⟩,hb⟩=>by
  rcases hc with⟨rfl,h⟩ |⟨b,cap,cur,rfl,rfl,hh,h1,h2,h3,h4,h5⟩
  ·refine⟨v,he,hx,k',hk,none,⟨hl,.inl ⟨rfl,?_⟩⟩,λb h=>by cases h⟩
   rcases h with h |⟨_,h,_⟩
   ·exact .inl h
   ·cases h
  ·have hle:Le w' k' w' (x6 k' b (n*sz)):=⟨Nat.le_refl _,λx _=>by
    unfold x6
    split
    ·rename_i hx;subst hx;rw[h4];simp
    ·exact Nat.le_refl _,λ_ _ _ _=>rfl,λ_ _ _ _ _ h=>h⟩
   have hb':=hb b rfl
   exact⟨_,he,hx,x6 k' b (n*sz),λx hx'=>by rw[x6,if_neg (by omega)];exact hk x hx',some b,⟨hl,.inr ⟨b,cap,cur,rfl,rfl,hh,h1,h2,h3,wo,RV.list_mono hle _ _ h5⟩⟩,hb⟩⟩
end Go.Proofs.YtkegaaonpekkgaaGreat.Sx

namespace Go.Proofs.YtkegaaonpekkgaaGreat
def gH:Nat->Nat->Nat
 |0,_=>0
 |f+1,x=>if x%2=1 then gH f (x/2)+1 else 0
def lv(x:Nat):Nat:=gH 17 x
def nd(h k:Nat):Nat:=k*2^(h+1)+2^h-1
theorem yy(n:Nat):0<2^n:=Nat.pow_pos (by omega)
theorem Mf: ∀(f x:Nat),x<2^f-1->gH f x<f/\x%2^(gH f x)=2^(gH f x)-1/\x/2^(gH f x)%2=0
 |0,x,h=>by simp at h
 |f+1,x,h=>by
  have hp:=yy f
  have e:2^(f+1)=2*2^f:=by rw[Nat.pow_succ];omega
  unfold gH
  by_cases hx:x%2=1
  ·rw[if_pos hx]
   have ih:=Mf f (x/2) (by omega)
   generalize gH f (x/2)=l at ih
   have hl:=yy l
   refine⟨by omega,?_,?_⟩
   ·rw[Nat.pow_succ,Nat.mul_comm,Nat.mod_mul,ih.2.1];omega
   ·rw[Nat.pow_succ,Nat.mul_comm,<-Nat.div_div_eq_div_mul];exact ih.2.2
  ·rw[if_neg hx]
   refine⟨by omega,by simp;omega,by simp;omega⟩
theorem pD{x:Nat}(h:x<=131070):lv x<=16/\x%2^(lv x)=2^(lv x)-1/\x/2^(lv x)%2=0:=by
 have:=Mf 17 x (by omega)
 exact⟨by unfold lv;omega,this.2⟩
theorem Hi{x:Nat}(h:x<=131070):x=nd (lv x) (x/2^(lv x+1)):=by
 obtain⟨_,h1,h2⟩:=pD h
 generalize lv x=l at*
 have hp:=yy l
 unfold nd
 have e1:x/2^(l+1)=x/2^l/2:=by rw[Nat.pow_succ,Nat.div_div_eq_div_mul]
 have e2:=Nat.div_add_mod x (2^l)
 have e3:=Nat.div_add_mod (x/2^l) 2
 rw[e1]
 rw[h1]at e2
 rw[h2]at e3
 generalize x/2^l/2=k at*
 have e4:k*2^(l+1)=2^l*(2*k):=by rw[Nat.pow_succ,Nat.mul_comm (2^l) 2,<-Nat.mul_assoc,Nat.mul_comm,Nat.mul_comm k 2]
 rw[e4]
 have e5:2*k=x/2^l:=by omega
 rw[e5]
 omega
theorem Mg: ∀(f h k:Nat),h<f->gH f (nd h k)=h
 |0,h,k,hh=>by omega
 |f+1,0,k,_=>by unfold gH nd;simp
 |f+1,h+1,k,hh=>by
  have hp:=yy h
  have e:nd (h+1) k=2*nd h k+1:=by
   unfold nd
   rw[Nat.pow_succ 2 (h+1),Nat.pow_succ 2 h,<-Nat.mul_assoc]
   omega
  unfold gH
  rw[e,if_pos (by omega),show(2*nd h k+1)/2=nd h k by omega,Mg f h k (by omega)]
theorem WS{h k:Nat}(hh:h<=16):lv (nd h k)=h:=Mg 17 h k (by omega)
def fitsL:List Int:=[1,2,4,8,16,32,64,128,256,512,1024,2048,4096,8192,16384,32768,65536]
def sK(n:Int):Bool:=fitsL.contains n
theorem mc{n:Int}(h:sK n=true): ∃d,d<=16/\n=((2^d:Nat):Int):=by
 unfold sK fitsL at h
 simp at h
 rcases h with h |h |h |h |h |h |h |h |h |h |h |h |h |h |h |h |h
 ·exact⟨0,by omega,by simpa using h⟩
 ·exact⟨1,by omega,by simpa using h⟩
 ·exact⟨2,by omega,by simpa using h⟩
 ·exact⟨3,by omega,by simpa using h⟩
 ·exact⟨4,by omega,by simpa using h⟩
 ·exact⟨5,by omega,by simpa using h⟩
 ·exact⟨6,by omega,by simpa using h⟩
 ·exact⟨7,by omega,by simpa using h⟩
 ·exact⟨8,by omega,by simpa using h⟩
 ·exact⟨9,by omega,by simpa using h⟩
 ·exact⟨10,by omega,by simpa using h⟩
 ·exact⟨11,by omega,by simpa using h⟩
 ·exact⟨12,by omega,by simpa using h⟩
 ·exact⟨13,by omega,by simpa using h⟩
 ·exact⟨14,by omega,by simpa using h⟩
 ·exact⟨15,by omega,by simpa using h⟩
 ·exact⟨16,by omega,by simpa using h⟩
theorem US: ∀d,d<=16->sK ((2^d:Nat):Int)=true:=by decide+kernel
theorem kp{n:Int}(h:sK n=true):1<=n/\n<=65536:=by
 obtain⟨d,hd,rfl⟩:=mc h
 have h1:=yy d
 have h2:2^d<=2^16:=Nat.pow_le_pow_right (by omega) hd
 omega
def t7(x:Int):Bool:=decide (0<=x)&&decide (x<=131070)
def li(x n:Int):Bool:=sK n&&(decide (0<=x)&&decide (x<=2*n-2))
theorem tp{x:Int}:t7 x=true↔0<=x/\x<=131070:=by simp[t7]
theorem fU{x n:Int}:li x n=true↔sK n=true/\0<=x/\x<=2*n-2:=by simp[li]
def uB(x:Int):Int:=if t7 x then(lv x.toNat:Int)else-1
def rE(x:Int):Int:=if 0<uB x then 2^(uB x-1).toNat else 0
def WR(x:Int):Int:=if rE x=0 then-1 else x-rE x
def ZQ(x:Int):Int:=if rE x=0 then-1 else x+rE x
def PU(n:Int):Int:=if sK n then n-1 else-1
def RP(x:Nat):Nat:=if x/2^(lv x+1)%2=0 then x+2^lv x else x-2^lv x
def wG(x n:Int):Int:=if li x n&&decide (x≠n-1)then(RP x.toNat:Int)else-1
def lW(x n:Int):Int:=if wG x n<0 then-1 else if x<wG x n then ZQ (wG x n)else WR (wG x n)
def sa(n:Int):Nat->Int->List Int
 |0,_=>[]
 |f+1,x=>if wG x n<0 then[]else wG x n::sa n f (wG x n)
def fV(x n:Int):List Int:=sa n 17 x
def rX(n:Int):Nat->Int->List Int
 |0,_=>[]
 |f+1,x=>if wG x n<0 then[]else lW x n::rX n f (wG x n)
def fG(x n:Int):List Int:=rX n 17 x
def lH(y:Int):Int:=2^(uB y).toNat-1
def sI(x y:Int):Bool:=(t7 x&&t7 y)&&(decide (y-lH y<=x)&&decide (x<=y+lH y))
theorem Oj{x y:Int}:sI x y=true↔(t7 x=true/\t7 y=true)/\y-lH y<=x/\x<=y+lH y:=by
 simp only[sI,Bool.and_eq_true,decide_eq_true_eq]
theorem J6(y:Int):lH y=2^(uB y).toNat-1:=rfl
theorem gI(x:Int): -1<=uB x/\uB x<=16:=by
 unfold uB
 split
 ·rename_i h
  rw[tp]at h
  have:=(pD (x:=x.toNat) (by omega)).1
  omega
 ·omega
theorem jU{x:Int}(h:t7 x=true):uB x=lv x.toNat:=by simp[uB,h]
theorem dM{x:Int}(h:t7 x=false):uB x= -1:=by simp[uB,h]
theorem CV{h k:Nat}(hh:h+1<=16):RP (nd h k)=nd (h+1) (k/2):=by
 have hp:=yy h
 unfold RP
 rw[WS (by omega)]
 have e1:nd h k/2^(h+1)=k:=by
  unfold nd
  have:2^h<2^(h+1):=by rw[Nat.pow_succ];omega
  rw[Nat.add_sub_assoc (by omega),Nat.add_comm,Nat.add_mul_div_right _ _ (yy _),Nat.div_eq_of_lt (by omega)]
  omega
 rw[e1]
 unfold nd
 rw[Nat.pow_succ 2 (h+1),Nat.pow_succ 2 h]
 generalize 2^h=q at*
 split
 ·rename_i hk
  have:k=2*(k/2):=by omega
  generalize k/2=j at*
  subst this
  rw[show 2*j*(q*2)=j*(q*2*2)by rw[Nat.mul_comm 2 j,Nat.mul_assoc,Nat.mul_comm 2]]
  omega
 ·rename_i hk
  have:k=2*(k/2)+1:=by omega
  generalize k/2=j at*
  subst this
  rw[Nat.add_mul,show 2*j*(q*2)=j*(q*2*2)by rw[Nat.mul_comm 2 j,Nat.mul_assoc,Nat.mul_comm 2]]
  omega
theorem Mt{a j:Nat}(h:a/2^j%2=0):a|||2^j=a+2^j:=by
 have hp:=yy j
 have e3:a=a/2^(j+1)*2^(j+1)+a%2^j:=by
  have e4:=Nat.div_add_mod a (2^j)
  have e5:a/2^(j+1)=a/2^j/2:=by rw[Nat.pow_succ,Nat.div_div_eq_div_mul]
  have e6:a/2^(j+1)*2^(j+1)=2^j*(2*(a/2^j/2)):=by rw[e5,Nat.pow_succ,Nat.mul_comm,Nat.mul_assoc]
  rw[e6,show 2*(a/2^j/2)=a/2^j by omega]
  omega
 have hlt:a%2^j<2^j:=Nat.mod_lt _ hp
 have hs:2^(j+1)=2*2^j:=by rw[Nat.pow_succ];omega
 have hq:(a/2^(j+1)*2^(j+1))%2^(j+1)=0:=by simp
 generalize a/2^(j+1)*2^(j+1)=q at*
 generalize a%2^j=r at*
 have e7:q|||r=q+r:=nat_join (j+1) q r hq (by omega)
 have e8:r|||2^j=2^j+r:=by rw[Nat.or_comm];exact nat_join j _ _ (by simp) hlt
 have e9:q|||(2^j+r)=q+(2^j+r):=nat_join (j+1) q _ hq (by omega)
 rw[e3,<-e7,Nat.or_assoc,e8,e9,e7]
 omega
theorem O9{a j:Nat}(ha:a<2^64)(hj:j<64):a&&&(2^64-(2^j+1))=a-a/2^j%2*2^j:=by
 have hjj:2^j<2^64:=Nat.pow_lt_pow_right (by omega) hj
 have key: ∀b:Nat,b<2^64->b/2^j%2=0->b&&&(2^64-(2^j+1))=b:=by
  intro b hb h0
  apply Nat.eq_of_testBit_eq
  intro i
  rw[Nat.testBit_and,Nat.testBit_two_pow_sub_succ hjj,Nat.testBit_two_pow]
  by_cases hi:i<64
  ·by_cases hij:j=i
   ·subst hij
    simp[Nat.testBit_eq_decide_div_mod_eq,h0]
   ·simp[hij,hi]
  ·have:b.testBit i=false:=Nat.testBit_lt_two_pow (Nat.lt_of_lt_of_le hb (Nat.pow_le_pow_right (by omega) (by omega)))
   simp[this]
 have hp:=yy j
 rcases Nat.mod_two_eq_zero_or_one (a/2^j)with h |h
 ·rw[h,key a ha h];omega
 ·have hge:2^j<=a:=by
   rcases Nat.lt_or_ge a (2^j)with hl |hl
   ·rw[Nat.div_eq_of_lt hl]at h;omega
   ·exact hl
  have h0:(a-2^j)/2^j%2=0:=by
   have:(a-2^j)/2^j=a/2^j-1:=by have:=Nat.sub_mul_div a (2^j) 1;rwa[Nat.mul_one]at this
   omega
  have e:a=(a-2^j)|||2^j:=by rw[Mt h0];omega
  have:=key (a-2^j) (by omega) h0
  rw[h,Nat.one_mul]
  conv=>lhs;rw[e]
  rw[Nat.and_or_distrib_right,this]
  have h2:2^j&&&(2^64-(2^j+1))=0:=by
   apply Nat.eq_of_testBit_eq
   intro i
   rw[Nat.testBit_and,Nat.testBit_two_pow_sub_succ hjj,Nat.testBit_two_pow]
   by_cases hij:j=i<;>simp[hij]
  rw[h2,Nat.or_zero]
theorem P6{h k d:Nat}(hd:h<=d):nd h k<=2*2^d-2↔k<2^(d-h):=by
 have hp:=yy h
 have hq:=yy (d-h)
 have e:2^d=2^h*2^(d-h):=by rw[<-Nat.pow_add];congr 1;omega
 unfold nd
 rw[e,Nat.pow_succ]
 generalize 2^h=q at*
 generalize 2^(d-h)=Q at*
 have e1:k*(q*2)=2*(q*k):=by rw[<-Nat.mul_assoc,Nat.mul_comm k q,Nat.mul_comm]
 rw[e1]
 constructor
 ·intro h1
  rcases Nat.lt_or_ge k Q with h2 |h2
  ·exact h2
  ·have:=Nat.mul_le_mul_left q h2
   have:q*1<=q*Q:=Nat.mul_le_mul_left q hq
   omega
 ·intro h1
  have:=Nat.mul_le_mul_left q (show k+1<=Q from h1)
  rw[Nat.mul_add]at this
  omega
theorem Fa{x n:Int}(h:li x n=true): ∃d h k,d<=16/\n=((2^d:Nat):Int)/\h<=d/\k<2^(d-h)/\x=(nd h k:Int):=by
 rw[fU]at h
 obtain⟨d,hd,hn⟩:=mc h.1
 obtain⟨m,rfl⟩:=Int.eq_ofNat_of_zero_le h.2.1
 have h16:2^d<=2^16:=Nat.pow_le_pow_right (by omega) hd
 have hm:m<=2*2^d-2:=by omega
 have hf:=Hi (x:=m) (by omega)
 have hl:lv m<=d:=by
  rcases Nat.lt_or_ge d (lv m)with h1 |h1
  ·exfalso
   have h2:2^(d+1)<=2^lv m:=Nat.pow_le_pow_right (by omega) h1
   rw[Nat.pow_succ]at h2
   have hp:=yy d
   have:2^lv m-1<=m:=by
    conv=>rhs;rw[hf]
    unfold nd
    omega
   omega
  ·exact h1
 refine⟨d,lv m,m/2^(lv m+1),hd,hn,hl,?_,by rw[<-hf]⟩
 rw[<-P6 hl,<-hf];exact hm
theorem Hk{d h k:Nat}(hd:d<=16)(hh:h<=d)(hk:k<2^(d-h)):li (nd h k:Int) ((2^d:Nat):Int)=true:=by
 rw[fU]
 have:=(P6 hh).2 hk
 exact⟨US d hd,by omega,by have:=yy d;omega⟩
theorem GW{d h k:Nat}(hd:d<=16)(hh:h<=d)(hk:k<2^(d-h)):nd h k<=131070:=by
 have:=(P6 hh).2 hk
 have h16:2^d<=2^16:=Nat.pow_le_pow_right (by omega) hd
 omega
theorem KK{d h k:Nat}(hd:d<=16)(hh:h<=d)(hk:k<2^(d-h)):t7 (nd h k:Int)=true:=by
 have:=GW hd hh hk
 rw[tp];omega
theorem U1{d h k:Nat}(hd:d<=16)(hh:h<=d)(hk:k<2^(d-h)):uB (nd h k:Int)=h:=by
 rw[jU (KK hd hh hk),Int.toNat_natCast,WS (by omega)]
theorem Ry(d:Nat):(nd d 0:Int)=((2^d:Nat):Int)-1:=by
 have:=yy d
 unfold nd;omega
theorem D6{h k h' k':Nat}(hh:h<=16)(hh':h'<=16)(e:nd h k=nd h' k'):h=h'/\k=k':=by
 have h1:h=h':=by rw[<-WS (h:=h) (k:=k) hh,<-WS (h:=h') (k:=k') hh',e]
 subst h1
 refine⟨rfl,?_⟩
 unfold nd at e
 have hp:=yy h
 have:k*2^(h+1)=k'*2^(h+1):=by omega
 exact Nat.eq_of_mul_eq_mul_right (yy _) this
theorem Fh{d h k:Nat}(hd:d<=16)(hh:h<d)(hk:k<2^(d-h)):wG (nd h k:Int) ((2^d:Nat):Int)=(nd (h+1) (k/2):Int):=by
 have hne:(nd h k:Int)≠((2^d:Nat):Int)-1:=by
  rw[<-Ry]
  intro e
  have:=(D6 (by omega) hd (Int.ofNat.inj e)).1
  omega
 unfold wG
 rw[Hk hd (by omega) hk,Int.toNat_natCast,CV (by omega),Bool.true_and,if_pos (by rw[decide_eq_true_eq];exact hne)]
theorem Mx{d:Nat}:wG (nd d 0:Int) ((2^d:Nat):Int)= -1:=by
 unfold wG
 rw[Ry];simp
theorem Rk{d h k:Nat}(hh:h<d)(hk:k<2^(d-h)):k/2<2^(d-(h+1)):=by
 have e:2^(d-h)=2*2^(d-(h+1)):=by
  rw[show d-h=d-(h+1)+1 by omega,Nat.pow_succ];omega
 omega
theorem My{x n:Int}(h:0<=wG x n):li x n=true/\li (wG x n) n=true/\uB (wG x n)=uB x+1/\0<=uB x:=by
 have ho:li x n=true:=by
  unfold wG at h
  split at h
  ·rename_i h1;simp at h1;exact h1.1
  ·omega
 obtain⟨d,l,k,hd,rfl,hh,hk,rfl⟩:=Fa ho
 rcases Nat.lt_or_ge l d with hlt |hge
 ·rw[Fh hd hlt hk]at*
  exact⟨ho,Hk hd (by omega) (Rk hlt hk),by rw[U1 hd (by omega) (Rk hlt hk),U1 hd hh hk];rfl,by rw[U1 hd hh hk];omega⟩
 ·obtain rfl:l=d:=by omega
  have:k=0:=by simpa using hk
  subst this
  rw[Mx]at h
  omega
def AI(f:Nat):Nat:=Nat.land (Nat.add f (Nat.div f 4294967296)) 127
def AH(e:Nat):Nat:=AI (Nat.add e (Nat.div e 65536))
def AG(d:Nat):Nat:=AH (Nat.add d (Nat.div d 256))
def AF(b:Nat):Nat:=AG (Nat.land (Nat.add (Nat.div b 16) b) 1085102592571150095)
def AE(a:Nat):Nat:=AF (Nat.add (Nat.land (Nat.div a 4) 3689348814741910323) (Nat.land a 3689348814741910323))
def WV(n:Nat):Nat:=AE (Nat.add (Nat.land (Nat.div n 2) 6148914691236517205) (Nat.land n 6148914691236517205))
def BV(n:Nat):Bool:=Nat.beq (Nat.land n (Nat.sub n 1)) 0
def dp:Bool->Bool->Bool
 |true,b=>b
 |false,true=>false
 |false,false=>true
def Ms(n:Nat):Bool:=dp (Nat.beq (WV n) 1) (BV n)
def T6(p:Nat->Bool):Nat->Bool
 |0=>true
 |n+1=>match p (n+1)with |true=>T6 p n |false=>false
theorem Xh{p:Nat->Bool}: ∀{n:Nat},T6 p n=true->∀i,i<n->p (i+1)=true
 |0,_,i,h=>by omega
 |n+1,h,i,hi=>by
  unfold T6 at h
  split at h
  ·by_cases e:i=n
   ·subst e;assumption
   ·exact Xh h i (by omega)
  ·cases h
theorem Sz:T6 (λk=>T6 (λi=>Ms (Nat.add (Nat.mul 2048 (Nat.sub k 1)) i)) 2048) 32=true:=by decide+kernel
theorem Fc{n:Nat}(h1:1<=n)(h2:n<=65536):Ms n=true:=by
 have h:=Xh Sz ((n-1)/2048) (by omega)
 have h':=Xh h ((n-1)%2048) (by omega)
 have e:Nat.add (Nat.mul 2048 (Nat.sub ((n-1)/2048+1) 1)) ((n-1)%2048+1)=n:=by
  show 2048*((n-1)/2048+1-1)+((n-1)%2048+1)=n
  omega
 rw[e]at h'
 exact h'
theorem HA{a b:Bool}(h:dp a b=true):a=b:=by cases a<;>cases b<;>simp[dp]at*
theorem C2{n:Nat}(h1:1<=n)(h2:n<=65536)(h:n&&&(n-1)=0): ∃d,d<=16/\n=2^d:=by
 obtain⟨hl,_,_⟩:=pD (x:=n-1) (by omega)
 have hn:=Hi (x:=n-1) (by omega)
 generalize lv (n-1)=l at*
 generalize (n-1)/2^(l+1)=k at hn
 have hp:=yy l
 have hp1:=yy (l+1)
 have hlt:2^l<2^(l+1):=by rw[Nat.pow_succ];omega
 unfold nd at hn
 have e1:n=k*2^(l+1)+2^l:=by omega
 have d1:n/2^(l+1)=k:=by
  rw[e1,Nat.add_comm,Nat.add_mul_div_right _ _ hp1,Nat.div_eq_of_lt (by omega)];omega
 have d2:(n-1)/2^(l+1)=k:=by
  rw[hn,Nat.add_sub_assoc (by omega),Nat.add_comm,Nat.add_mul_div_right _ _ hp1,Nat.div_eq_of_lt (by omega)];omega
 have:=Nat.and_div_two_pow (a:=n) (b:=n-1) (n:=l+1)
 rw[h,d1,d2,Nat.and_self,Nat.zero_div]at this
 subst this
 exact⟨l,hl,by omega⟩
theorem DO: ∀d,d<=16->BV (2^d)=true:=by decide+kernel
theorem KQ{n:Nat}(h1:1<=n)(h2:n<=65536):(WV n=1)↔sK (n:Int)=true:=by
 have h:=HA (Fc h1 h2)
 constructor
 ·intro h3
  rw[h3]at h
  have h4:n&&&(n-1)=0:=Nat.eq_of_beq_eq_true (h.symm.trans rfl)
  obtain⟨d,hd,rfl⟩:=C2 h1 h2 h4
  exact US d hd
 ·intro h3
  obtain⟨d,hd,e⟩:=mc h3
  have e':n=2^d:=by omega
  rw[e',DO d hd]at h
  rw[e']
  exact Nat.eq_of_beq_eq_true h
structure D3 where
 at_:Int
 lo:Int
 hi:Int
end Go.Proofs.YtkegaaonpekkgaaGreat
