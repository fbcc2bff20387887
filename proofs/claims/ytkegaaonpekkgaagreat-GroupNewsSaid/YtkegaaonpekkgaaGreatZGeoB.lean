import Derived.Test.YtkegaaonpekkgaaGreatZSxU
import Derived.Test.YtkegaaonpekkgaaGreatZSxV
import Derived.Lib.SliceRun
import Derived.Laws.BitsAllLaws
namespace Go.Proofs.YtkegaaonpekkgaaGreat.Sx
open Go.RowKit
theorem Sub.trans{S S' S'':St}(h:Sub S S')(h':Sub S' S''):Sub S S'':=λB N a w k hs=>by
 obtain⟨k',hs'⟩:=h B N a w k hs
 exact h' B N a w k' hs'
theorem zsh(pub:Bool){S:St}(t:Nat)(e:TypeId)(sz:Nat)(hf:fget S.F t=some (.r (.x (.slice none 0 0)))):Sub S {F:=(t, .own S.nx)::S.F,O:=(S.nx,some (.ch e sz 0 [] pub))::S.O,nx:=S.nx+1}:=by
 rintro B N a w k ⟨g,hs⟩
 have hv:=(hs.facts t _ hf).2
 simp only[TF.at_,RV.at_]at hv
 have hlt:t<a.tmps.size:=by
  rcases Nat.lt_or_ge t a.tmps.size with h |h
  ·exact h
  ·rw[Array.getD_eq_getD_getElem?,Array.getElem?_eq_none h]at hv
   simp[undef]at hv
 have h:=hs.adopt (dst:=some t) (λd hd=>by cases hd;rw[<-hs.size];exact hlt) (o:= .ch e sz 0 [] pub) (vb:=(.slice none 0 0,none)) trivial ⟨by simp, .inl ⟨rfl, .inl ⟨rfl,none,rfl⟩⟩⟩ (λb hb=>by cases hb) (λi o' b _ hb=>by cases hb)
 have e1:a.put (some t) (.slice none 0 0)=a:=by
  simp only[Act.put]
  have:a.tmps.setIfInBounds t (.slice none 0 0)=a.tmps:=by
   apply Array.ext
   ·simp
   ·intro i h1 h2
    by_cases hi:t=i
    ·subst hi
     rw[Array.getElem_setIfInBounds_self]
     rw[Array.getD_eq_getD_getElem?,Array.getElem?_eq_getElem hlt]at hv
     exact hv.symm
    ·rw[Array.getElem_setIfInBounds_ne _ hi]
  rw[this]
 rw[e1]at h
 exact⟨k,_,h⟩
theorem zd7{S:St}(t:Nat)(e:TypeId)(sz:Nat)(hf:fget S.F t=some (.r (.x (.slice none 0 0)))):Sub S {F:=(t, .own S.nx)::S.F,O:=(S.nx,some (.ch e sz 0 [] true))::S.O,nx:=S.nx+1}:=zsh true t e sz hf
theorem zie{S:St}(t:Nat)(e:TypeId)(sz:Nat)(hf:fget S.F t=some (.r (.x (.slice none 0 0)))):Sub S {F:=(t, .own S.nx)::S.F,O:=(S.nx,some (.ch e sz 0 [] false))::S.O,nx:=S.nx+1}:=zsh false t e sz hf
theorem Cvs.of_eq{cs ds:List RV}(h:cs=ds):Cvs cs ds:=h▸zn cs
theorem cvCh{ρ:List (Nat×Nat)}{S:St}{e:TypeId}{l m:List UInt8}(h:l=m):cvOw ρ S (.ch e 1 l.length (l.map U8) true) (.ch e 1 m.length (m.map U8) true):=by
 subst h
 exact⟨rfl,rfl,rfl,rfl,zn _⟩
theorem z3v{ρ:List (Nat×Nat)}{S:St}{e:TypeId}{l m:List Int}(h:l=m):cvOw ρ S (.ch e 1 l.length (l.map I) true) (.ch e 1 m.length (m.map I) true):=by
 subst h
 exact⟨rfl,rfl,rfl,rfl,zn _⟩
def bch(l:List UInt8):Res:= .ch 5 1 l.length (l.map U8)
def ich(l:List Int):Res:= .ch 3 1 l.length (l.map I)
theorem Vcall.bool{P:Program}{f:FuncId}{vs:List RV}{K:Res->Prop}{β:Bool}(hg:zab P f vs (.r (.b β)))(ht:β=true->K (.r (.b true)))(hf:β=false->K (.r (.b false))):Vcall P f vs K:=by
 cases β
 ·exact ze hg (hf rfl)
 ·exact ze hg (ht rfl)
theorem zdt{P:Program}{f:FuncId}{fn:Func}{c:Code}(hf:P.funcs[f]?=some fn)(hb:fn.body=some c)(hn:(!(fn.name== "runtime.NumGoroutine"))=true):zjm P f:=
 ⟨fn,c,hf,hb,by simpa using hn⟩
theorem zne{P:Program}{f:FuncId}{sz n:Nat}{cells args:List RV}{res:Res}(hk:zjm P f)(h:n<=9223372036854775807->zab P f (.sl sz n cells::args) res):zab P f (.sl sz n cells::args) res:=
 ⟨hk,λw k vs hp=>(h (by
  simp only[RV.partsAt,RV.at_]at hp
  obtain⟨_,_,rfl,⟨a,c,rfl,h1,h2,_⟩,_⟩:=hp
  simp only[maxLen]at h2
  omega)).2 w k vs hp⟩
def k_64(k:IntKind):Prop:=k= .u64\/k= .i64
theorem z5i{k:IntKind}(hk:k_64 k){m:Nat}(h:m<9223372036854775808):(m:Int)=k.wrap (m:Int):=by
 rcases hk with rfl |rfl
 ·simp only[IntKind.wrap];simp[IntKind.bits,IntKind.signed];omega
 ·rw[IntKind.wrap_i64];omega
theorem z9f{a:Nat}(h:a<9223372036854775808):(BitVec.ofInt 64 (a:Int)).toNat=a:=by rw[BitVec.toNat_ofInt];omega
theorem Vint.nat{k:IntKind}(hk:k_64 k){e:Int}{K:Int->Prop}(n:Nat)(he:e=(n:Int))(h:n<9223372036854775808)(hK:K (n:Int)):Vint k e K:=⟨n,by rw[he];exact z5i hk h,hK⟩
def bitN(op:BinOp)(x y:Nat):Nat:=match op with
 | .and=>x&&&y
 | .or=>x|||y
 | .xor=>x^^^y
 |_=>x&&&(18446744073709551615-y)
theorem zfjb{op:BinOp}{x y:Nat}{u v:BitVec 64}(hu:u.toNat=x)(hv:v.toNat=y):bitN op x y=(match op with
  | .and=>(u&&&v).toNat
  | .or=>(u|||v).toNat
  | .xor=>(u^^^v).toNat
  |_=>(u&&& ~~~v).toNat):=by
 subst hu;subst hv
 unfold bitN
 cases op<;>simp[BitVec.toNat_and,BitVec.toNat_or,BitVec.toNat_xor,BitVec.toNat_not]
theorem Vbits.nat{k:IntKind}(hk:k_64 k){op:BinOp}{a b:Int}{K:Int->Prop}(x y m:Nat)(ha:a=(x:Int))(hb:b=(y:Int))(hx:x<9223372036854775808)(hy:y<9223372036854775808)(hm:m<9223372036854775808)
  (he:bitN op x y=m) (hK:K (m:Int)):Vbits k op a b K:=by
 subst ha;subst hb;subst he
 refine⟨_,(z5i hk hm).trans (congrArg (λz:Nat=>k.wrap (z:Int)) ?_),hK⟩
 have h1:=z9f hx
 have h2:=z9f hy
 rcases hk with rfl |rfl<;>exact zfjb h1 h2
theorem Vshr.nat{k:IntKind}(hk:k_64 k){a b:Int}{K:Int->Prop}(x n m:Nat)(ha:a=(x:Int))(hb:b=(n:Int))(hn:n<=64)(hm:x/2^n=m)(hK:K (m:Int)):Vshr k a b K:=by
 subst ha;subst hb;subst hm
 have e:k.bits=64:=by rcases hk with rfl |rfl<;>rfl
 refine⟨by omega,_,?_,hK⟩
 rw[Int.toNat_natCast,e,Nat.min_eq_left hn,Int.fdiv_eq_ediv_of_nonneg _ (Int.pow_nonneg (by omega))]
 norm_cast
theorem Vshl.nat{k:IntKind}(hk:k_64 k){a b:Int}{K:Int->Prop}(x n m:Nat)(ha:a=(x:Int))(hb:b=(n:Int))(hn:n<=64)(hm:x*2^n=m)(hl:m<9223372036854775808)(hK:K (m:Int)):Vshl k a b K:=by
 subst ha;subst hb
 have e:k.bits=64:=by rcases hk with rfl |rfl<;>rfl
 refine⟨by omega,_,?_,hK⟩
 rw[Int.toNat_natCast,e,Nat.min_eq_left hn,show(x:Int)*2^n=((x*2^n:Nat):Int)by simp,hm]
 exact z5i hk hl
theorem Vstep.nilSl{P:Program}{S:St}{o:Oper}{t t2 e:TypeId}{x y:Operand}{sz n:Nat}{cells:List RV}{K:St->Prop}(hop:o.op= .binOp .eql t x y t2)(hx:opr S x=some (.r (.sl sz n cells)))(hy:opr S y=some (.r (.x (.slice none 0 0))))(hu:P.underlying t=some (.slice e))
  (h1:n=0->newK S o.dst (.r (.b true)) none K) (h0:newK S o.dst (.r (.b false)) none K):Vstep P S o K:=by
 simp only[zaw]at h1 h0
 have key: ∀B N a w k (Q:Exit->Act->World->Prop),Sat B N S a w k->(∀d,o.dst=some d->d<N)->o.wp P a w (λa' w'=>∃b k',(b=true->n=0)/\Sat B N (S.new o.dst (.r (.b b)) none) a' w' k') Q:=λB N a w k Q ⟨g,hs⟩ hd=>by
  have hv:=(zaf hs hx).2
  have hn:=(zaf hs hy).2
  simp only[TF.at_,RV.at_]at hv hn
  obtain⟨p,c,e1,_,_,_,h4⟩:=hv
  refine zau (v:= .bool p.isNone) (w':=w) ?_ ⟨p.isNone,k,λhb=>?_,g,hs.put hd trivial (by simp only[TF.at_,RV.at_])⟩
  ·have hq:=Go.Lib.run_eql_slice_nil (P:=P) w _ _ p n c 0 0 hu
   simp[execOp,hop,e1,hn,eqGuard,hq]
  ·rcases Nat.eq_zero_or_pos n with h |h
   ·exact h
   ·obtain⟨b,o',rfl,_⟩:=h4 h
    cases hb
 by_cases hn:n=0
 ·exact⟨Bool,λb=>S.new o.dst (.r (.b b)) none,λB N a w k Q hs hd=>Oper.wp_mono (λa' w' ⟨b,k',_,h⟩=>⟨b,k',h⟩) (key B N a w k Q hs hd),λb=>match b with |false=>h0 |true=>h1 hn⟩
 ·refine Vstep.one (λB N a w k Q hs hd=>Oper.wp_mono (λa' w' ⟨b,k',hb,h⟩=>?_) (key B N a w k Q hs hd)) h0
  cases b with
  |false=>exact⟨k',h⟩
  |true=>exact absurd (hb rfl) hn
abbrev U64(n:Nat):RV:= .i .u64 (n:Int)
theorem zjj{x:Nat}(h:x<18446744073709551616):IntKind.u64.wrap (x:Int)=(x:Int):=by
 have:((x:Int)%18446744073709551616)=x:=by omega
 simp only[IntKind.wrap]
 simp[IntKind.bits,IntKind.signed]
 omega
theorem Vint.u64{e:Int}{K:Int->Prop}(n:Nat)(he:e=(n:Int))(h:n<18446744073709551616)(hK:K (n:Int)):Vint .u64 e K:=⟨n,by rw[he,zjj h],hK⟩
theorem Vquo.nat{a b:Int}{K:Int->Prop}(x y:Nat)(ha:a=(x:Int))(hb:b=(y:Int))(hy:0<y)(hx:x<18446744073709551616)(hK:K ((x/y:Nat):Int)):Vquo .u64 a b K:=by
 subst ha;subst hb
 refine⟨by omega,_,?_,hK⟩
 rw[Int.tdiv_eq_ediv_of_nonneg (by omega),<-Int.natCast_ediv,zjj (Nat.lt_of_le_of_lt (Nat.div_le_self _ _) hx)]
theorem Vrem.nat{a b:Int}{K:Int->Prop}(x y:Nat)(ha:a=(x:Int))(hb:b=(y:Int))(hy:0<y)(hK:K ((x%y:Nat):Int)):Vrem a b K:=by
 subst ha;subst hb
 refine⟨by omega,_,?_,hK⟩
 rw[Int.tmod_eq_emod_of_nonneg (by omega),<-Int.natCast_emod]
theorem Vint.u8{e:Int}{K:Int->Prop}(n:Nat)(he:e=(n:Int))(hK:K (((UInt8.ofNat n).toNat:Nat):Int)):Vint .u8 e K:=by
 refine⟨_,?_,hK⟩
 subst he
 simp only[IntKind.wrap]
 simp[IntKind.bits,IntKind.signed]
theorem Vadr.mk'{i:Int}{n:Nat}{K:Nat->Prop}(j:Nat)(h:i=(j:Int))(hj:j<n)(hK:K j):Vadr i n K:=by
 subst h
 exact⟨by omega,by omega,by rw[Int.toNat_natCast];exact hK⟩
theorem zog(q:Nat):UInt8.ofNat (q%256)=UInt8.ofNat q:=by
 apply UInt8.toNat_inj.1
 simp
theorem zjs{P:Program}{f:FuncId}{args:List RV}{e:TypeId}{sz n:Nat}{cells:List RV}(h:zab P f args (.own e sz n cells)):zab P f args (.ch e sz n cells):=
 ⟨h.1,λw k vs hp=>(h.2 w k vs hp).mono λe' w' ⟨v,he,hx,k',hk,ob,⟨hl,hc⟩,hb⟩=>by
  rcases hc with⟨rfl,h⟩ |⟨b,cap,cur,rfl,rfl,hh,h1,h2,h3,h4,h5⟩
  ·refine⟨v,he,hx,k',hk,none,⟨hl, .inl ⟨rfl,?_⟩⟩,λb h=>by cases h⟩
   rcases h with h |⟨_,h,_⟩
   ·exact .inl h
   ·cases h
  ·have hle:Le w' k' w' (kset k' b (n*sz)):=⟨Nat.le_refl _,λx _=>by
    unfold kset
    split
    ·rename_i hx;subst hx;rw[h4];simp
    ·exact Nat.le_refl _,λ_ _ _ _=>rfl,λ_ _ _ _ _ h=>h⟩
   have hb':=hb b rfl
   exact⟨_,he,hx,kset k' b (n*sz),λx hx'=>by rw[kset,if_neg (by omega)];exact hk x hx',some b,⟨hl, .inr ⟨b,cap,cur,rfl,rfl,hh,h1,h2,h3,zby,RV.list_mono hle _ _ h5⟩⟩,hb⟩⟩
end Go.Proofs.YtkegaaonpekkgaaGreat.Sx

namespace Go.Proofs.YtkegaaonpekkgaaGreat
def lvF:Nat->Nat->Nat
 |0,_=>0
 |f+1,x=>if x%2=1 then lvF f (x/2)+1 else 0
def lv(x:Nat):Nat:=lvF 17 x
def nd(h k:Nat):Nat:=k*2^(h+1)+2^h-1
theorem zal(n:Nat):0<2^n:=Nat.pow_pos (by omega)
theorem z9a: ∀(f x:Nat),x<2^f-1->lvF f x<f/\x%2^(lvF f x)=2^(lvF f x)-1/\x/2^(lvF f x)%2=0
 |0,x,h=>by simp at h
 |f+1,x,h=>by
  have hp:=zal f
  have e:2^(f+1)=2*2^f:=by rw[Nat.pow_succ];omega
  unfold lvF
  by_cases hx:x%2=1
  ·rw[if_pos hx]
   have ih:=z9a f (x/2) (by omega)
   generalize lvF f (x/2)=l at ih
   have hl:=zal l
   refine⟨by omega,?_,?_⟩
   ·rw[Nat.pow_succ,Nat.mul_comm,Nat.mod_mul,ih.2.1];omega
   ·rw[Nat.pow_succ,Nat.mul_comm,<-Nat.div_div_eq_div_mul];exact ih.2.2
  ·rw[if_neg hx]
   refine⟨by omega,by simp;omega,by simp;omega⟩
theorem zgw{x:Nat}(h:x<=131070):lv x<=16/\x%2^(lv x)=2^(lv x)-1/\x/2^(lv x)%2=0:=by
 have:=z9a 17 x (by omega)
 exact⟨by unfold lv;omega,this.2⟩
theorem zezb{x:Nat}(h:x<=131070):x=nd (lv x) (x/2^(lv x+1)):=by
 obtain⟨_,h1,h2⟩:=zgw h
 generalize lv x=l at*
 have hp:=zal l
 unfold nd
 have e1:x/2^(l+1)=x/2^l/2:=by rw[Nat.pow_succ,Nat.div_div_eq_div_mul]
 have e2:=Nat.div_add_mod x (2^l)
 have e3:=Nat.div_add_mod (x/2^l) 2
 rw[e1]
 rw[h1]at e2
 rw[h2]at e3
 generalize x/2^l/2=k at*
 have e4:k*2^(l+1)=2^l*(2*k):=by rw[Nat.pow_succ,Nat.mul_comm (2^l) 2,<-Nat.mul_assoc,Nat.mul_comm,Nat.mul_comm k 2]
 rw[e4]
 have e5:2*k=x/2^l:=by omega
 rw[e5]
 omega
theorem z9b: ∀(f h k:Nat),h<f->lvF f (nd h k)=h
 |0,h,k,hh=>by omega
 |f+1,0,k,_=>by unfold lvF nd;simp
 |f+1,h+1,k,hh=>by
  have hp:=zal h
  have e:nd (h+1) k=2*nd h k+1:=by
   unfold nd
   rw[Nat.pow_succ 2 (h+1),Nat.pow_succ 2 h,<-Nat.mul_assoc]
   omega
  unfold lvF
  rw[e,if_pos (by omega),show(2*nd h k+1)/2=nd h k by omega,z9b f h k (by omega)]
theorem zwf{h k:Nat}(hh:h<=16):lv (nd h k)=h:=z9b 17 h k (by omega)
theorem zhfb(h k:Nat):nd (h+1) k=2*nd h k+1:=by
 have hp:=zal h
 unfold nd
 rw[Nat.pow_succ 2 (h+1),Nat.pow_succ 2 h,<-Nat.mul_assoc]
 omega
theorem z2k(k:Nat):nd 0 k=2*k:=by unfold nd;simp;omega
def fitsL:List Int:=[1,2,4,8,16,32,64,128,256,512,1024,2048,4096,8192,16384,32768,65536]
def zd9(n:Int):Bool:=fitsL.contains n
theorem zgs{n:Int}(h:zd9 n=true): ∃d,d<=16/\n=((2^d:Nat):Int):=by
 unfold zd9 fitsL at h
 simp at h
 rcases h with h |h |h |h |h |h |h |h |h |h |h |h |h |h |h |h |h
 ·exact⟨0,by omega,by simpa using h⟩
 ·exact⟨1,by omega,by simpa using h⟩
 ·exact⟨2,by omega,by simpa using h⟩
 ·exact⟨3,by omega,by simpa using h⟩
 ·exact⟨4,by omega,by simpa using h⟩
 ·exact⟨5,by omega,by simpa using h⟩
 ·exact⟨6,by omega,by simpa using h⟩
 ·exact⟨7,by omega,by simpa using h⟩
 ·exact⟨8,by omega,by simpa using h⟩
 ·exact⟨9,by omega,by simpa using h⟩
 ·exact⟨10,by omega,by simpa using h⟩
 ·exact⟨11,by omega,by simpa using h⟩
 ·exact⟨12,by omega,by simpa using h⟩
 ·exact⟨13,by omega,by simpa using h⟩
 ·exact⟨14,by omega,by simpa using h⟩
 ·exact⟨15,by omega,by simpa using h⟩
 ·exact⟨16,by omega,by simpa using h⟩
theorem zqq: ∀d,d<=16->zd9 ((2^d:Nat):Int)=true:=by decide+kernel
theorem zik{n:Int}(h:zd9 n=true):1<=n/\n<=65536:=by
 obtain⟨d,hd,rfl⟩:=zgs h
 have h1:=zal d
 have h2:2^d<=2^16:=Nat.pow_le_pow_right (by omega) hd
 omega
def zdn(x:Int):Bool:=decide (0<=x)&&decide (x<=131070)
def ofI(x n:Int):Bool:=zd9 n&&(decide (0<=x)&&decide (x<=2*n-2))
theorem zdo{x:Int}:zdn x=true↔0<=x/\x<=131070:=by simp[zdn]
theorem zin{x n:Int}:ofI x n=true↔zd9 n=true/\0<=x/\x<=2*n-2:=by simp[ofI]
def lvI(x:Int):Int:=if zdn x then(lv x.toNat:Int)else-1
def zdj(x:Int):Int:=if 0<lvI x then 2^(lvI x-1).toNat else 0
def ze8(x:Int):Int:=if zdj x=0 then-1 else x-zdj x
def zd4(x:Int):Int:=if zdj x=0 then-1 else x+zdj x
def z58(n:Int):Int:=if zd9 n then n-1 else-1
def upN(x:Nat):Nat:=if x/2^(lv x+1)%2=0 then x+2^lv x else x-2^lv x
def parI(x n:Int):Int:=if ofI x n&&decide (x≠n-1)then(upN x.toNat:Int)else-1
def sibI(x n:Int):Int:=if parI x n<0 then-1 else if x<parI x n then zd4 (parI x n)else ze8 (parI x n)
def zem(n:Int):Nat->Int->List Int
 |0,_=>[]
 |f+1,x=>if parI x n<0 then[]else parI x n::zem n f (parI x n)
def zo1(x n:Int):List Int:=zem n 17 x
def zfy(n:Int):Nat->Int->List Int
 |0,_=>[]
 |f+1,x=>if parI x n<0 then[]else sibI x n::zfy n f (parI x n)
def zon(x n:Int):List Int:=zfy n 17 x
def zka(y:Int):Int:=2^(lvI y).toNat-1
def ze1(x y:Int):Bool:=(zdn x&&zdn y)&&(decide (y-zka y<=x)&&decide (x<=y+zka y))
theorem z6j{x y:Int}:ze1 x y=true↔(zdn x=true/\zdn y=true)/\y-zka y<=x/\x<=y+zka y:=by
 simp only[ze1,Bool.and_eq_true,decide_eq_true_eq]
theorem zd7b(y:Int):zka y=2^(lvI y).toNat-1:=rfl
theorem znt(x:Int): -1<=lvI x/\lvI x<=16:=by
 unfold lvI
 split
 ·rename_i h
  rw[zdo]at h
  have:=(zgw (x:=x.toNat) (by omega)).1
  omega
 ·omega
theorem zl4{x:Int}(h:zdn x=true):lvI x=lv x.toNat:=by simp[lvI,h]
theorem zl5{x:Int}(h:zdn x=false):lvI x= -1:=by simp[lvI,h]
theorem zmub{h k:Nat}(hh:h+1<=16):upN (nd h k)=nd (h+1) (k/2):=by
 have hp:=zal h
 unfold upN
 rw[zwf (by omega)]
 have e1:nd h k/2^(h+1)=k:=by
  unfold nd
  have:2^h<2^(h+1):=by rw[Nat.pow_succ];omega
  rw[Nat.add_sub_assoc (by omega),Nat.add_comm,Nat.add_mul_div_right _ _ (zal _),Nat.div_eq_of_lt (by omega)]
  omega
 rw[e1]
 unfold nd
 rw[Nat.pow_succ 2 (h+1),Nat.pow_succ 2 h]
 generalize 2^h=q at*
 split
 ·rename_i hk
  have:k=2*(k/2):=by omega
  generalize k/2=j at*
  subst this
  rw[show 2*j*(q*2)=j*(q*2*2)by rw[Nat.mul_comm 2 j,Nat.mul_assoc,Nat.mul_comm 2]]
  omega
 ·rename_i hk
  have:k=2*(k/2)+1:=by omega
  generalize k/2=j at*
  subst this
  rw[Nat.add_mul,show 2*j*(q*2)=j*(q*2*2)by rw[Nat.mul_comm 2 j,Nat.mul_assoc,Nat.mul_comm 2]]
  omega
theorem z9p{a j:Nat}(h:a/2^j%2=0):a|||2^j=a+2^j:=by
 have hp:=zal j
 have e3:a=a/2^(j+1)*2^(j+1)+a%2^j:=by
  have e4:=Nat.div_add_mod a (2^j)
  have e5:a/2^(j+1)=a/2^j/2:=by rw[Nat.pow_succ,Nat.div_div_eq_div_mul]
  have e6:a/2^(j+1)*2^(j+1)=2^j*(2*(a/2^j/2)):=by rw[e5,Nat.pow_succ,Nat.mul_comm,Nat.mul_assoc]
  rw[e6,show 2*(a/2^j/2)=a/2^j by omega]
  omega
 have hlt:a%2^j<2^j:=Nat.mod_lt _ hp
 have hs:2^(j+1)=2*2^j:=by rw[Nat.pow_succ];omega
 have hq:(a/2^(j+1)*2^(j+1))%2^(j+1)=0:=by simp
 generalize a/2^(j+1)*2^(j+1)=q at*
 generalize a%2^j=r at*
 have e7:q|||r=q+r:=nat_join (j+1) q r hq (by omega)
 have e8:r|||2^j=2^j+r:=by rw[Nat.or_comm];exact nat_join j _ _ (by simp) hlt
 have e9:q|||(2^j+r)=q+(2^j+r):=nat_join (j+1) q _ hq (by omega)
 rw[e3,<-e7,Nat.or_assoc,e8,e9,e7]
 omega
theorem z6y{a j:Nat}(ha:a<2^64)(hj:j<64):a&&&(2^64-(2^j+1))=a-a/2^j%2*2^j:=by
 have hjj:2^j<2^64:=Nat.pow_lt_pow_right (by omega) hj
 have key: ∀b:Nat,b<2^64->b/2^j%2=0->b&&&(2^64-(2^j+1))=b:=by
  intro b hb h0
  apply Nat.eq_of_testBit_eq
  intro i
  rw[Nat.testBit_and,Nat.testBit_two_pow_sub_succ hjj,Nat.testBit_two_pow]
  by_cases hi:i<64
  ·by_cases hij:j=i
   ·subst hij
    simp[Nat.testBit_eq_decide_div_mod_eq,h0]
   ·simp[hij,hi]
  ·have:b.testBit i=false:=Nat.testBit_lt_two_pow (Nat.lt_of_lt_of_le hb (Nat.pow_le_pow_right (by omega) (by omega)))
   simp[this]
 have hp:=zal j
 rcases Nat.mod_two_eq_zero_or_one (a/2^j)with h |h
 ·rw[h,key a ha h];omega
 ·have hge:2^j<=a:=by
   rcases Nat.lt_or_ge a (2^j)with hl |hl
   ·rw[Nat.div_eq_of_lt hl]at h;omega
   ·exact hl
  have h0:(a-2^j)/2^j%2=0:=by
   have:(a-2^j)/2^j=a/2^j-1:=by have:=Nat.sub_mul_div a (2^j) 1;rwa[Nat.mul_one]at this
   omega
  have e:a=(a-2^j)|||2^j:=by rw[z9p h0];omega
  have:=key (a-2^j) (by omega) h0
  rw[h,Nat.one_mul]
  conv=>lhs;rw[e]
  rw[Nat.and_or_distrib_right,this]
  have h2:2^j&&&(2^64-(2^j+1))=0:=by
   apply Nat.eq_of_testBit_eq
   intro i
   rw[Nat.testBit_and,Nat.testBit_two_pow_sub_succ hjj,Nat.testBit_two_pow]
   by_cases hij:j=i<;>simp[hij]
  rw[h2,Nat.or_zero]
theorem z5s{h k d:Nat}(hd:h<=d):nd h k<=2*2^d-2↔k<2^(d-h):=by
 have hp:=zal h
 have hq:=zal (d-h)
 have e:2^d=2^h*2^(d-h):=by rw[<-Nat.pow_add];congr 1;omega
 unfold nd
 rw[e,Nat.pow_succ]
 generalize 2^h=q at*
 generalize 2^(d-h)=Q at*
 have e1:k*(q*2)=2*(q*k):=by rw[<-Nat.mul_assoc,Nat.mul_comm k q,Nat.mul_comm]
 rw[e1]
 constructor
 ·intro h1
  rcases Nat.lt_or_ge k Q with h2 |h2
  ·exact h2
  ·have:=Nat.mul_le_mul_left q h2
   have:q*1<=q*Q:=Nat.mul_le_mul_left q hq
   omega
 ·intro h1
  have:=Nat.mul_le_mul_left q (show k+1<=Q from h1)
  rw[Nat.mul_add]at this
  omega
theorem z2o{x n:Int}(h:ofI x n=true): ∃d h k,d<=16/\n=((2^d:Nat):Int)/\h<=d/\k<2^(d-h)/\x=(nd h k:Int):=by
 rw[zin]at h
 obtain⟨d,hd,hn⟩:=zgs h.1
 obtain⟨m,rfl⟩:=Int.eq_ofNat_of_zero_le h.2.1
 have h16:2^d<=2^16:=Nat.pow_le_pow_right (by omega) hd
 have hm:m<=2*2^d-2:=by omega
 have hf:=zezb (x:=m) (by omega)
 have hl:lv m<=d:=by
  rcases Nat.lt_or_ge d (lv m)with h1 |h1
  ·exfalso
   have h2:2^(d+1)<=2^lv m:=Nat.pow_le_pow_right (by omega) h1
   rw[Nat.pow_succ]at h2
   have hp:=zal d
   have:2^lv m-1<=m:=by
    conv=>rhs;rw[hf]
    unfold nd
    omega
   omega
  ·exact h1
 refine⟨d,lv m,m/2^(lv m+1),hd,hn,hl,?_,by rw[<-hf]⟩
 rw[<-z5s hl,<-hf];exact hm
theorem z5u{d h k:Nat}(hd:d<=16)(hh:h<=d)(hk:k<2^(d-h)):ofI (nd h k:Int) ((2^d:Nat):Int)=true:=by
 rw[zin]
 have:=(z5s hh).2 hk
 exact⟨zqq d hd,by omega,by have:=zal d;omega⟩
theorem zheb{d h k:Nat}(hd:d<=16)(hh:h<=d)(hk:k<2^(d-h)):nd h k<=131070:=by
 have:=(z5s hh).2 hk
 have h16:2^d<=2^16:=Nat.pow_le_pow_right (by omega) hd
 omega
theorem zc9b{d h k:Nat}(hd:d<=16)(hh:h<=d)(hk:k<2^(d-h)):zdn (nd h k:Int)=true:=by
 have:=zheb hd hh hk
 rw[zdo];omega
theorem zr3{d h k:Nat}(hd:d<=16)(hh:h<=d)(hk:k<2^(d-h)):lvI (nd h k:Int)=h:=by
 rw[zl4 (zc9b hd hh hk),Int.toNat_natCast,zwf (by omega)]
theorem ztj(d:Nat):(nd d 0:Int)=((2^d:Nat):Int)-1:=by
 have:=zal d
 unfold nd;omega
theorem z9g{h k h' k':Nat}(hh:h<=16)(hh':h'<=16)(e:nd h k=nd h' k'):h=h'/\k=k':=by
 have h1:h=h':=by rw[<-zwf (h:=h) (k:=k) hh,<-zwf (h:=h') (k:=k') hh',e]
 subst h1
 refine⟨rfl,?_⟩
 unfold nd at e
 have hp:=zal h
 have:k*2^(h+1)=k'*2^(h+1):=by omega
 exact Nat.eq_of_mul_eq_mul_right (zal _) this
theorem zhob{d h k:Nat}(hd:d<=16)(hh:h<d)(hk:k<2^(d-h)):parI (nd h k:Int) ((2^d:Nat):Int)=(nd (h+1) (k/2):Int):=by
 have hne:(nd h k:Int)≠((2^d:Nat):Int)-1:=by
  rw[<-ztj]
  intro e
  have:=(z9g (by omega) hd (Int.ofNat.inj e)).1
  omega
 unfold parI
 rw[z5u hd (by omega) hk,Int.toNat_natCast,zmub (by omega),Bool.true_and,if_pos (by rw[decide_eq_true_eq];exact hne)]
theorem z9t{d:Nat}:parI (nd d 0:Int) ((2^d:Nat):Int)= -1:=by
 unfold parI
 rw[ztj];simp
theorem z15{d h k:Nat}(hh:h<d)(hk:k<2^(d-h)):k/2<2^(d-(h+1)):=by
 have e:2^(d-h)=2*2^(d-(h+1)):=by
  rw[show d-h=d-(h+1)+1 by omega,Nat.pow_succ];omega
 omega
theorem z9u{x n:Int}(h:0<=parI x n):ofI x n=true/\ofI (parI x n) n=true/\lvI (parI x n)=lvI x+1/\0<=lvI x:=by
 have ho:ofI x n=true:=by
  unfold parI at h
  split at h
  ·rename_i h1;simp at h1;exact h1.1
  ·omega
 obtain⟨d,l,k,hd,rfl,hh,hk,rfl⟩:=z2o ho
 rcases Nat.lt_or_ge l d with hlt |hge
 ·rw[zhob hd hlt hk]at*
  exact⟨ho,z5u hd (by omega) (z15 hlt hk),by rw[zr3 hd (by omega) (z15 hlt hk),zr3 hd hh hk];rfl,by rw[zr3 hd hh hk];omega⟩
 ·obtain rfl:l=d:=by omega
  have:k=0:=by simpa using hk
  subst this
  rw[z9t]at h
  omega
def on6(f:Nat):Nat:=Nat.land (Nat.add f (Nat.div f 4294967296)) 127
def on5(e:Nat):Nat:=on6 (Nat.add e (Nat.div e 65536))
def on4(d:Nat):Nat:=on5 (Nat.add d (Nat.div d 256))
def on3(b:Nat):Nat:=on4 (Nat.land (Nat.add (Nat.div b 16) b) 1085102592571150095)
def on2(a:Nat):Nat:=on3 (Nat.add (Nat.land (Nat.div a 4) 3689348814741910323) (Nat.land a 3689348814741910323))
def zwi(n:Nat):Nat:=on2 (Nat.add (Nat.land (Nat.div n 2) 6148914691236517205) (Nat.land n 6148914691236517205))
def pwN(n:Nat):Bool:=Nat.beq (Nat.land n (Nat.sub n 1)) 0
def beqB:Bool->Bool->Bool
 |true,b=>b
 |false,true=>false
 |false,false=>true
def z9o(n:Nat):Bool:=beqB (Nat.beq (zwi n) 1) (pwN n)
def upTo(p:Nat->Bool):Nat->Bool
 |0=>true
 |n+1=>match p (n+1)with |true=>upTo p n |false=>false
theorem ztp{p:Nat->Bool}: ∀{n:Nat},upTo p n=true->∀i,i<n->p (i+1)=true
 |0,_,i,h=>by omega
 |n+1,h,i,hi=>by
  unfold upTo at h
  split at h
  ·by_cases e:i=n
   ·subst e;assumption
   ·exact ztp h i (by omega)
  ·cases h
theorem z03:upTo (λk=>upTo (λi=>z9o (Nat.add (Nat.mul 2048 (Nat.sub k 1)) i)) 2048) 32=true:=by decide+kernel
theorem zhkb{n:Nat}(h1:1<=n)(h2:n<=65536):z9o n=true:=by
 have h:=ztp z03 ((n-1)/2048) (by omega)
 have h':=ztp h ((n-1)%2048) (by omega)
 have e:Nat.add (Nat.mul 2048 (Nat.sub ((n-1)/2048+1) 1)) ((n-1)%2048+1)=n:=by
  show 2048*((n-1)/2048+1-1)+((n-1)%2048+1)=n
  omega
 rw[e]at h'
 exact h'
theorem zfib{a b:Bool}(h:beqB a b=true):a=b:=by cases a<;>cases b<;>simp[beqB]at*
theorem zmcb{n:Nat}(h1:1<=n)(h2:n<=65536)(h:n&&&(n-1)=0): ∃d,d<=16/\n=2^d:=by
 obtain⟨hl,_,_⟩:=zgw (x:=n-1) (by omega)
 have hn:=zezb (x:=n-1) (by omega)
 generalize lv (n-1)=l at*
 generalize (n-1)/2^(l+1)=k at hn
 have hp:=zal l
 have hp1:=zal (l+1)
 have hlt:2^l<2^(l+1):=by rw[Nat.pow_succ];omega
 unfold nd at hn
 have e1:n=k*2^(l+1)+2^l:=by omega
 have d1:n/2^(l+1)=k:=by
  rw[e1,Nat.add_comm,Nat.add_mul_div_right _ _ hp1,Nat.div_eq_of_lt (by omega)];omega
 have d2:(n-1)/2^(l+1)=k:=by
  rw[hn,Nat.add_sub_assoc (by omega),Nat.add_comm,Nat.add_mul_div_right _ _ hp1,Nat.div_eq_of_lt (by omega)];omega
 have:=Nat.and_div_two_pow (a:=n) (b:=n-1) (n:=l+1)
 rw[h,d1,d2,Nat.and_self,Nat.zero_div]at this
 subst this
 exact⟨l,hl,by omega⟩
theorem zlbb: ∀d,d<=16->pwN (2^d)=true:=by decide+kernel
theorem zddb{n:Nat}(h1:1<=n)(h2:n<=65536):(zwi n=1)↔zd9 (n:Int)=true:=by
 have h:=zfib (zhkb h1 h2)
 constructor
 ·intro h3
  rw[h3]at h
  have h4:n&&&(n-1)=0:=Nat.eq_of_beq_eq_true (h.symm.trans rfl)
  obtain⟨d,hd,rfl⟩:=zmcb h1 h2 h4
  exact zqq d hd
 ·intro h3
  obtain⟨d,hd,e⟩:=zgs h3
  have e':n=2^d:=by omega
  rw[e',zlbb d hd]at h
  rw[e']
  exact Nat.eq_of_beq_eq_true h
structure D3 where
 at_:Int
 lo:Int
 hi:Int
def zf9(x:Int):Nat->Int->Int->List D3
 |0,_,_=>[]
 |f+1,lo,hi=>⟨(lo+hi)/2,lo,hi⟩::(if(lo+hi)/2=x then[]else if x< (lo+hi)/2 then zf9 x f lo ((lo+hi)/2-1)else zf9 x f ((lo+hi)/2+1) hi)
def zc5(x n:Int):List D3:=if ofI x n then zf9 x 17 0 (2*n-2)else[]
def trip(h k:Nat):D3:=⟨(nd h k:Int),((k*2^(h+1):Nat):Int),((k*2^(h+1)+2^(h+1)-2:Nat):Int)⟩
def upT:Nat->Nat->Nat->List D3
 |0,h,k=>[trip h k]
 |m+1,h,k=>trip h k::upT m (h+1) (k/2)
theorem zz0: ∀(m h k:Nat),upT (m+1) h k=upT m h k++[trip (h+(m+1)) (k/2^(m+1))]
 |0,h,k=>by simp[upT]
 |m+1,h,k=>by
  rw[upT,zz0 m (h+1) (k/2),<-List.cons_append]
  congr 2
  rw[Nat.div_div_eq_div_mul,<-Nat.pow_succ',show h+1+(m+1)=h+(m+1+1)by omega]
theorem z3g: ∀(m h k:Nat),(upT m h k).length=m+1
 |0,_,_=>rfl
 |m+1,h,k=>by rw[upT,List.length_cons,z3g]
theorem znib(h k i:Nat):(k/2^i)*2^(h+i+1)<=nd h k/\nd h k+2<=(k/2^i)*2^(h+i+1)+2^(h+i+1):=by
 have hp:=zal h
 have e1:2^(h+i+1)=2^i*2^(h+1):=by rw[<-Nat.pow_add];congr 1;omega
 have e2:2^(h+1)=2*2^h:=by rw[Nat.pow_succ];omega
 have h1:=Nat.div_mul_le_self k (2^i)
 have h2:k< (k/2^i+1)*2^i:=by
  have:=Nat.lt_div_mul_add (a:=k) (zal i)
  rw[Nat.add_mul];omega
 have h3:=Nat.mul_le_mul_right (2^(h+1)) h1
 have h4:=Nat.mul_le_mul_right (2^(h+1)) (show k+1<=(k/2^i+1)*2^i from h2)
 rw[Nat.mul_assoc]at h3 h4
 rw[Nat.add_mul,Nat.add_mul]at h4
 unfold nd
 rw[e1]
 omega
theorem z9h(h k:Nat):(((k*2^(h+1):Nat):Int)+((k*2^(h+1)+2^(h+1)-2:Nat):Int))/2=(nd h k:Int):=by
 have hp:=zal h
 have e2:2^(h+1)=2*2^h:=by rw[Nat.pow_succ];omega
 unfold nd
 generalize k*2^(h+1)=q
 omega
theorem zwz(h k:Nat): ∀(i f:Nat),h+i<=16->i<f->
  zf9 (nd h k:Int) f (((k/2^i)*2^(h+i+1):Nat):Int) (((k/2^i)*2^(h+i+1)+2^(h+i+1)-2:Nat):Int)=(upT i h k).reverse
 |0,f,hi,hf=>by
  obtain⟨f,rfl⟩: ∃g,f=g+1:=⟨f-1,by omega⟩
  rw[zf9]
  have:=z9h h k
  simp only[Nat.pow_zero,Nat.div_one,Nat.add_zero]at this⊢
  rw[this,if_pos rfl]
  rfl
 |i+1,f,hi,hf=>by
  obtain⟨f,rfl⟩: ∃g,f=g+1:=⟨f-1,by omega⟩
  have hne:(nd (h+(i+1)) (k/2^(i+1)):Int)≠(nd h k:Int):=by
   intro e
   have:=(z9g (by omega) (by omega) (Int.ofNat.inj e)).1
   omega
  rw[zf9,z9h,if_neg hne,zz0,List.reverse_append,List.reverse_singleton]
  show _::_=trip (h+(i+1)) (k/2^(i+1))::(upT i h k).reverse
  congr 1
  obtain⟨b1,b2⟩:=znib h k i
  have e1:k/2^(i+1)=k/2^i/2:=by rw[Nat.pow_succ,Nat.div_div_eq_div_mul]
  have e2:2^(h+(i+1)+1)=2*2^(h+i+1):=by rw[show h+(i+1)+1=h+i+1+1 by omega,Nat.pow_succ];omega
  have e3:2^(h+(i+1))=2^(h+i+1):=by congr 1
  have hp:=zal (h+i+1)
  rw[e1]
  have ih:=zwz h k i f (by omega) (by omega)
  generalize k/2^i=q at*
  have hnd:nd (h+(i+1)) (q/2)=q/2*(2*2^(h+i+1))+2^(h+i+1)-1:=by unfold nd;rw[e2,e3]
  rw[hnd,e2]
  generalize 2^(h+i+1)=Q at*
  rcases Nat.mod_two_eq_zero_or_one q with hq |hq
  ·have eq:q=2*(q/2):=by omega
   generalize q/2=r at*
   subst eq
   have e4:2*r*Q=r*(2*Q):=by rw[Nat.mul_comm 2 r,Nat.mul_assoc]
   rw[e4]at b1 b2 ih
   rw[if_pos (by omega),<-ih]
   congr 1
   omega
  ·have eq:q=2*(q/2)+1:=by omega
   generalize q/2=r at*
   subst eq
   have e4:(2*r+1)*Q=r*(2*Q)+Q:=by rw[Nat.add_mul,Nat.mul_comm 2 r,Nat.mul_assoc,Nat.one_mul]
   rw[e4]at b1 b2 ih
   rw[if_neg (by omega),<-ih]
   congr 1<;>omega
theorem zw0{d h k:Nat}(hd:d<=16)(hh:h<=d)(hk:k<2^(d-h)):zc5 (nd h k:Int) ((2^d:Nat):Int)=(upT (d-h) h k).reverse:=by
 unfold zc5
 rw[if_pos (z5u hd hh hk)]
 have:=zwz h k (d-h) 17 (by omega) (by omega)
 rw[Nat.div_eq_of_lt hk,show h+(d-h)=d by omega]at this
 rw[<-this]
 have hp:=zal d
 congr 1<;>first|omega|(rw[Nat.pow_succ];omega)
theorem zlm{x n:Int}(h:ofI x n=false):zc5 x n=[]:=by simp[zc5,h]
theorem z65{x n:Int}(ho:ofI x n=true): ∃d h k,d<=16/\h<=d/\k<2^(d-h)/\n=((2^d:Nat):Int)/\x=(nd h k:Int)/\(zc5 x n).length=d-h+1/\(zc5 x n).getLast?=some (trip h k):=by
 obtain⟨d,h,k,hd,rfl,hh,hk,rfl⟩:=z2o ho
 refine⟨d,h,k,hd,hh,hk,rfl,rfl,?_,?_⟩
 ·rw[zw0 hd hh hk,List.length_reverse,z3g]
 ·rw[zw0 hd hh hk,List.getLast?_reverse]
  cases d-h<;>rfl
theorem zdbb{x:Int}:zdn x=ofI x 65536:=by
 rw[Bool.eq_iff_iff,zdo,zin]
 have:zd9 65536=true:=by decide
 constructor
 ·intro h;exact⟨this,by omega⟩
 ·intro h;omega
theorem ztg{d h k:Nat}(hd:d<=16)(hh:h<=d)(hk:k<2^(d-h)):zdj (nd h k:Int)=if h=0 then 0 else((2^(h-1):Nat):Int):=by
 unfold zdj
 rw[zr3 hd hh hk]
 rcases Nat.eq_zero_or_pos h with rfl |hp
 ·simp
 ·rw[if_pos (by omega),if_neg (by omega),show((h:Int)-1).toNat=h-1 by omega];simp
theorem z2d{d h k:Nat}(hd:d<=16)(hh:h+1<=d)(hk:k<2^(d-(h+1))):ze8 (nd (h+1) k:Int)=(nd h (2*k):Int):=by
 unfold ze8
 rw[ztg hd hh hk,if_neg (by omega: ¬h+1=0)]
 have hp:=zal h
 simp only[Nat.add_sub_cancel]
 rw[if_neg (by omega)]
 unfold nd
 rw[Nat.pow_succ 2 (h+1),Nat.pow_succ 2 h,show 2*k*(2^h*2)=k*(2^h*2*2)by rw[Nat.mul_comm 2 k,Nat.mul_assoc,Nat.mul_comm 2]]
 omega
theorem zzi{d h k:Nat}(hd:d<=16)(hh:h+1<=d)(hk:k<2^(d-(h+1))):zd4 (nd (h+1) k:Int)=(nd h (2*k+1):Int):=by
 unfold zd4
 rw[ztg hd hh hk,if_neg (by omega: ¬h+1=0)]
 have hp:=zal h
 simp only[Nat.add_sub_cancel]
 rw[if_neg (by omega)]
 unfold nd
 rw[Nat.pow_succ 2 (h+1),Nat.pow_succ 2 h,Nat.add_mul,show 2*k*(2^h*2)=k*(2^h*2*2)by rw[Nat.mul_comm 2 k,Nat.mul_assoc,Nat.mul_comm 2]]
 omega
theorem z2c{d k:Nat}(hd:d<=16)(hk:k<2^d):ze8 (nd 0 k:Int)= -1/\zd4 (nd 0 k:Int)= -1:=by
 unfold ze8 zd4
 rw[ztg hd (Nat.zero_le _) (by simpa using hk)]
 simp
theorem zvi{d h k:Nat}(hd:d<=16)(hh:h<=d)(hk:k<2^(d-h)):
  (if(trip h k).lo=(trip h k).hi then((-1:Int),(-1:Int))else(((trip h k).lo+(nd h k:Int)-1)/2,((nd h k:Int)+1+(trip h k).hi)/2))=(ze8 (nd h k:Int),zd4 (nd h k:Int)):=by
 rcases Nat.eq_zero_or_pos h with rfl |hp
 ·rw[(z2c hd (by simpa using hk)).1,(z2c hd (by simpa using hk)).2,if_pos (by simp[trip])]
 ·obtain⟨h,rfl⟩: ∃g,h=g+1:=⟨h-1,by omega⟩
  rw[z2d hd hh hk,zzi hd hh hk]
  have hp:=zal h
  have e1:2^(h+1+1)=4*2^h:=by rw[Nat.pow_succ,Nat.pow_succ];omega
  have e2:2^(h+1)=2*2^h:=by rw[Nat.pow_succ];omega
  simp only[trip,nd,e1,e2]
  have e3:2*k*(2*2^h)=k*(4*2^h):=by rw[Nat.mul_comm 2 k,Nat.mul_assoc,<-Nat.mul_assoc 2 2]
  rw[Nat.add_mul (2*k),e3]
  generalize k*(4*2^h)=q
  generalize 2^h=p at*
  rw[if_neg (by omega)]
  congr 1<;>omega
end Go.Proofs.YtkegaaonpekkgaaGreat
