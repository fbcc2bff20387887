import Derived.Test.YtpcfoglfakeimaaGreatZSxU
import Derived.Test.YtpcfoglfakeimaaGreatZVa
import Derived.Lib.SliceRun
import Derived.WalkKit
import Derived.WalkSpells
import Derived.WalkLawsBesides
import Derived.Lib.Hide
import Derived.Deep.Draws
import Derived.Deep.AppendLies
import Derived.Test.YtpcfoglfakeimaaGreatZSxY
import Derived.Laws.Cover3
import Derived.Laws.BitsAllLaws
namespace Go.Proofs.YtpcfoglfakeimaaGreat.Sx
open Go.RowKit
theorem Sub.trans{S S' S'':St}(h:Sub S S')(h':Sub S' S''):Sub S S'':=λB N a w k hs=>by
 obtain⟨k',hs'⟩:=h B N a w k hs
 exact h' B N a w k' hs'
theorem zri(pub:Bool){S:St}(t:Nat)(e:TypeId)(sz:Nat)(hf:fget S.F t=some (.r (.x (.slice none 0 0)))):Sub S {F:=(t, .own S.nx)::S.F,O:=(S.nx,some (.ch e sz 0 [] pub))::S.O,nx:=S.nx+1}:=by
 rintro B N a w k ⟨g,hs⟩
 have hv:=(hs.facts t _ hf).2
 simp only[TF.at_,RV.at_]at hv
 have hlt:t<a.tmps.size:=by
  rcases Nat.lt_or_ge t a.tmps.size with h |h
  ·exact h
  ·rw[Array.getD_eq_getD_getElem?,Array.getElem?_eq_none h]at hv
   simp[undef]at hv
 have h:=hs.adopt (dst:=some t) (λd hd=>by cases hd;rw[<-hs.size];exact hlt) (o:= .ch e sz 0 [] pub) (vb:=(.slice none 0 0,none)) trivial ⟨by simp, .inl ⟨rfl, .inl ⟨rfl,none,rfl⟩⟩⟩ (λb hb=>by cases hb) (λi o' b _ hb=>by cases hb)
 have e1:a.put (some t) (.slice none 0 0)=a:=by
  simp only[Act.put]
  have:a.tmps.setIfInBounds t (.slice none 0 0)=a.tmps:=by
   apply Array.ext
   ·simp
   ·intro i h1 h2
    by_cases hi:t=i
    ·subst hi
     rw[Array.getElem_setIfInBounds_self]
     rw[Array.getD_eq_getD_getElem?,Array.getElem?_eq_getElem hlt]at hv
     exact hv.symm
    ·rw[Array.getElem_setIfInBounds_ne _ hi]
  rw[this]
 rw[e1]at h
 exact⟨k,_,h⟩
theorem zcd{S:St}(t:Nat)(e:TypeId)(sz:Nat)(hf:fget S.F t=some (.r (.x (.slice none 0 0)))):Sub S {F:=(t, .own S.nx)::S.F,O:=(S.nx,some (.ch e sz 0 [] true))::S.O,nx:=S.nx+1}:=zri true t e sz hf
theorem zgg{S:St}(t:Nat)(e:TypeId)(sz:Nat)(hf:fget S.F t=some (.r (.x (.slice none 0 0)))):Sub S {F:=(t, .own S.nx)::S.F,O:=(S.nx,some (.ch e sz 0 [] false))::S.O,nx:=S.nx+1}:=zri false t e sz hf
theorem Cvs.of_eq{cs ds:List RV}(h:cs=ds):Cvs cs ds:=h▸zn cs
theorem cvCh{ρ:List (Nat×Nat)}{S:St}{e:TypeId}{l m:List UInt8}(h:l=m):cvOw ρ S (.ch e 1 l.length (l.map U8) true) (.ch e 1 m.length (m.map U8) true):=by
 subst h
 exact⟨rfl,rfl,rfl,rfl,zn _⟩
theorem zf2{ρ:List (Nat×Nat)}{S:St}{e:TypeId}{l m:List Int}(h:l=m):cvOw ρ S (.ch e 1 l.length (l.map I) true) (.ch e 1 m.length (m.map I) true):=by
 subst h
 exact⟨rfl,rfl,rfl,rfl,zn _⟩
def bch(l:List UInt8):Res:= .ch 5 1 l.length (l.map U8)
def ich(l:List Int):Res:= .ch 3 1 l.length (l.map I)
theorem Vcall.bool{P:Program}{f:FuncId}{vs:List RV}{K:Res->Prop}{β:Bool}(hg:zab P f vs (.r (.b β)))(ht:β=true->K (.r (.b true)))(hf:β=false->K (.r (.b false))):Vcall P f vs K:=by
 cases β
 ·exact ze hg (hf rfl)
 ·exact ze hg (ht rfl)
theorem zfo{P:Program}{f:FuncId}{fn:Func}{c:Code}(hf:P.funcs[f]?=some fn)(hb:fn.body=some c)(hn:(!(fn.name== "runtime.NumGoroutine"))=true):zkn P f:=
 ⟨fn,c,hf,hb,by simpa using hn⟩
theorem zmn{P:Program}{f:FuncId}{sz n:Nat}{cells args:List RV}{res:Res}(hk:zkn P f)(h:n<=9223372036854775807->zab P f (.sl sz n cells::args) res):zab P f (.sl sz n cells::args) res:=
 ⟨hk,λw k vs hp=>(h (by
  simp only[RV.partsAt,RV.at_]at hp
  obtain⟨_,_,rfl,⟨a,c,rfl,h1,h2,_⟩,_⟩:=hp
  simp only[maxLen]at h2
  omega)).2 w k vs hp⟩
def k_64(k:IntKind):Prop:=k= .u64\/k= .i64
theorem z1t{k:IntKind}(hk:k_64 k){m:Nat}(h:m<9223372036854775808):(m:Int)=k.wrap (m:Int):=by
 rcases hk with rfl |rfl
 ·simp only[IntKind.wrap];simp[IntKind.bits,IntKind.signed];omega
 ·rw[IntKind.wrap_i64];omega
theorem z43{a:Nat}(h:a<9223372036854775808):(BitVec.ofInt 64 (a:Int)).toNat=a:=by rw[BitVec.toNat_ofInt];omega
theorem Vint.nat{k:IntKind}(hk:k_64 k){e:Int}{K:Int->Prop}(n:Nat)(he:e=(n:Int))(h:n<9223372036854775808)(hK:K (n:Int)):Vint k e K:=⟨n,by rw[he];exact z1t hk h,hK⟩
def bitN(op:BinOp)(x y:Nat):Nat:=match op with
 | .and=>x&&&y
 | .or=>x|||y
 | .xor=>x^^^y
 |_=>x&&&(18446744073709551615-y)
theorem z93{op:BinOp}{x y:Nat}{u v:BitVec 64}(hu:u.toNat=x)(hv:v.toNat=y):bitN op x y=(match op with
  | .and=>(u&&&v).toNat
  | .or=>(u|||v).toNat
  | .xor=>(u^^^v).toNat
  |_=>(u&&& ~~~v).toNat):=by
 subst hu;subst hv
 unfold bitN
 cases op<;>simp[BitVec.toNat_and,BitVec.toNat_or,BitVec.toNat_xor,BitVec.toNat_not]
theorem Vbits.nat{k:IntKind}(hk:k_64 k){op:BinOp}{a b:Int}{K:Int->Prop}(x y m:Nat)(ha:a=(x:Int))(hb:b=(y:Int))(hx:x<9223372036854775808)(hy:y<9223372036854775808)(hm:m<9223372036854775808)
  (he:bitN op x y=m) (hK:K (m:Int)):Vbits k op a b K:=by
 subst ha;subst hb;subst he
 refine⟨_,(z1t hk hm).trans (congrArg (λz:Nat=>k.wrap (z:Int)) ?_),hK⟩
 have h1:=z43 hx
 have h2:=z43 hy
 rcases hk with rfl |rfl<;>exact z93 h1 h2
theorem Vshr.nat{k:IntKind}(hk:k_64 k){a b:Int}{K:Int->Prop}(x n m:Nat)(ha:a=(x:Int))(hb:b=(n:Int))(hn:n<=64)(hm:x/2^n=m)(hK:K (m:Int)):Vshr k a b K:=by
 subst ha;subst hb;subst hm
 have e:k.bits=64:=by rcases hk with rfl |rfl<;>rfl
 refine⟨by omega,_,?_,hK⟩
 rw[Int.toNat_natCast,e,Nat.min_eq_left hn,Int.fdiv_eq_ediv_of_nonneg _ (Int.pow_nonneg (by omega))]
 norm_cast
theorem Vshl.nat{k:IntKind}(hk:k_64 k){a b:Int}{K:Int->Prop}(x n m:Nat)(ha:a=(x:Int))(hb:b=(n:Int))(hn:n<=64)(hm:x*2^n=m)(hl:m<9223372036854775808)(hK:K (m:Int)):Vshl k a b K:=by
 subst ha;subst hb
 have e:k.bits=64:=by rcases hk with rfl |rfl<;>rfl
 refine⟨by omega,_,?_,hK⟩
 rw[Int.toNat_natCast,e,Nat.min_eq_left hn,show(x:Int)*2^n=((x*2^n:Nat):Int)by simp,hm]
 exact z1t hk hl
theorem Vstep.nilSl{P:Program}{S:St}{o:Oper}{t t2 e:TypeId}{x y:Operand}{sz n:Nat}{cells:List RV}{K:St->Prop}(hop:o.op= .binOp .eql t x y t2)(hx:opr S x=some (.r (.sl sz n cells)))(hy:opr S y=some (.r (.x (.slice none 0 0))))(hu:P.underlying t=some (.slice e))
  (h1:n=0->newK S o.dst (.r (.b true)) none K) (h0:newK S o.dst (.r (.b false)) none K):Vstep P S o K:=by
 simp only[zat]at h1 h0
 have key: ∀B N a w k (Q:Exit->Act->World->Prop),Sat B N S a w k->(∀d,o.dst=some d->d<N)->o.wp P a w (λa' w'=>∃b k',(b=true->n=0)/\Sat B N (S.new o.dst (.r (.b b)) none) a' w' k') Q:=λB N a w k Q ⟨g,hs⟩ hd=>by
  have hv:=(zag hs hx).2
  have hn:=(zag hs hy).2
  simp only[TF.at_,RV.at_]at hv hn
  obtain⟨p,c,e1,_,_,_,h4⟩:=hv
  refine za0 (v:= .bool p.isNone) (w':=w) ?_ ⟨p.isNone,k,λhb=>?_,g,hs.put hd trivial (by simp only[TF.at_,RV.at_])⟩
  ·have hq:=Go.Lib.run_eql_slice_nil (P:=P) w _ _ p n c 0 0 hu
   simp[execOp,hop,e1,hn,eqGuard,hq]
  ·rcases Nat.eq_zero_or_pos n with h |h
   ·exact h
   ·obtain⟨b,o',rfl,_⟩:=h4 h
    cases hb
 by_cases hn:n=0
 ·exact⟨Bool,λb=>S.new o.dst (.r (.b b)) none,λB N a w k Q hs hd=>Oper.wp_mono (λa' w' ⟨b,k',_,h⟩=>⟨b,k',h⟩) (key B N a w k Q hs hd),λb=>match b with |false=>h0 |true=>h1 hn⟩
 ·refine Vstep.one (λB N a w k Q hs hd=>Oper.wp_mono (λa' w' ⟨b,k',hb,h⟩=>?_) (key B N a w k Q hs hd)) h0
  cases b with
  |false=>exact⟨k',h⟩
  |true=>exact absurd (hb rfl) hn
abbrev U64(n:Nat):RV:= .i .u64 (n:Int)
theorem zye{x:Nat}(h:x<18446744073709551616):IntKind.u64.wrap (x:Int)=(x:Int):=by
 have:((x:Int)%18446744073709551616)=x:=by omega
 simp only[IntKind.wrap]
 simp[IntKind.bits,IntKind.signed]
 omega
theorem Vint.u64{e:Int}{K:Int->Prop}(n:Nat)(he:e=(n:Int))(h:n<18446744073709551616)(hK:K (n:Int)):Vint .u64 e K:=⟨n,by rw[he,zye h],hK⟩
theorem Vquo.nat{a b:Int}{K:Int->Prop}(x y:Nat)(ha:a=(x:Int))(hb:b=(y:Int))(hy:0<y)(hx:x<18446744073709551616)(hK:K ((x/y:Nat):Int)):Vquo .u64 a b K:=by
 subst ha;subst hb
 refine⟨by omega,_,?_,hK⟩
 rw[Int.tdiv_eq_ediv_of_nonneg (by omega),<-Int.natCast_ediv,zye (Nat.lt_of_le_of_lt (Nat.div_le_self _ _) hx)]
theorem Vrem.nat{a b:Int}{K:Int->Prop}(x y:Nat)(ha:a=(x:Int))(hb:b=(y:Int))(hy:0<y)(hK:K ((x%y:Nat):Int)):Vrem a b K:=by
 subst ha;subst hb
 refine⟨by omega,_,?_,hK⟩
 rw[Int.tmod_eq_emod_of_nonneg (by omega),<-Int.natCast_emod]
theorem Vint.u8{e:Int}{K:Int->Prop}(n:Nat)(he:e=(n:Int))(hK:K (((UInt8.ofNat n).toNat:Nat):Int)):Vint .u8 e K:=by
 refine⟨_,?_,hK⟩
 subst he
 simp only[IntKind.wrap]
 simp[IntKind.bits,IntKind.signed]
theorem Vadr.mk'{i:Int}{n:Nat}{K:Nat->Prop}(j:Nat)(h:i=(j:Int))(hj:j<n)(hK:K j):Vadr i n K:=by
 subst h
 exact⟨by omega,by omega,by rw[Int.toNat_natCast];exact hK⟩
theorem zezb(q:Nat):UInt8.ofNat (q%256)=UInt8.ofNat q:=by
 apply UInt8.toNat_inj.1
 simp
theorem zhl{P:Program}{f:FuncId}{args:List RV}{e:TypeId}{sz n:Nat}{cells:List RV}(h:zab P f args (.own e sz n cells)):zab P f args (.ch e sz n cells):=
 ⟨h.1,λw k vs hp=>(h.2 w k vs hp).mono λe' w' ⟨v,he,hx,k',hk,ob,⟨hl,hc⟩,hb⟩=>by
  rcases hc with⟨rfl,h⟩ |⟨b,cap,cur,rfl,rfl,hh,h1,h2,h3,h4,h5⟩
  ·refine⟨v,he,hx,k',hk,none,⟨hl, .inl ⟨rfl,?_⟩⟩,λb h=>by cases h⟩
   rcases h with h |⟨_,h,_⟩
   ·exact .inl h
   ·cases h
  ·have hle:Le w' k' w' (kset k' b (n*sz)):=⟨Nat.le_refl _,λx _=>by
    unfold kset
    split
    ·rename_i hx;subst hx;rw[h4];simp
    ·exact Nat.le_refl _,λ_ _ _ _=>rfl,λ_ _ _ _ _ h=>h⟩
   have hb':=hb b rfl
   exact⟨_,he,hx,kset k' b (n*sz),λx hx'=>by rw[kset,if_neg (by omega)];exact hk x hx',some b,⟨hl, .inr ⟨b,cap,cur,rfl,rfl,hh,h1,h2,h3,zbu,RV.list_mono hle _ _ h5⟩⟩,hb⟩⟩
end Go.Proofs.YtpcfoglfakeimaaGreat.Sx

namespace Go.Proofs.YtpcfoglfakeimaaGreat
open Go.RowKit
def Ext(w w':World):Prop:=Below w.heap.size w w'
theorem Ext.refl(w:World):Ext w w:=Below.refl _ _
theorem Ext.alloc{a w:World}(h:Ext a w)(o:Obj):Ext a (w.alloc o):=Below.alloc h h.size o
theorem Ext.drew{a w:World}(h:Ext a w):Ext a w.drew:=Below.drew h
theorem Ext.le{a w:World}(h:Ext a w):a.heap.size<=w.heap.size:=h.size
theorem zen(w:World)(o:Obj):Ext w (w.alloc o):=(Ext.refl w).alloc o
structure AC where
 a:Option Addr
 c:Nat
def Sl(w:World)(S:Nat->Prop)(sz:Nat)(p:AC)(n:Nat)(xs:List Value):Prop:=
 xs.length=n*sz/\n<=p.c/\p.c<=maxLen/\
  (0<n->∃b o,p.a=some ⟨b,o,none⟩/\S b/\b<w.heap.size/\∀j u,xs[j]?=some u->w.cell? ⟨b,o+j,none⟩=some u)
section
variable {w w':World} {S S':Nat->Prop} {sz n:Nat} {p:AC} {xs:List Value}
theorem Sl.at_(h:Sl w S sz p n xs)(hn:0<n): ∃b o,p.a=some ⟨b,o,none⟩/\S b/\b<w.heap.size/\∀j u,xs[j]?=some u->w.cell? ⟨b,o+j,none⟩=some u:=h.2.2.2 hn
end
abbrev bv(b:UInt8):Value:= .int .u8 (b.toNat:Int)
abbrev iv(n:Int):Value:= .int .i64 n
def I64(n:Int):Prop:= -9223372036854775808<=n/\n<=9223372036854775807
def By(w:World)(S:Nat->Prop)(p:AC)(l:List UInt8):Prop:=Sl w S 1 p l.length (l.map bv)
def Is(w:World)(S:Nat->Prop)(p:AC)(l:List Int):Prop:=Sl w S 1 p l.length (l.map iv)/\∀x∈l,I64 x
section
variable {w w':World} {S S':Nat->Prop} {p:AC} {l:List UInt8} {m:List Int}
theorem By.form(h:By w S p l)(hk:0<l.length): ∃b o,p.a=some ⟨b,o,none⟩/\∀(k:Nat) (h:k<l.length),w.cell? ⟨b,o+k,none⟩=some (.int .u8 (l[k].toNat:Int)):=by
 obtain⟨b,o,e,_,_,hc⟩:=Sl.at_ h hk
 exact⟨b,o,e,λk hk=>hc k _ (by simp[hk])⟩
end
def Ow(w:World)(base:Nat)(e:TypeId)(sz:Nat)(v:Value)(n:Nat)(xs:List Value)(g:Option Nat):Prop:=
 xs.length=n*sz/\
 ((g=none/\∃a,v= .slice a n n/\Sl w (base<= ·) sz ⟨a,n⟩ n xs)\/
 (∃b cap cur,g=some b/\v= .slice (some ⟨b,0,none⟩) n cap/\base<=b/\w.heap[b]?=some (.cells cur e (0,0))/\n<=cap/\cap<=maxLen/\cur.size=cap*sz/\cur.toList.take (n*sz)=xs))
section
variable {w w':World} {base:Nat} {e:TypeId} {sz n:Nat} {v:Value} {xs:List Value} {g:Option Nat}
theorem Ow.lt(h:Ow w base e sz v n xs g): ∀k,g=some k->base<=k/\k<w.heap.size:=by
 intro k hk
 rcases h.2 with⟨rfl,_⟩ |⟨b,cap,cur,rfl,_,hb,hh,_⟩
 ·cases hk
 ·cases hk
  exact⟨hb,(Array.getElem?_eq_some_iff.1 hh).1⟩
end
def Ret(w:World)(Post:World->Value->Prop)(e:Ending)(w':World):Prop:=∃v,e= .returned v/\Ext w w'/\Post w' v
end Go.Proofs.YtpcfoglfakeimaaGreat

namespace Go.Proofs.YtpcfoglfakeimaaGreat.Sx
open Go.RowKit
section
variable {P:Program} {w w':World} {k:Kp} {v:Value}
theorem z3k{f:FuncId}{args:List RV}{res:Res}(hk:zkn P f)(h: ∀w k vs,RV.partsAt w k args vs->Calls P f vs.toArray w (Ret w λw' v=>∃k':Kp,(∀b,b<w.heap.size->k' b=k b)/\res.at_ w.heap.size w' k' v)):zab P f args res:=
 ⟨hk,λw k vs hp=>(h w k vs hp).mono λ_ _ ⟨v,he,hx,hr⟩=>⟨v,he,hx,hr⟩⟩
section
variable {α:Type} {f:α->RV} {g:α->Value}
theorem zfqb(hfg: ∀x w k v,(f x).at_ w k v↔v=g x){l:List α}(h:(RV.sl 1 l.length (l.map f)).at_ w k v): ∃p:AC,v= .slice p.a l.length p.c/\Sl w (λ_=>True) 1 p l.length (l.map g):=by
 simp only[RV.at_]at h
 obtain⟨a,c,rfl,h1,h2,h3,h4⟩:=h
 refine⟨⟨a,c⟩,rfl,by simp,h1,h2,λhn=>?_⟩
 obtain⟨b,o,e,hb,hc⟩:=h4 hn
 refine⟨b,o,e,trivial,hb,λj u hu=>?_⟩
 rw[RV.cellsAt_iff]at hc
 simp only[List.getElem?_map,Option.map_eq_some_iff]at hu
 obtain⟨x,hx,rfl⟩:=hu
 obtain⟨_,u,hu,_,hf⟩:=hc j (f x) (by simp[hx])
 rw[hu,(hfg x w k u).1 hf]
end
theorem z0o{l:List UInt8}(h:(bs l).at_ w k v): ∃p:AC,v= .slice p.a l.length p.c/\By w (λ_=>True) p l:=zfqb (f:=U8) (g:=bv) (λx w k v=>by simp[RV.at_]) h
theorem zw0{x y:RV}{vs:List Value}(h:RV.partsAt w k [x,y] vs): ∃a b,vs=[a,b]/\x.at_ w k a/\y.at_ w k b:=by
 simp only[RV.partsAt]at h
 obtain⟨u,r,rfl,h1,u',r',rfl,h2,rfl⟩:=h
 exact⟨u,u',rfl,h1,h2⟩
end
abbrev F1(a:Int):RV:= .x (.float .f64 (fl a))
end Go.Proofs.YtpcfoglfakeimaaGreat.Sx

namespace Go.Proofs.YtpcfoglfakeimaaGreat
def lvF:Nat->Nat->Nat
 |0,_=>0
 |f+1,x=>if x%2=1 then lvF f (x/2)+1 else 0
def lv(x:Nat):Nat:=lvF 17 x
def nd(h k:Nat):Nat:=k*2^(h+1)+2^h-1
theorem zai(n:Nat):0<2^n:=Nat.pow_pos (by omega)
theorem z4w: ∀(f x:Nat),x<2^f-1->lvF f x<f/\x%2^(lvF f x)=2^(lvF f x)-1/\x/2^(lvF f x)%2=0
 |0,x,h=>by simp at h
 |f+1,x,h=>by
  have hp:=zai f
  have e:2^(f+1)=2*2^f:=by rw[Nat.pow_succ];omega
  unfold lvF
  by_cases hx:x%2=1
  ·rw[if_pos hx]
   have ih:=z4w f (x/2) (by omega)
   generalize lvF f (x/2)=l at ih
   have hl:=zai l
   refine⟨by omega,?_,?_⟩
   ·rw[Nat.pow_succ,Nat.mul_comm,Nat.mod_mul,ih.2.1];omega
   ·rw[Nat.pow_succ,Nat.mul_comm,<-Nat.div_div_eq_div_mul];exact ih.2.2
  ·rw[if_neg hx]
   refine⟨by omega,by simp;omega,by simp;omega⟩
theorem zfr{x:Nat}(h:x<=131070):lv x<=16/\x%2^(lv x)=2^(lv x)-1/\x/2^(lv x)%2=0:=by
 have:=z4w 17 x (by omega)
 exact⟨by unfold lv;omega,this.2⟩
theorem z12{x:Nat}(h:x<=131070):x=nd (lv x) (x/2^(lv x+1)):=by
 obtain⟨_,h1,h2⟩:=zfr h
 generalize lv x=l at*
 have hp:=zai l
 unfold nd
 have e1:x/2^(l+1)=x/2^l/2:=by rw[Nat.pow_succ,Nat.div_div_eq_div_mul]
 have e2:=Nat.div_add_mod x (2^l)
 have e3:=Nat.div_add_mod (x/2^l) 2
 rw[e1]
 rw[h1]at e2
 rw[h2]at e3
 generalize x/2^l/2=k at*
 have e4:k*2^(l+1)=2^l*(2*k):=by rw[Nat.pow_succ,Nat.mul_comm (2^l) 2,<-Nat.mul_assoc,Nat.mul_comm,Nat.mul_comm k 2]
 rw[e4]
 have e5:2*k=x/2^l:=by omega
 rw[e5]
 omega
theorem z4x: ∀(f h k:Nat),h<f->lvF f (nd h k)=h
 |0,h,k,hh=>by omega
 |f+1,0,k,_=>by unfold lvF nd;simp
 |f+1,h+1,k,hh=>by
  have hp:=zai h
  have e:nd (h+1) k=2*nd h k+1:=by
   unfold nd
   rw[Nat.pow_succ 2 (h+1),Nat.pow_succ 2 h,<-Nat.mul_assoc]
   omega
  unfold lvF
  rw[e,if_pos (by omega),show(2*nd h k+1)/2=nd h k by omega,z4x f h k (by omega)]
theorem zus{h k:Nat}(hh:h<=16):lv (nd h k)=h:=z4x 17 h k (by omega)
theorem zsf(h k:Nat):nd (h+1) k=2*nd h k+1:=by
 have hp:=zai h
 unfold nd
 rw[Nat.pow_succ 2 (h+1),Nat.pow_succ 2 h,<-Nat.mul_assoc]
 omega
theorem ze6(k:Nat):nd 0 k=2*k:=by unfold nd;simp;omega
def fitsL:List Int:=[1,2,4,8,16,32,64,128,256,512,1024,2048,4096,8192,16384,32768,65536]
def zei(n:Int):Bool:=fitsL.contains n
theorem zdn{n:Int}(h:zei n=true): ∃d,d<=16/\n=((2^d:Nat):Int):=by
 unfold zei fitsL at h
 simp at h
 rcases h with h |h |h |h |h |h |h |h |h |h |h |h |h |h |h |h |h
 ·exact⟨0,by omega,by simpa using h⟩
 ·exact⟨1,by omega,by simpa using h⟩
 ·exact⟨2,by omega,by simpa using h⟩
 ·exact⟨3,by omega,by simpa using h⟩
 ·exact⟨4,by omega,by simpa using h⟩
 ·exact⟨5,by omega,by simpa using h⟩
 ·exact⟨6,by omega,by simpa using h⟩
 ·exact⟨7,by omega,by simpa using h⟩
 ·exact⟨8,by omega,by simpa using h⟩
 ·exact⟨9,by omega,by simpa using h⟩
 ·exact⟨10,by omega,by simpa using h⟩
 ·exact⟨11,by omega,by simpa using h⟩
 ·exact⟨12,by omega,by simpa using h⟩
 ·exact⟨13,by omega,by simpa using h⟩
 ·exact⟨14,by omega,by simpa using h⟩
 ·exact⟨15,by omega,by simpa using h⟩
 ·exact⟨16,by omega,by simpa using h⟩
theorem zev: ∀d,d<=16->zei ((2^d:Nat):Int)=true:=by decide+kernel
theorem zcc{n:Int}(h:zei n=true):1<=n/\n<=65536:=by
 obtain⟨d,hd,rfl⟩:=zdn h
 have h1:=zai d
 have h2:2^d<=2^16:=Nat.pow_le_pow_right (by omega) hd
 omega
def zdj(x:Int):Bool:=decide (0<=x)&&decide (x<=131070)
def ofI(x n:Int):Bool:=zei n&&(decide (0<=x)&&decide (x<=2*n-2))
theorem zcl{x:Int}:zdj x=true↔0<=x/\x<=131070:=by simp[zdj]
theorem zft{x n:Int}:ofI x n=true↔zei n=true/\0<=x/\x<=2*n-2:=by simp[ofI]
def lvI(x:Int):Int:=if zdj x then(lv x.toNat:Int)else-1
def upN(x:Nat):Nat:=if x/2^(lv x+1)%2=0 then x+2^lv x else x-2^lv x
def parI(x n:Int):Int:=if ofI x n&&decide (x≠n-1)then(upN x.toNat:Int)else-1
def zdt(n:Int):Nat->Int->List Int
 |0,_=>[]
 |f+1,x=>if parI x n<0 then[]else parI x n::zdt n f (parI x n)
def zb4(x n:Int):List Int:=zdt n 17 x
def zh2(y:Int):Int:=2^(lvI y).toNat-1
def zb3(x y:Int):Bool:=(zdj x&&zdj y)&&(decide (y-zh2 y<=x)&&decide (x<=y+zh2 y))
theorem zgi{x y:Int}:zb3 x y=true↔(zdj x=true/\zdj y=true)/\y-zh2 y<=x/\x<=y+zh2 y:=by
 simp only[zb3,Bool.and_eq_true,decide_eq_true_eq]
theorem zya(y:Int):zh2 y=2^(lvI y).toNat-1:=rfl
theorem zwm(x:Int): -1<=lvI x/\lvI x<=16:=by
 unfold lvI
 split
 ·rename_i h
  rw[zcl]at h
  have:=(zfr (x:=x.toNat) (by omega)).1
  omega
 ·omega
theorem zld{x:Int}(h:zdj x=true):lvI x=lv x.toNat:=by simp[lvI,h]
theorem z75{x:Int}(h:zdj x=false):lvI x= -1:=by simp[lvI,h]
theorem ze4b{h k:Nat}(hh:h+1<=16):upN (nd h k)=nd (h+1) (k/2):=by
 have hp:=zai h
 unfold upN
 rw[zus (by omega)]
 have e1:nd h k/2^(h+1)=k:=by
  unfold nd
  have:2^h<2^(h+1):=by rw[Nat.pow_succ];omega
  rw[Nat.add_sub_assoc (by omega),Nat.add_comm,Nat.add_mul_div_right _ _ (zai _),Nat.div_eq_of_lt (by omega)]
  omega
 rw[e1]
 unfold nd
 rw[Nat.pow_succ 2 (h+1),Nat.pow_succ 2 h]
 generalize 2^h=q at*
 split
 ·rename_i hk
  have:k=2*(k/2):=by omega
  generalize k/2=j at*
  subst this
  rw[show 2*j*(q*2)=j*(q*2*2)by rw[Nat.mul_comm 2 j,Nat.mul_assoc,Nat.mul_comm 2]]
  omega
 ·rename_i hk
  have:k=2*(k/2)+1:=by omega
  generalize k/2=j at*
  subst this
  rw[Nat.add_mul,show 2*j*(q*2)=j*(q*2*2)by rw[Nat.mul_comm 2 j,Nat.mul_assoc,Nat.mul_comm 2]]
  omega
theorem z47{a j:Nat}(h:a/2^j%2=0):a|||2^j=a+2^j:=by
 have hp:=zai j
 have e3:a=a/2^(j+1)*2^(j+1)+a%2^j:=by
  have e4:=Nat.div_add_mod a (2^j)
  have e5:a/2^(j+1)=a/2^j/2:=by rw[Nat.pow_succ,Nat.div_div_eq_div_mul]
  have e6:a/2^(j+1)*2^(j+1)=2^j*(2*(a/2^j/2)):=by rw[e5,Nat.pow_succ,Nat.mul_comm,Nat.mul_assoc]
  rw[e6,show 2*(a/2^j/2)=a/2^j by omega]
  omega
 have hlt:a%2^j<2^j:=Nat.mod_lt _ hp
 have hs:2^(j+1)=2*2^j:=by rw[Nat.pow_succ];omega
 have hq:(a/2^(j+1)*2^(j+1))%2^(j+1)=0:=by simp
 generalize a/2^(j+1)*2^(j+1)=q at*
 generalize a%2^j=r at*
 have e7:q|||r=q+r:=nat_join (j+1) q r hq (by omega)
 have e8:r|||2^j=2^j+r:=by rw[Nat.or_comm];exact nat_join j _ _ (by simp) hlt
 have e9:q|||(2^j+r)=q+(2^j+r):=nat_join (j+1) q _ hq (by omega)
 rw[e3,<-e7,Nat.or_assoc,e8,e9,e7]
 omega
theorem z2s{a j:Nat}(ha:a<2^64)(hj:j<64):a&&&(2^64-(2^j+1))=a-a/2^j%2*2^j:=by
 have hjj:2^j<2^64:=Nat.pow_lt_pow_right (by omega) hj
 have key: ∀b:Nat,b<2^64->b/2^j%2=0->b&&&(2^64-(2^j+1))=b:=by
  intro b hb h0
  apply Nat.eq_of_testBit_eq
  intro i
  rw[Nat.testBit_and,Nat.testBit_two_pow_sub_succ hjj,Nat.testBit_two_pow]
  by_cases hi:i<64
  ·by_cases hij:j=i
   ·subst hij
    simp[Nat.testBit_eq_decide_div_mod_eq,h0]
   ·simp[hij,hi]
  ·have:b.testBit i=false:=Nat.testBit_lt_two_pow (Nat.lt_of_lt_of_le hb (Nat.pow_le_pow_right (by omega) (by omega)))
   simp[this]
 have hp:=zai j
 rcases Nat.mod_two_eq_zero_or_one (a/2^j)with h |h
 ·rw[h,key a ha h];omega
 ·have hge:2^j<=a:=by
   rcases Nat.lt_or_ge a (2^j)with hl |hl
   ·rw[Nat.div_eq_of_lt hl]at h;omega
   ·exact hl
  have h0:(a-2^j)/2^j%2=0:=by
   have:(a-2^j)/2^j=a/2^j-1:=by have:=Nat.sub_mul_div a (2^j) 1;rwa[Nat.mul_one]at this
   omega
  have e:a=(a-2^j)|||2^j:=by rw[z47 h0];omega
  have:=key (a-2^j) (by omega) h0
  rw[h,Nat.one_mul]
  conv=>lhs;rw[e]
  rw[Nat.and_or_distrib_right,this]
  have h2:2^j&&&(2^64-(2^j+1))=0:=by
   apply Nat.eq_of_testBit_eq
   intro i
   rw[Nat.testBit_and,Nat.testBit_two_pow_sub_succ hjj,Nat.testBit_two_pow]
   by_cases hij:j=i<;>simp[hij]
  rw[h2,Nat.or_zero]
theorem zlg{h k d:Nat}(hd:h<=d):nd h k<=2*2^d-2↔k<2^(d-h):=by
 have hp:=zai h
 have hq:=zai (d-h)
 have e:2^d=2^h*2^(d-h):=by rw[<-Nat.pow_add];congr 1;omega
 unfold nd
 rw[e,Nat.pow_succ]
 generalize 2^h=q at*
 generalize 2^(d-h)=Q at*
 have e1:k*(q*2)=2*(q*k):=by rw[<-Nat.mul_assoc,Nat.mul_comm k q,Nat.mul_comm]
 rw[e1]
 constructor
 ·intro h1
  rcases Nat.lt_or_ge k Q with h2 |h2
  ·exact h2
  ·have:=Nat.mul_le_mul_left q h2
   have:q*1<=q*Q:=Nat.mul_le_mul_left q hq
   omega
 ·intro h1
  have:=Nat.mul_le_mul_left q (show k+1<=Q from h1)
  rw[Nat.mul_add]at this
  omega
theorem zia{x n:Int}(h:ofI x n=true): ∃d h k,d<=16/\n=((2^d:Nat):Int)/\h<=d/\k<2^(d-h)/\x=(nd h k:Int):=by
 rw[zft]at h
 obtain⟨d,hd,hn⟩:=zdn h.1
 obtain⟨m,rfl⟩:=Int.eq_ofNat_of_zero_le h.2.1
 have h16:2^d<=2^16:=Nat.pow_le_pow_right (by omega) hd
 have hm:m<=2*2^d-2:=by omega
 have hf:=z12 (x:=m) (by omega)
 have hl:lv m<=d:=by
  rcases Nat.lt_or_ge d (lv m)with h1 |h1
  ·exfalso
   have h2:2^(d+1)<=2^lv m:=Nat.pow_le_pow_right (by omega) h1
   rw[Nat.pow_succ]at h2
   have hp:=zai d
   have:2^lv m-1<=m:=by
    conv=>rhs;rw[hf]
    unfold nd
    omega
   omega
  ·exact h1
 refine⟨d,lv m,m/2^(lv m+1),hd,hn,hl,?_,by rw[<-hf]⟩
 rw[<-zlg hl,<-hf];exact hm
theorem z14{d h k:Nat}(hd:d<=16)(hh:h<=d)(hk:k<2^(d-h)):ofI (nd h k:Int) ((2^d:Nat):Int)=true:=by
 rw[zft]
 have:=(zlg hh).2 hk
 exact⟨zev d hd,by omega,by have:=zai d;omega⟩
theorem zzx{d h k:Nat}(hd:d<=16)(hh:h<=d)(hk:k<2^(d-h)):nd h k<=131070:=by
 have:=(zlg hh).2 hk
 have h16:2^d<=2^16:=Nat.pow_le_pow_right (by omega) hd
 omega
theorem ziu{d h k:Nat}(hd:d<=16)(hh:h<=d)(hk:k<2^(d-h)):zdj (nd h k:Int)=true:=by
 have:=zzx hd hh hk
 rw[zcl];omega
theorem zq0{d h k:Nat}(hd:d<=16)(hh:h<=d)(hk:k<2^(d-h)):lvI (nd h k:Int)=h:=by
 rw[zld (ziu hd hh hk),Int.toNat_natCast,zus (by omega)]
theorem zzy(d:Nat):(nd d 0:Int)=((2^d:Nat):Int)-1:=by
 have:=zai d
 unfold nd;omega
theorem zka{h k h' k':Nat}(hh:h<=16)(hh':h'<=16)(e:nd h k=nd h' k'):h=h'/\k=k':=by
 have h1:h=h':=by rw[<-zus (h:=h) (k:=k) hh,<-zus (h:=h') (k:=k') hh',e]
 subst h1
 refine⟨rfl,?_⟩
 unfold nd at e
 have hp:=zai h
 have:k*2^(h+1)=k'*2^(h+1):=by omega
 exact Nat.eq_of_mul_eq_mul_right (zai _) this
theorem zz2{d h k:Nat}(hd:d<=16)(hh:h<d)(hk:k<2^(d-h)):parI (nd h k:Int) ((2^d:Nat):Int)=(nd (h+1) (k/2):Int):=by
 have hne:(nd h k:Int)≠((2^d:Nat):Int)-1:=by
  rw[<-zzy]
  intro e
  have:=(zka (by omega) hd (Int.ofNat.inj e)).1
  omega
 unfold parI
 rw[z14 hd (by omega) hk,Int.toNat_natCast,ze4b (by omega),Bool.true_and,if_pos (by rw[decide_eq_true_eq];exact hne)]
theorem zts{d:Nat}:parI (nd d 0:Int) ((2^d:Nat):Int)= -1:=by
 unfold parI
 rw[zzy];simp
theorem zzr{d h k:Nat}(hh:h<d)(hk:k<2^(d-h)):k/2<2^(d-(h+1)):=by
 have e:2^(d-h)=2*2^(d-(h+1)):=by
  rw[show d-h=d-(h+1)+1 by omega,Nat.pow_succ];omega
 omega
theorem ztt{x n:Int}(h:0<=parI x n):ofI x n=true/\ofI (parI x n) n=true/\lvI (parI x n)=lvI x+1/\0<=lvI x:=by
 have ho:ofI x n=true:=by
  unfold parI at h
  split at h
  ·rename_i h1;simp at h1;exact h1.1
  ·omega
 obtain⟨d,l,k,hd,rfl,hh,hk,rfl⟩:=zia ho
 rcases Nat.lt_or_ge l d with hlt |hge
 ·rw[zz2 hd hlt hk]at*
  exact⟨ho,z14 hd (by omega) (zzr hlt hk),by rw[zq0 hd (by omega) (zzr hlt hk),zq0 hd hh hk];rfl,by rw[zq0 hd hh hk];omega⟩
 ·obtain rfl:l=d:=by omega
  have:k=0:=by simpa using hk
  subst this
  rw[zts]at h
  omega
def on6(f:Nat):Nat:=Nat.land (Nat.add f (Nat.div f 4294967296)) 127
def on5(e:Nat):Nat:=on6 (Nat.add e (Nat.div e 65536))
def on4(d:Nat):Nat:=on5 (Nat.add d (Nat.div d 256))
def on3(b:Nat):Nat:=on4 (Nat.land (Nat.add (Nat.div b 16) b) 1085102592571150095)
def on2(a:Nat):Nat:=on3 (Nat.add (Nat.land (Nat.div a 4) 3689348814741910323) (Nat.land a 3689348814741910323))
def zuv(n:Nat):Nat:=on2 (Nat.add (Nat.land (Nat.div n 2) 6148914691236517205) (Nat.land n 6148914691236517205))
def pwN(n:Nat):Bool:=Nat.beq (Nat.land n (Nat.sub n 1)) 0
def beqB:Bool->Bool->Bool
 |true,b=>b
 |false,true=>false
 |false,false=>true
def z46(n:Nat):Bool:=beqB (Nat.beq (zuv n) 1) (pwN n)
def upTo(p:Nat->Bool):Nat->Bool
 |0=>true
 |n+1=>match p (n+1)with |true=>upTo p n |false=>false
theorem zsj{p:Nat->Bool}: ∀{n:Nat},upTo p n=true->∀i,i<n->p (i+1)=true
 |0,_,i,h=>by omega
 |n+1,h,i,hi=>by
  unfold upTo at h
  split at h
  ·by_cases e:i=n
   ·subst e;assumption
   ·exact zsj h i (by omega)
  ·cases h
theorem zyu:upTo (λk=>upTo (λi=>z46 (Nat.add (Nat.mul 2048 (Nat.sub k 1)) i)) 2048) 32=true:=by decide+kernel
theorem zbvb{n:Nat}(h1:1<=n)(h2:n<=65536):z46 n=true:=by
 have h:=zsj zyu ((n-1)/2048) (by omega)
 have h':=zsj h ((n-1)%2048) (by omega)
 have e:Nat.add (Nat.mul 2048 (Nat.sub ((n-1)/2048+1) 1)) ((n-1)%2048+1)=n:=by
  show 2048*((n-1)/2048+1-1)+((n-1)%2048+1)=n
  omega
 rw[e]at h'
 exact h'
theorem z92{a b:Bool}(h:beqB a b=true):a=b:=by cases a<;>cases b<;>simp[beqB]at*
theorem zesb{n:Nat}(h1:1<=n)(h2:n<=65536)(h:n&&&(n-1)=0): ∃d,d<=16/\n=2^d:=by
 obtain⟨hl,_,_⟩:=zfr (x:=n-1) (by omega)
 have hn:=z12 (x:=n-1) (by omega)
 generalize lv (n-1)=l at*
 generalize (n-1)/2^(l+1)=k at hn
 have hp:=zai l
 have hp1:=zai (l+1)
 have hlt:2^l<2^(l+1):=by rw[Nat.pow_succ];omega
 unfold nd at hn
 have e1:n=k*2^(l+1)+2^l:=by omega
 have d1:n/2^(l+1)=k:=by
  rw[e1,Nat.add_comm,Nat.add_mul_div_right _ _ hp1,Nat.div_eq_of_lt (by omega)];omega
 have d2:(n-1)/2^(l+1)=k:=by
  rw[hn,Nat.add_sub_assoc (by omega),Nat.add_comm,Nat.add_mul_div_right _ _ hp1,Nat.div_eq_of_lt (by omega)];omega
 have:=Nat.and_div_two_pow (a:=n) (b:=n-1) (n:=l+1)
 rw[h,d1,d2,Nat.and_self,Nat.zero_div]at this
 subst this
 exact⟨l,hl,by omega⟩
theorem zerb: ∀d,d<=16->pwN (2^d)=true:=by decide+kernel
theorem z8b{n:Nat}(h1:1<=n)(h2:n<=65536):(zuv n=1)↔zei (n:Int)=true:=by
 have h:=z92 (zbvb h1 h2)
 constructor
 ·intro h3
  rw[h3]at h
  have h4:n&&&(n-1)=0:=Nat.eq_of_beq_eq_true (h.symm.trans rfl)
  obtain⟨d,hd,rfl⟩:=zesb h1 h2 h4
  exact zev d hd
 ·intro h3
  obtain⟨d,hd,e⟩:=zdn h3
  have e':n=2^d:=by omega
  rw[e',zerb d hd]at h
  rw[e']
  exact Nat.eq_of_beq_eq_true h
structure D3 where
 at_:Int
 lo:Int
 hi:Int
def zf4(x:Int):Nat->Int->Int->List D3
 |0,_,_=>[]
 |f+1,lo,hi=>⟨(lo+hi)/2,lo,hi⟩::(if(lo+hi)/2=x then[]else if x< (lo+hi)/2 then zf4 x f lo ((lo+hi)/2-1)else zf4 x f ((lo+hi)/2+1) hi)
def zbq(x n:Int):List D3:=if ofI x n then zf4 x 17 0 (2*n-2)else[]
def trip(h k:Nat):D3:=⟨(nd h k:Int),((k*2^(h+1):Nat):Int),((k*2^(h+1)+2^(h+1)-2:Nat):Int)⟩
def upT:Nat->Nat->Nat->List D3
 |0,h,k=>[trip h k]
 |m+1,h,k=>trip h k::upT m (h+1) (k/2)
theorem zpx: ∀(m h k:Nat),upT (m+1) h k=upT m h k++[trip (h+(m+1)) (k/2^(m+1))]
 |0,h,k=>by simp[upT]
 |m+1,h,k=>by
  rw[upT,zpx m (h+1) (k/2),<-List.cons_append]
  congr 2
  rw[Nat.div_div_eq_div_mul,<-Nat.pow_succ',show h+1+(m+1)=h+(m+1+1)by omega]
theorem z0e: ∀(m h k:Nat),(upT m h k).length=m+1
 |0,_,_=>rfl
 |m+1,h,k=>by rw[upT,List.length_cons,z0e]
theorem z11(h k i:Nat):(k/2^i)*2^(h+i+1)<=nd h k/\nd h k+2<=(k/2^i)*2^(h+i+1)+2^(h+i+1):=by
 have hp:=zai h
 have e1:2^(h+i+1)=2^i*2^(h+1):=by rw[<-Nat.pow_add];congr 1;omega
 have e2:2^(h+1)=2*2^h:=by rw[Nat.pow_succ];omega
 have h1:=Nat.div_mul_le_self k (2^i)
 have h2:k< (k/2^i+1)*2^i:=by
  have:=Nat.lt_div_mul_add (a:=k) (zai i)
  rw[Nat.add_mul];omega
 have h3:=Nat.mul_le_mul_right (2^(h+1)) h1
 have h4:=Nat.mul_le_mul_right (2^(h+1)) (show k+1<=(k/2^i+1)*2^i from h2)
 rw[Nat.mul_assoc]at h3 h4
 rw[Nat.add_mul,Nat.add_mul]at h4
 unfold nd
 rw[e1]
 omega
theorem z44(h k:Nat):(((k*2^(h+1):Nat):Int)+((k*2^(h+1)+2^(h+1)-2:Nat):Int))/2=(nd h k:Int):=by
 have hp:=zai h
 have e2:2^(h+1)=2*2^h:=by rw[Nat.pow_succ];omega
 unfold nd
 generalize k*2^(h+1)=q
 omega
theorem zva(h k:Nat): ∀(i f:Nat),h+i<=16->i<f->
  zf4 (nd h k:Int) f (((k/2^i)*2^(h+i+1):Nat):Int) (((k/2^i)*2^(h+i+1)+2^(h+i+1)-2:Nat):Int)=(upT i h k).reverse
 |0,f,hi,hf=>by
  obtain⟨f,rfl⟩: ∃g,f=g+1:=⟨f-1,by omega⟩
  rw[zf4]
  have:=z44 h k
  simp only[Nat.pow_zero,Nat.div_one,Nat.add_zero]at this⊢
  rw[this,if_pos rfl]
  rfl
 |i+1,f,hi,hf=>by
  obtain⟨f,rfl⟩: ∃g,f=g+1:=⟨f-1,by omega⟩
  have hne:(nd (h+(i+1)) (k/2^(i+1)):Int)≠(nd h k:Int):=by
   intro e
   have:=(zka (by omega) (by omega) (Int.ofNat.inj e)).1
   omega
  rw[zf4,z44,if_neg hne,zpx,List.reverse_append,List.reverse_singleton]
  show _::_=trip (h+(i+1)) (k/2^(i+1))::(upT i h k).reverse
  congr 1
  obtain⟨b1,b2⟩:=z11 h k i
  have e1:k/2^(i+1)=k/2^i/2:=by rw[Nat.pow_succ,Nat.div_div_eq_div_mul]
  have e2:2^(h+(i+1)+1)=2*2^(h+i+1):=by rw[show h+(i+1)+1=h+i+1+1 by omega,Nat.pow_succ];omega
  have e3:2^(h+(i+1))=2^(h+i+1):=by congr 1
  have hp:=zai (h+i+1)
  rw[e1]
  have ih:=zva h k i f (by omega) (by omega)
  generalize k/2^i=q at*
  have hnd:nd (h+(i+1)) (q/2)=q/2*(2*2^(h+i+1))+2^(h+i+1)-1:=by unfold nd;rw[e2,e3]
  rw[hnd,e2]
  generalize 2^(h+i+1)=Q at*
  rcases Nat.mod_two_eq_zero_or_one q with hq |hq
  ·have eq:q=2*(q/2):=by omega
   generalize q/2=r at*
   subst eq
   have e4:2*r*Q=r*(2*Q):=by rw[Nat.mul_comm 2 r,Nat.mul_assoc]
   rw[e4]at b1 b2 ih
   rw[if_pos (by omega),<-ih]
   congr 1
   omega
  ·have eq:q=2*(q/2)+1:=by omega
   generalize q/2=r at*
   subst eq
   have e4:(2*r+1)*Q=r*(2*Q)+Q:=by rw[Nat.add_mul,Nat.mul_comm 2 r,Nat.mul_assoc,Nat.one_mul]
   rw[e4]at b1 b2 ih
   rw[if_neg (by omega),<-ih]
   congr 1<;>omega
theorem zo5{d h k:Nat}(hd:d<=16)(hh:h<=d)(hk:k<2^(d-h)):zbq (nd h k:Int) ((2^d:Nat):Int)=(upT (d-h) h k).reverse:=by
 unfold zbq
 rw[if_pos (z14 hd hh hk)]
 have:=zva h k (d-h) 17 (by omega) (by omega)
 rw[Nat.div_eq_of_lt hk,show h+(d-h)=d by omega]at this
 rw[<-this]
 have hp:=zai d
 congr 1<;>first|omega|(rw[Nat.pow_succ];omega)
theorem zhu{x n:Int}(h:ofI x n=false):zbq x n=[]:=by simp[zbq,h]
theorem zw1{d:Nat}(hd:d<=16): ∀(m f h k:Nat),h+m=d->k<2^m->m<f->zdt ((2^d:Nat):Int) f (nd h k:Int)=(upT m h k).tail.map (·.at_)
 |0,f,h,k,hm,hk,hf=>by
  obtain⟨f,rfl⟩: ∃g,f=g+1:=⟨f-1,by omega⟩
  obtain rfl:h=d:=by omega
  have:k=0:=by simpa using hk
  subst this
  rw[zdt,zts];rfl
 |m+1,f,h,k,hm,hk,hf=>by
  obtain⟨f,rfl⟩: ∃g,f=g+1:=⟨f-1,by omega⟩
  have hk2:k/2<2^m:=by rw[Nat.pow_succ]at hk;omega
  rw[zdt,zz2 hd (by omega) (by rw[show d-h=m+1 by omega];exact hk),if_neg (by omega),zw1 hd m f (h+1) (k/2) (by omega) hk2 (by omega)]
  cases m with
  |zero=>rfl
  |succ m=>rfl
theorem zw3{d h k:Nat}(hd:d<=16)(hh:h<=d)(hk:k<2^(d-h)):zb4 (nd h k:Int) ((2^d:Nat):Int)=(upT (d-h) h k).tail.map (·.at_):=
 zw1 hd (d-h) 17 h k (by omega) hk (by omega)
theorem z17{x n:Int}(h:ofI x n=false):zb4 x n=[]:=by
 unfold zb4 zdt
 rw[if_pos (by have:parI x n= -1:=(by simp[parI,h]);omega)]
theorem zs2(x n:Int):((zbq x n).dropLast.reverse).map (·.at_)=zb4 x n:=by
 rcases ho:ofI x n with _ |_
 ·rw[zhu ho,z17 ho];rfl
 ·obtain⟨d,h,k,hd,rfl,hh,hk,rfl⟩:=zia ho
  rw[zo5 hd hh hk,zw3 hd hh hk]
  congr 1
  rw[List.dropLast_reverse,List.reverse_reverse]
theorem z20{x n:Int}(ho:ofI x n=true): ∃d h k,d<=16/\h<=d/\k<2^(d-h)/\n=((2^d:Nat):Int)/\x=(nd h k:Int)/\(zbq x n).length=d-h+1/\(zbq x n).getLast?=some (trip h k):=by
 obtain⟨d,h,k,hd,rfl,hh,hk,rfl⟩:=zia ho
 refine⟨d,h,k,hd,hh,hk,rfl,rfl,?_,?_⟩
 ·rw[zo5 hd hh hk,List.length_reverse,z0e]
 ·rw[zo5 hd hh hk,List.getLast?_reverse]
  cases d-h<;>rfl
theorem zpi{x:Int}:zdj x=ofI x 65536:=by
 rw[Bool.eq_iff_iff,zcl,zft]
 have:zei 65536=true:=by decide
 constructor
 ·intro h;exact⟨this,by omega⟩
 ·intro h;omega
theorem zcjb{d h k:Nat}(hd:d<=16)(hh:h<=d)(hk:k<2^(d-h)):zh2 (nd h k:Int)=((2^h-1:Nat):Int):=by
 have hp:=zai h
 rw[zya,zq0 hd hh hk,Int.toNat_natCast,show(2:Int)^h=((2^h:Nat):Int)by simp]
 omega
theorem zrl{x:Int}{h k d:Nat}(hd:d<=16)(hh:h<=d)(hk:k<2^(d-h))(hx:zdj x=true):zb3 x (nd h k:Int)=(decide ((trip h k).lo<=x)&&decide (x<=(trip h k).hi)):=by
 rw[Bool.eq_iff_iff,zgi,zcjb hd hh hk,Bool.and_eq_true,decide_eq_true_eq,decide_eq_true_eq,hx,ziu hd hh hk]
 have hp:=zai h
 have e2:2^(h+1)=2*2^h:=by rw[Nat.pow_succ];omega
 simp only[trip,nd,e2]
 generalize k*(2*2^h)=q
 constructor
 ·rintro⟨_,h1,h2⟩
  omega
 ·rintro⟨h1,h2⟩
  exact⟨⟨trivial,trivial⟩,by omega,by omega⟩
end Go.Proofs.YtpcfoglfakeimaaGreat
