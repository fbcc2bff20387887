import Derived.Test.YtfjkblpnbgfkeaaGreatZKe
import Derived.Test.YtfjkblpnbgfkeaaGreatZRow
namespace Go.Proofs.YtfjkblpnbgfkeaaGreat.Sx
open Go.RowKit
section
theorem zn6(n:Int): ∀(f:Nat) (x:Int),(zcz n f x).length=(zda n f x).length
 |0,x=>by simp[zcz,zda]
 |f+1,x=>by
  simp only[zcz,zda]
  split<;>simp[zn6 n f]
theorem zn7(x n:Int):(zbz x n).length=(zb2 x n).length:=zn6 n 17 x
theorem zuf{l:List Int}{x:Int}{j:Nat}(hj:j<l.length)(h:x∉l.take j)(hx:l[j]≠x):x∉l.take (j+1):=by
 rw[List.take_add_one,List.getElem?_eq_getElem hj]
 simp only[Option.toList,List.mem_append,List.mem_cons,List.not_mem_nil,or_false]
 intro hh
 rcases hh with hh |hh
 ·exact h hh
 ·exact hx hh.symm
theorem zie(l:List Int)(x:Int)(hl:l.length<=10000000000000):zab Tryz.prog 81 [is l,I x] (.r (.b (decide (x∈l)))):=by
 refine zaa (T:=Tab) mixed Tab_ok Tryz.func81 rfl (by kernel_rfl) ?_
 refine zx (λj:Nat=>{F:=[(0, .r (is l)),(1, .r (I x)),(5, .r (I j))],O:=[],nx:=0}) (λj=>j<=l.length/\x∉l.take j) (λj=>l.length-j) 0 ⟨by omega,by simp⟩ (zac [] rfl ⟨cr,cr,cr,trivial⟩ trivial) ?_
 rintro j ⟨hj,hn⟩
 refine zh (λh=>zp ?_) (λh=>zq ?_)
 ·simp only[zb]at h
  have hj':j<l.length:=by omega
  refine zm (by omega) (by omega) (zak rfl hj') (zg rfl ?_)
  refine zh (λh2=>zp ?_) (λh2=>zq ?_)
  ·simp only[zb]at h2
   exact zf (by simp[ofC,<-h2])
  ·simp only[zb]at h2
   refine zd (m:=((j+1:Nat):Int)) (by omega) (by omega) ?_
   exact⟨j+1,⟨hj',zuf hj' hn h2⟩,by omega,zac [] rfl ⟨cr,cr,cr,trivial⟩ trivial⟩
 ·simp only[zb]at h
  rw[List.take_of_length_le (by omega)]at hn
  exact zf (by simp[ofC,hn])
def Node.zero:Node:=⟨0,⟨[],[],[],0,[],[]⟩,⟨[],[],[]⟩⟩
def zc:List RV:=[.i .u8 0, .x (.slice none 0 0), .x (.slice none 0 0), .x (.slice none 0 0), .i .u8 0, .x (.slice none 0 0), .x (.slice none 0 0), .x (.slice none 0 0), .x (.slice none 0 0), .x (.slice none 0 0)]
theorem Cv.ag{l m:List RV}(h:Cvs l m):Cv (.ag l) (.ag m):=λw k v hv=>by
 simp only[RV.at_]at*
 obtain⟨us,e,hp⟩:=hv
 exact⟨us,e,h.list hp⟩
theorem zsj:Cv (.ag zc) (.ag Node.zero.c):=Cv.ag (zk (cr) (zk (Cv.nil 1) (zk (Cv.nil 1) (zk (Cv.nil 1) (zk (cr) (zk (Cv.nil 1) (zk (Cv.nil 1) (zk (Cv.nil 1) (zk (Cv.nil 1) (zk (Cv.nil 1) Cvs.nil))))))))))
def zay(l:List Spot)(x:Int):Option Node:=(l.find? λs=>decide (s.at_=x)).map (·.node)
def zfcb:Option Node->RV
 |some n=> .tu [.ag n.c, .b true]
 |none=> .tu [.ag Node.zero.c, .b false]
theorem z3d{l:List Spot}{x:Int}(h: ∀s∈l,s.at_≠x):zay l x=none:=by
 simp only[zay,Option.map_eq_none_iff,List.find?_eq_none,decide_eq_true_eq]
 exact h
theorem zamb{l:List Spot}{x:Int}{j:Nat}(hj:j<l.length)(h: ∀s∈l.take j,s.at_≠x)(hx:l[j].at_=x):zay l x=some l[j].node:=by
 obtain⟨y,hy⟩: ∃y,y=l[j]:=⟨_,rfl⟩
 rw[<-hy]at hx⊢
 have:l=l.take j++y::l.drop (j+1):=by rw[hy,<-List.drop_eq_getElem_cons hj,List.take_append_drop]
 simp only[zay]
 rw[this,List.find?_append]
 have h1:(l.take j).find? (λs=>decide (s.at_=x))=none:=by simp only[List.find?_eq_none,decide_eq_true_eq];exact h
 rw[h1]
 simp[hx]
theorem zvt{l:List Spot}{i:Int}{j:Nat}(h:i=j)(hj:j<l.length):((l.flatMap Spot.c).drop (i.toNat*11)).take 11=l[j].c:=zd4 (f:=Spot.c) (sz:=11) (λ_=>rfl) h hj
theorem zj7(l:List Spot)(x:Int)(hl:l.length<=1000000000):zab Tryz.prog 78 [zc4 l,I x] (.r (zfcb (zay l x))):=by
 refine zaa (T:=Tab) mixed Tab_ok Tryz.func78 rfl (by kernel_rfl) ?_
 refine zx (λj:Nat=>{F:=[(0, .r (zc4 l)),(1, .r (I x)),(4, .own 0),(6, .r (I j))],O:=[(0,some (.box (zc.map .r)))],nx:=1}) (λj=>j<=l.length/\∀s∈l.take j,s.at_≠x) (λj=>l.length-j) 0 ⟨by omega,by simp⟩ (zac [(0,0)] rfl ⟨cr,cr,rfl,cr,trivial⟩ ⟨zad zc,trivial⟩) ?_
 rintro j ⟨hj,hn⟩
 refine zh (λh=>zp ?_) (λh=>zq ?_)
 ·simp only[zb]at h
  have hj':j<l.length:=by omega
  refine zm (by omega) (by omega) (zvt rfl hj') (zg rfl ?_)
  refine zh (λh2=>zp ?_) (λh2=>zq ?_)
  ·simp only[zb]at h2
   refine zm (by omega) (by omega) (zvt rfl hj') ?_
   refine za rfl rfl ?_
   refine za rfl rfl ?_
   refine⟨_,rfl,zf ?_⟩
   rw[zamb hj' hn h2]
   rfl
  ·simp only[zb]at h2
   refine zd (m:=((j+1:Nat):Int)) (by omega) (by omega) ?_
   refine⟨j+1,⟨hj',?_⟩,by omega,zac [(0,0)] rfl ⟨cr,cr,rfl,cr,trivial⟩ ⟨zad zc,trivial⟩⟩
   rw[List.take_add_one,List.getElem?_eq_getElem hj']
   simp only[Option.toList,List.mem_append,List.mem_cons,List.not_mem_nil,or_false]
   rintro s (hs |rfl)
   ·exact hn s hs
   ·exact h2
 ·simp only[zb]at h
  rw[List.take_of_length_le (by omega)]at hn
  refine za rfl rfl ?_
  refine⟨_,rfl,?_⟩
  rw[z3d hn]
  exact Cv.tu (zk zsj (zn _))
end
section
theorem Sub.trans{S S' S'':St}(h:Sub S S')(h':Sub S' S''):Sub S S'':=λB N a w k hs=>by
 obtain⟨k',hs'⟩:=h B N a w k hs
 exact h' B N a w k' hs'
theorem zef{S:St}(t:Nat)(e:TypeId)(sz:Nat)(hf:fget S.F t=some (.r (.x (.slice none 0 0)))):Sub S {F:=(t, .own S.nx)::S.F,O:=(S.nx,some (.ch e sz 0 [] true))::S.O,nx:=S.nx+1}:=by
 rintro B N a w k ⟨g,hs⟩
 have hv:=(hs.facts t _ hf).2
 simp only[TF.at_,RV.at_]at hv
 have hlt:t<a.tmps.size:=by
  rcases Nat.lt_or_ge t a.tmps.size with h |h
  ·exact h
  ·rw[Array.getD_eq_getD_getElem?,Array.getElem?_eq_none h]at hv
   simp[undef]at hv
 have h:=hs.adopt (dst:=some t) (λd hd=>by cases hd;rw[<-hs.size];exact hlt) (o:= .ch e sz 0 [] true) (vb:=(.slice none 0 0,none)) trivial ⟨by simp, .inl ⟨rfl, .inl ⟨rfl,none,rfl⟩⟩⟩ (λb hb=>by cases hb) (λi o' b _ hb=>by cases hb)
 have e1:a.put (some t) (.slice none 0 0)=a:=by
  simp only[Act.put]
  have:a.tmps.setIfInBounds t (.slice none 0 0)=a.tmps:=by
   apply Array.ext
   ·simp
   ·intro i h1 h2
    by_cases hi:t=i
    ·subst hi
     rw[Array.getElem_setIfInBounds_self]
     rw[Array.getD_eq_getD_getElem?,Array.getElem?_eq_getElem hlt]at hv
     exact hv.symm
    ·rw[Array.getElem_setIfInBounds_ne _ hi]
  rw[this]
 rw[e1]at h
 exact⟨k,_,h⟩
def ins(x:Int):List Int->List Int
 |[]=>[x]
 |y::r=>if x<y then x::y::r else if x=y then y::r else y::ins x r
def rise(l:List Int):List Int:=l.foldr ins []
end
section
theorem za4{ρ:List (Nat×Nat)}{S:St}{e:TypeId}{l m:List Int}(h:l=m):cvOw ρ S (.ch e 1 l.length (l.map I) true) (.ch e 1 m.length (m.map I) true):=by
 subst h
 exact⟨rfl,rfl,rfl,rfl,zn _⟩
end
section
def bss(ls:List (List UInt8)):RV:= .sl 1 ls.length (ls.map bs)
theorem zzl{w:World}{k:Kp}: ∀{ls:List (List UInt8)} {us:List Value},RV.listAt w k (ls.map bs) us->∃ps:List (AC×List UInt8),ps.map (·.2)=ls/\us=ps.map slv/\∀q∈ps,By w (λ_=>True) q.1 q.2
 |[],us,h=>by simp only[List.map_nil,RV.listAt]at h;exact⟨[],rfl,h,by simp⟩
 |l::ls,us,h=>by
  simp only[List.map_cons,RV.listAt]at h
  obtain⟨u,r,rfl,_,h1,h2⟩:=h
  obtain⟨p,rfl,hp⟩:=ze6 h1
  obtain⟨ps,e1,e2,e3⟩:=zzl h2
  refine⟨(p,l)::ps,by simp[e1],by simp[e2,slv],λq hq=>?_⟩
  rcases List.mem_cons.1 hq with rfl |hq
  ·exact hp
  ·exact e3 q hq
theorem z9r{w:World}{k:Kp}{ls:List (List UInt8)}{v:Value}(h:(bss ls).at_ w k v): ∃(p:AC) (ps:List (AC×List UInt8)),v= .slice p.a ps.length p.c/\Pa w p ps/\catB ps=ls.flatMap id:=by
 simp only[bss,RV.at_]at h
 obtain⟨p,c,rfl,c1,c2,c3,c4⟩:=h
 rcases Nat.eq_zero_or_pos ls.length with h0 |hpos
 ·obtain rfl:=List.eq_nil_of_length_eq_zero h0
  exact⟨⟨p,c⟩,[],rfl,⟨⟨by simp,by simp,c2,λh=>by simp at h⟩,by simp⟩,rfl⟩
 ·obtain⟨b,o,rfl,hb,hc⟩:=c4 hpos
  obtain⟨us,q1,q2,q3⟩:=RV.cells_list _ _ hc
  obtain⟨ps,e1,e2,e3⟩:=zzl q1
  have hlen:ps.length=ls.length:=by rw[<-e1];simp
  exact⟨⟨_,c⟩,ps,by rw[hlen],⟨⟨by simp,by rw[hlen];exact c1,c2,λ_=>⟨b,o,rfl,trivial,hb,λj u hu=>q3 j u (by rw[e2];exact hu)⟩⟩,e3⟩,by rw[<-e1];simp[catB,List.flatMap_map]⟩
theorem zuj(ls:List (List UInt8))(hl:(ls.flatMap id).length<=100000000000):zab Tryz.prog 63 [bss ls] (bch (shaB (ls.flatMap id))):=
 za7 (zaw Tryz.func63 rfl (by kernel_rfl)) λw k vs hp=>by
  obtain⟨a,rfl,h1⟩:=zfo hp
  obtain⟨p,ps,rfl,hpa,hcat⟩:=z9r h1
  refine(z1m p ps w hpa (by rw[hcat];exact hl)).mono λ_ _ ⟨v,he,hx,_,hv⟩=>⟨v,he,hx,?_⟩
  rw[hcat]at hv
  exact zfi hv
theorem zio(ls:List (List UInt8))(hl:(ls.flatMap id).length<=1000000000000):zab Tryz.prog 120 [bss ls] (bch (ls.flatMap id)):=
 za7 (zaw Tryz.func120 rfl (by kernel_rfl)) λw k vs hp=>by
  obtain⟨a,rfl,h1⟩:=zfo hp
  obtain⟨p,ps,rfl,hpa,hcat⟩:=z9r h1
  refine(zpv p ps w hpa (by rw[hcat];exact hl)).mono λ_ _ ⟨v,he,hx,_,hv⟩=>⟨v,he,hx,?_⟩
  rw[hcat]at hv
  exact zfi hv
end
end Go.Proofs.YtfjkblpnbgfkeaaGreat.Sx

namespace Go.Proofs.YtfjkblpnbgfkeaaGreat
set_option linter.unusedVariables false
section
theorem zhs(x t:Nat):x/2^t%2=(x.testBit t).toNat:=by
 rw[Nat.testBit_eq_decide_div_mod_eq]
 have:x/2^t%2<2:=Nat.mod_lt _ (by omega)
 by_cases h:x/2^t%2=1
 ·simp[h]
 ·simp[h];omega
theorem zwd(x t:Nat):x%2^(t+1)=x%2^t+x/2^t%2*2^t:=by rw[Nat.pow_succ,Nat.mod_mul,Nat.mul_comm]
theorem zbwb{e t:Nat}(he:e<4294967296)(ht:t<32):(4294967295-e).testBit t= !e.testBit t:=by
 have h:=Nat.testBit_two_pow_sub_succ (x:=e) (n:=32) (by simpa using he) t
 rw[show 2^32-(e+1)=4294967295-e by omega]at h
 rw[h];simp[ht]
theorem zafb{e f g t:Nat}(he:e<4294967296)(ht:t<32):
  (e/2^t%2=1->chN e f g%2^(t+1)=chN e f g%2^t+f/2^t%2*2^t)/\(¬e/2^t%2=1->chN e f g%2^(t+1)=chN e f g%2^t+g/2^t%2*2^t):=by
 have hb:(chN e f g).testBit t=((e.testBit t&&f.testBit t)^^(!e.testBit t&&g.testBit t)):=by
  unfold chN
  rw[Nat.testBit_xor,Nat.testBit_and,Nat.testBit_and,zbwb he ht]
 rw[zwd,zhs e,zhs f,zhs g,zhs (chN e f g),hb]
 cases e.testBit t<;>cases f.testBit t<;>cases g.testBit t<;>simp
theorem zlc{a b c t:Nat}:
  (2<=a/2^t%2+b/2^t%2+c/2^t%2->majN a b c%2^(t+1)=majN a b c%2^t+2^t)/\(¬2<=a/2^t%2+b/2^t%2+c/2^t%2->majN a b c%2^(t+1)=majN a b c%2^t):=by
 have hb:(majN a b c).testBit t=(((a.testBit t&&b.testBit t)^^(a.testBit t&&c.testBit t))^^(b.testBit t&&c.testBit t)):=by
  unfold majN
  rw[Nat.testBit_xor,Nat.testBit_xor,Nat.testBit_and,Nat.testBit_and,Nat.testBit_and]
 rw[zwd,zhs a,zhs b,zhs c,zhs (majN a b c),hb]
 cases a.testBit t<;>cases b.testBit t<;>cases c.testBit t<;>simp
end
end Go.Proofs.YtfjkblpnbgfkeaaGreat

namespace Go.Proofs.YtfjkblpnbgfkeaaGreat.Sx
open Go.RowKit
section
abbrev U64(n:Nat):RV:= .i .u64 (n:Int)
def us(l:List Nat):RV:= .sl 1 l.length (l.map U64)
theorem zpi{x:Nat}(h:x<18446744073709551616):IntKind.u64.wrap (x:Int)=(x:Int):=by
 have:((x:Int)%18446744073709551616)=x:=by omega
 simp only[IntKind.wrap]
 simp[IntKind.bits,IntKind.signed]
 omega
theorem Vint.u64{e:Int}{K:Int->Prop}(n:Nat)(he:e=(n:Int))(h:n<18446744073709551616)(hK:K (n:Int)):Vint .u64 e K:=⟨n,by rw[he,zpi h],hK⟩
theorem Vquo.nat{a b:Int}{K:Int->Prop}(x y:Nat)(ha:a=(x:Int))(hb:b=(y:Int))(hy:0<y)(hx:x<18446744073709551616)(hK:K ((x/y:Nat):Int)):Vquo .u64 a b K:=by
 subst ha;subst hb
 refine⟨by omega,_,?_,hK⟩
 rw[Int.tdiv_eq_ediv_of_nonneg (by omega),<-Int.natCast_ediv,zpi (Nat.lt_of_le_of_lt (Nat.div_le_self _ _) hx)]
theorem Vrem.nat{a b:Int}{K:Int->Prop}(x y:Nat)(ha:a=(x:Int))(hb:b=(y:Int))(hy:0<y)(hK:K ((x%y:Nat):Int)):Vrem a b K:=by
 subst ha;subst hb
 refine⟨by omega,_,?_,hK⟩
 rw[Int.tmod_eq_emod_of_nonneg (by omega),<-Int.natCast_emod]
theorem Vint.u8{e:Int}{K:Int->Prop}(n:Nat)(he:e=(n:Int))(hK:K (((UInt8.ofNat n).toNat:Nat):Int)):Vint .u8 e K:=by
 refine⟨_,?_,hK⟩
 subst he
 simp only[IntKind.wrap]
 simp[IntKind.bits,IntKind.signed]
theorem Vbits.xor{a b:Int}{K:Int->Prop}(x y:Nat)(ha:a=(x:Int))(hb:b=(y:Int))(hx:x<18446744073709551616)(hy:y<18446744073709551616)(hK:K ((x^^^y:Nat):Int)):Vbits .u64 .xor a b K:=by
 subst ha;subst hb
 refine⟨_,?_,hK⟩
 have hxy:x^^^y<18446744073709551616:=Nat.xor_lt_two_pow (n:=64) hx hy
 have e: ∀z:Nat,z<18446744073709551616->(BitVec.ofInt 64 (z:Int)).toNat=z:=λz hz=>by
  rw[BitVec.toNat_ofInt];omega
 show((x^^^y:Nat):Int)=IntKind.u64.wrap (((BitVec.ofInt 64 (x:Int)^^^BitVec.ofInt 64 (y:Int)).toNat:Nat):Int)
 rw[BitVec.toNat_xor,e x hx,e y hy,zpi hxy]
theorem Vadr.mk'{i:Int}{n:Nat}{K:Nat->Prop}(j:Nat)(h:i=(j:Int))(hj:j<n)(hK:K j):Vadr i n K:=by
 subst h
 exact⟨by omega,by omega,by rw[Int.toNat_natCast];exact hK⟩
theorem zq7{x:Nat}:rotr 0 x=x:=by simp[rotr,Nat.mod_one]
theorem z1z{x i:Nat}(hi:i<32):rotr (i+1) x=rotr i x/2+rotr i x%2*2147483648:=by
 unfold rotr
 have h1:x/2^(i+1)=x/2^i/2:=by rw[Nat.pow_succ,Nat.div_div_eq_div_mul]
 have h2:x%2^(i+1)=x%2^i+2^i*(x/2^i%2):=by rw[Nat.pow_succ,Nat.mod_mul]
 have h3:2^(32-i)=2*2^(32-(i+1)):=by rw[show 32-i=(32-(i+1))+1 by omega,Nat.pow_succ,Nat.mul_comm]
 have h4:2^i*2^(32-(i+1))=2147483648:=by rw[<-Nat.pow_add,show i+(32-(i+1))=31 by omega]
 rw[h1,h2,h3]
 generalize x/2^i=r
 generalize x%2^i=m
 generalize 2^(32-(i+1))=p at*
 generalize 2^i=q at*
 have e1:m*(2*p)=2*(m*p):=by rw[Nat.mul_left_comm]
 have e2:(m+q*(r%2))*p=m*p+r%2*2147483648:=by
  rw[Nat.add_mul,<-h4,Nat.mul_comm q,Nat.mul_assoc]
 rw[e1,e2]
 omega
theorem zbm{x:Nat}(hx:x<4294967296): ∀{n:Nat},n<=31->rotr n x<4294967296
 |0,_=>by rw[zq7];exact hx
 |n+1,h=>zbv hx (by omega) h
theorem zfk(x n:Nat)(hx:x<4294967296)(hn:n<=31):zab Tryz.prog 206 [U64 x,I n] (.r (U64 (rotr n x))):=by
 refine zaa (T:=Tab) mixed Tab_ok Tryz.func206 rfl (by kernel_rfl) ?_
 refine zx (λj:Nat=>{F:=[(0, .r (U64 (rotr j x))),(1, .r (I n)),(5, .r (I j))],O:=[],nx:=0}) (λj=>j<=n) (λj=>n-j) 0 (by omega) (zac [] rfl ⟨zf (by rw[zq7]),cr,cr,trivial⟩ trivial) ?_
 intro j hj
 refine zh (λh=>zp ?_) (λh=>zq ?_)
 ·simp only[zb]at h
  have hr:=zbm hx (show j<=31 by omega)
  refine Vquo.nat (rotr j x) 2 rfl rfl (by omega) (by omega) ?_
  refine Vrem.nat (rotr j x) 2 rfl rfl (by omega) ?_
  refine Vint.u64 (rotr j x%2*2147483648) (by omega) (by omega) ?_
  refine Vint.u64 (rotr j x/2+rotr j x%2*2147483648) (by omega) (by omega) ?_
  refine zd (m:=((j+1:Nat):Int)) (by omega) (by omega) ?_
  exact⟨j+1,by omega,by omega,zac [] rfl ⟨zf (by rw[z1z (by omega)]),cr,cr,trivial⟩ trivial⟩
 ·simp only[zb]at h
  obtain rfl:j=n:=by omega
  exact cr
theorem zyw(x n:Nat)(hx:x<4294967296)(hn:n<=31):zab Tryz.prog 207 [U64 x,I n] (.r (U64 (x/2^n))):=by
 refine zaa (T:=Tab) mixed Tab_ok Tryz.func207 rfl (by kernel_rfl) ?_
 refine zx (λj:Nat=>{F:=[(0, .r (U64 (x/2^j))),(1, .r (I n)),(5, .r (I j))],O:=[],nx:=0}) (λj=>j<=n) (λj=>n-j) 0 (by omega) (zac [] rfl ⟨zf (by simp),cr,cr,trivial⟩ trivial) ?_
 intro j hj
 refine zh (λh=>zp ?_) (λh=>zq ?_)
 ·simp only[zb]at h
  have hr:=Nat.div_le_self x (2^j)
  refine Vquo.nat (x/2^j) 2 rfl rfl (by omega) (by omega) ?_
  refine zd (m:=((j+1:Nat):Int)) (by omega) (by omega) ?_
  exact⟨j+1,by omega,by omega,zac [] rfl ⟨zf (by rw[Nat.pow_succ,Nat.div_div_eq_div_mul]),cr,cr,trivial⟩ trivial⟩
 ·simp only[zb]at h
  obtain rfl:j=n:=by omega
  exact cr
theorem zawb:zab Tryz.prog 134 [] (.r (.tu [us h0Tab.list,us kTab])):=by
 refine zaa (T:=Tab) mixed Tab_ok Tryz.func134 rfl (by kernel_rfl) ?_
 refine zw ?_
 refine zw ?_
 exact⟨_,rfl,cr⟩
end
end Go.Proofs.YtfjkblpnbgfkeaaGreat.Sx
