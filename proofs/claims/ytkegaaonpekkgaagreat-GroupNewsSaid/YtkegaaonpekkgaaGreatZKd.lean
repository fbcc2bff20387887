import Derived.Test.YtkegaaonpekkgaaGreatZGeoB
import Derived.Test.YtkegaaonpekkgaaGreatZBytes
import Derived.WalkKit
import Derived.WalkSpells
import Derived.WalkLawsBesides
import Derived.Lib.Hide
import Derived.Deep.Draws
import Derived.Deep.AppendLies
import Derived.Test.YtkegaaonpekkgaaGreatZSxV
namespace Go.Proofs.YtkegaaonpekkgaaGreat.Sx
open Go.RowKit
def och(l:List UInt8):Res:= .own 5 1 l.length (l.map U8)
theorem zlj{ρ:List (Nat×Nat)}{S:St}{e:TypeId}{b:Bool}{l m:List UInt8}(h:l=m):cvOw ρ S (.ch e 1 l.length (l.map U8) b) (.ch e 1 m.length (m.map U8) b):=by
 subst h;exact⟨rfl,rfl,rfl,rfl,zn _⟩
theorem zt8(l:List UInt8)(hl:l.length<=140737488355328):aG 237 [bs l] (och l):=by
 refine za1 (T:=Tab) mixed Tab_ok Tryz.func237 rfl (by kernel_rfl) ?_
 refine Vstep.nilSl rfl rfl rfl Tryz.underlying22 (λh0=>zp ?_) (zq ?_)
 ·obtain rfl:=List.eq_nil_of_length_eq_zero h0
  exact⟨_,zie 2 5 1 rfl,rfl⟩
 ·refine Vpub.own ?_
  refine Vapp.mk' (j:=l.length) (zs:=l.map U8) (by simp only[maxLen];omega) (by show(0+l.length)*1<=_;omega) (by omega) rfl ?_
  exact⟨_,zo _,rfl⟩
theorem zt4(l:List UInt8)(hl:l.length<=140737488355328):aG 42 [bs l] (och l):=by
 refine za1 (T:=Tab) mixed Tab_ok Tryz.func42 rfl (by kernel_rfl) ?_
 refine Vstep.nilSl rfl rfl rfl Tryz.underlying22 (λh0=>zp ?_) (zq ?_)
 ·obtain rfl:=List.eq_nil_of_length_eq_zero h0
  exact⟨_,zie 2 5 1 rfl,rfl⟩
 ·refine Vpub.own ?_
  refine Vapp.mk' (j:=l.length) (zs:=l.map U8) (by simp only[maxLen];omega) (by show(0+l.length)*1<=_;omega) (by omega) rfl ?_
  exact⟨_,zo _,rfl⟩
theorem z7h(l:List Int)(hl:l.length<=17592186044416):aG 308 [is l] (.own 3 1 l.length (l.map I)):=by
 refine za1 (T:=Tab) mixed Tab_ok Tryz.func308 rfl (by kernel_rfl) ?_
 refine Vstep.nilSl rfl rfl rfl Tryz.underlying36 (λh0=>zp ?_) (zq ?_)
 ·obtain rfl:=List.eq_nil_of_length_eq_zero h0
  exact⟨_,zie 2 3 1 rfl,rfl⟩
 ·refine Vpub.own ?_
  refine Vapp.mk' (j:=l.length) (zs:=l.map I) (by simp only[maxLen];omega) (by show(0+l.length)*8<=_;omega) (by omega) rfl ?_
  exact⟨_,zo _,rfl⟩
theorem zxd(l:List UInt8)(hl:l.length<=140737488355328):aG 237 [bs l] (bch l):=zjs (zt8 l hl)
theorem zbx(l:List UInt8)(hl:l.length<=140737488355328):aG 42 [bs l] (bch l):=zjs (zt4 l hl)
theorem zbib(l:List Int)(hl:l.length<=17592186044416):aG 308 [is l] (ich l):=zjs (z7h l hl)
theorem zwb(n:Int)(hn:n=1\/n=2\/n=4\/n=8):aG 318 [I n] (.r (.b true)):=by
 refine aT Tryz.func318 rfl ?_
 rcases hn with rfl |rfl |rfl |rfl
 ·refine zt rfl ?_
  exact cr
 ·refine zu rfl (zt rfl ?_)
  exact cr
 ·refine zu rfl (zu rfl (zt rfl ?_))
  exact cr
 ·refine zu rfl (zu rfl (zu rfl (zt rfl ?_)))
  exact cr
theorem zp1{s n i:Nat}(hi:i<s):(beB s n).take (i+1)=(beB s n).take i++[UInt8.ofNat (n/256^(s-1-i))]:=by
 have: ∀(s i:Nat),i<s->(beB s n)[i]?=some (UInt8.ofNat (n/256^(s-1-i))):=by
  intro s
  induction s with
  |zero=>intro i h;omega
  |succ s ih=>
   intro i h
   cases i with
   |zero=>simp[beB]
   |succ i=>
    rw[beB,List.getElem?_cons_succ,ih i (by omega)]
    rw[show s+1-1-(i+1)=s-1-i by omega]
 rw[List.take_add_one,this s i hi];rfl
theorem z7l(l:List UInt8)(size m:Nat)(hl:l.length<=1000000000000)(hs:size=1\/size=2\/size=4\/size=8):aG 205 [bs l,I size, .i .u64 m] (och (l++beB size m)):=by
 refine aT Tryz.func205 rfl ?_
 have hlen: ∀j,(l++(beB size m).take j).length<=l.length+8:=λj=>by rw[List.length_append,List.length_take,zak];omega
 refine ze (zt8 l (by omega)) ?_
 refine ze (zwb size (by omega)) ?_
 refine zu rfl (zq ?_)
 refine zd rfl (by omega) ?_
 refine zy (λj:Nat=>{F:=[(0, .own 0),(2, .r (.i .u64 m)),(7, .r (I ((size:Int)-1-j)))],O:=[(0,some (.ch 5 1 (l++(beB size m).take j).length ((l++(beB size m).take j).map U8) false))],nx:=1}) (λj=>j<=size) (λj=>size-j) 0 (by omega)
  (zac [(0,0)] rfl ⟨rfl,cr,zf (congrArg I (by simp)),trivial⟩ ⟨zlj (by simp),trivial⟩) ?_
 intro j hj
 have hlj:=hlen j
 refine zh (λh=>zp ?_) (λh=>zq ?_)
 ·simp only[zb]at h
  have hj':j<size:=by omega
  have ht:=zp1 (n:=m) hj'
  refine zd (m:=((8*(size-1-j):Nat):Int)) (by omega) (by omega) ?_
  refine Vshr.nat (.inl rfl) m (8*(size-1-j)) (m/256^(size-1-j)) rfl rfl (by omega) (by rw[z90]) ?_
  refine Vint.u8 (m/256^(size-1-j)) rfl ?_
  refine zw ?_
  refine Vapp.mk' (j:=(l++(beB size m).take (j+1)).length) (zs:=(l++(beB size m).take (j+1)).map U8) (by simp only[maxLen];omega) (by show((l++(beB size m).take j).length+1)*1<=_;omega) (by rw[ht];simp only[List.length_append,List.length_cons,List.length_nil];omega)
   (by rw[ht,<-List.append_assoc];exact(List.map_append (f:=U8) (l₁:=l++(beB size m).take j) (l₂:=[UInt8.ofNat (m/256^(size-1-j))])).symm) ?_
  refine zd (m:=(size:Int)-1-((j+1:Nat):Int)) (by omega) (by omega) ?_
  exact⟨j+1,by omega,by omega,zac [(0,_)] rfl ⟨rfl,cr,cr,trivial⟩ ⟨zlj rfl,trivial⟩⟩
 ·simp only[zb]at h
  obtain rfl:j=size:=by omega
  rw[List.take_of_length_le (by rw[zak];omega)]
  exact rfl
theorem zet(l:List UInt8)(size m:Nat)(hl:l.length<=1000000000000)(hs:size=1\/size=2\/size=4\/size=8):aG 205 [bs l,I size, .i .u64 m] (bch (l++beB size m)):=zjs (z7l l size m hl hs)
theorem znc(n:Nat)(hn:n<=1073741823):aG 319 [I n] (.r (I (zc6 n))):=by
 refine aT Tryz.func319 rfl ?_
 unfold zc6
 (repeat' (first|refine zh (λh=>?_) (λh=>?_)|refine zf ?_|refine zp ?_|refine zq ?_))
 all_goals simp only[zb]at*
 all_goals first|omega|(refine congrArg I ?_;split<;>(try split)<;>omega)
theorem zbnb(l:List UInt8)(n:Nat)(hl:l.length<=1000000000000)(hn:n<=1073741823):aG 207 [bs l,I n] (bch (l++lenB n)):=by
 refine aT Tryz.func207 rfl ?_
 refine ze (znc n hn) ?_
 obtain⟨s,k,v,h1,h2,h3,h4,h5⟩: ∃s k v,zc6 n=s/\lenB n=beB s v/\(s=1\/s=2\/s=4)/\k=s/2/\(k*2^(8*s-2)|||n)=v:=by
  unfold zc6 lenB
  split
  ·exact⟨1,0,n,rfl,rfl,by omega,rfl,by simp⟩
  ·split
   ·exact⟨2,1,16384+n,rfl,rfl,by omega,rfl,nat_join 14 (1*2^14) n (by decide) (by omega)⟩
   ·exact⟨4,2,2147483648+n,rfl,rfl,by omega,rfl,nat_join 30 (2*2^30) n (by decide) (by omega)⟩
 rw[h1,h2]
 have hk:k*2^(8*s-2)<=2147483648:=by
  rcases h3 with rfl |rfl |rfl<;>subst h4<;>decide
 have hv:v<9223372036854775808:=by rw[<-h5];exact Nat.or_lt_two_pow (n:=63) (by omega) (by omega)
 refine zu (by simp only[zb];omega) (zq ?_)
 refine⟨by decide,(k:Int),by rw[Int.tdiv_eq_ediv_of_nonneg (by omega)];exact(by omega:(k:Int)=(s:Int)/2).trans (wrap_i64 (by omega)),?_⟩
 refine Vint.nat (.inl rfl) k rfl (by omega) ?_
 refine zd (m:=((8*s:Nat):Int)) (by omega) (by omega) ?_
 refine zd (m:=((8*s-2:Nat):Int)) (by omega) (by omega) ?_
 refine Vshl.nat (.inl rfl) k (8*s-2) _ rfl rfl (by omega) rfl (by omega) ?_
 refine Vint.nat (.inl rfl) n rfl (by omega) ?_
 refine Vbits.nat (.inl rfl) (k*2^(8*s-2)) n v rfl rfl (by omega) (by omega) hv h5 ?_
 exact ze (zet l s v hl (by omega)) rfl
theorem zbl(l m:List UInt8)(hl:l.length<=1000000000000)(hm:m.length<=1073741823):aG 120 [bs l,bs m] (bch (l++vecB m)):=by
 refine aT Tryz.func120 rfl ?_
 have hv:=zag m
 have hb:(l++lenB m.length).length<=l.length+4:=by rw[List.length_append,zqh];have:=zja m.length;omega
 have e:l++vecB m=l++lenB m.length++m:=by rw[vecB,List.append_assoc]
 refine ze (zbnb l m.length hl hm) ?_
 refine Vapp.mk' (j:=(l++vecB m).length) (zs:=(l++vecB m).map U8) (by simp only[maxLen];omega) (by show((l++lenB m.length).length+m.length)*1<=_;omega) (by rw[e,List.length_append (bs:=m)]) (by rw[e,List.map_append (l₂:=m)]) ?_
 exact rfl
theorem zfvb(n:Nat)(hn:n<=1073741823):aG 138 [I n] (bch (lenB n)):=by
 refine aT Tryz.func138 rfl ?_
 have tq: ∀d:Int,0<d->((n:Int).tdiv d)=(n:Int)/d:=λd _=>Int.tdiv_eq_ediv_of_nonneg (by omega)
 have tr: ∀a d:Nat,((a:Int).tmod d)=((a%d:Nat):Int):=λa d=>by rw[Int.tmod_eq_emod_of_nonneg (by omega)];rfl
 refine zh (λh=>zp ?_) (λh=>zq ?_)
 ·simp only[zb]at h
  have e:lenB n=[UInt8.ofNat n]:=by unfold lenB;rw[if_pos (by omega)];simp[beB]
  refine Vint.u8 n rfl ?_
  rw[e]
  exact zw rfl
 simp only[zb]at h
 refine zh (λh2=>zp ?_) (λh2=>zq ?_)
 ·simp only[zb]at h2
  have e:lenB n=[UInt8.ofNat (64+n/256),UInt8.ofNat (n%256)]:=by
   unfold lenB;rw[if_neg (by omega),if_pos (by omega)]
   simp only[beB,List.cons.injEq,and_true,Nat.pow_zero,Nat.div_one]
   exact⟨congrArg UInt8.ofNat (by omega),by apply UInt8.toNat_inj.1;first|(simp;done)|(simp;omega)⟩
  refine⟨by decide,((n/256:Nat):Int),by rw[tq 256 (by decide)];exact(by omega:((n/256:Nat):Int)=(n:Int)/256).trans (wrap_i64 (by omega)),?_⟩
  refine zd (m:=((64+n/256:Nat):Int)) (by omega) (by omega) ?_
  refine Vint.u8 (64+n/256) rfl ?_
  refine⟨by decide,_,(tr n 256).symm,?_⟩
  refine Vint.u8 (n%256) rfl ?_
  rw[e]
  exact zw rfl
 ·simp only[zb]at h2
  have e:lenB n=[UInt8.ofNat (128+n/16777216),UInt8.ofNat (n/65536%256),UInt8.ofNat (n/256%256),UInt8.ofNat (n%256)]:=by
   unfold lenB;rw[if_neg (by omega),if_neg (by omega)]
   simp only[beB,List.cons.injEq,and_true,Nat.pow_zero,Nat.div_one]
   refine⟨congrArg UInt8.ofNat (by omega),?_,?_,?_⟩<;>(apply UInt8.toNat_inj.1;first|(simp;done)|(simp;omega))
  refine⟨by decide,((n/16777216:Nat):Int),by rw[tq 16777216 (by decide)];exact(by omega:((n/16777216:Nat):Int)=(n:Int)/16777216).trans (wrap_i64 (by omega)),?_⟩
  refine zd (m:=((128+n/16777216:Nat):Int)) (by omega) (by omega) ?_
  refine Vint.u8 (128+n/16777216) rfl ?_
  refine⟨by decide,((n/65536:Nat):Int),by rw[tq 65536 (by decide)];exact(by omega:((n/65536:Nat):Int)=(n:Int)/65536).trans (wrap_i64 (by omega)),?_⟩
  refine⟨by decide,_,(tr (n/65536) 256).symm,?_⟩
  refine Vint.u8 (n/65536%256) rfl ?_
  refine⟨by decide,((n/256:Nat):Int),by rw[tq 256 (by decide)];exact(by omega:((n/256:Nat):Int)=(n:Int)/256).trans (wrap_i64 (by omega)),?_⟩
  refine⟨by decide,_,(tr (n/256) 256).symm,?_⟩
  refine Vint.u8 (n/256%256) rfl ?_
  refine⟨by decide,_,(tr n 256).symm,?_⟩
  refine Vint.u8 (n%256) rfl ?_
  rw[e]
  exact zw rfl
theorem zce(m:List UInt8)(hm:m.length<=1073741823):aG 61 [bs m] (bch (vecB m)):=by
 refine aT Tryz.func61 rfl ?_
 have hb:(lenB m.length).length<=4:=by rw[zqh];have:=zja m.length;omega
 refine ze (zfvb m.length hm) ?_
 refine Vapp.mk' (j:=(vecB m).length) (zs:=(vecB m).map U8) (by simp only[maxLen];omega) (by show((lenB m.length).length+m.length)*1<=_;omega) (by rw[vecB,List.length_append]) (by rw[vecB,List.map_append]) ?_
 exact rfl
theorem zil(size m:Nat)(hs:size<=8)(hm:m<18446744073709551616):aG 60 [I size, .i .u64 m] (bch (beB size m)):=by
 refine aT Tryz.func60 rfl ?_
 refine zy (λj:Nat=>{F:=[(0, .r (I size)),(1, .r (.i .u64 ((m/256^j:Nat):Int))),(5, .own 0),(6, .r (I j))],O:=[(0,some (.ch 5 1 (beB j m).length ((beB j m).map U8) true))],nx:=1}) (λj=>j<=size) (λj=>size-j) 0 (by omega)
  ((zd7 5 5 1 rfl).trans (zac [(0,0)] rfl ⟨cr,zf (by simp),rfl,cr,trivial⟩ ⟨⟨rfl,rfl,rfl,rfl,zn _⟩,trivial⟩)) ?_
 intro j hj
 have hbl:=zak j m
 have hd:m/256^j<18446744073709551616:=Nat.lt_of_le_of_lt (Nat.div_le_self _ _) hm
 refine zh (λh=>zp ?_) (λh=>zq ?_)
 ·simp only[zb]at h
  refine Vrem.nat (m/256^j) 256 rfl rfl (by decide) ?_
  refine Vint.u8 (m/256^j%256) rfl ?_
  refine zw ?_
  refine Vapp.mk' (j:=(beB (j+1) m).length) (zs:=(beB (j+1) m).map U8) (by simp only[maxLen];omega) (by show(1+(beB j m).length)*1<=_;omega) (by rw[zak,zak];omega) (by rw[beB,zog];rfl) ?_
  refine Vquo.nat (m/256^j) 256 rfl rfl (by decide) hd ?_
  refine zd (m:=((j+1:Nat):Int)) (by omega) (by omega) ?_
  exact⟨j+1,by omega,by omega,zac [(0,_)] rfl ⟨cr,zf (by rw[Nat.pow_succ,Nat.div_div_eq_div_mul]),rfl,cr,trivial⟩ ⟨zlj rfl,trivial⟩⟩
 ·simp only[zb]at h
  obtain rfl:j=size:=by omega
  exact rfl
theorem ziz(l m:List UInt8):aG 24 [bs l,bs m] (.r (.b (decide (l=m)))):=by
 refine zne (zdt Tryz.func24 rfl (by kernel_rfl)) λhml=>?_
 refine aT Tryz.func24 rfl ?_
 refine zh (λh=>zp ?_) (λh=>zq ?_)
 ·simp only[zb]at h
  exact zf (congrArg RV.b (Eq.symm (decide_eq_false λe=>h (by rw[e]))))
 simp only[zb]at h
 refine zy (λi:Nat=>⟨[(0, .r (bs l)),(1, .r (bs m)),(5, .r (I i))],[],0⟩) (λi=>i<=l.length/\l.take i=m.take i) (λi=>l.length-i) 0 ⟨by omega,by simp⟩ (zac [] rfl ⟨cr,cr,cr,trivial⟩ trivial) ?_
 rintro i ⟨hi,he⟩
 refine zh (λh3=>zp ?_) (λh3=>zq ?_)
 ·simp only[zb]at h3
  have h1:i<l.length:=by omega
  have h2:i<m.length:=by omega
  refine aV ?_
  refine zm (by omega) (by omega) (za3 rfl h1) (zg rfl ?_)
  refine zm (by omega) (by omega) (za3 rfl h2) (zg rfl ?_)
  refine zh (λh4=>zp ?_) (λh4=>zq ?_)
  ·simp only[zb,Int.natCast_inj,UInt8.toNat_inj]at h4
   refine zf (congrArg RV.b (Eq.symm (decide_eq_false λe=>?_)))
   subst e;exact h4 rfl
  ·simp only[zb,Int.natCast_inj,UInt8.toNat_inj]at h4
   refine zd (m:=((i+1:Nat):Int)) (by omega) (by omega) ?_
   refine⟨i+1,⟨h1,?_⟩,by omega,zac [] rfl ⟨cr,cr,cr,trivial⟩ trivial⟩
   rw[List.take_succ_eq_append_getElem h1,List.take_succ_eq_append_getElem h2,he,h4]
 ·simp only[zb]at h3
  refine zf (congrArg RV.b (Eq.symm ?_))
  rw[decide_eq_true_eq,<-List.take_of_length_le (show l.length<=i by omega),he,List.take_of_length_le (by omega)]
theorem zcj(l m:List UInt8)(hl:l.length<=1000000000000)(hm:m.length<=1000000000000):aG 340 [bs l,bs m] (bch (l++m)):=by
 refine aT Tryz.func340 rfl ?_
 refine zw ?_
 refine Vapp.mk' (j:=l.length) (zs:=l.map U8) (by simp only[maxLen];omega) (by show(0+l.length)*1<=_;omega) (by omega) rfl ?_
 refine Vapp.mk' (j:=(l++m).length) (zs:=(l++m).map U8) (by simp only[maxLen];omega) (by show(l.length+m.length)*1<=_;omega) (by simp) (by simp) ?_
 exact rfl
end Go.Proofs.YtkegaaonpekkgaaGreat.Sx

namespace Go.Proofs.YtkegaaonpekkgaaGreat
open Go.RowKit
def Ext(w w':World):Prop:=Below w.heap.size w w'
theorem Ext.refl(w:World):Ext w w:=Below.refl _ _
theorem Ext.alloc{a w:World}(h:Ext a w)(o:Obj):Ext a (w.alloc o):=Below.alloc h h.size o
theorem Ext.drew{a w:World}(h:Ext a w):Ext a w.drew:=Below.drew h
theorem Ext.le{a w:World}(h:Ext a w):a.heap.size<=w.heap.size:=h.size
theorem zcm(w:World)(o:Obj):Ext w (w.alloc o):=(Ext.refl w).alloc o
structure AC where
 a:Option Addr
 c:Nat
def Sl(w:World)(S:Nat->Prop)(sz:Nat)(p:AC)(n:Nat)(xs:List Value):Prop:=
 xs.length=n*sz/\n<=p.c/\p.c<=maxLen/\
  (0<n->∃b o,p.a=some ⟨b,o,none⟩/\S b/\b<w.heap.size/\∀j u,xs[j]?=some u->w.cell? ⟨b,o+j,none⟩=some u)
section
variable {w w':World} {S S':Nat->Prop} {sz n:Nat} {p:AC} {xs:List Value}
theorem Sl.at_(h:Sl w S sz p n xs)(hn:0<n): ∃b o,p.a=some ⟨b,o,none⟩/\S b/\b<w.heap.size/\∀j u,xs[j]?=some u->w.cell? ⟨b,o+j,none⟩=some u:=h.2.2.2 hn
end
abbrev bv(b:UInt8):Value:= .int .u8 (b.toNat:Int)
abbrev iv(n:Int):Value:= .int .i64 n
def I64(n:Int):Prop:= -9223372036854775808<=n/\n<=9223372036854775807
def By(w:World)(S:Nat->Prop)(p:AC)(l:List UInt8):Prop:=Sl w S 1 p l.length (l.map bv)
def Is(w:World)(S:Nat->Prop)(p:AC)(l:List Int):Prop:=Sl w S 1 p l.length (l.map iv)/\∀x∈l,I64 x
section
variable {w w':World} {S S':Nat->Prop} {p:AC} {l:List UInt8} {m:List Int}
theorem By.form(h:By w S p l)(hk:0<l.length): ∃b o,p.a=some ⟨b,o,none⟩/\∀(k:Nat) (h:k<l.length),w.cell? ⟨b,o+k,none⟩=some (.int .u8 (l[k].toNat:Int)):=by
 obtain⟨b,o,e,_,_,hc⟩:=Sl.at_ h hk
 exact⟨b,o,e,λk hk=>hc k _ (by simp[hk])⟩
end
def Ow(w:World)(base:Nat)(e:TypeId)(sz:Nat)(v:Value)(n:Nat)(xs:List Value)(g:Option Nat):Prop:=
 xs.length=n*sz/\
 ((g=none/\∃a,v= .slice a n n/\Sl w (base<= ·) sz ⟨a,n⟩ n xs)\/
 (∃b cap cur,g=some b/\v= .slice (some ⟨b,0,none⟩) n cap/\base<=b/\w.heap[b]?=some (.cells cur e (0,0))/\n<=cap/\cap<=maxLen/\cur.size=cap*sz/\cur.toList.take (n*sz)=xs))
section
variable {w w':World} {base:Nat} {e:TypeId} {sz n:Nat} {v:Value} {xs:List Value} {g:Option Nat}
theorem Ow.lt(h:Ow w base e sz v n xs g): ∀k,g=some k->base<=k/\k<w.heap.size:=by
 intro k hk
 rcases h.2 with⟨rfl,_⟩ |⟨b,cap,cur,rfl,_,hb,hh,_⟩
 ·cases hk
 ·cases hk
  exact⟨hb,(Array.getElem?_eq_some_iff.1 hh).1⟩
end
def Ret(w:World)(Post:World->Value->Prop)(e:Ending)(w':World):Prop:=∃v,e= .returned v/\Ext w w'/\Post w' v
end Go.Proofs.YtkegaaonpekkgaaGreat

namespace Go.Proofs.YtkegaaonpekkgaaGreat.Sx
open Go.RowKit
section
variable {P:Program} {w w':World} {k:Kp} {v:Value}
theorem zub{f:FuncId}{args:List RV}{res:Res}(hk:zjm P f)(h: ∀w k vs,RV.partsAt w k args vs->Calls P f vs.toArray w (Ret w λw' v=>∃k':Kp,(∀b,b<w.heap.size->k' b=k b)/\res.at_ w.heap.size w' k' v)):zab P f args res:=
 ⟨hk,λw k vs hp=>(h w k vs hp).mono λ_ _ ⟨v,he,hx,hr⟩=>⟨v,he,hx,hr⟩⟩
theorem zbub{f:FuncId}{args:List RV}{r:RV}{us:List Value}{u:Value}(hk:zjm P f)(ha: ∀w k vs,RV.partsAt w k args vs->vs=us)(hr: ∀w k,r.at_ w k u)(h: ∀w,Calls P f us.toArray w λe w'=>e= .returned u/\w=w'):zab P f args (.r r):=
 zub hk λw k vs hp=>by
  rw[ha w k vs hp]
  exact(h w).mono λ_ _ ⟨he,hw⟩=>⟨u,he,hw▸Below.refl _ _,k,λ_ _=>rfl,hr _ _⟩
section
variable {α:Type} {f:α->RV} {g:α->Value}
theorem znsb(hfg: ∀x w k v,(f x).at_ w k v↔v=g x){l:List α}(h:(RV.sl 1 l.length (l.map f)).at_ w k v): ∃p:AC,v= .slice p.a l.length p.c/\Sl w (λ_=>True) 1 p l.length (l.map g):=by
 simp only[RV.at_]at h
 obtain⟨a,c,rfl,h1,h2,h3,h4⟩:=h
 refine⟨⟨a,c⟩,rfl,by simp,h1,h2,λhn=>?_⟩
 obtain⟨b,o,e,hb,hc⟩:=h4 hn
 refine⟨b,o,e,trivial,hb,λj u hu=>?_⟩
 rw[RV.cellsAt_iff]at hc
 simp only[List.getElem?_map,Option.map_eq_some_iff]at hu
 obtain⟨x,hx,rfl⟩:=hu
 obtain⟨_,u,hu,_,hf⟩:=hc j (f x) (by simp[hx])
 rw[hu,(hfg x w k u).1 hf]
end
theorem z3s{l:List UInt8}(h:(bs l).at_ w k v): ∃p:AC,v= .slice p.a l.length p.c/\By w (λ_=>True) p l:=znsb (f:=U8) (g:=bv) (λx w k v=>by simp[RV.at_]) h
theorem zr0{α:Type}{f:α->RV}{g:α->Value}(hfg: ∀x w k v,(f x).at_ w k v↔v=g x)(h1: ∀x,(g x).oneCell'=true): ∀l:List α,RV.listAt w k (l.map f) (l.map g)
 |[]=>by simp[RV.listAt]
 |x::r=>by
  simp only[List.map_cons,RV.listAt]
  exact⟨_,_,rfl,h1 x,(hfg _ _ _ _).2 rfl,zr0 hfg h1 r⟩
theorem zyz{x:RV}{vs:List Value}(h:RV.partsAt w k [x] vs): ∃a,vs=[a]/\x.at_ w k a:=by
 simp only[RV.partsAt]at h
 obtain⟨u,r,rfl,h1,rfl⟩:=h
 exact⟨u,rfl,h1⟩
theorem znz{x y:RV}{vs:List Value}(h:RV.partsAt w k [x,y] vs): ∃a b,vs=[a,b]/\x.at_ w k a/\y.at_ w k b:=by
 simp only[RV.partsAt]at h
 obtain⟨u,r,rfl,h1,u',r',rfl,h2,rfl⟩:=h
 exact⟨u,u',rfl,h1,h2⟩
end
def Leaf.right(l:Leaf):Bool:=decide (l.box.length=32/\l.sign.length=32/\0<l.ident.length/\l.ident.length<=64/\0<l.src.toNat/\l.src.toNat<4/\(l.parent.length=0\/l.src.toNat=3/\l.parent.length=32)/\l.sig.length=64)
theorem znyb(l:Leaf):aG 244 [.ag l.c] (.r (.b l.right)):=by
 refine aT Tryz.func244 rfl ?_
 (repeat' (first|refine zh (λh=>?_) (λh=>?_)|refine zf ?_|refine zp ?_|refine zq ?_))
 all_goals refine congrArg RV.b (Eq.symm ?_)
 all_goals simp only[Leaf.right,zb]at*
 all_goals omega
theorem z4j(a b:Leaf):aG 95 [.ag a.c, .ag b.c] (.r (.b (decide (a=b)))):=by
 refine aT Tryz.func95 rfl ?_
 obtain⟨a1,a2,a3,a4,a5,a6⟩:=a
 obtain⟨b1,b2,b3,b4,b5,b6⟩:=b
 repeat' (first|refine Vcall.bool (ziz _ _) (λh=>?_) (λh=>?_)|refine zh (λh=>?_) (λh=>?_)|refine zf ?_)
 all_goals simp only[zb,Int.natCast_inj,UInt8.toNat_inj]at*
 all_goals simp_all [ofC]
theorem zbqb(a b:Node)(ha: ∀x∈a.par.late,i64 x)(hb: ∀x∈b.par.late,i64 x):aG 143 [.ag a.c, .ag b.c] (.r (.b (decide (a=b)))):=by
 refine aT Tryz.func143 rfl ?_
 obtain⟨a1,a2,a3⟩:=a
 obtain⟨b1,b2,b3⟩:=b
 refine zh (λh1=>?_) (λh1=>?_)
 ·refine za rfl rfl ?_
  refine za rfl rfl ?_
  refine Vcall.bool (z4j a2 b2) (λh2=>?_) (λh2=>?_)
  ·refine Vcall.bool (ziz _ _) (λh3=>?_) (λh3=>?_)
   ·refine Vcall.bool (ziz _ _) (λh4=>?_) (λh4=>?_)
    ·refine Vcall.bool (zbpb _ _ ha hb) (λh5=>?_) (λh5=>?_)
     ·refine zf ?_
      simp only[zb,Int.natCast_inj,UInt8.toNat_inj]at*
      obtain⟨_,_,_⟩:=a3
      obtain⟨_,_,_⟩:=b3
      simp_all [ofC]
     ·refine zf ?_
      simp only[zb,Int.natCast_inj,UInt8.toNat_inj]at*
      simp[ofC]
      intro _ _ e;exact h5 (by rw[e])
    ·refine zf ?_
     simp only[zb,Int.natCast_inj,UInt8.toNat_inj]at*
     simp[ofC]
     intro _ _ e;exact h4 (by rw[e])
   ·refine zf ?_
    simp only[zb,Int.natCast_inj,UInt8.toNat_inj]at*
    simp[ofC]
    intro _ _ e;exact h3 (by rw[e])
  ·refine zf ?_
   simp only[zb,Int.natCast_inj,UInt8.toNat_inj]at*
   simp[ofC,h2]
 ·refine zf ?_
  simp only[zb,Int.natCast_inj,UInt8.toNat_inj]at*
  simp[ofC,h1]
theorem zbi{ρ:List (Nat×Nat)}{S:St}(v:RV):cvTF ρ S (.r v) (.r v):=by
 cases v<;>first|trivial|exact cr
theorem zae{ρ:List (Nat×Nat)}{S:St}: ∀l:List RV,zfz ρ S (l.map .r) (l.map .r)
 |[]=>rfl
 |v::r=>⟨_,_,rfl,zbi v,zae r⟩
def Leaf.fit(l:Leaf):Prop:=l.box.length<=1000000000/\l.sign.length<=1000000000/\l.ident.length<=1000000000/\l.parent.length<=1000000000/\l.sig.length<=1000000000
def Par.fit(p:Par):Prop:=p.box.length<=1000000000/\p.hash.length<=1000000000/\p.late.length<=100000000/\∀x∈p.late,i64 x
def zjx:Int->List Int->Bool
 |_,[]=>true
 |last,x::r=>decide (last<x/\x<65536)&&zjx x r
def Par.right(p:Par):Bool:=zjx (-1) p.late&&decide (p.box.length=32/\(p.hash.length=0\/p.hash.length=32))
def Leaf.none(l:Leaf):Bool:=decide (l.src.toNat=0/\l.box.length=0/\l.sign.length=0/\l.ident.length=0/\l.parent.length=0/\l.sig.length=0)
def Par.none(p:Par):Bool:=decide (p.box.length=0/\p.hash.length=0/\p.late.length=0)
theorem zw9(l:Leaf)(hl:l.fit):aG 499 [.ag l.c] (.r (.b l.none)):=by
 refine aT Tryz.func499 rfl ?_
 obtain⟨h1,h2,h3,h4,h5⟩:=hl
 refine zh (λh=>?_) (λh=>?_)
 ·refine zd rfl (by omega) ?_
  refine zd rfl (by omega) ?_
  refine zd rfl (by omega) ?_
  refine zd rfl (by omega) ?_
  refine Vcmp.mk' rfl (zf (congrArg RV.b ?_))
  simp only[Leaf.none,zb]at*
  rw[Bool.eq_iff_iff]
  simp only[zb]at*
  omega
 ·refine zf (congrArg RV.b ?_)
  simp only[Leaf.none,zb]at*
  rw[eq_comm]
  simp only[zb]at*
  omega
theorem z1t(p:Par)(hp:p.fit):aG 500 [.ag p.c] (.r (.b p.none)):=by
 refine aT Tryz.func500 rfl ?_
 obtain⟨h1,h2,h3,_⟩:=hp
 refine zd rfl (by omega) ?_
 refine zd rfl (by omega) ?_
 refine Vcmp.mk' rfl (zf (congrArg RV.b ?_))
 simp only[Par.none,zb]at*
 rw[Bool.eq_iff_iff]
 simp only[zb]at*
 omega
theorem zf0(l:Leaf):aG 129 [.ag l.c] (.r (.b l.right)):=by
 refine aT Tryz.func129 rfl ?_
 (repeat' (first|refine zh (λh=>?_) (λh=>?_)|refine zf ?_|refine zp ?_|refine zq ?_))
 all_goals refine congrArg RV.b (Eq.symm ?_)
 all_goals simp only[Leaf.right,zb]at*
 all_goals omega
theorem zjjb(p:Par)(hp:p.fit):aG 501 [.ag p.c] (.r (.b p.right)):=by
 refine aT Tryz.func501 rfl ?_
 obtain⟨hp1,hp2,hp3,hp4⟩:=hp
 refine zy (λi:Nat×Int=>{F:=[(1, .own 0),(2, .r (.b false)),(3, .r (I i.2)),(7, .r (is p.late)),(8, .r (I p.late.length)),(9, .r (I i.1))],O:=[(0,some (.box (p.c.map .r)))],nx:=1})
  (λi=>i.1<=p.late.length/\zjx (-1) p.late=zjx i.2 (p.late.drop i.1)) (λi=>p.late.length-i.1) (0, -1) ⟨by simp,by simp⟩ (zac [(0,0)] rfl ⟨rfl,cr,cr,cr,cr,cr,trivial⟩ ⟨zae _,trivial⟩) ?_
 rintro⟨j,last⟩ ⟨hj,hlate⟩
 simp only at hj hlate
 refine zh (λh=>zp ?_) (λh=>zq ?_)
 ·simp only[zb]at h
  have hj':j<p.late.length:=by omega
  have hx:=hp4 _ (List.getElem_mem hj')
  rw[List.drop_eq_getElem_cons hj']at hlate
  simp only[zjx]at hlate
  refine zm (by omega) (by omega) (za3 rfl hj') (zg rfl ?_)
  refine zh (λh1=>?_) (λh1=>?_)
  ·simp only[zb]at h1
   refine zp (zf (congrArg RV.b (Eq.symm ?_)))
   have: ¬(last<p.late[j]/\p.late[j]<65536):=by omega
   simp[Par.right,hlate,this]
  ·refine zh (λh2=>?_) (λh2=>?_)
   ·simp only[zb]at h2
    refine zp (zf (congrArg RV.b (Eq.symm ?_)))
    have: ¬(last<p.late[j]/\p.late[j]<65536):=by omega
    simp[Par.right,hlate,this]
   ·simp only[zb]at h1 h2
    refine zq ?_
    refine zd (m:=((j+1:Nat):Int)) (by omega) (by omega) ?_
    have:last<p.late[j]/\p.late[j]<65536:=by omega
    rw[decide_eq_true this,Bool.true_and]at hlate
    exact⟨(j+1,p.late[j]),⟨by simp only;omega,hlate⟩,by simp only;omega,zac [(0,0)] rfl ⟨rfl,cr,cr,cr,cr,cr,trivial⟩ ⟨zae _,trivial⟩⟩
 ·simp only[zb]at h
  have:p.late.drop j=[]:=List.drop_eq_nil_of_le (by omega)
  rw[this]at hlate
  simp only[zjx]at hlate
  (repeat' (first|refine zh (λh=>?_) (λh=>?_)|refine zf ?_|refine zp ?_|refine zq ?_))
  all_goals refine congrArg RV.b (Eq.symm ?_)
  all_goals simp only[Par.right,hlate,Bool.true_and,zb]at*
  all_goals omega
def Node.fit(n:Node):Prop:=n.leaf.fit/\n.par.fit
def Node.right(n:Node):Bool:=
 if n.kind.toNat=0 then n.leaf.none&&n.par.none else if n.kind.toNat=1 then n.leaf.right&&n.par.none else if n.kind.toNat=2 then n.leaf.none&&n.par.right else false
def zbc(l:Leaf):List UInt8:=vecB l.box++vecB l.sign++vecB l.ident++[l.src]++(if l.src.toNat=3 then vecB l.parent else[])
def zdl(l:Leaf):List UInt8:=zbc l++vecB l.sig
def zb9(l:List Int):List UInt8:=l.flatMap λx=>beB 4 x.toNat
def parB(p:Par):List UInt8:=vecB p.box++vecB p.hash++vecB (zb9 p.late)
def zck(n:Node):List UInt8:=if n.kind.toNat=1 then 1::(zbc n.leaf++vecB n.leaf.sig)else if n.kind.toNat=2 then 2::parB n.par else[0]
theorem zbkb(n:Node)(hn:n.fit):aG 441 [.ag n.c] (.r (.b n.right)):=by
 refine aT Tryz.func441 rfl ?_
 refine zh (λh0=>zp ?_) (λh0=>zq ?_)
 ·simp only[zb]at h0
  have h0':n.kind.toNat=0:=by omega
  refine za rfl rfl (Vcall.bool (zw9 n.leaf hn.1) (λh=>za rfl rfl (ze (z1t n.par hn.2) (zf ?_))) (λh=>zf ?_))
  ·simp[Node.right,h0',h]
  ·simp[Node.right,h0',h,ofC]
 ·simp only[zb]at h0
  have h0':n.kind.toNat≠0:=by omega
  refine zh (λh1=>zp ?_) (λh1=>zq ?_)
  ·simp only[zb]at h1
   have h1':n.kind.toNat=1:=by omega
   refine za rfl rfl (Vcall.bool (zf0 n.leaf) (λh=>za rfl rfl (ze (z1t n.par hn.2) (zf ?_))) (λh=>zf ?_))
   ·simp[Node.right,h1',h]
   ·simp[Node.right,h1',h,ofC]
  ·simp only[zb]at h1
   have h1':n.kind.toNat≠1:=by omega
   refine zh (λh2=>zp ?_) (λh2=>zq ?_)
   ·simp only[zb]at h2
    have h2':n.kind.toNat=2:=by omega
    refine za rfl rfl (Vcall.bool (zw9 n.leaf hn.1) (λh=>za rfl rfl (ze (zjjb n.par hn.2) (zf ?_))) (λh=>zf ?_))
    ·simp[Node.right,h2',h]
    ·simp[Node.right,h2',h,ofC]
   ·simp only[zb]at h2
    have h2':n.kind.toNat≠2:=by omega
    refine zf ?_
    simp[Node.right,h0',h1',h2',ofC]
theorem zdh{e:TypeId}{l m:List UInt8}(h:l=m):some (Ow.ch e 1 l.length (l.map U8) true)=some (Ow.ch e 1 m.length (m.map U8) true):=by rw[h]
def zmtb(b:List UInt8)(l:Leaf):Nat->St
 |0=>{F:=[(0, .r (bs b)),(3, .own 0),(13, .own 1),(14, .r (I 3)),(15, .r (I 0))],O:=[(0,some (.box (l.c.map .r))),(1,some (.ch 22 1 3 [bs l.box,bs l.sign,bs l.ident] true))],nx:=2}
 |j+1=>{F:=[(0, .own 2),(3, .own 0),(13, .own 1),(14, .r (I 3)),(15, .r (I ((j+1:Nat):Int)))],O:=[(0,some (.box (l.c.map .r))),(1,some (.ch 22 1 3 [bs l.box,bs l.sign,bs l.ident] true)),
   (2,some (.ch 5 1 (b++([l.box,l.sign,l.ident].take (j+1)).flatMap vecB).length ((b++([l.box,l.sign,l.ident].take (j+1)).flatMap vecB).map U8) true))],nx:=3}
theorem zls(b:List UInt8)(l:Leaf)(hb:b.length<=1000000000)(hl:l.fit):aG 224 [bs b, .ag l.c] (bch (b++zbc l)):=by
 refine aT Tryz.func224 rfl ?_
 obtain⟨h1,h2,h3,h4,h5⟩:=hl
 have v1:=zag l.box
 have v2:=zag l.sign
 have v3:=zag l.ident
 refine zw ?_
 refine zy (zmtb b l) (λj=>j<=3) (λj=>3-j) 0 (by omega) (zac [(0,0),(1,1)] rfl ⟨cr,rfl,rfl,cr,cr,trivial⟩ ⟨zae _,⟨rfl,rfl,rfl,rfl,zn _⟩,trivial⟩) ?_
 intro j hj
 rcases(by omega:j=0\/j=1\/j=2\/j=3)with rfl |rfl |rfl |rfl
 ·refine zt rfl (zp ?_)
  refine zm (by decide) (by decide) rfl (zg rfl ?_)
  refine ze (zbl b l.box (by omega) (by omega)) ?_
  refine zd (m:=((1:Nat):Int)) rfl (by decide) ?_
  exact⟨1,by omega,by omega,zac [(0,0),(1,1),(2,2)] rfl ⟨rfl,rfl,rfl,cr,cr,trivial⟩ ⟨zae _,⟨rfl,rfl,rfl,rfl,zn _⟩,cvCh (by simp),trivial⟩⟩
 ·refine zt rfl (zp ?_)
  refine zm (by decide) (by decide) rfl (zg rfl ?_)
  refine ze (zbl (b++([l.box,l.sign,l.ident].take 1).flatMap vecB) l.sign (by simp;omega) (by omega)) ?_
  refine zd (m:=((2:Nat):Int)) rfl (by decide) ?_
  exact⟨2,by omega,by omega,zac [(0,0),(1,1),(2,3)] rfl ⟨rfl,rfl,rfl,cr,cr,trivial⟩ ⟨zae _,⟨rfl,rfl,rfl,rfl,zn _⟩,cvCh (by simp),trivial⟩⟩
 ·refine zt rfl (zp ?_)
  refine zm (by decide) (by decide) rfl (zg rfl ?_)
  refine ze (zbl (b++([l.box,l.sign,l.ident].take 2).flatMap vecB) l.ident (by simp;omega) (by omega)) ?_
  refine zd (m:=((3:Nat):Int)) rfl (by decide) ?_
  exact⟨3,by omega,by omega,zac [(0,0),(1,1),(2,3)] rfl ⟨rfl,rfl,rfl,cr,cr,trivial⟩ ⟨zae _,⟨rfl,rfl,rfl,rfl,zn _⟩,cvCh (by simp),trivial⟩⟩
 ·refine zu rfl (zq ?_)
  refine zw ?_
  refine Vapp.mk' (j:=(b++([l.box,l.sign,l.ident].take 3).flatMap vecB++[l.src]).length) (zs:=(b++([l.box,l.sign,l.ident].take 3).flatMap vecB++[l.src]).map U8) (by simp[maxLen];omega) (by simp;omega) (by simp;omega) (by simp[zde,cellsOf]) ?_
  refine zh (λhs=>zp ?_) (λhs=>zq ?_)
  ·simp only[zb]at hs
   have hs':l.src.toNat=3:=by omega
   refine ze (zbl (b++([l.box,l.sign,l.ident].take 3).flatMap vecB++[l.src]) l.parent (by simp;omega) (by omega)) ?_
   have e:b++([l.box,l.sign,l.ident].take 3).flatMap vecB++[l.src]++vecB l.parent=b++zbc l:=by simp[zbc,hs']
   exact zdh e
  ·simp only[zb]at hs
   have hs':l.src.toNat≠3:=by omega
   have e:b++([l.box,l.sign,l.ident].take 3).flatMap vecB++[l.src]=b++zbc l:=by simp[zbc,hs']
   exact zdh e
theorem zf2: ∀l:List Int,(zb9 l).length=4*l.length
 |[]=>rfl
 |x::r=>by
  have:=zf2 r
  simp only[zb9,List.flatMap_cons,List.length_append,List.length_cons]at*
  rw[zak,this];omega
def znjb(b:List UInt8)(p:Par):Nat->St
 |0=>{F:=[(0, .r (bs b)),(3, .own 0),(5, .r (bs [])),(9, .r (is p.late)),(10, .r (I p.late.length)),(11, .r (I ((0:Nat):Int)))],O:=[(0,some (.box (p.c.map .r)))],nx:=1}
 |j+1=>{F:=[(0, .r (bs b)),(3, .own 0),(5, .own 1),(9, .r (is p.late)),(10, .r (I p.late.length)),(11, .r (I ((j+1:Nat):Int)))],O:=[(0,some (.box (p.c.map .r))),
   (1,some (.ch 5 1 (zb9 (p.late.take (j+1))).length ((zb9 (p.late.take (j+1))).map U8) true))],nx:=2}
theorem zfw(x:Int)(h:0<=x/\x<65536):IntKind.u64.wrap x=((x.toNat:Nat):Int):=by
 unfold IntKind.wrap
 simp only[IntKind.bits,IntKind.signed]
 simp
 omega
theorem z4g(b:List UInt8)(p:Par)(hb:b.length<=1000000000)(hp:p.fit)(hr: ∀x∈p.late,0<=x/\x<65536):aG 442 [bs b, .ag p.c] (bch (b++parB p)):=by
 refine aT Tryz.func442 rfl ?_
 obtain⟨h1,h2,h3,_⟩:=hp
 have hll:=zf2 p.late
 refine zy (znjb b p) (λj=>j<=p.late.length) (λj=>p.late.length-j) 0 (by omega) (zac [(0,0)] rfl ⟨cr,rfl,Cv.nil _,cr,cr,cr,trivial⟩ ⟨zae _,trivial⟩) ?_
 have vd1:=zag p.box
 have vd2:=zag p.hash
 have hstep: ∀j (hj:j<p.late.length),zb9 (p.late.take j)++beB 4 (p.late[j].toNat)=zb9 (p.late.take (j+1)):=λj hj=>by
  rw[List.take_add_one,List.getElem?_eq_getElem hj]
  simp only[zb9,Option.toList,List.flatMap_append,List.flatMap_cons,List.flatMap_nil,List.append_nil]
 have hlen: ∀j,j<=p.late.length->(zb9 (p.late.take j)).length=4*j:=λj hj=>by rw[zf2,List.length_take];omega
 intro j hj
 rcases j with _ |j
 ·refine zh (λh=>zp ?_) (λh=>zq ?_)
  ·simp only[zb]at h
   have hj':0<p.late.length:=by omega
   refine zm (by omega) (by omega) (za3 rfl hj') (zg rfl ?_)
   refine⟨((p.late[0].toNat:Nat):Int),(zfw _ (hr _ (List.getElem_mem hj'))).symm,?_⟩
   refine ze (zet [] 4 p.late[0].toNat (by simp) (by omega)) ?_
   refine zd (m:=((0+1:Nat):Int)) (by omega) (by omega) ?_
   exact⟨0+1,hj',by omega,zac [(0,0),(1,1)] rfl ⟨cr,rfl,rfl,cr,cr,cr,trivial⟩ ⟨zae _,cvCh (hstep 0 hj'),trivial⟩⟩
  ·simp only[zb]at h
   have e:p.late=[]:=List.eq_nil_of_length_eq_zero (by omega)
   refine aV ?_
   refine ze (zbl b p.box (by omega) (by omega)) ?_
   refine ze (zbl (b++vecB p.box) p.hash (by simp;omega) (by omega)) ?_
   refine ze (zbl (b++vecB p.box++vecB p.hash) [] (by simp;omega) (by simp)) ?_
   exact zdh (by simp[parB,e,zb9])
 ·refine zh (λh=>zp ?_) (λh=>zq ?_)
  ·simp only[zb]at h
   have hj':j+1<p.late.length:=by omega
   refine zm (by omega) (by omega) (za3 rfl hj') (zg rfl ?_)
   refine⟨((p.late[j+1].toNat:Nat):Int),(zfw _ (hr _ (List.getElem_mem hj'))).symm,?_⟩
   refine ze (zet (zb9 (p.late.take (j+1))) 4 p.late[j+1].toNat (by rw[hlen _ hj];omega) (by omega)) ?_
   refine zd (m:=((j+1+1:Nat):Int)) (by omega) (by omega) ?_
   exact⟨j+1+1,hj',by omega,zac [(0,0),(1,2)] rfl ⟨cr,rfl,rfl,cr,cr,cr,trivial⟩ ⟨zae _,cvCh (hstep (j+1) hj'),trivial⟩⟩
  ·simp only[zb]at h
   have e:p.late.take (j+1)=p.late:=List.take_of_length_le (by omega)
   refine aV ?_
   refine ze (zbl b p.box (by omega) (by omega)) ?_
   refine ze (zbl (b++vecB p.box) p.hash (by simp;omega) (by omega)) ?_
   refine ze (zbl (b++vecB p.box++vecB p.hash) (zb9 (p.late.take (j+1))) (by simp;omega) (by rw[e,hll];omega)) ?_
   exact zdh (by simp[parB,e])
theorem zx8: ∀(l:List Int) (a:Int), -1<=a->zjx a l=true->∀x∈l,0<=x/\x<65536
 |[],_,_,_=>λx hx=>by cases hx
 |y::r,a,ha,h=>λx hx=>by
  simp only[zjx,Bool.and_eq_true,decide_eq_true_eq]at h
  rcases List.mem_cons.1 hx with rfl |hx
  ·omega
  ·exact zx8 r y (by omega) h.2 x hx
theorem Par.right_bd{p:Par}(h:p.right=true): ∀x∈p.late,0<=x/\x<65536:=by
 simp only[Par.right,Bool.and_eq_true]at h
 exact zx8 _ _ (by omega) h.1
theorem Cv.tu{l m:List RV}(h:Cvs l m):Cv (.tu l) (.tu m):=λw k v hv=>by
 simp only[RV.at_]at*
 obtain⟨us,e,hp⟩:=hv
 exact⟨us,e,h.at_ hp⟩
theorem zp8(n:Node)(hn:n.fit):aG 358 [.ag n.c] (.r (if n.right then .tu [bs (zck n), .i .u8 0]else .tu [bs [], .i .u8 3])):=by
 refine aT Tryz.func358 rfl ?_
 refine za rfl rfl ?_
 refine Vcall.bool (zbkb n hn) (λhr=>?_) (λhr=>?_)
 ·refine zu rfl (zq ?_)
  refine zw ?_
  obtain⟨⟨l1,l2,l3,l4,l5⟩,hpf⟩:=hn
  have w1:=zag n.leaf.box
  have w2:=zag n.leaf.sign
  have w3:=zag n.leaf.ident
  have w4:=zag n.leaf.parent
  refine zh (λh1=>zp ?_) (λh1=>zq ?_)
  ·simp only[zb]at h1
   have h1':n.kind.toNat=1:=by omega
   have hk:n.kind=1:=UInt8.toNat_inj.1 h1'
   refine aV ?_
   refine za rfl rfl ?_
   refine ze (zls [n.kind] n.leaf (by simp) ⟨l1,l2,l3,l4,l5⟩) ?_
   have hlen:([n.kind]++zbc n.leaf).length<=1000000000000:=by
    simp only[zbc,List.length_append,List.length_cons,List.length_nil]
    split<;>simp<;>omega
   refine ze (zbl ([n.kind]++zbc n.leaf) n.leaf.sig hlen (by omega)) ?_
   refine⟨_,rfl,zf ?_⟩
   rw[if_pos hr,zck,if_pos h1',hk]
   rfl
  ·simp only[zb]at h1
   have h1':n.kind.toNat≠1:=by omega
   refine zh (λh2=>zp ?_) (λh2=>zq ?_)
   ·simp only[zb]at h2
    have h2':n.kind.toNat=2:=by omega
    have hk:n.kind=2:=UInt8.toNat_inj.1 h2'
    have hb: ∀x∈n.par.late,0<=x/\x<65536:=by
     have:n.par.right=true:=by
      have:=hr
      simp[Node.right,h2']at this
      exact this.2
     exact Par.right_bd this
    refine za rfl rfl ?_
    refine ze (z4g [n.kind] n.par (by simp) hpf hb) ?_
    refine⟨_,rfl,zf ?_⟩
    rw[if_pos hr,zck,if_neg h1',if_pos h2',hk]
    rfl
   ·simp only[zb]at h2
    have h2':n.kind.toNat≠2:=by omega
    have h0:n.kind.toNat=0:=by
     have:=hr
     simp only[Node.right,if_neg h1',if_neg h2']at this
     split at this
     ·assumption
     ·cases this
    have hk:n.kind=0:=UInt8.toNat_inj.1 h0
    refine⟨_,rfl,zf ?_⟩
    rw[if_pos hr,zck,if_neg h1',if_neg h2',hk]
    rfl
 ·refine zt rfl (zp ?_)
  refine⟨_,rfl,?_⟩
  rw[hr]
  exact Cv.tu (zk (Cv.nil 1) (zn _))
theorem z7c(l:Leaf)(hl:l.fit):aG 352 [.ag l.c] (bch (zbc l)):=by
 refine aT Tryz.func352 rfl ?_
 obtain⟨l1,l2,l3,l4,l5⟩:=hl
 have w1:=zag l.box
 have w2:=zag l.sign
 have w3:=zag l.ident
 have w4:=zag l.parent
 refine aV ?_
 refine ze (zce l.box (by omega)) ?_
 refine ze (zce l.sign (by omega)) ?_
 refine ze (zcj (vecB l.box) (vecB l.sign) (by omega) (by omega)) ?_
 refine ze (zce l.ident (by omega)) ?_
 refine zw ?_
 refine ze (zcj (vecB l.ident) [l.src] (by omega) (by simp)) ?_
 refine ze (zcj (vecB l.box++vecB l.sign) (vecB l.ident++[l.src]) (by simp;omega) (by simp;omega)) ?_
 refine zh (λh=>zp ?_) (λh=>zq ?_)
 ·simp only[zb]at h
  have h':l.src.toNat=3:=by omega
  refine ze (zce l.parent (by omega)) ?_
  refine ze (zcj (vecB l.box++vecB l.sign++(vecB l.ident++[l.src])) (vecB l.parent) (by simp;omega) (by omega)) ?_
  exact zdh (by simp[zbc,h'])
 ·simp only[zb]at h
  have h':l.src.toNat≠3:=by omega
  exact zdh (by simp[zbc,h'])
theorem zmw(l:Leaf)(hl:l.fit):(zbc l).length<=5000000000:=by
 obtain⟨l1,l2,l3,l4,l5⟩:=hl
 have w1:=zag l.box
 have w2:=zag l.sign
 have w3:=zag l.ident
 have w4:=zag l.parent
 simp only[zbc,List.length_append,List.length_cons,List.length_nil]
 split<;>simp<;>omega
theorem zvj(l:Leaf)(hl:l.fit):aG 251 [.ag l.c] (bch (zbc l++vecB l.sig)):=by
 refine aT Tryz.func251 rfl ?_
 have w:=zag l.sig
 have w2:=zmw l hl
 obtain⟨_,_,_,_,l5⟩:=id hl
 refine aV ?_
 refine za rfl rfl ?_
 refine ze (z7c l hl) ?_
 refine ze (zce l.sig (by omega)) ?_
 refine ze (zcj (zbc l) (vecB l.sig) (by omega) (by omega)) ?_
 rfl
end Go.Proofs.YtkegaaonpekkgaaGreat.Sx
