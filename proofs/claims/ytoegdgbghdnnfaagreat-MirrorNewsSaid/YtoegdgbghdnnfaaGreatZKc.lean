import Derived.Test.YtoegdgbghdnnfaaGreatZOnes
import Derived.Test.YtoegdgbghdnnfaaGreatZBytes
namespace Go.Proofs.YtoegdgbghdnnfaaGreat.Sx
open Go.RowKit
def och(l:List UInt8):Res:= .own 5 1 l.length (l.map U8)
theorem zlq{ρ:List (Nat×Nat)}{S:St}{e:TypeId}{b:Bool}{l m:List UInt8}(h:l=m):cvOw ρ S (.ch e 1 l.length (l.map U8) b) (.ch e 1 m.length (m.map U8) b):=by
 subst h;exact⟨rfl,rfl,rfl,rfl,zn _⟩
theorem zu0(l:List UInt8)(hl:l.length<=140737488355328):bG 131 [bs l] (och l):=by
 refine zar (T:=Tab) mixed Tab_ok Tryz.func131 rfl (by kernel_rfl) ?_
 refine Vstep.nilSl rfl rfl rfl Tryz.underlying22 (λh0=>zq ?_) (zt ?_)
 ·obtain rfl:=List.eq_nil_of_length_eq_zero h0
  exact⟨_,zjc 2 5 1 rfl,rfl⟩
 ·refine Vpub.own ?_
  refine Vapp.mk' (j:=l.length) (zs:=l.map U8) (by simp only[maxLen];omega) (by show(0+l.length)*1<=_;omega) (by omega) rfl ?_
  exact⟨_,zo _,rfl⟩
theorem z55(l:List UInt8)(hl:l.length<=140737488355328):bG 30 [bs l] (och l):=by
 refine zar (T:=Tab) mixed Tab_ok Tryz.func30 rfl (by kernel_rfl) ?_
 refine Vstep.nilSl rfl rfl rfl Tryz.underlying22 (λh0=>zq ?_) (zt ?_)
 ·obtain rfl:=List.eq_nil_of_length_eq_zero h0
  exact⟨_,zjc 2 5 1 rfl,rfl⟩
 ·refine Vpub.own ?_
  refine Vapp.mk' (j:=l.length) (zs:=l.map U8) (by simp only[maxLen];omega) (by show(0+l.length)*1<=_;omega) (by omega) rfl ?_
  exact⟨_,zo _,rfl⟩
theorem z6f(l:List Int)(hl:l.length<=17592186044416):bG 97 [is l] (.own 3 1 l.length (l.map I)):=by
 refine zar (T:=Tab) mixed Tab_ok Tryz.func97 rfl (by kernel_rfl) ?_
 refine Vstep.nilSl rfl rfl rfl Tryz.underlying57 (λh0=>zq ?_) (zt ?_)
 ·obtain rfl:=List.eq_nil_of_length_eq_zero h0
  exact⟨_,zjc 2 3 1 rfl,rfl⟩
 ·refine Vpub.own ?_
  refine Vapp.mk' (j:=l.length) (zs:=l.map I) (by simp only[maxLen];omega) (by show(0+l.length)*8<=_;omega) (by omega) rfl ?_
  exact⟨_,zo _,rfl⟩
theorem zxo(l:List UInt8)(hl:l.length<=140737488355328):bG 131 [bs l] (bch l):=zik (zu0 l hl)
theorem zcj(l:List UInt8)(hl:l.length<=140737488355328):bG 30 [bs l] (bch l):=zik (z55 l hl)
theorem z9v(l:List Int)(hl:l.length<=17592186044416):bG 97 [is l] (ich l):=zik (z6f l hl)
theorem zi0b(n:Int)(hn:n=1\/n=2\/n=4\/n=8):bG 132 [I n] (.r (.b true)):=by
 refine bT Tryz.func132 rfl ?_
 rcases hn with rfl |rfl |rfl |rfl
 ·refine zu rfl ?_
  exact cr
 ·refine zw rfl (zu rfl ?_)
  exact cr
 ·refine zw rfl (zw rfl (zu rfl ?_))
  exact cr
 ·refine zw rfl (zw rfl (zw rfl (zu rfl ?_)))
  exact cr
theorem zqk{s n i:Nat}(hi:i<s):(beB s n).take (i+1)=(beB s n).take i++[UInt8.ofNat (n/256^(s-1-i))]:=by
 have: ∀(s i:Nat),i<s->(beB s n)[i]?=some (UInt8.ofNat (n/256^(s-1-i))):=by
  intro s
  induction s with
  |zero=>intro i h;omega
  |succ s ih=>
   intro i h
   cases i with
   |zero=>simp[beB]
   |succ i=>
    rw[beB,List.getElem?_cons_succ,ih i (by omega)]
    rw[show s+1-1-(i+1)=s-1-i by omega]
 rw[List.take_add_one,this s i hi];rfl
theorem znk(l:List UInt8)(size m:Nat)(hl:l.length<=1000000000000)(hs:size=1\/size=2\/size=4\/size=8):bG 77 [bs l,I size, .i .u64 m] (och (l++beB size m)):=by
 refine bT Tryz.func77 rfl ?_
 have hlen: ∀j,(l++(beB size m).take j).length<=l.length+8:=λj=>by rw[bL,List.length_take,zao];omega
 refine ze (zu0 l (by omega)) ?_
 refine ze (zi0b size (by omega)) ?_
 refine zw rfl (zt ?_)
 refine zd rfl (by omega) ?_
 refine Vloop.mk' (λj:Nat=>{F:=[(0, .own 0),(2, .r (.i .u64 m)),(7, .r (I ((size:Int)-1-j)))],O:=[(0,some (.ch 5 1 (l++(beB size m).take j).length ((l++(beB size m).take j).map U8) false))],nx:=1}) (λj=>j<=size) (λj=>size-j) 0 (by omega)
  (zac [(0,0)] rfl ⟨rfl,cr,zf (congrArg I (by simp)),trivial⟩ ⟨zlq (by simp),trivial⟩) ?_
 intro j hj
 have hlj:=hlen j
 refine zh (λh=>zq ?_) (λh=>zt ?_)
 ·simp only[zb]at h
  have hj':j<size:=by omega
  have ht:=zqk (n:=m) hj'
  refine zd (m:=((8*(size-1-j):Nat):Int)) (by omega) (by omega) ?_
  refine Vshr.nat (.inl rfl) m (8*(size-1-j)) (m/256^(size-1-j)) rfl rfl (by omega) (by rw[z8k]) ?_
  refine Vint.u8 (m/256^(size-1-j)) rfl ?_
  refine zy ?_
  refine Vapp.mk' (j:=(l++(beB size m).take (j+1)).length) (zs:=(l++(beB size m).take (j+1)).map U8) (by simp only[maxLen];omega) (by show((l++(beB size m).take j).length+1)*1<=_;omega) (by rw[ht];simp only[bL,List.length_cons,List.length_nil];omega)
   (by rw[ht,<-List.append_assoc];exact(List.map_append (f:=U8) (l₁:=l++(beB size m).take j) (l₂:=[UInt8.ofNat (m/256^(size-1-j))])).symm) ?_
  refine zd (m:=(size:Int)-1-((j+1:Nat):Int)) (by omega) (by omega) ?_
  exact⟨j+1,by omega,by omega,zac [(0,_)] rfl ⟨rfl,cr,cr,trivial⟩ ⟨zlq rfl,trivial⟩⟩
 ·simp only[zb]at h
  obtain rfl:j=size:=by omega
  rw[List.take_of_length_le (by rw[zao];omega)]
  exact rfl
theorem zeu(l:List UInt8)(size m:Nat)(hl:l.length<=1000000000000)(hs:size=1\/size=2\/size=4\/size=8):bG 77 [bs l,I size, .i .u64 m] (bch (l++beB size m)):=zik (znk l size m hl hs)
theorem z6g(n:Nat)(hn:n<=1073741823):bG 177 [I n] (.r (I (zh8 n))):=by
 refine bT Tryz.func177 rfl ?_
 unfold zh8
 (repeat' (first|refine zh (λh=>?_) (λh=>?_)|refine zf ?_|refine zq ?_|refine zt ?_))
 all_goals simp only[zb]at*
 all_goals first|omega|(refine congrArg I ?_;split<;>(try split)<;>omega)
theorem z93(l:List UInt8)(n:Nat)(hl:l.length<=1000000000000)(hn:n<=1073741823):bG 126 [bs l,I n] (bch (l++lenB n)):=by
 refine bT Tryz.func126 rfl ?_
 refine ze (z6g n hn) ?_
 obtain⟨s,k,v,h1,h2,h3,h4,h5⟩: ∃s k v,zh8 n=s/\lenB n=beB s v/\(s=1\/s=2\/s=4)/\k=s/2/\(k*2^(8*s-2)|||n)=v:=by
  unfold zh8 lenB
  split
  ·exact⟨1,0,n,rfl,rfl,by omega,rfl,by simp⟩
  ·split
   ·exact⟨2,1,16384+n,rfl,rfl,by omega,rfl,nat_join 14 (1*2^14) n (by decide) (by omega)⟩
   ·exact⟨4,2,2147483648+n,rfl,rfl,by omega,rfl,nat_join 30 (2*2^30) n (by decide) (by omega)⟩
 rw[h1,h2]
 have hk:k*2^(8*s-2)<=2147483648:=by
  rcases h3 with rfl |rfl |rfl<;>subst h4<;>decide
 have hv:v<9223372036854775808:=by rw[<-h5];exact Nat.or_lt_two_pow (n:=63) (by omega) (by omega)
 refine zw (by simp only[zb];omega) (zt ?_)
 refine⟨by decide,(k:Int),by rw[Int.tdiv_eq_ediv_of_nonneg (by omega)];exact(by omega:(k:Int)=(s:Int)/2).trans (wrap_i64 (by omega)),?_⟩
 refine Vint.nat (.inl rfl) k rfl (by omega) ?_
 refine zd (m:=((8*s:Nat):Int)) (by omega) (by omega) ?_
 refine zd (m:=((8*s-2:Nat):Int)) (by omega) (by omega) ?_
 refine Vshl.nat (.inl rfl) k (8*s-2) _ rfl rfl (by omega) rfl (by omega) ?_
 refine Vint.nat (.inl rfl) n rfl (by omega) ?_
 refine Vbits.nat (.inl rfl) (k*2^(8*s-2)) n v rfl rfl (by omega) (by omega) hv h5 ?_
 exact ze (zeu l s v hl (by omega)) rfl
theorem zbv(l m:List UInt8)(hl:l.length<=1000000000000)(hm:m.length<=1073741823):bG 74 [bs l,bs m] (bch (l++vecB m)):=by
 refine bT Tryz.func74 rfl ?_
 have hv:=zal m
 have hb:(l++lenB m.length).length<=l.length+4:=by rw[bL,zqy];have:=zjz m.length;omega
 have e:l++vecB m=l++lenB m.length++m:=by rw[vecB,List.append_assoc]
 refine ze (z93 l m.length hl hm) ?_
 refine Vapp.mk' (j:=(l++vecB m).length) (zs:=(l++vecB m).map U8) (by simp only[maxLen];omega) (by show((l++lenB m.length).length+m.length)*1<=_;omega) (by rw[e,bL (bs:=m)]) (by rw[e,List.map_append (l₂:=m)]) ?_
 exact rfl
theorem zdjb(n:Nat)(hn:n<=1073741823):bG 100 [I n] (bch (lenB n)):=by
 refine bT Tryz.func100 rfl ?_
 have tq: ∀d:Int,0<d->((n:Int).tdiv d)=(n:Int)/d:=λd _=>Int.tdiv_eq_ediv_of_nonneg (by omega)
 have tr: ∀a d:Nat,((a:Int).tmod d)=((a%d:Nat):Int):=λa d=>by rw[Int.tmod_eq_emod_of_nonneg (by omega)];rfl
 refine zh (λh=>zq ?_) (λh=>zt ?_)
 ·simp only[zb]at h
  have e:lenB n=[UInt8.ofNat n]:=by unfold lenB;rw[if_pos (by omega)];simp[beB]
  refine Vint.u8 n rfl ?_
  rw[e]
  exact zy rfl
 simp only[zb]at h
 refine zh (λh2=>zq ?_) (λh2=>zt ?_)
 ·simp only[zb]at h2
  have e:lenB n=[UInt8.ofNat (64+n/256),UInt8.ofNat (n%256)]:=by
   unfold lenB;rw[if_neg (by omega),if_pos (by omega)]
   simp only[beB,List.cons.injEq,and_true,Nat.pow_zero,Nat.div_one]
   exact⟨congrArg UInt8.ofNat (by omega),by apply UInt8.toNat_inj.1;first|(simp;done)|(simp;omega)⟩
  refine⟨by decide,((n/256:Nat):Int),by rw[tq 256 (by decide)];exact(by omega:((n/256:Nat):Int)=(n:Int)/256).trans (wrap_i64 (by omega)),?_⟩
  refine zd (m:=((64+n/256:Nat):Int)) (by omega) (by omega) ?_
  refine Vint.u8 (64+n/256) rfl ?_
  refine⟨by decide,_,(tr n 256).symm,?_⟩
  refine Vint.u8 (n%256) rfl ?_
  rw[e]
  exact zy rfl
 ·simp only[zb]at h2
  have e:lenB n=[UInt8.ofNat (128+n/16777216),UInt8.ofNat (n/65536%256),UInt8.ofNat (n/256%256),UInt8.ofNat (n%256)]:=by
   unfold lenB;rw[if_neg (by omega),if_neg (by omega)]
   simp only[beB,List.cons.injEq,and_true,Nat.pow_zero,Nat.div_one]
   refine⟨congrArg UInt8.ofNat (by omega),?_,?_,?_⟩<;>(apply UInt8.toNat_inj.1;first|(simp;done)|(simp;omega))
  refine⟨by decide,((n/16777216:Nat):Int),by rw[tq 16777216 (by decide)];exact(by omega:((n/16777216:Nat):Int)=(n:Int)/16777216).trans (wrap_i64 (by omega)),?_⟩
  refine zd (m:=((128+n/16777216:Nat):Int)) (by omega) (by omega) ?_
  refine Vint.u8 (128+n/16777216) rfl ?_
  refine⟨by decide,((n/65536:Nat):Int),by rw[tq 65536 (by decide)];exact(by omega:((n/65536:Nat):Int)=(n:Int)/65536).trans (wrap_i64 (by omega)),?_⟩
  refine⟨by decide,_,(tr (n/65536) 256).symm,?_⟩
  refine Vint.u8 (n/65536%256) rfl ?_
  refine⟨by decide,((n/256:Nat):Int),by rw[tq 256 (by decide)];exact(by omega:((n/256:Nat):Int)=(n:Int)/256).trans (wrap_i64 (by omega)),?_⟩
  refine⟨by decide,_,(tr (n/256) 256).symm,?_⟩
  refine Vint.u8 (n/256%256) rfl ?_
  refine⟨by decide,_,(tr n 256).symm,?_⟩
  refine Vint.u8 (n%256) rfl ?_
  rw[e]
  exact zy rfl
theorem zdm(m:List UInt8)(hm:m.length<=1073741823):bG 59 [bs m] (bch (vecB m)):=by
 refine bT Tryz.func59 rfl ?_
 have hb:(lenB m.length).length<=4:=by rw[zqy];have:=zjz m.length;omega
 refine ze (zdjb m.length hm) ?_
 refine Vapp.mk' (j:=(vecB m).length) (zs:=(vecB m).map U8) (by simp only[maxLen];omega) (by show((lenB m.length).length+m.length)*1<=_;omega) (by rw[vecB,bL]) (by rw[vecB,List.map_append]) ?_
 exact rfl
theorem zk3(size m:Nat)(hs:size<=8)(hm:m<18446744073709551616):bG 62 [I size, .i .u64 m] (bch (beB size m)):=by
 refine bT Tryz.func62 rfl ?_
 refine Vloop.mk' (λj:Nat=>{F:=[(0, .r (I size)),(1, .r (.i .u64 ((m/256^j:Nat):Int))),(5, .own 0),(6, .r (I j))],O:=[(0,some (.ch 5 1 (beB j m).length ((beB j m).map U8) true))],nx:=1}) (λj=>j<=size) (λj=>size-j) 0 (by omega)
  ((zb7 5 5 1 rfl).trans (zac [(0,0)] rfl ⟨cr,zf (by simp),rfl,cr,trivial⟩ ⟨⟨rfl,rfl,rfl,rfl,zn _⟩,trivial⟩)) ?_
 intro j hj
 have hbl:=zao j m
 have hd:m/256^j<18446744073709551616:=Nat.lt_of_le_of_lt (Nat.div_le_self _ _) hm
 refine zh (λh=>zq ?_) (λh=>zt ?_)
 ·simp only[zb]at h
  refine Vrem.nat (m/256^j) 256 rfl rfl (by decide) ?_
  refine Vint.u8 (m/256^j%256) rfl ?_
  refine zy ?_
  refine Vapp.mk' (j:=(beB (j+1) m).length) (zs:=(beB (j+1) m).map U8) (by simp only[maxLen];omega) (by show(1+(beB j m).length)*1<=_;omega) (by rw[zao,zao];omega) (by rw[beB,zor];rfl) ?_
  refine Vquo.nat (m/256^j) 256 rfl rfl (by decide) hd ?_
  refine zd (m:=((j+1:Nat):Int)) (by omega) (by omega) ?_
  exact⟨j+1,by omega,by omega,zac [(0,_)] rfl ⟨cr,zf (by rw[Nat.pow_succ,Nat.div_div_eq_div_mul]),rfl,cr,trivial⟩ ⟨zlq rfl,trivial⟩⟩
 ·simp only[zb]at h
  obtain rfl:j=size:=by omega
  exact rfl
theorem zhn(l m:List UInt8):bG 10 [bs l,bs m] (.r (.b (decide (l=m)))):=by
 refine znn (zfe Tryz.func10 rfl (by kernel_rfl)) λhml=>?_
 refine bT Tryz.func10 rfl ?_
 refine zh (λh=>zq ?_) (λh=>zt ?_)
 ·simp only[zb]at h
  exact zf (congrArg RV.b (Eq.symm (decide_eq_false λe=>h (by rw[e]))))
 simp only[zb]at h
 refine Vloop.mk' (λi:Nat=>⟨[(0, .r (bs l)),(1, .r (bs m)),(5, .r (I i))],[],0⟩) (λi=>i<=l.length/\l.take i=m.take i) (λi=>l.length-i) 0 ⟨by omega,by simp⟩ (zac [] rfl ⟨cr,cr,cr,trivial⟩ trivial) ?_
 rintro i ⟨hi,he⟩
 refine zh (λh3=>zq ?_) (λh3=>zt ?_)
 ·simp only[zb]at h3
  have h1:i<l.length:=by omega
  have h2:i<m.length:=by omega
  refine bV ?_
  refine zm (by omega) (by omega) (zaj rfl h1) (zg rfl ?_)
  refine zm (by omega) (by omega) (zaj rfl h2) (zg rfl ?_)
  refine zh (λh4=>zq ?_) (λh4=>zt ?_)
  ·simp only[zb,Int.natCast_inj,UInt8.toNat_inj]at h4
   refine zf (congrArg RV.b (Eq.symm (decide_eq_false λe=>?_)))
   subst e;exact h4 rfl
  ·simp only[zb,Int.natCast_inj,UInt8.toNat_inj]at h4
   refine zd (m:=((i+1:Nat):Int)) (by omega) (by omega) ?_
   refine⟨i+1,⟨h1,?_⟩,by omega,zac [] rfl ⟨cr,cr,cr,trivial⟩ trivial⟩
   rw[List.take_succ_eq_append_getElem h1,List.take_succ_eq_append_getElem h2,he,h4]
 ·simp only[zb]at h3
  refine zf (congrArg RV.b (Eq.symm ?_))
  rw[decide_eq_true_eq,<-List.take_of_length_le (show l.length<=i by omega),he,List.take_of_length_le (by omega)]
theorem zcz(l m:List UInt8)(hl:l.length<=1000000000000)(hm:m.length<=1000000000000):bG 98 [bs l,bs m] (bch (l++m)):=by
 refine bT Tryz.func98 rfl ?_
 refine zy ?_
 refine Vapp.mk' (j:=l.length) (zs:=l.map U8) (by simp only[maxLen];omega) (by show(0+l.length)*1<=_;omega) (by omega) rfl ?_
 refine Vapp.mk' (j:=(l++m).length) (zs:=(l++m).map U8) (by simp only[maxLen];omega) (by show(l.length+m.length)*1<=_;omega) (by simp) (by simp) ?_
 exact rfl
theorem zfv(l m:List UInt8)(hl:l.length<=1000000000000)(hm:m.length<=1000000000000):bG 61 [bs l,bs m] (bch (l++m)):=by
 refine bT Tryz.func61 rfl ?_
 refine zy ?_
 refine Vapp.mk' (j:=l.length) (zs:=l.map U8) (by simp only[maxLen];omega) (by show(0+l.length)*1<=_;omega) (by omega) rfl ?_
 refine Vapp.mk' (j:=(l++m).length) (zs:=(l++m).map U8) (by simp only[maxLen];omega) (by show(l.length+m.length)*1<=_;omega) (by simp) (by simp) ?_
 exact rfl
theorem zxb(x n:Int){j:Nat}(hj:j+2<=(zbj x n).length):(zc1 x n)[j]?=((zbj x n)[(zbj x n).length-2-j]?).map (·.at_):=by
 rw[<-zuu,List.getElem?_map,List.getElem?_reverse (by simp;omega)]
 simp only[List.length_dropLast]
 rw[List.getElem?_dropLast,if_pos (by omega),show(zbj x n).length-1-1-j=(zbj x n).length-2-j by omega]
theorem zwa(x n:Int):(zc1 x n).length=(zbj x n).length-1:=by rw[<-zuu];simp
theorem ztm(x n:Int){j:Nat}(hj:j+1< (zbj x n).length):(zb6 x n)[j]?=((zbj x n)[(zbj x n).length-1-j]?).map (λt=>sibI t.at_ n):=by
 rw[<-zp2,List.getElem?_map,List.getElem?_reverse (by simp;omega)]
 simp only[List.length_tail]
 rw[List.getElem?_tail,show(zbj x n).length-1-1-j+1=(zbj x n).length-1-j by omega]
theorem zro(x n:Int):(zb6 x n).length=(zbj x n).length-1:=by rw[<-zp2];simp
theorem zlv(x n:Int):bG 103 [I x,I n] (.r (is (zc1 x n))):=by
 refine bT Tryz.func103 rfl ?_
 refine ze (zry x n) ?_
 have hpl:=zwa x n
 have hat:=λj=>zxb x n (j:=j)
 have hdl:=zj6 x n
 generalize zc1 x n=p at*
 generalize zbj x n=l at*
 refine zd (m:=(l.length:Int)-2) rfl (by omega) ?_
 refine Vloop.mk' (λj:Nat=>{F:=[(5, .r (ds l)),(6, .own 0),(7, .r (I ((l.length:Int)-2-j)))],O:=[(0,some (.ch 3 1 (p.take j).length ((p.take j).map I) true))],nx:=1}) (λj=>j<=p.length) (λj=>p.length-j) 0 (by omega)
  ((zb7 6 3 1 rfl).trans (zac [(0,0)] rfl ⟨cr,rfl,zf (congrArg I (by simp)),trivial⟩ ⟨⟨rfl,rfl,rfl,rfl,zn _⟩,trivial⟩)) ?_
 rintro j hj
 refine zh (λh=>zq ?_) (λh=>zt ?_)
 ·simp only[zb]at h
  have hj':j<p.length:=by omega
  refine zm (by omega) (by omega) (zwo (j:=l.length-2-j) (by omega) (by omega)) (zg rfl ?_)
  have e:p[j]?=some (l[l.length-2-j]'(by omega)).at_:=by rw[hat j (by omega),List.getElem?_eq_getElem (by omega)];rfl
  have et:p.take (j+1)=p.take j++[(l[l.length-2-j]'(by omega)).at_]:=by rw[List.take_add_one,e];rfl
  have hlen:(p.take (j+1)).length=(p.take j).length+1:=by simp;omega
  have hlb:(p.take j).length<=17:=by simp;omega
  refine zy ?_
  refine Vapp.mk' (j:=(p.take (j+1)).length) (zs:=(p.take (j+1)).map I) (by simp only[maxLen];show(p.take j).length+1<=_;omega) (by show((p.take j).length+1)*8<=_;omega) hlen.symm (by rw[et];simp[zbl,cellsOf]) ?_
  refine zd rfl (by omega) ?_
  exact⟨j+1,by omega,by omega,zac [(0,_)] rfl ⟨cr,rfl,zf (congrArg I (by omega)),trivial⟩ ⟨zau rfl,trivial⟩⟩
 ·simp only[zb]at h
  have e:j=p.length:=by omega
  subst e
  rw[List.take_length]
  exact cr
theorem z3j(x n:Int):bG 213 [I x,I n] (.r (I (parI x n))):=by
 refine bT Tryz.func213 rfl ?_
 refine ze (zry x n) ?_
 have hp:=zblb x n
 have hdl:=zj6 x n
 generalize zbj x n=l at*
 refine zh (λh=>zq ?_) (λh=>zt ?_)
 ·simp only[zb]at h
  rw[if_pos (by omega)]at hp
  exact zf (congrArg I hp)
 ·simp only[zb]at h
  rw[if_neg (by omega),List.getElem?_eq_getElem (by omega)]at hp
  refine zd (m:=(l.length:Int)-2) rfl (by omega) ?_
  refine zm (by omega) (by omega) (zwo (j:=l.length-2) (by omega) (by omega)) (zg rfl ?_)
  exact zf (congrArg I hp)
theorem zz9(x n:Int):bG 152 [I x,I n] (.r (I (sibI x n))):=by
 refine bT Tryz.func152 rfl ?_
 have hs:=zol x n
 refine ze (z3j x n) ?_
 refine zh (λh=>zq ?_) (λh=>zt ?_)
 ·simp only[zb]at h
  rw[if_pos h]at hs
  exact zf (congrArg I hs)
 simp only[zb]at h
 rw[if_neg h]at hs
 refine ze (ze4 _) ?_
 refine zh (λh2=>zq ?_) (λh2=>zt ?_)
 ·simp only[zb]at h2
  rw[if_pos h2]at hs
  exact zf (congrArg I hs)
 ·simp only[zb]at h2
  rw[if_neg h2]at hs
  exact zf (congrArg I hs)
theorem zrx(x n:Int):bG 104 [I x,I n] (.r (is (zb6 x n))):=by
 refine bT Tryz.func104 rfl ?_
 refine ze (zry x n) ?_
 have hpl:=zro x n
 have hat:=λj=>ztm x n (j:=j)
 have hdl:=zj6 x n
 generalize zb6 x n=p at*
 generalize zbj x n=l at*
 refine zd (m:=(l.length:Int)-1) rfl (by omega) ?_
 refine Vloop.mk' (λj:Nat=>{F:=[(1, .r (I n)),(5, .r (ds l)),(6, .own 0),(7, .r (I ((l.length:Int)-1-j)))],O:=[(0,some (.ch 3 1 (p.take j).length ((p.take j).map I) true))],nx:=1}) (λj=>j<=p.length) (λj=>p.length-j) 0 (by omega)
  ((zb7 6 3 1 rfl).trans (zac [(0,0)] rfl ⟨cr,cr,rfl,zf (congrArg I (by simp)),trivial⟩ ⟨⟨rfl,rfl,rfl,rfl,zn _⟩,trivial⟩)) ?_
 rintro j hj
 refine zh (λh=>zq ?_) (λh=>zt ?_)
 ·simp only[zb]at h
  have hj':j<p.length:=by omega
  refine zm (by omega) (by omega) (zwo (j:=l.length-1-j) (by omega) (by omega)) (zg rfl ?_)
  refine ze (zz9 _ n) ?_
  have e:p[j]?=some (sibI (l[l.length-1-j]'(by omega)).at_ n):=by rw[hat j (by omega),List.getElem?_eq_getElem (by omega)];rfl
  have et:p.take (j+1)=p.take j++[sibI (l[l.length-1-j]'(by omega)).at_ n]:=by rw[List.take_add_one,e];rfl
  have hlen:(p.take (j+1)).length=(p.take j).length+1:=by simp;omega
  have hlb:(p.take j).length<=17:=by simp;omega
  refine zy ?_
  refine Vapp.mk' (j:=(p.take (j+1)).length) (zs:=(p.take (j+1)).map I) (by simp only[maxLen];show(p.take j).length+1<=_;omega) (by show((p.take j).length+1)*8<=_;omega) hlen.symm (by rw[et];simp[zbl,cellsOf]) ?_
  refine zd rfl (by omega) ?_
  exact⟨j+1,by omega,by omega,zac [(0,_)] rfl ⟨cr,cr,rfl,zf (congrArg I (by omega)),trivial⟩ ⟨zau rfl,trivial⟩⟩
 ·simp only[zb]at h
  have e:j=p.length:=by omega
  subst e
  rw[List.take_length]
  exact cr
theorem z5a{x y:Int}(hx:ofI x 65536=true)(hy:ofI y 65536=true):za2 x y=(decide ((zcs y 65536).lo<=x)&&decide (x<=(zcs y 65536).hi)):=by
 obtain⟨d,h,k,hd,hh,hk,_,e,hl⟩:=zjy hy
 rw[hl,e]
 exact zs5 hd hh hk (by rw[zme];exact hx)
theorem z5b{x y:Int}(h:ofI x 65536=false\/ofI y 65536=false):za2 x y=false:=by
 rcases h with h |h<;>simp[za2,zme,h]
theorem za7b{x n:Int}(ho:ofI x n=true):(zcs x n).at_=x:=by
 obtain⟨d,h,k,hd,hh,hk,_,e,hl⟩:=zjy ho
 rw[hl,e];rfl
theorem zij(x y:Int):bG 23 [I x,I y] (.r (.b (za2 x y))):=by
 refine bT Tryz.func23 rfl ?_
 refine ze (zqs x 65536) ?_
 refine ze (zqs y 65536) ?_
 have h1:=λhx hy=>z5a (x:=x) (y:=y) hx hy
 have h2:=z5b (x:=x) (y:=y)
 have h3:=za7b (x:=x) (n:=65536)
 generalize za2 x y=u at*
 generalize zcs y 65536=b at*
 generalize zcs x 65536=a at*
 cases hx:ofI x 65536 with
 |false=>
  rw[h2 (.inl hx)]
  exact cr
 |true=>
  cases hy:ofI y 65536 with
  |false=>
   rw[h2 (.inr hy)]
   exact cr
  |true=>
   rw[h1 hx hy]
   have ea:=h3 hx
   refine zh (λh=>?_) (λh=>?_)
   ·simp only[zb]at h
    exact Vcmp.mk' rfl (zf (congrArg RV.b (by rw[decide_eq_true (by omega:b.lo<=x),<-ea];rfl)))
   ·simp only[zb]at h
    exact zf (congrArg RV.b (by rw[decide_eq_false (by omega: ¬b.lo<=x)];rfl))
def Leaf.right(l:Leaf):Bool:=decide (l.box.length=32/\l.sign.length=32/\0<l.ident.length/\l.ident.length<=64/\0<l.src.toNat/\l.src.toNat<4/\(l.parent.length=0\/l.src.toNat=3/\l.parent.length=32)/\l.sig.length=64)
theorem z6m(l:Leaf):bG 51 [.ag l.c] (.r (.b l.right)):=by
 refine bT Tryz.func51 rfl ?_
 (repeat' (first|refine zh (λh=>?_) (λh=>?_)|refine zf ?_|refine zq ?_|refine zt ?_))
 all_goals refine congrArg RV.b (Eq.symm ?_)
 all_goals simp only[Leaf.right,zb]at*
 all_goals omega
theorem z3m(a b:Leaf):bG 87 [.ag a.c, .ag b.c] (.r (.b (decide (a=b)))):=by
 refine bT Tryz.func87 rfl ?_
 obtain⟨a1,a2,a3,a4,a5,a6⟩:=a
 obtain⟨b1,b2,b3,b4,b5,b6⟩:=b
 repeat' (first|refine Vcall.bool (zhn _ _) (λh=>?_) (λh=>?_)|refine zh (λh=>?_) (λh=>?_)|refine zf ?_)
 all_goals simp only[zb,Int.natCast_inj,UInt8.toNat_inj]at*
 all_goals simp_all [ofC]
theorem zxn(a b:Node)(ha: ∀x∈a.par.late,i64 x)(hb: ∀x∈b.par.late,i64 x):bG 50 [.ag a.c, .ag b.c] (.r (.b (decide (a=b)))):=by
 refine bT Tryz.func50 rfl ?_
 obtain⟨a1,a2,a3⟩:=a
 obtain⟨b1,b2,b3⟩:=b
 refine zh (λh1=>?_) (λh1=>?_)
 ·refine za rfl rfl ?_
  refine za rfl rfl ?_
  refine Vcall.bool (z3m a2 b2) (λh2=>?_) (λh2=>?_)
  ·refine Vcall.bool (zhn _ _) (λh3=>?_) (λh3=>?_)
   ·refine Vcall.bool (zhn _ _) (λh4=>?_) (λh4=>?_)
    ·refine Vcall.bool (z95 _ _ ha hb) (λh5=>?_) (λh5=>?_)
     ·refine zf ?_
      simp only[zb,Int.natCast_inj,UInt8.toNat_inj]at*
      obtain⟨_,_,_⟩:=a3
      obtain⟨_,_,_⟩:=b3
      simp_all [ofC]
     ·refine zf ?_
      simp only[zb,Int.natCast_inj,UInt8.toNat_inj]at*
      simp[ofC]
      intro _ _ e;exact h5 (by rw[e])
    ·refine zf ?_
     simp only[zb,Int.natCast_inj,UInt8.toNat_inj]at*
     simp[ofC]
     intro _ _ e;exact h4 (by rw[e])
   ·refine zf ?_
    simp only[zb,Int.natCast_inj,UInt8.toNat_inj]at*
    simp[ofC]
    intro _ _ e;exact h3 (by rw[e])
  ·refine zf ?_
   simp only[zb,Int.natCast_inj,UInt8.toNat_inj]at*
   simp[ofC,h2]
 ·refine zf ?_
  simp only[zb,Int.natCast_inj,UInt8.toNat_inj]at*
  simp[ofC,h1]
theorem zbk{ρ:List (Nat×Nat)}{S:St}(v:RV):cvTF ρ S (.r v) (.r v):=by
 cases v<;>first|trivial|exact cr
theorem zae{ρ:List (Nat×Nat)}{S:St}: ∀l:List RV,zgv ρ S (l.map .r) (l.map .r)
 |[]=>rfl
 |v::r=>⟨_,_,rfl,zbk v,zae r⟩
def Leaf.fit(l:Leaf):Prop:=l.box.length<=1000000000/\l.sign.length<=1000000000/\l.ident.length<=1000000000/\l.parent.length<=1000000000/\l.sig.length<=1000000000
def Par.fit(p:Par):Prop:=p.box.length<=1000000000/\p.hash.length<=1000000000/\p.late.length<=100000000/\∀x∈p.late,i64 x
def zeg:Int->List Int->Bool
 |_,[]=>true
 |last,x::r=>decide (last<x/\x<65536)&&zeg x r
def Par.right(p:Par):Bool:=zeg (-1) p.late&&decide (p.box.length=32/\(p.hash.length=0\/p.hash.length=32))
def Leaf.none(l:Leaf):Bool:=decide (l.src.toNat=0/\l.box.length=0/\l.sign.length=0/\l.ident.length=0/\l.parent.length=0/\l.sig.length=0)
def Par.none(p:Par):Bool:=decide (p.box.length=0/\p.hash.length=0/\p.late.length=0)
theorem zxl(l:Leaf)(hl:l.fit):bG 173 [.ag l.c] (.r (.b l.none)):=by
 refine bT Tryz.func173 rfl ?_
 obtain⟨h1,h2,h3,h4,h5⟩:=hl
 refine zh (λh=>?_) (λh=>?_)
 ·refine zd rfl (by omega) ?_
  refine zd rfl (by omega) ?_
  refine zd rfl (by omega) ?_
  refine zd rfl (by omega) ?_
  refine Vcmp.mk' rfl (zf (congrArg RV.b ?_))
  simp only[Leaf.none,zb]at*
  rw[Bool.eq_iff_iff]
  simp only[zb]at*
  omega
 ·refine zf (congrArg RV.b ?_)
  simp only[Leaf.none,zb]at*
  rw[eq_comm]
  simp only[zb]at*
  omega
theorem z1c(p:Par)(hp:p.fit):bG 174 [.ag p.c] (.r (.b p.none)):=by
 refine bT Tryz.func174 rfl ?_
 obtain⟨h1,h2,h3,_⟩:=hp
 refine zd rfl (by omega) ?_
 refine zd rfl (by omega) ?_
 refine Vcmp.mk' rfl (zf (congrArg RV.b ?_))
 simp only[Par.none,zb]at*
 rw[Bool.eq_iff_iff]
 simp only[zb]at*
 omega
theorem zjk(l:Leaf):bG 175 [.ag l.c] (.r (.b l.right)):=by
 refine bT Tryz.func175 rfl ?_
 (repeat' (first|refine zh (λh=>?_) (λh=>?_)|refine zf ?_|refine zq ?_|refine zt ?_))
 all_goals refine congrArg RV.b (Eq.symm ?_)
 all_goals simp only[Leaf.right,zb]at*
 all_goals omega
theorem zgub(p:Par)(hp:p.fit):bG 176 [.ag p.c] (.r (.b p.right)):=by
 refine bT Tryz.func176 rfl ?_
 obtain⟨hp1,hp2,hp3,hp4⟩:=hp
 refine Vloop.mk' (λi:Nat×Int=>{F:=[(1, .own 0),(2, .r (.b false)),(3, .r (I i.2)),(7, .r (is p.late)),(8, .r (I p.late.length)),(9, .r (I i.1))],O:=[(0,some (.box (p.c.map .r)))],nx:=1})
  (λi=>i.1<=p.late.length/\zeg (-1) p.late=zeg i.2 (p.late.drop i.1)) (λi=>p.late.length-i.1) (0, -1) ⟨by simp,by simp⟩ (zac [(0,0)] rfl ⟨rfl,cr,cr,cr,cr,cr,trivial⟩ ⟨zae _,trivial⟩) ?_
 rintro⟨j,last⟩ ⟨hj,hlate⟩
 simp only at hj hlate
 refine zh (λh=>zq ?_) (λh=>zt ?_)
 ·simp only[zb]at h
  have hj':j<p.late.length:=by omega
  have hx:=hp4 _ (List.getElem_mem hj')
  rw[List.drop_eq_getElem_cons hj']at hlate
  simp only[zeg]at hlate
  refine zm (by omega) (by omega) (zaj rfl hj') (zg rfl ?_)
  refine zh (λh1=>?_) (λh1=>?_)
  ·simp only[zb]at h1
   refine zq (zf (congrArg RV.b (Eq.symm ?_)))
   have: ¬(last<p.late[j]/\p.late[j]<65536):=by omega
   simp[Par.right,hlate,this]
  ·refine zh (λh2=>?_) (λh2=>?_)
   ·simp only[zb]at h2
    refine zq (zf (congrArg RV.b (Eq.symm ?_)))
    have: ¬(last<p.late[j]/\p.late[j]<65536):=by omega
    simp[Par.right,hlate,this]
   ·simp only[zb]at h1 h2
    refine zt ?_
    refine zd (m:=((j+1:Nat):Int)) (by omega) (by omega) ?_
    have:last<p.late[j]/\p.late[j]<65536:=by omega
    rw[decide_eq_true this,Bool.true_and]at hlate
    exact⟨(j+1,p.late[j]),⟨by simp only;omega,hlate⟩,by simp only;omega,zac [(0,0)] rfl ⟨rfl,cr,cr,cr,cr,cr,trivial⟩ ⟨zae _,trivial⟩⟩
 ·simp only[zb]at h
  have:p.late.drop j=[]:=List.drop_eq_nil_of_le (by omega)
  rw[this]at hlate
  simp only[zeg]at hlate
  (repeat' (first|refine zh (λh=>?_) (λh=>?_)|refine zf ?_|refine zq ?_|refine zt ?_))
  all_goals refine congrArg RV.b (Eq.symm ?_)
  all_goals simp only[Par.right,hlate,Bool.true_and,zb]at*
  all_goals omega
def Node.fit(n:Node):Prop:=n.leaf.fit/\n.par.fit
def Node.right(n:Node):Bool:=
 if n.kind.toNat=0 then n.leaf.none&&n.par.none else if n.kind.toNat=1 then n.leaf.right&&n.par.none else if n.kind.toNat=2 then n.leaf.none&&n.par.right else false
def zbz(l:Leaf):List UInt8:=vecB l.box++vecB l.sign++vecB l.ident++[l.src]++(if l.src.toNat=3 then vecB l.parent else[])
def zl4(l:Leaf):List UInt8:=zbz l++vecB l.sig
def zcl(l:List Int):List UInt8:=l.flatMap λx=>beB 4 x.toNat
def parB(p:Par):List UInt8:=vecB p.box++vecB p.hash++vecB (zcl p.late)
def zak(n:Node):List UInt8:=if n.kind.toNat=1 then 1::(zbz n.leaf++vecB n.leaf.sig)else if n.kind.toNat=2 then 2::parB n.par else[0]
theorem z9w(n:Node)(hn:n.fit):bG 123 [.ag n.c] (.r (.b n.right)):=by
 refine bT Tryz.func123 rfl ?_
 refine zh (λh0=>zq ?_) (λh0=>zt ?_)
 ·simp only[zb]at h0
  have h0':n.kind.toNat=0:=by omega
  refine za rfl rfl (Vcall.bool (zxl n.leaf hn.1) (λh=>za rfl rfl (ze (z1c n.par hn.2) (zf ?_))) (λh=>zf ?_))
  ·simp[Node.right,h0',h]
  ·simp[Node.right,h0',h,ofC]
 ·simp only[zb]at h0
  have h0':n.kind.toNat≠0:=by omega
  refine zh (λh1=>zq ?_) (λh1=>zt ?_)
  ·simp only[zb]at h1
   have h1':n.kind.toNat=1:=by omega
   refine za rfl rfl (Vcall.bool (zjk n.leaf) (λh=>za rfl rfl (ze (z1c n.par hn.2) (zf ?_))) (λh=>zf ?_))
   ·simp[Node.right,h1',h]
   ·simp[Node.right,h1',h,ofC]
  ·simp only[zb]at h1
   have h1':n.kind.toNat≠1:=by omega
   refine zh (λh2=>zq ?_) (λh2=>zt ?_)
   ·simp only[zb]at h2
    have h2':n.kind.toNat=2:=by omega
    refine za rfl rfl (Vcall.bool (zxl n.leaf hn.1) (λh=>za rfl rfl (ze (zgub n.par hn.2) (zf ?_))) (λh=>zf ?_))
    ·simp[Node.right,h2',h]
    ·simp[Node.right,h2',h,ofC]
   ·simp only[zb]at h2
    have h2':n.kind.toNat≠2:=by omega
    refine zf ?_
    simp[Node.right,h0',h1',h2',ofC]
theorem zez{e:TypeId}{l m:List UInt8}(h:l=m):some (Ow.ch e 1 l.length (l.map U8) true)=some (Ow.ch e 1 m.length (m.map U8) true):=by rw[h]
def ziob(b:List UInt8)(l:Leaf):Nat->St
 |0=>{F:=[(0, .r (bs b)),(3, .own 0),(13, .own 1),(14, .r (I 3)),(15, .r (I 0))],O:=[(0,some (.box (l.c.map .r))),(1,some (.ch 22 1 3 [bs l.box,bs l.sign,bs l.ident] true))],nx:=2}
 |j+1=>{F:=[(0, .own 2),(3, .own 0),(13, .own 1),(14, .r (I 3)),(15, .r (I ((j+1:Nat):Int)))],O:=[(0,some (.box (l.c.map .r))),(1,some (.ch 22 1 3 [bs l.box,bs l.sign,bs l.ident] true)),
   (2,some (.ch 5 1 (b++([l.box,l.sign,l.ident].take (j+1)).flatMap vecB).length ((b++([l.box,l.sign,l.ident].take (j+1)).flatMap vecB).map U8) true))],nx:=3}
theorem zlx(b:List UInt8)(l:Leaf)(hb:b.length<=1000000000)(hl:l.fit):bG 124 [bs b, .ag l.c] (bch (b++zbz l)):=by
 refine bT Tryz.func124 rfl ?_
 obtain⟨h1,h2,h3,h4,h5⟩:=hl
 have v1:=zal l.box
 have v2:=zal l.sign
 have v3:=zal l.ident
 refine zy ?_
 refine Vloop.mk' (ziob b l) (λj=>j<=3) (λj=>3-j) 0 (by omega) (zac [(0,0),(1,1)] rfl ⟨cr,rfl,rfl,cr,cr,trivial⟩ ⟨zae _,⟨rfl,rfl,rfl,rfl,zn _⟩,trivial⟩) ?_
 intro j hj
 rcases(by omega:j=0\/j=1\/j=2\/j=3)with rfl |rfl |rfl |rfl
 ·refine zu rfl (zq ?_)
  refine zm (by decide) (by decide) rfl (zg rfl ?_)
  refine ze (zbv b l.box (by omega) (by omega)) ?_
  refine zd (m:=((1:Nat):Int)) rfl (by decide) ?_
  exact⟨1,by omega,by omega,zac [(0,0),(1,1),(2,2)] rfl ⟨rfl,rfl,rfl,cr,cr,trivial⟩ ⟨zae _,⟨rfl,rfl,rfl,rfl,zn _⟩,cvCh (by simp),trivial⟩⟩
 ·refine zu rfl (zq ?_)
  refine zm (by decide) (by decide) rfl (zg rfl ?_)
  refine ze (zbv (b++([l.box,l.sign,l.ident].take 1).flatMap vecB) l.sign (by simp;omega) (by omega)) ?_
  refine zd (m:=((2:Nat):Int)) rfl (by decide) ?_
  exact⟨2,by omega,by omega,zac [(0,0),(1,1),(2,3)] rfl ⟨rfl,rfl,rfl,cr,cr,trivial⟩ ⟨zae _,⟨rfl,rfl,rfl,rfl,zn _⟩,cvCh (by simp),trivial⟩⟩
 ·refine zu rfl (zq ?_)
  refine zm (by decide) (by decide) rfl (zg rfl ?_)
  refine ze (zbv (b++([l.box,l.sign,l.ident].take 2).flatMap vecB) l.ident (by simp;omega) (by omega)) ?_
  refine zd (m:=((3:Nat):Int)) rfl (by decide) ?_
  exact⟨3,by omega,by omega,zac [(0,0),(1,1),(2,3)] rfl ⟨rfl,rfl,rfl,cr,cr,trivial⟩ ⟨zae _,⟨rfl,rfl,rfl,rfl,zn _⟩,cvCh (by simp),trivial⟩⟩
 ·refine zw rfl (zt ?_)
  refine zy ?_
  refine Vapp.mk' (j:=(b++([l.box,l.sign,l.ident].take 3).flatMap vecB++[l.src]).length) (zs:=(b++([l.box,l.sign,l.ident].take 3).flatMap vecB++[l.src]).map U8) (by simp[maxLen];omega) (by simp;omega) (by simp;omega) (by simp[zbl,cellsOf]) ?_
  refine zh (λhs=>zq ?_) (λhs=>zt ?_)
  ·simp only[zb]at hs
   have hs':l.src.toNat=3:=by omega
   refine ze (zbv (b++([l.box,l.sign,l.ident].take 3).flatMap vecB++[l.src]) l.parent (by simp;omega) (by omega)) ?_
   have e:b++([l.box,l.sign,l.ident].take 3).flatMap vecB++[l.src]++vecB l.parent=b++zbz l:=by simp[zbz,hs']
   exact zez e
  ·simp only[zb]at hs
   have hs':l.src.toNat≠3:=by omega
   have e:b++([l.box,l.sign,l.ident].take 3).flatMap vecB++[l.src]=b++zbz l:=by simp[zbz,hs']
   exact zez e
theorem zfx: ∀l:List Int,(zcl l).length=4*l.length
 |[]=>rfl
 |x::r=>by
  have:=zfx r
  simp only[zcl,List.flatMap_cons,bL,List.length_cons]at*
  rw[zao,this];omega
def zi8b(b:List UInt8)(p:Par):Nat->St
 |0=>{F:=[(0, .r (bs b)),(3, .own 0),(5, .r (bs [])),(9, .r (is p.late)),(10, .r (I p.late.length)),(11, .r (I ((0:Nat):Int)))],O:=[(0,some (.box (p.c.map .r)))],nx:=1}
 |j+1=>{F:=[(0, .r (bs b)),(3, .own 0),(5, .own 1),(9, .r (is p.late)),(10, .r (I p.late.length)),(11, .r (I ((j+1:Nat):Int)))],O:=[(0,some (.box (p.c.map .r))),
   (1,some (.ch 5 1 (zcl (p.late.take (j+1))).length ((zcl (p.late.take (j+1))).map U8) true))],nx:=2}
theorem zgt(x:Int)(h:0<=x/\x<65536):IntKind.u64.wrap x=((x.toNat:Nat):Int):=by
 unfold IntKind.wrap
 simp only[IntKind.bits,IntKind.signed]
 simp
 omega
theorem z3i(b:List UInt8)(p:Par)(hb:b.length<=1000000000)(hp:p.fit)(hr: ∀x∈p.late,0<=x/\x<65536):bG 125 [bs b, .ag p.c] (bch (b++parB p)):=by
 refine bT Tryz.func125 rfl ?_
 obtain⟨h1,h2,h3,_⟩:=hp
 have hll:=zfx p.late
 refine Vloop.mk' (zi8b b p) (λj=>j<=p.late.length) (λj=>p.late.length-j) 0 (by omega) (zac [(0,0)] rfl ⟨cr,rfl,Cv.nil _,cr,cr,cr,trivial⟩ ⟨zae _,trivial⟩) ?_
 have vd1:=zal p.box
 have vd2:=zal p.hash
 have hstep: ∀j (hj:j<p.late.length),zcl (p.late.take j)++beB 4 (p.late[j].toNat)=zcl (p.late.take (j+1)):=λj hj=>by
  rw[List.take_add_one,List.getElem?_eq_getElem hj]
  simp only[zcl,Option.toList,List.flatMap_append,List.flatMap_cons,List.flatMap_nil,List.append_nil]
 have hlen: ∀j,j<=p.late.length->(zcl (p.late.take j)).length=4*j:=λj hj=>by rw[zfx,List.length_take];omega
 intro j hj
 rcases j with _ |j
 ·refine zh (λh=>zq ?_) (λh=>zt ?_)
  ·simp only[zb]at h
   have hj':0<p.late.length:=by omega
   refine zm (by omega) (by omega) (zaj rfl hj') (zg rfl ?_)
   refine⟨((p.late[0].toNat:Nat):Int),(zgt _ (hr _ (List.getElem_mem hj'))).symm,?_⟩
   refine ze (zeu [] 4 p.late[0].toNat (by simp) (by omega)) ?_
   refine zd (m:=((0+1:Nat):Int)) (by omega) (by omega) ?_
   exact⟨0+1,hj',by omega,zac [(0,0),(1,1)] rfl ⟨cr,rfl,rfl,cr,cr,cr,trivial⟩ ⟨zae _,cvCh (hstep 0 hj'),trivial⟩⟩
  ·simp only[zb]at h
   have e:p.late=[]:=List.eq_nil_of_length_eq_zero (by omega)
   refine bV ?_
   refine ze (zbv b p.box (by omega) (by omega)) ?_
   refine ze (zbv (b++vecB p.box) p.hash (by simp;omega) (by omega)) ?_
   refine ze (zbv (b++vecB p.box++vecB p.hash) [] (by simp;omega) (by simp)) ?_
   exact zez (by simp[parB,e,zcl])
 ·refine zh (λh=>zq ?_) (λh=>zt ?_)
  ·simp only[zb]at h
   have hj':j+1<p.late.length:=by omega
   refine zm (by omega) (by omega) (zaj rfl hj') (zg rfl ?_)
   refine⟨((p.late[j+1].toNat:Nat):Int),(zgt _ (hr _ (List.getElem_mem hj'))).symm,?_⟩
   refine ze (zeu (zcl (p.late.take (j+1))) 4 p.late[j+1].toNat (by rw[hlen _ hj];omega) (by omega)) ?_
   refine zd (m:=((j+1+1:Nat):Int)) (by omega) (by omega) ?_
   exact⟨j+1+1,hj',by omega,zac [(0,0),(1,2)] rfl ⟨cr,rfl,rfl,cr,cr,cr,trivial⟩ ⟨zae _,cvCh (hstep (j+1) hj'),trivial⟩⟩
  ·simp only[zb]at h
   have e:p.late.take (j+1)=p.late:=List.take_of_length_le (by omega)
   refine bV ?_
   refine ze (zbv b p.box (by omega) (by omega)) ?_
   refine ze (zbv (b++vecB p.box) p.hash (by simp;omega) (by omega)) ?_
   refine ze (zbv (b++vecB p.box++vecB p.hash) (zcl (p.late.take (j+1))) (by simp;omega) (by rw[e,hll];omega)) ?_
   exact zez (by simp[parB,e])
theorem zya: ∀(l:List Int) (a:Int), -1<=a->zeg a l=true->∀x∈l,0<=x/\x<65536
 |[],_,_,_=>λx hx=>by cases hx
 |y::r,a,ha,h=>λx hx=>by
  simp only[zeg,Bool.and_eq_true,decide_eq_true_eq]at h
  rcases List.mem_cons.1 hx with rfl |hx
  ·omega
  ·exact zya r y (by omega) h.2 x hx
theorem Par.right_bd{p:Par}(h:p.right=true): ∀x∈p.late,0<=x/\x<65536:=by
 simp only[Par.right,Bool.and_eq_true]at h
 exact zya _ _ (by omega) h.1
theorem Cv.tu{l m:List RV}(h:Cvs l m):Cv (.tu l) (.tu m):=λw k v hv=>by
 simp only[RV.at_]at*
 obtain⟨us,e,hp⟩:=hv
 exact⟨us,e,h.at_ hp⟩
theorem zfc(n:Node)(hn:n.fit):bG 73 [.ag n.c] (.r (if n.right then .tu [bs (zak n), .i .u8 0]else .tu [bs [], .i .u8 3])):=by
 refine bT Tryz.func73 rfl ?_
 refine za rfl rfl ?_
 refine Vcall.bool (z9w n hn) (λhr=>?_) (λhr=>?_)
 ·refine zw rfl (zt ?_)
  refine zy ?_
  obtain⟨⟨l1,l2,l3,l4,l5⟩,hpf⟩:=hn
  have w1:=zal n.leaf.box
  have w2:=zal n.leaf.sign
  have w3:=zal n.leaf.ident
  have w4:=zal n.leaf.parent
  refine zh (λh1=>zq ?_) (λh1=>zt ?_)
  ·simp only[zb]at h1
   have h1':n.kind.toNat=1:=by omega
   have hk:n.kind=1:=UInt8.toNat_inj.1 h1'
   refine bV ?_
   refine za rfl rfl ?_
   refine ze (zlx [n.kind] n.leaf (by simp) ⟨l1,l2,l3,l4,l5⟩) ?_
   have hlen:([n.kind]++zbz n.leaf).length<=1000000000000:=by
    simp only[zbz,bL,List.length_cons,List.length_nil]
    split<;>simp<;>omega
   refine ze (zbv ([n.kind]++zbz n.leaf) n.leaf.sig hlen (by omega)) ?_
   refine⟨_,rfl,zf ?_⟩
   rw[if_pos hr,zak,if_pos h1',hk]
   rfl
  ·simp only[zb]at h1
   have h1':n.kind.toNat≠1:=by omega
   refine zh (λh2=>zq ?_) (λh2=>zt ?_)
   ·simp only[zb]at h2
    have h2':n.kind.toNat=2:=by omega
    have hk:n.kind=2:=UInt8.toNat_inj.1 h2'
    have hb: ∀x∈n.par.late,0<=x/\x<65536:=by
     have:n.par.right=true:=by
      have:=hr
      simp[Node.right,h2']at this
      exact this.2
     exact Par.right_bd this
    refine za rfl rfl ?_
    refine ze (z3i [n.kind] n.par (by simp) hpf hb) ?_
    refine⟨_,rfl,zf ?_⟩
    rw[if_pos hr,zak,if_neg h1',if_pos h2',hk]
    rfl
   ·simp only[zb]at h2
    have h2':n.kind.toNat≠2:=by omega
    have h0:n.kind.toNat=0:=by
     have:=hr
     simp only[Node.right,if_neg h1',if_neg h2']at this
     split at this
     ·assumption
     ·cases this
    have hk:n.kind=0:=UInt8.toNat_inj.1 h0
    refine⟨_,rfl,zf ?_⟩
    rw[if_pos hr,zak,if_neg h1',if_neg h2',hk]
    rfl
 ·refine zu rfl (zq ?_)
  refine⟨_,rfl,?_⟩
  rw[hr]
  exact Cv.tu (zk (Cv.nil 1) (zn _))
end Go.Proofs.YtoegdgbghdnnfaaGreat.Sx
