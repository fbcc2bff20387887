import Derived.Test.YtddokcpcpoihmaaGreatZRefC
namespace Go.Proofs.YtddokcpcpoihmaaGreat.Sx
open Go.RowKit
section
abbrev U64(n:Nat):RV:= .i .u64 (n:Int)
def us(l:List Nat):RV:= .sl 1 l.length (l.map U64)
theorem zk5{x:Nat}(h:x<18446744073709551616):IntKind.u64.wrap (x:Int)=(x:Int):=by
 have:((x:Int)%18446744073709551616)=x:=by omega
 simp only[IntKind.wrap]
 simp[IntKind.bits,IntKind.signed]
 omega
theorem Vint.u64{e:Int}{K:Int->Prop}(n:Nat)(he:e=(n:Int))(h:n<18446744073709551616)(hK:K (n:Int)):Vint .u64 e K:=⟨n,by rw[he,zk5 h],hK⟩
theorem Vquo.nat{a b:Int}{K:Int->Prop}(x y:Nat)(ha:a=(x:Int))(hb:b=(y:Int))(hy:0<y)(hx:x<18446744073709551616)(hK:K ((x/y:Nat):Int)):Vquo .u64 a b K:=by
 subst ha;subst hb
 refine⟨by omega,_,?_,hK⟩
 rw[Int.tdiv_eq_ediv_of_nonneg (by omega),<-Int.natCast_ediv,zk5 (Nat.lt_of_le_of_lt (Nat.div_le_self _ _) hx)]
theorem Vrem.nat{a b:Int}{K:Int->Prop}(x y:Nat)(ha:a=(x:Int))(hb:b=(y:Int))(hy:0<y)(hK:K ((x%y:Nat):Int)):Vrem a b K:=by
 subst ha;subst hb
 refine⟨by omega,_,?_,hK⟩
 rw[Int.tmod_eq_emod_of_nonneg (by omega),<-Int.natCast_emod]
theorem Vint.u8{e:Int}{K:Int->Prop}(n:Nat)(he:e=(n:Int))(hK:K (((UInt8.ofNat n).toNat:Nat):Int)):Vint .u8 e K:=by
 refine⟨_,?_,hK⟩
 subst he
 simp only[IntKind.wrap]
 simp[IntKind.bits,IntKind.signed]
theorem Vbits.xor{a b:Int}{K:Int->Prop}(x y:Nat)(ha:a=(x:Int))(hb:b=(y:Int))(hx:x<18446744073709551616)(hy:y<18446744073709551616)(hK:K ((x^^^y:Nat):Int)):Vbits .u64 .xor a b K:=by
 subst ha;subst hb
 refine⟨_,?_,hK⟩
 have hxy:x^^^y<18446744073709551616:=Nat.xor_lt_two_pow (n:=64) hx hy
 have e: ∀z:Nat,z<18446744073709551616->(BitVec.ofInt 64 (z:Int)).toNat=z:=λz hz=>by
  rw[BitVec.toNat_ofInt];omega
 show((x^^^y:Nat):Int)=IntKind.u64.wrap (((BitVec.ofInt 64 (x:Int)^^^BitVec.ofInt 64 (y:Int)).toNat:Nat):Int)
 rw[BitVec.toNat_xor,e x hx,e y hy,zk5 hxy]
theorem Vadr.mk'{i:Int}{n:Nat}{K:Nat->Prop}(j:Nat)(h:i=(j:Int))(hj:j<n)(hK:K j):Vadr i n K:=by
 subst h
 exact⟨by omega,by omega,by rw[Int.toNat_natCast];exact hK⟩
theorem zmk{x:Nat}:rotr 0 x=x:=by simp[rotr,Nat.mod_one]
theorem zuq{x i:Nat}(hi:i<32):rotr (i+1) x=rotr i x/2+rotr i x%2*2147483648:=by
 unfold rotr
 have h1:x/2^(i+1)=x/2^i/2:=by rw[Nat.pow_succ,Nat.div_div_eq_div_mul]
 have h2:x%2^(i+1)=x%2^i+2^i*(x/2^i%2):=by rw[Nat.pow_succ,Nat.mod_mul]
 have h3:2^(32-i)=2*2^(32-(i+1)):=by rw[show 32-i=(32-(i+1))+1 by omega,Nat.pow_succ,Nat.mul_comm]
 have h4:2^i*2^(32-(i+1))=2147483648:=by rw[<-Nat.pow_add,show i+(32-(i+1))=31 by omega]
 rw[h1,h2,h3]
 generalize x/2^i=r
 generalize x%2^i=m
 generalize 2^(32-(i+1))=p at*
 generalize 2^i=q at*
 have e1:m*(2*p)=2*(m*p):=by rw[Nat.mul_left_comm]
 have e2:(m+q*(r%2))*p=m*p+r%2*2147483648:=by
  rw[Nat.add_mul,<-h4,Nat.mul_comm q,Nat.mul_assoc]
 rw[e1,e2]
 omega
theorem za2{x:Nat}(hx:x<4294967296): ∀{n:Nat},n<=31->rotr n x<4294967296
 |0,_=>by rw[zmk];exact hx
 |n+1,h=>za8 hx (by omega) h
theorem zds(x n:Nat)(hx:x<4294967296)(hn:n<=31):zab Tryz.prog 314 [U64 x,I n] (.r (U64 (rotr n x))):=by
 refine zaa (T:=Tab) mixed Tab_ok Tryz.func314 rfl (by kernel_rfl) ?_
 refine zw (λj:Nat=>{F:=[(0, .r (U64 (rotr j x))),(1, .r (I n)),(5, .r (I j))],O:=[],nx:=0}) (λj=>j<=n) (λj=>n-j) 0 (by omega) (zac [] rfl ⟨ze (by rw[zmk]),cr,cr,trivial⟩ trivial) ?_
 intro j hj
 refine zg (λh=>zo ?_) (λh=>zp ?_)
 ·simp only[zb]at h
  have hr:=za2 hx (show j<=31 by omega)
  refine Vquo.nat (rotr j x) 2 rfl rfl (by omega) (by omega) ?_
  refine Vrem.nat (rotr j x) 2 rfl rfl (by omega) ?_
  refine Vint.u64 (rotr j x%2*2147483648) (by omega) (by omega) ?_
  refine Vint.u64 (rotr j x/2+rotr j x%2*2147483648) (by omega) (by omega) ?_
  refine zc (m:=((j+1:Nat):Int)) (by omega) (by omega) ?_
  exact⟨j+1,by omega,by omega,zac [] rfl ⟨ze (by rw[zuq (by omega)]),cr,cr,trivial⟩ trivial⟩
 ·simp only[zb]at h
  obtain rfl:j=n:=by omega
  exact cr
theorem zr9(x n:Nat)(hx:x<4294967296)(hn:n<=31):zab Tryz.prog 315 [U64 x,I n] (.r (U64 (x/2^n))):=by
 refine zaa (T:=Tab) mixed Tab_ok Tryz.func315 rfl (by kernel_rfl) ?_
 refine zw (λj:Nat=>{F:=[(0, .r (U64 (x/2^j))),(1, .r (I n)),(5, .r (I j))],O:=[],nx:=0}) (λj=>j<=n) (λj=>n-j) 0 (by omega) (zac [] rfl ⟨ze (by simp),cr,cr,trivial⟩ trivial) ?_
 intro j hj
 refine zg (λh=>zo ?_) (λh=>zp ?_)
 ·simp only[zb]at h
  have hr:=Nat.div_le_self x (2^j)
  refine Vquo.nat (x/2^j) 2 rfl rfl (by omega) (by omega) ?_
  refine zc (m:=((j+1:Nat):Int)) (by omega) (by omega) ?_
  exact⟨j+1,by omega,by omega,zac [] rfl ⟨ze (by rw[Nat.pow_succ,Nat.div_div_eq_div_mul]),cr,cr,trivial⟩ trivial⟩
 ·simp only[zb]at h
  obtain rfl:j=n:=by omega
  exact cr
theorem z09:zab Tryz.prog 270 [] (.r (.tu [us h0Tab.list,us kTab])):=by
 refine zaa (T:=Tab) mixed Tab_ok Tryz.func270 rfl (by kernel_rfl) ?_
 refine zu ?_
 refine zu ?_
 exact⟨_,rfl,cr⟩
end
section
theorem zdf{l:List Nat}{i:Int}{j:Nat}(h:i=j)(hj:j<l.length):((l.map U64).drop (i.toNat*1)).take 1=[U64 (l.getD j 0)]:=by
 rw[zcs h hj,List.getD_eq_getElem?_getD,List.getElem?_eq_getElem hj];rfl
theorem z34{l:List UInt8}{i:Int}{j:Nat}(h:i=j)(hj:j<l.length):((l.map U8).drop (i.toNat*1)).take 1=[U8 (l.getD j 0)]:=by
 rw[zcs h hj,List.getD_eq_getElem?_getD,List.getElem?_eq_getElem hj];rfl
def accM(b:List UInt8)(k:Nat):Nat->Nat
 |0=>0
 |i+1=>256*accM b k i+(b.getD (k+i) 0).toNat
theorem zu5(b:List UInt8)(k:Nat):accM b k 4=be32 b k:=by
 simp only[accM,be32,Nat.add_zero];omega
theorem z0w(b:List UInt8)(k:Nat): ∀i,i<=4->accM b k i<4294967296:=by
 have h: ∀i,accM b k i<256^i:=by
  intro i
  induction i with
  |zero=>simp[accM]
  |succ i ih=>
   have h2:=(b.getD (k+i) 0).toNat_lt
   rw[accM,Nat.pow_succ];omega
 intro i hi
 have h1:=h i
 have h2:256^i<=256^4:=Nat.pow_le_pow_right (by omega) hi
 omega
theorem zxp{s n i:Nat}(hi:i<s):(beB s n).take (i+1)=(beB s n).take i++[UInt8.ofNat (n/256^(s-1-i))]:=by
 have: ∀(s i:Nat),i<s->(beB s n)[i]?=some (UInt8.ofNat (n/256^(s-1-i))):=by
  intro s
  induction s with
  |zero=>intro i h;omega
  |succ s ih=>
   intro i h
   cases i with
   |zero=>simp[beB]
   |succ i=>
    rw[beB,List.getElem?_cons_succ,ih i (by omega)]
    rw[show s+1-1-(i+1)=s-1-i by omega]
 rw[List.take_add_one,this s i hi];rfl
theorem zmq(q:Nat):UInt8.ofNat (q%256)=UInt8.ofNat q:=by
 apply UInt8.toNat_inj.1
 simp
def mixH(s x:H8)(t:Nat):List Nat:=(addH s x).list.take t++s.list.drop t
theorem zp7(s x:H8){t:Nat}(ht:t<=8):(mixH s x t).length=8:=by
 simp[mixH,H8.list];omega
theorem z15(s x:H8){t:Nat}(ht:t<8):(mixH s x t).getD t 0=s.list.getD t 0/\(mixH s x t).take t++[(s.list.getD t 0+x.list.getD t 0)%4294967296]++(mixH s x t).drop (t+1)=mixH s x (t+1):=by
 match t,ht with
 |0,_=>exact⟨rfl,rfl⟩
 |1,_=>exact⟨rfl,rfl⟩
 |2,_=>exact⟨rfl,rfl⟩
 |3,_=>exact⟨rfl,rfl⟩
 |4,_=>exact⟨rfl,rfl⟩
 |5,_=>exact⟨rfl,rfl⟩
 |6,_=>exact⟨rfl,rfl⟩
 |7,_=>exact⟨rfl,rfl⟩
theorem ztb{s:H8}(h:s.ok)(t:Nat):s.list.getD t 0<4294967296:=by
 obtain⟨a,b,c,d,e,f,g,i⟩:=h
 match t with
 |0=>exact a
 |1=>exact b
 |2=>exact c
 |3=>exact d
 |4=>exact e
 |5=>exact f
 |6=>exact g
 |7=>exact i
 |n+8=>simp[H8.list]
theorem zbc{ρ:List (Nat×Nat)}{S:St}{e:TypeId}{l m:List Nat}{pub:Bool}(h:l=m):cvOw ρ S (.ch e 1 l.length (l.map U64) pub) (.ch e 1 m.length (m.map U64) pub):=by
 subst h;exact⟨rfl,rfl,rfl,rfl,zm _⟩
theorem zq4(b:List UInt8)(t:Nat):wTo b (t+1)=wTo b t++[zdc b (wTo b t)]:=rfl
theorem zzs{b:List UInt8}{t:Nat}(ht:t<16):zdc b (wTo b t)=be32 b (4*t):=by
 unfold zdc;rw[za1,if_pos ht]
theorem zzr{b:List UInt8}{t:Nat}(ht:16<=t):zdc b (wTo b t)=(ss1 ((wTo b t).getD (t-2) 0)+(wTo b t).getD (t-7) 0+ss0 ((wTo b t).getD (t-15) 0)+(wTo b t).getD (t-16) 0)%4294967296:=by
 unfold zdc;rw[za1,if_neg (by omega)]
theorem zzy(j:Nat):List.replicate j (0:UInt8)++[0]=List.replicate (j+1) 0:=by rw[List.replicate_succ']
set_option maxHeartbeats 4000000 in
theorem z5u(b:List UInt8)(hb:b.length<=100000000000):zab Tryz.prog 271 [bs b,us h0Tab.list,us kTab] (bch (shaB b)):=by
 refine zaa (T:=Tab) mixed Tab_ok Tryz.func271 rfl (by kernel_rfl) ?_
 refine Vpub.own ?_
 refine zy (j:=h0Tab.list.length) (zs:=h0Tab.list.map U64) (by decide) (by decide) rfl rfl ?_
 refine zu ?_
 refine zy (j:=b.length) (zs:=b.map U8) (by simp[maxLen];omega) (by simp;omega) (by simp) rfl ?_
 refine zu ?_
 refine zy (j:=(b++[128]).length) (zs:=(b++[128]).map U8) (by simp[maxLen];omega) (by simp;omega) (by simp) (by rw[List.map_append];rfl) ?_
 have hz:=zgh b.length
 refine zw (λj:Nat=>{F:=[(0, .r (bs b)),(2, .r (us kTab)),(7, .own 0),(8, .own 1)],O:=[(0,some (.ch 104 1 h0Tab.list.length (h0Tab.list.map U64) false)),(1,some (.ch 5 1 (b++[128]++List.replicate j 0).length ((b++[128]++List.replicate j 0).map U8) true))],nx:=2})
  (λj=>j<=zbf b.length) (λj=>zbf b.length-j) 0 (by omega) (zac [(0,_),(1,_)] rfl ⟨cr,cr,rfl,rfl,trivial⟩ ⟨zbc rfl,cvCh (by simp),trivial⟩) ?_
 intro j hj
 have hlj:(b++[128]++List.replicate j (0:UInt8)).length=b.length+1+j:=by simp;omega
 refine Vrem.nat (b.length+1+j) 64 (by rw[hlj]) rfl (by omega) ?_
 refine zg (λh=>zo ?_) (λh=>zp ?_)
 ·simp only[zb]at h
  have hj':j<zbf b.length:=by unfold zbf at*;omega
  refine zu ?_
  refine zy (j:=(b++[128]++List.replicate (j+1) (0:UInt8)).length) (zs:=(b++[128]++List.replicate (j+1) 0).map U8) (by rw[hlj];simp[maxLen];omega) (by rw[hlj];simp;omega) (by simp;omega) (by rw[<-zzy,<-List.append_assoc];exact(List.map_append (f:=U8) (l₁:=b++[128]++List.replicate j 0) (l₂:=[0])).symm) ?_
  exact⟨j+1,by omega,by omega,zac [(0,0),(1,_)] rfl ⟨cr,cr,rfl,rfl,trivial⟩ ⟨zbc rfl,cvCh rfl,trivial⟩⟩
 simp only[zb]at h
 obtain rfl:j=zbf b.length:=by unfold zbf at*;omega
 obtain⟨N,hN⟩: ∃N,N=b.length*8:=⟨_,rfl⟩
 refine Vint.u64 b.length rfl (by omega) ?_
 refine Vint.u64 N (by omega) (by omega) ?_
 obtain⟨B,hB⟩: ∃B,B=b++[128]++List.replicate (zbf b.length) (0:UInt8):=⟨_,rfl⟩
 rw[<-hB]at hlj
 refine zw (λi:Nat=>{F:=[(2, .r (us kTab)),(7, .own 0),(8, .own 1),(9, .r (U64 N)),(10, .r (I i))],O:=[(0,some (.ch 104 1 h0Tab.list.length (h0Tab.list.map U64) false)),(1,some (.ch 5 1 (B++(beB 8 N).take i).length ((B++(beB 8 N).take i).map U8) true))],nx:=2})
  (λi=>i<=8) (λi=>8-i) 0 (by omega) (zac [(0,0),(1,1)] rfl ⟨cr,rfl,rfl,cr,cr,trivial⟩ ⟨zbc rfl,cvCh (by rw[hB];simp),trivial⟩) ?_
 intro i hi
 have hbl: ∀i,((beB 8 N).take i).length<=8:=λi=>by rw[List.length_take,zat];omega
 refine zg (λh2=>zo ?_) (λh2=>zp ?_)
 ·simp only[zb]at h2
  have hi':i<8:=by omega
  have hbi:=hbl i
  refine zw (λk:Nat=>{F:=[(2, .r (us kTab)),(7, .own 0),(8, .own 1),(9, .r (U64 N)),(10, .r (I i)),(11, .r (U64 (256^k))),(12, .r (I k))],O:=[(0,some (.ch 104 1 h0Tab.list.length (h0Tab.list.map U64) false)),(1,some (.ch 5 1 (B++(beB 8 N).take i).length ((B++(beB 8 N).take i).map U8) true))],nx:=2})
   (λk=>k<=7-i) (λk=>7-i-k) 0 (by omega) (zac [(0,0),(1,1)] rfl ⟨cr,rfl,rfl,cr,cr,cr,cr,trivial⟩ ⟨zbc rfl,cvCh rfl,trivial⟩) ?_
  intro k hk
  have hkp:256^k<=256^7:=Nat.pow_le_pow_right (by omega) (by omega)
  refine zc rfl (by omega) ?_
  refine zg (λh3=>zo ?_) (λh3=>zp ?_)
  ·simp only[zb]at h3
   have hkp':256^k<=256^6:=Nat.pow_le_pow_right (by omega) (by omega)
   refine Vint.u64 (256^(k+1)) (by rw[Nat.pow_succ];omega) (by rw[Nat.pow_succ];omega) ?_
   refine zc (m:=((k+1:Nat):Int)) (by omega) (by omega) ?_
   exact⟨k+1,by omega,by omega,zac [(0,0),(1,1)] rfl ⟨cr,rfl,rfl,cr,cr,cr,cr,trivial⟩ ⟨zbc rfl,cvCh rfl,trivial⟩⟩
  ·simp only[zb]at h3
   obtain rfl:k=7-i:=by omega
   refine Vquo.nat N (256^(7-i)) rfl rfl (Nat.pow_pos (by omega)) (by omega) ?_
   refine Vrem.nat (N/256^(7-i)) 256 rfl rfl (by omega) ?_
   refine Vint.u8 (N/256^(7-i)%256) rfl ?_
   rw[zmq]
   refine zu ?_
   have ht:=zxp (s:=8) (n:=N) hi'
   refine zy (j:=(B++(beB 8 N).take (i+1)).length) (zs:=(B++(beB 8 N).take (i+1)).map U8) (by simp only[List.length_append,hlj,maxLen];omega) (by simp only[List.length_append,hlj];omega) (by rw[ht];simp only[List.length_append,List.length_cons,List.length_nil];omega) (by rw[ht,<-List.append_assoc];exact(List.map_append (f:=U8) (l₁:=B++(beB 8 N).take i) (l₂:=[UInt8.ofNat (N/256^(8-1-i))])).symm) ?_
   refine zc (m:=((i+1:Nat):Int)) (by omega) (by omega) ?_
   exact⟨i+1,by omega,by omega,zac [(0,0),(1,_)] rfl ⟨cr,rfl,rfl,cr,cr,trivial⟩ ⟨zbc rfl,cvCh rfl,trivial⟩⟩
 simp only[zb]at h2
 obtain rfl:i=8:=by omega
 obtain⟨M,hM⟩: ∃M,M=b++ze8 b.length:=⟨_,rfl⟩
 have hBM:B++(beB 8 N).take 8=M:=by
  rw[hM,hB,List.take_of_length_le (by rw[zat];omega),hN]
  simp[ze8]
 have hMl:M.length=b.length+(9+zbf b.length):=by rw[hM,List.length_append,zi4]
 have hM64:=zqf b.length
 obtain⟨T,hT⟩: ∃T,M.length=64*T:=⟨M.length/64,by rw[hMl];omega⟩
 rw[hBM]
 refine zw (λt:Nat=>{F:=[(2, .r (us kTab)),(7, .own 0),(8, .r (bs M)),(13, .r (I (64*t:Nat)))],O:=[(0,some (.ch 104 1 (runH t h0Tab M).list.length ((runH t h0Tab M).list.map U64) false))],nx:=1})
  (λt=>t<=T) (λt=>T-t) 0 (by omega) (zac [(0,0)] rfl ⟨cr,rfl,cr,cr,trivial⟩ ⟨zbc rfl,trivial⟩) ?_
 intro t ht
 obtain⟨H,hH⟩: ∃H,H=runH t h0Tab M:=⟨_,rfl⟩
 have hHok:H.ok:=hH▸zjn t h0Tab M ztw
 rw[<-hH]
 refine zg (λh3=>zo ?_) (λh3=>zp ?_)
 ·simp only[zb]at h3
  have ht':t<T:=by omega
  obtain⟨K,hK⟩: ∃K,K=(M.drop (64*t)).take 64:=⟨_,rfl⟩
  have hKat: ∀i,i<64->K.getD i 0=M.getD (64*t+i) 0:=λi hi=>by
   rw[hK,List.getD_eq_getElem?_getD,List.getD_eq_getElem?_getD,List.getElem?_take,if_pos hi,List.getElem?_drop]
  have hstep:zge H K=runH (t+1) h0Tab M:=by rw[ziu,<-hH,<-hK]
  refine zw (λq:Nat=>{F:=[(2, .r (us kTab)),(7, .own 0),(8, .r (bs M)),(13, .r (I (64*t:Nat))),(14, .own 1),(15, .r (I q))],O:=[(0,some (.ch 104 1 H.list.length (H.list.map U64) false)),(1,some (.ch 104 1 (wTo K q).length ((wTo K q).map U64) true))],nx:=2})
   (λq=>q<=64) (λq=>64-q) 0 (by omega) ((zi3 14 104 1 rfl).trans (zac [(0,0),(1,1)] rfl ⟨cr,rfl,cr,cr,rfl,cr,trivial⟩ ⟨zbc rfl,⟨rfl,rfl,rfl,rfl,zm _⟩,trivial⟩)) ?_
  intro q hq
  have hwl:=za1 K q
  refine zg (λh4=>zo ?_) (λh4=>zp ?_)
  ·simp only[zb]at h4
   have hq':q<64:=by omega
   refine zg (λh5=>zo ?_) (λh5=>zp ?_)
   ·simp only[zb]at h5
    have hq16:q<16:=by omega
    refine zw (λi:Nat=>{F:=[(2, .r (us kTab)),(7, .own 0),(8, .r (bs M)),(13, .r (I (64*t:Nat))),(14, .own 1),(15, .r (I q)),(16, .r (U64 (accM K (4*q) i))),(17, .r (I i))],O:=[(0,some (.ch 104 1 H.list.length (H.list.map U64) false)),(1,some (.ch 104 1 (wTo K q).length ((wTo K q).map U64) true))],nx:=2})
     (λi=>i<=4) (λi=>4-i) 0 (by omega) (zac [(0,0),(1,1)] rfl ⟨cr,rfl,cr,cr,rfl,cr,cr,cr,trivial⟩ ⟨zbc rfl,zbc rfl,trivial⟩) ?_
    intro i hi
    refine zg (λh6=>zo ?_) (λh6=>zp ?_)
    ·simp only[zb]at h6
     have hi':i<4:=by omega
     have ha:=z0w K (4*q) i (by omega)
     have hat:=hKat (4*q+i) (by omega)
     have hu:=(M.getD (64*t+(4*q+i)) 0).toNat_lt
     refine Vint.u64 (256*accM K (4*q) i) (by omega) (by omega) ?_
     refine zc rfl (by omega) ?_
     refine zc rfl (by omega) ?_
     refine zc rfl (by omega) ?_
     refine zk (by omega) (by rw[hT];omega) (z34 (j:=64*t+(4*q+i)) (by omega) (by omega)) (zf rfl ?_)
     refine Vint.u64 (M.getD (64*t+(4*q+i)) 0).toNat rfl (by omega) ?_
     refine Vint.u64 (accM K (4*q) (i+1)) (by rw[accM,hat];omega) (by rw[accM,hat];omega) ?_
     refine zc (m:=((i+1:Nat):Int)) (by omega) (by omega) ?_
     exact⟨i+1,by omega,by omega,zac [(0,0),(1,1)] rfl ⟨cr,rfl,cr,cr,rfl,cr,cr,cr,trivial⟩ ⟨zbc rfl,zbc rfl,trivial⟩⟩
    ·simp only[zb]at h6
     obtain rfl:i=4:=by omega
     refine zu ?_
     refine zy (j:=(wTo K (q+1)).length) (zs:=(wTo K (q+1)).map U64) (by rw[hwl];simp only[maxLen];omega) (by rw[hwl];simp;omega) (by rw[hwl,za1]) (by rw[zq4,zzs hq16,zu5];exact(List.map_append (f:=U64) (l₁:=wTo K q) (l₂:=[be32 K (4*q)])).symm) ?_
     refine zc (m:=((q+1:Nat):Int)) (by omega) (by omega) ?_
     exact⟨q+1,by omega,by omega,zac [(0,0),(1,_)] rfl ⟨cr,rfl,cr,cr,rfl,cr,trivial⟩ ⟨zbc rfl,zbc rfl,trivial⟩⟩
   ·simp only[zb]at h5
    have hq16:16<=q:=by omega
    have w15:=zf4 K q (q-15)
    have w2:=zf4 K q (q-2)
    have w7:=zf4 K q (q-7)
    have w16:=zf4 K q (q-16)
    have hnx:=zzr (b:=K) hq16
    have s0:=z5d w15
    have s1:=z5e w2
    obtain⟨W,hW⟩: ∃W,W=wTo K q:=⟨_,rfl⟩
    rw[<-hW]at w15 w2 w7 w16 hnx s0 s1 hwl
    have hnext:wTo K (q+1)=W++[zdc K W]:=by rw[zq4,<-hW]
    have hwl1:(wTo K (q+1)).length=q+1:=za1 K _
    rw[<-hW]
    have i15:(-9223372036854775808:Int)<=(q:Int)-15/\(q:Int)-15<=9223372036854775807:=by omega
    have i2:(-9223372036854775808:Int)<=(q:Int)-2/\(q:Int)-2<=9223372036854775807:=by omega
    refine Vdraw.mk' (by kernel_rfl) ?_
    refine zc rfl i15 (zk (by omega) (by omega) (zdf (j:=q-15) (by omega) (by omega)) (zf rfl ?_))
    refine zd (zds _ 7 w15 (by omega)) ?_
    refine zc rfl i15 (zk (by omega) (by omega) (zdf (j:=q-15) (by omega) (by omega)) (zf rfl ?_))
    refine zd (zds _ 18 w15 (by omega)) ?_
    refine Vbits.xor (rotr 7 (W.getD (q-15) 0)) (rotr 18 (W.getD (q-15) 0)) rfl rfl (Nat.lt_trans (za2 w15 (by omega)) (by decide)) (Nat.lt_trans (za2 w15 (by omega)) (by decide)) ?_
    refine zc rfl i15 (zk (by omega) (by omega) (zdf (j:=q-15) (by omega) (by omega)) (zf rfl ?_))
    refine zd (zr9 _ 3 w15 (by omega)) ?_
    refine Vbits.xor (rotr 7 (W.getD (q-15) 0)^^^rotr 18 (W.getD (q-15) 0)) (W.getD (q-15) 0/2^3) rfl rfl (Nat.lt_trans (zbo (za2 w15 (by omega)) (za2 w15 (by omega))) (by decide)) (by have:=Nat.div_le_self (W.getD (q-15) 0) (2^3);omega) ?_
    refine Vdraw.mk' (by kernel_rfl) ?_
    refine zc rfl i2 (zk (by omega) (by omega) (zdf (j:=q-2) (by omega) (by omega)) (zf rfl ?_))
    refine zd (zds _ 17 w2 (by omega)) ?_
    refine zc rfl i2 (zk (by omega) (by omega) (zdf (j:=q-2) (by omega) (by omega)) (zf rfl ?_))
    refine zd (zds _ 19 w2 (by omega)) ?_
    refine Vbits.xor (rotr 17 (W.getD (q-2) 0)) (rotr 19 (W.getD (q-2) 0)) rfl rfl (Nat.lt_trans (za2 w2 (by omega)) (by decide)) (Nat.lt_trans (za2 w2 (by omega)) (by decide)) ?_
    refine zc rfl i2 (zk (by omega) (by omega) (zdf (j:=q-2) (by omega) (by omega)) (zf rfl ?_))
    refine zd (zr9 _ 10 w2 (by omega)) ?_
    refine Vbits.xor (rotr 17 (W.getD (q-2) 0)^^^rotr 19 (W.getD (q-2) 0)) (W.getD (q-2) 0/2^10) rfl rfl (Nat.lt_trans (zbo (za2 w2 (by omega)) (za2 w2 (by omega))) (by decide)) (by have:=Nat.div_le_self (W.getD (q-2) 0) (2^10);omega) ?_
    have e0:rotr 7 (W.getD (q-15) 0)^^^rotr 18 (W.getD (q-15) 0)^^^W.getD (q-15) 0/2^3=ss0 (W.getD (q-15) 0):=rfl
    have e1:rotr 17 (W.getD (q-2) 0)^^^rotr 19 (W.getD (q-2) 0)^^^W.getD (q-2) 0/2^10=ss1 (W.getD (q-2) 0):=rfl
    rw[e0,e1]
    refine Vdraw.mk' (by kernel_rfl) ?_
    refine zc rfl (by omega) (zk (by omega) (by omega) (zdf (j:=q-7) (by omega) (by omega)) (zf rfl ?_))
    refine Vint.u64 (ss1 (W.getD (q-2) 0)+W.getD (q-7) 0) (by omega) (by omega) ?_
    refine Vint.u64 (ss1 (W.getD (q-2) 0)+W.getD (q-7) 0+ss0 (W.getD (q-15) 0)) (by omega) (by omega) ?_
    refine zc rfl (by omega) (zk (by omega) (by omega) (zdf (j:=q-16) (by omega) (by omega)) (zf rfl ?_))
    refine Vint.u64 (ss1 (W.getD (q-2) 0)+W.getD (q-7) 0+ss0 (W.getD (q-15) 0)+W.getD (q-16) 0) (by omega) (by omega) ?_
    refine Vrem.nat (ss1 (W.getD (q-2) 0)+W.getD (q-7) 0+ss0 (W.getD (q-15) 0)+W.getD (q-16) 0) 4294967296 rfl rfl (by omega) ?_
    rw[<-hnx]
    refine zu ?_
    refine zy (j:=(wTo K (q+1)).length) (zs:=(wTo K (q+1)).map U64) (by rw[hwl];simp only[maxLen];omega) (by rw[hwl];simp;omega) (by rw[hwl,hwl1]) (by rw[hnext];exact(List.map_append (f:=U64) (l₁:=W) (l₂:=[zdc K W])).symm) ?_
    refine zc (m:=((q+1:Nat):Int)) (by omega) (by omega) ?_
    exact⟨q+1,by omega,by omega,zac [(0,0),(1,_)] rfl ⟨cr,rfl,cr,cr,rfl,cr,trivial⟩ ⟨zbc rfl,zbc rfl,trivial⟩⟩
  simp only[zb]at h4
  obtain rfl:q=64:=by omega
  obtain⟨W,hW⟩: ∃W,W=wTo K 64:=⟨_,rfl⟩
  rw[<-hW]at hwl⊢
  refine zu ?_
  refine zy (j:=H.list.length) (zs:=H.list.map U64) (by simp[H8.list,maxLen]) (by simp[H8.list]) (by simp) rfl ?_
  refine zw (λq:Nat=>{F:=[(2, .r (us kTab)),(7, .own 0),(8, .r (bs M)),(13, .r (I (64*t:Nat))),(14, .r (us W)),(20, .r (us (zbz K H q).list)),(21, .r (I q))],O:=[(0,some (.ch 104 1 H.list.length (H.list.map U64) false))],nx:=1})
   (λq=>q<=64) (λq=>64-q) 0 (by omega) (zac [(0,0)] rfl ⟨cr,rfl,cr,cr,cr,cr,cr,trivial⟩ ⟨zbc rfl,trivial⟩) ?_
  intro q hq
  obtain⟨s,hs⟩: ∃s,s=zbz K H q:=⟨_,rfl⟩
  have hsok:s.ok:=hs▸zh1 hHok q
  rw[<-hs]
  obtain⟨oa,ob,oc,od,oe,of_,og,oh⟩:=id hsok
  refine zg (λh5=>zo ?_) (λh5=>zp ?_)
  ·simp only[zb]at h5
   have hq':q<64:=by omega
   refine zw (λi:Nat=>{F:=[(2, .r (us kTab)),(7, .own 0),(8, .r (bs M)),(13, .r (I (64*t:Nat))),(14, .r (us W)),(20, .r (us s.list)),(21, .r (I q)),(22, .r (U64 (chN s.e s.f s.g%2^i))),(23, .r (U64 (majN s.a s.b s.c%2^i))),(24, .r (U64 (2^i))),(25, .r (I i))],O:=[(0,some (.ch 104 1 H.list.length (H.list.map U64) false))],nx:=1})
    (λi=>i<=32) (λi=>32-i) 0 (by omega) (zac [(0,0)] rfl ⟨cr,rfl,cr,cr,cr,cr,cr,ze (by simp[Nat.mod_one,ofC]),ze (by simp[Nat.mod_one,ofC]),cr,cr,trivial⟩ ⟨zbc rfl,trivial⟩) ?_
   intro i hi
   have hip:2^i<=2^32:=Nat.pow_le_pow_right (by omega) hi
   have hip0:=zay i
   have hcl:=z3c (e:=s.e) (f:=s.f) (g:=s.g) oe
   have hml:=z12 (a:=s.a) (b:=s.b) (c:=s.c) oa ob
   have hcm:=Nat.mod_le (chN s.e s.f s.g) (2^i)
   have hmm:=Nat.mod_le (majN s.a s.b s.c) (2^i)
   have hcm1:=Nat.mod_le (chN s.e s.f s.g) (2^(i+1))
   have hmm1:=Nat.mod_le (majN s.a s.b s.c) (2^(i+1))
   refine zg (λh6=>zo ?_) (λh6=>zp ?_)
   ·simp only[zb]at h6
    have hi':i<32:=by omega
    have hst:=z03 (e:=s.e) (f:=s.f) (g:=s.g) oe hi'
    refine zk (cs:=[U64 s.e]) (by omega) (by simp[H8.list]) rfl (zf rfl ?_)
    refine Vquo.nat s.e (2^i) rfl rfl (zay _) (by omega) ?_
    refine Vrem.nat (s.e/2^i) 2 rfl rfl (by omega) ?_
    refine zg (λh7=>zo ?_) (λh7=>zp ?_)
    ·simp only[zb]at h7
     have hch:=hst.1 (by omega)
     refine zk (cs:=[U64 s.f]) (by omega) (by simp[H8.list]) rfl (zf rfl ?_)
     refine Vquo.nat s.f (2^i) rfl rfl (zay _) (by omega) ?_
     refine Vrem.nat (s.f/2^i) 2 rfl rfl (by omega) ?_
     obtain⟨Pp,hPp⟩: ∃Pp,Pp=s.f/2^i%2*2^i:=⟨_,rfl⟩
     have hPl:Pp<=2^i:=by rw[hPp];have:=Nat.mul_le_mul_right (2^i) (show s.f/2^i%2<=1 by omega);omega
     rw[<-hPp]at hch
     refine Vint.u64 Pp (by rw[hPp,Int.natCast_mul]) (by omega) ?_
     refine Vint.u64 (chN s.e s.f s.g%2^(i+1)) (by rw[hch];omega) (by omega) ?_
     refine Vdraw.mk' (by kernel_rfl) ?_
     refine zk (cs:=[U64 s.a]) (by omega) (by simp[H8.list]) rfl (zf rfl ?_)
     refine Vquo.nat s.a (2^i) rfl rfl (zay _) (by omega) ?_
     refine Vrem.nat (s.a/2^i) 2 rfl rfl (by omega) ?_
     refine zk (cs:=[U64 s.b]) (by omega) (by simp[H8.list]) rfl (zf rfl ?_)
     refine Vquo.nat s.b (2^i) rfl rfl (zay _) (by omega) ?_
     refine Vrem.nat (s.b/2^i) 2 rfl rfl (by omega) ?_
     refine Vint.u64 (s.a/2^i%2+s.b/2^i%2) (by omega) (by omega) ?_
     refine zk (cs:=[U64 s.c]) (by omega) (by simp[H8.list]) rfl (zf rfl ?_)
     refine Vquo.nat s.c (2^i) rfl rfl (zay _) (by omega) ?_
     refine Vrem.nat (s.c/2^i) 2 rfl rfl (by omega) ?_
     refine Vint.u64 (s.a/2^i%2+s.b/2^i%2+s.c/2^i%2) (by omega) (by omega) ?_
     refine zg (λh8=>zo ?_) (λh8=>zp ?_)
     ·simp only[zb]at h8
      have hmj:=(zht (a:=s.a) (b:=s.b) (c:=s.c) (t:=i)).1 (by omega)
      refine Vint.u64 (majN s.a s.b s.c%2^(i+1)) (by rw[hmj];omega) (by omega) ?_
      refine Vint.u64 (2^(i+1)) (by rw[Nat.pow_succ];omega) (by rw[Nat.pow_succ];omega) ?_
      refine zc (m:=((i+1:Nat):Int)) (by omega) (by omega) ?_
      exact⟨i+1,by omega,by omega,zac [(0,0)] rfl ⟨cr,rfl,cr,cr,cr,cr,cr,cr,cr,cr,cr,trivial⟩ ⟨zbc rfl,trivial⟩⟩
     ·simp only[zb]at h8
      have hmj:=(zht (a:=s.a) (b:=s.b) (c:=s.c) (t:=i)).2 (by omega)
      refine Vint.u64 (2^(i+1)) (by rw[Nat.pow_succ];omega) (by rw[Nat.pow_succ];omega) ?_
      refine zc (m:=((i+1:Nat):Int)) (by omega) (by omega) ?_
      exact⟨i+1,by omega,by omega,zac [(0,0)] rfl ⟨cr,rfl,cr,cr,cr,cr,cr,cr,ze (by rw[hmj]),cr,cr,trivial⟩ ⟨zbc rfl,trivial⟩⟩
    ·simp only[zb]at h7
     have hch:=hst.2 (by omega)
     refine zk (cs:=[U64 s.g]) (by omega) (by simp[H8.list]) rfl (zf rfl ?_)
     refine Vquo.nat s.g (2^i) rfl rfl (zay _) (by omega) ?_
     refine Vrem.nat (s.g/2^i) 2 rfl rfl (by omega) ?_
     obtain⟨Pp,hPp⟩: ∃Pp,Pp=s.g/2^i%2*2^i:=⟨_,rfl⟩
     have hPl:Pp<=2^i:=by rw[hPp];have:=Nat.mul_le_mul_right (2^i) (show s.g/2^i%2<=1 by omega);omega
     rw[<-hPp]at hch
     refine Vint.u64 Pp (by rw[hPp,Int.natCast_mul]) (by omega) ?_
     refine Vint.u64 (chN s.e s.f s.g%2^(i+1)) (by rw[hch];omega) (by omega) ?_
     refine Vdraw.mk' (by kernel_rfl) ?_
     refine zk (cs:=[U64 s.a]) (by omega) (by simp[H8.list]) rfl (zf rfl ?_)
     refine Vquo.nat s.a (2^i) rfl rfl (zay _) (by omega) ?_
     refine Vrem.nat (s.a/2^i) 2 rfl rfl (by omega) ?_
     refine zk (cs:=[U64 s.b]) (by omega) (by simp[H8.list]) rfl (zf rfl ?_)
     refine Vquo.nat s.b (2^i) rfl rfl (zay _) (by omega) ?_
     refine Vrem.nat (s.b/2^i) 2 rfl rfl (by omega) ?_
     refine Vint.u64 (s.a/2^i%2+s.b/2^i%2) (by omega) (by omega) ?_
     refine zk (cs:=[U64 s.c]) (by omega) (by simp[H8.list]) rfl (zf rfl ?_)
     refine Vquo.nat s.c (2^i) rfl rfl (zay _) (by omega) ?_
     refine Vrem.nat (s.c/2^i) 2 rfl rfl (by omega) ?_
     refine Vint.u64 (s.a/2^i%2+s.b/2^i%2+s.c/2^i%2) (by omega) (by omega) ?_
     refine zg (λh8=>zo ?_) (λh8=>zp ?_)
     ·simp only[zb]at h8
      have hmj:=(zht (a:=s.a) (b:=s.b) (c:=s.c) (t:=i)).1 (by omega)
      refine Vint.u64 (majN s.a s.b s.c%2^(i+1)) (by rw[hmj];omega) (by omega) ?_
      refine Vint.u64 (2^(i+1)) (by rw[Nat.pow_succ];omega) (by rw[Nat.pow_succ];omega) ?_
      refine zc (m:=((i+1:Nat):Int)) (by omega) (by omega) ?_
      exact⟨i+1,by omega,by omega,zac [(0,0)] rfl ⟨cr,rfl,cr,cr,cr,cr,cr,cr,cr,cr,cr,trivial⟩ ⟨zbc rfl,trivial⟩⟩
     ·simp only[zb]at h8
      have hmj:=(zht (a:=s.a) (b:=s.b) (c:=s.c) (t:=i)).2 (by omega)
      refine Vint.u64 (2^(i+1)) (by rw[Nat.pow_succ];omega) (by rw[Nat.pow_succ];omega) ?_
      refine zc (m:=((i+1:Nat):Int)) (by omega) (by omega) ?_
      exact⟨i+1,by omega,by omega,zac [(0,0)] rfl ⟨cr,rfl,cr,cr,cr,cr,cr,cr,ze (by rw[hmj]),cr,cr,trivial⟩ ⟨zbc rfl,trivial⟩⟩
   simp only[zb]at h6
   obtain rfl:i=32:=by omega
   rw[Nat.mod_eq_of_lt (show chN s.e s.f s.g<2^32 from hcl),Nat.mod_eq_of_lt (show majN s.a s.b s.c<2^32 from hml)]
   have hk:=z1x q
   have hw:W.getD q 0<4294967296:=by rw[hW];exact zf4 K 64 q
   have b1:=z3a oe
   have b0:=z29 oa
   refine Vdraw.mk' (by kernel_rfl) ?_
   refine zk (cs:=[U64 s.h]) (by omega) (by simp[H8.list]) rfl (zf rfl ?_)
   refine zk (cs:=[U64 s.e]) (by omega) (by simp[H8.list]) rfl (zf rfl ?_)
   refine zd (zds _ 6 oe (by omega)) ?_
   refine zk (cs:=[U64 s.e]) (by omega) (by simp[H8.list]) rfl (zf rfl ?_)
   refine zd (zds _ 11 oe (by omega)) ?_
   refine Vbits.xor (rotr 6 s.e) (rotr 11 s.e) rfl rfl (Nat.lt_trans (za2 oe (by omega)) (by decide)) (Nat.lt_trans (za2 oe (by omega)) (by decide)) ?_
   refine zk (cs:=[U64 s.e]) (by omega) (by simp[H8.list]) rfl (zf rfl ?_)
   refine zd (zds _ 25 oe (by omega)) ?_
   refine Vbits.xor (rotr 6 s.e^^^rotr 11 s.e) (rotr 25 s.e) rfl rfl (Nat.lt_trans (zbo (za2 oe (by omega)) (za2 oe (by omega))) (by decide)) (Nat.lt_trans (za2 oe (by omega)) (by decide)) ?_
   refine Vint.u64 (s.h+bs1 s.e) (by rw[Int.natCast_add];rfl) (by omega) ?_
   refine Vint.u64 (s.h+bs1 s.e+chN s.e s.f s.g) (by omega) (by omega) ?_
   refine zk (by omega) (by rw[zkn];omega) (zdf (j:=q) rfl (by rw[zkn];omega)) (zf rfl ?_)
   refine Vint.u64 (s.h+bs1 s.e+chN s.e s.f s.g+kTab.getD q 0) (by omega) (by omega) ?_
   refine zk (by omega) (by rw[hwl];omega) (zdf (j:=q) rfl (by rw[hwl];omega)) (zf rfl ?_)
   obtain⟨t1,ht1⟩: ∃t1,t1=t1N (kTab.getD q 0) (W.getD q 0) s:=⟨_,rfl⟩
   have ht1':t1=s.h+bs1 s.e+chN s.e s.f s.g+kTab.getD q 0+W.getD q 0:=ht1
   refine Vint.u64 t1 (by omega) (by omega) ?_
   refine Vdraw.mk' (by kernel_rfl) ?_
   refine zk (cs:=[U64 s.a]) (by omega) (by simp[H8.list]) rfl (zf rfl ?_)
   refine zd (zds _ 2 oa (by omega)) ?_
   refine zk (cs:=[U64 s.a]) (by omega) (by simp[H8.list]) rfl (zf rfl ?_)
   refine zd (zds _ 13 oa (by omega)) ?_
   refine Vbits.xor (rotr 2 s.a) (rotr 13 s.a) rfl rfl (Nat.lt_trans (za2 oa (by omega)) (by decide)) (Nat.lt_trans (za2 oa (by omega)) (by decide)) ?_
   refine zk (cs:=[U64 s.a]) (by omega) (by simp[H8.list]) rfl (zf rfl ?_)
   refine zd (zds _ 22 oa (by omega)) ?_
   refine Vbits.xor (rotr 2 s.a^^^rotr 13 s.a) (rotr 22 s.a) rfl rfl (Nat.lt_trans (zbo (za2 oa (by omega)) (za2 oa (by omega))) (by decide)) (Nat.lt_trans (za2 oa (by omega)) (by decide)) ?_
   obtain⟨t2,ht2⟩: ∃t2,t2=t2N s:=⟨_,rfl⟩
   have ht2':t2=bs0 s.a+majN s.a s.b s.c:=ht2
   refine Vint.u64 t2 (by rw[ht2',Int.natCast_add];rfl) (by omega) ?_
   refine Vdraw.mk' (by kernel_rfl) ?_
   refine Vint.u64 (t1+t2) (by omega) (by omega) ?_
   refine Vrem.nat (t1+t2) 4294967296 rfl rfl (by omega) ?_
   refine zk (cs:=[U64 s.a]) (by omega) (by simp[H8.list]) rfl (zf rfl ?_)
   refine zk (cs:=[U64 s.b]) (by omega) (by simp[H8.list]) rfl (zf rfl ?_)
   refine zk (cs:=[U64 s.c]) (by omega) (by simp[H8.list]) rfl (zf rfl ?_)
   refine zk (cs:=[U64 s.d]) (by omega) (by simp[H8.list]) rfl (zf rfl ?_)
   refine Vint.u64 (s.d+t1) (by omega) (by omega) ?_
   refine Vrem.nat (s.d+t1) 4294967296 rfl rfl (by omega) ?_
   refine zk (cs:=[U64 s.e]) (by omega) (by simp[H8.list]) rfl (zf rfl ?_)
   refine zk (cs:=[U64 s.f]) (by omega) (by simp[H8.list]) rfl (zf rfl ?_)
   refine zk (cs:=[U64 s.g]) (by omega) (by simp[H8.list]) rfl (zf rfl ?_)
   refine zu ?_
   refine zc (m:=((q+1:Nat):Int)) (by omega) (by omega) ?_
   have hnx:zbz K H (q+1)=⟨(t1+t2)%4294967296,s.a,s.b,s.c,(s.d+t1)%4294967296,s.e,s.f,s.g⟩:=by
    rw[ht1,ht2,hW,hs];rfl
   exact⟨q+1,by omega,by omega,zac [(0,0)] rfl ⟨cr,rfl,cr,cr,cr,ze (by rw[hnx];rfl),cr,trivial⟩ ⟨zbc rfl,trivial⟩⟩
  simp only[zb]at h5
  obtain rfl:q=64:=by omega
  have hadd:addH H s=zge H K:=by rw[hs];rfl
  refine zw (λi:Nat=>{F:=[(2, .r (us kTab)),(7, .own 0),(8, .r (bs M)),(13, .r (I (64*t:Nat))),(20, .r (us s.list)),(28, .r (I i))],O:=[(0,some (.ch 104 1 (mixH H s i).length ((mixH H s i).map U64) false))],nx:=1})
   (λi=>i<=8) (λi=>8-i) 0 (by omega) (zac [(0,0)] rfl ⟨cr,rfl,cr,cr,cr,cr,trivial⟩ ⟨zbc rfl,trivial⟩) ?_
  intro i hi
  have hml:=zp7 H s hi
  refine zg (λh6=>zo ?_) (λh6=>zp ?_)
  ·simp only[zb]at h6
   have hi':i<8:=by omega
   obtain⟨m1,m2⟩:=z15 H s hi'
   have x1:=ztb hHok i
   have x2:=ztb hsok i
   refine Vdraw.mk' (by kernel_rfl) ?_
   refine Vadr.mk' i rfl (by omega) ?_
   refine zf (f:=U64 (H.list.getD i 0)) (by rw[<-m1,Nat.mul_one,List.getElem?_map,List.getD_eq_getElem?_getD,List.getElem?_eq_getElem (by omega)];rfl) ?_
   refine zk (by omega) (by simp[H8.list];omega) (zdf (j:=i) rfl (by simp[H8.list];omega)) (zf rfl ?_)
   refine Vint.u64 (H.list.getD i 0+s.list.getD i 0) (by omega) (by omega) ?_
   refine Vrem.nat (H.list.getD i 0+s.list.getD i 0) 4294967296 rfl rfl (by omega) ?_
   refine Vadr.mk' i rfl (by omega) ?_
   refine⟨by rw[List.length_map,hml];simp;omega,(mixH H s (i+1)).map U64,?_,?_⟩
   ·rw[<-m2,List.map_append,List.map_append,List.map_take,List.map_drop]
    simp[zdy,cellsOf]
   refine zc (m:=((i+1:Nat):Int)) (by omega) (by omega) ?_
   exact⟨i+1,by omega,by omega,zac [(0,0)] rfl ⟨cr,rfl,cr,cr,cr,cr,trivial⟩ ⟨⟨rfl,rfl,by rw[hml,zp7 H s (by omega)],rfl,zm _⟩,trivial⟩⟩
  simp only[zb]at h6
  obtain rfl:i=8:=by omega
  refine zc (m:=((64*(t+1):Nat):Int)) (by omega) (by omega) ?_
  exact⟨t+1,by omega,by omega,zac [(0,0)] rfl ⟨cr,rfl,cr,cr,trivial⟩ ⟨zbc (by rw[<-hstep,<-hadd];rfl),trivial⟩⟩
 ·simp only[zb]at h3
  obtain rfl:t=T:=by omega
  have hres:shaB b=outH H:=by
   unfold shaB
   rw[<-hM,hT,Nat.mul_div_cancel_left _ (by omega),hH]
  refine zw (λi:Nat=>{F:=[(7, .own 0),(29, .own 1),(30, .r (I i))],O:=[(0,some (.ch 104 1 H.list.length (H.list.map U64) false)),(1,some (.ch 5 1 ((H.list.take i).flatMap (beB 4)).length (((H.list.take i).flatMap (beB 4)).map U8) true))],nx:=2})
   (λi=>i<=8) (λi=>8-i) 0 (by omega) ((zi3 29 5 1 rfl).trans (zac [(0,0),(1,1)] rfl ⟨rfl,rfl,cr,trivial⟩ ⟨zbc rfl,⟨rfl,rfl,rfl,rfl,zm _⟩,trivial⟩)) ?_
  intro i hi
  have hHl:H.list.length=8:=rfl
  refine zg (λh4=>zo ?_) (λh4=>zp ?_)
  ·simp only[zb]at h4
   have hi':i<8:=by omega
   obtain⟨x,hx⟩: ∃x,x=H.list.getD i 0:=⟨_,rfl⟩
   have hxl:x<4294967296:=hx▸ztb hHok i
   have hcell:(H.list.map U64)[i*1]?=some (U64 x):=by rw[hx,Nat.mul_one,List.getElem?_map,List.getD_eq_getElem?_getD,List.getElem?_eq_getElem (by omega)];rfl
   have hflat:(H.list.take (i+1)).flatMap (beB 4)=(H.list.take i).flatMap (beB 4)++beB 4 x:=by
    rw[List.take_add_one,List.flatMap_append,hx,List.getD_eq_getElem?_getD,List.getElem?_eq_getElem (by omega)]
    simp
   have hlen:((H.list.take i).flatMap (beB 4)).length<=32:=by
    have: ∀l:List Nat,(l.flatMap (beB 4)).length=4*l.length:=λl=>by
     induction l with
     |nil=>rfl
     |cons y l ih=>simp only[List.flatMap_cons,List.length_append,zat,ih,List.length_cons];omega
    rw[this,List.length_take];omega
   refine Vdraw.mk' (by kernel_rfl) ?_
   refine Vadr.mk' i rfl (by omega) (zf hcell ?_)
   refine Vquo.nat x 16777216 rfl rfl (by omega) (by omega) ?_
   refine Vint.u8 (x/16777216) rfl ?_
   refine Vadr.mk' i rfl (by omega) (zf hcell ?_)
   refine Vquo.nat x 65536 rfl rfl (by omega) (by omega) ?_
   refine Vrem.nat (x/65536) 256 rfl rfl (by omega) ?_
   refine Vint.u8 (x/65536%256) rfl ?_
   rw[zmq]
   refine Vadr.mk' i rfl (by omega) (zf hcell ?_)
   refine Vquo.nat x 256 rfl rfl (by omega) (by omega) ?_
   refine Vrem.nat (x/256) 256 rfl rfl (by omega) ?_
   refine Vint.u8 (x/256%256) rfl ?_
   rw[zmq]
   refine Vadr.mk' i rfl (by omega) (zf hcell ?_)
   refine Vrem.nat x 256 rfl rfl (by omega) ?_
   refine Vint.u8 (x%256) rfl ?_
   rw[zmq]
   refine zu ?_
   have hbe:beB 4 x=[UInt8.ofNat (x/16777216),UInt8.ofNat (x/65536),UInt8.ofNat (x/256),UInt8.ofNat x]:=by simp[beB]
   refine zy (j:=((H.list.take (i+1)).flatMap (beB 4)).length) (zs:=((H.list.take (i+1)).flatMap (beB 4)).map U8) (by simp only[maxLen];omega) (by show(((H.list.take i).flatMap (beB 4)).length+4)*1<=140737488355328;omega) (by rw[hflat,List.length_append,zat]) (by rw[hflat,hbe];exact(List.map_append (f:=U8) (l₁:=(H.list.take i).flatMap (beB 4)) (l₂:=[UInt8.ofNat (x/16777216),UInt8.ofNat (x/65536),UInt8.ofNat (x/256),UInt8.ofNat x])).symm) ?_
   refine zc (m:=((i+1:Nat):Int)) (by omega) (by omega) ?_
   exact⟨i+1,by omega,by omega,zac [(0,0),(1,_)] rfl ⟨rfl,rfl,cr,trivial⟩ ⟨zbc rfl,cvCh rfl,trivial⟩⟩
  ·simp only[zb]at h4
   obtain rfl:i=8:=by omega
   exact zdw (by rw[hres];rfl)
theorem zkm(l:List UInt8)(hl:l.length<=100000000000):zab Tryz.prog 226 [bs l] (bch (shaB l)):=by
 refine zaa (T:=Tab) mixed Tab_ok Tryz.func226 rfl (by kernel_rfl) ?_
 refine zd z09 ?_
 refine zd (z5u l hl) ?_
 exact rfl
end
end Go.Proofs.YtddokcpcpoihmaaGreat.Sx
