import Derived.Test.YtkegaaonpekkgaaGreatZKu
import Derived.Test.YtkegaaonpekkgaaGreatZSxBx
namespace Go.Proofs.YtkegaaonpekkgaaGreat.Sx
open Go.RowKit
theorem zew{l:List Nat}{i:Int}{j:Nat}(h:i=j)(hj:j<l.length):((l.map U64).drop (i.toNat*1)).take 1=[U64 (l.getD j 0)]:=by
 rw[za3 h hj,List.getD_eq_getElem?_getD,List.getElem?_eq_getElem hj];rfl
def accM(b:List UInt8)(k:Nat):Nat->Nat
 |0=>0
 |i+1=>256*accM b k i+(b.getD (k+i) 0).toNat
theorem z6q(b:List UInt8)(k:Nat):accM b k 4=be32 b k:=by
 simp only[accM,be32,Nat.add_zero];omega
theorem zfcb(b:List UInt8)(k:Nat): ∀i,i<=4->accM b k i<4294967296:=by
 have h: ∀i,accM b k i<256^i:=by
  intro i
  induction i with
  |zero=>simp[accM]
  |succ i ih=>
   have h2:=(b.getD (k+i) 0).toNat_lt
   rw[accM,Nat.pow_succ];omega
 intro i hi
 have h1:=h i
 have h2:256^i<=256^4:=Nat.pow_le_pow_right (by omega) hi
 omega
def mixH(s x:H8)(t:Nat):List Nat:=(addH s x).list.take t++s.list.drop t
theorem zyk(s x:H8){t:Nat}(ht:t<=8):(mixH s x t).length=8:=by
 simp[mixH,H8.list];omega
theorem zhbb(s x:H8){t:Nat}(ht:t<8):(mixH s x t).getD t 0=s.list.getD t 0/\(mixH s x t).take t++[(s.list.getD t 0+x.list.getD t 0)%4294967296]++(mixH s x t).drop (t+1)=mixH s x (t+1):=by
 match t,ht with
 |0,_=>exact⟨rfl,rfl⟩
 |1,_=>exact⟨rfl,rfl⟩
 |2,_=>exact⟨rfl,rfl⟩
 |3,_=>exact⟨rfl,rfl⟩
 |4,_=>exact⟨rfl,rfl⟩
 |5,_=>exact⟨rfl,rfl⟩
 |6,_=>exact⟨rfl,rfl⟩
 |7,_=>exact⟨rfl,rfl⟩
theorem z3o{s:H8}(h:s.ok)(t:Nat):s.list.getD t 0<4294967296:=by
 obtain⟨a,b,c,d,e,f,g,i⟩:=h
 match t with
 |0=>exact a
 |1=>exact b
 |2=>exact c
 |3=>exact d
 |4=>exact e
 |5=>exact f
 |6=>exact g
 |7=>exact i
 |n+8=>simp[H8.list]
theorem zb0{ρ:List (Nat×Nat)}{S:St}{e:TypeId}{l m:List Nat}{pub:Bool}(h:l=m):cvOw ρ S (.ch e 1 l.length (l.map U64) pub) (.ch e 1 m.length (m.map U64) pub):=by
 subst h;exact⟨rfl,rfl,rfl,rfl,zn _⟩
theorem zz6(b:List UInt8)(t:Nat):wTo b (t+1)=wTo b t++[zee b (wTo b t)]:=rfl
theorem zd5b{b:List UInt8}{t:Nat}(ht:t<16):zee b (wTo b t)=be32 b (4*t):=by
 unfold zee;rw[zcr,if_pos ht]
theorem zd4b{b:List UInt8}{t:Nat}(ht:16<=t):zee b (wTo b t)=(ss1 ((wTo b t).getD (t-2) 0)+(wTo b t).getD (t-7) 0+ss0 ((wTo b t).getD (t-15) 0)+(wTo b t).getD (t-16) 0)%4294967296:=by
 unfold zee;rw[zcr,if_neg (by omega)]
theorem zecb(j:Nat):List.replicate j (0:UInt8)++[0]=List.replicate (j+1) 0:=by rw[List.replicate_succ']
set_option maxHeartbeats 4000000 in
theorem zm9b(b:List UInt8)(hb:b.length<=100000000000):aG 142 [bs b,us h0Tab.list,us kTab] (bch (shaB b)):=by
 refine aT Tryz.func142 rfl ?_
 refine Vpub.own ?_
 refine Vapp.mk' (j:=h0Tab.list.length) (zs:=h0Tab.list.map U64) (by decide) (by decide) rfl rfl ?_
 refine zw ?_
 refine Vapp.mk' (j:=b.length) (zs:=b.map U8) (by simp[maxLen];omega) (by simp;omega) (by simp) rfl ?_
 refine zw ?_
 refine Vapp.mk' (j:=(b++[128]).length) (zs:=(b++[128]).map U8) (by simp[maxLen];omega) (by simp;omega) (by simp) (by rw[List.map_append];rfl) ?_
 have hz:=zoj b.length
 refine zy (λj:Nat=>{F:=[(0, .r (bs b)),(2, .r (us kTab)),(7, .own 0),(8, .own 1)],O:=[(0,some (.ch 43 1 h0Tab.list.length (h0Tab.list.map U64) false)),(1,some (.ch 5 1 (b++[128]++List.replicate j 0).length ((b++[128]++List.replicate j 0).map U8) true))],nx:=2})
  (λj=>j<=zb7 b.length) (λj=>zb7 b.length-j) 0 (by omega) (zac [(0,_),(1,_)] rfl ⟨cr,cr,rfl,rfl,trivial⟩ ⟨zb0 rfl,cvCh (by simp),trivial⟩) ?_
 intro j hj
 have hlj:(b++[128]++List.replicate j (0:UInt8)).length=b.length+1+j:=by simp;omega
 refine Vrem.nat (b.length+1+j) 64 (by rw[hlj]) rfl (by omega) ?_
 refine zh (λh=>zp ?_) (λh=>zq ?_)
 ·simp only[zb]at h
  have hj':j<zb7 b.length:=by unfold zb7 at*;omega
  refine zw ?_
  refine Vapp.mk' (j:=(b++[128]++List.replicate (j+1) (0:UInt8)).length) (zs:=(b++[128]++List.replicate (j+1) 0).map U8) (by rw[hlj];simp[maxLen];omega) (by rw[hlj];simp;omega) (by simp;omega) (by rw[<-zecb,<-List.append_assoc];exact(List.map_append (f:=U8) (l₁:=b++[128]++List.replicate j 0) (l₂:=[0])).symm) ?_
  exact⟨j+1,by omega,by omega,zac [(0,0),(1,_)] rfl ⟨cr,cr,rfl,rfl,trivial⟩ ⟨zb0 rfl,cvCh rfl,trivial⟩⟩
 simp only[zb]at h
 obtain rfl:j=zb7 b.length:=by unfold zb7 at*;omega
 obtain⟨N,hN⟩: ∃N,N=b.length*8:=⟨_,rfl⟩
 refine Vint.u64 b.length rfl (by omega) ?_
 refine Vint.u64 N (by omega) (by omega) ?_
 obtain⟨B,hB⟩: ∃B,B=b++[128]++List.replicate (zb7 b.length) (0:UInt8):=⟨_,rfl⟩
 rw[<-hB]at hlj
 refine zy (λi:Nat=>{F:=[(2, .r (us kTab)),(7, .own 0),(8, .own 1),(9, .r (U64 N)),(10, .r (I i))],O:=[(0,some (.ch 43 1 h0Tab.list.length (h0Tab.list.map U64) false)),(1,some (.ch 5 1 (B++(beB 8 N).take i).length ((B++(beB 8 N).take i).map U8) true))],nx:=2})
  (λi=>i<=8) (λi=>8-i) 0 (by omega) (zac [(0,0),(1,1)] rfl ⟨cr,rfl,rfl,cr,cr,trivial⟩ ⟨zb0 rfl,cvCh (by rw[hB];simp),trivial⟩) ?_
 intro i hi
 have hbl: ∀i,((beB 8 N).take i).length<=8:=λi=>by rw[List.length_take,zak];omega
 refine zh (λh2=>zp ?_) (λh2=>zq ?_)
 ·simp only[zb]at h2
  have hi':i<8:=by omega
  have hbi:=hbl i
  refine zy (λk:Nat=>{F:=[(2, .r (us kTab)),(7, .own 0),(8, .own 1),(9, .r (U64 N)),(10, .r (I i)),(11, .r (U64 (256^k))),(12, .r (I k))],O:=[(0,some (.ch 43 1 h0Tab.list.length (h0Tab.list.map U64) false)),(1,some (.ch 5 1 (B++(beB 8 N).take i).length ((B++(beB 8 N).take i).map U8) true))],nx:=2})
   (λk=>k<=7-i) (λk=>7-i-k) 0 (by omega) (zac [(0,0),(1,1)] rfl ⟨cr,rfl,rfl,cr,cr,cr,cr,trivial⟩ ⟨zb0 rfl,cvCh rfl,trivial⟩) ?_
  intro k hk
  have hkp:256^k<=256^7:=Nat.pow_le_pow_right (by omega) (by omega)
  refine zd rfl (by omega) ?_
  refine zh (λh3=>zp ?_) (λh3=>zq ?_)
  ·simp only[zb]at h3
   have hkp':256^k<=256^6:=Nat.pow_le_pow_right (by omega) (by omega)
   refine Vint.u64 (256^(k+1)) (by rw[Nat.pow_succ];omega) (by rw[Nat.pow_succ];omega) ?_
   refine zd (m:=((k+1:Nat):Int)) (by omega) (by omega) ?_
   exact⟨k+1,by omega,by omega,zac [(0,0),(1,1)] rfl ⟨cr,rfl,rfl,cr,cr,cr,cr,trivial⟩ ⟨zb0 rfl,cvCh rfl,trivial⟩⟩
  ·simp only[zb]at h3
   obtain rfl:k=7-i:=by omega
   refine Vquo.nat N (256^(7-i)) rfl rfl (Nat.pow_pos (by omega)) (by omega) ?_
   refine Vrem.nat (N/256^(7-i)) 256 rfl rfl (by omega) ?_
   refine Vint.u8 (N/256^(7-i)%256) rfl ?_
   rw[zog]
   refine zw ?_
   have ht:=zp1 (s:=8) (n:=N) hi'
   refine Vapp.mk' (j:=(B++(beB 8 N).take (i+1)).length) (zs:=(B++(beB 8 N).take (i+1)).map U8) (by simp only[aL,hlj,maxLen];omega) (by simp only[aL,hlj];omega) (by rw[ht];simp only[aL,List.length_cons,List.length_nil];omega) (by rw[ht,<-List.append_assoc];exact(List.map_append (f:=U8) (l₁:=B++(beB 8 N).take i) (l₂:=[UInt8.ofNat (N/256^(8-1-i))])).symm) ?_
   refine zd (m:=((i+1:Nat):Int)) (by omega) (by omega) ?_
   exact⟨i+1,by omega,by omega,zac [(0,0),(1,_)] rfl ⟨cr,rfl,rfl,cr,cr,trivial⟩ ⟨zb0 rfl,cvCh rfl,trivial⟩⟩
 simp only[zb]at h2
 obtain rfl:i=8:=by omega
 obtain⟨M,hM⟩: ∃M,M=b++zhk b.length:=⟨_,rfl⟩
 have hBM:B++(beB 8 N).take 8=M:=by
  rw[hM,hB,List.take_of_length_le (by rw[zak];omega),hN]
  simp[zhk]
 have hMl:M.length=b.length+(9+zb7 b.length):=by rw[hM,aL,zof]
 have hM64:=zyx b.length
 obtain⟨T,hT⟩: ∃T,M.length=64*T:=⟨M.length/64,by rw[hMl];omega⟩
 rw[hBM]
 refine zy (λt:Nat=>{F:=[(2, .r (us kTab)),(7, .own 0),(8, .r (bs M)),(13, .r (I (64*t:Nat)))],O:=[(0,some (.ch 43 1 (runH t h0Tab M).list.length ((runH t h0Tab M).list.map U64) false))],nx:=1})
  (λt=>t<=T) (λt=>T-t) 0 (by omega) (zac [(0,0)] rfl ⟨cr,rfl,cr,cr,trivial⟩ ⟨zb0 rfl,trivial⟩) ?_
 intro t ht
 obtain⟨H,hH⟩: ∃H,H=runH t h0Tab M:=⟨_,rfl⟩
 have hHok:H.ok:=hH▸zo6 t h0Tab M z4l
 rw[<-hH]
 refine zh (λh3=>zp ?_) (λh3=>zq ?_)
 ·simp only[zb]at h3
  have ht':t<T:=by omega
  obtain⟨K,hK⟩: ∃K,K=(M.drop (64*t)).take 64:=⟨_,rfl⟩
  have hKat: ∀i,i<64->K.getD i 0=M.getD (64*t+i) 0:=λi hi=>by
   rw[hK,List.getD_eq_getElem?_getD,List.getD_eq_getElem?_getD,List.getElem?_take,if_pos hi,List.getElem?_drop]
  have hstep:zmm H K=runH (t+1) h0Tab M:=by rw[zn5,<-hH,<-hK]
  refine zy (λq:Nat=>{F:=[(2, .r (us kTab)),(7, .own 0),(8, .r (bs M)),(13, .r (I (64*t:Nat))),(14, .own 1),(15, .r (I q))],O:=[(0,some (.ch 43 1 H.list.length (H.list.map U64) false)),(1,some (.ch 43 1 (wTo K q).length ((wTo K q).map U64) true))],nx:=2})
   (λq=>q<=64) (λq=>64-q) 0 (by omega) ((zd7 14 43 1 rfl).trans (zac [(0,0),(1,1)] rfl ⟨cr,rfl,cr,cr,rfl,cr,trivial⟩ ⟨zb0 rfl,⟨rfl,rfl,rfl,rfl,zn _⟩,trivial⟩)) ?_
  intro q hq
  have hwl:=zcr K q
  refine zh (λh4=>zp ?_) (λh4=>zq ?_)
  ·simp only[zb]at h4
   have hq':q<64:=by omega
   refine zh (λh5=>zp ?_) (λh5=>zq ?_)
   ·simp only[zb]at h5
    have hq16:q<16:=by omega
    refine zy (λi:Nat=>{F:=[(2, .r (us kTab)),(7, .own 0),(8, .r (bs M)),(13, .r (I (64*t:Nat))),(14, .own 1),(15, .r (I q)),(16, .r (U64 (accM K (4*q) i))),(17, .r (I i))],O:=[(0,some (.ch 43 1 H.list.length (H.list.map U64) false)),(1,some (.ch 43 1 (wTo K q).length ((wTo K q).map U64) true))],nx:=2})
     (λi=>i<=4) (λi=>4-i) 0 (by omega) (zac [(0,0),(1,1)] rfl ⟨cr,rfl,cr,cr,rfl,cr,cr,cr,trivial⟩ ⟨zb0 rfl,zb0 rfl,trivial⟩) ?_
    intro i hi
    refine zh (λh6=>zp ?_) (λh6=>zq ?_)
    ·simp only[zb]at h6
     have hi':i<4:=by omega
     have ha:=zfcb K (4*q) i (by omega)
     have hat:=hKat (4*q+i) (by omega)
     have hu:=(M.getD (64*t+(4*q+i)) 0).toNat_lt
     refine Vint.u64 (256*accM K (4*q) i) (by omega) (by omega) ?_
     refine zd rfl (by omega) ?_
     refine zd rfl (by omega) ?_
     refine zd rfl (by omega) ?_
     refine zm (by omega) (by rw[hT];omega) (zi5 (j:=64*t+(4*q+i)) (by omega) (by omega)) (zg rfl ?_)
     refine Vint.u64 (M.getD (64*t+(4*q+i)) 0).toNat rfl (by omega) ?_
     refine Vint.u64 (accM K (4*q) (i+1)) (by rw[accM,hat];omega) (by rw[accM,hat];omega) ?_
     refine zd (m:=((i+1:Nat):Int)) (by omega) (by omega) ?_
     exact⟨i+1,by omega,by omega,zac [(0,0),(1,1)] rfl ⟨cr,rfl,cr,cr,rfl,cr,cr,cr,trivial⟩ ⟨zb0 rfl,zb0 rfl,trivial⟩⟩
    ·simp only[zb]at h6
     obtain rfl:i=4:=by omega
     refine zw ?_
     refine Vapp.mk' (j:=(wTo K (q+1)).length) (zs:=(wTo K (q+1)).map U64) (by rw[hwl];simp only[maxLen];omega) (by rw[hwl];simp;omega) (by rw[hwl,zcr]) (by rw[zz6,zd5b hq16,z6q];exact(List.map_append (f:=U64) (l₁:=wTo K q) (l₂:=[be32 K (4*q)])).symm) ?_
     refine zd (m:=((q+1:Nat):Int)) (by omega) (by omega) ?_
     exact⟨q+1,by omega,by omega,zac [(0,0),(1,_)] rfl ⟨cr,rfl,cr,cr,rfl,cr,trivial⟩ ⟨zb0 rfl,zb0 rfl,trivial⟩⟩
   ·simp only[zb]at h5
    have hq16:16<=q:=by omega
    have w15:=zfo K q (q-15)
    have w2:=zfo K q (q-2)
    have w7:=zfo K q (q-7)
    have w16:=zfo K q (q-16)
    have hnx:=zd4b (b:=K) hq16
    have s0:=zmmb w15
    have s1:=zmnb w2
    obtain⟨W,hW⟩: ∃W,W=wTo K q:=⟨_,rfl⟩
    rw[<-hW]at w15 w2 w7 w16 hnx s0 s1 hwl
    have hnext:wTo K (q+1)=W++[zee K W]:=by rw[zz6,<-hW]
    have hwl1:(wTo K (q+1)).length=q+1:=zcr K _
    rw[<-hW]
    have i15:(-9223372036854775808:Int)<=(q:Int)-15/\(q:Int)-15<=9223372036854775807:=by omega
    have i2:(-9223372036854775808:Int)<=(q:Int)-2/\(q:Int)-2<=9223372036854775807:=by omega
    refine aV ?_
    refine zd rfl i15 (zm (by omega) (by omega) (zew (j:=q-15) (by omega) (by omega)) (zg rfl ?_))
    refine ze (zfg _ 7 w15 (by omega)) ?_
    refine zd rfl i15 (zm (by omega) (by omega) (zew (j:=q-15) (by omega) (by omega)) (zg rfl ?_))
    refine ze (zfg _ 18 w15 (by omega)) ?_
    refine Vbits.xor (rotr 7 (W.getD (q-15) 0)) (rotr 18 (W.getD (q-15) 0)) rfl rfl (Nat.lt_trans (zbn w15 (by omega)) (by decide)) (Nat.lt_trans (zbn w15 (by omega)) (by decide)) ?_
    refine zd rfl i15 (zm (by omega) (by omega) (zew (j:=q-15) (by omega) (by omega)) (zg rfl ?_))
    refine ze (z1u _ 3 w15 (by omega)) ?_
    refine Vbits.xor (rotr 7 (W.getD (q-15) 0)^^^rotr 18 (W.getD (q-15) 0)) (W.getD (q-15) 0/2^3) rfl rfl (Nat.lt_trans (zb6 (zbn w15 (by omega)) (zbn w15 (by omega))) (by decide)) (by have:=Nat.div_le_self (W.getD (q-15) 0) (2^3);omega) ?_
    refine aV ?_
    refine zd rfl i2 (zm (by omega) (by omega) (zew (j:=q-2) (by omega) (by omega)) (zg rfl ?_))
    refine ze (zfg _ 17 w2 (by omega)) ?_
    refine zd rfl i2 (zm (by omega) (by omega) (zew (j:=q-2) (by omega) (by omega)) (zg rfl ?_))
    refine ze (zfg _ 19 w2 (by omega)) ?_
    refine Vbits.xor (rotr 17 (W.getD (q-2) 0)) (rotr 19 (W.getD (q-2) 0)) rfl rfl (Nat.lt_trans (zbn w2 (by omega)) (by decide)) (Nat.lt_trans (zbn w2 (by omega)) (by decide)) ?_
    refine zd rfl i2 (zm (by omega) (by omega) (zew (j:=q-2) (by omega) (by omega)) (zg rfl ?_))
    refine ze (z1u _ 10 w2 (by omega)) ?_
    refine Vbits.xor (rotr 17 (W.getD (q-2) 0)^^^rotr 19 (W.getD (q-2) 0)) (W.getD (q-2) 0/2^10) rfl rfl (Nat.lt_trans (zb6 (zbn w2 (by omega)) (zbn w2 (by omega))) (by decide)) (by have:=Nat.div_le_self (W.getD (q-2) 0) (2^10);omega) ?_
    have e0:rotr 7 (W.getD (q-15) 0)^^^rotr 18 (W.getD (q-15) 0)^^^W.getD (q-15) 0/2^3=ss0 (W.getD (q-15) 0):=rfl
    have e1:rotr 17 (W.getD (q-2) 0)^^^rotr 19 (W.getD (q-2) 0)^^^W.getD (q-2) 0/2^10=ss1 (W.getD (q-2) 0):=rfl
    rw[e0,e1]
    refine aV ?_
    refine zd rfl (by omega) (zm (by omega) (by omega) (zew (j:=q-7) (by omega) (by omega)) (zg rfl ?_))
    refine Vint.u64 (ss1 (W.getD (q-2) 0)+W.getD (q-7) 0) (by omega) (by omega) ?_
    refine Vint.u64 (ss1 (W.getD (q-2) 0)+W.getD (q-7) 0+ss0 (W.getD (q-15) 0)) (by omega) (by omega) ?_
    refine zd rfl (by omega) (zm (by omega) (by omega) (zew (j:=q-16) (by omega) (by omega)) (zg rfl ?_))
    refine Vint.u64 (ss1 (W.getD (q-2) 0)+W.getD (q-7) 0+ss0 (W.getD (q-15) 0)+W.getD (q-16) 0) (by omega) (by omega) ?_
    refine Vrem.nat (ss1 (W.getD (q-2) 0)+W.getD (q-7) 0+ss0 (W.getD (q-15) 0)+W.getD (q-16) 0) 4294967296 rfl rfl (by omega) ?_
    rw[<-hnx]
    refine zw ?_
    refine Vapp.mk' (j:=(wTo K (q+1)).length) (zs:=(wTo K (q+1)).map U64) (by rw[hwl];simp only[maxLen];omega) (by rw[hwl];simp;omega) (by rw[hwl,hwl1]) (by rw[hnext];exact(List.map_append (f:=U64) (l₁:=W) (l₂:=[zee K W])).symm) ?_
    refine zd (m:=((q+1:Nat):Int)) (by omega) (by omega) ?_
    exact⟨q+1,by omega,by omega,zac [(0,0),(1,_)] rfl ⟨cr,rfl,cr,cr,rfl,cr,trivial⟩ ⟨zb0 rfl,zb0 rfl,trivial⟩⟩
  simp only[zb]at h4
  obtain rfl:q=64:=by omega
  obtain⟨W,hW⟩: ∃W,W=wTo K 64:=⟨_,rfl⟩
  rw[<-hW]at hwl⊢
  refine zw ?_
  refine Vapp.mk' (j:=H.list.length) (zs:=H.list.map U64) (by simp[H8.list,maxLen]) (by simp[H8.list]) (by simp) rfl ?_
  refine zy (λq:Nat=>{F:=[(2, .r (us kTab)),(7, .own 0),(8, .r (bs M)),(13, .r (I (64*t:Nat))),(14, .r (us W)),(20, .r (us (zg1 K H q).list)),(21, .r (I q))],O:=[(0,some (.ch 43 1 H.list.length (H.list.map U64) false))],nx:=1})
   (λq=>q<=64) (λq=>64-q) 0 (by omega) (zac [(0,0)] rfl ⟨cr,rfl,cr,cr,cr,cr,cr,trivial⟩ ⟨zb0 rfl,trivial⟩) ?_
  intro q hq
  obtain⟨s,hs⟩: ∃s,s=zg1 K H q:=⟨_,rfl⟩
  have hsok:s.ok:=hs▸zmh hHok q
  rw[<-hs]
  obtain⟨oa,ob,oc,od,oe,of_,og,oh⟩:=id hsok
  refine zh (λh5=>zp ?_) (λh5=>zq ?_)
  ·simp only[zb]at h5
   have hq':q<64:=by omega
   refine zy (λi:Nat=>{F:=[(2, .r (us kTab)),(7, .own 0),(8, .r (bs M)),(13, .r (I (64*t:Nat))),(14, .r (us W)),(20, .r (us s.list)),(21, .r (I q)),(22, .r (U64 (chN s.e s.f s.g%2^i))),(23, .r (U64 (majN s.a s.b s.c%2^i))),(24, .r (U64 (2^i))),(25, .r (I i))],O:=[(0,some (.ch 43 1 H.list.length (H.list.map U64) false))],nx:=1})
    (λi=>i<=32) (λi=>32-i) 0 (by omega) (zac [(0,0)] rfl ⟨cr,rfl,cr,cr,cr,cr,cr,zf (by simp[Nat.mod_one,ofC]),zf (by simp[Nat.mod_one,ofC]),cr,cr,trivial⟩ ⟨zb0 rfl,trivial⟩) ?_
   intro i hi
   have hip:2^i<=2^32:=Nat.pow_le_pow_right (by omega) hi
   have hip0:=zal i
   have hcl:=ziwb (e:=s.e) (f:=s.f) (g:=s.g) oe
   have hml:=zg9b (a:=s.a) (b:=s.b) (c:=s.c) oa ob
   have hcm:=Nat.mod_le (chN s.e s.f s.g) (2^i)
   have hmm:=Nat.mod_le (majN s.a s.b s.c) (2^i)
   have hcm1:=Nat.mod_le (chN s.e s.f s.g) (2^(i+1))
   have hmm1:=Nat.mod_le (majN s.a s.b s.c) (2^(i+1))
   refine zh (λh6=>zp ?_) (λh6=>zq ?_)
   ·simp only[zb]at h6
    have hi':i<32:=by omega
    have hst:=zfpb (e:=s.e) (f:=s.f) (g:=s.g) oe hi'
    refine zm (cs:=[U64 s.e]) (by omega) (by simp[H8.list]) rfl (zg rfl ?_)
    refine Vquo.nat s.e (2^i) rfl rfl (zal _) (by omega) ?_
    refine Vrem.nat (s.e/2^i) 2 rfl rfl (by omega) ?_
    refine zh (λh7=>zp ?_) (λh7=>zq ?_)
    ·simp only[zb]at h7
     have hch:=hst.1 (by omega)
     refine zm (cs:=[U64 s.f]) (by omega) (by simp[H8.list]) rfl (zg rfl ?_)
     refine Vquo.nat s.f (2^i) rfl rfl (zal _) (by omega) ?_
     refine Vrem.nat (s.f/2^i) 2 rfl rfl (by omega) ?_
     obtain⟨Pp,hPp⟩: ∃Pp,Pp=s.f/2^i%2*2^i:=⟨_,rfl⟩
     have hPl:Pp<=2^i:=by rw[hPp];have:=Nat.mul_le_mul_right (2^i) (show s.f/2^i%2<=1 by omega);omega
     rw[<-hPp]at hch
     refine Vint.u64 Pp (by rw[hPp,Int.natCast_mul]) (by omega) ?_
     refine Vint.u64 (chN s.e s.f s.g%2^(i+1)) (by rw[hch];omega) (by omega) ?_
     refine aV ?_
     refine zm (cs:=[U64 s.a]) (by omega) (by simp[H8.list]) rfl (zg rfl ?_)
     refine Vquo.nat s.a (2^i) rfl rfl (zal _) (by omega) ?_
     refine Vrem.nat (s.a/2^i) 2 rfl rfl (by omega) ?_
     refine zm (cs:=[U64 s.b]) (by omega) (by simp[H8.list]) rfl (zg rfl ?_)
     refine Vquo.nat s.b (2^i) rfl rfl (zal _) (by omega) ?_
     refine Vrem.nat (s.b/2^i) 2 rfl rfl (by omega) ?_
     refine Vint.u64 (s.a/2^i%2+s.b/2^i%2) (by omega) (by omega) ?_
     refine zm (cs:=[U64 s.c]) (by omega) (by simp[H8.list]) rfl (zg rfl ?_)
     refine Vquo.nat s.c (2^i) rfl rfl (zal _) (by omega) ?_
     refine Vrem.nat (s.c/2^i) 2 rfl rfl (by omega) ?_
     refine Vint.u64 (s.a/2^i%2+s.b/2^i%2+s.c/2^i%2) (by omega) (by omega) ?_
     refine zh (λh8=>zp ?_) (λh8=>zq ?_)
     ·simp only[zb]at h8
      have hmj:=(zl8 (a:=s.a) (b:=s.b) (c:=s.c) (t:=i)).1 (by omega)
      refine Vint.u64 (majN s.a s.b s.c%2^(i+1)) (by rw[hmj];omega) (by omega) ?_
      refine Vint.u64 (2^(i+1)) (by rw[Nat.pow_succ];omega) (by rw[Nat.pow_succ];omega) ?_
      refine zd (m:=((i+1:Nat):Int)) (by omega) (by omega) ?_
      exact⟨i+1,by omega,by omega,zac [(0,0)] rfl ⟨cr,rfl,cr,cr,cr,cr,cr,cr,cr,cr,cr,trivial⟩ ⟨zb0 rfl,trivial⟩⟩
     ·simp only[zb]at h8
      have hmj:=(zl8 (a:=s.a) (b:=s.b) (c:=s.c) (t:=i)).2 (by omega)
      refine Vint.u64 (2^(i+1)) (by rw[Nat.pow_succ];omega) (by rw[Nat.pow_succ];omega) ?_
      refine zd (m:=((i+1:Nat):Int)) (by omega) (by omega) ?_
      exact⟨i+1,by omega,by omega,zac [(0,0)] rfl ⟨cr,rfl,cr,cr,cr,cr,cr,cr,zf (by rw[hmj]),cr,cr,trivial⟩ ⟨zb0 rfl,trivial⟩⟩
    ·simp only[zb]at h7
     have hch:=hst.2 (by omega)
     refine zm (cs:=[U64 s.g]) (by omega) (by simp[H8.list]) rfl (zg rfl ?_)
     refine Vquo.nat s.g (2^i) rfl rfl (zal _) (by omega) ?_
     refine Vrem.nat (s.g/2^i) 2 rfl rfl (by omega) ?_
     obtain⟨Pp,hPp⟩: ∃Pp,Pp=s.g/2^i%2*2^i:=⟨_,rfl⟩
     have hPl:Pp<=2^i:=by rw[hPp];have:=Nat.mul_le_mul_right (2^i) (show s.g/2^i%2<=1 by omega);omega
     rw[<-hPp]at hch
     refine Vint.u64 Pp (by rw[hPp,Int.natCast_mul]) (by omega) ?_
     refine Vint.u64 (chN s.e s.f s.g%2^(i+1)) (by rw[hch];omega) (by omega) ?_
     refine aV ?_
     refine zm (cs:=[U64 s.a]) (by omega) (by simp[H8.list]) rfl (zg rfl ?_)
     refine Vquo.nat s.a (2^i) rfl rfl (zal _) (by omega) ?_
     refine Vrem.nat (s.a/2^i) 2 rfl rfl (by omega) ?_
     refine zm (cs:=[U64 s.b]) (by omega) (by simp[H8.list]) rfl (zg rfl ?_)
     refine Vquo.nat s.b (2^i) rfl rfl (zal _) (by omega) ?_
     refine Vrem.nat (s.b/2^i) 2 rfl rfl (by omega) ?_
     refine Vint.u64 (s.a/2^i%2+s.b/2^i%2) (by omega) (by omega) ?_
     refine zm (cs:=[U64 s.c]) (by omega) (by simp[H8.list]) rfl (zg rfl ?_)
     refine Vquo.nat s.c (2^i) rfl rfl (zal _) (by omega) ?_
     refine Vrem.nat (s.c/2^i) 2 rfl rfl (by omega) ?_
     refine Vint.u64 (s.a/2^i%2+s.b/2^i%2+s.c/2^i%2) (by omega) (by omega) ?_
     refine zh (λh8=>zp ?_) (λh8=>zq ?_)
     ·simp only[zb]at h8
      have hmj:=(zl8 (a:=s.a) (b:=s.b) (c:=s.c) (t:=i)).1 (by omega)
      refine Vint.u64 (majN s.a s.b s.c%2^(i+1)) (by rw[hmj];omega) (by omega) ?_
      refine Vint.u64 (2^(i+1)) (by rw[Nat.pow_succ];omega) (by rw[Nat.pow_succ];omega) ?_
      refine zd (m:=((i+1:Nat):Int)) (by omega) (by omega) ?_
      exact⟨i+1,by omega,by omega,zac [(0,0)] rfl ⟨cr,rfl,cr,cr,cr,cr,cr,cr,cr,cr,cr,trivial⟩ ⟨zb0 rfl,trivial⟩⟩
     ·simp only[zb]at h8
      have hmj:=(zl8 (a:=s.a) (b:=s.b) (c:=s.c) (t:=i)).2 (by omega)
      refine Vint.u64 (2^(i+1)) (by rw[Nat.pow_succ];omega) (by rw[Nat.pow_succ];omega) ?_
      refine zd (m:=((i+1:Nat):Int)) (by omega) (by omega) ?_
      exact⟨i+1,by omega,by omega,zac [(0,0)] rfl ⟨cr,rfl,cr,cr,cr,cr,cr,cr,zf (by rw[hmj]),cr,cr,trivial⟩ ⟨zb0 rfl,trivial⟩⟩
   simp only[zb]at h6
   obtain rfl:i=32:=by omega
   rw[Nat.mod_eq_of_lt (show chN s.e s.f s.g<2^32 from hcl),Nat.mod_eq_of_lt (show majN s.a s.b s.c<2^32 from hml)]
   have hk:=z2a q
   have hw:W.getD q 0<4294967296:=by rw[hW];exact zfo K 64 q
   have b1:=zitb oe
   have b0:=zisb oa
   refine aV ?_
   refine zm (cs:=[U64 s.h]) (by omega) (by simp[H8.list]) rfl (zg rfl ?_)
   refine zm (cs:=[U64 s.e]) (by omega) (by simp[H8.list]) rfl (zg rfl ?_)
   refine ze (zfg _ 6 oe (by omega)) ?_
   refine zm (cs:=[U64 s.e]) (by omega) (by simp[H8.list]) rfl (zg rfl ?_)
   refine ze (zfg _ 11 oe (by omega)) ?_
   refine Vbits.xor (rotr 6 s.e) (rotr 11 s.e) rfl rfl (Nat.lt_trans (zbn oe (by omega)) (by decide)) (Nat.lt_trans (zbn oe (by omega)) (by decide)) ?_
   refine zm (cs:=[U64 s.e]) (by omega) (by simp[H8.list]) rfl (zg rfl ?_)
   refine ze (zfg _ 25 oe (by omega)) ?_
   refine Vbits.xor (rotr 6 s.e^^^rotr 11 s.e) (rotr 25 s.e) rfl rfl (Nat.lt_trans (zb6 (zbn oe (by omega)) (zbn oe (by omega))) (by decide)) (Nat.lt_trans (zbn oe (by omega)) (by decide)) ?_
   refine Vint.u64 (s.h+bs1 s.e) (by rw[Int.natCast_add];rfl) (by omega) ?_
   refine Vint.u64 (s.h+bs1 s.e+chN s.e s.f s.g) (by omega) (by omega) ?_
   refine zm (by omega) (by rw[zqd];omega) (zew (j:=q) rfl (by rw[zqd];omega)) (zg rfl ?_)
   refine Vint.u64 (s.h+bs1 s.e+chN s.e s.f s.g+kTab.getD q 0) (by omega) (by omega) ?_
   refine zm (by omega) (by rw[hwl];omega) (zew (j:=q) rfl (by rw[hwl];omega)) (zg rfl ?_)
   obtain⟨t1,ht1⟩: ∃t1,t1=t1N (kTab.getD q 0) (W.getD q 0) s:=⟨_,rfl⟩
   have ht1':t1=s.h+bs1 s.e+chN s.e s.f s.g+kTab.getD q 0+W.getD q 0:=ht1
   refine Vint.u64 t1 (by omega) (by omega) ?_
   refine aV ?_
   refine zm (cs:=[U64 s.a]) (by omega) (by simp[H8.list]) rfl (zg rfl ?_)
   refine ze (zfg _ 2 oa (by omega)) ?_
   refine zm (cs:=[U64 s.a]) (by omega) (by simp[H8.list]) rfl (zg rfl ?_)
   refine ze (zfg _ 13 oa (by omega)) ?_
   refine Vbits.xor (rotr 2 s.a) (rotr 13 s.a) rfl rfl (Nat.lt_trans (zbn oa (by omega)) (by decide)) (Nat.lt_trans (zbn oa (by omega)) (by decide)) ?_
   refine zm (cs:=[U64 s.a]) (by omega) (by simp[H8.list]) rfl (zg rfl ?_)
   refine ze (zfg _ 22 oa (by omega)) ?_
   refine Vbits.xor (rotr 2 s.a^^^rotr 13 s.a) (rotr 22 s.a) rfl rfl (Nat.lt_trans (zb6 (zbn oa (by omega)) (zbn oa (by omega))) (by decide)) (Nat.lt_trans (zbn oa (by omega)) (by decide)) ?_
   obtain⟨t2,ht2⟩: ∃t2,t2=t2N s:=⟨_,rfl⟩
   have ht2':t2=bs0 s.a+majN s.a s.b s.c:=ht2
   refine Vint.u64 t2 (by rw[ht2',Int.natCast_add];rfl) (by omega) ?_
   refine aV ?_
   refine Vint.u64 (t1+t2) (by omega) (by omega) ?_
   refine Vrem.nat (t1+t2) 4294967296 rfl rfl (by omega) ?_
   refine zm (cs:=[U64 s.a]) (by omega) (by simp[H8.list]) rfl (zg rfl ?_)
   refine zm (cs:=[U64 s.b]) (by omega) (by simp[H8.list]) rfl (zg rfl ?_)
   refine zm (cs:=[U64 s.c]) (by omega) (by simp[H8.list]) rfl (zg rfl ?_)
   refine zm (cs:=[U64 s.d]) (by omega) (by simp[H8.list]) rfl (zg rfl ?_)
   refine Vint.u64 (s.d+t1) (by omega) (by omega) ?_
   refine Vrem.nat (s.d+t1) 4294967296 rfl rfl (by omega) ?_
   refine zm (cs:=[U64 s.e]) (by omega) (by simp[H8.list]) rfl (zg rfl ?_)
   refine zm (cs:=[U64 s.f]) (by omega) (by simp[H8.list]) rfl (zg rfl ?_)
   refine zm (cs:=[U64 s.g]) (by omega) (by simp[H8.list]) rfl (zg rfl ?_)
   refine zw ?_
   refine zd (m:=((q+1:Nat):Int)) (by omega) (by omega) ?_
   have hnx:zg1 K H (q+1)=⟨(t1+t2)%4294967296,s.a,s.b,s.c,(s.d+t1)%4294967296,s.e,s.f,s.g⟩:=by
    rw[ht1,ht2,hW,hs];rfl
   exact⟨q+1,by omega,by omega,zac [(0,0)] rfl ⟨cr,rfl,cr,cr,cr,zf (by rw[hnx];rfl),cr,trivial⟩ ⟨zb0 rfl,trivial⟩⟩
  simp only[zb]at h5
  obtain rfl:q=64:=by omega
  have hadd:addH H s=zmm H K:=by rw[hs];rfl
  refine zy (λi:Nat=>{F:=[(2, .r (us kTab)),(7, .own 0),(8, .r (bs M)),(13, .r (I (64*t:Nat))),(20, .r (us s.list)),(28, .r (I i))],O:=[(0,some (.ch 43 1 (mixH H s i).length ((mixH H s i).map U64) false))],nx:=1})
   (λi=>i<=8) (λi=>8-i) 0 (by omega) (zac [(0,0)] rfl ⟨cr,rfl,cr,cr,cr,cr,trivial⟩ ⟨zb0 rfl,trivial⟩) ?_
  intro i hi
  have hml:=zyk H s hi
  refine zh (λh6=>zp ?_) (λh6=>zq ?_)
  ·simp only[zb]at h6
   have hi':i<8:=by omega
   obtain⟨m1,m2⟩:=zhbb H s hi'
   have x1:=z3o hHok i
   have x2:=z3o hsok i
   refine aV ?_
   refine Vadr.mk' i rfl (by omega) ?_
   refine zg (f:=U64 (H.list.getD i 0)) (by rw[<-m1,Nat.mul_one,List.getElem?_map,List.getD_eq_getElem?_getD,List.getElem?_eq_getElem (by omega)];rfl) ?_
   refine zm (by omega) (by simp[H8.list];omega) (zew (j:=i) rfl (by simp[H8.list];omega)) (zg rfl ?_)
   refine Vint.u64 (H.list.getD i 0+s.list.getD i 0) (by omega) (by omega) ?_
   refine Vrem.nat (H.list.getD i 0+s.list.getD i 0) 4294967296 rfl rfl (by omega) ?_
   refine Vadr.mk' i rfl (by omega) ?_
   refine⟨by rw[List.length_map,hml];simp;omega,(mixH H s (i+1)).map U64,?_,?_⟩
   ·rw[<-m2,List.map_append,List.map_append,List.map_take,List.map_drop]
    simp[zde,cellsOf]
   refine zd (m:=((i+1:Nat):Int)) (by omega) (by omega) ?_
   exact⟨i+1,by omega,by omega,zac [(0,0)] rfl ⟨cr,rfl,cr,cr,cr,cr,trivial⟩ ⟨⟨rfl,rfl,by rw[hml,zyk H s (by omega)],rfl,zn _⟩,trivial⟩⟩
  simp only[zb]at h6
  obtain rfl:i=8:=by omega
  refine zd (m:=((64*(t+1):Nat):Int)) (by omega) (by omega) ?_
  exact⟨t+1,by omega,by omega,zac [(0,0)] rfl ⟨cr,rfl,cr,cr,trivial⟩ ⟨zb0 (by rw[<-hstep,<-hadd];rfl),trivial⟩⟩
 ·simp only[zb]at h3
  obtain rfl:t=T:=by omega
  have hres:shaB b=outH H:=by
   unfold shaB
   rw[<-hM,hT,Nat.mul_div_cancel_left _ (by omega),hH]
  refine zy (λi:Nat=>{F:=[(7, .own 0),(29, .own 1),(30, .r (I i))],O:=[(0,some (.ch 43 1 H.list.length (H.list.map U64) false)),(1,some (.ch 5 1 ((H.list.take i).flatMap (beB 4)).length (((H.list.take i).flatMap (beB 4)).map U8) true))],nx:=2})
   (λi=>i<=8) (λi=>8-i) 0 (by omega) ((zd7 29 5 1 rfl).trans (zac [(0,0),(1,1)] rfl ⟨rfl,rfl,cr,trivial⟩ ⟨zb0 rfl,⟨rfl,rfl,rfl,rfl,zn _⟩,trivial⟩)) ?_
  intro i hi
  have hHl:H.list.length=8:=rfl
  refine zh (λh4=>zp ?_) (λh4=>zq ?_)
  ·simp only[zb]at h4
   have hi':i<8:=by omega
   obtain⟨x,hx⟩: ∃x,x=H.list.getD i 0:=⟨_,rfl⟩
   have hxl:x<4294967296:=hx▸z3o hHok i
   have hcell:(H.list.map U64)[i*1]?=some (U64 x):=by rw[hx,Nat.mul_one,List.getElem?_map,List.getD_eq_getElem?_getD,List.getElem?_eq_getElem (by omega)];rfl
   have hflat:(H.list.take (i+1)).flatMap (beB 4)=(H.list.take i).flatMap (beB 4)++beB 4 x:=by
    rw[List.take_add_one,List.flatMap_append,hx,List.getD_eq_getElem?_getD,List.getElem?_eq_getElem (by omega)]
    simp
   have hlen:((H.list.take i).flatMap (beB 4)).length<=32:=by
    have: ∀l:List Nat,(l.flatMap (beB 4)).length=4*l.length:=λl=>by
     induction l with
     |nil=>rfl
     |cons y l ih=>simp only[List.flatMap_cons,aL,zak,ih,List.length_cons];omega
    rw[this,List.length_take];omega
   refine aV ?_
   refine Vadr.mk' i rfl (by omega) (zg hcell ?_)
   refine Vquo.nat x 16777216 rfl rfl (by omega) (by omega) ?_
   refine Vint.u8 (x/16777216) rfl ?_
   refine Vadr.mk' i rfl (by omega) (zg hcell ?_)
   refine Vquo.nat x 65536 rfl rfl (by omega) (by omega) ?_
   refine Vrem.nat (x/65536) 256 rfl rfl (by omega) ?_
   refine Vint.u8 (x/65536%256) rfl ?_
   rw[zog]
   refine Vadr.mk' i rfl (by omega) (zg hcell ?_)
   refine Vquo.nat x 256 rfl rfl (by omega) (by omega) ?_
   refine Vrem.nat (x/256) 256 rfl rfl (by omega) ?_
   refine Vint.u8 (x/256%256) rfl ?_
   rw[zog]
   refine Vadr.mk' i rfl (by omega) (zg hcell ?_)
   refine Vrem.nat x 256 rfl rfl (by omega) ?_
   refine Vint.u8 (x%256) rfl ?_
   rw[zog]
   refine zw ?_
   have hbe:beB 4 x=[UInt8.ofNat (x/16777216),UInt8.ofNat (x/65536),UInt8.ofNat (x/256),UInt8.ofNat x]:=by simp[beB]
   refine Vapp.mk' (j:=((H.list.take (i+1)).flatMap (beB 4)).length) (zs:=((H.list.take (i+1)).flatMap (beB 4)).map U8) (by simp only[maxLen];omega) (by show(((H.list.take i).flatMap (beB 4)).length+4)*1<=140737488355328;omega) (by rw[hflat,aL,zak]) (by rw[hflat,hbe];exact(List.map_append (f:=U8) (l₁:=(H.list.take i).flatMap (beB 4)) (l₂:=[UInt8.ofNat (x/16777216),UInt8.ofNat (x/65536),UInt8.ofNat (x/256),UInt8.ofNat x])).symm) ?_
   refine zd (m:=((i+1:Nat):Int)) (by omega) (by omega) ?_
   exact⟨i+1,by omega,by omega,zac [(0,0),(1,_)] rfl ⟨rfl,rfl,cr,trivial⟩ ⟨zb0 rfl,cvCh rfl,trivial⟩⟩
  ·simp only[zb]at h4
   obtain rfl:i=8:=by omega
   exact zdh (by rw[hres];rfl)
theorem ziw(l:List UInt8)(hl:l.length<=100000000000):aG 66 [bs l] (bch (shaB l)):=by
 refine aT Tryz.func66 rfl ?_
 refine ze zfzb ?_
 refine ze (zm9b l hl) ?_
 exact rfl
abbrev Str(s:ByteArray):RV:= .x (.string s)
abbrev sB(s:ByteArray):List UInt8:=s.data.toList
def keyB(k:List UInt8):List UInt8:=if 64<k.length then shaB k else k
def zea(k:List UInt8)(w:UInt8):List UInt8:=(List.range 64).map λi=>(keyB k).getD i 0^^^w
def macB(k t:List UInt8):List UInt8:=shaB (zea k 92++shaB (zea k 54++t))
theorem zjv(k:List UInt8)(w:UInt8):(zea k w).length=64:=by simp[zea]
theorem zbm(k t:List UInt8):(macB k t).length=32:=zcd _
theorem z2b(k:List UInt8):(keyB k).length<=64:=by
 unfold keyB
 split
 ·rw[zcd];omega
 ·omega
theorem zmrb(x y:UInt8):IntKind.u8.wrap (((BitVec.ofInt 8 (x.toNat:Int)^^^BitVec.ofInt 8 (y.toNat:Int)).toNat:Nat):Int)=(((x^^^y).toNat:Nat):Int):=by
 have e: ∀z:UInt8,BitVec.ofInt 8 (z.toNat:Int)=z.toBitVec:=λz=>by
  rw[BitVec.ofInt_natCast]
  simp
 rw[e,e]
 have h:=(x^^^y).toNat_lt
 have e2:(x.toBitVec^^^y.toBitVec).toNat=(x^^^y).toNat:=by simp
 rw[e2]
 generalize (x^^^y).toNat=z at h
 simp only[IntKind.wrap]
 simp[IntKind.bits,IntKind.signed]
 omega
theorem Vbits.xor8{a b:Int}{K:Int->Prop}(x y:UInt8)(ha:a=(x.toNat:Int))(hb:b=(y.toNat:Int))(hK:K (((x^^^y).toNat:Nat):Int)):Vbits .u8 .xor a b K:=by
 subst ha;subst hb
 exact⟨_,(zmrb x y).symm,hK⟩
def zdk(k:List UInt8)(w:UInt8)(i:Nat):List UInt8:=(List.range 64).map λj=>if j<i then k.getD j 0^^^w else k.getD j 0
theorem zlz(k:List UInt8)(w:UInt8)(i:Nat):(zdk k w i).length=64:=by simp[zdk]
theorem zcxb(k:List UInt8)(w:UInt8):zdk (keyB k) w 64=zea k w:=by
 unfold zdk zea
 exact List.map_congr_left λj hj=>by rw[if_pos (List.mem_range.1 hj)]
theorem zczb(k:List UInt8)(w:UInt8){i:Nat}(hi:i<64):(zdk k w i)[i]'(by rw[zlz];exact hi)=k.getD i 0:=by simp[zdk]
theorem zc0b(k:List UInt8)(w:UInt8){i:Nat}(hi:i<64):(zdk k w i).set i (k.getD i 0^^^w)=zdk k w (i+1):=by
 apply List.ext_getElem
 ·simp[zdk]
 ·intro j h1 h2
  simp only[zdk,List.getElem_set,List.getElem_map,List.getElem_range]
  by_cases h:i=j
  ·subst h;simp
  ·rw[if_neg h]
   by_cases h3:j<i
   ·rw[if_pos h3,if_pos (by omega)]
   ·rw[if_neg h3,if_neg (by omega)]
theorem zul(k:List UInt8)(w:UInt8)(hk:k.length<=64):(k.map U8).take (Nat.min k.length 64*1)++(List.replicate 64 (RV.i .u8 0)).drop (Nat.min k.length 64*1)=(zdk k w 0).map U8:=by
 have e:Nat.min k.length 64*1=k.length:=by rw[Nat.mul_one];exact Nat.min_eq_left hk
 rw[e]
 apply List.ext_getElem
 ·simp[zdk];omega
 ·intro j h1 h2
  simp only[List.getElem_append,List.length_take,List.length_map,Nat.min_self,List.getElem_take,List.getElem_map,List.getElem_drop,List.getElem_replicate,zdk,List.getElem_range]
  split
  ·rename_i h;simp[List.getD,h]
  ·rename_i h;simp[List.getD,List.getElem?_eq_none (Nat.le_of_not_lt h)]
theorem zc1{α:Type}{f:α->RV}{l:List α}{i:Nat}{x:α}(hi:i<l.length):zde (l.map f) i [f x]=(l.set i x).map f:=by
 unfold zde
 simp only[List.length_cons,List.length_nil,Nat.zero_add]
 rw[<-List.map_take,<-List.map_drop]
 have:l.set i x=l.take i++[x]++l.drop (i+1):=by rw[List.set_eq_take_append_cons_drop,if_pos hi];simp
 rw[this]
 simp
def z16(k:List UInt8)(w:UInt8)(i:Nat):St:={F:=[(1, .r (U8 w)),(5, .own 0),(18, .r (I 64)),(19, .r (I i))],O:=[(0,some (.ch 5 1 64 ((zdk k w i).map U8) false))],nx:=1}
theorem zcyb(k:List UInt8)(w:UInt8):some (Ow.ch 5 1 64 ((zdk (keyB k) w 64).map U8) true)=some (Ow.ch 5 1 (zea k w).length ((zea k w).map U8) true):=by rw[zcxb,zjv]
theorem zs64:(List.replicate ((64:Int).toNat) ([Value.int .u8 0].map ofC)).flatten=List.replicate 64 (RV.i .u8 0):=by simp[ofC]
theorem z7e(k:List UInt8)(w:UInt8)(hk:k.length<=1000000000):aG 65 [bs k,U8 w] (bch (zea k w)):=by
 refine za1 (T:=Tab) mixed Tab_ok Tryz.func65 rfl (by kernel_rfl) ?_
 have hkey:=z2b k
 refine zh (λh=>zp ?a) (λh=>zq ?b)
 case' a=>
  simp only[zb]at h
  have hx:shaB ([k].flatMap id)=keyB k:=by unfold keyB;rw[if_pos (by omega)];simp
  refine zw ?_
  refine ze (zoq [k] (by simp;omega)) ?_
  rw[hx]
  refine⟨rfl,by decide,by decide,by decide,_,_,rfl,zs64,Vpub.own ?_⟩
  refine Vstep.copy (id:=2) Tab_ok rfl rfl rfl rfl rfl rfl rfl rfl (zul (keyB k) w hkey) ?_
  refine zy (z16 (keyB k) w) (λi=>i<=64) (λi=>64-i) 0 (by omega) (zac [(0,2)] rfl ⟨cr,rfl,cr,cr,trivial⟩ ⟨⟨rfl,rfl,rfl,rfl,zn _⟩,trivial⟩) ?_
 case' b=>
  simp only[zb]at h
  have hx:k=keyB k:=by unfold keyB;rw[if_neg (by omega)]
  refine⟨rfl,by decide,by decide,by decide,_,_,rfl,zs64,Vpub.own ?_⟩
  refine Vstep.copy (id:=0) (zs:=(zdk (keyB k) w 0).map U8) Tab_ok rfl rfl rfl rfl rfl rfl rfl rfl (by rw[<-hx];exact zul k w (by omega)) ?_
  refine zy (z16 (keyB k) w) (λi=>i<=64) (λi=>64-i) 0 (by omega) (zac [(0,0)] rfl ⟨cr,rfl,cr,cr,trivial⟩ ⟨⟨rfl,rfl,rfl,rfl,zn _⟩,trivial⟩) ?_
 all_goals
  intro i hi
  refine zh (λh=>zp ?_) (λh=>zq ?_)
  ·simp only[zb]at h
   have hi':i<64:=by omega
   refine Vadr.mk' i rfl hi' ?_
   refine zg (f:=U8 ((keyB k).getD i 0)) (by rw[Nat.mul_one,List.getElem?_map,List.getElem?_eq_getElem (by rw[zlz];exact hi'),zczb _ _ hi'];rfl) ?_
   refine Vbits.xor8 _ _ rfl rfl ?_
   refine Vadr.mk' i rfl hi' ?_
   refine⟨by simp[zlz];omega,(zdk (keyB k) w (i+1)).map U8,?_,?_⟩
   ·rw[<-zc0b _ _ hi',Nat.mul_one]
    exact zc1 (by rw[zlz];exact hi')
   refine zd (m:=((i+1:Nat):Int)) (by omega) (by omega) ?_
   exact⟨i+1,by omega,by omega,zac [(0,0)] rfl ⟨cr,rfl,cr,cr,trivial⟩ ⟨⟨rfl,rfl,rfl,rfl,zn _⟩,trivial⟩⟩
  ·simp only[zb]at h
   obtain rfl:i=64:=by omega
   refine⟨_,zbd (id:=0) rfl,?_⟩
   exact zcyb k w
theorem zrm(key:List UInt8)(parts:List (List UInt8))(hk:key.length<=1000000000)(hp:(parts.flatMap id).length<=10000000000):aG 14 [bs key,bss parts] (bch (macB key (parts.flatMap id))):=by
 refine aT Tryz.func14 rfl ?_
 have e1: ∀l:List UInt8,[l].flatMap id=l:=λl=>by simp
 have e2:[zea key 54,parts.flatMap id].flatMap id=zea key 54++parts.flatMap id:=by simp
 refine ze (z7e key 54 hk) ?_
 refine ze (zgt parts (by omega)) ?_
 refine zw ?_
 refine ze (zgt [zea key 54,parts.flatMap id] (by rw[e2,aL,zjv];omega)) ?_
 refine zw ?_
 refine ze (zoq [[zea key 54,parts.flatMap id].flatMap id] (by rw[e2,e1,aL,zjv];omega)) ?_
 refine ze (z7e key 92 hk) ?_
 refine zw ?_
 refine ze (zoq [zea key 92,shaB ([[zea key 54,parts.flatMap id].flatMap id].flatMap id)] (by simp[zjv,zcd])) ?_
 exact zdh (by simp[macB])
end Go.Proofs.YtkegaaonpekkgaaGreat.Sx
