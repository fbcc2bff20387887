import Derived.Test.YtoegdgbghdnnfaaGreatZKu
namespace Go.Proofs.YtoegdgbghdnnfaaGreat.Sx
open Go.RowKit
theorem zfw{l:List Nat}{i:Int}{j:Nat}(h:i=j)(hj:j<l.length):((l.map U64).drop (i.toNat*1)).take 1=[U64 (l.getD j 0)]:=by
 rw[zaj h hj,List.getD_eq_getElem?_getD,List.getElem?_eq_getElem hj];rfl
def accM(b:List UInt8)(k:Nat):Nat->Nat
 |0=>0
 |i+1=>256*accM b k i+(b.getD (k+i) 0).toNat
theorem z5k(b:List UInt8)(k:Nat):accM b k 4=be32 b k:=by
 simp only[accM,be32,Nat.add_zero];omega
theorem zc0b(b:List UInt8)(k:Nat): ∀i,i<=4->accM b k i<4294967296:=by
 have h: ∀i,accM b k i<256^i:=by
  intro i
  induction i with
  |zero=>simp[accM]
  |succ i ih=>
   have h2:=(b.getD (k+i) 0).toNat_lt
   rw[accM,Nat.pow_succ];omega
 intro i hi
 have h1:=h i
 have h2:256^i<=256^4:=Nat.pow_le_pow_right (by omega) hi
 omega
def mixH(s x:H8)(t:Nat):List Nat:=(addH s x).list.take t++s.list.drop t
theorem zyl(s x:H8){t:Nat}(ht:t<=8):(mixH s x t).length=8:=by
 simp[mixH,H8.list];omega
theorem zetb(s x:H8){t:Nat}(ht:t<8):(mixH s x t).getD t 0=s.list.getD t 0/\(mixH s x t).take t++[(s.list.getD t 0+x.list.getD t 0)%4294967296]++(mixH s x t).drop (t+1)=mixH s x (t+1):=by
 match t,ht with
 |0,_=>exact⟨rfl,rfl⟩
 |1,_=>exact⟨rfl,rfl⟩
 |2,_=>exact⟨rfl,rfl⟩
 |3,_=>exact⟨rfl,rfl⟩
 |4,_=>exact⟨rfl,rfl⟩
 |5,_=>exact⟨rfl,rfl⟩
 |6,_=>exact⟨rfl,rfl⟩
 |7,_=>exact⟨rfl,rfl⟩
theorem z2p{s:H8}(h:s.ok)(t:Nat):s.list.getD t 0<4294967296:=by
 obtain⟨a,b,c,d,e,f,g,i⟩:=h
 match t with
 |0=>exact a
 |1=>exact b
 |2=>exact c
 |3=>exact d
 |4=>exact e
 |5=>exact f
 |6=>exact g
 |7=>exact i
 |n+8=>simp[H8.list]
theorem zcf{ρ:List (Nat×Nat)}{S:St}{e:TypeId}{l m:List Nat}{pub:Bool}(h:l=m):cvOw ρ S (.ch e 1 l.length (l.map U64) pub) (.ch e 1 m.length (m.map U64) pub):=by
 subst h;exact⟨rfl,rfl,rfl,rfl,zn _⟩
theorem zzw(b:List UInt8)(t:Nat):wTo b (t+1)=wTo b t++[zfl b (wTo b t)]:=rfl
theorem zb5b{b:List UInt8}{t:Nat}(ht:t<16):zfl b (wTo b t)=be32 b (4*t):=by
 unfold zfl;rw[zdf,if_pos ht]
theorem zb4b{b:List UInt8}{t:Nat}(ht:16<=t):zfl b (wTo b t)=(ss1 ((wTo b t).getD (t-2) 0)+(wTo b t).getD (t-7) 0+ss0 ((wTo b t).getD (t-15) 0)+(wTo b t).getD (t-16) 0)%4294967296:=by
 unfold zfl;rw[zdf,if_neg (by omega)]
theorem zccb(j:Nat):List.replicate j (0:UInt8)++[0]=List.replicate (j+1) 0:=by rw[List.replicate_succ']
set_option maxHeartbeats 4000000 in
theorem zi1b(b:List UInt8)(hb:b.length<=100000000000):bG 91 [bs b,us h0Tab.list,us kTab] (bch (shaB b)):=by
 refine bT Tryz.func91 rfl ?_
 refine Vpub.own ?_
 refine Vapp.mk' (j:=h0Tab.list.length) (zs:=h0Tab.list.map U64) (by decide) (by decide) rfl rfl ?_
 refine zy ?_
 refine Vapp.mk' (j:=b.length) (zs:=b.map U8) (by simp[maxLen];omega) (by simp;omega) (by simp) rfl ?_
 refine zy ?_
 refine Vapp.mk' (j:=(b++[128]).length) (zs:=(b++[128]).map U8) (by simp[maxLen];omega) (by simp;omega) (by simp) (by rw[List.map_append];rfl) ?_
 have hz:=zoy b.length
 refine Vloop.mk' (λj:Nat=>{F:=[(0, .r (bs b)),(2, .r (us kTab)),(7, .own 0),(8, .own 1)],O:=[(0,some (.ch 23 1 h0Tab.list.length (h0Tab.list.map U64) false)),(1,some (.ch 5 1 (b++[128]++List.replicate j 0).length ((b++[128]++List.replicate j 0).map U8) true))],nx:=2})
  (λj=>j<=zcq b.length) (λj=>zcq b.length-j) 0 (by omega) (zac [(0,_),(1,_)] rfl ⟨cr,cr,rfl,rfl,trivial⟩ ⟨zcf rfl,cvCh (by simp),trivial⟩) ?_
 intro j hj
 have hlj:(b++[128]++List.replicate j (0:UInt8)).length=b.length+1+j:=by simp;omega
 refine Vrem.nat (b.length+1+j) 64 (by rw[hlj]) rfl (by omega) ?_
 refine zh (λh=>zq ?_) (λh=>zt ?_)
 ·simp only[zb]at h
  have hj':j<zcq b.length:=by unfold zcq at*;omega
  refine zy ?_
  refine Vapp.mk' (j:=(b++[128]++List.replicate (j+1) (0:UInt8)).length) (zs:=(b++[128]++List.replicate (j+1) 0).map U8) (by rw[hlj];simp[maxLen];omega) (by rw[hlj];simp;omega) (by simp;omega) (by rw[<-zccb,<-List.append_assoc];exact(List.map_append (f:=U8) (l₁:=b++[128]++List.replicate j 0) (l₂:=[0])).symm) ?_
  exact⟨j+1,by omega,by omega,zac [(0,0),(1,_)] rfl ⟨cr,cr,rfl,rfl,trivial⟩ ⟨zcf rfl,cvCh rfl,trivial⟩⟩
 simp only[zb]at h
 obtain rfl:j=zcq b.length:=by unfold zcq at*;omega
 obtain⟨N,hN⟩: ∃N,N=b.length*8:=⟨_,rfl⟩
 refine Vint.u64 b.length rfl (by omega) ?_
 refine Vint.u64 N (by omega) (by omega) ?_
 obtain⟨B,hB⟩: ∃B,B=b++[128]++List.replicate (zcq b.length) (0:UInt8):=⟨_,rfl⟩
 rw[<-hB]at hlj
 refine Vloop.mk' (λi:Nat=>{F:=[(2, .r (us kTab)),(7, .own 0),(8, .own 1),(9, .r (U64 N)),(10, .r (I i))],O:=[(0,some (.ch 23 1 h0Tab.list.length (h0Tab.list.map U64) false)),(1,some (.ch 5 1 (B++(beB 8 N).take i).length ((B++(beB 8 N).take i).map U8) true))],nx:=2})
  (λi=>i<=8) (λi=>8-i) 0 (by omega) (zac [(0,0),(1,1)] rfl ⟨cr,rfl,rfl,cr,cr,trivial⟩ ⟨zcf rfl,cvCh (by rw[hB];simp),trivial⟩) ?_
 intro i hi
 have hbl: ∀i,((beB 8 N).take i).length<=8:=λi=>by rw[List.length_take,zao];omega
 refine zh (λh2=>zq ?_) (λh2=>zt ?_)
 ·simp only[zb]at h2
  have hi':i<8:=by omega
  have hbi:=hbl i
  refine Vloop.mk' (λk:Nat=>{F:=[(2, .r (us kTab)),(7, .own 0),(8, .own 1),(9, .r (U64 N)),(10, .r (I i)),(11, .r (U64 (256^k))),(12, .r (I k))],O:=[(0,some (.ch 23 1 h0Tab.list.length (h0Tab.list.map U64) false)),(1,some (.ch 5 1 (B++(beB 8 N).take i).length ((B++(beB 8 N).take i).map U8) true))],nx:=2})
   (λk=>k<=7-i) (λk=>7-i-k) 0 (by omega) (zac [(0,0),(1,1)] rfl ⟨cr,rfl,rfl,cr,cr,cr,cr,trivial⟩ ⟨zcf rfl,cvCh rfl,trivial⟩) ?_
  intro k hk
  have hkp:256^k<=256^7:=Nat.pow_le_pow_right (by omega) (by omega)
  refine zd rfl (by omega) ?_
  refine zh (λh3=>zq ?_) (λh3=>zt ?_)
  ·simp only[zb]at h3
   have hkp':256^k<=256^6:=Nat.pow_le_pow_right (by omega) (by omega)
   refine Vint.u64 (256^(k+1)) (by rw[Nat.pow_succ];omega) (by rw[Nat.pow_succ];omega) ?_
   refine zd (m:=((k+1:Nat):Int)) (by omega) (by omega) ?_
   exact⟨k+1,by omega,by omega,zac [(0,0),(1,1)] rfl ⟨cr,rfl,rfl,cr,cr,cr,cr,trivial⟩ ⟨zcf rfl,cvCh rfl,trivial⟩⟩
  ·simp only[zb]at h3
   obtain rfl:k=7-i:=by omega
   refine Vquo.nat N (256^(7-i)) rfl rfl (Nat.pow_pos (by omega)) (by omega) ?_
   refine Vrem.nat (N/256^(7-i)) 256 rfl rfl (by omega) ?_
   refine Vint.u8 (N/256^(7-i)%256) rfl ?_
   rw[zor]
   refine zy ?_
   have ht:=zqk (s:=8) (n:=N) hi'
   refine Vapp.mk' (j:=(B++(beB 8 N).take (i+1)).length) (zs:=(B++(beB 8 N).take (i+1)).map U8) (by simp only[bL,hlj,maxLen];omega) (by simp only[bL,hlj];omega) (by rw[ht];simp only[bL,List.length_cons,List.length_nil];omega) (by rw[ht,<-List.append_assoc];exact(List.map_append (f:=U8) (l₁:=B++(beB 8 N).take i) (l₂:=[UInt8.ofNat (N/256^(8-1-i))])).symm) ?_
   refine zd (m:=((i+1:Nat):Int)) (by omega) (by omega) ?_
   exact⟨i+1,by omega,by omega,zac [(0,0),(1,_)] rfl ⟨cr,rfl,rfl,cr,cr,trivial⟩ ⟨zcf rfl,cvCh rfl,trivial⟩⟩
 simp only[zb]at h2
 obtain rfl:i=8:=by omega
 obtain⟨M,hM⟩: ∃M,M=b++zie b.length:=⟨_,rfl⟩
 have hBM:B++(beB 8 N).take 8=M:=by
  rw[hM,hB,List.take_of_length_le (by rw[zao];omega),hN]
  simp[zie]
 have hMl:M.length=b.length+(9+zcq b.length):=by rw[hM,bL,zoq]
 have hM64:=zyu b.length
 obtain⟨T,hT⟩: ∃T,M.length=64*T:=⟨M.length/64,by rw[hMl];omega⟩
 rw[hBM]
 refine Vloop.mk' (λt:Nat=>{F:=[(2, .r (us kTab)),(7, .own 0),(8, .r (bs M)),(13, .r (I (64*t:Nat)))],O:=[(0,some (.ch 23 1 (runH t h0Tab M).list.length ((runH t h0Tab M).list.map U64) false))],nx:=1})
  (λt=>t<=T) (λt=>T-t) 0 (by omega) (zac [(0,0)] rfl ⟨cr,rfl,cr,cr,trivial⟩ ⟨zcf rfl,trivial⟩) ?_
 intro t ht
 obtain⟨H,hH⟩: ∃H,H=runH t h0Tab M:=⟨_,rfl⟩
 have hHok:H.ok:=hH▸zpl t h0Tab M z3o
 rw[<-hH]
 refine zh (λh3=>zq ?_) (λh3=>zt ?_)
 ·simp only[zb]at h3
  have ht':t<T:=by omega
  obtain⟨K,hK⟩: ∃K,K=(M.drop (64*t)).take 64:=⟨_,rfl⟩
  have hKat: ∀i,i<64->K.getD i 0=M.getD (64*t+i) 0:=λi hi=>by
   rw[hK,List.getD_eq_getElem?_getD,List.getD_eq_getElem?_getD,List.getElem?_take,if_pos hi,List.getElem?_drop]
  have hstep:zms H K=runH (t+1) h0Tab M:=by rw[zoe,<-hH,<-hK]
  refine Vloop.mk' (λq:Nat=>{F:=[(2, .r (us kTab)),(7, .own 0),(8, .r (bs M)),(13, .r (I (64*t:Nat))),(14, .own 1),(15, .r (I q))],O:=[(0,some (.ch 23 1 H.list.length (H.list.map U64) false)),(1,some (.ch 23 1 (wTo K q).length ((wTo K q).map U64) true))],nx:=2})
   (λq=>q<=64) (λq=>64-q) 0 (by omega) ((zb7 14 23 1 rfl).trans (zac [(0,0),(1,1)] rfl ⟨cr,rfl,cr,cr,rfl,cr,trivial⟩ ⟨zcf rfl,⟨rfl,rfl,rfl,rfl,zn _⟩,trivial⟩)) ?_
  intro q hq
  have hwl:=zdf K q
  refine zh (λh4=>zq ?_) (λh4=>zt ?_)
  ·simp only[zb]at h4
   have hq':q<64:=by omega
   refine zh (λh5=>zq ?_) (λh5=>zt ?_)
   ·simp only[zb]at h5
    have hq16:q<16:=by omega
    refine Vloop.mk' (λi:Nat=>{F:=[(2, .r (us kTab)),(7, .own 0),(8, .r (bs M)),(13, .r (I (64*t:Nat))),(14, .own 1),(15, .r (I q)),(16, .r (U64 (accM K (4*q) i))),(17, .r (I i))],O:=[(0,some (.ch 23 1 H.list.length (H.list.map U64) false)),(1,some (.ch 23 1 (wTo K q).length ((wTo K q).map U64) true))],nx:=2})
     (λi=>i<=4) (λi=>4-i) 0 (by omega) (zac [(0,0),(1,1)] rfl ⟨cr,rfl,cr,cr,rfl,cr,cr,cr,trivial⟩ ⟨zcf rfl,zcf rfl,trivial⟩) ?_
    intro i hi
    refine zh (λh6=>zq ?_) (λh6=>zt ?_)
    ·simp only[zb]at h6
     have hi':i<4:=by omega
     have ha:=zc0b K (4*q) i (by omega)
     have hat:=hKat (4*q+i) (by omega)
     have hu:=(M.getD (64*t+(4*q+i)) 0).toNat_lt
     refine Vint.u64 (256*accM K (4*q) i) (by omega) (by omega) ?_
     refine zd rfl (by omega) ?_
     refine zd rfl (by omega) ?_
     refine zd rfl (by omega) ?_
     refine zm (by omega) (by rw[hT];omega) (znw (j:=64*t+(4*q+i)) (by omega) (by omega)) (zg rfl ?_)
     refine Vint.u64 (M.getD (64*t+(4*q+i)) 0).toNat rfl (by omega) ?_
     refine Vint.u64 (accM K (4*q) (i+1)) (by rw[accM,hat];omega) (by rw[accM,hat];omega) ?_
     refine zd (m:=((i+1:Nat):Int)) (by omega) (by omega) ?_
     exact⟨i+1,by omega,by omega,zac [(0,0),(1,1)] rfl ⟨cr,rfl,cr,cr,rfl,cr,cr,cr,trivial⟩ ⟨zcf rfl,zcf rfl,trivial⟩⟩
    ·simp only[zb]at h6
     obtain rfl:i=4:=by omega
     refine zy ?_
     refine Vapp.mk' (j:=(wTo K (q+1)).length) (zs:=(wTo K (q+1)).map U64) (by rw[hwl];simp only[maxLen];omega) (by rw[hwl];simp;omega) (by rw[hwl,zdf]) (by rw[zzw,zb5b hq16,z5k];exact(List.map_append (f:=U64) (l₁:=wTo K q) (l₂:=[be32 K (4*q)])).symm) ?_
     refine zd (m:=((q+1:Nat):Int)) (by omega) (by omega) ?_
     exact⟨q+1,by omega,by omega,zac [(0,0),(1,_)] rfl ⟨cr,rfl,cr,cr,rfl,cr,trivial⟩ ⟨zcf rfl,zcf rfl,trivial⟩⟩
   ·simp only[zb]at h5
    have hq16:16<=q:=by omega
    have w15:=zgk K q (q-15)
    have w2:=zgk K q (q-2)
    have w7:=zgk K q (q-7)
    have w16:=zgk K q (q-16)
    have hnx:=zb4b (b:=K) hq16
    have s0:=zijb w15
    have s1:=zikb w2
    obtain⟨W,hW⟩: ∃W,W=wTo K q:=⟨_,rfl⟩
    rw[<-hW]at w15 w2 w7 w16 hnx s0 s1 hwl
    have hnext:wTo K (q+1)=W++[zfl K W]:=by rw[zzw,<-hW]
    have hwl1:(wTo K (q+1)).length=q+1:=zdf K _
    rw[<-hW]
    have i15:(-9223372036854775808:Int)<=(q:Int)-15/\(q:Int)-15<=9223372036854775807:=by omega
    have i2:(-9223372036854775808:Int)<=(q:Int)-2/\(q:Int)-2<=9223372036854775807:=by omega
    refine bV ?_
    refine zd rfl i15 (zm (by omega) (by omega) (zfw (j:=q-15) (by omega) (by omega)) (zg rfl ?_))
    refine ze (zgf _ 7 w15 (by omega)) ?_
    refine zd rfl i15 (zm (by omega) (by omega) (zfw (j:=q-15) (by omega) (by omega)) (zg rfl ?_))
    refine ze (zgf _ 18 w15 (by omega)) ?_
    refine Vbits.xor (rotr 7 (W.getD (q-15) 0)) (rotr 18 (W.getD (q-15) 0)) rfl rfl (Nat.lt_trans (zb3 w15 (by omega)) (by decide)) (Nat.lt_trans (zb3 w15 (by omega)) (by decide)) ?_
    refine zd rfl i15 (zm (by omega) (by omega) (zfw (j:=q-15) (by omega) (by omega)) (zg rfl ?_))
    refine ze (z1d _ 3 w15 (by omega)) ?_
    refine Vbits.xor (rotr 7 (W.getD (q-15) 0)^^^rotr 18 (W.getD (q-15) 0)) (W.getD (q-15) 0/2^3) rfl rfl (Nat.lt_trans (zcp (zb3 w15 (by omega)) (zb3 w15 (by omega))) (by decide)) (by have:=Nat.div_le_self (W.getD (q-15) 0) (2^3);omega) ?_
    refine bV ?_
    refine zd rfl i2 (zm (by omega) (by omega) (zfw (j:=q-2) (by omega) (by omega)) (zg rfl ?_))
    refine ze (zgf _ 17 w2 (by omega)) ?_
    refine zd rfl i2 (zm (by omega) (by omega) (zfw (j:=q-2) (by omega) (by omega)) (zg rfl ?_))
    refine ze (zgf _ 19 w2 (by omega)) ?_
    refine Vbits.xor (rotr 17 (W.getD (q-2) 0)) (rotr 19 (W.getD (q-2) 0)) rfl rfl (Nat.lt_trans (zb3 w2 (by omega)) (by decide)) (Nat.lt_trans (zb3 w2 (by omega)) (by decide)) ?_
    refine zd rfl i2 (zm (by omega) (by omega) (zfw (j:=q-2) (by omega) (by omega)) (zg rfl ?_))
    refine ze (z1d _ 10 w2 (by omega)) ?_
    refine Vbits.xor (rotr 17 (W.getD (q-2) 0)^^^rotr 19 (W.getD (q-2) 0)) (W.getD (q-2) 0/2^10) rfl rfl (Nat.lt_trans (zcp (zb3 w2 (by omega)) (zb3 w2 (by omega))) (by decide)) (by have:=Nat.div_le_self (W.getD (q-2) 0) (2^10);omega) ?_
    have e0:rotr 7 (W.getD (q-15) 0)^^^rotr 18 (W.getD (q-15) 0)^^^W.getD (q-15) 0/2^3=ss0 (W.getD (q-15) 0):=rfl
    have e1:rotr 17 (W.getD (q-2) 0)^^^rotr 19 (W.getD (q-2) 0)^^^W.getD (q-2) 0/2^10=ss1 (W.getD (q-2) 0):=rfl
    rw[e0,e1]
    refine bV ?_
    refine zd rfl (by omega) (zm (by omega) (by omega) (zfw (j:=q-7) (by omega) (by omega)) (zg rfl ?_))
    refine Vint.u64 (ss1 (W.getD (q-2) 0)+W.getD (q-7) 0) (by omega) (by omega) ?_
    refine Vint.u64 (ss1 (W.getD (q-2) 0)+W.getD (q-7) 0+ss0 (W.getD (q-15) 0)) (by omega) (by omega) ?_
    refine zd rfl (by omega) (zm (by omega) (by omega) (zfw (j:=q-16) (by omega) (by omega)) (zg rfl ?_))
    refine Vint.u64 (ss1 (W.getD (q-2) 0)+W.getD (q-7) 0+ss0 (W.getD (q-15) 0)+W.getD (q-16) 0) (by omega) (by omega) ?_
    refine Vrem.nat (ss1 (W.getD (q-2) 0)+W.getD (q-7) 0+ss0 (W.getD (q-15) 0)+W.getD (q-16) 0) 4294967296 rfl rfl (by omega) ?_
    rw[<-hnx]
    refine zy ?_
    refine Vapp.mk' (j:=(wTo K (q+1)).length) (zs:=(wTo K (q+1)).map U64) (by rw[hwl];simp only[maxLen];omega) (by rw[hwl];simp;omega) (by rw[hwl,hwl1]) (by rw[hnext];exact(List.map_append (f:=U64) (l₁:=W) (l₂:=[zfl K W])).symm) ?_
    refine zd (m:=((q+1:Nat):Int)) (by omega) (by omega) ?_
    exact⟨q+1,by omega,by omega,zac [(0,0),(1,_)] rfl ⟨cr,rfl,cr,cr,rfl,cr,trivial⟩ ⟨zcf rfl,zcf rfl,trivial⟩⟩
  simp only[zb]at h4
  obtain rfl:q=64:=by omega
  obtain⟨W,hW⟩: ∃W,W=wTo K 64:=⟨_,rfl⟩
  rw[<-hW]at hwl⊢
  refine zy ?_
  refine Vapp.mk' (j:=H.list.length) (zs:=H.list.map U64) (by simp[H8.list,maxLen]) (by simp[H8.list]) (by simp) rfl ?_
  refine Vloop.mk' (λq:Nat=>{F:=[(2, .r (us kTab)),(7, .own 0),(8, .r (bs M)),(13, .r (I (64*t:Nat))),(14, .r (us W)),(20, .r (us (zhw K H q).list)),(21, .r (I q))],O:=[(0,some (.ch 23 1 H.list.length (H.list.map U64) false))],nx:=1})
   (λq=>q<=64) (λq=>64-q) 0 (by omega) (zac [(0,0)] rfl ⟨cr,rfl,cr,cr,cr,cr,cr,trivial⟩ ⟨zcf rfl,trivial⟩) ?_
  intro q hq
  obtain⟨s,hs⟩: ∃s,s=zhw K H q:=⟨_,rfl⟩
  have hsok:s.ok:=hs▸zmo hHok q
  rw[<-hs]
  obtain⟨oa,ob,oc,od,oe,of_,og,oh⟩:=id hsok
  refine zh (λh5=>zq ?_) (λh5=>zt ?_)
  ·simp only[zb]at h5
   have hq':q<64:=by omega
   refine Vloop.mk' (λi:Nat=>{F:=[(2, .r (us kTab)),(7, .own 0),(8, .r (bs M)),(13, .r (I (64*t:Nat))),(14, .r (us W)),(20, .r (us s.list)),(21, .r (I q)),(22, .r (U64 (chN s.e s.f s.g%2^i))),(23, .r (U64 (majN s.a s.b s.c%2^i))),(24, .r (U64 (2^i))),(25, .r (I i))],O:=[(0,some (.ch 23 1 H.list.length (H.list.map U64) false))],nx:=1})
    (λi=>i<=32) (λi=>32-i) 0 (by omega) (zac [(0,0)] rfl ⟨cr,rfl,cr,cr,cr,cr,cr,zf (by simp[Nat.mod_one,ofC]),zf (by simp[Nat.mod_one,ofC]),cr,cr,trivial⟩ ⟨zcf rfl,trivial⟩) ?_
   intro i hi
   have hip:2^i<=2^32:=Nat.pow_le_pow_right (by omega) hi
   have hip0:=zag i
   have hcl:=zf7b (e:=s.e) (f:=s.f) (g:=s.g) oe
   have hml:=zeqb (a:=s.a) (b:=s.b) (c:=s.c) oa ob
   have hcm:=Nat.mod_le (chN s.e s.f s.g) (2^i)
   have hmm:=Nat.mod_le (majN s.a s.b s.c) (2^i)
   have hcm1:=Nat.mod_le (chN s.e s.f s.g) (2^(i+1))
   have hmm1:=Nat.mod_le (majN s.a s.b s.c) (2^(i+1))
   refine zh (λh6=>zq ?_) (λh6=>zt ?_)
   ·simp only[zb]at h6
    have hi':i<32:=by omega
    have hst:=zdab (e:=s.e) (f:=s.f) (g:=s.g) oe hi'
    refine zm (cs:=[U64 s.e]) (by omega) (by simp[H8.list]) rfl (zg rfl ?_)
    refine Vquo.nat s.e (2^i) rfl rfl (zag _) (by omega) ?_
    refine Vrem.nat (s.e/2^i) 2 rfl rfl (by omega) ?_
    refine zh (λh7=>zq ?_) (λh7=>zt ?_)
    ·simp only[zb]at h7
     have hch:=hst.1 (by omega)
     refine zm (cs:=[U64 s.f]) (by omega) (by simp[H8.list]) rfl (zg rfl ?_)
     refine Vquo.nat s.f (2^i) rfl rfl (zag _) (by omega) ?_
     refine Vrem.nat (s.f/2^i) 2 rfl rfl (by omega) ?_
     obtain⟨Pp,hPp⟩: ∃Pp,Pp=s.f/2^i%2*2^i:=⟨_,rfl⟩
     have hPl:Pp<=2^i:=by rw[hPp];have:=Nat.mul_le_mul_right (2^i) (show s.f/2^i%2<=1 by omega);omega
     rw[<-hPp]at hch
     refine Vint.u64 Pp (by rw[hPp,Int.natCast_mul]) (by omega) ?_
     refine Vint.u64 (chN s.e s.f s.g%2^(i+1)) (by rw[hch];omega) (by omega) ?_
     refine bV ?_
     refine zm (cs:=[U64 s.a]) (by omega) (by simp[H8.list]) rfl (zg rfl ?_)
     refine Vquo.nat s.a (2^i) rfl rfl (zag _) (by omega) ?_
     refine Vrem.nat (s.a/2^i) 2 rfl rfl (by omega) ?_
     refine zm (cs:=[U64 s.b]) (by omega) (by simp[H8.list]) rfl (zg rfl ?_)
     refine Vquo.nat s.b (2^i) rfl rfl (zag _) (by omega) ?_
     refine Vrem.nat (s.b/2^i) 2 rfl rfl (by omega) ?_
     refine Vint.u64 (s.a/2^i%2+s.b/2^i%2) (by omega) (by omega) ?_
     refine zm (cs:=[U64 s.c]) (by omega) (by simp[H8.list]) rfl (zg rfl ?_)
     refine Vquo.nat s.c (2^i) rfl rfl (zag _) (by omega) ?_
     refine Vrem.nat (s.c/2^i) 2 rfl rfl (by omega) ?_
     refine Vint.u64 (s.a/2^i%2+s.b/2^i%2+s.c/2^i%2) (by omega) (by omega) ?_
     refine zh (λh8=>zq ?_) (λh8=>zt ?_)
     ·simp only[zb]at h8
      have hmj:=(zma (a:=s.a) (b:=s.b) (c:=s.c) (t:=i)).1 (by omega)
      refine Vint.u64 (majN s.a s.b s.c%2^(i+1)) (by rw[hmj];omega) (by omega) ?_
      refine Vint.u64 (2^(i+1)) (by rw[Nat.pow_succ];omega) (by rw[Nat.pow_succ];omega) ?_
      refine zd (m:=((i+1:Nat):Int)) (by omega) (by omega) ?_
      exact⟨i+1,by omega,by omega,zac [(0,0)] rfl ⟨cr,rfl,cr,cr,cr,cr,cr,cr,cr,cr,cr,trivial⟩ ⟨zcf rfl,trivial⟩⟩
     ·simp only[zb]at h8
      have hmj:=(zma (a:=s.a) (b:=s.b) (c:=s.c) (t:=i)).2 (by omega)
      refine Vint.u64 (2^(i+1)) (by rw[Nat.pow_succ];omega) (by rw[Nat.pow_succ];omega) ?_
      refine zd (m:=((i+1:Nat):Int)) (by omega) (by omega) ?_
      exact⟨i+1,by omega,by omega,zac [(0,0)] rfl ⟨cr,rfl,cr,cr,cr,cr,cr,cr,zf (by rw[hmj]),cr,cr,trivial⟩ ⟨zcf rfl,trivial⟩⟩
    ·simp only[zb]at h7
     have hch:=hst.2 (by omega)
     refine zm (cs:=[U64 s.g]) (by omega) (by simp[H8.list]) rfl (zg rfl ?_)
     refine Vquo.nat s.g (2^i) rfl rfl (zag _) (by omega) ?_
     refine Vrem.nat (s.g/2^i) 2 rfl rfl (by omega) ?_
     obtain⟨Pp,hPp⟩: ∃Pp,Pp=s.g/2^i%2*2^i:=⟨_,rfl⟩
     have hPl:Pp<=2^i:=by rw[hPp];have:=Nat.mul_le_mul_right (2^i) (show s.g/2^i%2<=1 by omega);omega
     rw[<-hPp]at hch
     refine Vint.u64 Pp (by rw[hPp,Int.natCast_mul]) (by omega) ?_
     refine Vint.u64 (chN s.e s.f s.g%2^(i+1)) (by rw[hch];omega) (by omega) ?_
     refine bV ?_
     refine zm (cs:=[U64 s.a]) (by omega) (by simp[H8.list]) rfl (zg rfl ?_)
     refine Vquo.nat s.a (2^i) rfl rfl (zag _) (by omega) ?_
     refine Vrem.nat (s.a/2^i) 2 rfl rfl (by omega) ?_
     refine zm (cs:=[U64 s.b]) (by omega) (by simp[H8.list]) rfl (zg rfl ?_)
     refine Vquo.nat s.b (2^i) rfl rfl (zag _) (by omega) ?_
     refine Vrem.nat (s.b/2^i) 2 rfl rfl (by omega) ?_
     refine Vint.u64 (s.a/2^i%2+s.b/2^i%2) (by omega) (by omega) ?_
     refine zm (cs:=[U64 s.c]) (by omega) (by simp[H8.list]) rfl (zg rfl ?_)
     refine Vquo.nat s.c (2^i) rfl rfl (zag _) (by omega) ?_
     refine Vrem.nat (s.c/2^i) 2 rfl rfl (by omega) ?_
     refine Vint.u64 (s.a/2^i%2+s.b/2^i%2+s.c/2^i%2) (by omega) (by omega) ?_
     refine zh (λh8=>zq ?_) (λh8=>zt ?_)
     ·simp only[zb]at h8
      have hmj:=(zma (a:=s.a) (b:=s.b) (c:=s.c) (t:=i)).1 (by omega)
      refine Vint.u64 (majN s.a s.b s.c%2^(i+1)) (by rw[hmj];omega) (by omega) ?_
      refine Vint.u64 (2^(i+1)) (by rw[Nat.pow_succ];omega) (by rw[Nat.pow_succ];omega) ?_
      refine zd (m:=((i+1:Nat):Int)) (by omega) (by omega) ?_
      exact⟨i+1,by omega,by omega,zac [(0,0)] rfl ⟨cr,rfl,cr,cr,cr,cr,cr,cr,cr,cr,cr,trivial⟩ ⟨zcf rfl,trivial⟩⟩
     ·simp only[zb]at h8
      have hmj:=(zma (a:=s.a) (b:=s.b) (c:=s.c) (t:=i)).2 (by omega)
      refine Vint.u64 (2^(i+1)) (by rw[Nat.pow_succ];omega) (by rw[Nat.pow_succ];omega) ?_
      refine zd (m:=((i+1:Nat):Int)) (by omega) (by omega) ?_
      exact⟨i+1,by omega,by omega,zac [(0,0)] rfl ⟨cr,rfl,cr,cr,cr,cr,cr,cr,zf (by rw[hmj]),cr,cr,trivial⟩ ⟨zcf rfl,trivial⟩⟩
   simp only[zb]at h6
   obtain rfl:i=32:=by omega
   rw[Nat.mod_eq_of_lt (show chN s.e s.f s.g<2^32 from hcl),Nat.mod_eq_of_lt (show majN s.a s.b s.c<2^32 from hml)]
   have hk:=z1z q
   have hw:W.getD q 0<4294967296:=by rw[hW];exact zgk K 64 q
   have b1:=zf5b oe
   have b0:=zf4b oa
   refine bV ?_
   refine zm (cs:=[U64 s.h]) (by omega) (by simp[H8.list]) rfl (zg rfl ?_)
   refine zm (cs:=[U64 s.e]) (by omega) (by simp[H8.list]) rfl (zg rfl ?_)
   refine ze (zgf _ 6 oe (by omega)) ?_
   refine zm (cs:=[U64 s.e]) (by omega) (by simp[H8.list]) rfl (zg rfl ?_)
   refine ze (zgf _ 11 oe (by omega)) ?_
   refine Vbits.xor (rotr 6 s.e) (rotr 11 s.e) rfl rfl (Nat.lt_trans (zb3 oe (by omega)) (by decide)) (Nat.lt_trans (zb3 oe (by omega)) (by decide)) ?_
   refine zm (cs:=[U64 s.e]) (by omega) (by simp[H8.list]) rfl (zg rfl ?_)
   refine ze (zgf _ 25 oe (by omega)) ?_
   refine Vbits.xor (rotr 6 s.e^^^rotr 11 s.e) (rotr 25 s.e) rfl rfl (Nat.lt_trans (zcp (zb3 oe (by omega)) (zb3 oe (by omega))) (by decide)) (Nat.lt_trans (zb3 oe (by omega)) (by decide)) ?_
   refine Vint.u64 (s.h+bs1 s.e) (by rw[Int.natCast_add];rfl) (by omega) ?_
   refine Vint.u64 (s.h+bs1 s.e+chN s.e s.f s.g) (by omega) (by omega) ?_
   refine zm (by omega) (by rw[zqu];omega) (zfw (j:=q) rfl (by rw[zqu];omega)) (zg rfl ?_)
   refine Vint.u64 (s.h+bs1 s.e+chN s.e s.f s.g+kTab.getD q 0) (by omega) (by omega) ?_
   refine zm (by omega) (by rw[hwl];omega) (zfw (j:=q) rfl (by rw[hwl];omega)) (zg rfl ?_)
   obtain⟨t1,ht1⟩: ∃t1,t1=t1N (kTab.getD q 0) (W.getD q 0) s:=⟨_,rfl⟩
   have ht1':t1=s.h+bs1 s.e+chN s.e s.f s.g+kTab.getD q 0+W.getD q 0:=ht1
   refine Vint.u64 t1 (by omega) (by omega) ?_
   refine bV ?_
   refine zm (cs:=[U64 s.a]) (by omega) (by simp[H8.list]) rfl (zg rfl ?_)
   refine ze (zgf _ 2 oa (by omega)) ?_
   refine zm (cs:=[U64 s.a]) (by omega) (by simp[H8.list]) rfl (zg rfl ?_)
   refine ze (zgf _ 13 oa (by omega)) ?_
   refine Vbits.xor (rotr 2 s.a) (rotr 13 s.a) rfl rfl (Nat.lt_trans (zb3 oa (by omega)) (by decide)) (Nat.lt_trans (zb3 oa (by omega)) (by decide)) ?_
   refine zm (cs:=[U64 s.a]) (by omega) (by simp[H8.list]) rfl (zg rfl ?_)
   refine ze (zgf _ 22 oa (by omega)) ?_
   refine Vbits.xor (rotr 2 s.a^^^rotr 13 s.a) (rotr 22 s.a) rfl rfl (Nat.lt_trans (zcp (zb3 oa (by omega)) (zb3 oa (by omega))) (by decide)) (Nat.lt_trans (zb3 oa (by omega)) (by decide)) ?_
   obtain⟨t2,ht2⟩: ∃t2,t2=t2N s:=⟨_,rfl⟩
   have ht2':t2=bs0 s.a+majN s.a s.b s.c:=ht2
   refine Vint.u64 t2 (by rw[ht2',Int.natCast_add];rfl) (by omega) ?_
   refine bV ?_
   refine Vint.u64 (t1+t2) (by omega) (by omega) ?_
   refine Vrem.nat (t1+t2) 4294967296 rfl rfl (by omega) ?_
   refine zm (cs:=[U64 s.a]) (by omega) (by simp[H8.list]) rfl (zg rfl ?_)
   refine zm (cs:=[U64 s.b]) (by omega) (by simp[H8.list]) rfl (zg rfl ?_)
   refine zm (cs:=[U64 s.c]) (by omega) (by simp[H8.list]) rfl (zg rfl ?_)
   refine zm (cs:=[U64 s.d]) (by omega) (by simp[H8.list]) rfl (zg rfl ?_)
   refine Vint.u64 (s.d+t1) (by omega) (by omega) ?_
   refine Vrem.nat (s.d+t1) 4294967296 rfl rfl (by omega) ?_
   refine zm (cs:=[U64 s.e]) (by omega) (by simp[H8.list]) rfl (zg rfl ?_)
   refine zm (cs:=[U64 s.f]) (by omega) (by simp[H8.list]) rfl (zg rfl ?_)
   refine zm (cs:=[U64 s.g]) (by omega) (by simp[H8.list]) rfl (zg rfl ?_)
   refine zy ?_
   refine zd (m:=((q+1:Nat):Int)) (by omega) (by omega) ?_
   have hnx:zhw K H (q+1)=⟨(t1+t2)%4294967296,s.a,s.b,s.c,(s.d+t1)%4294967296,s.e,s.f,s.g⟩:=by
    rw[ht1,ht2,hW,hs];rfl
   exact⟨q+1,by omega,by omega,zac [(0,0)] rfl ⟨cr,rfl,cr,cr,cr,zf (by rw[hnx];rfl),cr,trivial⟩ ⟨zcf rfl,trivial⟩⟩
  simp only[zb]at h5
  obtain rfl:q=64:=by omega
  have hadd:addH H s=zms H K:=by rw[hs];rfl
  refine Vloop.mk' (λi:Nat=>{F:=[(2, .r (us kTab)),(7, .own 0),(8, .r (bs M)),(13, .r (I (64*t:Nat))),(20, .r (us s.list)),(28, .r (I i))],O:=[(0,some (.ch 23 1 (mixH H s i).length ((mixH H s i).map U64) false))],nx:=1})
   (λi=>i<=8) (λi=>8-i) 0 (by omega) (zac [(0,0)] rfl ⟨cr,rfl,cr,cr,cr,cr,trivial⟩ ⟨zcf rfl,trivial⟩) ?_
  intro i hi
  have hml:=zyl H s hi
  refine zh (λh6=>zq ?_) (λh6=>zt ?_)
  ·simp only[zb]at h6
   have hi':i<8:=by omega
   obtain⟨m1,m2⟩:=zetb H s hi'
   have x1:=z2p hHok i
   have x2:=z2p hsok i
   refine bV ?_
   refine Vadr.mk' i rfl (by omega) ?_
   refine zg (f:=U64 (H.list.getD i 0)) (by rw[<-m1,Nat.mul_one,List.getElem?_map,List.getD_eq_getElem?_getD,List.getElem?_eq_getElem (by omega)];rfl) ?_
   refine zm (by omega) (by simp[H8.list];omega) (zfw (j:=i) rfl (by simp[H8.list];omega)) (zg rfl ?_)
   refine Vint.u64 (H.list.getD i 0+s.list.getD i 0) (by omega) (by omega) ?_
   refine Vrem.nat (H.list.getD i 0+s.list.getD i 0) 4294967296 rfl rfl (by omega) ?_
   refine Vadr.mk' i rfl (by omega) ?_
   refine⟨by rw[List.length_map,hml];simp;omega,(mixH H s (i+1)).map U64,?_,?_⟩
   ·rw[<-m2,List.map_append,List.map_append,List.map_take,List.map_drop]
    simp[zbl,cellsOf]
   refine zd (m:=((i+1:Nat):Int)) (by omega) (by omega) ?_
   exact⟨i+1,by omega,by omega,zac [(0,0)] rfl ⟨cr,rfl,cr,cr,cr,cr,trivial⟩ ⟨⟨rfl,rfl,by rw[hml,zyl H s (by omega)],rfl,zn _⟩,trivial⟩⟩
  simp only[zb]at h6
  obtain rfl:i=8:=by omega
  refine zd (m:=((64*(t+1):Nat):Int)) (by omega) (by omega) ?_
  exact⟨t+1,by omega,by omega,zac [(0,0)] rfl ⟨cr,rfl,cr,cr,trivial⟩ ⟨zcf (by rw[<-hstep,<-hadd];rfl),trivial⟩⟩
 ·simp only[zb]at h3
  obtain rfl:t=T:=by omega
  have hres:shaB b=outH H:=by
   unfold shaB
   rw[<-hM,hT,Nat.mul_div_cancel_left _ (by omega),hH]
  refine Vloop.mk' (λi:Nat=>{F:=[(7, .own 0),(29, .own 1),(30, .r (I i))],O:=[(0,some (.ch 23 1 H.list.length (H.list.map U64) false)),(1,some (.ch 5 1 ((H.list.take i).flatMap (beB 4)).length (((H.list.take i).flatMap (beB 4)).map U8) true))],nx:=2})
   (λi=>i<=8) (λi=>8-i) 0 (by omega) ((zb7 29 5 1 rfl).trans (zac [(0,0),(1,1)] rfl ⟨rfl,rfl,cr,trivial⟩ ⟨zcf rfl,⟨rfl,rfl,rfl,rfl,zn _⟩,trivial⟩)) ?_
  intro i hi
  have hHl:H.list.length=8:=rfl
  refine zh (λh4=>zq ?_) (λh4=>zt ?_)
  ·simp only[zb]at h4
   have hi':i<8:=by omega
   obtain⟨x,hx⟩: ∃x,x=H.list.getD i 0:=⟨_,rfl⟩
   have hxl:x<4294967296:=hx▸z2p hHok i
   have hcell:(H.list.map U64)[i*1]?=some (U64 x):=by rw[hx,Nat.mul_one,List.getElem?_map,List.getD_eq_getElem?_getD,List.getElem?_eq_getElem (by omega)];rfl
   have hflat:(H.list.take (i+1)).flatMap (beB 4)=(H.list.take i).flatMap (beB 4)++beB 4 x:=by
    rw[List.take_add_one,List.flatMap_append,hx,List.getD_eq_getElem?_getD,List.getElem?_eq_getElem (by omega)]
    simp
   have hlen:((H.list.take i).flatMap (beB 4)).length<=32:=by
    have: ∀l:List Nat,(l.flatMap (beB 4)).length=4*l.length:=λl=>by
     induction l with
     |nil=>rfl
     |cons y l ih=>simp only[List.flatMap_cons,bL,zao,ih,List.length_cons];omega
    rw[this,List.length_take];omega
   refine bV ?_
   refine Vadr.mk' i rfl (by omega) (zg hcell ?_)
   refine Vquo.nat x 16777216 rfl rfl (by omega) (by omega) ?_
   refine Vint.u8 (x/16777216) rfl ?_
   refine Vadr.mk' i rfl (by omega) (zg hcell ?_)
   refine Vquo.nat x 65536 rfl rfl (by omega) (by omega) ?_
   refine Vrem.nat (x/65536) 256 rfl rfl (by omega) ?_
   refine Vint.u8 (x/65536%256) rfl ?_
   rw[zor]
   refine Vadr.mk' i rfl (by omega) (zg hcell ?_)
   refine Vquo.nat x 256 rfl rfl (by omega) (by omega) ?_
   refine Vrem.nat (x/256) 256 rfl rfl (by omega) ?_
   refine Vint.u8 (x/256%256) rfl ?_
   rw[zor]
   refine Vadr.mk' i rfl (by omega) (zg hcell ?_)
   refine Vrem.nat x 256 rfl rfl (by omega) ?_
   refine Vint.u8 (x%256) rfl ?_
   rw[zor]
   refine zy ?_
   have hbe:beB 4 x=[UInt8.ofNat (x/16777216),UInt8.ofNat (x/65536),UInt8.ofNat (x/256),UInt8.ofNat x]:=by simp[beB]
   refine Vapp.mk' (j:=((H.list.take (i+1)).flatMap (beB 4)).length) (zs:=((H.list.take (i+1)).flatMap (beB 4)).map U8) (by simp only[maxLen];omega) (by show(((H.list.take i).flatMap (beB 4)).length+4)*1<=140737488355328;omega) (by rw[hflat,bL,zao]) (by rw[hflat,hbe];exact(List.map_append (f:=U8) (l₁:=(H.list.take i).flatMap (beB 4)) (l₂:=[UInt8.ofNat (x/16777216),UInt8.ofNat (x/65536),UInt8.ofNat (x/256),UInt8.ofNat x])).symm) ?_
   refine zd (m:=((i+1:Nat):Int)) (by omega) (by omega) ?_
   exact⟨i+1,by omega,by omega,zac [(0,0),(1,_)] rfl ⟨rfl,rfl,cr,trivial⟩ ⟨zcf rfl,cvCh rfl,trivial⟩⟩
  ·simp only[zb]at h4
   obtain rfl:i=8:=by omega
   exact zez (by rw[hres];rfl)
theorem z9t(l:List UInt8)(hl:l.length<=100000000000):bG 54 [bs l] (bch (shaB l)):=by
 refine bT Tryz.func54 rfl ?_
 refine ze zdnb ?_
 refine ze (zi1b l hl) ?_
 exact rfl
def inR(h k:Nat)(x:Int):Prop:=((k*2^(h+1):Nat):Int)<=x/\x+2<=((k*2^(h+1)+2^(h+1):Nat):Int)
theorem zpa(k h:Nat):2*k*2^(h+1)=k*2^(h+1+1):=by rw[Nat.pow_succ 2 (h+1),Nat.mul_comm 2 k,Nat.mul_assoc,Nat.mul_comm 2]
theorem zq0(k h:Nat):(2*k+1)*2^(h+1)=k*2^(h+1+1)+2^(h+1):=by rw[Nat.add_mul,zpa,Nat.one_mul]
theorem zbn(h k:Nat):inR h k (nd h k):=by
 have hp:=zag h
 unfold inR nd
 rw[Nat.pow_succ 2 h]
 generalize k*(2^h*2)=q
 omega
theorem zcb{h k:Nat}{x:Int}(hx:inR h (2*k) x):inR (h+1) k x/\x< (nd (h+1) k:Int):=by
 unfold inR nd at*
 rw[zpa]at hx
 have hp:=zag (h+1)
 rw[Nat.pow_succ 2 (h+1)]at*
 generalize k*(2^(h+1)*2)=q at*
 omega
theorem zcc{h k:Nat}{x:Int}(hx:inR h (2*k+1) x):inR (h+1) k x/\(nd (h+1) k:Int)<x:=by
 unfold inR nd at*
 rw[zq0]at hx
 have hp:=zag (h+1)
 rw[Nat.pow_succ 2 (h+1)]at*
 generalize k*(2^(h+1)*2)=q at*
 omega
theorem z1w{h k:Nat}{x:Int}(hx:inR h k x):0<=x:=by unfold inR at hx;omega
structure Sh (O:List Spot) (h k:Nat) (A B:List Int):Prop where
 ra: ∀x∈A,inR h k x
 rb: ∀x∈B,inR h k x
 pa:A.Pairwise (· < ·)
 pb:B.Pairwise (· < ·)
 dj: ∀x∈A,x∉B
 kids: ∀x∈A,(zaf O x).isSome=true->(0<=zbw x->zbw x∈A\/zbw x∈B)/\(0<=zbo x->zbo x∈A\/zbo x∈B)
 back: ∀y∈B,y=(nd h k:Int)\/∃x∈A,zbw x=y\/zbo x=y
 root:(nd h k:Int)∈A\/(nd h k:Int)∈B
theorem Sh.join{O:List Spot}{h k:Nat}{A1 B1 A2 B2:List Int}(hh:h+1<=16)(hk:k<2^(16-(h+1)))(h1:Sh O h (2*k) A1 B1)(h2:Sh O h (2*k+1) A2 B2):
  Sh O (h+1) k (A1++[(nd (h+1) k:Int)]++A2) (B1++B2):=by
 have hl:=zd4 (d:=16) (by omega) hh hk
 have hr:=zdn (d:=16) (by omega) hh hk
 have mA: ∀x,x∈A1++[(nd (h+1) k:Int)]++A2↔(x∈A1\/x=(nd (h+1) k:Int))\/x∈A2:=λx=>by simp only[List.mem_append,List.mem_cons,List.not_mem_nil,or_false]
 have mB: ∀x,x∈B1++B2↔x∈B1\/x∈B2:=λx=>by simp
 refine⟨λx hx=>?_,λx hx=>?_,?_,?_,λx hx hb=>?_,λx hx hf=>?_,λy hy=>?_, .inl ((mA _).2 (.inl (.inr rfl)))⟩
 ·rcases(mA x).1 hx with(hx |rfl) |hx
  ·exact(zcb (h1.ra x hx)).1
  ·exact zbn _ _
  ·exact(zcc (h2.ra x hx)).1
 ·rcases(mB x).1 hx with hx |hx
  ·exact(zcb (h1.rb x hx)).1
  ·exact(zcc (h2.rb x hx)).1
 ·rw[List.pairwise_append,List.pairwise_append]
  refine⟨⟨h1.pa,by simp,λx hx y hy=>?_⟩,h2.pa,λx hx y hy=>?_⟩
  ·simp at hy;subst hy;exact(zcb (h1.ra x hx)).2
  ·have hy2:=(zcc (h2.ra y hy)).2
   rcases List.mem_append.1 hx with hx |hx
   ·have:=(zcb (h1.ra x hx)).2;omega
   ·simp at hx;subst hx;exact hy2
 ·rw[List.pairwise_append]
  exact⟨h1.pb,h2.pb,λx hx y hy=>by
   have:=(zcb (h1.rb x hx)).2
   have:=(zcc (h2.rb y hy)).2
   omega⟩
 ·rcases(mA x).1 hx with(hx |rfl) |hx<;>rcases(mB _).1 hb with hb |hb
  ·exact h1.dj x hx hb
  ·have:=(zcb (h1.ra x hx)).2;have:=(zcc (h2.rb x hb)).2;omega
  ·have:=(zcb (h1.rb _ hb)).2;omega
  ·have:=(zcc (h2.rb _ hb)).2;omega
  ·have:=(zcc (h2.ra x hx)).2;have:=(zcb (h1.rb x hb)).2;omega
  ·exact h2.dj x hx hb
 ·have up: ∀{c:Int} {A B:List Int},(∀z∈A,z∈A1++[(nd (h+1) k:Int)]++A2)->(∀z∈B,z∈B1++B2)->(c∈A\/c∈B)->c∈A1++[(nd (h+1) k:Int)]++A2\/c∈B1++B2:=λha hb hc=>hc.imp (ha _) (hb _)
  have u1a: ∀z∈A1,z∈A1++[(nd (h+1) k:Int)]++A2:=λz hz=>(mA z).2 (.inl (.inl hz))
  have u2a: ∀z∈A2,z∈A1++[(nd (h+1) k:Int)]++A2:=λz hz=>(mA z).2 (.inr hz)
  have u1b: ∀z∈B1,z∈B1++B2:=λz hz=>(mB z).2 (.inl hz)
  have u2b: ∀z∈B2,z∈B1++B2:=λz hz=>(mB z).2 (.inr hz)
  rcases(mA x).1 hx with(hx |rfl) |hx
  ·exact⟨λh0=>up u1a u1b ((h1.kids x hx hf).1 h0),λh0=>up u1a u1b ((h1.kids x hx hf).2 h0)⟩
  ·rw[hl,hr]
   exact⟨λ_=>up u1a u1b h1.root,λ_=>up u2a u2b h2.root⟩
  ·exact⟨λh0=>up u2a u2b ((h2.kids x hx hf).1 h0),λh0=>up u2a u2b ((h2.kids x hx hf).2 h0)⟩
 ·right
  rcases(mB y).1 hy with hy |hy
  ·rcases h1.back y hy with rfl |⟨x,hx,e⟩
   ·exact⟨_,(mA _).2 (.inl (.inr rfl)), .inl hl⟩
   ·exact⟨x,(mA x).2 (.inl (.inl hx)),e⟩
  ·rcases h2.back y hy with rfl |⟨x,hx,e⟩
   ·exact⟨_,(mA _).2 (.inl (.inr rfl)), .inr hr⟩
   ·exact⟨x,(mA x).2 (.inr hx),e⟩
theorem mem1{x y:Int}(h:x∈[y]):x=y:=by simpa using h
theorem Sh.stub(O:List Spot)(h k:Nat):Sh O h k [] [(nd h k:Int)]where
 ra:=by simp
 rb:=λx hx=>by rw[mem1 hx];exact zbn h k
 pa:=by simp
 pb:=by simp
 dj:=by simp
 kids:=by simp
 back:=λy hy=> .inl (mem1 hy)
 root:= .inr (by simp)
theorem Sh.miss{O:List Spot}{h k:Nat}(hx:zaf O (nd h k)=none):Sh O h k [(nd h k:Int)] []where
 ra:=λx hx=>by rw[mem1 hx];exact zbn h k
 rb:=by simp
 pa:=by simp
 pb:=by simp
 dj:=by simp
 kids:=λx hm hf=>by rw[mem1 hm,hx]at hf;cases hf
 back:=by simp
 root:= .inl (by simp)
theorem Sh.leaf(O:List Spot){k:Nat}(hk:k<65536):Sh O 0 k [(nd 0 k:Int)] []where
 ra:=λx hx=>by rw[mem1 hx];exact zbn 0 k
 rb:=by simp
 pa:=by simp
 pb:=by simp
 dj:=by simp
 kids:=λx hm _=>by
  have h1:=zla (d:=16) (by omega) (show k<2^16 from hk)
  rw[mem1 hm,h1.1,h1.2]
  exact⟨λh=>by omega,λh=>by omega⟩
 back:=by simp
 root:= .inl (by simp)
def kidS(p:Nat->Bool->List Int->List Int×List Int)(h:Nat)(all:Bool)(late:List Int)(j:Nat):List Int×List Int:=
 if all then p j true []else if late.any (λu=>za2 (2*u) (nd h j))then p j false late else([],[(nd h j:Int)])
def shP(O:List Spot):Nat->Nat->Bool->List Int->List Int×List Int
 |0,k,_,_=>([(nd 0 k:Int)],[])
 |h+1,k,whole,late=>match zaf O (nd (h+1) k)with
  |none=>([(nd (h+1) k:Int)],[])
  |some n=>
   let a:=kidS (λj w l=>shP O h j w l) h (whole&&decide (n.kind.toNat=0)) (if whole then n.par.late else late) (2*k)
   let b:=kidS (λj w l=>shP O h j w l) h (whole&&decide (n.kind.toNat=0)) (if whole then n.par.late else late) (2*k+1)
   (a.1++[(nd (h+1) k:Int)]++b.1,a.2++b.2)
theorem zsa{h k:Nat}(hh:h+1<=16)(hk:k<2^(16-(h+1))):2*k+1<2^(16-h):=by
 have:2^(16-h)=2*2^(16-(h+1)):=by rw[show 16-h=(16-(h+1))+1 by omega,Nat.pow_succ];omega
 omega
theorem zsy(O:List Spot): ∀(h k:Nat) (w:Bool) (l:List Int),h<=16->k<2^(16-h)->Sh O h k (shP O h k w l).1 (shP O h k w l).2
 |0,k,w,l,_,hk=>Sh.leaf O (by simpa using hk)
 |h+1,k,w,l,hh,hk=>by
  have hk2:=zsa hh hk
  have kid: ∀all late j,j<2^(16-h)->Sh O h j (kidS (λj w l=>shP O h j w l) h all late j).1 (kidS (λj w l=>shP O h j w l) h all late j).2:=λall late j hj=>by
   unfold kidS
   split
   ·exact zsy O h j true [] (by omega) hj
   ·split
    ·exact zsy O h j false late (by omega) hj
    ·exact Sh.stub O h j
  unfold shP
  cases hf:zaf O (nd (h+1) k)with
  |none=>exact Sh.miss hf
  |some n=>exact Sh.join hh hk (kid _ _ (2*k) (by omega)) (kid _ _ (2*k+1) hk2)
end Go.Proofs.YtoegdgbghdnnfaaGreat.Sx
