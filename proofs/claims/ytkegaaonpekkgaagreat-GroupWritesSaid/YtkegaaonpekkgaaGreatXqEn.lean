import Derived.Test.YtkegaaonpekkgaaGreatXqKu
import Derived.Test.YtkegaaonpekkgaaGreatXqNx
import Derived.Test.YtkegaaonpekkgaaGreatXqSxY
namespace Go.Proofs.YtkegaaonpekkgaaGreat.Sx
open Go.RowKit
set_option maxHeartbeats 4000000
theorem sw{l:List Nat}{i:Int}{j:Nat}(h:i=j)(hj:j<l.length):((l.map yQ).drop (i.toNat*1)).take 1=[yQ (l.getD j 0)]:=by
 rw[xn h hj,bK,bA hj];rfl
def oT(b:cT)(k:Nat):Nat->Nat
 |0=>0
 |i+1=>256*oT b k i+(b.getD (k+i) 0).toNat
theorem Ox(b:cT)(k:Nat):oT b k 4=dl b k:=by
 simp only[oT,dl,Nat.add_zero];omega
theorem H2(b:cT)(k:Nat): ∀i,i<=4->oT b k i<4294967296:=by
 have h: ∀i,oT b k i<256^i:=by
  intro i
  induction i with
  |zero=>simp[oT]
  |succ i ih=>
   have h2:=(b.getD (k+i) 0).toNat_lt
   rw[oT,Nat.pow_succ];omega
 intro i hi
 have h1:=h i
 have h2:256^i<=256^4:=bV (by omega) hi
 omega
def jZ(s x:H8)(t:Nat):List Nat:=(Vc s x).list.take t++s.list.drop t
theorem U6(s x:H8){t:Nat}(ht:t<=8):(jZ s x t).length=8:=by
 simp[jZ,H8.list];omega
theorem GT(s x:H8){t:Nat}(ht:t<8):(jZ s x t).getD t 0=s.list.getD t 0/\(jZ s x t).take t++[(s.list.getD t 0+x.list.getD t 0)%4294967296]++(jZ s x t).drop (t+1)=jZ s x (t+1):=by
 match t,ht with
 |0,_=>exact⟨rfl,rfl⟩
 |1,_=>exact⟨rfl,rfl⟩
 |2,_=>exact⟨rfl,rfl⟩
 |3,_=>exact⟨rfl,rfl⟩
 |4,_=>exact⟨rfl,rfl⟩
 |5,_=>exact⟨rfl,rfl⟩
 |6,_=>exact⟨rfl,rfl⟩
 |7,_=>exact⟨rfl,rfl⟩
theorem RZ{s:H8}(h:s.ok)(t:Nat):s.list.getD t 0<4294967296:=by
 obtain⟨a,b,c,d,e,f,g,i⟩:=h
 match t with
 |0=>exact a
 |1=>exact b
 |2=>exact c
 |3=>exact d
 |4=>exact e
 |5=>exact f
 |6=>exact g
 |7=>exact i
 |n+8=>simp[H8.list]
theorem wv{ρ:List (Nat×Nat)}{S:St}{e:TypeId}{l m:List Nat}{pub:Bool}(h:l=m):jy ρ S (.ch e 1 l.length (l.map yQ) pub) (.ch e 1 m.length (m.map yQ) pub):=by
 subst h;exact⟨rfl,rfl,rfl,rfl,zn _⟩
theorem TC(b:cT)(t:Nat):wk b (t+1)=wk b t++[tD b (wk b t)]:=rfl
theorem J1{b:cT}{t:Nat}(ht:t<16):tD b (wk b t)=dl b (4*t):=by
 unfold tD;rw[vt,cO ht]
theorem J0{b:cT}{t:Nat}(ht:16<=t):tD b (wk b t)=(lB ((wk b t).getD (t-2) 0)+(wk b t).getD (t-7) 0+iJ ((wk b t).getD (t-15) 0)+(wk b t).getD (t-16) 0)%4294967296:=by
 unfold tD;rw[vt,cQ (by omega)]
theorem JF(j:Nat):List.replicate j (0:UInt8)++[0]=List.replicate (j+1) 0:=by rw[List.replicate_succ']
theorem Br(b:cT)(hb:b.length<=100000000000):aG 142 [bs b,us h0Tab.list,us kTab] (xJ (vk b)):=by
 refine aT Tryz.func142 rfl ?_
 refine Vpub.own ?_
 refine z7 (j:=h0Tab.list.length) (zs:=h0Tab.list.map yQ) (by decide) (by decide) rfl rfl ?_
 refine zw ?_
 refine z7 (j:=b.length) (zs:=b.map U8) (by simp[maxLen];omega) (by simp;omega) (by simp) rfl ?_
 refine zw ?_
 refine z7 (j:=(b++[128]).length) (zs:=(b++[128]).map U8) (by simp[maxLen];omega) (by simp;omega) (by simp) (by rw[bM];rfl) ?_
 have hz:=fC b.length
 refine zy (λj:Nat=>{F:=[(0,.r (bs b)),(2,.r (us kTab)),(7,.own 0),(8,.own 1)],O:=[(0,some (.ch 43 1 h0Tab.list.length (h0Tab.list.map yQ) false)),(1,some (.ch 5 1 (b++[128]++List.replicate j 0).length ((b++[128]++List.replicate j 0).map U8) true))],nx:=2})
  (λj=>j<=wK b.length) (λj=>wK b.length-j) 0 (by omega) (zX [(0,_),(1,_)] rfl ⟨cr,cr,rfl,rfl,trivial⟩ ⟨wv rfl,qA (by simp),trivial⟩) ?_
 intro j hj
 have hlj:(b++[128]++List.replicate j (0:UInt8)).length=b.length+1+j:=by simp;omega
 refine Vrem.nat (b.length+1+j) 64 (by rw[hlj]) rfl (by omega) ?_
 refine cZ (λh=>?_) λh=>?_
 ·simp only[zb]at h
  have hj':j<wK b.length:=by unfold wK at*;omega
  refine zw ?_
  refine z7 (j:=(b++[128]++List.replicate (j+1) (0:UInt8)).length) (zs:=(b++[128]++List.replicate (j+1) 0).map U8) (by rw[hlj];simp[maxLen];omega) (by rw[hlj];simp;omega) (by simp;omega) (by rw[<-JF,<-List.append_assoc];exact(List.map_append (f:=U8) (l₁:=b++[128]++List.replicate j 0) (l₂:=[0])).symm) ?_
  exact⟨j+1,by omega,by omega,zX [(0,0),(1,_)] rfl ⟨cr,cr,rfl,rfl,trivial⟩ ⟨wv rfl,qA rfl,trivial⟩⟩
 simp only[zb]at h
 obtain rfl:j=wK b.length:=by unfold wK at*;omega
 obtain⟨N,hN⟩: ∃N,N=b.length*8:=⟨_,rfl⟩
 refine zF b.length rfl (by omega) ?_
 refine zF N (by omega) (by omega) ?_
 obtain⟨B,hB⟩: ∃B,B=b++[128]++List.replicate (wK b.length) (0:UInt8):=⟨_,rfl⟩
 rw[<-hB]at hlj
 refine zy (λi:Nat=>{F:=[(2,.r (us kTab)),(7,.own 0),(8,.own 1),(9,.r (yQ N)),(10,.r (I i))],O:=[(0,some (.ch 43 1 h0Tab.list.length (h0Tab.list.map yQ) false)),(1,some (.ch 5 1 (B++(yg 8 N).take i).length ((B++(yg 8 N).take i).map U8) true))],nx:=2})
  (λi=>i<=8) (λi=>8-i) 0 (by omega) (zN [(0,0),(1,1)] ⟨wv rfl,qA (by rw[hB];simp),trivial⟩) ?_
 intro i hi
 have hbl: ∀i,((yg 8 N).take i).length<=8:=λi=>by rw[bL,yj];omega
 refine cZ (λh2=>?_) λh2=>?_
 ·simp only[zb]at h2
  have hi':i<8:=by omega
  have hbi:=hbl i
  refine zy (λk:Nat=>{F:=[(2,.r (us kTab)),(7,.own 0),(8,.own 1),(9,.r (yQ N)),(10,.r (I i)),(11,.r (yQ (256^k))),(12,.r (I k))],O:=[(0,some (.ch 43 1 h0Tab.list.length (h0Tab.list.map yQ) false)),(1,some (.ch 5 1 (B++(yg 8 N).take i).length ((B++(yg 8 N).take i).map U8) true))],nx:=2})
   (λk=>k<=7-i) (λk=>7-i-k) 0 (by omega) (zN [(0,0),(1,1)] ⟨wv rfl,qA rfl,trivial⟩) ?_
  intro k hk
  have hkp:256^k<=256^7:=bV (by omega) (by omega)
  refine zd rfl (by omega) ?_
  refine cZ (λh3=>?_) λh3=>?_
  ·simp only[zb]at h3
   have hkp':256^k<=256^6:=bV (by omega) (by omega)
   refine zF (256^(k+1)) (by rw[Nat.pow_succ];omega) (by rw[Nat.pow_succ];omega) ?_
   refine zd (m:=((k+1:Nat):Int)) (by omega) (by omega) ?_
   exact⟨k+1,by omega,by omega,zN [(0,0),(1,1)] ⟨wv rfl,qA rfl,trivial⟩⟩
  ·simp only[zb]at h3
   obtain rfl:k=7-i:=by omega
   refine Vquo.nat N (256^(7-i)) rfl rfl (Nat.pow_pos (by omega)) (by omega) ?_
   refine Vrem.nat (N/256^(7-i)) 256 rfl rfl (by omega) ?_
   refine Vint.u8 (N/256^(7-i)%256) rfl ?_
   rw[fu]
   refine zw ?_
   have ht:=dm (s:=8) (n:=N) hi'
   refine z7 (j:=(B++(yg 8 N).take (i+1)).length) (zs:=(B++(yg 8 N).take (i+1)).map U8) (by simp only[aL,hlj,maxLen];omega) (by simp only[aL,hlj];omega) (by rw[ht];simp only[aL,bJ,bO];omega) (by rw[ht,<-List.append_assoc];exact(List.map_append (f:=U8) (l₁:=B++(yg 8 N).take i) (l₂:=[UInt8.ofNat (N/256^(8-1-i))])).symm) ?_
   refine zd (m:=((i+1:Nat):Int)) (by omega) (by omega) ?_
   exact⟨i+1,by omega,by omega,zX [(0,0),(1,_)] rfl ⟨cr,rfl,rfl,cr,cr,trivial⟩ ⟨wv rfl,qA rfl,trivial⟩⟩
 simp only[zb]at h2
 obtain rfl:i=8:=by omega
 obtain⟨M,hM⟩: ∃M,M=b++oB b.length:=⟨_,rfl⟩
 have hBM:B++(yg 8 N).take 8=M:=by
  rw[hM,hB,bF (by rw[yj];omega),hN]
  simp[oB]
 have hMl:M.length=b.length+(9+wK b.length):=by rw[hM,aL,fp]
 have hM64:=UN b.length
 obtain⟨T,hT⟩: ∃T,M.length=64*T:=⟨M.length/64,by rw[hMl];omega⟩
 rw[hBM]
 refine zy (λt:Nat=>{F:=[(2,.r (us kTab)),(7,.own 0),(8,.r (bs M)),(13,.r (I (64*t:Nat)))],O:=[(0,some (.ch 43 1 (tV t h0Tab M).list.length ((tV t h0Tab M).list.map yQ) false))],nx:=1})
  (λt=>t<=T) (λt=>T-t) 0 (by omega) (zN [(0,0)] ⟨wv rfl,trivial⟩) ?_
 intro t ht
 obtain⟨H,hH⟩: ∃H,H=tV t h0Tab M:=⟨_,rfl⟩
 have hHok:H.ok:=hH▸eb t h0Tab M QF
 rw[<-hH]
 refine cZ (λh3=>?_) λh3=>?_
 ·simp only[zb]at h3
  have ht':t<T:=by omega
  obtain⟨K,hK⟩: ∃K,K=(M.drop (64*t)).take 64:=⟨_,rfl⟩
  have hKat: ∀i,i<64->K.getD i 0=M.getD (64*t+i) 0:=λi hi=>by
   rw[hK,bK,bK,bZ,cO hi,List.getElem?_drop]
  have hstep:i7 H K=tV (t+1) h0Tab M:=by rw[gV,<-hH,<-hK]
  refine zy (λq:Nat=>{F:=[(2,.r (us kTab)),(7,.own 0),(8,.r (bs M)),(13,.r (I (64*t:Nat))),(14,.own 1),(15,.r (I q))],O:=[(0,some (.ch 43 1 H.list.length (H.list.map yQ) false)),(1,some (.ch 43 1 (wk K q).length ((wk K q).map yQ) true))],nx:=2})
   (λq=>q<=64) (λq=>64-q) 0 (by omega) ((uh 14 43 1 rfl).trans (zN [(0,0),(1,1)] ⟨wv rfl,⟨rfl,rfl,rfl,rfl,zn _⟩,trivial⟩)) ?_
  intro q hq
  have hwl:=vt K q
  refine cZ (λh4=>?_) λh4=>?_
  ·simp only[zb]at h4
   have hq':q<64:=by omega
   refine cZ (λh5=>?_) λh5=>?_
   ·simp only[zb]at h5
    have hq16:q<16:=by omega
    refine zy (λi:Nat=>{F:=[(2,.r (us kTab)),(7,.own 0),(8,.r (bs M)),(13,.r (I (64*t:Nat))),(14,.own 1),(15,.r (I q)),(16,.r (yQ (oT K (4*q) i))),(17,.r (I i))],O:=[(0,some (.ch 43 1 H.list.length (H.list.map yQ) false)),(1,some (.ch 43 1 (wk K q).length ((wk K q).map yQ) true))],nx:=2})
     (λi=>i<=4) (λi=>4-i) 0 (by omega) (zN [(0,0),(1,1)] ⟨wv rfl,wv rfl,trivial⟩) ?_
    intro i hi
    refine cZ (λh6=>?_) λh6=>?_
    ·simp only[zb]at h6
     have hi':i<4:=by omega
     have ha:=H2 K (4*q) i (by omega)
     have hat:=hKat (4*q+i) (by omega)
     have hu:=(M.getD (64*t+(4*q+i)) 0).toNat_lt
     refine zF (256*oT K (4*q) i) (by omega) (by omega) ?_
     refine zd rfl (by omega) ?_
     refine zd rfl (by omega) ?_
     refine zd rfl (by omega) ?_
     refine zm (by omega) (by rw[hT];omega) (qP (j:=64*t+(4*q+i)) (by omega) (by omega)) (zg rfl ?_)
     refine zF (M.getD (64*t+(4*q+i)) 0).toNat rfl (by omega) ?_
     refine zF (oT K (4*q) (i+1)) (by rw[oT,hat];omega) (by rw[oT,hat];omega) ?_
     refine zd (m:=((i+1:Nat):Int)) (by omega) (by omega) ?_
     exact⟨i+1,by omega,by omega,zN [(0,0),(1,1)] ⟨wv rfl,wv rfl,trivial⟩⟩
    ·simp only[zb]at h6
     obtain rfl:i=4:=by omega
     refine zw ?_
     refine z7 (j:=(wk K (q+1)).length) (zs:=(wk K (q+1)).map yQ) (by rw[hwl];simp only[maxLen];omega) (by rw[hwl];simp;omega) (by rw[hwl,vt]) (by rw[TC,J1 hq16,Ox];exact(List.map_append (f:=yQ) (l₁:=wk K q) (l₂:=[dl K (4*q)])).symm) ?_
     refine zd (m:=((q+1:Nat):Int)) (by omega) (by omega) ?_
     exact⟨q+1,by omega,by omega,zX [(0,0),(1,_)] rfl ⟨cr,rfl,cr,cr,rfl,cr,trivial⟩ ⟨wv rfl,wv rfl,trivial⟩⟩
   ·simp only[zb]at h5
    have hq16:16<=q:=by omega
    have w15:=rA K q (q-15)
    have w2:=rA K q (q-2)
    have w7:=rA K q (q-7)
    have w16:=rA K q (q-16)
    have hnx:=J0 (b:=K) hq16
    have s0:=CI w15
    have s1:=CJ w2
    obtain⟨W,hW⟩: ∃W,W=wk K q:=⟨_,rfl⟩
    rw[<-hW]at w15 w2 w7 w16 hnx s0 s1 hwl
    have hnext:wk K (q+1)=W++[tD K W]:=by rw[TC,<-hW]
    have hwl1:(wk K (q+1)).length=q+1:=vt K _
    rw[<-hW]
    have i15:(-9223372036854775808:Int)<=(q:Int)-15/\(q:Int)-15<=9223372036854775807:=by omega
    have i2:(-9223372036854775808:Int)<=(q:Int)-2/\(q:Int)-2<=9223372036854775807:=by omega
    refine aV ?_
    refine zd rfl i15 (cV (sw (j:=q-15) (by omega) (by omega)) (zg rfl ?_))
    refine ze (rn _ 7 w15 (by omega)) ?_
    refine zd rfl i15 (cV (sw (j:=q-15) (by omega) (by omega)) (zg rfl ?_))
    refine ze (rn _ 18 w15 (by omega)) ?_
    refine Vbits.xor (yX 7 (W.getD (q-15) 0)) (yX 18 (W.getD (q-15) 0)) rfl rfl (Nat.lt_trans (xR w15 (by omega)) (by decide)) (Nat.lt_trans (xR w15 (by omega)) (by decide)) ?_
    refine zd rfl i15 (cV (sw (j:=q-15) (by omega) (by omega)) (zg rfl ?_))
    refine ze (SY _ 3 w15 (by omega)) ?_
    refine Vbits.xor (yX 7 (W.getD (q-15) 0)^^^yX 18 (W.getD (q-15) 0)) (W.getD (q-15) 0/2^3) rfl rfl (Nat.lt_trans (wJ (xR w15 (by omega)) (xR w15 (by omega))) (by decide)) (by have:=Nat.div_le_self (W.getD (q-15) 0) (2^3);omega) ?_
    refine aV ?_
    refine zd rfl i2 (cV (sw (j:=q-2) (by omega) (by omega)) (zg rfl ?_))
    refine ze (rn _ 17 w2 (by omega)) ?_
    refine zd rfl i2 (cV (sw (j:=q-2) (by omega) (by omega)) (zg rfl ?_))
    refine ze (rn _ 19 w2 (by omega)) ?_
    refine Vbits.xor (yX 17 (W.getD (q-2) 0)) (yX 19 (W.getD (q-2) 0)) rfl rfl (Nat.lt_trans (xR w2 (by omega)) (by decide)) (Nat.lt_trans (xR w2 (by omega)) (by decide)) ?_
    refine zd rfl i2 (cV (sw (j:=q-2) (by omega) (by omega)) (zg rfl ?_))
    refine ze (SY _ 10 w2 (by omega)) ?_
    refine Vbits.xor (yX 17 (W.getD (q-2) 0)^^^yX 19 (W.getD (q-2) 0)) (W.getD (q-2) 0/2^10) rfl rfl (Nat.lt_trans (wJ (xR w2 (by omega)) (xR w2 (by omega))) (by decide)) (by have:=Nat.div_le_self (W.getD (q-2) 0) (2^10);omega) ?_
    have e0:yX 7 (W.getD (q-15) 0)^^^yX 18 (W.getD (q-15) 0)^^^W.getD (q-15) 0/2^3=iJ (W.getD (q-15) 0):=rfl
    have e1:yX 17 (W.getD (q-2) 0)^^^yX 19 (W.getD (q-2) 0)^^^W.getD (q-2) 0/2^10=lB (W.getD (q-2) 0):=rfl
    rw[e0,e1]
    refine aV ?_
    refine zd rfl (by omega) (cV (sw (j:=q-7) (by omega) (by omega)) (zg rfl ?_))
    refine zF (lB (W.getD (q-2) 0)+W.getD (q-7) 0) (by omega) (by omega) ?_
    refine zF (lB (W.getD (q-2) 0)+W.getD (q-7) 0+iJ (W.getD (q-15) 0)) (by omega) (by omega) ?_
    refine zd rfl (by omega) (cV (sw (j:=q-16) (by omega) (by omega)) (zg rfl ?_))
    refine zF (lB (W.getD (q-2) 0)+W.getD (q-7) 0+iJ (W.getD (q-15) 0)+W.getD (q-16) 0) (by omega) (by omega) ?_
    refine Vrem.nat (lB (W.getD (q-2) 0)+W.getD (q-7) 0+iJ (W.getD (q-15) 0)+W.getD (q-16) 0) 4294967296 rfl rfl (by omega) ?_
    rw[<-hnx]
    refine zw ?_
    refine z7 (j:=(wk K (q+1)).length) (zs:=(wk K (q+1)).map yQ) (by rw[hwl];simp only[maxLen];omega) (by rw[hwl];simp;omega) (by rw[hwl,hwl1]) (by rw[hnext];exact(List.map_append (f:=yQ) (l₁:=W) (l₂:=[tD K W])).symm) ?_
    refine zd (m:=((q+1:Nat):Int)) (by omega) (by omega) ?_
    exact⟨q+1,by omega,by omega,zX [(0,0),(1,_)] rfl ⟨cr,rfl,cr,cr,rfl,cr,trivial⟩ ⟨wv rfl,wv rfl,trivial⟩⟩
  simp only[zb]at h4
  obtain rfl:q=64:=by omega
  obtain⟨W,hW⟩: ∃W,W=wk K 64:=⟨_,rfl⟩
  rw[<-hW]at hwl⊢
  refine zw ?_
  refine z7 (j:=H.list.length) (zs:=H.list.map yQ) (by simp[H8.list,maxLen]) (by simp[H8.list]) (by simp) rfl ?_
  refine zy (λq:Nat=>{F:=[(2,.r (us kTab)),(7,.own 0),(8,.r (bs M)),(13,.r (I (64*t:Nat))),(14,.r (us W)),(20,.r (us (pK K H q).list)),(21,.r (I q))],O:=[(0,some (.ch 43 1 H.list.length (H.list.map yQ) false))],nx:=1})
   (λq=>q<=64) (λq=>64-q) 0 (by omega) (zN [(0,0)] ⟨wv rfl,trivial⟩) ?_
  intro q hq
  obtain⟨s,hs⟩: ∃s,s=pK K H q:=⟨_,rfl⟩
  have hsok:s.ok:=hs▸iq hHok q
  rw[<-hs]
  obtain⟨oa,ob,oc,od,oe,of_,og,oh⟩:=id hsok
  refine cZ (λh5=>?_) λh5=>?_
  ·simp only[zb]at h5
   have hq':q<64:=by omega
   refine zy (λi:Nat=>{F:=[(2,.r (us kTab)),(7,.own 0),(8,.r (bs M)),(13,.r (I (64*t:Nat))),(14,.r (us W)),(20,.r (us s.list)),(21,.r (I q)),(22,.r (yQ (rj s.e s.f s.g%2^i))),(23,.r (yQ (tR s.a s.b s.c%2^i))),(24,.r (yQ (2^i))),(25,.r (I i))],O:=[(0,some (.ch 43 1 H.list.length (H.list.map yQ) false))],nx:=1})
    (λi=>i<=32) (λi=>32-i) 0 (by omega) (zX [(0,0)] rfl ⟨cr,rfl,cr,cr,cr,cr,cr,zf (by simp[Nat.mod_one,xT]),zf (by simp[Nat.mod_one,xT]),cr,cr,trivial⟩ ⟨wv rfl,trivial⟩) ?_
   intro i hi
   have hip:2^i<=2^32:=bV (by omega) hi
   have hip0:=yy i
   have hcl:=FZ (e:=s.e) (f:=s.f) (g:=s.g) oe
   have hml:=GQ (a:=s.a) (b:=s.b) (c:=s.c) oa ob
   have hcm:=Nat.mod_le (rj s.e s.f s.g) (2^i)
   have hmm:=Nat.mod_le (tR s.a s.b s.c) (2^i)
   have hcm1:=Nat.mod_le (rj s.e s.f s.g) (2^(i+1))
   have hmm1:=Nat.mod_le (tR s.a s.b s.c) (2^(i+1))
   refine cZ (λh6=>?_) λh6=>?_
   ·simp only[zb]at h6
    have hi':i<32:=by omega
    have hst:=HJ (e:=s.e) (f:=s.f) (g:=s.g) oe hi'
    refine zm (cs:=[yQ s.e]) (by omega) (by simp[H8.list]) rfl (zg rfl ?_)
    refine Vquo.nat s.e (2^i) rfl rfl (yy _) (by omega) ?_
    refine Vrem.nat (s.e/2^i) 2 rfl rfl (by omega) ?_
    refine cZ (λh7=>?_) λh7=>?_
    ·simp only[zb]at h7
     have hch:=hst.1 (by omega)
     refine zm (cs:=[yQ s.f]) (by omega) (by simp[H8.list]) rfl (zg rfl ?_)
     refine Vquo.nat s.f (2^i) rfl rfl (yy _) (by omega) ?_
     refine Vrem.nat (s.f/2^i) 2 rfl rfl (by omega) ?_
     obtain⟨Pp,hPp⟩: ∃Pp,Pp=s.f/2^i%2*2^i:=⟨_,rfl⟩
     have hPl:Pp<=2^i:=by rw[hPp];have:=Nat.mul_le_mul_right (2^i) (show s.f/2^i%2<=1 by omega);omega
     rw[<-hPp]at hch
     refine zF Pp (by rw[hPp,Int.natCast_mul]) (by omega) ?_
     refine zF (rj s.e s.f s.g%2^(i+1)) (by rw[hch];omega) (by omega) ?_
     refine aV ?_
     refine zm (cs:=[yQ s.a]) (by omega) (by simp[H8.list]) rfl (zg rfl ?_)
     refine Vquo.nat s.a (2^i) rfl rfl (yy _) (by omega) ?_
     refine Vrem.nat (s.a/2^i) 2 rfl rfl (by omega) ?_
     refine zm (cs:=[yQ s.b]) (by omega) (by simp[H8.list]) rfl (zg rfl ?_)
     refine Vquo.nat s.b (2^i) rfl rfl (yy _) (by omega) ?_
     refine Vrem.nat (s.b/2^i) 2 rfl rfl (by omega) ?_
     refine zF (s.a/2^i%2+s.b/2^i%2) (by omega) (by omega) ?_
     refine zm (cs:=[yQ s.c]) (by omega) (by simp[H8.list]) rfl (zg rfl ?_)
     refine Vquo.nat s.c (2^i) rfl rfl (yy _) (by omega) ?_
     refine Vrem.nat (s.c/2^i) 2 rfl rfl (by omega) ?_
     refine zF (s.a/2^i%2+s.b/2^i%2+s.c/2^i%2) (by omega) (by omega) ?_
     refine cZ (λh8=>?_) λh8=>?_
     ·simp only[zb]at h8
      have hmj:=(jW (a:=s.a) (b:=s.b) (c:=s.c) (t:=i)).1 (by omega)
      refine zF (tR s.a s.b s.c%2^(i+1)) (by rw[hmj];omega) (by omega) ?_
      refine zF (2^(i+1)) (by rw[Nat.pow_succ];omega) (by rw[Nat.pow_succ];omega) ?_
      refine zd (m:=((i+1:Nat):Int)) (by omega) (by omega) ?_
      exact⟨i+1,by omega,by omega,zN [(0,0)] ⟨wv rfl,trivial⟩⟩
     ·simp only[zb]at h8
      have hmj:=(jW (a:=s.a) (b:=s.b) (c:=s.c) (t:=i)).2 (by omega)
      refine zF (2^(i+1)) (by rw[Nat.pow_succ];omega) (by rw[Nat.pow_succ];omega) ?_
      refine zd (m:=((i+1:Nat):Int)) (by omega) (by omega) ?_
      exact⟨i+1,by omega,by omega,zX [(0,0)] rfl ⟨cr,rfl,cr,cr,cr,cr,cr,cr,zf (by rw[hmj]),cr,cr,trivial⟩ ⟨wv rfl,trivial⟩⟩
    ·simp only[zb]at h7
     have hch:=hst.2 (by omega)
     refine zm (cs:=[yQ s.g]) (by omega) (by simp[H8.list]) rfl (zg rfl ?_)
     refine Vquo.nat s.g (2^i) rfl rfl (yy _) (by omega) ?_
     refine Vrem.nat (s.g/2^i) 2 rfl rfl (by omega) ?_
     obtain⟨Pp,hPp⟩: ∃Pp,Pp=s.g/2^i%2*2^i:=⟨_,rfl⟩
     have hPl:Pp<=2^i:=by rw[hPp];have:=Nat.mul_le_mul_right (2^i) (show s.g/2^i%2<=1 by omega);omega
     rw[<-hPp]at hch
     refine zF Pp (by rw[hPp,Int.natCast_mul]) (by omega) ?_
     refine zF (rj s.e s.f s.g%2^(i+1)) (by rw[hch];omega) (by omega) ?_
     refine aV ?_
     refine zm (cs:=[yQ s.a]) (by omega) (by simp[H8.list]) rfl (zg rfl ?_)
     refine Vquo.nat s.a (2^i) rfl rfl (yy _) (by omega) ?_
     refine Vrem.nat (s.a/2^i) 2 rfl rfl (by omega) ?_
     refine zm (cs:=[yQ s.b]) (by omega) (by simp[H8.list]) rfl (zg rfl ?_)
     refine Vquo.nat s.b (2^i) rfl rfl (yy _) (by omega) ?_
     refine Vrem.nat (s.b/2^i) 2 rfl rfl (by omega) ?_
     refine zF (s.a/2^i%2+s.b/2^i%2) (by omega) (by omega) ?_
     refine zm (cs:=[yQ s.c]) (by omega) (by simp[H8.list]) rfl (zg rfl ?_)
     refine Vquo.nat s.c (2^i) rfl rfl (yy _) (by omega) ?_
     refine Vrem.nat (s.c/2^i) 2 rfl rfl (by omega) ?_
     refine zF (s.a/2^i%2+s.b/2^i%2+s.c/2^i%2) (by omega) (by omega) ?_
     refine cZ (λh8=>?_) λh8=>?_
     ·simp only[zb]at h8
      have hmj:=(jW (a:=s.a) (b:=s.b) (c:=s.c) (t:=i)).1 (by omega)
      refine zF (tR s.a s.b s.c%2^(i+1)) (by rw[hmj];omega) (by omega) ?_
      refine zF (2^(i+1)) (by rw[Nat.pow_succ];omega) (by rw[Nat.pow_succ];omega) ?_
      refine zd (m:=((i+1:Nat):Int)) (by omega) (by omega) ?_
      exact⟨i+1,by omega,by omega,zN [(0,0)] ⟨wv rfl,trivial⟩⟩
     ·simp only[zb]at h8
      have hmj:=(jW (a:=s.a) (b:=s.b) (c:=s.c) (t:=i)).2 (by omega)
      refine zF (2^(i+1)) (by rw[Nat.pow_succ];omega) (by rw[Nat.pow_succ];omega) ?_
      refine zd (m:=((i+1:Nat):Int)) (by omega) (by omega) ?_
      exact⟨i+1,by omega,by omega,zX [(0,0)] rfl ⟨cr,rfl,cr,cr,cr,cr,cr,cr,zf (by rw[hmj]),cr,cr,trivial⟩ ⟨wv rfl,trivial⟩⟩
   simp only[zb]at h6
   obtain rfl:i=32:=by omega
   rw[bS (show rj s.e s.f s.g<2^32 from hcl),bS (show tR s.a s.b s.c<2^32 from hml)]
   have hk:=Rp q
   have hw:W.getD q 0<4294967296:=by rw[hW];exact rA K 64 q
   have b1:=FV oe
   have b0:=FU oa
   refine aV ?_
   refine zm (cs:=[yQ s.h]) (by omega) (by simp[H8.list]) rfl (zg rfl ?_)
   refine zm (cs:=[yQ s.e]) (by omega) (by simp[H8.list]) rfl (zg rfl ?_)
   refine ze (rn _ 6 oe (by omega)) ?_
   refine zm (cs:=[yQ s.e]) (by omega) (by simp[H8.list]) rfl (zg rfl ?_)
   refine ze (rn _ 11 oe (by omega)) ?_
   refine Vbits.xor (yX 6 s.e) (yX 11 s.e) rfl rfl (Nat.lt_trans (xR oe (by omega)) (by decide)) (Nat.lt_trans (xR oe (by omega)) (by decide)) ?_
   refine zm (cs:=[yQ s.e]) (by omega) (by simp[H8.list]) rfl (zg rfl ?_)
   refine ze (rn _ 25 oe (by omega)) ?_
   refine Vbits.xor (yX 6 s.e^^^yX 11 s.e) (yX 25 s.e) rfl rfl (Nat.lt_trans (wJ (xR oe (by omega)) (xR oe (by omega))) (by decide)) (Nat.lt_trans (xR oe (by omega)) (by decide)) ?_
   refine zF (s.h+ai s.e) (by rw[Int.natCast_add];rfl) (by omega) ?_
   refine zF (s.h+ai s.e+rj s.e s.f s.g) (by omega) (by omega) ?_
   refine zm (by omega) (by rw[dH];omega) (sw (j:=q) rfl (by rw[dH];omega)) (zg rfl ?_)
   refine zF (s.h+ai s.e+rj s.e s.f s.g+kTab.getD q 0) (by omega) (by omega) ?_
   refine zm (by omega) (by rw[hwl];omega) (sw (j:=q) rfl (by rw[hwl];omega)) (zg rfl ?_)
   obtain⟨t1,ht1⟩: ∃t1,t1=T1 (kTab.getD q 0) (W.getD q 0) s:=⟨_,rfl⟩
   have ht1':t1=s.h+ai s.e+rj s.e s.f s.g+kTab.getD q 0+W.getD q 0:=ht1
   refine zF t1 (by omega) (by omega) ?_
   refine aV ?_
   refine zm (cs:=[yQ s.a]) (by omega) (by simp[H8.list]) rfl (zg rfl ?_)
   refine ze (rn _ 2 oa (by omega)) ?_
   refine zm (cs:=[yQ s.a]) (by omega) (by simp[H8.list]) rfl (zg rfl ?_)
   refine ze (rn _ 13 oa (by omega)) ?_
   refine Vbits.xor (yX 2 s.a) (yX 13 s.a) rfl rfl (Nat.lt_trans (xR oa (by omega)) (by decide)) (Nat.lt_trans (xR oa (by omega)) (by decide)) ?_
   refine zm (cs:=[yQ s.a]) (by omega) (by simp[H8.list]) rfl (zg rfl ?_)
   refine ze (rn _ 22 oa (by omega)) ?_
   refine Vbits.xor (yX 2 s.a^^^yX 13 s.a) (yX 22 s.a) rfl rfl (Nat.lt_trans (wJ (xR oa (by omega)) (xR oa (by omega))) (by decide)) (Nat.lt_trans (xR oa (by omega)) (by decide)) ?_
   obtain⟨t2,ht2⟩: ∃t2,t2=Hv s:=⟨_,rfl⟩
   have ht2':t2=O6 s.a+tR s.a s.b s.c:=ht2
   refine zF t2 (by rw[ht2',Int.natCast_add];rfl) (by omega) ?_
   refine aV ?_
   refine zF (t1+t2) (by omega) (by omega) ?_
   refine Vrem.nat (t1+t2) 4294967296 rfl rfl (by omega) ?_
   refine zm (cs:=[yQ s.a]) (by omega) (by simp[H8.list]) rfl (zg rfl ?_)
   refine zm (cs:=[yQ s.b]) (by omega) (by simp[H8.list]) rfl (zg rfl ?_)
   refine zm (cs:=[yQ s.c]) (by omega) (by simp[H8.list]) rfl (zg rfl ?_)
   refine zm (cs:=[yQ s.d]) (by omega) (by simp[H8.list]) rfl (zg rfl ?_)
   refine zF (s.d+t1) (by omega) (by omega) ?_
   refine Vrem.nat (s.d+t1) 4294967296 rfl rfl (by omega) ?_
   refine zm (cs:=[yQ s.e]) (by omega) (by simp[H8.list]) rfl (zg rfl ?_)
   refine zm (cs:=[yQ s.f]) (by omega) (by simp[H8.list]) rfl (zg rfl ?_)
   refine zm (cs:=[yQ s.g]) (by omega) (by simp[H8.list]) rfl (zg rfl ?_)
   refine zw ?_
   refine zd (m:=((q+1:Nat):Int)) (by omega) (by omega) ?_
   have hnx:pK K H (q+1)=⟨(t1+t2)%4294967296,s.a,s.b,s.c,(s.d+t1)%4294967296,s.e,s.f,s.g⟩:=by
    rw[ht1,ht2,hW,hs];rfl
   exact⟨q+1,by omega,by omega,zX [(0,0)] rfl ⟨cr,rfl,cr,cr,cr,zf (by rw[hnx];rfl),cr,trivial⟩ ⟨wv rfl,trivial⟩⟩
  simp only[zb]at h5
  obtain rfl:q=64:=by omega
  have hadd:Vc H s=i7 H K:=by rw[hs];rfl
  refine zy (λi:Nat=>{F:=[(2,.r (us kTab)),(7,.own 0),(8,.r (bs M)),(13,.r (I (64*t:Nat))),(20,.r (us s.list)),(28,.r (I i))],O:=[(0,some (.ch 43 1 (jZ H s i).length ((jZ H s i).map yQ) false))],nx:=1})
   (λi=>i<=8) (λi=>8-i) 0 (by omega) (zN [(0,0)] ⟨wv rfl,trivial⟩) ?_
  intro i hi
  have hml:=U6 H s hi
  refine cZ (λh6=>?_) λh6=>?_
  ·simp only[zb]at h6
   have hi':i<8:=by omega
   obtain⟨m1,m2⟩:=GT H s hi'
   have x1:=RZ hHok i
   have x2:=RZ hsok i
   refine aV ?_
   refine zD i rfl (by omega) ?_
   refine zg (f:=yQ (H.list.getD i 0)) (by rw[<-m1,cL,bR,bK,bA (by omega)];rfl) ?_
   refine zm (by omega) (by simp[H8.list];omega) (sw (j:=i) rfl (by simp[H8.list];omega)) (zg rfl ?_)
   refine zF (H.list.getD i 0+s.list.getD i 0) (by omega) (by omega) ?_
   refine Vrem.nat (H.list.getD i 0+s.list.getD i 0) 4294967296 rfl rfl (by omega) ?_
   refine zD i rfl (by omega) ?_
   refine⟨by rw[bC,hml];simp;omega,(jZ H s (i+1)).map yQ,?_,?_⟩
   ·rw[<-m2,bM,bM,List.map_take,List.map_drop]
    simp[uu,cellsOf]
   refine zd (m:=((i+1:Nat):Int)) (by omega) (by omega) ?_
   exact⟨i+1,by omega,by omega,zN [(0,0)] ⟨⟨rfl,rfl,by rw[hml,U6 H s (by omega)],rfl,zn _⟩,trivial⟩⟩
  simp only[zb]at h6
  obtain rfl:i=8:=by omega
  refine zd (m:=((64*(t+1):Nat):Int)) (by omega) (by omega) ?_
  exact⟨t+1,by omega,by omega,zN [(0,0)] ⟨wv (by rw[<-hstep,<-hadd];rfl),trivial⟩⟩
 ·simp only[zb]at h3
  obtain rfl:t=T:=by omega
  have hres:vk b=YX H:=by
   unfold vk
   rw[<-hM,hT,Nat.mul_div_cancel_left _ (by omega),hH]
  refine zy (λi:Nat=>{F:=[(7,.own 0),(29,.own 1),(30,.r (I i))],O:=[(0,some (.ch 43 1 H.list.length (H.list.map yQ) false)),(1,some (.ch 5 1 ((H.list.take i).flatMap (yg 4)).length (((H.list.take i).flatMap (yg 4)).map U8) true))],nx:=2})
   (λi=>i<=8) (λi=>8-i) 0 (by omega) ((uh 29 5 1 rfl).trans (zN [(0,0),(1,1)] ⟨wv rfl,⟨rfl,rfl,rfl,rfl,zn _⟩,trivial⟩)) ?_
  intro i hi
  have hHl:H.list.length=8:=rfl
  refine cZ (λh4=>?_) λh4=>?_
  ·simp only[zb]at h4
   have hi':i<8:=by omega
   obtain⟨x,hx⟩: ∃x,x=H.list.getD i 0:=⟨_,rfl⟩
   have hxl:x<4294967296:=hx▸RZ hHok i
   have hcell:(H.list.map yQ)[i*1]?=some (yQ x):=by rw[hx,cL,bR,bK,bA (by omega)];rfl
   have hflat:(H.list.take (i+1)).flatMap (yg 4)=(H.list.take i).flatMap (yg 4)++yg 4 x:=by
    rw[List.take_add_one,List.flatMap_append,hx,bK,bA (by omega)]
    simp
   have hlen:((H.list.take i).flatMap (yg 4)).length<=32:=by
    have: ∀l:List Nat,(l.flatMap (yg 4)).length=4*l.length:=λl=>by
     induction l with
     |nil=>rfl
     |cons y l ih=>simp only[List.flatMap_cons,aL,yj,ih,bJ];omega
    rw[this,bL];omega
   refine aV ?_
   refine zD i rfl (by omega) (zg hcell ?_)
   refine Vquo.nat x 16777216 rfl rfl (by omega) (by omega) ?_
   refine Vint.u8 (x/16777216) rfl ?_
   refine zD i rfl (by omega) (zg hcell ?_)
   refine Vquo.nat x 65536 rfl rfl (by omega) (by omega) ?_
   refine Vrem.nat (x/65536) 256 rfl rfl (by omega) ?_
   refine Vint.u8 (x/65536%256) rfl ?_
   rw[fu]
   refine zD i rfl (by omega) (zg hcell ?_)
   refine Vquo.nat x 256 rfl rfl (by omega) (by omega) ?_
   refine Vrem.nat (x/256) 256 rfl rfl (by omega) ?_
   refine Vint.u8 (x/256%256) rfl ?_
   rw[fu]
   refine zD i rfl (by omega) (zg hcell ?_)
   refine Vrem.nat x 256 rfl rfl (by omega) ?_
   refine Vint.u8 (x%256) rfl ?_
   rw[fu]
   refine zw ?_
   have hbe:yg 4 x=[UInt8.ofNat (x/16777216),UInt8.ofNat (x/65536),UInt8.ofNat (x/256),UInt8.ofNat x]:=by simp[yg]
   refine z7 (j:=((H.list.take (i+1)).flatMap (yg 4)).length) (zs:=((H.list.take (i+1)).flatMap (yg 4)).map U8) (by simp only[maxLen];omega) (by show(((H.list.take i).flatMap (yg 4)).length+4)*1<=140737488355328;omega) (by rw[hflat,aL,yj]) (by rw[hflat,hbe];exact(List.map_append (f:=U8) (l₁:=(H.list.take i).flatMap (yg 4)) (l₂:=[UInt8.ofNat (x/16777216),UInt8.ofNat (x/65536),UInt8.ofNat (x/256),UInt8.ofNat x])).symm) ?_
   refine zd (m:=((i+1:Nat):Int)) (by omega) (by omega) ?_
   exact⟨i+1,by omega,by omega,zX [(0,0),(1,_)] rfl ⟨rfl,rfl,cr,trivial⟩ ⟨wv rfl,qA rfl,trivial⟩⟩
  ·simp only[zb]at h4
   obtain rfl:i=8:=by omega
   exact vR (by rw[hres];rfl)
theorem pw(l:cT)(hl:l.length<=100000000000):aG 66 [bs l] (xJ (vk l)):=by
 refine aT Tryz.func66 rfl ?_
 refine ze HT ?_
 refine ze (Br l hl) ?_
 exact rfl
abbrev vd(s:ByteArray):RV:= .x (.string s)
abbrev sB(s:ByteArray):cT:=s.data.toList
def uq(k:cT):cT:=if 64<k.length then vk k else k
def tv(k:cT)(w:UInt8):cT:=(List.range 64).map λi=>(uq k).getD i 0^^^w
def wh(k t:cT):cT:=vk (tv k 92++vk (tv k 54++t))
theorem mV(k:cT)(w:UInt8):(tv k w).length=64:=by simp[tv]
theorem x8(k t:cT):(wh k t).length=32:=wT _
theorem Rq(k:cT):(uq k).length<=64:=by
 unfold uq
 split
 ·rw[wT];omega
 ·omega
theorem CS(x y:UInt8):IntKind.u8.wrap (((BitVec.ofInt 8 (x.toNat:Int)^^^BitVec.ofInt 8 (y.toNat:Int)).toNat:Nat):Int)=(((x^^^y).toNat:Nat):Int):=by
 have e: ∀z:UInt8,BitVec.ofInt 8 (z.toNat:Int)=z.toBitVec:=λz=>by
  rw[BitVec.ofInt_natCast]
  simp
 rw[e,e]
 have h:=(x^^^y).toNat_lt
 have e2:(x.toBitVec^^^y.toBitVec).toNat=(x^^^y).toNat:=by simp
 rw[e2]
 generalize (x^^^y).toNat=z at h
 simp only[IntKind.wrap]
 simp[IntKind.bits,IntKind.signed]
 omega
theorem Vbits.xor8{a b:Int}{K:Int->Prop}(x y:UInt8)(ha:a=(x.toNat:Int))(hb:b=(y.toNat:Int))(hK:K (((x^^^y).toNat:Nat):Int)):Vbits .u8 .xor a b K:=by
 subst ha;subst hb
 exact⟨_,(CS x y).symm,hK⟩
def u9(k:cT)(w:UInt8)(i:Nat):cT:=(List.range 64).map λj=>if j<i then k.getD j 0^^^w else k.getD j 0
theorem jN(k:cT)(w:UInt8)(i:Nat):(u9 k w i).length=64:=by simp[u9]
theorem K0(k:cT)(w:UInt8):u9 (uq k) w 64=tv k w:=by
 unfold u9 tv
 exact List.map_congr_left λj hj=>by rw[cO (List.mem_range.1 hj)]
theorem K2(k:cT)(w:UInt8){i:Nat}(hi:i<64):(u9 k w i)[i]'(by rw[jN];exact hi)=k.getD i 0:=by simp[u9]
theorem K3(k:cT)(w:UInt8){i:Nat}(hi:i<64):(u9 k w i).set i (k.getD i 0^^^w)=u9 k w (i+1):=by
 apply List.ext_getElem
 ·simp[u9]
 ·intro j h1 h2
  simp only[u9,List.getElem_set,List.getElem_map,List.getElem_range]
  by_cases h:i=j
  ·subst h;simp
  ·rw[cQ h]
   by_cases h3:j<i
   ·rw[cO h3,cO (by omega)]
   ·rw[cQ h3,cQ (by omega)]
theorem XO(k:cT)(w:UInt8)(hk:k.length<=64):(k.map U8).take (Nat.min k.length 64*1)++(List.replicate 64 (RV.i .u8 0)).drop (Nat.min k.length 64*1)=(u9 k w 0).map U8:=by
 have e:Nat.min k.length 64*1=k.length:=by rw[cL];exact Nat.min_eq_left hk
 rw[e]
 apply List.ext_getElem
 ·simp[u9];omega
 ·intro j h1 h2
  simp only[List.getElem_append,bL,bC,Nat.min_self,List.getElem_take,List.getElem_map,List.getElem_drop,List.getElem_replicate,u9,List.getElem_range]
  split
  ·rename_i h;simp[List.getD,h]
  ·rename_i h;simp[List.getD,List.getElem?_eq_none (Nat.le_of_not_lt h)]
theorem vI{α:Type}{f:α->RV}{l:List α}{i:Nat}{x:α}(hi:i<l.length):uu (l.map f) i [f x]=(l.set i x).map f:=by
 unfold uu
 simp only[bJ,bO,Nat.zero_add]
 rw[<-List.map_take,<-List.map_drop]
 have:l.set i x=l.take i++[x]++l.drop (i+1):=by rw[List.set_eq_take_append_cons_drop,cO hi];simp
 rw[this]
 simp
def Rl(k:cT)(w:UInt8)(i:Nat):St:={F:=[(1,.r (U8 w)),(5,.own 0),(18,.r (I 64)),(19,.r (I i))],O:=[(0,some (.ch 5 1 64 ((u9 k w i).map U8) false))],nx:=1}
theorem K1(k:cT)(w:UInt8):some (Ow.ch 5 1 64 ((u9 (uq k) w 64).map U8) true)=some (Ow.ch 5 1 (tv k w).length ((tv k w).map U8) true):=by rw[K0,mV]
theorem Bj:(List.replicate ((64:Int).toNat) ([Value.int .u8 0].map xT)).flatten=List.replicate 64 (RV.i .u8 0):=by simp[xT]
theorem OM(k:cT)(w:UInt8)(hk:k.length<=1000000000):aG 65 [bs k,U8 w] (xJ (tv k w)):=by
 refine yT (T:=Tab) mixed Tab_ok Tryz.func65 rfl (by kernel_rfl) ?_
 have hkey:=Rq k
 refine zh (λh=>zp ?a) (λh=>zq ?b)
 case' a=>
  simp only[zb]at h
  have hx:vk ([k].flatMap id)=uq k:=by unfold uq;rw[cO (by omega)];simp
  refine zw ?_
  refine ze (jD [k] (by simp;omega)) ?_
  rw[hx]
  refine⟨rfl,by decide,by decide,by decide,_,_,rfl,Bj,Vpub.own ?_⟩
  refine Vstep.copy (id:=2) Tab_ok rfl rfl rfl rfl rfl rfl rfl rfl (XO (uq k) w hkey) ?_
  refine zy (Rl (uq k) w) (λi=>i<=64) (λi=>64-i) 0 (by omega) (zN [(0,2)] ⟨⟨rfl,rfl,rfl,rfl,zn _⟩,trivial⟩) ?_
 case' b=>
  simp only[zb]at h
  have hx:k=uq k:=by unfold uq;rw[cQ (by omega)]
  refine⟨rfl,by decide,by decide,by decide,_,_,rfl,Bj,Vpub.own ?_⟩
  refine Vstep.copy (id:=0) (zs:=(u9 (uq k) w 0).map U8) Tab_ok rfl rfl rfl rfl rfl rfl rfl rfl (by rw[<-hx];exact XO k w (by omega)) ?_
  refine zy (Rl (uq k) w) (λi=>i<=64) (λi=>64-i) 0 (by omega) (zN [(0,0)] ⟨⟨rfl,rfl,rfl,rfl,zn _⟩,trivial⟩) ?_
 all_goals
  intro i hi
  refine cZ (λh=>?_) λh=>?_
  ·simp only[zb]at h
   have hi':i<64:=by omega
   refine zD i rfl hi' ?_
   refine zg (f:=U8 ((uq k).getD i 0)) (by rw[cL,bR,bA (by rw[jN];exact hi'),K2 _ _ hi'];rfl) ?_
   refine Vbits.xor8 _ _ rfl rfl ?_
   refine zD i rfl hi' ?_
   refine⟨by simp[jN];omega,(u9 (uq k) w (i+1)).map U8,?_,?_⟩
   ·rw[<-K3 _ _ hi',cL]
    exact vI (by rw[jN];exact hi')
   refine zd (m:=((i+1:Nat):Int)) (by omega) (by omega) ?_
   exact⟨i+1,by omega,by omega,zN [(0,0)] ⟨⟨rfl,rfl,rfl,rfl,zn _⟩,trivial⟩⟩
  ·simp only[zb]at h
   obtain rfl:i=64:=by omega
   refine⟨_,xE (id:=0) rfl,?_⟩
   exact K1 k w
theorem Zj(key:cT)(parts:List cT)(hk:key.length<=1000000000)(hp:(parts.flatMap id).length<=10000000000):aG 14 [bs key,tk parts] (xJ (wh key (parts.flatMap id))):=by
 refine aT Tryz.func14 rfl ?_
 have e1: ∀l:cT,[l].flatMap id=l:=λl=>by simp
 have e2:[tv key 54,parts.flatMap id].flatMap id=tv key 54++parts.flatMap id:=by simp
 refine ze (OM key 54 hk) ?_
 refine ze (pu parts (by omega)) ?_
 refine zw ?_
 refine ze (pu [tv key 54,parts.flatMap id] (by rw[e2,aL,mV];omega)) ?_
 refine zw ?_
 refine ze (jD [[tv key 54,parts.flatMap id].flatMap id] (by rw[e2,e1,aL,mV];omega)) ?_
 refine ze (OM key 92 hk) ?_
 refine zw ?_
 refine ze (jD [tv key 92,vk ([[tv key 54,parts.flatMap id].flatMap id].flatMap id)] (by simp[mV,wT])) ?_
 exact vR (by simp[wh])
section
def uA(x:Fe):List UInt64:=[x.a,x.b,x.c,x.d,x.e]
def dq(o:cT)(v:UInt64)(at_ k:Nat):cT:=o.set ((at_+k)/8) (o.getD ((at_+k)/8) 0|||Tu (UInt8.ofNat (yA v k&&&1).toNat) ((at_+k)%8))
def tc(o:cT)(v:UInt64)(at_:Nat):Nat->cT
 |0=>o
 |k+1=>dq (tc o v at_ k) v at_ k
def tN(x:Fe):Nat->cT
 |0=>List.replicate 32 0
 |i+1=>tc (tN x i) ((uA x).getD i 0) (i*51) 51
theorem mB(o:cT)(v:UInt64)(at_:Nat): ∀k,(tc o v at_ k).length=o.length
 |0=>rfl
 |k+1=>by rw[tc,dq,List.length_set,mB o v at_ k]
theorem nU(x:Fe): ∀i,(tN x i).length=32
 |0=>by simp[tN]
 |i+1=>by rw[tN,mB,nU x i]
theorem iQ(x:Fe)(i:Nat):tN x (i+1)=tc (tN x i) ((uA x).getD i 0) (i*51) 51:=rfl
theorem gU(o:cT)(v:UInt64)(at_:Nat):tc o v at_ 0=o:=rfl
theorem iR(x:Fe):tN x 0=List.replicate 32 0:=rfl
attribute [irreducible] tc tN uA
def Fe.bytes(x:Fe):cT:=tN x.least 5
theorem Fe.bytes_len(x:Fe):x.bytes.length=32:=nU _ _
theorem Vquo.i64{a b:Int}{K:Int->Prop}(x y:Nat)(ha:a=(x:Int))(hb:b=(y:Int))(hy:0<y)(hx:x<9223372036854775808)(hK:K ((x/y:Nat):Int)):Vquo .i64 a b K:=by
 subst ha;subst hb
 refine⟨by omega,_,?_,hK⟩
 have h:=Nat.div_le_self x y
 rw[Int.tdiv_eq_ediv_of_nonneg (by omega),<-Int.natCast_ediv]
 generalize x/y=z at*
 exact wrap_i64 (by omega)
theorem bt:(List.replicate ((32:Int).toNat) ([Value.int .u8 0].map xT)).flatten=(List.replicate 32 (0:UInt8)).map U8:=by simp[xT]
theorem sr{l:cT}{j:Nat}(h:j<l.length):(l.map U8)[j]?=some (U8 (l.getD j 0)):=by
 rw[bR,bA h,bK,bA h]
 rfl
theorem Rr(x:Fe){i:Nat}(hi:i<5):(x.v.drop (i*1)).take 1=[W ((uA x).getD i 0)]:=by
 have:i=0\/i=1\/i=2\/i=3\/i=4:=by omega
 unfold uA
 rcases this with rfl |rfl |rfl |rfl |rfl<;>rfl
def DD(x:Fe)(i:Nat):St:={F:=[(3,.own 0),(12,.r (.ag x.v)),(13,.r (I i))],O:=[(0,some (.ch 5 1 32 ((tN x i).map U8) false))],nx:=1}
def BQ(x:Fe)(i k:Nat):St:={F:=[(3,.own 0),(12,.r (.ag x.v)),(13,.r (I i)),(5,.r (W ((uA x).getD i 0))),(6,.r (I ((i*51:Nat):Int))),(19,.r (I k))],O:=[(0,some (.ch 5 1 32 ((tc (tN x i) ((uA x).getD i 0) (i*51) k).map U8) false))],nx:=1}
theorem fK(x:Fe):aG 211 [.ag x.v] (xJ x.bytes):=by
 refine yT (T:=Tab) mixed Tab_ok Tryz.func211 rfl (by kernel_rfl) ?_
 refine cU ?_
 refine ze (kB x) ?_
 refine⟨rfl,by decide,by decide,by decide,_,_,rfl,bt,Vpub.own ?_⟩
 refine cU ?_
 refine Vloop.mkx (DD x.least) (λi=>i<=5) (λi=>5-i) 0 (by omega) (zN [(0,1)] ⟨⟨rfl,rfl,rfl,rfl,by rw[iR];exact zn _⟩,trivial⟩) ?_
 intro i hi
 refine cZ (λh=>?_) λh=>?_
 ·simp only[zb]at h
  have hi':i<5:=by omega
  refine zm (by omega) (by simp;omega) (Rr x.least hi') ?_
  refine zd (m:=((i*51:Nat):Int)) (by omega) (by omega) ?_
  refine Vloop.mkx (BQ x.least i) (λk=>k<=51) (λk=>51-k) 0 (by omega) (zN [(0,0)] ⟨⟨rfl,rfl,rfl,rfl,by rw[gU];exact zn _⟩,trivial⟩) ?_
  intro k hk
  refine cZ (λh=>?_) λh=>?_
  ·simp only[zb]at h
   have hk':k<51:=by omega
   have hL:(tc (tN x.least i) ((uA x.least).getD i 0) (i*51) k).length=32:=by rw[mB,nU]
   refine aV ?_
   refine zd (m:=((i*51+k:Nat):Int)) (by omega) (by omega) ?_
   refine Vquo.i64 (i*51+k) 8 rfl rfl (by omega) (by omega) ?_
   refine zD ((i*51+k)/8) rfl (by omega) ?_
   refine zg (f:=U8 ((tc (tN x.least i) ((uA x.least).getD i 0) (i*51) k).getD ((i*51+k)/8) 0)) (by rw[cL];exact sr (by rw[hL];omega)) ?_
   refine Vshr.w _ k rfl rfl ?_
   refine Vbits.wand _ 1 rfl rfl ?_
   refine Vint.u8 _ rfl ?_
   refine zd (m:=((i*51+k:Nat):Int)) (by omega) (by omega) ?_
   refine Vrem.nat (i*51+k) 8 rfl rfl (by omega) ?_
   refine Vshl.b _ ((i*51+k)%8) rfl rfl (by omega) ?_
   refine Vbits.or8 _ _ rfl rfl ?_
   refine zD ((i*51+k)/8) rfl (by omega) ?_
   refine⟨by rw[bC,hL];show(i*51+k)/8*1+1<=32;omega,(tc (tN x.least i) ((uA x.least).getD i 0) (i*51) (k+1)).map U8,?_,?_⟩
   ·rw[tc,dq,cL]
    exact vI (by rw[hL];omega)
   refine zd (m:=((k+1:Nat):Int)) (by omega) (by omega) ?_
   exact⟨k+1,by omega,by omega,zN [(0,0)] ⟨⟨rfl,rfl,rfl,rfl,zn _⟩,trivial⟩⟩
  ·simp only[zb]at h
   obtain rfl:k=51:=by omega
   refine⟨_,zo _,?_⟩
   refine zd (m:=((i+1:Nat):Int)) (by omega) (by omega) ?_
   exact⟨i+1,by omega,by omega,zN [(0,0)] ⟨⟨rfl,rfl,rfl,rfl,by rw[iQ];exact zn _⟩,trivial⟩⟩
 ·simp only[zb]at h
  obtain rfl:i=5:=by omega
  refine⟨_,zo _,?_⟩
  refine⟨_,xE (id:=0) rfl,?_⟩
  exact cR (λn=>some (Ow.ch 5 1 n (x.bytes.map U8) true)) x.bytes_len.symm
end
end Go.Proofs.YtkegaaonpekkgaaGreat.Sx
