import Derived.Test.YtebhngeddnnpkaaGreatZFi
import Derived.Test.YtebhngeddnnpkaaGreatZMe
import Derived.Test.YtebhngeddnnpkaaGreatZEn
import Derived.Test.YtebhngeddnnpkaaGreatZFd
import Derived.Lib.MakeNoZero
import Derived.Test.YtebhngeddnnpkaaGreatZKg
import Derived.Test.YtebhngeddnnpkaaGreatZTi
namespace Go.Proofs.YtebhngeddnnpkaaGreat.Sx
open Go.RowKit
section
theorem zl1{T:TT}{P:Program}{N n:Nat}{B:Bs}{c rest:Code}{S:St}{a:Act}{w:World}{k:Kp}{Q0:St->Prop}{Q:Exit->Act->World->Prop}(hm:P.follows .mixedOrders=true)(hT:TOk P T)
  (h:vcg P T c S (λe S'=>e= .normal/\Q0 S')) (hs:Sat B N S a w k) (hd:zaw N c=true) (hK: ∀S' a' w' k',Q0 S'->Sat B N S' a' w' k'->rest.wpIn Fence.wide n P Q a' w'):(Code.seq c rest).wpIn Fence.wide n P Q a w:=
 wpIn_seq (wpIn_wide.2 (zao hm hT c S _ h B N a w k _ hs hd λe S' a' w' k' hq hs'=>by
  obtain⟨rfl,hq⟩:=hq
  exact hK S' a' w' k' hq hs'))
theorem pre3{T:TT}{P:Program}{N n:Nat}{B:Bs}{c1 c2 c3 blk tail:Code}{S Sl:St}{a:Act}{w:World}{k:Kp}{Q:Exit->Act->World->Prop}(hm:P.follows .mixedOrders=true)(hT:TOk P T)
  (h:vcg P T c1 S (λe S1=>e= .normal/\vcg P T c2 S1 (λe S2=>e= .normal/\vcg P T c3 S2 (λe S3=>e= .normal/\Sub S3 Sl)))) (hs:Sat B N S a w k) (hd:(zaw N c1&&(zaw N c2&&zaw N c3))=true)
  (hK: ∀a' w' k',Sat B N Sl a' w' k'->blk.wpIn Fence.wide n P (Exit.then (tail.wpIn Fence.wide n P Q) Q) a' w'):(Code.seq c1 (Code.seq c2 (Code.seq (Code.seq c3 blk) tail))).wpIn Fence.wide n P Q a w:=by
 simp only[Bool.and_eq_true]at hd
 refine zl1 hm hT h hs hd.1 λS1 a1 w1 k1 h1 hs1=>?_
 refine zl1 hm hT h1 hs1 hd.2.1 λS2 a2 w2 k2 h2 hs2=>?_
 refine wpIn_seq ?_
 refine zl1 hm hT h2 hs2 hd.2.2 λS3 a3 w3 k3 h3 hs3=>?_
 obtain⟨k',hs'⟩:=h3 _ _ _ _ _ hs3
 exact hK _ _ _ hs'
theorem zxb{N:Nat}{l:List Oper}(h:(l.all λo=>match o.dst with |some d=>Nat.blt d N |none=>true)=true): ∀o∈l,∀d,o.dst=some d->d<N:=λo ho d hd=>by
 have:=List.all_eq_true.1 h o ho
 rw[hd]at this
 exact Nat.le_of_ble_eq_true this
def hX(b:List UInt8)(pre:List Nat):X8:=pre.foldl (λs x=>zwn s k80 (zcr (zch b) 128 x)) iv8
theorem z7a(b:List UInt8):hX b []=iv8:=rfl
theorem z37(b:List UInt8)(pre:List Nat)(x:Nat):hX b (pre++[x])=zwn (hX b pre) k80 (zcr (zch b) 128 x):=by simp[hX]
attribute [irreducible] hX
def endX(b:List UInt8):X8:=hX b (upto (λj=>j) ((zch b).length/128))
def sumC(x:X8)(i:Nat):UInt8:=UInt8.ofNat (shrW (x.l.getD (i/8) 0) (56-i%8*8)).toNat
def sumJ(x:X8)(j:Nat):List UInt8:=(List.range 64).map λi=>if i<j then sumC x i else 0
def sumB(b:List UInt8):List UInt8:=sumJ (endX b) 64
theorem zc3(x:X8)(j:Nat):(sumJ x j).length=64:=by simp[sumJ]
theorem z19(b:List UInt8):(sumB b).length=64:=zc3 _ _
theorem zzo(x:X8):sumJ x 0=List.replicate 64 0:=by
 apply List.ext_getElem
 ·simp[zc3]
 ·intro i h1 h2
  unfold sumJ
  simp only[List.getElem_map,List.getElem_replicate,Nat.not_lt_zero,if_false]
theorem zzn(x:X8)(j:Nat):sumJ x (j+1)=(sumJ x j).set j (sumC x j):=by
 apply List.ext_getElem
 ·simp[sumJ]
 ·intro i h1 h2
  simp only[sumJ,List.getElem_set,List.getElem_map,List.getElem_range]
  by_cases h:j=i
  ·subst h;simp
  ·rw[if_neg h]
   by_cases h3:i<j
   ·rw[if_pos h3,if_pos (by omega)]
   ·rw[if_neg h3,if_neg (by omega)]
attribute [irreducible] sumJ sumC
def smS(b:List UInt8):St:={F:=[(2, .own 0),(3, .own 1),(4, .r (.ptr (k80.map W))),(12, .r (.s (funS 523 [.ptr [bs (zch b)], .ptr [I 128]])))],O:=[(0,some (boxB (List.replicate 64 0))),(1,some (boxW (hX b []).l))],nx:=2}
theorem z88(b:List UInt8):stOk [(0,0),(1,1)] (smS b)=true:=by
 simp only[stOk,smS,boxW,boxB,List.all_cons,List.all_nil,zdy,zd8]
 rfl
theorem ztq{x:UInt8}{l:List UInt8}{j:Nat}(h:j<l.length):(za5 (U8 x)&&(Nat.beq (cellsOf (U8 x)).length 1&&Nat.ble (j*1+1) ((l.map U8).map TF.r).length))=true:=by
 have e:Nat.ble (j*1+1) ((l.map U8).map TF.r).length=true:=by
  rw[Nat.ble_eq,List.length_map,List.length_map]
  omega
 rw[e]
 rfl
theorem zr5{l:List UInt8}{j:Nat}{x:UInt8}{K:List TF->Prop}(h:j<l.length)(hK:K (((l.set j x).map U8).map TF.r)):putK ((l.map U8).map TF.r) (j*1) [TF.r (U8 x)] K:=by
 rw[Nat.mul_one,zdp _ _ _ _ (by simp;omega)]
 have e:((l.map U8).map TF.r).take j++[TF.r (U8 x)]++((l.map U8).map TF.r).drop (j+1)=((l.set j x).map U8).map TF.r:=by
  rw[List.set_eq_take_append_cons_drop,if_pos h]
  simp[List.map_take,List.map_drop]
 simp only[List.length_cons,List.length_nil,Nat.zero_add]
 rw[e]
 exact hK
def smO(xe:X8)(D j:Nat):St:={F:=[(2, .own 0),(3, .own 1),(6, .own 3),(18, .r (I j))],O:=[(0,some (boxB (List.replicate 64 0))),(1,some xe.bx),(2,some (.gen (zkm D))),(3,some (boxB (sumJ xe j)))],nx:=4}
theorem zzh(xe:X8)(D j:Nat):stOk [(0,0),(1,1),(2,2),(3,3)] (smO xe D j)=true:=by
 simp only[stOk,smO,boxB,List.all_cons,List.all_nil,zdy,zd8]
 rfl
set_option maxRecDepth 100000 in
set_option maxHeartbeats 4000000 in
theorem zt8(b:List UInt8)(hb:b.length<=10000000000):zab Tryz.prog 394 [bs b] (.r (.ag ((sumB b).map U8))):=by
 refine⟨za0 Tryz.func394 rfl (by kernel_rfl),λw k vs hp=>?_⟩
 refine callsIn_wide.1 (callsIn_of_wp_marks (n:=3) Tryz.func394 rfl trivial ?_)
 refine pre3 (N:=35) mixed Tab_ok (Sl:=smS b) ?v (zhc hp (by simp)) (by kernel_rfl) ?r
 case v=>
  (conv=>whnf)
  refine⟨rfl,?_⟩
  refine ze z38 ?_
  refine ze z0t ?_
  (conv=>whnf)
  generalize hq:(za5 _&&_)=q
  obtain rfl:=hq.symm.trans (zma (l:=k80.map W) 80 (by rw[List.length_map,zhu]) rfl)
  clear hq
  refine zgy (by rw[List.length_map];show(List.replicate 80 (Value.int .u64 0)).length=_;rw[List.length_replicate,List.length_map,zhu]) ?_
  (conv=>whnf)
  refine⟨rfl,?_⟩
  refine ze (zyi b hb) ?_
  refine ze (z4a (zch b) 128 (by decide)) ?_
  refine⟨rfl,Sub.trans (zdu (id:=2) (t:=4) (k80.map W) rfl rfl) (zad [(0,0),(1,1)] (z88 b) ⟨rfl,rfl,cr,cr,trivial⟩ ⟨zae ((List.replicate 64 (0:UInt8)).map U8),by rw[z7a];exact⟨_,_,rfl,cr,_,_,rfl,cr,_,_,rfl,cr,_,_,rfl,cr,_,_,rfl,cr,_,_,rfl,cr,_,_,rfl,cr,_,_,rfl,cr,rfl⟩,trivial⟩)⟩
 case r=>
  rintro a1 w1 k1 ⟨g1,h1⟩
  have hlen:=znl b
  have hdv:=zwu b
  have hz:padZ b.length<128:=by unfold padZ;omega
  refine wpIn_block ?_
  refine zy7 (i3:=1) (t12:=12) (p:=13) (q:=5) (l:=zch b) (m:=128) (K:=(zch b).length/128) (X:=λpre=>(hX b pre).l) h1 rfl rfl (by decide) (by omega) (by omega) (by omega) (by decide) (by decide) ?asg ?body ?done
  case asg=>
   intro ld a Wr Kk hk
   refine wpIn_region_list (zik (λ⟨_,_,h⟩=>h) (List.all_eq_true.1 (by kernel_rfl)) ?_)
   go_wp2
   simp only[Act.put,Array.getD_eq_getD_getElem?]at hk
   exact hk
  case body=>
   intro ld v pre x a Wr kk bb hx hs
   refine wpIn_block (wpIn_region_list (zik (λ⟨_,_,h⟩=>by cases h.1) (List.all_eq_true.1 (by kernel_rfl)) ?_))
   refine ze9 (T:=Tab) (N:=35) (K:=λS'=>Sub S' {F:=[(1000000+1, .nm 1 v)],O:=[(1,some (boxW (hX b (pre++[x])).l))],nx:=2}) Tab_ok (λo ho d hd=>?_) (λo h=>h) hs ?_ (λS' a' w' k' hK hs'=>⟨rfl,hK _ _ _ _ _ hs'⟩)
   ·exact zxb (N:=35) (by kernel_rfl) o ho d hd
   ·have hcl:(zcr (zch b) 128 x).length=128:=zmf (K:=(zch b).length/128) (by omega) hx
    refine za rfl rfl ?_
    refine za (l:=k80.map W) (List.take_of_length_le (by rw[List.drop_zero,List.length_map,zhu];exact Nat.le_refl _)) (by rw[List.length_map,zhu]) ?_
    refine ze (z03 (hX b pre) k80 (zcr (zch b) 128 x) zhu hcl) ?_
    exact zad [(1,1)] rfl ⟨⟨rfl,rfl⟩,trivial⟩ ⟨by rw[z37];exact⟨_,_,rfl,cr,_,_,rfl,cr,_,_,rfl,cr,_,_,rfl,cr,_,_,rfl,cr,_,_,rfl,cr,_,_,rfl,cr,_,_,rfl,cr,rfl⟩,trivial⟩
  case done=>
   intro D Wr k' g' hsD
   generalize hXe:hX b (upto (λj=>j) ((zch b).length/128))=xe at hsD
   refine wpIn_wide.2 (zao (T:=Tab) mixed Tab_ok _ _ (λe S'=>(e= .normal\/e= .ret)/\oget S'.O 2=some (.gen (zkm D))/\finv Tab Tryz.f394.results (.r (.ag ((sumB b).map U8))) e (S'.set 2 none)) ?_ _ 35 _ _ _ _ ⟨g',hsD⟩ (by kernel_rfl) (λe S' a' w' k2 hq hs'=>zyw (T:=Tab) Tab_ok hq.1 hq.2.2 hq.2.1 hs'))
   have hse:sumB b=sumJ xe 64:=by rw[sumB,endX,hXe]
   rw[hse]
   clear hsD hXe hse
   refine zy (smO xe D) (λj=>j<=64) (λj=>64-j) 0 (by omega) (zad [(0,0),(1,1),(2,2),(3,3)] (zzh xe D 0) ⟨rfl,rfl,rfl,cr,trivial⟩ ⟨zae ((List.replicate 64 (0:UInt8)).map U8),⟨_,_,rfl,cr,_,_,rfl,cr,_,_,rfl,cr,_,_,rfl,cr,_,_,rfl,cr,_,_,rfl,cr,_,_,rfl,cr,_,_,rfl,cr,rfl⟩,λ_ _ _ h=>h,by rw[zzo];exact zae ((List.replicate 64 (0:UInt8)).map U8),trivial⟩) ?_
   intro j hj
   refine zh (λh=>zp ?_) (λh=>zq ?_)
   ·simp only[zb]at h
    have hj':j<64:=by omega
    refine Vquo.i64 j 8 rfl rfl (by omega) (by omega) ?_
    refine Vadr.mk' (j/8) rfl (by omega) ?_
    (conv=>whnf)
    generalize hq:lget _ _=q
    obtain rfl:=hq.symm.trans (zf7 (l:=xe.l) (j:=j/8) (by show j/8<8;omega))
    clear hq
    refine Vrem.nat j 8 rfl rfl (by omega) ?_
    refine zd (m:=((j%8*8:Nat):Int)) (by omega) (by omega) ?_
    refine zd (m:=((56-j%8*8:Nat):Int)) (by omega) (by omega) ?_
    refine Vshr.w _ (56-j%8*8) rfl rfl ?_
    refine Vint.u8 _ rfl ?_
    refine Vadr.mk' j rfl (by omega) ?_
    (conv=>whnf)
    generalize hq:(za5 _&&_)=q
    obtain rfl:=hq.symm.trans (ztq (x:=UInt8.ofNat (shrW (xe.l.getD (j/8) 0) (56-j%8*8)).toNat) (j:=j) (by rw[zc3];omega))
    clear hq
    refine zr5 (by rw[zc3];omega) ?_
    have hs:=zzn xe j
    unfold sumC at hs
    rw[<-hs]
    refine zd (m:=((j+1:Nat):Int)) (by omega) (by omega) ?_
    exact⟨j+1,by omega,by omega,zad [(0,0),(1,1),(2,2),(3,3)] (zzh xe D (j+1)) ⟨rfl,rfl,rfl,cr,trivial⟩ ⟨zae ((List.replicate 64 (0:UInt8)).map U8),⟨_,_,rfl,cr,_,_,rfl,cr,_,_,rfl,cr,_,_,rfl,cr,_,_,rfl,cr,_,_,rfl,cr,_,_,rfl,cr,_,_,rfl,cr,rfl⟩,λ_ _ _ h=>h,zae ((sumJ xe (j+1)).map U8),trivial⟩⟩
   ·simp only[zb]at h
    obtain rfl:j=64:=by omega
    refine za (l:=((sumJ xe 64).map U8).map TF.r) (List.take_of_length_le (by simp[zc3])) (by simp[zc3]) ?_
    (conv=>whnf)
    generalize hq:St.rvs _ _=q
    obtain rfl:=hq.symm.trans (zh0 _ _)
    clear hq
    (conv=>whnf)
    generalize hq:(za5 _&&_)=q
    obtain rfl:=hq.symm.trans (zma (l:=(sumJ xe 64).map U8) 64 (by rw[List.length_map,zc3]) rfl)
    clear hq
    refine zgy (by rw[List.length_map,List.length_map,List.length_map,zc3];rfl) ?_
    (conv=>whnf)
    refine⟨.inr rfl,rfl,?_⟩
    refine za (l:=((sumJ xe 64).map U8).map TF.r) (List.take_of_length_le (by simp[zc3])) (by simp[zc3]) ?_
    (conv=>whnf)
    generalize hq:St.rvs _ _=q
    obtain rfl:=hq.symm.trans (zh0 _ _)
    clear hq
    exact cr
end
section
section
variable {P:Program} {T:TT} {S:St} {o:Oper}
theorem Vstep.boxPub{t e:TypeId}{ti te:TI}{x:Operand}{id n:Nat}{vs:List RV}{K:St->Prop}(hT:TOk P T)(hop:o.op= .slice t x none none none)(hti:tget T t=some ti)(hk:ti.k= .array n e)(hte:tget T e=some te)(hsz:te.sz=1)
  (hx:opr S x=some (.own id)) (ho:oget S.O id=some (.box (vs.map .r))) (hn:vs.length=n) (h0:0<n) (hn2:n<=1000000000) (hK:newK (S.set id none) o.dst (.r (.sl 1 n vs)) none K):Vstep P S o K:=by
 rw[zar]at hK
 refine Vstep.one (λB N a w k Q ⟨g,hs⟩ hd=>?_) hK
 obtain⟨q,hq⟩:=hT.get hti
 obtain⟨d,hdd,hko,_⟩:=q.desc
 rw[hq]at hdd
 rw[hk]at hko
 simp only[KOk]at hko
 subst hko
 obtain⟨qe,hqe⟩:=hT.get hte
 have hsize:=za1 (w:=w) qe hqe
 have hxv:=(zaf hs hx).2
 simp only[TF.at_]at hxv
 obtain⟨b,k',hg,hle,hb,hc,h⟩:=hs.pub ho
 have hrun:=zjz (P:=P) (w:=w) (b:=b) (lo:=0) (hi:=(n:Int)) (vl:=none) (vh:=none) hdd hsize (Int.le_refl _) (by omega) (by omega) (by omega) (.inl ⟨rfl,rfl⟩) (.inl ⟨rfl,rfl⟩)
 simp only[Int.toNat_zero,Nat.zero_mul,Nat.add_zero,Nat.sub_zero,Int.toNat_natCast]at hrun
 have hev:a.eval x= .pointer (some ⟨b,0,none⟩):=by rw[hxv,hg]
 refine zap (v:= .slice (some ⟨b,0,none⟩) n n) (w':=w) (by simp[execOp,hop,hev,hrun]) ⟨k',g,h.put hd trivial ?_⟩
 simp only[TF.at_,RV.at_]
 exact⟨_,n,rfl,Nat.le_refl _,by simp only[maxLen];omega,by rw[Nat.mul_one];exact hn,λ_=>⟨b,0,rfl,hb,hc⟩⟩
end
def zcy(ls:List (List UInt8)):List UInt8:=sumB (ls.flatMap id)
theorem zb1(ls:List (List UInt8)):(zcy ls).length=64:=z19 _
set_option maxRecDepth 100000 in
theorem zxx(ls:List (List UInt8))(hl:(ls.flatMap id).length<=10000000000):zab Tryz.prog 265 [bss ls] (.r (bs (zcy ls))):=by
 refine zaa (T:=Tab) mixed Tab_ok Tryz.func265 rfl (by kernel_rfl) ?_
 refine ze (zgu ls (by omega)) ?_
 refine ze (zt8 (ls.flatMap id) hl) ?_
 (conv=>whnf)
 generalize hq:(za5 _&&_)=q
 obtain rfl:=hq.symm.trans (zma (l:=(zcy ls).map U8) 64 (by rw[List.length_map,zb1]) rfl)
 clear hq
 refine zgy (by rw[List.length_map,List.length_map];show(List.replicate 64 (Value.int .u8 0)).length=_;rw[List.length_replicate];exact(zb1 ls).symm) ?_
 refine Vstep.boxPub (n:=64) (vs:=(zcy ls).map U8) Tab_ok rfl rfl rfl rfl rfl rfl rfl (by rw[List.length_map,zb1]) (by decide) (by decide) ?_
 exact zf (by show _=bs (zcy ls);rw[bs,zb1])
end
section
structure S4 where
 a:UInt64
 b:UInt64
 c:UInt64
 d:UInt64
abbrev S4.v(x:S4):List RV:=[W x.a,W x.b,W x.c,W x.d]
abbrev S4.bx(x:S4):Ow:= .box [.r (W x.a), .r (W x.b), .r (W x.c), .r (W x.d)]
abbrev S4.l(x:S4):List UInt64:=[x.a,x.b,x.c,x.d]
def S4.car(x y:S4):UInt64:=carW x.d y.d (carW x.c y.c (carW x.b y.b (carW x.a y.a 0)))
def S4.sum(x y:S4):S4:=⟨x.a+y.a+0,x.b+y.b+carW x.a y.a 0,x.c+y.c+carW x.b y.b (carW x.a y.a 0),x.d+y.d+carW x.c y.c (carW x.b y.b (carW x.a y.a 0))⟩
def S4.bor(x y:S4):UInt64:=borW x.d y.d (borW x.c y.c (borW x.b y.b (borW x.a y.a 0)))
def S4.dif(x y:S4):S4:=⟨x.a-y.a-0,x.b-y.b-borW x.a y.a 0,x.c-y.c-borW x.b y.b (borW x.a y.a 0),x.d-y.d-borW x.c y.c (borW x.b y.b (borW x.a y.a 0))⟩
theorem zt7(x y c:UInt64)(hc:c.toNat<=1):Extn Tryz.prog 519 [W x,W y,W c] (.r (.tu [W (x-y-c),W (borW x y c)])):=
 Extn.sub (λus w=>run_callFunc_extern Tryz.func519 (by kernel_rfl) (by kernel_rfl) (by kernel_rfl) (e:=zsj) (by kernel_rfl) us w) x y c hc
set_option maxHeartbeats 4000000 in
theorem zyc(x y:S4):zab Tryz.prog 395 [.ag x.v, .ag y.v] (.r (.tu [.ag (x.sum y).v,W (x.car y)])):=by
 refine zaa (T:=Tab) mixed Tab_ok Tryz.func395 rfl (by kernel_rfl) ?_
 repeat' ((conv=>whnf);first |refine Vrounds.step mixed Tab_ok ?_ |refine zt rfl (zp ?_) |refine zu rfl (zq ?_) |refine Vadr.any (by decide) ?_ |refine Vint.any (k:= .i64) ?_ |refine za rfl rfl ?_ |refine Vdraw.mk' (by kernel_rfl) ?_ |refine Vcall.ext (zep _ _ (carW _ _ _) (by repeat' first |apply zts |decide)) ?_ |refine Vcall.ext (zep _ _ 0 (by decide)) ?_ |refine Vloop.rounds 5 ?_)
 exact⟨_,rfl,cr⟩
set_option maxHeartbeats 4000000 in
theorem z7o(x y:S4):zab Tryz.prog 470 [.ag x.v, .ag y.v] (.r (.tu [.ag (x.dif y).v,W (x.bor y)])):=by
 refine zaa (T:=Tab) mixed Tab_ok Tryz.func470 rfl (by kernel_rfl) ?_
 repeat' ((conv=>whnf);first |refine Vrounds.step mixed Tab_ok ?_ |refine zt rfl (zp ?_) |refine zu rfl (zq ?_) |refine Vadr.any (by decide) ?_ |refine Vint.any (k:= .i64) ?_ |refine za rfl rfl ?_ |refine Vdraw.mk' (by kernel_rfl) ?_ |refine Vcall.ext (zt7 _ _ (borW _ _ _) z3w) ?_ |refine Vcall.ext (zt7 _ _ 0 (by decide)) ?_ |refine Vloop.rounds 5 ?_)
 exact⟨_,rfl,cr⟩
def ord4:S4:=⟨6346243789798364141,1503914060200516822,0,1152921504606846976⟩
theorem z4i:zab Tryz.prog 471 [] (.r (.ag ord4.v)):=by
 refine zaa (T:=Tab) mixed Tab_ok Tryz.func471 rfl (by kernel_rfl) ?_
 repeat' ((conv=>whnf);first |refine za rfl rfl ?_)
 exact cr
attribute [irreducible] ord4
def S4.once(x:S4):S4:=if x.bor ord4=0 then x.dif ord4 else x
set_option maxHeartbeats 4000000 in
theorem zx4(x:S4):zab Tryz.prog 396 [.ag x.v] (.r (.ag x.once.v)):=by
 refine zaa (T:=Tab) mixed Tab_ok Tryz.func396 rfl (by kernel_rfl) ?_
 refine Vdraw.mk' (by kernel_rfl) ?_
 refine za rfl rfl ?_
 refine ze z4i ?_
 refine ze (z7o x ord4) ?_
 refine zh (λh=>zp ?_) (λh=>zq ?_)
 ·have e:x.bor ord4=0:=by
   rw[beq_iff_eq]at h
   have:(x.bor ord4).toNat=0:=by omega
   exact UInt64.toNat_inj.1 this
  refine za rfl rfl ?_
  refine za rfl rfl ?_
  exact zf (by rw[S4.once,if_pos e])
 ·have e: ¬x.bor ord4=0:=by
   rw[beq_eq_false_iff_ne]at h
   intro e
   rw[e]at h
   exact h rfl
  refine za rfl rfl ?_
  refine za rfl rfl ?_
  exact zf (by rw[S4.once,if_neg e])
end
section
def swI(b:List UInt8)(at_ j:Nat):St:={F:=[(0, .r (bs b)),(1, .r (I at_)),(5, .r (W (zc1 b at_ j))),(6, .r (I (7-(j:Int))))],O:=[],nx:=0}
theorem z5g(x:UInt64):x|||UInt64.ofNat (0:UInt8).toNat=x:=by
 have e:UInt64.ofNat (0:UInt8).toNat=0:=rfl
 rw[e,UInt64.or_zero]
theorem z4s(b:List UInt8)(at_:Nat)(hb:b.length<=10000000000)(ha:at_<=10000000000):zab Tryz.prog 392 [bs b,I at_] (.r (W (zc1 b at_ 8))):=by
 refine zaa (T:=Tab) mixed Tab_ok Tryz.func392 rfl (by kernel_rfl) ?_
 refine zy (swI b at_) (λj=>j<=8) (λj=>8-j) 0 (by omega) (zad [] rfl ⟨cr,cr,by rw[zno];exact cr,cr,trivial⟩ trivial) ?_
 intro j hj
 refine zh (λh=>zp ?_) (λh=>zq ?_)
 ·simp only[zb]at h
  have hj':j<8:=by omega
  refine Vshl.w _ 8 rfl rfl (by decide) ?_
  refine zd (m:=((at_+(7-j):Nat):Int)) (by omega) (by omega) ?_
  have hs:=znn b at_ j
  refine zh (λh2=>zp ?_) (λh2=>zq ?_)
  ·simp only[zb]at h2
   have hl:at_+(7-j)<b.length:=by omega
   refine zd (m:=((at_+(7-j):Nat):Int)) (by omega) (by omega) ?_
   refine zm (by omega) (by omega) (zca rfl hl) (zg rfl ?_)
   refine Vint.w _ rfl ?_
   refine Vbits.wor _ _ rfl rfl ?_
   refine zd (m:=7-((j+1:Nat):Int)) (by omega) (by omega) ?_
   exact⟨j+1,by omega,by omega,zad [] rfl ⟨cr,cr,by
    rw[hs,List.getD_eq_getElem?_getD,List.getElem?_eq_getElem hl];exact cr,cr,trivial⟩ trivial⟩
  ·simp only[zb]at h2
   refine zd (m:=7-((j+1:Nat):Int)) (by omega) (by omega) ?_
   exact⟨j+1,by omega,by omega,zad [] rfl ⟨cr,cr,by
    rw[hs,List.getD_eq_getElem?_getD,List.getElem?_eq_none (by omega)]
    show Cv _ (W (_|||UInt64.ofNat (0:UInt8).toNat))
    rw[z5g];exact cr,cr,trivial⟩ trivial⟩
 ·simp only[zb]at h
  obtain rfl:j=8:=by omega
  exact cr
end
section
section
variable {P:Program} {T:TT} {S:St}
theorem Vcode.scope2(hm:P.follows .mixedOrders=true)(hT:TOk P T){c1 c2 body:Code}{Q:Exit->St->Prop}(l:Nat){ι:Type}(inv:ι->St)(R:ι->Prop)(μ:ι->Nat)
  (hf:findLabel (.seq c1 (.seq c2 (.seq (.label l) body))) l=some (.seq .skip body))
  (first:vcg P T c1 S (λe S'=>e= .normal/\vcg P T c2 S' (λe S''=>e= .normal/\∃i,R i/\Sub S'' (inv i))))
  (pass: ∀i,R i->vcg P T body (inv i) (zfq l (λS'=>∃i',R i'/\μ i'<μ i/\Sub S' (inv i')) Q)):Vcode P (.scope (.seq c1 (.seq c2 (.seq (.label l) body)))) S Q:=by
 refine⟨λB N a w k Q' hs hd hQ=>?_⟩
 have hd0:zaw N (.seq c1 (.seq c2 (.seq (.label l) body)))=true:=by simpa only[zaw]using hd
 have hd1:=hd0
 simp only[zaw,Bool.and_eq_true,true_and]at hd1
 let J:Nat->Act->World->Prop:=λn a w=>∃i k,R i/\μ i=n/\Sat B N (inv i) a w k
 refine wp_scope_jumps l (λa w=>∃n,J n a w) (λa w=>leastOf (λn=>J n a w)) hf ?_ ?_
 ·refine wp_seq (zao hm hT c1 S _ first B N a w k _ hs hd1.1 λe S1 a1 w1 k1 hq1 hs1=>?_)
  obtain⟨rfl,hq1⟩:=hq1
  refine wp_seq (zao hm hT c2 S1 _ hq1 B N a1 w1 k1 _ hs1 hd1.2.1 λe S2 a2 w2 k2 hq2 hs2=>?_)
  obtain⟨rfl,i,hR,hsub⟩:=hq2
  obtain⟨k3,hs3⟩:=hsub B N a2 w2 k2 hs2
  refine wp_seq (wp_label ?_)
  refine zao hm hT body (inv i) _ (pass i hR) B N a2 w2 k3 _ hs3 hd1.2.2 λe S' a' w' k' hq hs'=>?_
  cases e with
  |goto l'=>
   simp only[zfq]at hq
   split at hq
   ·rename_i hb
    obtain⟨i',hR',_,hsub⟩:=hq
    obtain⟨k2,hs2⟩:=hsub B N a' w' k' hs'
    exact⟨Nat.eq_of_beq_eq_true hb,μ i',i',k2,hR',rfl,hs2⟩
   ·exact hq.elim
  |_=>exact hQ _ S' a' w' k' hq hs'
 ·intro a1 w1 hJ
  obtain⟨i,k1,hR,hμ,hs1⟩:=(leastOf_spec hJ).1
  refine wp_seq (wp_skip ?_)
  refine zao hm hT body (inv i) _ (pass i hR) B N a1 w1 k1 _ hs1 hd1.2.2 λe S' a' w' k' hq hs'=>?_
  cases e with
  |goto l'=>
   simp only[zfq]at hq
   split at hq
   ·rename_i hb
    obtain⟨i',hR',hlt,hsub⟩:=hq
    obtain⟨k2,hs2⟩:=hsub B N a' w' k' hs'
    have hJ':J (μ i') a' w':=⟨i',k2,hR',rfl,hs2⟩
    refine⟨Nat.eq_of_beq_eq_true hb,⟨μ i',hJ'⟩,?_⟩
    exact Nat.lt_of_le_of_lt ((leastOf_spec ⟨_,hJ'⟩).2 _ hJ') (by rw[<-hμ];exact hlt)
   ·exact hq.elim
  |_=>exact hQ _ S' a' w' k' hq hs'
end
abbrev wsR(l:List UInt64):RV:= .sl 1 l.length (l.map W)
theorem zv0{l:List UInt64}{i:Int}{j:Nat}(h:i=j)(hj:j<l.length):((l.map W).drop (i.toNat*1)).take 1=[W (l.getD j 0)]:=by
 subst h
 simp only[Int.toNat_natCast,Nat.mul_one]
 rw[List.drop_eq_getElem_cons (by simpa using hj),List.getD_eq_getElem?_getD,List.getElem?_eq_getElem hj]
 simp
def bitW(ws:List UInt64)(i:Nat):UInt64:=shrW (ws.getD (i/64) 0) (i%64)&&&1
def S4.orb(x:S4)(b:UInt64):S4:=⟨x.a|||b,x.b,x.c,x.d⟩
def redN(ws:List UInt64):Nat->S4
 |0=>⟨0,0,0,0⟩
 |j+1=>(((redN ws j).sum (redN ws j)).orb (bitW ws (64*ws.length-1-j))).once
theorem zy9(ws:List UInt64):redN ws 0=⟨0,0,0,0⟩:=rfl
theorem zy8(ws:List UInt64)(j:Nat):redN ws (j+1)=(((redN ws j).sum (redN ws j)).orb (bitW ws (64*ws.length-1-j))).once:=rfl
attribute [irreducible] redN
def zkq(ws:List UInt64):S4:=redN ws (64*ws.length)
def rdI(ws:List UInt64)(j:Nat):St:={F:=[(0, .r (wsR ws)),(2, .own 0),(3, .own 1),(4, .r (I (64*ws.length-j)))],O:=[(0,some (S4.bx ⟨0,0,0,0⟩)),(1,some (redN ws j).bx)],nx:=2}
set_option maxHeartbeats 4000000 in
theorem zq7(ws:List UInt64)(hw:ws.length<=1000000000):zab Tryz.prog 393 [wsR ws] (.r (.ag (zkq ws).v)):=by
 refine zaa (T:=Tab) mixed Tab_ok Tryz.func393 rfl (by kernel_rfl) ?_
 refine Vcode.scope2 mixed Tab_ok 0 (rdI ws) (λj=>j<=64*ws.length) (λj=>64*ws.length-j) rfl ?_ ?_
 ·(conv=>whnf)
  refine⟨rfl,?_⟩
  refine zd (m:=64*(ws.length:Int)) rfl (by omega) ?_
  refine⟨rfl,0,by omega,zad [(0,0),(1,1)] rfl ⟨cr,rfl,rfl,zf (by congr 1<;>omega),trivial⟩ ⟨⟨_,_,rfl,cr,_,_,rfl,cr,_,_,rfl,cr,_,_,rfl,cr,rfl⟩,by rw[zy9];exact⟨_,_,rfl,cr,_,_,rfl,cr,_,_,rfl,cr,_,_,rfl,cr,rfl⟩,trivial⟩⟩
 ·intro j hj
  refine zd (m:=64*(ws.length:Int)-j-1) rfl (by omega) ?_
  refine zh (λh=>zp ?_) (λh=>zq ?_)
  ·simp only[zb]at h
   have hj':j<64*ws.length:=by omega
   generalize hX:redN ws j=x
   refine za rfl rfl ?_
   refine za rfl rfl ?_
   refine ze (zyc x x) ?_
   refine Vdraw.mk' (by kernel_rfl) ?_
   refine Vadr.any (by decide) ?_
   refine Vquo.i64 (64*ws.length-1-j) 64 (by omega) rfl (by omega) (by omega) ?_
   refine zm (by omega) (by omega) (zv0 rfl (by omega)) (zg rfl ?_)
   refine Vrem.nat (64*ws.length-1-j) 64 (by omega) rfl (by omega) ?_
   refine Vshr.w _ ((64*ws.length-1-j)%64) rfl rfl ?_
   refine Vbits.wand _ 1 rfl rfl ?_
   refine Vbits.wor _ _ rfl rfl ?_
   refine Vadr.any (by decide) ?_
   refine za rfl rfl ?_
   refine ze (zx4 ((x.sum x).orb (bitW ws (64*ws.length-1-j)))) ?_
   exact⟨j+1,by omega,by omega,zad [(0,0),(1,1)] rfl ⟨cr,rfl,rfl,zf (by congr 1<;>omega),trivial⟩ ⟨⟨_,_,rfl,cr,_,_,rfl,cr,_,_,rfl,cr,_,_,rfl,cr,rfl⟩,by rw[zy8,hX];exact⟨_,_,rfl,cr,_,_,rfl,cr,_,_,rfl,cr,_,_,rfl,cr,rfl⟩,trivial⟩⟩
  ·simp only[zb]at h
   obtain rfl:j=64*ws.length:=by omega
   refine za rfl rfl ?_
   refine za rfl rfl ?_
   exact cr
end
section
theorem z7c(x y:UInt64):zab Tryz.prog 521 [W x,W y] (.r (.tu [W (mulH x y),W (x*y)])):=by
 refine zaa (T:=Tab) mixed Tab_ok Tryz.func521 rfl (by kernel_rfl) ?_
 refine zq ?_
 refine ze (zn5 x y) ?_
 exact⟨_,rfl,cr⟩
theorem zmk: ∀(n t:Nat) (acc:Array Value),(∀v∈acc.toList,v.oneCell'=true)->∀v∈(Extern.BytealgMakeNoZero.digits n t acc).toList,v.oneCell'=true
 |0,_,acc,h=>h
 |n+1,t,acc,h=>by
  rw[Extern.BytealgMakeNoZero.digits]
  refine zmk n _ _ λv hv=>?_
  rw[Array.toList_push,List.mem_append]at hv
  rcases hv with hv |hv
  ·exact h v hv
  ·rw[List.mem_singleton]at hv
   subst hv
   rfl
theorem z5n{P:Program}(w:World)(ps:Array TypeId)(t e:TypeId)(ht:P.underlying t=some (.slice e))(n:Nat)(hn:n<=281474976710656):
  ∃cs:Array Value,(Extern.BytealgMakeNoZero.makeNoZero ps #[t] #[.int .i64 n]).run P w= .ok (.slice (some ⟨w.heap.size,0,none⟩) n cs.size) (w.drew.drew.alloc (.cells cs e))/\n<=cs.size/\cs.size<=maxLen/\∀v∈cs.toList,v.oneCell'=true:=by
 have hdef:Extern.BytealgMakeNoZero.makeNoZero ps #[t] #[.int .i64 n]=
   (do
    let .slice elem<-underlying t |stuck "bytealg.MakeNoZero: slice type expected"
    if(n:Int)<0||(n:Int)>2^48 then runtimePanic (.error "makeslice: len out of range")
    let cap<-choose (.appendCap (n:Int).toNat 0 elem)
    askRoom cap
    let bytes<-choose (.extern "internal/bytealg.MakeNoZero.bytes" 0)
    let a<-newRow elem (Extern.BytealgMakeNoZero.digits cap bytes #[])
    pure (.slice (some a) (n:Int).toNat cap)):=rfl
 refine⟨Extern.BytealgMakeNoZero.digits (grownCap w n 0 e) ((Question.extern "internal/bytealg.MakeNoZero.bytes" 0).cut (w.tape (w.drawn+1) (.extern "internal/bytealg.MakeNoZero.bytes" 0))) #[],?_,?_,?_,zmk _ _ _ (by simp)⟩
 ·rw[hdef]
  have h1: ¬(n:Int)<0:=by omega
  have h2: ¬(281474976710656:Int)< (n:Int):=by omega
  simp[run_underlying ht,h1,h2,Question.forced,newRow,Lib.size_digits,grownCap]
 ·rw[Lib.size_digits]
  simpa using grownCap_ge w n 0 e
 ·rw[Lib.size_digits]
  simpa using grownCap_le_maxLen w n 0 e (by simp only[maxLen];omega)
theorem z9k(n:Nat)(hn:n<=1000000000):Extn Tryz.prog 522 [I n] (.own 5 1 n (List.replicate n .any)):=by
 intro w k vs h
 simp only[RV.partsAt,RV.at_]at h
 obtain⟨_,_,rfl,rfl,rfl⟩:=h
 obtain⟨cs,hr,h1,h2,h3⟩:=z5n (P:=Tryz.prog) w #[3] 22 5 (by kernel_rfl) n (by omega)
 refine⟨_,_,(run_callFunc_extern Tryz.func522 (by kernel_rfl) (by kernel_rfl) (by kernel_rfl) (e:=Extern.BytealgMakeNoZero.makeNoZero #[3] #[22]) (by kernel_rfl) _ w).trans (by rw[hr];rfl),?_,kset k w.heap.size 0,λb hb=>zbo b hb,some w.heap.size,⟨by simp, .inr ⟨w.heap.size,cs.size,cs,rfl,rfl,heap_alloc_new w.drew.drew _,h1,h2,by omega,zbn,?_⟩⟩,λb hb=>?_⟩
 ·exact Ext.alloc (Ext.drew (Ext.drew (Ext.refl w))) _
 ·rw[RV.listAt_iff]
  refine⟨by rw[List.length_take,Array.length_toList,List.length_replicate];omega,λj f u hf hu=>⟨?_,?_⟩⟩
  ·exact h3 u (List.mem_of_mem_take (List.mem_of_getElem? hu))
  ·have:=(List.getElem?_eq_some_iff.1 hf).2
   rw[List.getElem_replicate]at this
   subst this
   simp[RV.at_]
 ·injection hb with hb
  omega
section
variable {P:Program} {T:TT} {B:Bs} {N:Nat} {S:St} {a:Act} {w:World} {k:Kp} {g:Env} {o:Oper} {Q:Exit->Act->World->Prop}
theorem Vstep.min{x y:Operand}{ts:Array TypeId}{m n:Int}{K:St->Prop}(hop:o.op= .call {callee:= .builtin .min,args:= #[x,y],argTypes:=ts}) (hx:opr S x=some (.r (.i .i64 m))) (hy:opr S y=some (.r (.i .i64 n)))
  (hK:newK S o.dst (.r (.i .i64 (if n<m then n else m))) none K):Vstep P S o K:=by
 rw[zar]at hK
 refine Vstep.one (λB N a w k Q ⟨g,hs⟩ hd=>?_) hK
 have hv:=(zaf hs hx).2
 have hn:=(zaf hs hy).2
 simp only[TF.at_,RV.at_]at hv hn
 refine zap (v:= .int .i64 (if n<m then n else m)) (w':=w) ?_ ⟨k,g,hs.put hd trivial (by simp[TF.at_,RV.at_])⟩
 simp[execOp,hop,resolve,invoke,builtin,hv,hn,Builtin.min_,Builtin.min2]
theorem Vstep.clip{t e:TypeId}{ti te:TI}{x y z:Operand}{id sz n:Nat}{cells:List RV}{K:St->Prop}(hT:TOk P T)(hop:o.op= .slice t x none (some y) (some z))(hti:tget T t=some ti)(hk:ti.k= .slice e)(hte:tget T e=some te)(hsz:te.sz=sz)
  (hx:opr S x=some (.own id)) (ho:oget S.O id=some (.ch e sz n cells false)) (hy:opr S y=some (.r (.i .i64 n))) (hz:opr S z=some (.r (.i .i64 n))) (hn:0<n)
  (hK:newK (S.set id none) o.dst (.own S.nx) (some (.ch e sz n cells false)) K):Vstep P S o K:=by
 rw[zar]at hK
 refine Vstep.one (λB N a w k Q ⟨g,hs⟩ hd=>?_) hK
 have hxv:=(zaf hs hx).2
 have hyv:=(zaf hs hy).2
 have hzv:=(zaf hs hz).2
 simp only[TF.at_,RV.at_]at hxv hyv hzv
 obtain⟨q1,q2,q3,q4⟩:=hs.owns id _ ho
 simp only[Ow.at_]at q3
 obtain⟨q,hq⟩:=hT.get hti
 obtain⟨d,hdd,hko,_⟩:=q.desc
 rw[hq]at hdd
 rw[hk]at hko
 simp only[KOk]at hko
 subst hko
 obtain⟨qe,hqe⟩:=hT.get hte
 have hsize:=za1 (w:=w) qe hqe
 have hw:Wrote w k w k (g id).2:=⟨rfl,rfl,rfl,Nat.le_refl _,λ_ _ _=>⟨rfl,rfl⟩,λ_ _=>⟨Nat.le_refl _,λ_ _=>rfl,λ_ _ _ h=>h⟩⟩
 have h1:=hs.wrote hw (id:=some id) ⟨⟨_,ho⟩,rfl⟩
 have hcl:=q3.1
 rcases q3.2 with⟨h,⟨h0,_⟩ |⟨_,h',_⟩⟩ |⟨b,cap,cur,g1,g2,g3,g4,g5,g6,g7,g8⟩
 ·omega
 ·cases h'
 have hrun:(Instr.sliceAt t (a.eval x) none (some (a.eval y)) (some (a.eval z))).run P w= .ok (.slice (some ⟨b,0,none⟩) n n) w:=by
  rw[hxv,hyv,hzv,g2]
  have hne: ¬n=0:=by omega
  simp[Instr.sliceAt,Instr.slice,Instr.sliceBounds,Instr.sliceBound,asIntOf,run_underlying hdd w,hsize,g4,hne,Addr.add]
 have hsl:n*sz<=cap*sz:=Nat.mul_le_mul_right _ g4
 refine zap (v:= .slice (some ⟨b,0,none⟩) n n) (w':=w) (by simp[execOp,hop,hrun]) ⟨k,_,h1.adopt hd (o:= .ch e sz n cells false) (vb:=(.slice (some ⟨b,0,none⟩) n n,(g id).2)) trivial ?_ (λb hb=>q4 b hb) λj o' b hj hb hgj=>?_⟩
 ·simp only[Ow.at_]
  exact⟨hcl, .inr ⟨b,n,cur,g1,rfl,g3,Nat.le_refl _,by omega,by omega,g7,g8⟩⟩
 ·rcases zal hj with⟨_,e'⟩ |⟨hne,hj⟩
  ·cases e'
  ·exact hs.apart id j _ o' b ho hj hne hb hgj
end
end
section
def wrdI(b:List UInt8)(i:Nat):List UInt64:=(List.range i).map λj=>zc1 b (8*j) 8
theorem zsw(b:List UInt8)(i:Nat):(wrdI b i).length=i:=by simp[wrdI]
theorem zzz(b:List UInt8)(i:Nat):wrdI b (i+1)=wrdI b i++[zc1 b (8*i) 8]:=by simp[wrdI,List.range_succ]
def scOf(b:List UInt8):S4:=zkq (wrdI (b.take 64) (((b.take 64).length+7)/8))
def scI(b:List UInt8)(i:Nat):St:={F:=[(0, .r (bs b)),(2, .own 0),(3, .own 1),(4, .r (I ((8*i:Nat):Int)))],O:=[(0,some (S4.bx ⟨0,0,0,0⟩)),(1,some (.ch 23 1 i ((wrdI b i).map W) true))],nx:=2}
theorem zz0(l:List UInt64)(n:Nat)(h:l.length=n):RV.sl 1 n (l.map W)=wsR l:=by rw[<-h]
set_option maxHeartbeats 1000000 in
theorem zra(b:List UInt8)(hb:b.length<=10000000000):zab Tryz.prog 264 [bs b] (.r (.ag (scOf b).v)):=by
 refine zaa (T:=Tab) mixed Tab_ok Tryz.func264 rfl (by kernel_rfl) ?_
 refine Vstep.min rfl rfl rfl ?_
 have hl:(b.take 64).length=min 64 b.length:=List.length_take
 refine⟨by omega,by split<;>omega,by split<;>omega,(b.take 64).length,(b.take 64).map U8,by split<;>omega,?_,?_⟩
 ·rw[Int.toNat_zero,Nat.zero_mul,List.drop_zero,Nat.mul_one,List.map_take,hl]
  rcases Nat.le_total 64 b.length with h |h
  ·rw[Nat.min_eq_left h]
  ·rw[Nat.min_eq_right h,List.take_of_length_le (by simp),List.take_of_length_le (by simpa using h)]
 have hsc:scOf b=zkq (wrdI (b.take 64) (((b.take 64).length+7)/8)):=rfl
 generalize b.take 64=c at*
 have hc:c.length<=64:=by omega
 refine zy (scI c) (λi=>i<=(c.length+7)/8) (λi=>(c.length+7)/8-i) 0 (by omega) (Sub.trans (zzm 3 23 1 rfl) (zad [(0,0),(1,1)] rfl ⟨cr,rfl,rfl,cr,trivial⟩ ⟨⟨_,_,rfl,cr,_,_,rfl,cr,_,_,rfl,cr,_,_,rfl,cr,rfl⟩,⟨rfl,rfl,rfl,rfl,zn _⟩,trivial⟩)) ?_
 intro i hi
 refine zh (λh=>zp ?_) (λh=>zq ?_)
 ·simp only[zb]at h
  refine ze (z4s c (8*i) (by omega) (by omega)) ?_
  refine zw ?_
  refine Vapp.mk' (j:=i+1) (zs:=(wrdI c (i+1)).map W) (by simp[maxLen];omega) (by show(i+1)*8<=_;omega) rfl (by rw[zzz,List.map_append];rfl) ?_
  refine zd (m:=((8*(i+1):Nat):Int)) (by omega) (by omega) ?_
  exact⟨i+1,by omega,by omega,zad [(0,0),(1,3)] rfl ⟨cr,rfl,rfl,cr,trivial⟩ ⟨⟨_,_,rfl,cr,_,_,rfl,cr,_,_,rfl,cr,_,_,rfl,cr,rfl⟩,⟨rfl,rfl,rfl,rfl,zn _⟩,trivial⟩⟩
 ·simp only[zb]at h
  obtain rfl:i=(c.length+7)/8:=by omega
  have hrd:=zq7 (wrdI c ((c.length+7)/8)) (by rw[zsw];omega)
  rw[<-zz0 _ _ (zsw c _)]at hrd
  refine ze hrd ?_
  refine za rfl rfl ?_
  rw[hsc]
  exact cr
end
section
set_option maxHeartbeats 1000000 in
theorem z4l(x y:S4):zab Tryz.prog 266 [.ag x.v, .ag y.v] (.r (.ag (x.sum y).once.v)):=by
 refine zaa (T:=Tab) mixed Tab_ok Tryz.func266 rfl (by kernel_rfl) ?_
 refine za rfl rfl ?_
 refine za rfl rfl ?_
 refine ze (zyc x y) ?_
 refine za rfl rfl ?_
 refine ze (zx4 (x.sum y)) ?_
 refine za rfl rfl ?_
 exact cr
theorem z2l(x:S4){j:Nat}(h:j<4):lget (x.v.map TF.r) (0+j*1)=some (TF.r (W (x.l.getD j 0))):=by
 rw[Nat.zero_add]
 exact zf7 (l:=x.l) h
def S4.bit(x:S4)(i:Nat):UInt64:=shrW (x.l.getD (i/64) 0) (i%64)&&&1
theorem z4m(x:S4)(i:Nat)(hi:i<256):zab Tryz.prog 259 [.ag x.v,I i] (.r (I (x.bit i).toNat)):=by
 refine zaa (T:=Tab) mixed Tab_ok Tryz.func259 rfl (by kernel_rfl) ?_
 refine zu (by simp only[decide_eq_false_iff_not];omega) ?_
 refine zu (by simp only[decide_eq_false_iff_not];omega) ?_
 refine zq ?_
 refine Vquo.i64 i 64 rfl rfl (by omega) (by omega) ?_
 refine Vadr.mk' (i/64) rfl (by omega) ?_
 (conv=>whnf)
 generalize hq:lget _ _=q
 obtain rfl:=hq.symm.trans (z2l x (by omega:i/64<4))
 clear hq
 refine Vrem.nat i 64 rfl rfl (by omega) ?_
 refine Vshr.w _ (i%64) rfl rfl ?_
 refine Vbits.wand _ 1 rfl rfl ?_
 refine zd (m:=((x.bit i).toNat:Int)) rfl ?_ ?_
 ·have:(x.bit i).toNat<=1:=by
   unfold S4.bit
   rw[UInt64.toNat_and]
   exact Nat.and_le_right
  show _<=((x.bit i).toNat:Int)/\((x.bit i).toNat:Int)<=_
  omega
 exact cr
def scC(x:S4)(i:Nat):UInt8:=UInt8.ofNat (shrW (x.l.getD (i/8) 0) (i%8*8)).toNat
def scB(x:S4)(j:Nat):List UInt8:=(List.range 32).map λi=>if i<j then scC x i else 0
def S4.bytes(x:S4):List UInt8:=scB x 32
theorem zks(x:S4)(j:Nat):(scB x j).length=32:=by simp[scB]
theorem S4.bytes_len(x:S4):x.bytes.length=32:=zks _ _
theorem z11(x:S4):scB x 0=List.replicate 32 0:=by
 apply List.ext_getElem
 ·simp[zks]
 ·intro i h1 h2
  unfold scB
  simp only[List.getElem_map,List.getElem_replicate,Nat.not_lt_zero,if_false]
theorem z10(x:S4)(j:Nat):scB x (j+1)=(scB x j).set j (scC x j):=by
 apply List.ext_getElem
 ·simp[scB]
 ·intro i h1 h2
  simp only[scB,List.getElem_set,List.getElem_map,List.getElem_range]
  by_cases h:j=i
  ·subst h;simp
  ·rw[if_neg h]
   by_cases h3:i<j
   ·rw[if_pos h3,if_pos (by omega)]
   ·rw[if_neg h3,if_neg (by omega)]
attribute [irreducible] scB scC
def sbI(x:S4)(j:Nat):St:={F:=[(1, .own 0),(3, .own 1),(7, .r (I 32)),(8, .r (I j))],O:=[(0,some x.bx),(1,some (.ch 5 1 32 ((scB x j).map U8) false))],nx:=2}
set_option maxHeartbeats 1000000 in
theorem zye(x:S4):zab Tryz.prog 268 [.ag x.v] (bch x.bytes):=by
 refine zax (T:=Tab) mixed Tab_ok Tryz.func268 rfl (by kernel_rfl) ?_
 refine⟨rfl,by decide,by decide,by decide,_,_,rfl,zs32,Vpub.own ?_⟩
 refine Vloop.mkx (sbI x) (λi=>i<=32) (λi=>32-i) 0 (by omega) (zad [(0,0),(1,1)] rfl ⟨rfl,rfl,cr,cr,trivial⟩ ⟨⟨_,_,rfl,cr,_,_,rfl,cr,_,_,rfl,cr,_,_,rfl,cr,rfl⟩,⟨rfl,rfl,rfl,rfl,by rw[z11];exact zn _⟩,trivial⟩) ?_
 intro i hi
 refine zh (λh=>zp ?_) (λh=>zq ?_)
 ·simp only[zb]at h
  have hi':i<32:=by omega
  refine Vquo.i64 i 8 rfl rfl (by omega) (by omega) ?_
  refine Vadr.mk' (i/8) rfl (by omega) ?_
  (conv=>whnf)
  generalize hq:lget _ _=q
  obtain rfl:=hq.symm.trans (z2l x (by omega:i/8<4))
  clear hq
  refine Vrem.nat i 8 rfl rfl (by omega) ?_
  refine zd (m:=((i%8*8:Nat):Int)) (by omega) (by omega) ?_
  refine Vshr.w _ (i%8*8) rfl rfl ?_
  refine Vint.u8 _ rfl ?_
  refine Vadr.mk' i rfl (by omega) ?_
  refine⟨by rw[List.length_map,zks];show i*1+1<=32;omega,(scB x (i+1)).map U8,?_,?_⟩
  ·rw[z10,Nat.mul_one]
   unfold scC
   exact zcs (by rw[zks];omega)
  refine zd (m:=((i+1:Nat):Int)) (by omega) (by omega) ?_
  exact⟨i+1,by omega,by omega,zad [(0,0),(1,1)] rfl ⟨rfl,rfl,cr,cr,trivial⟩ ⟨⟨_,_,rfl,cr,_,_,rfl,cr,_,_,rfl,cr,_,_,rfl,cr,rfl⟩,⟨rfl,rfl,rfl,rfl,zn _⟩,trivial⟩⟩
 ·simp only[zb]at h
  obtain rfl:i=32:=by omega
  refine⟨_,zo _,?_⟩
  refine⟨_,zbd (id:=1) rfl,?_⟩
  exact congrArg (λn=>some (Ow.ch 5 1 n (x.bytes.map U8) true)) x.bytes_len.symm
end
section
def repC(c:UInt8)(bp:Nat):List RV:=List.replicate bp (U8 c)++List.replicate (32-bp) .any
theorem zsa(c:UInt8){bp:Nat}(h:bp<=32):(repC c bp).length=32:=by simp[repC];omega
theorem zzb(c:UInt8):(([c].map U8).take (Nat.min [c].length 32*1))++(List.replicate 32 RV.any).drop (Nat.min [c].length 32*1)=repC c 1:=rfl
theorem zza(c:UInt8){bp:Nat}(h:2*bp<=32)(h0:0<bp):(repC c bp).take (bp*1)++(((repC c bp).drop (0*1)).take (bp*1)).take (Nat.min bp (32-bp)*1)++(repC c bp).drop (bp*1+Nat.min bp (32-bp)*1)=repC c (2*bp):=by
 have e:Nat.min bp (32-bp)=bp:=Nat.min_eq_left (by omega)
 rw[e]
 simp only[repC,Nat.mul_one,Nat.zero_mul,List.drop_zero]
 have h1:(List.replicate bp (U8 c)).length=bp:=List.length_replicate
 have t1:(List.replicate bp (U8 c)++List.replicate (32-bp) RV.any).take bp=List.replicate bp (U8 c):=by rw[List.take_append_of_le_length (by rw[h1];exact Nat.le_refl _),List.take_of_length_le (by rw[h1];exact Nat.le_refl _)]
 rw[t1,List.take_of_length_le (by rw[h1];exact Nat.le_refl _),List.replicate_append_replicate,List.drop_append,h1,List.drop_eq_nil_of_le (by rw[h1];omega),List.nil_append,List.drop_replicate]
 congr 2<;>omega
theorem z5l{S:St}{j off m s0:Nat}{e:TypeId}{sz n:Nat}{ys:List RV}{pub:Bool}(ho:oget S.O j=some (.ch e sz n ys pub))(h:off+m*sz<=ys.length):rhsv S s0 (.cut j off m)=some (sz,m,(ys.drop off).take (m*sz)):=by
 have hb:Nat.ble (off+m*sz) ys.length=true:=Nat.ble_eq_true_of_le h
 unfold rhsv
 simp only[ho,hb]
def repI(c:UInt8)(bp:Nat):St:={F:=[(7, .r (I 32)),(8, .r (I 32)),(9, .own 0),(10, .r (I bp))],O:=[(0,some (.ch 5 1 32 (repC c bp) false))],nx:=1}
set_option maxHeartbeats 1000000 in
theorem z00(c:UInt8):zab Tryz.prog 479 [bs [c],I 32] (.own 5 1 32 (List.replicate 32 (U8 c))):=by
 refine zaa (T:=Tab) mixed Tab_ok Tryz.func479 rfl (by kernel_rfl) ?_
 refine zu rfl (zq ?_)
 refine zu rfl (zq ?_)
 refine Vint.n 1 rfl ?_
 refine Vint.n 32 rfl ?_
 refine ze (z7c 1 32) ?_
 refine zu rfl ?_
 refine zu rfl (zq ?_)
 refine Vint.n 32 rfl ?_
 refine zu rfl (zq ?_)
 refine zu rfl (zq ?_)
 refine Vcall.ext (z9k 32 (by decide)) ?_
 refine Vstep.clip Tab_ok rfl rfl rfl rfl rfl rfl rfl rfl rfl (by decide) ?_
 refine Vstep.copy Tab_ok rfl rfl rfl rfl rfl rfl rfl rfl (zzb c) ?_
 refine zy (repI c) (λbp=>bp∈[1,2,4,8,16,32]) (λbp=>32-bp) 1 (by decide) (zad [(0,1)] rfl ⟨cr,cr,rfl,cr,trivial⟩ ⟨⟨rfl,rfl,rfl,rfl,zn _⟩,trivial⟩) ?_
 intro bp hbp
 refine zh (λh=>zp ?_) (λh=>zq ?_)
 ·simp only[zb]at h
  have h2:2*bp<=32:=by simp at hbp;omega
  have h0:0<bp:=by simp at hbp;omega
  refine Vstep.min rfl rfl rfl ?_
  refine Vdraw.code (Vcode.float mixed Tab_ok 8 [⟨0,67, .r (I bp),[]⟩,⟨1,68, .own 0,[]⟩,⟨2,69, .r (I bp),[]⟩,⟨3,70, .cut 0 (bp*1) (32-bp),[1,2]⟩,⟨4,71, .own 0,[]⟩,⟨5,72, .r (I bp),[]⟩,⟨6,73, .cut 0 (0*1) bp,[4,5]⟩] [(7,[3,6])] (by kernel_rfl)
   (F:=[(7, .r (I 32)),(8, .r (I 32)),(9, .own 0),(10, .r (I bp)),(11, .r (I bp))]) (O:=[(0,some (.ch 5 1 32 (repC c bp) false))]) (nx:=1) (zad [(0,0)] rfl ⟨cr,cr,rfl,cr,zf (by rw[if_neg (by omega)]),trivial⟩ ⟨⟨rfl,rfl,rfl,rfl,zn _⟩,trivial⟩) ?_)
  refine⟨rfl,⟨λY=>zo _,λY=>zo _,λY=>zo _,λY=>Vstep.val Tab_ok (Vcutn.mk' bp (32-bp) rfl (by omega) (by omega) (by omega) (zo _)),λY=>zo _,λY=>zo _,λY=>Vstep.val Tab_ok (Vcutn.mk' 0 bp rfl (by omega) (by omega) (by omega) (zo _)),trivial⟩,
   [(74, .r (I ((Nat.min bp (32-bp):Nat):Int))),(7, .r (I 32)),(8, .r (I 32)),(9, .own 0),(10, .r (I bp)),(11, .r (I bp))],(0,some (.ch 5 1 32 (repC c (2*bp)) false))::[(0,some (.ch 5 1 32 (repC c bp) false))],1,λY=>?_,?_⟩
  ·exact Vstep.copyCut Tab_ok rfl rfl rfl rfl rfl rfl (by rw[zsa c (by omega)];show bp*1+(32-bp)*1<=32;omega) rfl (z5l rfl (by rw[zsa c (by omega)];show 0*1+bp*1<=32;omega)) (zza c h2 h0) (zo _)
  refine⟨rfl,⟨λY=>zo _,λY=>zo _,λY=>zo _,λY=>Vstep.val Tab_ok (Vcutn.mk' bp (32-bp) rfl (by omega) (by omega) (by omega) (zo _)),λY=>zo _,λY=>zo _,λY=>Vstep.val Tab_ok (Vcutn.mk' 0 bp rfl (by omega) (by omega) (by omega) (zo _)),trivial⟩,?_⟩
  refine zd (m:=((2*bp:Nat):Int)) (by rw[show Nat.min bp (32-bp)=bp from Nat.min_eq_left (by omega)];omega) (by rw[show Nat.min bp (32-bp)=bp from Nat.min_eq_left (by omega)];omega) ?_
  exact⟨2*bp,by simp at hbp⊢;omega,by omega,zad [(0,0)] rfl ⟨cr,cr,rfl,cr,trivial⟩ ⟨⟨rfl,rfl,rfl,rfl,zn _⟩,trivial⟩⟩
 ·simp only[zb]at h
  obtain rfl:bp=32:=by simp at hbp;omega
  exact rfl
end
end Go.Proofs.YtebhngeddnnpkaaGreat.Sx
