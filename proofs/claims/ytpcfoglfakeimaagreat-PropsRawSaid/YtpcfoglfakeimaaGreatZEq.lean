import Derived.Test.YtpcfoglfakeimaaGreatZFi
import Derived.Test.YtpcfoglfakeimaaGreatZKf
import Derived.Test.YtpcfoglfakeimaaGreatZSxPt
import Derived.Test.YtpcfoglfakeimaaGreatZFc
import Derived.Lib.MakeNoZero
import Derived.Test.YtpcfoglfakeimaaGreatZGg
namespace Go.Proofs.YtpcfoglfakeimaaGreat.Sx
open Go.RowKit
section
theorem zpp{T:TT}{P:Program}{N n:Nat}{B:Bs}{c rest:Code}{S:St}{a:Act}{w:World}{k:Kp}{Q0:St->Prop}{Q:Exit->Act->World->Prop}(hm:P.follows .mixedOrders=true)(hT:TOk P T)
  (h:vcg P T c S (λe S'=>e= .normal/\Q0 S')) (hs:Sat B N S a w k) (hd:zau N c=true) (hK: ∀S' a' w' k',Q0 S'->Sat B N S' a' w' k'->rest.wpIn Fence.wide n P Q a' w'):(Code.seq c rest).wpIn Fence.wide n P Q a w:=
 wpIn_seq (wpIn_wide.2 (zav hm hT c S _ h B N a w k _ hs hd λe S' a' w' k' hq hs'=>by
  obtain⟨rfl,hq⟩:=hq
  exact hK S' a' w' k' hq hs'))
theorem pre3{T:TT}{P:Program}{N n:Nat}{B:Bs}{c1 c2 c3 blk tail:Code}{S Sl:St}{a:Act}{w:World}{k:Kp}{Q:Exit->Act->World->Prop}(hm:P.follows .mixedOrders=true)(hT:TOk P T)
  (h:vcg P T c1 S (λe S1=>e= .normal/\vcg P T c2 S1 (λe S2=>e= .normal/\vcg P T c3 S2 (λe S3=>e= .normal/\Sub S3 Sl)))) (hs:Sat B N S a w k) (hd:(zau N c1&&(zau N c2&&zau N c3))=true)
  (hK: ∀a' w' k',Sat B N Sl a' w' k'->blk.wpIn Fence.wide n P (Exit.then (tail.wpIn Fence.wide n P Q) Q) a' w'):(Code.seq c1 (Code.seq c2 (Code.seq (Code.seq c3 blk) tail))).wpIn Fence.wide n P Q a w:=by
 simp only[Bool.and_eq_true]at hd
 refine zpp hm hT h hs hd.1 λS1 a1 w1 k1 h1 hs1=>?_
 refine zpp hm hT h1 hs1 hd.2.1 λS2 a2 w2 k2 h2 hs2=>?_
 refine wpIn_seq ?_
 refine zpp hm hT h2 hs2 hd.2.2 λS3 a3 w3 k3 h3 hs3=>?_
 obtain⟨k',hs'⟩:=h3 _ _ _ _ _ hs3
 exact hK _ _ _ hs'
theorem z22{N:Nat}{l:List Oper}(h:(l.all λo=>match o.dst with |some d=>Nat.blt d N |none=>true)=true): ∀o∈l,∀d,o.dst=some d->d<N:=λo ho d hd=>by
 have:=List.all_eq_true.1 h o ho
 rw[hd]at this
 exact Nat.le_of_ble_eq_true this
def hX(b:List UInt8)(pre:List Nat):X8:=pre.foldl (λs x=>z2c s k80 (zc9 (zcw b) 128 x)) iv8
theorem zdeb(b:List UInt8):hX b []=iv8:=rfl
theorem zakb(b:List UInt8)(pre:List Nat)(x:Nat):hX b (pre++[x])=z2c (hX b pre) k80 (zc9 (zcw b) 128 x):=by simp[hX]
attribute [irreducible] hX
def endX(b:List UInt8):X8:=hX b (upto (λj=>j) ((zcw b).length/128))
def sumC(x:X8)(i:Nat):UInt8:=UInt8.ofNat (shrW (x.l.getD (i/8) 0) (56-i%8*8)).toNat
def sumJ(x:X8)(j:Nat):List UInt8:=(List.range 64).map λi=>if i<j then sumC x i else 0
def sumB(b:List UInt8):List UInt8:=sumJ (endX b) 64
theorem zds(x:X8)(j:Nat):(sumJ x j).length=64:=by simp[sumJ]
theorem z81(b:List UInt8):(sumB b).length=64:=zds _ _
theorem z5v(x:X8):sumJ x 0=List.replicate 64 0:=by
 apply List.ext_getElem
 ·simp[zds]
 ·intro i h1 h2
  unfold sumJ
  simp only[List.getElem_map,List.getElem_replicate,Nat.not_lt_zero,if_false]
theorem z5u(x:X8)(j:Nat):sumJ x (j+1)=(sumJ x j).set j (sumC x j):=by
 apply List.ext_getElem
 ·simp[sumJ]
 ·intro i h1 h2
  simp only[sumJ,List.getElem_set,List.getElem_map,List.getElem_range]
  by_cases h:j=i
  ·subst h;simp
  ·rw[if_neg h]
   by_cases h3:i<j
   ·rw[if_pos h3,if_pos (by omega)]
   ·rw[if_neg h3,if_neg (by omega)]
attribute [irreducible] sumJ sumC
def smS(b:List UInt8):St:={F:=[(2, .own 0),(3, .own 1),(4, .r (.ptr (k80.map W))),(12, .r (.s (funS 354 [.ptr [bs (zcw b)], .ptr [I 128]])))],O:=[(0,some (boxB (List.replicate 64 0))),(1,some (boxW (hX b []).l))],nx:=2}
theorem zexb(b:List UInt8):stOk [(0,0),(1,1)] (smS b)=true:=by
 simp only[stOk,smS,boxW,boxB,List.all_cons,List.all_nil,zdl,zdw]
 rfl
theorem zy8{x:UInt8}{l:List UInt8}{j:Nat}(h:j<l.length):(za4 (U8 x)&&(Nat.beq (cellsOf (U8 x)).length 1&&Nat.ble (j*1+1) ((l.map U8).map TF.r).length))=true:=by
 have e:Nat.ble (j*1+1) ((l.map U8).map TF.r).length=true:=by
  rw[Nat.ble_eq,List.length_map,List.length_map]
  omega
 rw[e]
 rfl
theorem zxf{l:List UInt8}{j:Nat}{x:UInt8}{K:List TF->Prop}(h:j<l.length)(hK:K (((l.set j x).map U8).map TF.r)):putK ((l.map U8).map TF.r) (j*1) [TF.r (U8 x)] K:=by
 rw[Nat.mul_one,zef _ _ _ _ (by simp;omega)]
 have e:((l.map U8).map TF.r).take j++[TF.r (U8 x)]++((l.map U8).map TF.r).drop (j+1)=((l.set j x).map U8).map TF.r:=by
  rw[List.set_eq_take_append_cons_drop,if_pos h]
  simp[List.map_take,List.map_drop]
 simp only[List.length_cons,List.length_nil,Nat.zero_add]
 rw[e]
 exact hK
def smO(xe:X8)(D j:Nat):St:={F:=[(2, .own 0),(3, .own 1),(6, .own 3),(18, .r (I j))],O:=[(0,some (boxB (List.replicate 64 0))),(1,some xe.bx),(2,some (.gen (zn3 D))),(3,some (boxB (sumJ xe j)))],nx:=4}
theorem z5p(xe:X8)(D j:Nat):stOk [(0,0),(1,1),(2,2),(3,3)] (smO xe D j)=true:=by
 simp only[stOk,smO,boxB,List.all_cons,List.all_nil,zdl,zdw]
 rfl
set_option maxRecDepth 100000 in
set_option maxHeartbeats 4000000 in
theorem zzo(b:List UInt8)(hb:b.length<=10000000000):aG 255 [bs b] (.r (.ag ((sumB b).map U8))):=by
 refine⟨zfo Tryz.func255 rfl (by kernel_rfl),λw k vs hp=>?_⟩
 refine callsIn_wide.1 (callsIn_of_wp_marks (n:=3) Tryz.func255 rfl trivial ?_)
 refine pre3 (N:=35) mixed Tab_ok (Sl:=smS b) ?v (zho hp (by simp)) (by kernel_rfl) ?r
 case v=>
  (conv=>whnf)
  refine⟨rfl,?_⟩
  refine ze zamb ?_
  refine ze z64 ?_
  (conv=>whnf)
  generalize hq:(za4 _&&_)=q
  obtain rfl:=hq.symm.trans (zht (l:=k80.map W) 80 (by rw[List.length_map,zj7]) rfl)
  clear hq
  refine zd7 (by rw[List.length_map];show(List.replicate 80 (Value.int .u64 0)).length=_;rw[List.length_replicate,List.length_map,zj7]) ?_
  (conv=>whnf)
  refine⟨rfl,?_⟩
  refine ze (z4e b hb) ?_
  refine ze (zanb (zcw b) 128 (by decide)) ?_
  refine⟨rfl,Sub.trans (zie (id:=2) (t:=4) (k80.map W) rfl rfl) (zac [(0,0),(1,1)] (zexb b) ⟨rfl,rfl,cr,cr,trivial⟩ ⟨zad ((List.replicate 64 (0:UInt8)).map U8),by rw[zdeb];exact⟨_,_,rfl,cr,_,_,rfl,cr,_,_,rfl,cr,_,_,rfl,cr,_,_,rfl,cr,_,_,rfl,cr,_,_,rfl,cr,_,_,rfl,cr,rfl⟩,trivial⟩)⟩
 case r=>
  rintro a1 w1 k1 ⟨g1,h1⟩
  have hlen:=zrp b
  have hdv:=z2i b
  have hz:padZ b.length<128:=by unfold padZ;omega
  refine wpIn_block ?_
  refine z5f (i3:=1) (t12:=12) (p:=13) (q:=5) (l:=zcw b) (m:=128) (K:=(zcw b).length/128) (X:=λpre=>(hX b pre).l) h1 rfl rfl (by decide) (by omega) (by omega) (by omega) (by decide) (by decide) ?asg ?body ?done
  case asg=>
   intro ld a Wr Kk hk
   refine wpIn_region_list (zlc (λ⟨_,_,h⟩=>h) (List.all_eq_true.1 (by kernel_rfl)) ?_)
   go_wp2
   simp only[Act.put,Array.getD_eq_getD_getElem?]at hk
   exact hk
  case body=>
   intro ld v pre x a Wr kk bb hx hs
   refine wpIn_block (wpIn_region_list (zlc (λ⟨_,_,h⟩=>by cases h.1) (List.all_eq_true.1 (by kernel_rfl)) ?_))
   refine zgf (T:=Tab) (N:=35) (K:=λS'=>Sub S' {F:=[(1000000+1, .nm 1 v)],O:=[(1,some (boxW (hX b (pre++[x])).l))],nx:=2}) Tab_ok (λo ho d hd=>?_) (λo h=>h) hs ?_ (λS' a' w' k' hK hs'=>⟨rfl,hK _ _ _ _ _ hs'⟩)
   ·exact z22 (N:=35) (by kernel_rfl) o ho d hd
   ·have hcl:(zc9 (zcw b) 128 x).length=128:=zp7 (K:=(zcw b).length/128) (by omega) hx
    refine za rfl rfl ?_
    refine za (l:=k80.map W) (List.take_of_length_le (by rw[List.drop_zero,List.length_map,zj7];exact Nat.le_refl _)) (by rw[List.length_map,zj7]) ?_
    refine ze (z7o (hX b pre) k80 (zc9 (zcw b) 128 x) zj7 hcl) ?_
    exact zac [(1,1)] rfl ⟨⟨rfl,rfl⟩,trivial⟩ ⟨by rw[zakb];exact⟨_,_,rfl,cr,_,_,rfl,cr,_,_,rfl,cr,_,_,rfl,cr,_,_,rfl,cr,_,_,rfl,cr,_,_,rfl,cr,_,_,rfl,cr,rfl⟩,trivial⟩
  case done=>
   intro D Wr k' g' hsD
   generalize hXe:hX b (upto (λj=>j) ((zcw b).length/128))=xe at hsD
   refine wpIn_wide.2 (zav (T:=Tab) mixed Tab_ok _ _ (λe S'=>(e= .normal\/e= .ret)/\oget S'.O 2=some (.gen (zn3 D))/\finv Tab Tryz.f255.results (.r (.ag ((sumB b).map U8))) e (S'.set 2 none)) ?_ _ 35 _ _ _ _ ⟨g',hsD⟩ (by kernel_rfl) (λe S' a' w' k2 hq hs'=>z4z (T:=Tab) Tab_ok hq.1 hq.2.2 hq.2.1 hs'))
   have hse:sumB b=sumJ xe 64:=by rw[sumB,endX,hXe]
   rw[hse]
   clear hsD hXe hse
   refine Vloop.mk' (smO xe D) (λj=>j<=64) (λj=>64-j) 0 (by omega) (zac [(0,0),(1,1),(2,2),(3,3)] (z5p xe D 0) ⟨rfl,rfl,rfl,cr,trivial⟩ ⟨zad ((List.replicate 64 (0:UInt8)).map U8),(aD aZ),λ_ _ _ h=>h,by rw[z5v];exact zad ((List.replicate 64 (0:UInt8)).map U8),trivial⟩) ?_
   intro j hj
   refine zh (λh=>zq ?_) (λh=>zt ?_)
   ·simp only[zb]at h
    have hj':j<64:=by omega
    refine Vquo.i64 j 8 rfl rfl (by omega) (by omega) ?_
    refine Vadr.mk' (j/8) rfl (by omega) ?_
    (conv=>whnf)
    generalize hq:lget _ _=q
    obtain rfl:=hq.symm.trans (zhy (l:=xe.l) (j:=j/8) (by show j/8<8;omega))
    clear hq
    refine Vrem.nat j 8 rfl rfl (by omega) ?_
    refine zd (m:=((j%8*8:Nat):Int)) (by omega) (by omega) ?_
    refine zd (m:=((56-j%8*8:Nat):Int)) (by omega) (by omega) ?_
    refine Vshr.w _ (56-j%8*8) rfl rfl ?_
    refine Vint.u8 _ rfl ?_
    refine Vadr.mk' j rfl (by omega) ?_
    (conv=>whnf)
    generalize hq:(za4 _&&_)=q
    obtain rfl:=hq.symm.trans (zy8 (x:=UInt8.ofNat (shrW (xe.l.getD (j/8) 0) (56-j%8*8)).toNat) (j:=j) (by rw[zds];omega))
    clear hq
    refine zxf (by rw[zds];omega) ?_
    have hs:=z5u xe j
    unfold sumC at hs
    rw[<-hs]
    refine zd (m:=((j+1:Nat):Int)) (by omega) (by omega) ?_
    exact⟨j+1,by omega,by omega,zac [(0,0),(1,1),(2,2),(3,3)] (z5p xe D (j+1)) ⟨rfl,rfl,rfl,cr,trivial⟩ ⟨zad ((List.replicate 64 (0:UInt8)).map U8),(aD aZ),λ_ _ _ h=>h,zad ((sumJ xe (j+1)).map U8),trivial⟩⟩
   ·simp only[zb]at h
    obtain rfl:j=64:=by omega
    refine za (l:=((sumJ xe 64).map U8).map TF.r) (List.take_of_length_le (by simp[zds])) (by simp[zds]) ?_
    (conv=>whnf)
    generalize hq:St.rvs _ _=q
    obtain rfl:=hq.symm.trans (zgv _ _)
    clear hq
    (conv=>whnf)
    generalize hq:(za4 _&&_)=q
    obtain rfl:=hq.symm.trans (zht (l:=(sumJ xe 64).map U8) 64 (by rw[List.length_map,zds]) rfl)
    clear hq
    refine zd7 (by rw[List.length_map,List.length_map,List.length_map,zds];rfl) ?_
    (conv=>whnf)
    refine⟨.inr rfl,rfl,?_⟩
    refine za (l:=((sumJ xe 64).map U8).map TF.r) (List.take_of_length_le (by simp[zds])) (by simp[zds]) ?_
    (conv=>whnf)
    generalize hq:St.rvs _ _=q
    obtain rfl:=hq.symm.trans (zgv _ _)
    clear hq
    exact cr
end
def zci(ls:List (List UInt8)):List UInt8:=sumB (ls.flatMap id)
theorem zb2(ls:List (List UInt8)):(zci ls).length=64:=z81 _
set_option maxRecDepth 100000 in
theorem zvx(ls:List (List UInt8))(hl:(ls.flatMap id).length<=10000000000):aG 179 [bss ls] (.r (bs (zci ls))):=by
 refine aT Tryz.func179 rfl ?_
 refine ze (zgl ls (by omega)) ?_
 refine ze (zzo (ls.flatMap id) hl) ?_
 (conv=>whnf)
 generalize hq:(za4 _&&_)=q
 obtain rfl:=hq.symm.trans (zht (l:=(zci ls).map U8) 64 (by rw[List.length_map,zb2]) rfl)
 clear hq
 refine zd7 (by rw[List.length_map,List.length_map];show(List.replicate 64 (Value.int .u8 0)).length=_;rw[List.length_replicate];exact(zb2 ls).symm) ?_
 refine Vstep.boxPub (n:=64) (vs:=(zci ls).map U8) Tab_ok rfl rfl rfl rfl rfl rfl rfl (by rw[List.length_map,zb2]) (by decide) (by decide) ?_
 exact zf (by show _=bs (zci ls);rw[bs,zb2])
section
structure S4 where
 a:UInt64
 b:UInt64
 c:UInt64
 d:UInt64
abbrev S4.v(x:S4):List RV:=[W x.a,W x.b,W x.c,W x.d]
abbrev S4.bx(x:S4):Ow:= .box [.r (W x.a), .r (W x.b), .r (W x.c), .r (W x.d)]
abbrev S4.l(x:S4):List UInt64:=[x.a,x.b,x.c,x.d]
def S4.car(x y:S4):UInt64:=carW x.d y.d (carW x.c y.c (carW x.b y.b (carW x.a y.a 0)))
def S4.sum(x y:S4):S4:=⟨x.a+y.a+0,x.b+y.b+carW x.a y.a 0,x.c+y.c+carW x.b y.b (carW x.a y.a 0),x.d+y.d+carW x.c y.c (carW x.b y.b (carW x.a y.a 0))⟩
def S4.bor(x y:S4):UInt64:=borW x.d y.d (borW x.c y.c (borW x.b y.b (borW x.a y.a 0)))
def S4.dif(x y:S4):S4:=⟨x.a-y.a-0,x.b-y.b-borW x.a y.a 0,x.c-y.c-borW x.b y.b (borW x.a y.a 0),x.d-y.d-borW x.c y.c (borW x.b y.b (borW x.a y.a 0))⟩
theorem zzn(x y c:UInt64)(hc:c.toNat<=1):Extn aP 305 [W x,W y,W c] (.r (.tu [W (x-y-c),W (borW x y c)])):=
 Extn.sub (λus w=>run_callFunc_extern Tryz.func305 (by kernel_rfl) (by kernel_rfl) (by kernel_rfl) (e:=zxz) (by kernel_rfl) us w) x y c hc
set_option maxHeartbeats 4000000 in
theorem z34(x y:S4):aG 306 [.ag x.v, .ag y.v] (.r (.tu [.ag (x.sum y).v,W (x.car y)])):=by
 refine aT Tryz.func306 rfl ?_
 repeat' ((conv=>whnf);first|refine Vrounds.step mixed Tab_ok ?_|refine zu rfl (zq ?_)|refine zw rfl (zt ?_)|refine Vadr.any (by decide) ?_|refine Vint.any (k:= .i64) ?_|refine za rfl rfl ?_|refine aV ?_|refine Vcall.ext (zfq _ _ (carW _ _ _) (by repeat' first|apply zza |decide)) ?_|refine Vcall.ext (zfq _ _ 0 (by decide)) ?_|refine Vloop.rounds 5 ?_)
 exact⟨_,rfl,cr⟩
set_option maxHeartbeats 4000000 in
theorem z4a(x y:S4):aG 252 [.ag x.v, .ag y.v] (.r (.tu [.ag (x.dif y).v,W (x.bor y)])):=by
 refine aT Tryz.func252 rfl ?_
 repeat' ((conv=>whnf);first|refine Vrounds.step mixed Tab_ok ?_|refine zu rfl (zq ?_)|refine zw rfl (zt ?_)|refine Vadr.any (by decide) ?_|refine Vint.any (k:= .i64) ?_|refine za rfl rfl ?_|refine aV ?_|refine Vcall.ext (zzn _ _ (borW _ _ _) z94) ?_|refine Vcall.ext (zzn _ _ 0 (by decide)) ?_|refine Vloop.rounds 5 ?_)
 exact⟨_,rfl,cr⟩
def ord4:S4:=⟨6346243789798364141,1503914060200516822,0,1152921504606846976⟩
theorem zzl:aG 253 [] (.r (.ag ord4.v)):=by
 refine aT Tryz.func253 rfl ?_
 repeat' ((conv=>whnf);first|refine za rfl rfl ?_)
 exact cr
attribute [irreducible] ord4
def S4.once(x:S4):S4:=if x.bor ord4=0 then x.dif ord4 else x
set_option maxHeartbeats 4000000 in
theorem z3y(x:S4):aG 307 [.ag x.v] (.r (.ag x.once.v)):=by
 refine aT Tryz.func307 rfl ?_
 refine aV ?_
 refine za rfl rfl ?_
 refine ze zzl ?_
 refine ze (z4a x ord4) ?_
 refine zh (λh=>zq ?_) (λh=>zt ?_)
 ·have e:x.bor ord4=0:=by
   rw[beq_iff_eq]at h
   have:(x.bor ord4).toNat=0:=by omega
   exact UInt64.toNat_inj.1 this
  refine za rfl rfl ?_
  refine za rfl rfl ?_
  exact zf (by rw[S4.once,if_pos e])
 ·have e: ¬x.bor ord4=0:=by
   rw[beq_eq_false_iff_ne]at h
   intro e
   rw[e]at h
   exact h rfl
  refine za rfl rfl ?_
  refine za rfl rfl ?_
  exact zf (by rw[S4.once,if_neg e])
end
def swI(b:List UInt8)(at_ j:Nat):St:={F:=[(0, .r (bs b)),(1, .r (I at_)),(5, .r (W (zb0 b at_ j))),(6, .r (I (7-(j:Int))))],O:=[],nx:=0}
theorem zbwb(x:UInt64):x|||UInt64.ofNat (0:UInt8).toNat=x:=by
 have e:UInt64.ofNat (0:UInt8).toNat=0:=rfl
 rw[e,UInt64.or_zero]
theorem zj5(b:List UInt8)(at_:Nat)(hb:b.length<=10000000000)(ha:at_<=10000000000):aG 251 [bs b,I at_] (.r (W (zb0 b at_ 8))):=by
 refine aT Tryz.func251 rfl ?_
 refine Vloop.mk' (swI b at_) (λj=>j<=8) (λj=>8-j) 0 (by omega) (zac [] rfl ⟨cr,cr,by rw[zrr];exact cr,cr,trivial⟩ trivial) ?_
 intro j hj
 refine zh (λh=>zq ?_) (λh=>zt ?_)
 ·simp only[zb]at h
  have hj':j<8:=by omega
  refine Vshl.w _ 8 rfl rfl (by decide) ?_
  refine zd (m:=((at_+(7-j):Nat):Int)) (by omega) (by omega) ?_
  have hs:=zrq b at_ j
  refine zh (λh2=>zq ?_) (λh2=>zt ?_)
  ·simp only[zb]at h2
   have hl:at_+(7-j)<b.length:=by omega
   refine zd (m:=((at_+(7-j):Nat):Int)) (by omega) (by omega) ?_
   refine zm (by omega) (by omega) (zan rfl hl) (zg rfl ?_)
   refine Vint.w _ rfl ?_
   refine Vbits.wor _ _ rfl rfl ?_
   refine zd (m:=7-((j+1:Nat):Int)) (by omega) (by omega) ?_
   exact⟨j+1,by omega,by omega,zac [] rfl ⟨cr,cr,by
    rw[hs,List.getD_eq_getElem?_getD,List.getElem?_eq_getElem hl];exact cr,cr,trivial⟩ trivial⟩
  ·simp only[zb]at h2
   refine zd (m:=7-((j+1:Nat):Int)) (by omega) (by omega) ?_
   exact⟨j+1,by omega,by omega,zac [] rfl ⟨cr,cr,by
    rw[hs,List.getD_eq_getElem?_getD,List.getElem?_eq_none (by omega)]
    show Cv _ (W (_|||UInt64.ofNat (0:UInt8).toNat))
    rw[zbwb];exact cr,cr,trivial⟩ trivial⟩
 ·simp only[zb]at h
  obtain rfl:j=8:=by omega
  exact cr
section
abbrev wsR(l:List UInt64):RV:= .sl 1 l.length (l.map W)
theorem z1q{l:List UInt64}{i:Int}{j:Nat}(h:i=j)(hj:j<l.length):((l.map W).drop (i.toNat*1)).take 1=[W (l.getD j 0)]:=by
 subst h
 simp only[Int.toNat_natCast,Nat.mul_one]
 rw[List.drop_eq_getElem_cons (by simpa using hj),List.getD_eq_getElem?_getD,List.getElem?_eq_getElem hj]
 simp
def bitW(ws:List UInt64)(i:Nat):UInt64:=shrW (ws.getD (i/64) 0) (i%64)&&&1
def S4.orb(x:S4)(b:UInt64):S4:=⟨x.a|||b,x.b,x.c,x.d⟩
def redN(ws:List UInt64):Nat->S4
 |0=>⟨0,0,0,0⟩
 |j+1=>(((redN ws j).sum (redN ws j)).orb (bitW ws (64*ws.length-1-j))).once
theorem z5h(ws:List UInt64):redN ws 0=⟨0,0,0,0⟩:=rfl
theorem z5g(ws:List UInt64)(j:Nat):redN ws (j+1)=(((redN ws j).sum (redN ws j)).orb (bitW ws (64*ws.length-1-j))).once:=rfl
attribute [irreducible] redN
def zn9(ws:List UInt64):S4:=redN ws (64*ws.length)
def rdI(ws:List UInt64)(j:Nat):St:={F:=[(0, .r (wsR ws)),(2, .own 0),(3, .own 1),(4, .r (I (64*ws.length-j)))],O:=[(0,some (S4.bx ⟨0,0,0,0⟩)),(1,some (redN ws j).bx)],nx:=2}
set_option maxHeartbeats 4000000 in
theorem zv3(ws:List UInt64)(hw:ws.length<=1000000000):aG 254 [wsR ws] (.r (.ag (zn9 ws).v)):=by
 refine aT Tryz.func254 rfl ?_
 refine Vcode.scope2 mixed Tab_ok 0 (rdI ws) (λj=>j<=64*ws.length) (λj=>64*ws.length-j) rfl ?_ ?_
 ·(conv=>whnf)
  refine⟨rfl,?_⟩
  refine zd (m:=64*(ws.length:Int)) rfl (by omega) ?_
  refine⟨rfl,0,by omega,zac [(0,0),(1,1)] rfl ⟨cr,rfl,rfl,zf (by congr 1<;>omega),trivial⟩ ⟨(aC aZ),by rw[z5h];exact⟨_,_,rfl,cr,_,_,rfl,cr,_,_,rfl,cr,_,_,rfl,cr,rfl⟩,trivial⟩⟩
 ·intro j hj
  refine zd (m:=64*(ws.length:Int)-j-1) rfl (by omega) ?_
  refine zh (λh=>zq ?_) (λh=>zt ?_)
  ·simp only[zb]at h
   have hj':j<64*ws.length:=by omega
   generalize hX:redN ws j=x
   refine za rfl rfl ?_
   refine za rfl rfl ?_
   refine ze (z34 x x) ?_
   refine aV ?_
   refine Vadr.any (by decide) ?_
   refine Vquo.i64 (64*ws.length-1-j) 64 (by omega) rfl (by omega) (by omega) ?_
   refine zm (by omega) (by omega) (z1q rfl (by omega)) (zg rfl ?_)
   refine Vrem.nat (64*ws.length-1-j) 64 (by omega) rfl (by omega) ?_
   refine Vshr.w _ ((64*ws.length-1-j)%64) rfl rfl ?_
   refine Vbits.wand _ 1 rfl rfl ?_
   refine Vbits.wor _ _ rfl rfl ?_
   refine Vadr.any (by decide) ?_
   refine za rfl rfl ?_
   refine ze (z3y ((x.sum x).orb (bitW ws (64*ws.length-1-j)))) ?_
   exact⟨j+1,by omega,by omega,zac [(0,0),(1,1)] rfl ⟨cr,rfl,rfl,zf (by congr 1<;>omega),trivial⟩ ⟨(aC aZ),by rw[z5g,hX];exact⟨_,_,rfl,cr,_,_,rfl,cr,_,_,rfl,cr,_,_,rfl,cr,rfl⟩,trivial⟩⟩
  ·simp only[zb]at h
   obtain rfl:j=64*ws.length:=by omega
   refine za rfl rfl ?_
   refine za rfl rfl ?_
   exact cr
end
theorem zdhb(x y:UInt64):aG 357 [W x,W y] (.r (.tu [W (mulH x y),W (x*y)])):=by
 refine aT Tryz.func357 rfl ?_
 refine zt ?_
 refine ze (zr5 x y) ?_
 exact⟨_,rfl,cr⟩
theorem zqc: ∀(n t:Nat) (acc:Array Value),(∀v∈acc.toList,v.oneCell'=true)->∀v∈(Extern.BytealgMakeNoZero.digits n t acc).toList,v.oneCell'=true
 |0,_,acc,h=>h
 |n+1,t,acc,h=>by
  rw[Extern.BytealgMakeNoZero.digits]
  refine zqc n _ _ λv hv=>?_
  rw[Array.toList_push,List.mem_append]at hv
  rcases hv with hv |hv
  ·exact h v hv
  ·rw[List.mem_singleton]at hv
   subst hv
   rfl
theorem zb5b{P:Program}(w:World)(ps:Array TypeId)(t e:TypeId)(ht:P.underlying t=some (.slice e))(n:Nat)(hn:n<=281474976710656):
  ∃cs:Array Value,(Extern.BytealgMakeNoZero.makeNoZero ps #[t] #[.int .i64 n]).run P w= .ok (.slice (some ⟨w.heap.size,0,none⟩) n cs.size) (w.drew.drew.alloc (.cells cs e))/\n<=cs.size/\cs.size<=maxLen/\∀v∈cs.toList,v.oneCell'=true:=by
 have hdef:Extern.BytealgMakeNoZero.makeNoZero ps #[t] #[.int .i64 n]=
   (do
    let .slice elem<-underlying t |stuck "bytealg.MakeNoZero: slice type expected"
    if(n:Int)<0||(n:Int)>2^48 then runtimePanic (.error "makeslice: len out of range")
    let cap<-choose (.appendCap (n:Int).toNat 0 elem)
    askRoom cap
    let bytes<-choose (.extern "internal/bytealg.MakeNoZero.bytes" 0)
    let a<-newRow elem (Extern.BytealgMakeNoZero.digits cap bytes #[])
    pure (.slice (some a) (n:Int).toNat cap)):=rfl
 refine⟨Extern.BytealgMakeNoZero.digits (grownCap w n 0 e) ((Question.extern "internal/bytealg.MakeNoZero.bytes" 0).cut (w.tape (w.drawn+1) (.extern "internal/bytealg.MakeNoZero.bytes" 0))) #[],?_,?_,?_,zqc _ _ _ (by simp)⟩
 ·rw[hdef]
  have h1: ¬(n:Int)<0:=by omega
  have h2: ¬(281474976710656:Int)< (n:Int):=by omega
  simp[run_underlying ht,h1,h2,Question.forced,newRow,Lib.size_digits,grownCap]
 ·rw[Lib.size_digits]
  simpa using grownCap_ge w n 0 e
 ·rw[Lib.size_digits]
  simpa using grownCap_le_maxLen w n 0 e (by simp only[maxLen];omega)
theorem zfib(n:Nat)(hn:n<=1000000000):Extn aP 358 [I n] (.own 5 1 n (List.replicate n .any)):=by
 intro w k vs h
 simp only[RV.partsAt,RV.at_]at h
 obtain⟨_,_,rfl,rfl,rfl⟩:=h
 obtain⟨cs,hr,h1,h2,h3⟩:=zb5b (P:=Tryz.prog) w #[3] 25 5 (by kernel_rfl) n (by omega)
 refine⟨_,_,(run_callFunc_extern Tryz.func358 (by kernel_rfl) (by kernel_rfl) (by kernel_rfl) (e:=Extern.BytealgMakeNoZero.makeNoZero #[3] #[25]) (by kernel_rfl) _ w).trans (by rw[hr];rfl),?_,kset k w.heap.size 0,λb hb=>zd5 b hb,some w.heap.size,⟨by simp, .inr ⟨w.heap.size,cs.size,cs,rfl,rfl,heap_alloc_new w.drew.drew _,h1,h2,by omega,zbu,?_⟩⟩,λb hb=>?_⟩
 ·exact Ext.alloc (Ext.drew (Ext.drew (Ext.refl w))) _
 ·rw[RV.listAt_iff]
  refine⟨by rw[List.length_take,Array.length_toList,List.length_replicate];omega,λj f u hf hu=>⟨?_,?_⟩⟩
  ·exact h3 u (List.mem_of_mem_take (List.mem_of_getElem? hu))
  ·have:=(List.getElem?_eq_some_iff.1 hf).2
   rw[List.getElem_replicate]at this
   subst this
   simp[RV.at_]
 ·injection hb with hb
  omega
section
variable {P:Program} {T:TT} {B:Bs} {N:Nat} {S:St} {a:Act} {w:World} {k:Kp} {g:Env} {o:Oper} {Q:Exit->Act->World->Prop}
theorem Vstep.min{x y:Operand}{ts:Array TypeId}{m n:Int}{K:St->Prop}(hop:o.op= .call {callee:= .builtin .min,args:= #[x,y],argTypes:=ts}) (hx:opr S x=some (.r (.i .i64 m))) (hy:opr S y=some (.r (.i .i64 n)))
  (hK:newK S o.dst (.r (.i .i64 (if n<m then n else m))) none K):Vstep P S o K:=by
 rw[zat]at hK
 refine Vstep.one (λB N a w k Q ⟨g,hs⟩ hd=>?_) hK
 have hv:=(zag hs hx).2
 have hn:=(zag hs hy).2
 simp only[TF.at_,RV.at_]at hv hn
 refine za0 (v:= .int .i64 (if n<m then n else m)) (w':=w) ?_ ⟨k,g,hs.put hd trivial (by simp[TF.at_,RV.at_])⟩
 simp[execOp,hop,resolve,invoke,builtin,hv,hn,Builtin.min_,Builtin.min2]
theorem Vstep.clip{t e:TypeId}{ti te:TI}{x y z:Operand}{id sz n:Nat}{cells:List RV}{K:St->Prop}(hT:TOk P T)(hop:o.op= .slice t x none (some y) (some z))(hti:tget T t=some ti)(hk:ti.k= .slice e)(hte:tget T e=some te)(hsz:te.sz=sz)
  (hx:opr S x=some (.own id)) (ho:oget S.O id=some (.ch e sz n cells false)) (hy:opr S y=some (.r (.i .i64 n))) (hz:opr S z=some (.r (.i .i64 n))) (hn:0<n)
  (hK:newK (S.set id none) o.dst (.own S.nx) (some (.ch e sz n cells false)) K):Vstep P S o K:=by
 rw[zat]at hK
 refine Vstep.one (λB N a w k Q ⟨g,hs⟩ hd=>?_) hK
 have hxv:=(zag hs hx).2
 have hyv:=(zag hs hy).2
 have hzv:=(zag hs hz).2
 simp only[TF.at_,RV.at_]at hxv hyv hzv
 obtain⟨q1,q2,q3,q4⟩:=hs.owns id _ ho
 simp only[Ow.at_]at q3
 obtain⟨q,hq⟩:=hT.get hti
 obtain⟨d,hdd,hko,_⟩:=q.desc
 rw[hq]at hdd
 rw[hk]at hko
 simp only[KOk]at hko
 subst hko
 obtain⟨qe,hqe⟩:=hT.get hte
 have hsize:=za3 (w:=w) qe hqe
 have hw:Wrote w k w k (g id).2:=⟨rfl,rfl,rfl,Nat.le_refl _,λ_ _ _=>⟨rfl,rfl⟩,λ_ _=>⟨Nat.le_refl _,λ_ _=>rfl,λ_ _ _ h=>h⟩⟩
 have h1:=hs.wrote hw (id:=some id) ⟨⟨_,ho⟩,rfl⟩
 have hcl:=q3.1
 rcases q3.2 with⟨h,⟨h0,_⟩ |⟨_,h',_⟩⟩ |⟨b,cap,cur,g1,g2,g3,g4,g5,g6,g7,g8⟩
 ·omega
 ·cases h'
 have hrun:(Instr.sliceAt t (a.eval x) none (some (a.eval y)) (some (a.eval z))).run P w= .ok (.slice (some ⟨b,0,none⟩) n n) w:=by
  rw[hxv,hyv,hzv,g2]
  have hne: ¬n=0:=by omega
  simp[Instr.sliceAt,Instr.slice,Instr.sliceBounds,Instr.sliceBound,asIntOf,run_underlying hdd w,hsize,g4,hne,Addr.add]
 have hsl:n*sz<=cap*sz:=Nat.mul_le_mul_right _ g4
 refine za0 (v:= .slice (some ⟨b,0,none⟩) n n) (w':=w) (by simp[execOp,hop,hrun]) ⟨k,_,h1.adopt hd (o:= .ch e sz n cells false) (vb:=(.slice (some ⟨b,0,none⟩) n n,(g id).2)) trivial ?_ (λb hb=>q4 b hb) λj o' b hj hb hgj=>?_⟩
 ·simp only[Ow.at_]
  exact⟨hcl, .inr ⟨b,n,cur,g1,rfl,g3,Nat.le_refl _,by omega,by omega,g7,g8⟩⟩
 ·rcases zal hj with⟨_,e'⟩ |⟨hne,hj⟩
  ·cases e'
  ·exact hs.apart id j _ o' b ho hj hne hb hgj
end
def wrdI(b:List UInt8)(i:Nat):List UInt64:=(List.range i).map λj=>zb0 b (8*j) 8
theorem zyf(b:List UInt8)(i:Nat):(wrdI b i).length=i:=by simp[wrdI]
theorem z56(b:List UInt8)(i:Nat):wrdI b (i+1)=wrdI b i++[zb0 b (8*i) 8]:=by simp[wrdI,List.range_succ]
def scOf(b:List UInt8):S4:=zn9 (wrdI (b.take 64) (((b.take 64).length+7)/8))
def scI(b:List UInt8)(i:Nat):St:={F:=[(0, .r (bs b)),(2, .own 0),(3, .own 1),(4, .r (I ((8*i:Nat):Int)))],O:=[(0,some (S4.bx ⟨0,0,0,0⟩)),(1,some (.ch 170 1 i ((wrdI b i).map W) true))],nx:=2}
theorem z57(l:List UInt64)(n:Nat)(h:l.length=n):RV.sl 1 n (l.map W)=wsR l:=by rw[<-h]
set_option maxHeartbeats 1000000 in
theorem zqq(b:List UInt8)(hb:b.length<=10000000000):aG 178 [bs b] (.r (.ag (scOf b).v)):=by
 refine aT Tryz.func178 rfl ?_
 refine Vstep.min rfl rfl rfl ?_
 have hl:(b.take 64).length=min 64 b.length:=List.length_take
 refine⟨by omega,by split<;>omega,by split<;>omega,(b.take 64).length,(b.take 64).map U8,by split<;>omega,?_,?_⟩
 ·rw[Int.toNat_zero,Nat.zero_mul,List.drop_zero,Nat.mul_one,List.map_take,hl]
  rcases Nat.le_total 64 b.length with h |h
  ·rw[Nat.min_eq_left h]
  ·rw[Nat.min_eq_right h,List.take_of_length_le (by simp),List.take_of_length_le (by simpa using h)]
 have hsc:scOf b=zn9 (wrdI (b.take 64) (((b.take 64).length+7)/8)):=rfl
 generalize b.take 64=c at*
 have hc:c.length<=64:=by omega
 refine Vloop.mk' (scI c) (λi=>i<=(c.length+7)/8) (λi=>(c.length+7)/8-i) 0 (by omega) (Sub.trans (zcd 3 170 1 rfl) (zac [(0,0),(1,1)] rfl ⟨cr,rfl,rfl,cr,trivial⟩ ⟨(aC aZ),⟨rfl,rfl,rfl,rfl,zn _⟩,trivial⟩)) ?_
 intro i hi
 refine zh (λh=>zq ?_) (λh=>zt ?_)
 ·simp only[zb]at h
  refine ze (zj5 c (8*i) (by omega) (by omega)) ?_
  refine zy ?_
  refine Vapp.mk' (j:=i+1) (zs:=(wrdI c (i+1)).map W) (by simp[maxLen];omega) (by show(i+1)*8<=_;omega) rfl (by rw[z56,List.map_append];rfl) ?_
  refine zd (m:=((8*(i+1):Nat):Int)) (by omega) (by omega) ?_
  exact⟨i+1,by omega,by omega,zac [(0,0),(1,3)] rfl ⟨cr,rfl,rfl,cr,trivial⟩ ⟨(aC aZ),⟨rfl,rfl,rfl,rfl,zn _⟩,trivial⟩⟩
 ·simp only[zb]at h
  obtain rfl:i=(c.length+7)/8:=by omega
  have hrd:=zv3 (wrdI c ((c.length+7)/8)) (by rw[zyf];omega)
  rw[<-z57 _ _ (zyf c _)]at hrd
  refine ze hrd ?_
  refine za rfl rfl ?_
  rw[hsc]
  exact cr
section
set_option maxHeartbeats 1000000 in
theorem za2b(x y:S4):aG 272 [.ag x.v, .ag y.v] (.r (.ag (x.sum y).once.v)):=by
 refine aT Tryz.func272 rfl ?_
 refine za rfl rfl ?_
 refine za rfl rfl ?_
 refine ze (z34 x y) ?_
 refine za rfl rfl ?_
 refine ze (z3y (x.sum y)) ?_
 refine za rfl rfl ?_
 exact cr
theorem z9g(x:S4){j:Nat}(h:j<4):lget (x.v.map TF.r) (0+j*1)=some (TF.r (W (x.l.getD j 0))):=by
 rw[Nat.zero_add]
 exact zhy (l:=x.l) h
def S4.bit(x:S4)(i:Nat):UInt64:=shrW (x.l.getD (i/64) 0) (i%64)&&&1
theorem za3b(x:S4)(i:Nat)(hi:i<256):aG 205 [.ag x.v,I i] (.r (I (x.bit i).toNat)):=by
 refine aT Tryz.func205 rfl ?_
 refine zw (by simp only[decide_eq_false_iff_not];omega) ?_
 refine zw (by simp only[decide_eq_false_iff_not];omega) ?_
 refine zt ?_
 refine Vquo.i64 i 64 rfl rfl (by omega) (by omega) ?_
 refine Vadr.mk' (i/64) rfl (by omega) ?_
 (conv=>whnf)
 generalize hq:lget _ _=q
 obtain rfl:=hq.symm.trans (z9g x (by omega:i/64<4))
 clear hq
 refine Vrem.nat i 64 rfl rfl (by omega) ?_
 refine Vshr.w _ (i%64) rfl rfl ?_
 refine Vbits.wand _ 1 rfl rfl ?_
 refine zd (m:=((x.bit i).toNat:Int)) rfl ?_ ?_
 ·have:(x.bit i).toNat<=1:=by
   unfold S4.bit
   rw[UInt64.toNat_and]
   exact Nat.and_le_right
  show _<=((x.bit i).toNat:Int)/\((x.bit i).toNat:Int)<=_
  omega
 exact cr
def scC(x:S4)(i:Nat):UInt8:=UInt8.ofNat (shrW (x.l.getD (i/8) 0) (i%8*8)).toNat
def scB(x:S4)(j:Nat):List UInt8:=(List.range 32).map λi=>if i<j then scC x i else 0
def S4.bytes(x:S4):List UInt8:=scB x 32
theorem zob(x:S4)(j:Nat):(scB x j).length=32:=by simp[scB]
theorem S4.bytes_len(x:S4):x.bytes.length=32:=zob _ _
theorem z8s(x:S4):scB x 0=List.replicate 32 0:=by
 apply List.ext_getElem
 ·simp[zob]
 ·intro i h1 h2
  unfold scB
  simp only[List.getElem_map,List.getElem_replicate,Nat.not_lt_zero,if_false]
theorem z8r(x:S4)(j:Nat):scB x (j+1)=(scB x j).set j (scC x j):=by
 apply List.ext_getElem
 ·simp[scB]
 ·intro i h1 h2
  simp only[scB,List.getElem_set,List.getElem_map,List.getElem_range]
  by_cases h:j=i
  ·subst h;simp
  ·rw[if_neg h]
   by_cases h3:i<j
   ·rw[if_pos h3,if_pos (by omega)]
   ·rw[if_neg h3,if_neg (by omega)]
attribute [irreducible] scB scC
def sbI(x:S4)(j:Nat):St:={F:=[(1, .own 0),(3, .own 1),(7, .r (I 32)),(8, .r (I j))],O:=[(0,some x.bx),(1,some (.ch 5 1 32 ((scB x j).map U8) false))],nx:=2}
set_option maxHeartbeats 1000000 in
theorem z35(x:S4):aG 274 [.ag x.v] (bch x.bytes):=by
 refine za1 (T:=Tab) mixed Tab_ok Tryz.func274 rfl (by kernel_rfl) ?_
 refine⟨rfl,by decide,by decide,by decide,_,_,rfl,zs32,Vpub.own ?_⟩
 refine Vloop.mkx (sbI x) (λi=>i<=32) (λi=>32-i) 0 (by omega) (zac [(0,0),(1,1)] rfl ⟨rfl,rfl,cr,cr,trivial⟩ ⟨(aC aZ),⟨rfl,rfl,rfl,rfl,by rw[z8s];exact zn _⟩,trivial⟩) ?_
 intro i hi
 refine zh (λh=>zq ?_) (λh=>zt ?_)
 ·simp only[zb]at h
  have hi':i<32:=by omega
  refine Vquo.i64 i 8 rfl rfl (by omega) (by omega) ?_
  refine Vadr.mk' (i/8) rfl (by omega) ?_
  (conv=>whnf)
  generalize hq:lget _ _=q
  obtain rfl:=hq.symm.trans (z9g x (by omega:i/8<4))
  clear hq
  refine Vrem.nat i 8 rfl rfl (by omega) ?_
  refine zd (m:=((i%8*8:Nat):Int)) (by omega) (by omega) ?_
  refine Vshr.w _ (i%8*8) rfl rfl ?_
  refine Vint.u8 _ rfl ?_
  refine Vadr.mk' i rfl (by omega) ?_
  refine⟨by rw[List.length_map,zob];show i*1+1<=32;omega,(scB x (i+1)).map U8,?_,?_⟩
  ·rw[z8r,Nat.mul_one]
   unfold scC
   exact zb9 (by rw[zob];omega)
  refine zd (m:=((i+1:Nat):Int)) (by omega) (by omega) ?_
  exact⟨i+1,by omega,by omega,zac [(0,0),(1,1)] rfl ⟨rfl,rfl,cr,cr,trivial⟩ ⟨(aC aZ),⟨rfl,rfl,rfl,rfl,zn _⟩,trivial⟩⟩
 ·simp only[zb]at h
  obtain rfl:i=32:=by omega
  refine⟨_,zo _,?_⟩
  refine⟨_,za7 (id:=1) rfl,?_⟩
  exact congrArg (λn=>some (Ow.ch 5 1 n (x.bytes.map U8) true)) x.bytes_len.symm
end
def repC(c:UInt8)(bp:Nat):List RV:=List.replicate bp (U8 c)++List.replicate (32-bp) .any
theorem zxl(c:UInt8){bp:Nat}(h:bp<=32):(repC c bp).length=32:=by simp[repC];omega
theorem z5j(c:UInt8):(([c].map U8).take (Nat.min [c].length 32*1))++(List.replicate 32 RV.any).drop (Nat.min [c].length 32*1)=repC c 1:=rfl
theorem z5i(c:UInt8){bp:Nat}(h:2*bp<=32)(h0:0<bp):(repC c bp).take (bp*1)++(((repC c bp).drop (0*1)).take (bp*1)).take (Nat.min bp (32-bp)*1)++(repC c bp).drop (bp*1+Nat.min bp (32-bp)*1)=repC c (2*bp):=by
 have e:Nat.min bp (32-bp)=bp:=Nat.min_eq_left (by omega)
 rw[e]
 simp only[repC,Nat.mul_one,Nat.zero_mul,List.drop_zero]
 have h1:(List.replicate bp (U8 c)).length=bp:=List.length_replicate
 have t1:(List.replicate bp (U8 c)++List.replicate (32-bp) RV.any).take bp=List.replicate bp (U8 c):=by rw[List.take_append_of_le_length (by rw[h1];exact Nat.le_refl _),List.take_of_length_le (by rw[h1];exact Nat.le_refl _)]
 rw[t1,List.take_of_length_le (by rw[h1];exact Nat.le_refl _),List.replicate_append_replicate,List.drop_append,h1,List.drop_eq_nil_of_le (by rw[h1];omega),List.nil_append,List.drop_replicate]
 congr 2<;>omega
theorem zb4b{S:St}{j off m s0:Nat}{e:TypeId}{sz n:Nat}{ys:List RV}{pub:Bool}(ho:oget S.O j=some (.ch e sz n ys pub))(h:off+m*sz<=ys.length):rhsv S s0 (.cut j off m)=some (sz,m,(ys.drop off).take (m*sz)):=by
 have hb:Nat.ble (off+m*sz) ys.length=true:=Nat.ble_eq_true_of_le h
 unfold rhsv
 simp only[ho,hb]
def repI(c:UInt8)(bp:Nat):St:={F:=[(7, .r (I 32)),(8, .r (I 32)),(9, .own 0),(10, .r (I bp))],O:=[(0,some (.ch 5 1 32 (repC c bp) false))],nx:=1}
set_option maxHeartbeats 1000000 in
theorem z7k(c:UInt8):aG 317 [bs [c],I 32] (.own 5 1 32 (List.replicate 32 (U8 c))):=by
 refine aT Tryz.func317 rfl ?_
 refine zw rfl (zt ?_)
 refine zw rfl (zt ?_)
 refine Vint.n 1 rfl ?_
 refine Vint.n 32 rfl ?_
 refine ze (zdhb 1 32) ?_
 refine zw rfl ?_
 refine zw rfl (zt ?_)
 refine Vint.n 32 rfl ?_
 refine zw rfl (zt ?_)
 refine zw rfl (zt ?_)
 refine Vcall.ext (zfib 32 (by decide)) ?_
 refine Vstep.clip Tab_ok rfl rfl rfl rfl rfl rfl rfl rfl rfl (by decide) ?_
 refine Vstep.copy Tab_ok rfl rfl rfl rfl rfl rfl rfl rfl (z5j c) ?_
 refine Vloop.mk' (repI c) (λbp=>bp∈[1,2,4,8,16,32]) (λbp=>32-bp) 1 (by decide) (zac [(0,1)] rfl ⟨cr,cr,rfl,cr,trivial⟩ ⟨⟨rfl,rfl,rfl,rfl,zn _⟩,trivial⟩) ?_
 intro bp hbp
 refine zh (λh=>zq ?_) (λh=>zt ?_)
 ·simp only[zb]at h
  have h2:2*bp<=32:=by simp at hbp;omega
  have h0:0<bp:=by simp at hbp;omega
  refine Vstep.min rfl rfl rfl ?_
  refine Vdraw.code (Vcode.float mixed Tab_ok 8 [⟨0,67, .r (I bp),[]⟩,⟨1,68, .own 0,[]⟩,⟨2,69, .r (I bp),[]⟩,⟨3,70, .cut 0 (bp*1) (32-bp),[1,2]⟩,⟨4,71, .own 0,[]⟩,⟨5,72, .r (I bp),[]⟩,⟨6,73, .cut 0 (0*1) bp,[4,5]⟩] [(7,[3,6])] (by kernel_rfl)
   (F:=[(7, .r (I 32)),(8, .r (I 32)),(9, .own 0),(10, .r (I bp)),(11, .r (I bp))]) (O:=[(0,some (.ch 5 1 32 (repC c bp) false))]) (nx:=1) (zac [(0,0)] rfl ⟨cr,cr,rfl,cr,zf (by rw[if_neg (by omega)]),trivial⟩ ⟨⟨rfl,rfl,rfl,rfl,zn _⟩,trivial⟩) ?_)
  refine⟨rfl,⟨λY=>zo _,λY=>zo _,λY=>zo _,λY=>Vstep.val Tab_ok (Vcutn.mk' bp (32-bp) rfl (by omega) (by omega) (by omega) (zo _)),λY=>zo _,λY=>zo _,λY=>Vstep.val Tab_ok (Vcutn.mk' 0 bp rfl (by omega) (by omega) (by omega) (zo _)),trivial⟩,
   [(74, .r (I ((Nat.min bp (32-bp):Nat):Int))),(7, .r (I 32)),(8, .r (I 32)),(9, .own 0),(10, .r (I bp)),(11, .r (I bp))],(0,some (.ch 5 1 32 (repC c (2*bp)) false))::[(0,some (.ch 5 1 32 (repC c bp) false))],1,λY=>?_,?_⟩
  ·exact Vstep.copyCut Tab_ok rfl rfl rfl rfl rfl rfl (by rw[zxl c (by omega)];show bp*1+(32-bp)*1<=32;omega) rfl (zb4b rfl (by rw[zxl c (by omega)];show 0*1+bp*1<=32;omega)) (z5i c h2 h0) (zo _)
  refine⟨rfl,⟨λY=>zo _,λY=>zo _,λY=>zo _,λY=>Vstep.val Tab_ok (Vcutn.mk' bp (32-bp) rfl (by omega) (by omega) (by omega) (zo _)),λY=>zo _,λY=>zo _,λY=>Vstep.val Tab_ok (Vcutn.mk' 0 bp rfl (by omega) (by omega) (by omega) (zo _)),trivial⟩,?_⟩
  refine zd (m:=((2*bp:Nat):Int)) (by rw[show Nat.min bp (32-bp)=bp from Nat.min_eq_left (by omega)];omega) (by rw[show Nat.min bp (32-bp)=bp from Nat.min_eq_left (by omega)];omega) ?_
  exact⟨2*bp,by simp at hbp⊢;omega,by omega,zac [(0,0)] rfl ⟨cr,cr,rfl,cr,trivial⟩ ⟨⟨rfl,rfl,rfl,rfl,zn _⟩,trivial⟩⟩
 ·simp only[zb]at h
  obtain rfl:bp=32:=by simp at hbp;omega
  exact rfl
end Go.Proofs.YtpcfoglfakeimaaGreat.Sx
