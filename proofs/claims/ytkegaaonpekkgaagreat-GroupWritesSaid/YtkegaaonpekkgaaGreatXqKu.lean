import Derived.Test.YtkegaaonpekkgaaGreatXqNq
import Derived.Lib.AppendZerosOnto
import Derived.Great.Walk
import Derived.WalkKit
import Derived.Deep.QuietTactic
import Derived.BigQuiet
import Derived.Deep.LoopGhost
import Derived.Deep.AppendLies
import Derived.IntWalk
import Derived.Test.YtkegaaonpekkgaaGreatXqKg
namespace Go.Proofs.YtkegaaonpekkgaaGreat.Sx
open Go.RowKit
theorem Ky(n:Nat)(hn:n<=100000000000):aG 238 [I n] (xJ (oB n)):=by
 refine aT Tryz.func238 rfl ?_
 have hz:=fC n
 have zer: ∀j,List.replicate j (0:UInt8)++[0]=List.replicate (j+1) 0:=λj=>by rw[List.replicate_succ']
 have hl: ∀j,(128::List.replicate j (0:UInt8)).length=1+j:=λj=>by simp;omega
 refine zw ?_
 refine zy (λj:Nat=>⟨[(0,.r (I n)),(3,.own 0)],[(0,some (.ch 5 1 (128::List.replicate j (0:UInt8)).length ((128::List.replicate j (0:UInt8)).map U8) true))],1⟩) (λj=>j<=wK n) (λj=>wK n-j) 0 (by omega)
  (zX [(0,0)] rfl ⟨cr,rfl,trivial⟩ ⟨⟨rfl,rfl,rfl,rfl,zn _⟩,trivial⟩) ?_
 intro j hj
 have hlj:=hl j
 refine zd (m:=((n+(1+j):Nat):Int)) (by omega) (by omega) ?_
 refine Vrem.nat (n+(1+j)) 64 rfl rfl (by decide) ?_
 refine zh (λh=>zp ?_) (λh=>zq ?_)
 ·simp only[zb]at h
  have hj':j<wK n:=by unfold wK at*;omega
  refine zw ?_
  refine z7 (j:=(128::List.replicate (j+1) (0:UInt8)).length) (zs:=(128::List.replicate (j+1) (0:UInt8)).map U8) (by rw[hlj];simp only[maxLen];omega) (by rw[hlj];show(1+j+1)*1<=_;omega) (by rw[hlj,hl];omega)
   (by rw[<-zer];exact(List.map_append (f:=U8) (l₁:=128::List.replicate j (0:UInt8)) (l₂:=[0])).symm) ?_
  exact⟨j+1,by omega,by omega,zX [(0,_)] rfl ⟨cr,rfl,trivial⟩ ⟨jx rfl,trivial⟩⟩
 simp only[zb]at h
 obtain rfl:j=wK n:=by unfold wK at*;omega
 obtain⟨B,hB⟩: ∃B,128::List.replicate (wK n) (0:UInt8)=B:=⟨_,rfl⟩
 rw[hB]at hlj⊢
 have ht:oB n=B++yg 8 (n*8):=by rw[<-hB];rfl
 rw[ht]
 have hlb: ∀i,(B++(yg 8 (n*8)).take i).length<=B.length+8:=λi=>by rw[List.length_append,List.length_take,yj];omega
 refine zy (λi:Nat=>⟨[(0,.r (I n)),(3,.own 0),(4,.r (I (7-(i:Int))))],[(0,some (.ch 5 1 (B++(yg 8 (n*8)).take i).length ((B++(yg 8 (n*8)).take i).map U8) true))],1⟩) (λi=>i<=8) (λi=>8-i) 0 (by omega)
  (zX [(0,0)] rfl ⟨cr,rfl,cr,trivial⟩ ⟨jx (by simp),trivial⟩) ?_
 intro i hi
 have hli:=hlb i
 refine zh (λh2=>zp ?_) (λh2=>zq ?_)
 ·simp only[zb]at h2
  have hi':i<8:=by omega
  have hb:=dm (n:=n*8) hi'
  refine zK (.inl rfl) n rfl (by omega) ?_
  refine zK (.inl rfl) (n*8) rfl (by omega) ?_
  refine zd (m:=((8*(7-i):Nat):Int)) (by omega) (by omega) ?_
  refine Vshr.nat (.inl rfl) (n*8) (8*(7-i)) (n*8/256^(8-1-i)) rfl rfl (by omega) (by rw[M9]) ?_
  refine Vint.u8 (n*8/256^(8-1-i)) rfl ?_
  refine zw ?_
  refine z7 (j:=(B++(yg 8 (n*8)).take (i+1)).length) (zs:=(B++(yg 8 (n*8)).take (i+1)).map U8) (by simp only[maxLen];omega) (by show((B++(yg 8 (n*8)).take i).length+1)*1<=_;omega) (by rw[hb];simp only[List.length_append,List.length_cons,List.length_nil];omega)
   (by rw[hb,<-List.append_assoc];exact(List.map_append (f:=U8) (l₁:=B++(yg 8 (n*8)).take i) (l₂:=[UInt8.ofNat (n*8/256^(8-1-i))])).symm) ?_
  refine zd (m:=7-((i+1:Nat):Int)) (by omega) (by omega) ?_
  exact⟨i+1,by omega,by omega,zX [(0,_)] rfl ⟨cr,rfl,cr,trivial⟩ ⟨jx rfl,trivial⟩⟩
 ·simp only[zb]at h2
  obtain rfl:i=8:=by omega
  rw[List.take_of_length_le (by rw[yj];omega)]
  exact rfl
def Ob(M:List UInt8)(t:Nat):St:=⟨[(2,.own 0),(3,.own 1),(4,.r (bs (M.drop (64*t))))],[(0,some (.box ((List.replicate 32 (U8 0)).map .r))),(1,some (bH (tV t h0Tab M)))],2⟩
theorem RI(M:List UInt8)(t:Nat):vB [(0,0),(1,1)] (Ob M t)=true:=rfl
set_option maxRecDepth 100000 in
set_option maxHeartbeats 4000000 in
theorem GC(b:List UInt8)(hb:b.length<=100000000000):aG 139 [bs b] (.r (.ag ((vk b).map U8))):=by
 refine aT Tryz.func139 rfl ?_
 obtain⟨M,hM⟩: ∃M,b++oB b.length=M:=⟨_,rfl⟩
 have hMl:M.length=b.length+(9+wK b.length):=by rw[<-hM,List.length_append,fp]
 have hz:=fC b.length
 have hM64:=UN b.length
 obtain⟨T,hT⟩: ∃T,M.length=64*T:=⟨M.length/64,by rw[hMl];omega⟩
 have htl:=fp b.length
 refine Vcode.scope2 mixed Tab_ok 0 (Ob M) (λt=>t<=T) (λt=>T-t) rfl ?_ ?_
 ·refine ze Ng ?_
  refine⟨rfl,?_⟩
  refine ze (V8 b (by omega)) ?_
  refine ze (Ky b.length hb) ?_
  refine z7 (j:=M.length) (zs:=M.map U8) (by simp only[maxLen];omega) (by show(b.length+(oB b.length).length)*1<=_;omega) (by rw[<-hM,List.length_append]) (by rw[<-hM,List.map_append]) ?_
  exact⟨rfl,0,by omega,zX [(0,0),(1,1)] (RI M 0) ⟨rfl,rfl,cr,trivial⟩ ⟨yh (List.replicate 32 (U8 0)),(aD aZ),trivial⟩⟩
 ·intro t ht
  have hdl:(M.drop (64*t)).length=64*(T-t):=by rw[List.length_drop,hT];omega
  refine zh (λh=>zp ?_) (λh=>zq ?_)
  ·simp only[zb]at h
   have ht':t<T:=by omega
   have hl64:((M.drop (64*t)).take 64).length=64:=by rw[List.length_take,hdl];omega
   refine⟨by decide,by decide,by omega,64,((M.drop (64*t)).take 64).map U8,by decide,by rw[List.map_take];rfl,?_⟩
   have hst:=Ua
   have hr:=gV t h0Tab M
   have hok:=eb t h0Tab M QF
   unfold Ob
   refine Vstep.actsBox (l:=vH (tV t h0Tab M)) (l':=vH (i7 (tV t h0Tab M) ((M.drop (64*t)).take 64))) (args:=[.own 0,.r (bs ((M.drop (64*t)).take 64))]) 1 (λv=>Ua v (tV t h0Tab M) ((M.drop (64*t)).take 64) hok hl64) (zi rfl ⟨_,_,rfl,rfl,_,_,rfl,zf (by rw[bs,hl64]),rfl⟩) rfl ?_
   refine⟨by decide,by omega,by omega,64*(T-(t+1)),(M.drop (64*(t+1))).map U8,by omega,by rw[<-List.map_drop,List.drop_drop,List.take_of_length_le (by rw[List.length_map,List.length_drop];omega)];rfl,?_⟩
   exact⟨t+1,by omega,by omega,zX [(0,0),(1,1)] (RI M (t+1)) ⟨rfl,rfl,zf (by rw[bs,List.length_drop,hT];congr 1;omega),trivial⟩ ⟨yh (List.replicate 32 (U8 0)),by rw[hr];exact⟨_,_,rfl,cr,_,_,rfl,cr,_,_,rfl,cr,_,_,rfl,cr,_,_,rfl,cr,_,_,rfl,cr,_,_,rfl,cr,_,_,rfl,cr,rfl⟩,trivial⟩⟩
  ·simp only[zb]at h
   obtain rfl:t=T:=by omega
   have he:vk b=YX (tV t h0Tab M):=by unfold vk;rw[hM,hT,Nat.mul_div_cancel_left _ (by decide)]
   have hok:=eb t h0Tab M QF
   rw[he]
   unfold Ob
   generalize tV t h0Tab M=s at*
   obtain⟨a,b,c,d,e,f,g,i⟩:=s
   refine za rfl rfl ?_
   refine zE 9 ?_
   repeat' ((conv=>whnf);first|refine zC mixed Tab_ok ?_|refine zt rfl (zp ?_)|refine zu rfl (zq ?_)|refine zm (by decide) (by decide) rfl ?_|refine zH (by decide) ?_|refine Vint.any (k:= .i64) ?_|refine Vshr.n32 _ 24 _ rfl rfl (by decide) rfl ?_|refine Vshr.n32 _ 16 _ rfl rfl (by decide) rfl ?_|refine Vshr.n32 _ 8 _ rfl rfl (by decide) rfl ?_|refine Vint.u8 _ rfl ?_|refine za rfl rfl ?_)
   refine zf (congrArg RV.ag ?_)
   simp[YX,H8.list,yg]
theorem HL{a w:World}(h:Ext a w)(o:Obj):Ext a (w.alloc o):=Below.alloc h h.size o
theorem Ed{a w:World}(h:Ext a w):Ext a w.drew:=Below.drew h
theorem SD{P:Program}{ops:Array Oper}{rest:List Oper}{o:Oper}{a:Act}{w:World}{Q:Exit->Act->World->Prop}(hgd:o.guard=none)(s x:Operand)(t u:TypeId)
  (ho:o.op= .call {callee:= .builtin .append,args:= #[s,x],argTypes:= #[t,u]}) {v y v':Value} {w':World} (hs:a.eval s=v) (hx:a.eval x=y)
  (hr:(Builtin.append_ #[t,u] o.type #[v,y]).run P w= .ok v' w') (h:wpList P ops Q rest (a.put o.dst v') w'):wpList P ops Q (o::rest) a w:=by
 refine wpList_plain hgd λK hK=>?_
 unfold Oper.wp execOp
 simp only[ho,resolve,invoke,builtin,Sem.run_bind,Sem.run_pure,Result.andThen_ok,List.map_toArray,List.map_cons,List.map_nil,hs,hx,hr]
 exact hK _ _ h
structure Stop (p:Prop):Prop where
 out:p
theorem Stop.on{p:Prop}(h:Stop p):p:=h.out
set_option maxRecDepth 100000 in
theorem LN(n:Nat)(w:World)(k:Kp)(hn:n<=1000000000000):
  Calls Tryz.prog 140 #[.slice none 0 0,.int .i64 (n:Int)] w λe w'=>∃v,e= .returned v/\Ext w w'/\∃k':Kp,(∀b,b<w.heap.size->k' b=k b)/\(xJ []).at_ w.heap.size w' k' v:=by
 rcases Nat.eq_zero_or_pos n with rfl |hpos
 ·go_enter Tryz.func140,Tryz.ntmps140
  go_wp2_with fail
  go_ret
  exact⟨_,rfl,Ext.refl _,k,λ_ _=>rfl,none,⟨rfl,.inl ⟨rfl,.inl ⟨rfl,none,rfl⟩⟩⟩,λb h=>by cases h⟩
 ·have hi0:(Tryz.prog.info? 5).map (λi=>(i.zero,i.size,i.bytes))=some (some (.int .u8 0),1,1):=by kernel_rfl
  obtain⟨i0,hi,hz⟩:=Option.map_eq_some_iff.1 hi0
  simp only[Prod.mk.injEq]at hz
  obtain⟨hz0,hz1,hz2⟩:=hz
  have hr:=λty=>Lib.run_append_grow_zeros w 22 3 ty 5 i0 (.int .u8 0) .i64 .i64 Tryz.underlying22 Tryz.underlying3 hi hz0 none 0 0 [] (run_firstCells_none w.drew i0.size 0 0 0) n hpos (by rw[hz1];decide) (by omega) (by omega) (by rw[hz2];omega) (growslice_fits (by omega) (by rw[hz2];omega))
  simp only[Nat.zero_add]at hr
  have hge:=grownCap_ge w n 0 5
  have hle:=grownCap_le_maxLen w n 0 5 (by unfold maxLen;omega)
  have hcs:((([]:List Value).toArray++Builtin.zeroCells (Value.int .u8 0).cells n++Builtin.zeroCells (Value.int .u8 0).cells (grownCap w n 0 5-n))).size=grownCap w n 0 5:=by
   simp only[Array.size_append,List.size_toArray,size_zeroCells,show(Value.int IntKind.u8 0).cells.size=1 from rfl]
   simp only[List.length_nil];omega
  generalize grownCap w n 0 5=G at*
  generalize ([]:List Value).toArray++Builtin.zeroCells (Value.int .u8 0).cells n++Builtin.zeroCells (Value.int .u8 0).cells (G-n)=cs at*
  unfold maxLen at hle
  go_enter Tryz.func140,Tryz.ntmps140
  go_wp2_with (first|(at_builtin;refine Stop.on ?_))
  refine Stop.mk (SD rfl (.tmp 20) (.tmp 21) _ _ rfl rfl rfl (hr _) ?_)
  clear hr
  go_wp2_with fail
  go_ret
  exact⟨_,rfl,HL (Ed (Ext.refl _)) _,x6 k w.heap.size 0,λb hb=>wR b hb,some w.heap.size,⟨rfl,.inr ⟨w.heap.size,G,cs,rfl,rfl,heap_alloc_new w.drew _,Nat.zero_le _,by unfold maxLen;omega,by simpa using Nat.le_of_eq hcs.symm,by simp[wo],by simp[RV.listAt]⟩⟩,λb hb=>by cases hb;exact Nat.le_refl _⟩
theorem Ez(n:Nat)(hn:n<=1000000000000):aG 140 [.x (.slice none 0 0),I n] (xJ []):=
 ⟨t6 Tryz.func140 rfl (by kernel_rfl),λw k vs hp=>by
  simp only[RV.partsAt,RV.at_]at hp
  obtain⟨_,_,rfl,rfl,_,_,rfl,rfl,rfl⟩:=hp
  exact LN n w k hn⟩
def tk(ls:List (List UInt8)):RV:= .sl 1 ls.length (ls.map bs)
theorem Xv(ls:List (List UInt8)){k:Nat}(hk:k<ls.length):(ls.take (k+1)).flatMap id=(ls.take k).flatMap id++ls[k]:=by
 rw[List.take_add_one,List.flatMap_append,List.getElem?_eq_getElem hk];simp
theorem SO(ls:List (List UInt8))(k:Nat):((ls.take k).flatMap id).length<=(ls.flatMap id).length:=by
 have h:ls.flatMap id=(ls.take k).flatMap id++(ls.drop k).flatMap id:=by rw[<-List.flatMap_append,List.take_append_drop]
 rw[h,List.length_append];omega
theorem pu(ls:List (List UInt8))(hl:(ls.flatMap id).length<=1000000000000):aG 64 [tk ls] (xJ (ls.flatMap id)):=by
 refine X9 (t6 Tryz.func64 rfl (by kernel_rfl)) λhml=>?_
 refine aT Tryz.func64 rfl ?_
 refine zy (λj:Nat=>⟨[(0,.r (tk ls)),(3,.r (I ((ls.take j).flatMap id).length)),(9,.r (tk ls)),(10,.r (I ls.length)),(11,.r (I j))],[],0⟩) (λj=>j<=ls.length) (λj=>ls.length-j) 0 (by omega) (zX [] rfl ⟨cr,cr,cr,cr,cr,trivial⟩ trivial) ?_
 intro j hj
 refine zh (λh=>zp ?_) (λh=>zq ?_)
 ·simp only[zb]at h
  have hj':j<ls.length:=by omega
  have e:=Xv ls hj'
  have hb:=SO ls (j+1)
  have hq:((ls.take (j+1)).flatMap id).length=((ls.take j).flatMap id).length+ls[j].length:=by rw[e,List.length_append]
  refine zm (by omega) (by omega) (xn rfl hj') (zg rfl ?_)
  refine zd (m:=(((ls.take (j+1)).flatMap id).length:Int)) (by omega) (by omega) ?_
  refine zu (by simp only[zb];omega) (zq ?_)
  refine zd (m:=((j+1:Nat):Int)) (by omega) (by omega) ?_
  exact⟨j+1,by omega,by omega,zX [] rfl ⟨cr,cr,cr,cr,cr,trivial⟩ trivial⟩
 simp only[zb]at h
 obtain rfl:j=ls.length:=by omega
 rw[List.take_length]
 refine ze (Ez _ hl) ?_
 refine zy (λj:Nat=>⟨[(6,.own 0),(25,.r (tk ls)),(26,.r (I ls.length)),(27,.r (I j))],[(0,some (.ch 5 1 ((ls.take j).flatMap id).length (((ls.take j).flatMap id).map U8) true))],1⟩) (λj=>j<=ls.length) (λj=>ls.length-j) 0 (by omega) (zX [(0,0)] rfl ⟨rfl,cr,cr,cr,trivial⟩ ⟨⟨rfl,rfl,rfl,rfl,zn _⟩,trivial⟩) ?_
 intro j hj
 refine zh (λh=>zp ?_) (λh=>zq ?_)
 ·simp only[zb]at h
  have hj':j<ls.length:=by omega
  have e:=Xv ls hj'
  have hb:=SO ls (j+1)
  have hq:((ls.take (j+1)).flatMap id).length=((ls.take j).flatMap id).length+ls[j].length:=by rw[e,List.length_append]
  refine zm (by omega) (by omega) (xn rfl hj') (zg rfl ?_)
  refine z7 (j:=((ls.take (j+1)).flatMap id).length) (zs:=((ls.take (j+1)).flatMap id).map U8) (by simp only[maxLen];omega) (by show(((ls.take j).flatMap id).length+ls[j].length)*1<=_;omega) hq.symm (by rw[e,List.map_append]) ?_
  refine zd (m:=((j+1:Nat):Int)) (by omega) (by omega) ?_
  exact⟨j+1,by omega,by omega,zX [(0,_)] rfl ⟨rfl,cr,cr,cr,trivial⟩ ⟨jx rfl,trivial⟩⟩
 ·simp only[zb]at h
  obtain rfl:j=ls.length:=by omega
  rw[List.take_length]
  exact rfl
set_option maxRecDepth 100000 in
theorem jD(ls:List (List UInt8))(hl:(ls.flatMap id).length<=100000000000):aG 63 [tk ls] (xJ (vk (ls.flatMap id))):=by
 refine aT Tryz.func63 rfl ?_
 have hsl:=wT (ls.flatMap id)
 have h1:=GC (ls.flatMap id) hl
 generalize vk (ls.flatMap id)=D at*
 refine ze (pu ls (by omega)) ?_
 refine ze h1 ?_
 (conv=>whnf)
 generalize hq:(xk _&&_)=q
 obtain rfl:=hq.symm.trans (nj (l:=D.map U8) 32 (by rw[List.length_map,hsl]) rfl)
 clear hq
 refine tA (by rw[List.length_map,List.length_map,hsl];rfl) ?_
 refine Vstep.boxCh (n:=32) (vs:=D.map U8) Tab_ok rfl rfl rfl rfl rfl rfl rfl (by rw[List.length_map,hsl]) (by decide) (by decide) ?_
 unfold xJ
 rw[hsl]
 exact rfl
end Go.Proofs.YtkegaaonpekkgaaGreat.Sx

namespace Go.Proofs.YtkegaaonpekkgaaGreat
theorem oF(x t:Nat):x/2^t%2=(x.testBit t).toNat:=by
 rw[Nat.testBit_eq_decide_div_mod_eq]
 have:x/2^t%2<2:=Nat.mod_lt _ (by omega)
 by_cases h:x/2^t%2=1
 ·simp[h]
 ·simp[h];omega
theorem U9(x t:Nat):x%2^(t+1)=x%2^t+x/2^t%2*2^t:=by rw[Nat.pow_succ,Nat.mod_mul,Nat.mul_comm]
theorem GX{e t:Nat}(he:e<4294967296)(ht:t<32):(4294967295-e).testBit t= !e.testBit t:=by
 have h:=Nat.testBit_two_pow_sub_succ (x:=e) (n:=32) (by simpa using he) t
 rw[show 2^32-(e+1)=4294967295-e by omega]at h
 rw[h];simp[ht]
theorem HJ{e f g t:Nat}(he:e<4294967296)(ht:t<32):
  (e/2^t%2=1->rj e f g%2^(t+1)=rj e f g%2^t+f/2^t%2*2^t)/\(¬e/2^t%2=1->rj e f g%2^(t+1)=rj e f g%2^t+g/2^t%2*2^t):=by
 have hb:(rj e f g).testBit t=((e.testBit t&&f.testBit t)^^(!e.testBit t&&g.testBit t)):=by
  unfold rj
  rw[Nat.testBit_xor,Nat.testBit_and,Nat.testBit_and,GX he ht]
 rw[U9,oF e,oF f,oF g,oF (rj e f g),hb]
 cases e.testBit t<;>cases f.testBit t<;>cases g.testBit t<;>simp
theorem jW{a b c t:Nat}:
  (2<=a/2^t%2+b/2^t%2+c/2^t%2->tR a b c%2^(t+1)=tR a b c%2^t+2^t)/\(¬2<=a/2^t%2+b/2^t%2+c/2^t%2->tR a b c%2^(t+1)=tR a b c%2^t):=by
 have hb:(tR a b c).testBit t=(((a.testBit t&&b.testBit t)^^(a.testBit t&&c.testBit t))^^(b.testBit t&&c.testBit t)):=by
  unfold tR
  rw[Nat.testBit_xor,Nat.testBit_xor,Nat.testBit_and,Nat.testBit_and,Nat.testBit_and]
 rw[U9,oF a,oF b,oF c,oF (tR a b c),hb]
 cases a.testBit t<;>cases b.testBit t<;>cases c.testBit t<;>simp
end Go.Proofs.YtkegaaonpekkgaaGreat

namespace Go.Proofs.YtkegaaonpekkgaaGreat.Sx
open Go.RowKit
def us(l:List Nat):RV:= .sl 1 l.length (l.map yQ)
theorem Vbits.xor{a b:Int}{K:Int->Prop}(x y:Nat)(ha:a=(x:Int))(hb:b=(y:Int))(hx:x<18446744073709551616)(hy:y<18446744073709551616)(hK:K ((x^^^y:Nat):Int)):Vbits .u64 .xor a b K:=by
 subst ha;subst hb
 refine⟨_,?_,hK⟩
 have hxy:x^^^y<18446744073709551616:=Nat.xor_lt_two_pow (n:=64) hx hy
 have e: ∀z:Nat,z<18446744073709551616->(BitVec.ofInt 64 (z:Int)).toNat=z:=λz hz=>by
  rw[BitVec.toNat_ofInt];omega
 show((x^^^y:Nat):Int)=IntKind.u64.wrap (((BitVec.ofInt 64 (x:Int)^^^BitVec.ofInt 64 (y:Int)).toNat:Nat):Int)
 rw[BitVec.toNat_xor,e x hx,e y hy,mF hxy]
theorem ZR{x:Nat}:yX 0 x=x:=by simp[yX,Nat.mod_one]
theorem PV{x i:Nat}(hi:i<32):yX (i+1) x=yX i x/2+yX i x%2*2147483648:=by
 unfold yX
 have h1:x/2^(i+1)=x/2^i/2:=by rw[Nat.pow_succ,Nat.div_div_eq_div_mul]
 have h2:x%2^(i+1)=x%2^i+2^i*(x/2^i%2):=by rw[Nat.pow_succ,Nat.mod_mul]
 have h3:2^(32-i)=2*2^(32-(i+1)):=by rw[show 32-i=(32-(i+1))+1 by omega,Nat.pow_succ,Nat.mul_comm]
 have h4:2^i*2^(32-(i+1))=2147483648:=by rw[<-Nat.pow_add,show i+(32-(i+1))=31 by omega]
 rw[h1,h2,h3]
 generalize x/2^i=r
 generalize x%2^i=m
 generalize 2^(32-(i+1))=p at*
 generalize 2^i=q at*
 have e1:m*(2*p)=2*(m*p):=by rw[Nat.mul_left_comm]
 have e2:(m+q*(r%2))*p=m*p+r%2*2147483648:=by
  rw[Nat.add_mul,<-h4,Nat.mul_comm q,Nat.mul_assoc]
 rw[e1,e2]
 omega
theorem xR{x:Nat}(hx:x<4294967296): ∀{n:Nat},n<=31->yX n x<4294967296
 |0,_=>by rw[ZR];exact hx
 |n+1,h=>xM hx (by omega) h
theorem rn(x n:Nat)(hx:x<4294967296)(hn:n<=31):aG 240 [yQ x,I n] (.r (yQ (yX n x))):=by
 refine aT Tryz.func240 rfl ?_
 refine zy (λj:Nat=>{F:=[(0,.r (yQ (yX j x))),(1,.r (I n)),(5,.r (I j))],O:=[],nx:=0}) (λj=>j<=n) (λj=>n-j) 0 (by omega) (zX [] rfl ⟨zf (by rw[ZR]),cr,cr,trivial⟩ trivial) ?_
 intro j hj
 refine zh (λh=>zp ?_) (λh=>zq ?_)
 ·simp only[zb]at h
  have hr:=xR hx (show j<=31 by omega)
  refine Vquo.nat (yX j x) 2 rfl rfl (by omega) (by omega) ?_
  refine Vrem.nat (yX j x) 2 rfl rfl (by omega) ?_
  refine zF (yX j x%2*2147483648) (by omega) (by omega) ?_
  refine zF (yX j x/2+yX j x%2*2147483648) (by omega) (by omega) ?_
  refine zd (m:=((j+1:Nat):Int)) (by omega) (by omega) ?_
  exact⟨j+1,by omega,by omega,zX [] rfl ⟨zf (by rw[PV (by omega)]),cr,cr,trivial⟩ trivial⟩
 ·simp only[zb]at h
  obtain rfl:j=n:=by omega
  exact cr
theorem SY(x n:Nat)(hx:x<4294967296)(hn:n<=31):aG 241 [yQ x,I n] (.r (yQ (x/2^n))):=by
 refine aT Tryz.func241 rfl ?_
 refine zy (λj:Nat=>{F:=[(0,.r (yQ (x/2^j))),(1,.r (I n)),(5,.r (I j))],O:=[],nx:=0}) (λj=>j<=n) (λj=>n-j) 0 (by omega) (zX [] rfl ⟨zf (by simp),cr,cr,trivial⟩ trivial) ?_
 intro j hj
 refine zh (λh=>zp ?_) (λh=>zq ?_)
 ·simp only[zb]at h
  have hr:=Nat.div_le_self x (2^j)
  refine Vquo.nat (x/2^j) 2 rfl rfl (by omega) (by omega) ?_
  refine zd (m:=((j+1:Nat):Int)) (by omega) (by omega) ?_
  exact⟨j+1,by omega,by omega,zX [] rfl ⟨zf (by rw[Nat.pow_succ,Nat.div_div_eq_div_mul]),cr,cr,trivial⟩ trivial⟩
 ·simp only[zb]at h
  obtain rfl:j=n:=by omega
  exact cr
set_option maxRecDepth 20000 in
theorem HT:aG 141 [] (.r (.tu [us h0Tab.list,us kTab])):=by
 refine aT Tryz.func141 rfl ?_
 refine zw ?_
 refine zw ?_
 exact⟨_,rfl,cr⟩
end Go.Proofs.YtkegaaonpekkgaaGreat.Sx
