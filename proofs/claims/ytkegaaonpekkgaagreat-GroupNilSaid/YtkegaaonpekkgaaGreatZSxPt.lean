import Derived.Test.YtkegaaonpekkgaaGreatZNq
import Derived.Lib.AppendZerosOnto
import Derived.Great.Walk
import Derived.WalkKit
import Derived.Deep.QuietTactic
import Derived.BigQuiet
import Derived.Deep.LoopGhost
import Derived.Deep.AppendLies
import Derived.IntWalk
import Derived.Test.YtkegaaonpekkgaaGreatZSxSt
import Derived.Test.YtkegaaonpekkgaaGreatZSxY
import Derived.Test.YtkegaaonpekkgaaGreatZGeoB
import Derived.Test.YtkegaaonpekkgaaGreatZSha
namespace Go.Proofs.YtkegaaonpekkgaaGreat.Sx
open Go.RowKit
theorem z98(n:Nat)(hn:n<=100000000000):aG 238 [I n] (bch (zjd n)):=by
 refine aT Tryz.func238 rfl ?_
 have hz:=zt5 n
 have zer: ∀j,List.replicate j (0:UInt8)++[0]=List.replicate (j+1) 0:=λj=>by rw[List.replicate_succ']
 have hl: ∀j,(128::List.replicate j (0:UInt8)).length=1+j:=λj=>by simp;omega
 refine zw ?_
 refine zy (λj:Nat=>⟨[(0, .r (I n)),(3, .own 0)],[(0,some (.ch 5 1 (128::List.replicate j (0:UInt8)).length ((128::List.replicate j (0:UInt8)).map U8) true))],1⟩) (λj=>j<=zdo n) (λj=>zdo n-j) 0 (by omega)
  (zad [(0,0)] rfl ⟨cr,rfl,trivial⟩ ⟨⟨rfl,rfl,rfl,rfl,zn _⟩,trivial⟩) ?_
 intro j hj
 have hlj:=hl j
 refine zd (m:=((n+(1+j):Nat):Int)) (by omega) (by omega) ?_
 refine Vrem.nat (n+(1+j)) 64 rfl rfl (by decide) ?_
 refine zh (λh=>zp ?_) (λh=>zq ?_)
 ·simp only[zb]at h
  have hj':j<zdo n:=by unfold zdo at*;omega
  refine zw ?_
  refine Vapp.mk' (j:=(128::List.replicate (j+1) (0:UInt8)).length) (zs:=(128::List.replicate (j+1) (0:UInt8)).map U8) (by rw[hlj];simp only[maxLen];omega) (by rw[hlj];show(1+j+1)*1<=_;omega) (by rw[hlj,hl];omega)
   (by rw[<-zer];exact(List.map_append (f:=U8) (l₁:=128::List.replicate j (0:UInt8)) (l₂:=[0])).symm) ?_
  exact⟨j+1,by omega,by omega,zad [(0,_)] rfl ⟨cr,rfl,trivial⟩ ⟨zkt rfl,trivial⟩⟩
 simp only[zb]at h
 obtain rfl:j=zdo n:=by unfold zdo at*;omega
 obtain⟨B,hB⟩: ∃B,128::List.replicate (zdo n) (0:UInt8)=B:=⟨_,rfl⟩
 rw[hB]at hlj⊢
 have ht:zjd n=B++beB 8 (n*8):=by rw[<-hB];rfl
 rw[ht]
 have hlb: ∀i,(B++(beB 8 (n*8)).take i).length<=B.length+8:=λi=>by rw[aL,List.length_take,zao];omega
 refine zy (λi:Nat=>⟨[(0, .r (I n)),(3, .own 0),(4, .r (I (7-(i:Int))))],[(0,some (.ch 5 1 (B++(beB 8 (n*8)).take i).length ((B++(beB 8 (n*8)).take i).map U8) true))],1⟩) (λi=>i<=8) (λi=>8-i) 0 (by omega)
  (zad [(0,0)] rfl ⟨cr,rfl,cr,trivial⟩ ⟨zkt (by simp),trivial⟩) ?_
 intro i hi
 have hli:=hlb i
 refine zh (λh2=>zp ?_) (λh2=>zq ?_)
 ·simp only[zb]at h2
  have hi':i<8:=by omega
  have hb:=zu8 (n:=n*8) hi'
  refine Vint.nat (.inl rfl) n rfl (by omega) ?_
  refine Vint.nat (.inl rfl) (n*8) rfl (by omega) ?_
  refine zd (m:=((8*(7-i):Nat):Int)) (by omega) (by omega) ?_
  refine Vshr.nat (.inl rfl) (n*8) (8*(7-i)) (n*8/256^(8-1-i)) rfl rfl (by omega) (by rw[z7r]) ?_
  refine Vint.u8 (n*8/256^(8-1-i)) rfl ?_
  refine zw ?_
  refine Vapp.mk' (j:=(B++(beB 8 (n*8)).take (i+1)).length) (zs:=(B++(beB 8 (n*8)).take (i+1)).map U8) (by simp only[maxLen];omega) (by show((B++(beB 8 (n*8)).take i).length+1)*1<=_;omega) (by rw[hb];simp only[aL,List.length_cons,List.length_nil];omega)
   (by rw[hb,<-List.append_assoc];exact(List.map_append (f:=U8) (l₁:=B++(beB 8 (n*8)).take i) (l₂:=[UInt8.ofNat (n*8/256^(8-1-i))])).symm) ?_
  refine zd (m:=7-((i+1:Nat):Int)) (by omega) (by omega) ?_
  exact⟨i+1,by omega,by omega,zad [(0,_)] rfl ⟨cr,rfl,cr,trivial⟩ ⟨zkt rfl,trivial⟩⟩
 ·simp only[zb]at h2
  obtain rfl:i=8:=by omega
  rw[List.take_of_length_le (by rw[zao];omega)]
  exact rfl
def smI3(M:List UInt8)(t:Nat):St:=⟨[(2, .own 0),(3, .own 1),(4, .r (bs (M.drop (64*t))))],[(0,some (.box ((List.replicate 32 (U8 0)).map .r))),(1,some (bH (runH t h0Tab M)))],2⟩
theorem z1b(M:List UInt8)(t:Nat):stOk [(0,0),(1,1)] (smI3 M t)=true:=rfl
set_option maxRecDepth 100000 in
set_option maxHeartbeats 4000000 in
theorem zd9b(b:List UInt8)(hb:b.length<=100000000000):aG 139 [bs b] (.r (.ag ((shaB b).map U8))):=by
 refine aT Tryz.func139 rfl ?_
 obtain⟨M,hM⟩: ∃M,b++zjd b.length=M:=⟨_,rfl⟩
 have hMl:M.length=b.length+(9+zdo b.length):=by rw[<-hM,aL,zt2]
 have hz:=zt5 b.length
 have hM64:=zaub b.length
 obtain⟨T,hT⟩: ∃T,M.length=64*T:=⟨M.length/64,by rw[hMl];omega⟩
 have htl:=zt2 b.length
 refine Vcode.scope2 mixed Tab_ok 0 (smI3 M) (λt=>t<=T) (λt=>T-t) rfl ?_ ?_
 ·refine ze z5p ?_
  refine⟨rfl,?_⟩
  refine ze (zvo b (by omega)) ?_
  refine ze (z98 b.length hb) ?_
  refine Vapp.mk' (j:=M.length) (zs:=M.map U8) (by simp only[maxLen];omega) (by show(b.length+(zjd b.length).length)*1<=_;omega) (by rw[<-hM,aL]) (by rw[<-hM,List.map_append]) ?_
  exact⟨rfl,0,by omega,zad [(0,0),(1,1)] (z1b M 0) ⟨rfl,rfl,cr,trivial⟩ ⟨zae (List.replicate 32 (U8 0)),(aD aZ),trivial⟩⟩
 ·intro t ht
  have hdl:(M.drop (64*t)).length=64*(T-t):=by rw[List.length_drop,hT];omega
  refine zh (λh=>zp ?_) (λh=>zq ?_)
  ·simp only[zb]at h
   have ht':t<T:=by omega
   have hl64:((M.drop (64*t)).take 64).length=64:=by rw[List.length_take,hdl];omega
   refine⟨by decide,by decide,by omega,64,((M.drop (64*t)).take 64).map U8,by decide,by rw[List.map_take];rfl,?_⟩
   have hst:=zwf
   have hr:=ztt t h0Tab M
   have hok:=zr7 t h0Tab M zbvb
   unfold smI3
   refine Vstep.actsBox (l:=vH (runH t h0Tab M)) (l':=vH (zq7 (runH t h0Tab M) ((M.drop (64*t)).take 64))) (args:=[.own 0, .r (bs ((M.drop (64*t)).take 64))]) 1 (λv=>zwf v (runH t h0Tab M) ((M.drop (64*t)).take 64) hok hl64) (zi rfl ⟨_,_,rfl,rfl,_,_,rfl,zf (by rw[bs,hl64]),rfl⟩) rfl ?_
   refine⟨by decide,by omega,by omega,64*(T-(t+1)),(M.drop (64*(t+1))).map U8,by omega,by rw[<-List.map_drop,List.drop_drop,List.take_of_length_le (by rw[List.length_map,List.length_drop];omega)];rfl,?_⟩
   exact⟨t+1,by omega,by omega,zad [(0,0),(1,1)] (z1b M (t+1)) ⟨rfl,rfl,zf (by rw[bs,List.length_drop,hT];congr 1;omega),trivial⟩ ⟨zae (List.replicate 32 (U8 0)),by rw[hr];exact⟨_,_,rfl,cr,_,_,rfl,cr,_,_,rfl,cr,_,_,rfl,cr,_,_,rfl,cr,_,_,rfl,cr,_,_,rfl,cr,_,_,rfl,cr,rfl⟩,trivial⟩⟩
  ·simp only[zb]at h
   obtain rfl:t=T:=by omega
   have he:shaB b=outH (runH t h0Tab M):=by unfold shaB;rw[hM,hT,Nat.mul_div_cancel_left _ (by decide)]
   have hok:=zr7 t h0Tab M zbvb
   rw[he]
   unfold smI3
   generalize runH t h0Tab M=s at*
   obtain⟨a,b,c,d,e,f,g,i⟩:=s
   refine za rfl rfl ?_
   refine Vloop.rounds 9 ?_
   repeat' ((conv=>whnf);first|refine Vrounds.step mixed Tab_ok ?_|refine zt rfl (zp ?_)|refine zu rfl (zq ?_)|refine zm (by decide) (by decide) rfl ?_|refine Vadr.any (by decide) ?_|refine Vint.any (k:= .i64) ?_|refine Vshr.n32 _ 24 _ rfl rfl (by decide) rfl ?_|refine Vshr.n32 _ 16 _ rfl rfl (by decide) rfl ?_|refine Vshr.n32 _ 8 _ rfl rfl (by decide) rfl ?_|refine Vint.u8 _ rfl ?_|refine za rfl rfl ?_)
   refine zf (congrArg RV.ag ?_)
   simp[outH,H8.list,beB]
theorem zc1b{a w:World}(h:Ext a w)(o:Obj):Ext a (w.alloc o):=Below.alloc h h.size o
theorem zf5b{a w:World}(h:Ext a w):Ext a w.drew:=Below.drew h
theorem zzt{P:Program}{ops:Array Oper}{rest:List Oper}{o:Oper}{a:Act}{w:World}{Q:Exit->Act->World->Prop}(hgd:o.guard=none)(s x:Operand)(t u:TypeId)
  (ho:o.op= .call {callee:= .builtin .append,args:= #[s,x],argTypes:= #[t,u]}) {v y v':Value} {w':World} (hs:a.eval s=v) (hx:a.eval x=y)
  (hr:(Builtin.append_ #[t,u] o.type #[v,y]).run P w= .ok v' w') (h:wpList P ops Q rest (a.put o.dst v') w'):wpList P ops Q (o::rest) a w:=by
 refine wpList_plain hgd λK hK=>?_
 unfold Oper.wp execOp
 simp only[ho,resolve,invoke,builtin,Sem.run_bind,Sem.run_pure,Result.andThen_ok,List.map_toArray,List.map_cons,List.map_nil,hs,hx,hr]
 exact hK _ _ h
structure Stop (p:Prop):Prop where
 out:p
theorem Stop.on{p:Prop}(h:Stop p):p:=h.out
set_option maxRecDepth 100000 in
theorem z9h(n:Nat)(w:World)(k:Kp)(hn:n<=1000000000000):
  Calls aP 140 #[.slice none 0 0, .int .i64 (n:Int)] w λe w'=>∃v,e= .returned v/\Ext w w'/\∃k':Kp,(∀b,b<w.heap.size->k' b=k b)/\(bch []).at_ w.heap.size w' k' v:=by
 rcases Nat.eq_zero_or_pos n with rfl |hpos
 ·go_enter Tryz.func140,Tryz.ntmps140
  go_wp2_with fail
  go_ret
  exact⟨_,rfl,Ext.refl _,k,λ_ _=>rfl,none,⟨rfl, .inl ⟨rfl, .inl ⟨rfl,none,rfl⟩⟩⟩,λb h=>by cases h⟩
 ·have hi0:(Tryz.prog.info? 5).map (λi=>(i.zero,i.size,i.bytes))=some (some (.int .u8 0),1,1):=by kernel_rfl
  obtain⟨i0,hi,hz⟩:=Option.map_eq_some_iff.1 hi0
  simp only[Prod.mk.injEq]at hz
  obtain⟨hz0,hz1,hz2⟩:=hz
  have hr:=λty=>Lib.run_append_grow_zeros w 22 3 ty 5 i0 (.int .u8 0) .i64 .i64 Tryz.underlying22 Tryz.underlying3 hi hz0 none 0 0 [] (run_firstCells_none w.drew i0.size 0 0 0) n hpos (by rw[hz1];decide) (by omega) (by omega) (by rw[hz2];omega) (growslice_fits (by omega) (by rw[hz2];omega))
  simp only[Nat.zero_add]at hr
  have hge:=grownCap_ge w n 0 5
  have hle:=grownCap_le_maxLen w n 0 5 (by unfold maxLen;omega)
  have hcs:((([]:List Value).toArray++Builtin.zeroCells (Value.int .u8 0).cells n++Builtin.zeroCells (Value.int .u8 0).cells (grownCap w n 0 5-n))).size=grownCap w n 0 5:=by
   simp only[Array.size_append,List.size_toArray,size_zeroCells,show(Value.int IntKind.u8 0).cells.size=1 from rfl]
   simp only[List.length_nil];omega
  generalize grownCap w n 0 5=G at*
  generalize ([]:List Value).toArray++Builtin.zeroCells (Value.int .u8 0).cells n++Builtin.zeroCells (Value.int .u8 0).cells (G-n)=cs at*
  unfold maxLen at hle
  go_enter Tryz.func140,Tryz.ntmps140
  go_wp2_with (first|(at_builtin;refine Stop.on ?_))
  refine Stop.mk (zzt rfl (.tmp 20) (.tmp 21) _ _ rfl rfl rfl (hr _) ?_)
  clear hr
  go_wp2_with fail
  go_ret
  exact⟨_,rfl,zc1b (zf5b (Ext.refl _)) _,kset k w.heap.size 0,λb hb=>zb6 b hb,some w.heap.size,⟨rfl, .inr ⟨w.heap.size,G,cs,rfl,rfl,heap_alloc_new w.drew _,Nat.zero_le _,by unfold maxLen;omega,by simpa using Nat.le_of_eq hcs.symm,by simp[zbv],by simp[RV.listAt]⟩⟩,λb hb=>by cases hb;exact Nat.le_refl _⟩
theorem zglb(n:Nat)(hn:n<=1000000000000):aG 140 [.x (.slice none 0 0),I n] (bch []):=
 ⟨zdu Tryz.func140 rfl (by kernel_rfl),λw k vs hp=>by
  simp only[RV.partsAt,RV.at_]at hp
  obtain⟨_,_,rfl,rfl,_,_,rfl,rfl,rfl⟩:=hp
  exact z9h n w k hn⟩
def bss(ls:List (List UInt8)):RV:= .sl 1 ls.length (ls.map bs)
theorem zsm(ls:List (List UInt8)){k:Nat}(hk:k<ls.length):(ls.take (k+1)).flatMap id=(ls.take k).flatMap id++ls[k]:=by
 rw[List.take_add_one,List.flatMap_append,List.getElem?_eq_getElem hk];simp
theorem zz3(ls:List (List UInt8))(k:Nat):((ls.take k).flatMap id).length<=(ls.flatMap id).length:=by
 have h:ls.flatMap id=(ls.take k).flatMap id++(ls.drop k).flatMap id:=by rw[<-List.flatMap_append,List.take_append_drop]
 rw[h,aL];omega
theorem zf8(ls:List (List UInt8))(hl:(ls.flatMap id).length<=1000000000000):aG 64 [bss ls] (bch (ls.flatMap id)):=by
 refine zsw (zdu Tryz.func64 rfl (by kernel_rfl)) λhml=>?_
 refine aT Tryz.func64 rfl ?_
 refine zy (λj:Nat=>⟨[(0, .r (bss ls)),(3, .r (I ((ls.take j).flatMap id).length)),(9, .r (bss ls)),(10, .r (I ls.length)),(11, .r (I j))],[],0⟩) (λj=>j<=ls.length) (λj=>ls.length-j) 0 (by omega) (zad [] rfl ⟨cr,cr,cr,cr,cr,trivial⟩ trivial) ?_
 intro j hj
 refine zh (λh=>zp ?_) (λh=>zq ?_)
 ·simp only[zb]at h
  have hj':j<ls.length:=by omega
  have e:=zsm ls hj'
  have hb:=zz3 ls (j+1)
  have hq:((ls.take (j+1)).flatMap id).length=((ls.take j).flatMap id).length+ls[j].length:=by rw[e,aL]
  refine zm (by omega) (by omega) (zbh rfl hj') (zg rfl ?_)
  refine zd (m:=(((ls.take (j+1)).flatMap id).length:Int)) (by omega) (by omega) ?_
  refine zu (by simp only[zb];omega) (zq ?_)
  refine zd (m:=((j+1:Nat):Int)) (by omega) (by omega) ?_
  exact⟨j+1,by omega,by omega,zad [] rfl ⟨cr,cr,cr,cr,cr,trivial⟩ trivial⟩
 simp only[zb]at h
 obtain rfl:j=ls.length:=by omega
 rw[List.take_length]
 refine ze (zglb _ hl) ?_
 refine zy (λj:Nat=>⟨[(6, .own 0),(25, .r (bss ls)),(26, .r (I ls.length)),(27, .r (I j))],[(0,some (.ch 5 1 ((ls.take j).flatMap id).length (((ls.take j).flatMap id).map U8) true))],1⟩) (λj=>j<=ls.length) (λj=>ls.length-j) 0 (by omega) (zad [(0,0)] rfl ⟨rfl,cr,cr,cr,trivial⟩ ⟨⟨rfl,rfl,rfl,rfl,zn _⟩,trivial⟩) ?_
 intro j hj
 refine zh (λh=>zp ?_) (λh=>zq ?_)
 ·simp only[zb]at h
  have hj':j<ls.length:=by omega
  have e:=zsm ls hj'
  have hb:=zz3 ls (j+1)
  have hq:((ls.take (j+1)).flatMap id).length=((ls.take j).flatMap id).length+ls[j].length:=by rw[e,aL]
  refine zm (by omega) (by omega) (zbh rfl hj') (zg rfl ?_)
  refine Vapp.mk' (j:=((ls.take (j+1)).flatMap id).length) (zs:=((ls.take (j+1)).flatMap id).map U8) (by simp only[maxLen];omega) (by show(((ls.take j).flatMap id).length+ls[j].length)*1<=_;omega) hq.symm (by rw[e,List.map_append]) ?_
  refine zd (m:=((j+1:Nat):Int)) (by omega) (by omega) ?_
  exact⟨j+1,by omega,by omega,zad [(0,_)] rfl ⟨rfl,cr,cr,cr,trivial⟩ ⟨zkt rfl,trivial⟩⟩
 ·simp only[zb]at h
  obtain rfl:j=ls.length:=by omega
  rw[List.take_length]
  exact rfl
set_option maxRecDepth 100000 in
theorem znn(ls:List (List UInt8))(hl:(ls.flatMap id).length<=100000000000):aG 63 [bss ls] (bch (shaB (ls.flatMap id))):=by
 refine aT Tryz.func63 rfl ?_
 have hsl:=zdz (ls.flatMap id)
 have h1:=zd9b (ls.flatMap id) hl
 generalize shaB (ls.flatMap id)=D at*
 refine ze (zf8 ls (by omega)) ?_
 refine ze h1 ?_
 (conv=>whnf)
 generalize hq:(za7 _&&_)=q
 obtain rfl:=hq.symm.trans (zg9 (l:=D.map U8) 32 (by rw[List.length_map,hsl]) rfl)
 clear hq
 refine zdw (by rw[List.length_map,List.length_map,hsl];rfl) ?_
 refine Vstep.boxCh (n:=32) (vs:=D.map U8) Tab_ok rfl rfl rfl rfl rfl rfl rfl (by rw[List.length_map,hsl]) (by decide) (by decide) ?_
 unfold bch
 rw[hsl]
 exact rfl
def zl:Leaf:=⟨[],[],[],0,[],[]⟩
def z4e(l:List Stub)(x:Int):List UInt8:=((l.find? λs=>decide (s.at_=x)).map (·.hash)).getD []
theorem zho:Tryz.prog.underlying 3=some (.int .i64):=by kernel_rfl
theorem zki:Tryz.prog.underlying 330=some (.map 3 40):=by kernel_rfl
theorem zpo:Tryz.prog.underlying 331=some (.map 3 22):=by kernel_rfl
def zbt(l:List Spot):List (Int×RV):=l.map λs=>(s.at_,RV.ag s.node.c)
def zby(l:List Stub):List (Int×RV):=l.map λs=>(s.at_,bs s.hash)
def idxF(q:Int->Bool):Nat->List Int->Int
 |_,[]=> -1
 |j,x::r=>if q x then(j:Int)else idxF q (j+1) r
theorem z0n(q:Int->Bool): ∀(l:List Int) (j:Nat), -1<=idxF q j l/\idxF q j l< (j+l.length:Nat)/\(0<=idxF q j l↔l.any q=true)
 |[],j=>by simp[idxF];omega
 |x::r,j=>by
  have ih:=z0n q r (j+1)
  rw[idxF,List.any_cons,List.length_cons]
  by_cases hq:q x=true
  ·rw[if_pos hq,hq]
   exact⟨by omega,by omega,by simp⟩
  ·rw[if_neg hq,Bool.eq_false_iff.2 hq,Bool.false_or]
   exact⟨ih.1,by omega,ih.2.2⟩
theorem zyz(l:List Int)(D:Int->Prop)(q:Int->Bool)(hl:l.length<=1000000000)(hD: ∀x∈l,D x):aG 292 [is l, .s (cloS aP I D q)] (.r (I (idxF q 0 l))):=by
 refine aT Tryz.func292 rfl ?_
 refine zy (λj:Nat=>{F:=[(0, .r (is l)),(1, .r (.s (cloS aP I D q))),(7, .r (I l.length)),(8, .r (I j))],O:=[],nx:=0}) (λj=>j<=l.length/\idxF q 0 l=idxF q j (l.drop j)) (λj=>l.length-j) 0 ⟨by omega,by simp⟩ (zad [] rfl ⟨cr,cr,cr,cr,trivial⟩ trivial) ?_
 rintro j ⟨hj,he⟩
 refine zh (λh=>zp ?_) (λh=>zq ?_)
 ·simp only[zb]at h
  have hj':j<l.length:=by omega
  rw[List.drop_eq_getElem_cons hj']at he
  simp only[idxF]at he
  refine zm (by omega) (by omega) (zbh rfl hj') (zg rfl ?_)
  refine Vstep.cloB l[j] rfl rfl rfl rfl (cr) (hD _ (List.getElem_mem hj')) (λhq=>zp ?_) (λhq=>zq ?_)
  ·rw[hq]at he
   exact zf (by rw[he];simp)
  ·rw[hq]at he
   refine zd (m:=((j+1:Nat):Int)) (by omega) (by omega) ?_
   exact⟨j+1,⟨hj',by rw[he];simp⟩,by omega,zad [] rfl ⟨cr,cr,cr,cr,trivial⟩ trivial⟩
 ·simp only[zb]at h
  rw[List.drop_eq_nil_of_le (by omega)]at he
  exact zf (by rw[he];rfl)
theorem zju(l:List Int)(D:Int->Prop)(q:Int->Bool)(hl:l.length<=1000000000)(hD: ∀x∈l,D x):aG 503 [is l, .s (cloS aP I D q)] (.r (.b (l.any q))):=by
 refine aT Tryz.func503 rfl ?_
 refine ze (zyz l D q hl hD) ?_
 exact Vcmp.mk' rfl (zf (congrArg RV.b (by rw[Bool.eq_iff_iff,decide_eq_true_eq];exact(z0n q l 0).2.2)))
def zi0(u:Int):Prop:=0<=u/\u<65536
def zfz(x:Int):Nat:=if x.tmod 2=1 then 1 else 2
def zen(x:Int)(n:Node):Bool:=n.right&&(decide (n.kind.toNat≠zfz x)&&n.par.late.all λu=>zem (2*u) x)
theorem zcqb(l:List Int)(q:Int->Bool):(!l.any λu=> !q u)=l.all q:=by
 induction l with
 |nil=>rfl
 |cons x r ih=>simp[List.any_cons,List.all_cons,Bool.not_or,ih]
theorem Node.right_late{n:Node}(h:n.right=true): ∀u∈n.par.late,zi0 u:=by
 unfold Node.right at h
 split at h
 ·simp only[Bool.and_eq_true]at h
  have:=h.2
  simp only[Par.none,decide_eq_true_eq,List.length_eq_zero_iff]at this
  rw[this.2.2];simp
 ·split at h
  ·simp only[Bool.and_eq_true]at h
   have:=h.2
   simp only[Par.none,decide_eq_true_eq,List.length_eq_zero_iff]at this
   rw[this.2.2];simp
  ·split at h
   ·simp only[Bool.and_eq_true]at h
    exactλu hu=>Par.right_bd h.2 u hu
   ·cases h
theorem z8s:(Tryz.prog.info? 40).bind (·.zero)=some (.agg #[.int .u8 0, .slice none 0 0, .slice none 0 0, .slice none 0 0, .int .u8 0, .slice none 0 0, .slice none 0 0, .slice none 0 0, .slice none 0 0, .slice none 0 0]):=by kernel_rfl
theorem zfxb:(Tryz.prog.info? 22).bind (·.zero)=some (.slice none 0 0):=by kernel_rfl
theorem zcnb(w:World)(k:Kp):(RV.ag zc).at_ w k (.agg #[.int .u8 0, .slice none 0 0, .slice none 0 0, .slice none 0 0, .int .u8 0, .slice none 0 0, .slice none 0 0, .slice none 0 0, .slice none 0 0, .slice none 0 0]):=by
 simp only[RV.at_]
 refine⟨_,rfl,?_⟩
 exact zhf [.int .u8 0, .slice none 0 0, .slice none 0 0, .slice none 0 0, .int .u8 0, .slice none 0 0, .slice none 0 0, .slice none 0 0, .slice none 0 0, .slice none 0 0] (by simp[Value.oneCell'])
def zgu(l:List Stub)(x:Int):Option (List UInt8):=(l.find? λs=>decide (s.at_=x)).map (·.hash)
theorem zfv: ∀(l:List Spot) (x:Int),zb8 (zbt l) x=(zbi l x).map λn=> .ag n.c
 |[],x=>rfl
 |s::l,x=>by
  have ih:=zfv l x
  simp only[zbt,zbi,List.map_cons,zb8,List.find?_cons]at*
  by_cases h:s.at_=x
  ·simp[h]
  ·simp[h,ih]
theorem zld: ∀(l:List Stub) (x:Int),zb8 (zby l) x=(zgu l x).map bs
 |[],x=>rfl
 |s::l,x=>by
  have ih:=zld l x
  simp only[zby,zgu,List.map_cons,zb8,List.find?_cons]at*
  by_cases h:s.at_=x
  ·simp[h]
  ·simp[h,ih]
section
variable {S:St} {o:Oper}
theorem Vstep.node2{x y:Operand}{n:Int}{l:List Spot}{K:St->Prop}(hop:o.op= .lookup 330 x y true)(hx:opr S x=some (.r (.s (mapS (zbt l)))))(hy:opr S y=some (.r (.i .i64 n)))
  (h1: ∀m,zbi l n=some m->newK S o.dst (.r (.tu [.ag m.c, .b true])) none K) (h0:zbi l n=none->newK S o.dst (.r (.tu [.ag zc, .b false])) none K):Vstep aP S o K:=by
 refine Vstep.look2 (.ag zc) hop hx hy zki zho z8s zcnb (λr hr=>?_) (λhr=>?_)
 ·rw[zfv,Option.map_eq_some_iff]at hr
  obtain⟨m,hm,rfl⟩:=hr
  exact h1 m hm
 ·rw[zfv,Option.map_eq_none_iff]at hr
  exact h0 hr
theorem Vstep.node1{x y:Operand}{n:Int}{l:List Spot}{K:St->Prop}(hop:o.op= .lookup 330 x y false)(hx:opr S x=some (.r (.s (mapS (zbt l)))))(hy:opr S y=some (.r (.i .i64 n)))
  (h1: ∀m,zbi l n=some m->newK S o.dst (.r (.ag m.c)) none K) (h0:zbi l n=none->newK S o.dst (.r (.ag zc)) none K):Vstep aP S o K:=by
 refine Vstep.look1 (.ag zc) hop hx hy zki zho z8s zcnb (λr hr=>?_) (λhr=>?_)
 ·rw[zfv,Option.map_eq_some_iff]at hr
  obtain⟨m,hm,rfl⟩:=hr
  exact h1 m hm
 ·rw[zfv,Option.map_eq_none_iff]at hr
  exact h0 hr
theorem Vstep.hash1{x y:Operand}{n:Int}{l:List Stub}{K:St->Prop}(hop:o.op= .lookup 331 x y false)(hx:opr S x=some (.r (.s (mapS (zby l)))))(hy:opr S y=some (.r (.i .i64 n)))
  (h1: ∀m,zgu l n=some m->newK S o.dst (.r (bs m)) none K) (h0:zgu l n=none->newK S o.dst (.r (.x (.slice none 0 0))) none K):Vstep aP S o K:=by
 refine Vstep.look1 (.x (.slice none 0 0)) hop hx hy zpo zho zfxb (λ_ _=>by simp[RV.at_]) (λr hr=>?_) (λhr=>?_)
 ·rw[zld,Option.map_eq_some_iff]at hr
  obtain⟨m,hm,rfl⟩:=hr
  exact h1 m hm
 ·rw[zld,Option.map_eq_none_iff]at hr
  exact h0 hr
end
theorem z43{l:List Spot}{x:Int}{n:Node}(h:zbi l x=some n): ∃s∈l,s.at_=x/\s.node=n:=by
 simp only[zbi,Option.map_eq_some_iff]at h
 obtain⟨s,hs,rfl⟩:=h
 exact⟨s,List.mem_of_find?_eq_some hs,by simpa using List.find?_some hs,rfl⟩
theorem Vsem.field{P:Program}{T:TT}{S:St}{o:Oper}(hT:TOk P T){t:TypeId}{x:Operand}{i off:Nat}{ft:TypeId}{ti tf:TI}{fs:List (Nat×TypeId)}{cells:List RV}{rv:RV}{K:TF->Option Ow->Prop}(hop:o.op= .field t x i)(hti:tget T t=some ti)(hk:ti.k= .struct fs)(hfs:lget fs i=some (off,ft))(htf:tget T ft=some tf)(hag:tf.agg=false)
  (hx:opr S x=some (.r (.ag cells))) (hc:lget cells off=some rv) (hK:K (.r rv) none):Vsem P S o K:=by
 refine⟨_,_,λB N a w k Q ⟨g,hs⟩ hd=>?_,hK⟩
 have hv:=(zaf hs hx).2
 simp only[TF.at_,RV.at_]at hv
 obtain⟨us,e,hl⟩:=hv
 rw[zas]at hc hfs
 have hul:=(RV.listAt_iff _ _).1 hl
 have hlt:off<us.toList.length:=by rw[hul.1];exact(List.getElem?_eq_some_iff.1 hc).1
 have hu:us.toList[off]?=some us.toList[off]:=List.getElem?_eq_getElem hlt
 have h1:=hul.2 off rv _ hc hu
 obtain⟨q,hq⟩:=hT.get hti
 obtain⟨d,hdd,hko,_⟩:=q.desc
 rw[hq]at hdd
 rw[hk]at hko
 obtain⟨fields,rfl,hfl⟩:=hko
 obtain⟨qf,hqf⟩:=hT.get htf
 obtain⟨df,hdf,_,hrow⟩:=qf.desc
 rw[hqf]at hdf
 rw[hag]at hrow
 have hagg:(isAgg ft).run P w= .ok false w:=by
  unfold isAgg
  rw[Sem.run_bind,run_underlying hdf w]
  cases df<;>simp_all [TypeDesc.isRow]
 rw[<-hfl,List.getElem?_map]at hfs
 cases hfi:fields.toList[i]? with
 |none=>simp[hfi]at hfs
 |some fd=>
  simp only[hfi,Option.map_some,Option.some.injEq,Prod.mk.injEq]at hfs
  obtain⟨rfl,rfl⟩:=hfs
  have hfa:fields[i]?=some fd:=by simpa using hfi
  have hua:us[fd.offset]?=some us.toList[fd.offset]:=by rw[<-Array.getElem?_toList];exact hu
  refine zat (v:=us.toList[fd.offset]) (w':=w) ?_ ⟨k,g,hs.put hd trivial h1.2⟩
  simp[execOp,hop,Instr.field,run_underlying hdd w,hfa,e,part,hagg,hua,asAgg]
theorem zsf{α:Type}{p:α->Bool}{l:List α}{x:α}(hx:x∈l)(h:p x=false):l.all p=false:=by
 rw[List.all_eq_false];exact⟨x,hx,by simp[h]⟩
def zj5(i:Int)(n:Node):List UInt8:=if i<0\/65536<=i then[]else if n.right=false\/n.kind.toNat=2 then[]else zmq i n
def zwy(i:Int)(n:Node):Int:=if i<0\/65536<=i then 1 else if n.right=false\/n.kind.toNat=2 then 3 else 0
theorem zy1(i:Int)(n:Node)(hn:n.fit):aG 314 [I i, .ag n.c] (.r (.tu [bs (zj5 i n), .i .u8 (zwy i n)])):=by
 have:=z19 i n hn
 unfold zj5 zwy
 by_cases h1:i<0\/65536<=i
 ·rw[if_pos h1]at this;rw[if_pos h1,if_pos h1];exact this
 ·rw[if_neg h1]at this;rw[if_neg h1,if_neg h1]
  by_cases h2:n.right=false\/n.kind.toNat=2
  ·rw[if_pos h2]at this;rw[if_pos h2,if_pos h2];exact this
  ·rw[if_neg h2]at this;rw[if_neg h2,if_neg h2];exact this
theorem z61(i:Int)(n:Node)(hn:n.fit):(zj5 i n).length<=50000000000:=by
 have:=zw9 n hn
 unfold zj5 zmq
 split
 ·simp
 ·split
  ·simp
  ·simp[zao];omega
theorem ztv{l:List Stub}{x:Int}{m:List UInt8}(h:zgu l x=some m):z4e l x=m/\∃s∈l,s.at_=x/\s.hash=m:=by
 simp only[zgu]at h
 refine⟨by simp[z4e,h],?_⟩
 rw[Option.map_eq_some_iff]at h
 obtain⟨s,hs,rfl⟩:=h
 exact⟨s,List.mem_of_find?_eq_some hs,by simpa using List.find?_some hs,rfl⟩
theorem z13{α β:Type}{f:β->α->β}{b:β}{l:List α}{j:Nat}(hj:j<l.length):(l.take (j+1)).foldl f b=f ((l.take j).foldl f b) l[j]:=by
 rw[List.take_add_one,List.getElem?_eq_getElem hj,List.foldl_append];rfl
def us(l:List Nat):RV:= .sl 1 l.length (l.map U64)
def inR(h k:Nat)(x:Int):Prop:=((k*2^(h+1):Nat):Int)<=x/\x+2<=((k*2^(h+1)+2^(h+1):Nat):Int)
abbrev zkx(O:List Spot)(z:Int):Bool:=(zbi O z).isSome
theorem zb0{S:St}(pub:Bool)(id i:Nat)(e:TypeId)(sz:Nat){cells:List TF}(ho:oget S.O id=some (.box cells))(hc:cells[i]?=some (.r (.x (.slice none 0 0)))):
  Sub S {F:=S.F,O:=(id,some (.box (cells.set i (.own S.nx))))::(S.nx,some (.ch e sz 0 [] pub))::S.O,nx:=S.nx+1}:=by
 rintro B N a w k ⟨g,hs⟩
 have h:=hs.adopt (dst:=none) (λd hd=>by cases hd) (o:= .ch e sz 0 [] pub) (vb:=(.slice none 0 0,none)) trivial ⟨by simp, .inl ⟨rfl, .inl ⟨rfl,none,rfl⟩⟩⟩ (λb hb=>by cases hb) (λi o' b _ hb=>by cases hb)
 have e0:a.put none (.slice none 0 0)=a:=rfl
 simp only[St.mk_]at h
 rw[e0]at h
 obtain⟨p1,p2,p3,p4⟩:=hs.owns id _ ho
 have hid:oget ((S.nx,some (Ow.ch e sz 0 [] pub))::S.O) id=some (.box cells):=by
  simp only[oget]
  split
  ·rename_i hb;have:=Nat.eq_of_beq_eq_true hb;omega
  ·exact ho
 have hg:(g.set S.nx ((Value.slice none 0 0),none)) S.nx=((Value.slice none 0 0),none):=by rw[Env.set_eq]
 have old: ∀x ox,oget ((id,some (Ow.box (cells.set i (.own S.nx))))::(S.nx,some (Ow.ch e sz 0 [] pub))::S.O) x=some ox->∃ox',oget ((S.nx,some (Ow.ch e sz 0 [] pub))::S.O) x=some ox':=λx ox hx=>by
  rcases zar hx with⟨rfl,_⟩ |⟨_,h'⟩
  ·exact⟨_,hid⟩
  ·exact⟨_,h'⟩
 refine⟨k,_,h.size,h.defers,h.keep,h.kk,h.facts,λj o' ho'=>?_,λx y ox oy b hx hy hne hb=>?_⟩
 ·rcases zar ho' with⟨rfl,e'⟩ |⟨hne,h'⟩
  ·cases e'
   obtain⟨q1,q2,q3,q4⟩:=h.owns _ _ hid
   refine⟨q1,λf hf=>?_,?_,q4⟩
   ·rcases List.mem_or_eq_of_mem_set hf with hf |rfl
    ·exact q2 f hf
    ·exact Nat.lt_succ_self _
   ·obtain⟨b,cur,t,e1,e2,e3,e4,e5⟩:=q3
    refine⟨b,cur,t,e1,e2,e3,by simpa using e4,λj f u hf hu=>?_⟩
    rw[List.getElem?_set]at hf
    split at hf
    ·rename_i hij
     subst hij
     split at hf
     ·cases hf
      obtain⟨u1,u2⟩:=e5 i _ u hc hu
      simp only[TF.at_,RV.at_]at u2
      exact⟨u1,by simp only[TF.at_];rw[hg];exact u2⟩
     ·cases hf
    ·exact e5 j f u hf hu
  ·exact h.owns j o' h'
 ·obtain⟨ox',hx'⟩:=old x ox hx
  obtain⟨oy',hy'⟩:=old y oy hy
  exact h.apart x y ox' oy' b hx' hy' hne hb
theorem cvc{ρ:List (Nat×Nat)}{S:St}{f g:TF}{fs gs:List TF}(h:cvTF ρ S f g)(r:zfh ρ S fs gs):zfh ρ S (f::fs) (g::gs):=⟨_,_,rfl,h,r⟩
abbrev zcm(L:List Spot):Ow:= .ch 241 11 L.length (L.flatMap Spot.c) true
abbrev zcn(L:List Stub):Ow:= .ch 432 2 L.length (L.flatMap Stub.c) true
abbrev zero4:List RV:=[I 0,I 0, .x (.slice none 0 0), .x (.slice none 0 0)]
theorem zep(n:Node)(hn:n.fit)(hcl:aG 128 [.ag n.leaf.c] (.r (.ag n.leaf.c))):aG 196 [.ag n.c] (.r (.ag n.c)):=by
 refine aT Tryz.func196 rfl ?_
 obtain⟨h1,h2⟩:=hn
 refine za rfl rfl ?_
 refine ze hcl ?_
 refine aV ?_
 refine ze (zbu n.par.box (by have:=h2.1;omega)) ?_
 refine ze (zbu n.par.hash (by have:=h2.2.1;omega)) ?_
 refine ze (z87 n.par.late (by have:=h2.2.2.1;omega)) ?_
 refine za rfl rfl ?_
 refine za rfl rfl ?_
 exact cr
section
variable {P:Program} {T:TT} {B:Bs} {N:Nat} {S:St} {a:Act} {w:World} {k:Kp} {g:Env} {o:Oper}
theorem Vstep.sto{t:TypeId}{x y:Operand}{K:St->Prop}(hT:TOk P T)(hop:o.op= .store t x y)(h:Sx.sto T S o.dst t x y K):Vstep P S o K:=
 ⟨{S':St//K S'},λi=>i.1,λB N a w k Q ⟨g,hs⟩ _=>Oper.wp_mono (λa' w' ⟨S',k',hK,hs'⟩=>⟨⟨S',hK⟩,k',hs'⟩) (znd (Q:=Q) hT hs hop h),λi=>i.2⟩
theorem Vstep.nmB(id t:Nat){cells:List TF}(ho:oget S.O id=some (.box cells)){K:St->Prop}(h: ∀b:Nat,Vstep P ⟨(t, .nm id (.pointer (some ⟨b,0,none⟩)))::S.F,S.O,S.nx⟩ o K):Vstep P S o K:=by
 refine⟨Σ b:Nat,(h b).out.choose,λx=>(h x.1).out.choose_spec.choose x.2,λB N a w k Q hs0 hd=>?_,λx=>(h x.1).out.choose_spec.choose_spec.2 x.2⟩
 obtain⟨g,hs⟩:=hs0
 obtain⟨hid,_,hat,_⟩:=hs.owns id _ ho
 simp only[Ow.at_]at hat
 obtain⟨b,cur,ty,e,_⟩:=hat
 have hs1:Sat B N ⟨(t, .nm id (.pointer (some ⟨b,0,none⟩)))::S.F,S.O,S.nx⟩ a w k:=by
  refine⟨g,hs.size,hs.defers,hs.keep,hs.kk,λt' f hf=>?_,hs.owns,hs.apart⟩
  rcases zax hf with⟨rfl,rfl⟩ |⟨_,hf⟩
  ·exact⟨hid,by simp only[TF.at_];rw[e]⟩
  ·exact hs.facts t' f hf
 refine Oper.wp_mono ?_ ((h b).out.choose_spec.choose_spec.1 B N a w k Q hs1 hd)
 rintro a' w' ⟨i,k',hs'⟩
 exact⟨⟨b,i⟩,k',hs'⟩
theorem zpm{id t tn b off:Nat}{cells:List TF}(ho:oget S.O id=some (.box cells))(hn:fget S.F tn=some (.nm id (.pointer (some ⟨b,0,none⟩))))(ht:fget S.F t=some (.r (.x (.pointer (some ⟨b,off,none⟩))))):Sub S ⟨(t, .adr id off)::S.F,S.O,S.nx⟩:=by
 intro B N a w k ⟨g,hs⟩
 obtain⟨hid,_,hat,_⟩:=hs.owns id _ ho
 simp only[Ow.at_]at hat
 obtain⟨b',cur,ty,e,_⟩:=hat
 have h1:=(hs.facts tn _ hn).2
 simp only[TF.at_]at h1
 rw[e]at h1
 simp only[Value.pointer.injEq,Option.some.injEq,Addr.mk.injEq,and_true]at h1
 have h2:=(hs.facts t _ ht).2
 simp only[TF.at_,RV.at_]at h2
 refine⟨k,g,hs.size,hs.defers,hs.keep,hs.kk,λt' f hf=>?_,hs.owns,hs.apart⟩
 rcases zax hf with⟨rfl,rfl⟩ |⟨_,hf⟩
 ·exact⟨hid,by simp only[TF.at_];exact⟨b,by rw[e,h1],h2⟩⟩
 ·exact hs.facts t' f hf
theorem Vstep.callX{x:Operand}{ts:Array TypeId}{f:FuncId}{id tn b:Nat}{r:RV}{K:St->Prop}(hop:o.op= .call {callee:= .value (.func f),args:= #[x],argTypes:=ts}) (hx:opr S x=some (.own id)) (hn:fget S.F tn=some (.nm id (.pointer (some ⟨b,0,none⟩)))) (hg:zab P f [.x (.pointer (some ⟨b,0,none⟩))] (.r r)) (hK:newK S o.dst (.r r) none K):Vstep P S o K:=by
 rw[zav]at hK
 refine Vstep.one (λB N a w k Q ⟨g,hs⟩ hd=>?_) hK
 have h1:=(zaf hs hx).2
 have h2:=(hs.facts tn _ hn).2
 simp only[TF.at_]at h1 h2
 rw[h2]at h1
 have:=zha (o:=o) (Q:=Q) (K:=λf ow=>f= .r r/\ow=none) hs (us:=[a.eval x]) (vs:=[.x (.pointer (some ⟨b,0,none⟩))]) (by simp only[RV.partsAt,RV.at_];exact⟨_,_,rfl,h1,rfl⟩) (zn _) hg (by simp[execOp,hop,resolve,Act.eval,Deferred.ofValue,invoke]) ⟨rfl,rfl⟩
 refine Oper.wp_mono ?_ this
 rintro a' w' ⟨f',ow,u,k',⟨rfl,rfl⟩,rfl,hl⟩
 exact⟨k',hl.sat hs hd⟩
theorem Vcode.nmB(id t:Nat){cells:List TF}(ho:oget S.O id=some (.box cells)){c:Code}{Q:Exit->St->Prop}(h: ∀b:Nat,Vcode P c ⟨(t, .nm id (.pointer (some ⟨b,0,none⟩)))::S.F,S.O,S.nx⟩ Q):Vcode P c S Q:=by
 refine⟨λB N a w k Q' ⟨g,hs⟩ hd hQ=>?_⟩
 obtain⟨hid,_,hat,_⟩:=hs.owns id _ ho
 simp only[Ow.at_]at hat
 obtain⟨b,cur,ty,e,_⟩:=hat
 refine(h b).out B N a w k Q' ⟨g,hs.size,hs.defers,hs.keep,hs.kk,λt' f hf=>?_,hs.owns,hs.apart⟩ hd hQ
 rcases zax hf with⟨rfl,rfl⟩ |⟨_,hf⟩
 ·exact⟨hid,by simp only[TF.at_];rw[e]⟩
 ·exact hs.facts t' f hf
theorem Vcode.subp(hm:P.follows .mixedOrders=true)(hT:TOk P T){c:Code}{S':St}{Q:Exit->St->Prop}(hs:Sub S S')(h:vcg P T c S' Q):Vcode P c S Q:=
 ⟨λB N a w k Q' hh hd hQ=>by obtain⟨k',h'⟩:=hs B N a w k hh;exact zay hm hT c S' Q h B N a w k' Q' h' hd hQ⟩
theorem zfmb{id t tn b off:Nat}{cells:List TF}(ho:oget S.O id=some (.box cells))(hn:fget S.F tn=some (.nm id (.pointer (some ⟨b,0,none⟩))))(ht:fget S.F t=some (.adr id off)):Sub S ⟨(t, .r (.x (.pointer (some ⟨b,off,none⟩))))::S.F,S.O,S.nx⟩:=by
 intro B N a w k ⟨g,hs⟩
 obtain⟨hid,_,hat,_⟩:=hs.owns id _ ho
 simp only[Ow.at_]at hat
 obtain⟨b',cur,ty,e,_⟩:=hat
 have h1:=(hs.facts tn _ hn).2
 simp only[TF.at_]at h1
 rw[e]at h1
 simp only[Value.pointer.injEq,Option.some.injEq,Addr.mk.injEq,and_true]at h1
 have h2:=(hs.facts t _ ht).2
 simp only[TF.at_]at h2
 obtain⟨b2,e2,h2⟩:=h2
 rw[e]at e2
 simp only[Option.some.injEq]at e2
 refine⟨k,g,hs.size,hs.defers,hs.keep,hs.kk,λt' f hf=>?_,hs.owns,hs.apart⟩
 rcases zax hf with⟨rfl,rfl⟩ |⟨_,hf⟩
 ·exact⟨trivial,by simp only[TF.at_,RV.at_];rw[h2,<-e2,h1]⟩
 ·exact hs.facts t' f hf
theorem zkf{id t tn:Nat}{v:Value}(hn:fget S.F tn=some (.nm id v))(ht:fget S.F t=some (.own id)):Sub S ⟨(t, .r (.x v))::S.F,S.O,S.nx⟩:=by
 intro B N a w k ⟨g,hs⟩
 have h1:=(hs.facts tn _ hn).2
 have h2:=(hs.facts t _ ht).2
 simp only[TF.at_]at h1 h2
 refine⟨k,g,hs.size,hs.defers,hs.keep,hs.kk,λt' f hf=>?_,hs.owns,hs.apart⟩
 rcases zax hf with⟨rfl,rfl⟩ |⟨_,hf⟩
 ·exact⟨trivial,by simp only[TF.at_,RV.at_];rw[h2,h1]⟩
 ·exact hs.facts t' f hf
theorem zlo{id t tn:Nat}{v:Value}(hn:fget S.F tn=some (.nm id v))(ht:fget S.F t=some (.r (.x v))):Sub S ⟨(t, .own id)::S.F,S.O,S.nx⟩:=by
 intro B N a w k ⟨g,hs⟩
 have h1:=hs.facts tn _ hn
 have h2:=(hs.facts t _ ht).2
 have h3:=h1.1
 have h1:=h1.2
 simp only[TF.at_,RV.at_]at h1 h2
 refine⟨k,g,hs.size,hs.defers,hs.keep,hs.kk,λt' f hf=>?_,hs.owns,hs.apart⟩
 rcases zax hf with⟨rfl,rfl⟩ |⟨_,hf⟩
 ·exact⟨h3,by simp only[TF.at_];rw[h2,h1]⟩
 ·exact hs.facts t' f hf
theorem zjc{id j tn i:Nat}{cells:List TF}{v:Value}(ho:oget S.O id=some (.box cells))(hn:fget S.F tn=some (.nm j v))(hi:cells[i]?=some (.r (.x v))):Sub S ⟨S.F,(id,some (.box (cells.set i (.own j))))::S.O,S.nx⟩:=by
 intro B N a w k ⟨g,hs⟩
 have h1:=hs.facts tn _ hn
 have h3:=h1.1
 have h1:=h1.2
 simp only[TF.at_]at h1
 obtain⟨q1,q2,q3,q4⟩:=hs.owns id _ ho
 have hex: ∀i' o',oget ((id,some (.box (cells.set i (.own j))))::S.O) i'=some o'->∃o,oget S.O i'=some o:=λi' o' h=>by
  simp only[oget]at h
  split at h
  ·rename_i hb
   rw[<-Nat.eq_of_beq_eq_true hb]
   exact⟨_,ho⟩
  ·exact⟨_,h⟩
 refine⟨k,g,hs.size,hs.defers,hs.keep,hs.kk,hs.facts,λi' o' h=>?_,λi1 i2 o1 o2 b e1 e2=>?_⟩
 ·simp only[oget]at h
  split at h
  ·rename_i hb
   cases h
   have:=Nat.eq_of_beq_eq_true hb
   subst this
   refine⟨q1,λf hf=>?_,?_,q4⟩
   ·rcases List.mem_or_eq_of_mem_set hf with hf |rfl
    ·exact q2 f hf
    ·exact h3
   ·obtain⟨b,cur,ty,e1,e2,e3,e4,e5⟩:=q3
    refine⟨b,cur,ty,e1,e2,e3,by rw[List.length_set];exact e4,λn f u hf hu=>?_⟩
    rw[List.getElem?_set]at hf
    split at hf
    ·rename_i hin
     subst hin
     split at hf
     ·cases hf
      have:=e5 i _ u hi hu
      refine⟨this.1,?_⟩
      have h5:=this.2
      simp only[TF.at_,RV.at_]at h5⊢
      rw[h5,h1]
     ·cases hf
    ·exact e5 n f u hf hu
  ·exact hs.owns i' o' h
 ·obtain⟨p1,f1⟩:=hex i1 o1 e1
  obtain⟨p2,f2⟩:=hex i2 o2 e2
  exact hs.apart i1 i2 p1 p2 b f1 f2
theorem zfd{f:FuncId}{args:List RV}{e:TypeId}{sz n:Nat}{cells:List RV}(h:zab P f args (.ch e sz n cells)):zab P f args (.r (.sl sz n cells)):=
 ⟨h.1,λw k vs hp=>(h.2 w k vs hp).mono λ_ _ ⟨v,he,hx,k',hk,hr⟩=>⟨v,he,hx,k',hk,by obtain⟨ob,hc,_⟩:=hr;exact chAt.sl hc⟩⟩
def adrs(id:Nat)(l:List Nat):List TF:=l.map (TF.adr id)
def zm0(S:St):Nat->List (Nat×Operand)->List TF->Prop
 |_,[],fs=>fs=[]
 |i,(j,x)::r,fs=>∃id off gs,j=i/\opr S x=some (.adr id off)/\fs= .adr id off::gs/\zm0 S (i+1) r gs
theorem zvg(hs:SatE B N S a w k g): ∀(parts:List (Nat×Operand)) (i:Nat) (fs:List TF) (vs:Array Value),zm0 S i parts fs->i+parts.length<=vs.size->
  ∃vs',Instr.fill (λi=>some (i*1,1)) vs (parts.map λ(i,x)=>(i,a.eval x))=some vs'/\vs'.size=vs.size/\(∀j,j<i->vs'[j]?=vs[j]?)/\(∀f∈fs,f.lt S.nx)/\fs.length=parts.length/\
   ∀(j:Nat) (f:TF) (u:Value),fs[j]?=some f->vs'[i+j]?=some u->u.oneCell'=true/\f.at_ w k g u
 |[],i,fs,vs,h,hl=>by
  simp only[zm0]at h
  subst h
  exact⟨vs,rfl,rfl,λ_ _=>rfl,by simp,rfl,λj f u hf=>by simp at hf⟩
 |(j0,x)::r,i,fs,vs,h,hl=>by
  simp only[zm0]at h
  obtain⟨id,off,gs,rfl,hx,rfl,hr⟩:=h
  obtain⟨hlt,hat⟩:=zaf hs hx
  have hat':=hat
  simp only[TF.at_]at hat
  obtain⟨b,hb,e⟩:=hat
  simp only[List.length_cons]at hl
  obtain⟨vs',h1,h2,h3,h4,h5,h6⟩:=zvg hs r (j0+1) gs (vs.setIfInBounds j0 (a.eval x)) hr (by simp;omega)
  refine⟨vs',?_,by simpa using h2,λj hj=>?_,?_,by simp[h5],λj f u hf hu=>?_⟩
  ·simp only[List.map_cons,Instr.fill]
   rw[if_neg (by simp[e,Value.cells];omega)]
   rw[<-h1]
   congr 1
   simp[e,Value.cells]
  ·rw[h3 j (by omega),Array.getElem?_setIfInBounds_ne (by omega)]
  ·intro f hf
   rcases List.mem_cons.1 hf with rfl |hf
   ·exact hlt
   ·exact h4 f hf
  ·cases j with
   |zero=>
    simp only[List.getElem?_cons_zero,Option.some.injEq]at hf
    subst hf
    rw[Nat.add_zero,h3 j0 (by omega)]at hu
    have hj:j0<vs.size:=by omega
    simp[hj]at hu
    subst hu
    exact⟨by rw[e];rfl,hat'⟩
   |succ j=>exact h6 j f u (by simpa using hf) (by rw[<-hu];congr 1;omega)
theorem Vstep.bsl{t e:TypeId}{ti te:TI}{n:Nat}{parts:Array (Nat×Operand)}(fs:List TF){K:St->Prop}(hT:TOk P T)(hop:o.op= .buildSlice t n parts)(hti:tget T t=some ti)(hk:ti.k= .slice e)(hte:tget T e=some te)(hsz:te.sz=1)
  (hn:parts.toList.length=n) (hsm:n<=16777216) (hp:zm0 S 0 parts.toList fs) (hK:K (({S with O:=(S.nx,some (.box fs))::S.O,nx:=S.nx+1}:St).put o.dst (.cut S.nx 0 n))):Vstep P S o K:=by
 refine Vstep.one (λB N a w k Q ⟨g,hs⟩ hd=>?_) hK
 obtain⟨q,hq⟩:=hT.get hti
 obtain⟨d,hdd,hko,_⟩:=q.desc
 rw[hq]at hdd
 rw[hk]at hko
 simp only[KOk]at hko
 subst hko
 obtain⟨qe,hqe⟩:=hT.get hte
 obtain⟨i,hi,hsi,_,z,hz,hzc⟩:=qe.info
 rw[hqe]at hi
 have hms:(madeCells z.cells (n*te.sz)).size=n:=by rw[hsz];simp[madeCells]
 obtain⟨vs,h1,h2,_,h4,h5,h6⟩:=zvg hs parts.toList 0 fs (madeCells z.cells (n*te.sz)) hp (by rw[hms,hn];omega)
 have hr:=zi8 (w:=w) (n:=n) (parts:=parts.map λ(i,x)=>(i,a.eval x)) hdd hi hsi hz (by rw[hsz];omega) (vs:=vs) (by rw[hsz,Array.toList_map];rw[hsz]at h1;exact h1)
 rw[hms]at h2
 have hle:=zo7 w k (.cells vs e) 0
 obtain⟨k',he,hkk,hl⟩:=zgc (t:=e) hs (cells:=fs) (cs:=vs) h4 (by rw[h2,h5,hn]) (λj f u hf hu=>h6 j f u hf (by rw[Nat.zero_add];exact hu))
 obtain⟨ob,hob,h7,h8,h9⟩:=hl
 have hs2:=hs.make (dst:=none) (λd h=>by cases h) he hkk (vb:=(.pointer (some ⟨w.heap.size,0,none⟩),ob)) h7 h8 h9
 refine zat (v:= .slice (some ⟨w.heap.size,0,none⟩) n n) (by simp only[execOp,hop,Sem.run_bind,hr];rfl) ⟨k',_,hs2.put hd (Nat.lt_succ_self S.nx) ?_⟩
 simp only[TF.at_,Env.set_eq]
 refine⟨w.heap.size,n,?_,rfl,Nat.le_refl _,by simp only[maxLen];omega⟩
 simp only[Ow.at_]at h8
 obtain⟨b,cur,ty,e1,_⟩:=h8
 simp only[Prod.mk.injEq,Value.pointer.injEq,Option.some.injEq,Addr.mk.injEq,and_true]at e1
 rw[e1.2,e1.1]
end
end Go.Proofs.YtkegaaonpekkgaaGreat.Sx
