import Derived.Test.YtoegdgbghdnnfaaGreatZNq
import Derived.Lib.AppendZerosOnto
import Derived.Great.Walk
import Derived.WalkKit
import Derived.Deep.QuietTactic
import Derived.BigQuiet
import Derived.Deep.LoopGhost
import Derived.Deep.AppendLies
import Derived.IntWalk
import Derived.Test.YtoegdgbghdnnfaaGreatZSxNm
import Derived.Test.YtoegdgbghdnnfaaGreatZSxS
import Derived.Test.YtoegdgbghdnnfaaGreatZBytes
import Derived.Test.YtoegdgbghdnnfaaGreatZKc
namespace Go.Proofs.YtoegdgbghdnnfaaGreat.Sx
open Go.RowKit
theorem zaxb(n:Nat)(hn:n<=100000000000):bG 262 [I n] (bch (zie n)):=by
 refine bT Tryz.func262 rfl ?_
 have hz:=zoy n
 have zer: ∀j,List.replicate j (0:UInt8)++[0]=List.replicate (j+1) 0:=λj=>by rw[List.replicate_succ']
 have hl: ∀j,(128::List.replicate j (0:UInt8)).length=1+j:=λj=>by simp;omega
 refine zy ?_
 refine Vloop.mk' (λj:Nat=>⟨[(0, .r (I n)),(3, .own 0)],[(0,some (.ch 5 1 (128::List.replicate j (0:UInt8)).length ((128::List.replicate j (0:UInt8)).map U8) true))],1⟩) (λj=>j<=zcq n) (λj=>zcq n-j) 0 (by omega)
  (zac [(0,0)] rfl ⟨cr,rfl,trivial⟩ ⟨⟨rfl,rfl,rfl,rfl,zn _⟩,trivial⟩) ?_
 intro j hj
 have hlj:=hl j
 refine zd (m:=((n+(1+j):Nat):Int)) (by omega) (by omega) ?_
 refine Vrem.nat (n+(1+j)) 64 rfl rfl (by decide) ?_
 refine zh (λh=>zq ?_) (λh=>zt ?_)
 ·simp only[zb]at h
  have hj':j<zcq n:=by unfold zcq at*;omega
  refine zy ?_
  refine Vapp.mk' (j:=(128::List.replicate (j+1) (0:UInt8)).length) (zs:=(128::List.replicate (j+1) (0:UInt8)).map U8) (by rw[hlj];simp only[maxLen];omega) (by rw[hlj];show(1+j+1)*1<=_;omega) (by rw[hlj,hl];omega)
   (by rw[<-zer];exact(List.map_append (f:=U8) (l₁:=128::List.replicate j (0:UInt8)) (l₂:=[0])).symm) ?_
  exact⟨j+1,by omega,by omega,zac [(0,_)] rfl ⟨cr,rfl,trivial⟩ ⟨zlq rfl,trivial⟩⟩
 simp only[zb]at h
 obtain rfl:j=zcq n:=by unfold zcq at*;omega
 obtain⟨B,hB⟩: ∃B,128::List.replicate (zcq n) (0:UInt8)=B:=⟨_,rfl⟩
 rw[hB]at hlj⊢
 have ht:zie n=B++beB 8 (n*8):=by rw[<-hB];rfl
 rw[ht]
 have hlb: ∀i,(B++(beB 8 (n*8)).take i).length<=B.length+8:=λi=>by rw[List.length_append,List.length_take,zao];omega
 refine Vloop.mk' (λi:Nat=>⟨[(0, .r (I n)),(3, .own 0),(4, .r (I (7-(i:Int))))],[(0,some (.ch 5 1 (B++(beB 8 (n*8)).take i).length ((B++(beB 8 (n*8)).take i).map U8) true))],1⟩) (λi=>i<=8) (λi=>8-i) 0 (by omega)
  (zac [(0,0)] rfl ⟨cr,rfl,cr,trivial⟩ ⟨zlq (by simp),trivial⟩) ?_
 intro i hi
 have hli:=hlb i
 refine zh (λh2=>zq ?_) (λh2=>zt ?_)
 ·simp only[zb]at h2
  have hi':i<8:=by omega
  have hb:=zqk (n:=n*8) hi'
  refine Vint.nat (.inl rfl) n rfl (by omega) ?_
  refine Vint.nat (.inl rfl) (n*8) rfl (by omega) ?_
  refine zd (m:=((8*(7-i):Nat):Int)) (by omega) (by omega) ?_
  refine Vshr.nat (.inl rfl) (n*8) (8*(7-i)) (n*8/256^(8-1-i)) rfl rfl (by omega) (by rw[z8k]) ?_
  refine Vint.u8 (n*8/256^(8-1-i)) rfl ?_
  refine zy ?_
  refine Vapp.mk' (j:=(B++(beB 8 (n*8)).take (i+1)).length) (zs:=(B++(beB 8 (n*8)).take (i+1)).map U8) (by simp only[maxLen];omega) (by show((B++(beB 8 (n*8)).take i).length+1)*1<=_;omega) (by rw[hb];simp only[List.length_append,List.length_cons,List.length_nil];omega)
   (by rw[hb,<-List.append_assoc];exact(List.map_append (f:=U8) (l₁:=B++(beB 8 (n*8)).take i) (l₂:=[UInt8.ofNat (n*8/256^(8-1-i))])).symm) ?_
  refine zd (m:=7-((i+1:Nat):Int)) (by omega) (by omega) ?_
  exact⟨i+1,by omega,by omega,zac [(0,_)] rfl ⟨cr,rfl,cr,trivial⟩ ⟨zlq rfl,trivial⟩⟩
 ·simp only[zb]at h2
  obtain rfl:i=8:=by omega
  rw[List.take_of_length_le (by rw[zao];omega)]
  exact rfl
def smI3(M:List UInt8)(t:Nat):St:=⟨[(2, .own 0),(3, .own 1),(4, .r (bs (M.drop (64*t))))],[(0,some (.box ((List.replicate 32 (U8 0)).map .r))),(1,some (bH (runH t h0Tab M)))],2⟩
theorem z2g(M:List UInt8)(t:Nat):stOk [(0,0),(1,1)] (smI3 M t)=true:=rfl
set_option maxRecDepth 100000 in
set_option maxHeartbeats 4000000 in
theorem zefb(b:List UInt8)(hb:b.length<=100000000000):bG 208 [bs b] (.r (.ag ((shaB b).map U8))):=by
 refine bT Tryz.func208 rfl ?_
 obtain⟨M,hM⟩: ∃M,b++zie b.length=M:=⟨_,rfl⟩
 have hMl:M.length=b.length+(9+zcq b.length):=by rw[<-hM,List.length_append,zoq]
 have hz:=zoy b.length
 have hM64:=zyu b.length
 obtain⟨T,hT⟩: ∃T,M.length=64*T:=⟨M.length/64,by rw[hMl];omega⟩
 have htl:=zoq b.length
 refine Vcode.scope2 mixed Tab_ok 0 (smI3 M) (λt=>t<=T) (λt=>T-t) rfl ?_ ?_
 ·refine ze z6u ?_
  refine⟨rfl,?_⟩
  refine ze (zxo b (by omega)) ?_
  refine ze (zaxb b.length hb) ?_
  refine Vapp.mk' (j:=M.length) (zs:=M.map U8) (by simp only[maxLen];omega) (by show(b.length+(zie b.length).length)*1<=_;omega) (by rw[<-hM,List.length_append]) (by rw[<-hM,List.map_append]) ?_
  exact⟨rfl,0,by omega,zac [(0,0),(1,1)] (z2g M 0) ⟨rfl,rfl,cr,trivial⟩ ⟨zae (List.replicate 32 (U8 0)),(bD bZ),trivial⟩⟩
 ·intro t ht
  have hdl:(M.drop (64*t)).length=64*(T-t):=by rw[List.length_drop,hT];omega
  refine zh (λh=>zq ?_) (λh=>zt ?_)
  ·simp only[zb]at h
   have ht':t<T:=by omega
   have hl64:((M.drop (64*t)).take 64).length=64:=by rw[List.length_take,hdl];omega
   refine⟨by decide,by decide,by omega,64,((M.drop (64*t)).take 64).map U8,by decide,by rw[List.map_take];rfl,?_⟩
   have hst:=zx1
   have hr:=zoe t h0Tab M
   have hok:=zpl t h0Tab M z3o
   unfold smI3
   refine Vstep.actsBox (l:=vH (runH t h0Tab M)) (l':=vH (zms (runH t h0Tab M) ((M.drop (64*t)).take 64))) (args:=[.own 0, .r (bs ((M.drop (64*t)).take 64))]) 1 (λv=>zx1 v (runH t h0Tab M) ((M.drop (64*t)).take 64) hok hl64) (zi rfl ⟨_,_,rfl,rfl,_,_,rfl,zf (by rw[bs,hl64]),rfl⟩) rfl ?_
   refine⟨by decide,by omega,by omega,64*(T-(t+1)),(M.drop (64*(t+1))).map U8,by omega,by rw[<-List.map_drop,List.drop_drop,List.take_of_length_le (by rw[List.length_map,List.length_drop];omega)];rfl,?_⟩
   exact⟨t+1,by omega,by omega,zac [(0,0),(1,1)] (z2g M (t+1)) ⟨rfl,rfl,zf (by rw[bs,List.length_drop,hT];congr 1;omega),trivial⟩ ⟨zae (List.replicate 32 (U8 0)),by rw[hr];exact⟨_,_,rfl,cr,_,_,rfl,cr,_,_,rfl,cr,_,_,rfl,cr,_,_,rfl,cr,_,_,rfl,cr,_,_,rfl,cr,_,_,rfl,cr,rfl⟩,trivial⟩⟩
  ·simp only[zb]at h
   obtain rfl:t=T:=by omega
   have he:shaB b=outH (runH t h0Tab M):=by unfold shaB;rw[hM,hT,Nat.mul_div_cancel_left _ (by decide)]
   have hok:=zpl t h0Tab M z3o
   rw[he]
   unfold smI3
   generalize runH t h0Tab M=s at*
   obtain⟨a,b,c,d,e,f,g,i⟩:=s
   refine za rfl rfl ?_
   refine Vloop.rounds 9 ?_
   repeat' ((conv=>whnf);first|refine Vrounds.step mixed Tab_ok ?_|refine zu rfl (zq ?_)|refine zw rfl (zt ?_)|refine zm (by decide) (by decide) rfl ?_|refine Vadr.any (by decide) ?_|refine Vint.any (k:= .i64) ?_|refine Vshr.n32 _ 24 _ rfl rfl (by decide) rfl ?_|refine Vshr.n32 _ 16 _ rfl rfl (by decide) rfl ?_|refine Vshr.n32 _ 8 _ rfl rfl (by decide) rfl ?_|refine Vint.u8 _ rfl ?_|refine za rfl rfl ?_)
   refine zf (congrArg RV.ag ?_)
   simp[outH,H8.list,beB]
theorem zddb{a w:World}(h:Ext a w)(o:Obj):Ext a (w.alloc o):=Below.alloc h h.size o
theorem zgcb{a w:World}(h:Ext a w):Ext a w.drew:=Below.drew h
theorem z0r{P:Program}{ops:Array Oper}{rest:List Oper}{o:Oper}{a:Act}{w:World}{Q:Exit->Act->World->Prop}(hgd:o.guard=none)(s x:Operand)(t u:TypeId)
  (ho:o.op= .call {callee:= .builtin .append,args:= #[s,x],argTypes:= #[t,u]}) {v y v':Value} {w':World} (hs:a.eval s=v) (hx:a.eval x=y)
  (hr:(Builtin.append_ #[t,u] o.type #[v,y]).run P w= .ok v' w') (h:wpList P ops Q rest (a.put o.dst v') w'):wpList P ops Q (o::rest) a w:=by
 refine wpList_plain hgd λK hK=>?_
 unfold Oper.wp execOp
 simp only[ho,resolve,invoke,builtin,Sem.run_bind,Sem.run_pure,Result.andThen_ok,List.map_toArray,List.map_cons,List.map_nil,hs,hx,hr]
 exact hK _ _ h
structure Stop (p:Prop):Prop where
 out:p
theorem Stop.on{p:Prop}(h:Stop p):p:=h.out
set_option maxRecDepth 100000 in
theorem zacb(n:Nat)(w:World)(k:Kp)(hn:n<=1000000000000):
  Calls Tryz.prog 260 #[.slice none 0 0, .int .i64 (n:Int)] w λe w'=>∃v,e= .returned v/\Ext w w'/\∃k':Kp,(∀b,b<w.heap.size->k' b=k b)/\(bch []).at_ w.heap.size w' k' v:=by
 rcases Nat.eq_zero_or_pos n with rfl |hpos
 ·go_enter Tryz.func260,Tryz.ntmps260
  go_wp2_with fail
  go_ret
  exact⟨_,rfl,Ext.refl _,k,λ_ _=>rfl,none,⟨rfl, .inl ⟨rfl, .inl ⟨rfl,none,rfl⟩⟩⟩,λb h=>by cases h⟩
 ·have hi0:(Tryz.prog.info? 5).map (λi=>(i.zero,i.size,i.bytes))=some (some (.int .u8 0),1,1):=by kernel_rfl
  obtain⟨i0,hi,hz⟩:=Option.map_eq_some_iff.1 hi0
  simp only[Prod.mk.injEq]at hz
  obtain⟨hz0,hz1,hz2⟩:=hz
  have hr:=λty=>Lib.run_append_grow_zeros w 22 3 ty 5 i0 (.int .u8 0) .i64 .i64 Tryz.underlying22 Tryz.underlying3 hi hz0 none 0 0 [] (run_firstCells_none w.drew i0.size 0 0 0) n hpos (by rw[hz1];decide) (by omega) (by omega) (by rw[hz2];omega) (growslice_fits (by omega) (by rw[hz2];omega))
  simp only[Nat.zero_add]at hr
  have hge:=grownCap_ge w n 0 5
  have hle:=grownCap_le_maxLen w n 0 5 (by unfold maxLen;omega)
  have hcs:((([]:List Value).toArray++Builtin.zeroCells (Value.int .u8 0).cells n++Builtin.zeroCells (Value.int .u8 0).cells (grownCap w n 0 5-n))).size=grownCap w n 0 5:=by
   simp only[Array.size_append,List.size_toArray,size_zeroCells,show(Value.int IntKind.u8 0).cells.size=1 from rfl]
   simp only[List.length_nil];omega
  generalize grownCap w n 0 5=G at*
  generalize ([]:List Value).toArray++Builtin.zeroCells (Value.int .u8 0).cells n++Builtin.zeroCells (Value.int .u8 0).cells (G-n)=cs at*
  unfold maxLen at hle
  go_enter Tryz.func260,Tryz.ntmps260
  go_wp2_with (first|(at_builtin;refine Stop.on ?_))
  refine Stop.mk (z0r rfl (.tmp 20) (.tmp 21) _ _ rfl rfl rfl (hr _) ?_)
  clear hr
  go_wp2_with fail
  go_ret
  exact⟨_,rfl,zddb (zgcb (Ext.refl _)) _,kset k w.heap.size 0,λb hb=>zdd b hb,some w.heap.size,⟨rfl, .inr ⟨w.heap.size,G,cs,rfl,rfl,heap_alloc_new w.drew _,Nat.zero_le _,by unfold maxLen;omega,by simpa using Nat.le_of_eq hcs.symm,by simp[zcu],by simp[RV.listAt]⟩⟩,λb hb=>by cases hb;exact Nat.le_refl _⟩
theorem zgqb(n:Nat)(hn:n<=1000000000000):bG 260 [.x (.slice none 0 0),I n] (bch []):=
 ⟨zfe Tryz.func260 rfl (by kernel_rfl),λw k vs hp=>by
  simp only[RV.partsAt,RV.at_]at hp
  obtain⟨_,_,rfl,rfl,_,_,rfl,rfl,rfl⟩:=hp
  exact zacb n w k hn⟩
def bss(ls:List (List UInt8)):RV:= .sl 1 ls.length (ls.map bs)
theorem zut(ls:List (List UInt8)){k:Nat}(hk:k<ls.length):(ls.take (k+1)).flatMap id=(ls.take k).flatMap id++ls[k]:=by
 rw[List.take_add_one,List.flatMap_append,List.getElem?_eq_getElem hk];simp
theorem z03(ls:List (List UInt8))(k:Nat):((ls.take k).flatMap id).length<=(ls.flatMap id).length:=by
 have h:ls.flatMap id=(ls.take k).flatMap id++(ls.drop k).flatMap id:=by rw[<-List.flatMap_append,List.take_append_drop]
 rw[h,List.length_append];omega
theorem zhl(ls:List (List UInt8))(hl:(ls.flatMap id).length<=1000000000000):bG 206 [bss ls] (bch (ls.flatMap id)):=by
 refine znn (zfe Tryz.func206 rfl (by kernel_rfl)) λhml=>?_
 refine bT Tryz.func206 rfl ?_
 refine Vloop.mk' (λj:Nat=>⟨[(0, .r (bss ls)),(3, .r (I ((ls.take j).flatMap id).length)),(9, .r (bss ls)),(10, .r (I ls.length)),(11, .r (I j))],[],0⟩) (λj=>j<=ls.length) (λj=>ls.length-j) 0 (by omega) (zac [] rfl ⟨cr,cr,cr,cr,cr,trivial⟩ trivial) ?_
 intro j hj
 refine zh (λh=>zq ?_) (λh=>zt ?_)
 ·simp only[zb]at h
  have hj':j<ls.length:=by omega
  have e:=zut ls hj'
  have hb:=z03 ls (j+1)
  have hq:((ls.take (j+1)).flatMap id).length=((ls.take j).flatMap id).length+ls[j].length:=by rw[e,List.length_append]
  refine zm (by omega) (by omega) (zaj rfl hj') (zg rfl ?_)
  refine zd (m:=(((ls.take (j+1)).flatMap id).length:Int)) (by omega) (by omega) ?_
  refine zw (by simp only[zb];omega) (zt ?_)
  refine zd (m:=((j+1:Nat):Int)) (by omega) (by omega) ?_
  exact⟨j+1,by omega,by omega,zac [] rfl ⟨cr,cr,cr,cr,cr,trivial⟩ trivial⟩
 simp only[zb]at h
 obtain rfl:j=ls.length:=by omega
 rw[List.take_length]
 refine ze (zgqb _ hl) ?_
 refine Vloop.mk' (λj:Nat=>⟨[(6, .own 0),(25, .r (bss ls)),(26, .r (I ls.length)),(27, .r (I j))],[(0,some (.ch 5 1 ((ls.take j).flatMap id).length (((ls.take j).flatMap id).map U8) true))],1⟩) (λj=>j<=ls.length) (λj=>ls.length-j) 0 (by omega) (zac [(0,0)] rfl ⟨rfl,cr,cr,cr,trivial⟩ ⟨⟨rfl,rfl,rfl,rfl,zn _⟩,trivial⟩) ?_
 intro j hj
 refine zh (λh=>zq ?_) (λh=>zt ?_)
 ·simp only[zb]at h
  have hj':j<ls.length:=by omega
  have e:=zut ls hj'
  have hb:=z03 ls (j+1)
  have hq:((ls.take (j+1)).flatMap id).length=((ls.take j).flatMap id).length+ls[j].length:=by rw[e,List.length_append]
  refine zm (by omega) (by omega) (zaj rfl hj') (zg rfl ?_)
  refine Vapp.mk' (j:=((ls.take (j+1)).flatMap id).length) (zs:=((ls.take (j+1)).flatMap id).map U8) (by simp only[maxLen];omega) (by show(((ls.take j).flatMap id).length+ls[j].length)*1<=_;omega) hq.symm (by rw[e,List.map_append]) ?_
  refine zd (m:=((j+1:Nat):Int)) (by omega) (by omega) ?_
  exact⟨j+1,by omega,by omega,zac [(0,_)] rfl ⟨rfl,cr,cr,cr,trivial⟩ ⟨zlq rfl,trivial⟩⟩
 ·simp only[zb]at h
  obtain rfl:j=ls.length:=by omega
  rw[List.take_length]
  exact rfl
set_option maxRecDepth 100000 in
theorem zlw(ls:List (List UInt8))(hl:(ls.flatMap id).length<=100000000000):bG 143 [bss ls] (bch (shaB (ls.flatMap id))):=by
 refine bT Tryz.func143 rfl ?_
 have hsl:=zf1 (ls.flatMap id)
 have h1:=zefb (ls.flatMap id) hl
 generalize shaB (ls.flatMap id)=D at*
 refine ze (zhl ls (by omega)) ?_
 refine ze h1 ?_
 (conv=>whnf)
 generalize hq:(zbi _&&_)=q
 obtain rfl:=hq.symm.trans (ziw (l:=D.map U8) 32 (by rw[List.length_map,hsl]) rfl)
 clear hq
 refine zfi (by rw[List.length_map,List.length_map,hsl];rfl) ?_
 refine Vstep.boxCh (n:=32) (vs:=D.map U8) Tab_ok rfl rfl rfl rfl rfl rfl rfl (by rw[List.length_map,hsl]) (by decide) (by decide) ?_
 unfold bch
 rw[hsl]
 exact rfl
theorem Vcall.boolc{P:Program}{f:FuncId}{vs ps:List RV}{K:Res->Prop}{β:Bool}(hg:zab P f ps (.r (.b β)))(hc:Cvs vs ps)(ht:β=true->K (.r (.b true)))(hf:β=false->K (.r (.b false))):Vcall P f vs K:=by
 cases β
 ·exact Vcall.mk' hg hc (hf rfl)
 ·exact Vcall.mk' hg hc (ht rfl)
def Node.small(n:Node):Bool:=decide (n.leaf.box.length<=200/\n.leaf.sign.length<=200/\n.leaf.ident.length<=200/\n.leaf.parent.length<=200/\n.leaf.sig.length<=200/\n.par.box.length<=200/\n.par.hash.length<=200/\n.par.late.length<=60)
theorem z6n(n:Node):bG 20 [.ag n.c] (.r (.b n.small)):=by
 refine bT Tryz.func20 rfl ?_
 refine bV ?_
 refine za rfl rfl ?_
 refine za rfl rfl ?_
 (repeat' (first|refine zh (λh=>?_) (λh=>?_)|refine zf ?_|refine zq ?_|refine zt ?_))
 all_goals refine congrArg RV.b (Eq.symm ?_)
 all_goals simp only[Node.small,zb]at*
 all_goals omega
def zl:Leaf:=⟨[],[],[],0,[],[]⟩
def zp:Par:=⟨[],[],[]⟩
theorem z71(l:Leaf):l.none=decide (l=zl):=by
 obtain⟨a,b,c,d,e,f⟩:=l
 rw[Bool.eq_iff_iff]
 simp only[Leaf.none,zl,decide_eq_true_eq,Leaf.mk.injEq,List.length_eq_zero_iff]
 have:d.toNat=0↔d=0:=⟨λh=>UInt8.toNat_inj.1 (by simpa using h),λh=>by simp[h]⟩
 rw[this]
 constructor
 ·rintro⟨h1,h2,h3,h4,h5,h6⟩;exact⟨h2,h3,h4,h1,h5,h6⟩
 ·rintro⟨h1,h2,h3,h4,h5,h6⟩;exact⟨h4,h1,h2,h3,h5,h6⟩
theorem zbmb(p:Par):p.none=decide (p=zp):=by
 obtain⟨a,b,c⟩:=p
 rw[Bool.eq_iff_iff]
 simp only[Par.none,zp,decide_eq_true_eq,Par.mk.injEq,List.length_eq_zero_iff]
def zj1(n:Node):Node:=⟨0,n.leaf,zp⟩
def zpd(n:Node):Node:=⟨0,zl,n.par⟩
theorem zdcb(n:Node):Cv (.ag [.i .u8 0,bs n.leaf.box,bs n.leaf.sign,bs n.leaf.ident,U8 n.leaf.src,bs n.leaf.parent,bs n.leaf.sig, .x (.slice none 0 0), .x (.slice none 0 0), .x (.slice none 0 0)]) (.ag (zj1 n).c):=
 Cv.ag (zk (cr) (zk (cr) (zk (cr) (zk (cr) (zk (cr) (zk (cr) (zk (cr) (zk (Cv.nil 1) (zk (Cv.nil 1) (zk (Cv.nil 1) Cvs.nil))))))))))
theorem zgbb(n:Node):Cv (.ag [.i .u8 0, .x (.slice none 0 0), .x (.slice none 0 0), .x (.slice none 0 0), .i .u8 0, .x (.slice none 0 0), .x (.slice none 0 0),bs n.par.box,bs n.par.hash,is n.par.late]) (.ag (zpd n).c):=
 Cv.ag (zk (cr) (zk (Cv.nil 1) (zk (Cv.nil 1) (zk (Cv.nil 1) (zk (cr) (zk (Cv.nil 1) (zk (Cv.nil 1) (zk (cr) (zk (cr) (zk (cr) Cvs.nil))))))))))
theorem zkf(n:Node):zj1 n=Node.zero↔n.leaf.none=true:=by
 rw[z71,decide_eq_true_eq]
 simp[zj1,Node.zero,zl,zp]
theorem zmf(n:Node):zpd n=Node.zero↔n.par.none=true:=by
 rw[zbmb,decide_eq_true_eq]
 simp[zpd,Node.zero,zl,zp]
theorem z6k(n:Node)(hn:n.fit):bG 22 [.ag n.c] (.r (.b n.right)):=by
 refine bT Tryz.func22 rfl ?_
 have sl:=zxn (zj1 n) Node.zero (by simp[zj1,zp]) (by simp[Node.zero])
 have sp:=zxn (zpd n) Node.zero hn.2.2.2.2 (by simp[Node.zero])
 have cl:=zk (zdcb n) (zk zpw Cvs.nil)
 have cp:=zk (zgbb n) (zk zpw Cvs.nil)
 refine bV ?_
 refine za rfl rfl ?_
 refine za rfl rfl ?_
 refine zh (λh=>zq ?_) (λh=>zt ?_)
 ·simp only[zb]at h
  have h0:n.kind.toNat=0:=by omega
  refine za rfl rfl ?_
  refine Vcall.boolc sl cl (λh2=>?_) (λh2=>?_)
  ·refine za rfl rfl ?_
   refine Vcall.boolc sp cp (λh3=>?_) (λh3=>?_)
   all_goals refine zf (congrArg RV.b (Eq.symm ?_))
   all_goals simp only[zb,zkf,zmf]at h2 h3
   all_goals simp[Node.right,h0,h2,h3]
  ·refine zf (congrArg RV.b (Eq.symm ?_))
   simp only[zb,zkf,zmf]at h2
   simp[Node.right,h0,h2]
 ·refine zh (λh2=>zq ?_) (λh2=>zt ?_)
  ·simp only[zb]at h2
   have h0:n.kind.toNat=1:=by omega
   refine za rfl rfl ?_
   refine Vcall.bool (z6m n.leaf) (λh3=>?_) (λh3=>?_)
   ·refine za rfl rfl ?_
    refine Vcall.boolc sp cp (λh4=>?_) (λh4=>?_)
    all_goals refine zf (congrArg RV.b (Eq.symm ?_))
    all_goals simp only[zb,zkf,zmf]at h4
    all_goals simp[Node.right,h0,h3,h4]
   ·refine zf (congrArg RV.b (Eq.symm ?_))
    simp[Node.right,h0,h3]
  ·refine zh (λh3=>zq ?_) (λh3=>zt ?_)
   ·simp only[zb]at h3
    have h0:n.kind.toNat=2:=by omega
    refine za rfl rfl ?_
    refine Vcall.bool (z94 n.par hn.2) (λh4=>?_) (λh4=>?_)
    ·refine za rfl rfl ?_
     refine Vcall.boolc sl cl (λh5=>?_) (λh5=>?_)
     all_goals refine zf (congrArg RV.b (Eq.symm ?_))
     all_goals simp only[zb,zkf,zmf]at h5
     all_goals simp[Node.right,h0,h4,h5]
    ·refine zf (congrArg RV.b (Eq.symm ?_))
     simp[Node.right,h0,h4]
   ·simp only[zb]at h h2 h3
    refine zf (congrArg RV.b (Eq.symm ?_))
    have a0: ¬n.kind.toNat=0:=by omega
    have a1: ¬n.kind.toNat=1:=by omega
    have a2: ¬n.kind.toNat=2:=by omega
    simp[Node.right,a0,a1,a2]
theorem zmt{α:Type}{p:α->Prop}{l:List α}{j:Nat}(hj:j<l.length)(h: ∀x∈l.take j,p x)(hx:p l[j]): ∀x∈l.take (j+1),p x:=by
 intro x hm
 rw[List.take_add_one,List.getElem?_eq_getElem hj]at hm
 simp only[Option.toList,List.mem_append,List.mem_cons,List.not_mem_nil,or_false]at hm
 rcases hm with hm |rfl
 ·exact h x hm
 ·exact hx
def zch(l:List Stub)(x:Int):List UInt8:=((l.find? λs=>decide (s.at_=x)).map (·.hash)).getD []
theorem z81{l:List Stub}{x:Int}(h: ∀s∈l,s.at_≠x):zch l x=[]:=by
 have:l.find? (λs=>decide (s.at_=x))=none:=by simp only[List.find?_eq_none,decide_eq_true_eq];exact h
 simp[zch,this]
theorem zfnb{l:List Stub}{x:Int}{j:Nat}(hj:j<l.length)(h: ∀s∈l.take j,s.at_≠x)(hx:l[j].at_=x):zch l x=l[j].hash:=by
 obtain⟨y,hy⟩: ∃y,y=l[j]:=⟨_,rfl⟩
 rw[<-hy]at hx⊢
 have:l=l.take j++y::l.drop (j+1):=by rw[hy,<-List.drop_eq_getElem_cons hj,List.take_append_drop]
 simp only[zch]
 rw[this,List.find?_append]
 have h1:(l.take j).find? (λs=>decide (s.at_=x))=none:=by simp only[List.find?_eq_none,decide_eq_true_eq];exact h
 rw[h1]
 simp[hx]
theorem z98(s:Lean_)(x:Int)(h2:s.shut.length<=1000000000):bG 102 [.ag s.c,I x] (.r (bs (zch s.shut x))):=by
 refine bT Tryz.func102 rfl ?_
 refine Vloop.mk' (λj:Nat=>{F:=[(1, .r (I x)),(2, .own 0),(5, .r (I j))],O:=[(0,some (.box (s.c.map .r)))],nx:=1}) (λj=>j<=s.shut.length/\∀y∈s.shut.take j,y.at_≠x) (λj=>s.shut.length-j) 0 ⟨by omega,by simp⟩ (zac [(0,0)] rfl ⟨cr,rfl,cr,trivial⟩ ⟨zae _,trivial⟩) ?_
 rintro j ⟨hj,hn⟩
 refine zh (λh5=>zq ?_) (λh5=>zt ?_)
 ·simp only[zb]at h5
  have hj':j<s.shut.length:=by omega
  refine zm (by omega) (by omega) (zx6 rfl hj') ?_
  refine zg rfl ?_
  refine zh (λh6=>zq ?_) (λh6=>zt ?_)
  ·simp only[zb]at h6
   refine zm (by omega) (by omega) (zx6 rfl hj') ?_
   refine zg rfl ?_
   exact zf (by rw[zfnb hj' hn h6])
  ·simp only[zb]at h6
   refine zd (m:=((j+1:Nat):Int)) (by omega) (by omega) ?_
   exact⟨j+1,⟨hj',zmt hj' hn h6⟩,by omega,zac [(0,0)] rfl ⟨cr,rfl,cr,trivial⟩ ⟨zae _,trivial⟩⟩
 ·simp only[zb]at h5
  rw[List.take_of_length_le (by omega)]at hn
  rw[z81 hn]
  exact Cv.nil 1
theorem zje:Tryz.prog.underlying 3=some (.int .i64):=by kernel_rfl
theorem zjp:Tryz.prog.underlying 136=some (.map 3 61):=by kernel_rfl
theorem zmv:Tryz.prog.underlying 137=some (.map 3 22):=by kernel_rfl
def zby(l:List Spot):List (Int×RV):=l.map λs=>(s.at_,RV.ag s.node.c)
def zbx(l:List Stub):List (Int×RV):=l.map λs=>(s.at_,bs s.hash)
def idxF(q:Int->Bool):Nat->List Int->Int
 |_,[]=> -1
 |j,x::r=>if q x then(j:Int)else idxF q (j+1) r
theorem z1v(q:Int->Bool): ∀(l:List Int) (j:Nat), -1<=idxF q j l/\idxF q j l< (j+l.length:Nat)/\(0<=idxF q j l↔l.any q=true)
 |[],j=>by simp[idxF];omega
 |x::r,j=>by
  have ih:=z1v q r (j+1)
  rw[idxF,List.any_cons,List.length_cons]
  by_cases hq:q x=true
  ·rw[if_pos hq,hq]
   exact⟨by omega,by omega,by simp⟩
  ·rw[if_neg hq,Bool.eq_false_iff.2 hq,Bool.false_or]
   exact⟨ih.1,by omega,ih.2.2⟩
theorem zz6(l:List Int)(D:Int->Prop)(q:Int->Bool)(hl:l.length<=1000000000)(hD: ∀x∈l,D x):bG 272 [is l, .s (cloS Tryz.prog I D q)] (.r (I (idxF q 0 l))):=by
 refine bT Tryz.func272 rfl ?_
 refine Vloop.mk' (λj:Nat=>{F:=[(0, .r (is l)),(1, .r (.s (cloS Tryz.prog I D q))),(7, .r (I l.length)),(8, .r (I j))],O:=[],nx:=0}) (λj=>j<=l.length/\idxF q 0 l=idxF q j (l.drop j)) (λj=>l.length-j) 0 ⟨by omega,by simp⟩ (zac [] rfl ⟨cr,cr,cr,cr,trivial⟩ trivial) ?_
 rintro j ⟨hj,he⟩
 refine zh (λh=>zq ?_) (λh=>zt ?_)
 ·simp only[zb]at h
  have hj':j<l.length:=by omega
  rw[List.drop_eq_getElem_cons hj']at he
  simp only[idxF]at he
  refine zm (by omega) (by omega) (zaj rfl hj') (zg rfl ?_)
  refine Vstep.cloB l[j] rfl rfl rfl rfl (cr) (hD _ (List.getElem_mem hj')) (λhq=>zq ?_) (λhq=>zt ?_)
  ·rw[hq]at he
   exact zf (by rw[he];simp)
  ·rw[hq]at he
   refine zd (m:=((j+1:Nat):Int)) (by omega) (by omega) ?_
   exact⟨j+1,⟨hj',by rw[he];simp⟩,by omega,zac [] rfl ⟨cr,cr,cr,cr,trivial⟩ trivial⟩
 ·simp only[zb]at h
  rw[List.drop_eq_nil_of_le (by omega)]at he
  exact zf (by rw[he];rfl)
theorem zhm(l:List Int)(D:Int->Prop)(q:Int->Bool)(hl:l.length<=1000000000)(hD: ∀x∈l,D x):bG 217 [is l, .s (cloS Tryz.prog I D q)] (.r (.b (l.any q))):=by
 refine bT Tryz.func217 rfl ?_
 refine ze (zz6 l D q hl hD) ?_
 exact Vcmp.mk' rfl (zf (congrArg RV.b (by rw[Bool.eq_iff_iff,decide_eq_true_eq];exact(z1v q l 0).2.2)))
def za6(u:Int):Prop:=0<=u/\u<65536
def zf0(x:Int):Nat:=if x.tmod 2=1 then 1 else 2
def zcy(x:Int)(n:Node):Bool:=n.right&&(decide (n.kind.toNat≠zf0 x)&&n.par.late.all λu=>za2 (2*u) x)
theorem zc2b(l:List Int)(q:Int->Bool):(!l.any λu=> !q u)=l.all q:=by
 induction l with
 |nil=>rfl
 |cons x r ih=>simp[List.any_cons,List.all_cons,Bool.not_or,ih]
theorem Node.right_late{n:Node}(h:n.right=true): ∀u∈n.par.late,za6 u:=by
 unfold Node.right at h
 split at h
 ·simp only[Bool.and_eq_true]at h
  have:=h.2
  simp only[Par.none,decide_eq_true_eq,List.length_eq_zero_iff]at this
  rw[this.2.2];simp
 ·split at h
  ·simp only[Bool.and_eq_true]at h
   have:=h.2
   simp only[Par.none,decide_eq_true_eq,List.length_eq_zero_iff]at this
   rw[this.2.2];simp
  ·split at h
   ·simp only[Bool.and_eq_true]at h
    exactλu hu=>Par.right_bd h.2 u hu
   ·cases h
theorem z9i:(Tryz.prog.info? 61).bind (·.zero)=some (.agg #[.int .u8 0, .slice none 0 0, .slice none 0 0, .slice none 0 0, .int .u8 0, .slice none 0 0, .slice none 0 0, .slice none 0 0, .slice none 0 0, .slice none 0 0]):=by kernel_rfl
theorem zf0b:(Tryz.prog.info? 22).bind (·.zero)=some (.slice none 0 0):=by kernel_rfl
theorem zczb(w:World)(k:Kp):(RV.ag zc).at_ w k (.agg #[.int .u8 0, .slice none 0 0, .slice none 0 0, .slice none 0 0, .int .u8 0, .slice none 0 0, .slice none 0 0, .slice none 0 0, .slice none 0 0, .slice none 0 0]):=by
 simp only[RV.at_]
 refine⟨_,rfl,?_⟩
 exact zi5 [.int .u8 0, .slice none 0 0, .slice none 0 0, .slice none 0 0, .int .u8 0, .slice none 0 0, .slice none 0 0, .slice none 0 0, .slice none 0 0, .slice none 0 0] (by simp[Value.oneCell'])
def ze1(l:List Stub)(x:Int):Option (List UInt8):=(l.find? λs=>decide (s.at_=x)).map (·.hash)
theorem zha: ∀(l:List Spot) (x:Int),zc6 (zby l) x=(zaf l x).map λn=> .ag n.c
 |[],x=>rfl
 |s::l,x=>by
  have ih:=zha l x
  simp only[zby,zaf,List.map_cons,zc6,List.find?_cons]at*
  by_cases h:s.at_=x
  ·simp[h]
  ·simp[h,ih]
theorem zmd: ∀(l:List Stub) (x:Int),zc6 (zbx l) x=(ze1 l x).map bs
 |[],x=>rfl
 |s::l,x=>by
  have ih:=zmd l x
  simp only[zbx,ze1,List.map_cons,zc6,List.find?_cons]at*
  by_cases h:s.at_=x
  ·simp[h]
  ·simp[h,ih]
section
variable {S:St} {o:Oper}
theorem Vstep.node2{x y:Operand}{n:Int}{l:List Spot}{K:St->Prop}(hop:o.op= .lookup 136 x y true)(hx:opr S x=some (.r (.s (mapS (zby l)))))(hy:opr S y=some (.r (.i .i64 n)))
  (h1: ∀m,zaf l n=some m->newK S o.dst (.r (.tu [.ag m.c, .b true])) none K) (h0:zaf l n=none->newK S o.dst (.r (.tu [.ag zc, .b false])) none K):Vstep Tryz.prog S o K:=by
 refine Vstep.look2 (.ag zc) hop hx hy zjp zje z9i zczb (λr hr=>?_) (λhr=>?_)
 ·rw[zha,Option.map_eq_some_iff]at hr
  obtain⟨m,hm,rfl⟩:=hr
  exact h1 m hm
 ·rw[zha,Option.map_eq_none_iff]at hr
  exact h0 hr
theorem Vstep.node1{x y:Operand}{n:Int}{l:List Spot}{K:St->Prop}(hop:o.op= .lookup 136 x y false)(hx:opr S x=some (.r (.s (mapS (zby l)))))(hy:opr S y=some (.r (.i .i64 n)))
  (h1: ∀m,zaf l n=some m->newK S o.dst (.r (.ag m.c)) none K) (h0:zaf l n=none->newK S o.dst (.r (.ag zc)) none K):Vstep Tryz.prog S o K:=by
 refine Vstep.look1 (.ag zc) hop hx hy zjp zje z9i zczb (λr hr=>?_) (λhr=>?_)
 ·rw[zha,Option.map_eq_some_iff]at hr
  obtain⟨m,hm,rfl⟩:=hr
  exact h1 m hm
 ·rw[zha,Option.map_eq_none_iff]at hr
  exact h0 hr
theorem Vstep.hash1{x y:Operand}{n:Int}{l:List Stub}{K:St->Prop}(hop:o.op= .lookup 137 x y false)(hx:opr S x=some (.r (.s (mapS (zbx l)))))(hy:opr S y=some (.r (.i .i64 n)))
  (h1: ∀m,ze1 l n=some m->newK S o.dst (.r (bs m)) none K) (h0:ze1 l n=none->newK S o.dst (.r (.x (.slice none 0 0))) none K):Vstep Tryz.prog S o K:=by
 refine Vstep.look1 (.x (.slice none 0 0)) hop hx hy zmv zje zf0b (λ_ _=>by simp[RV.at_]) (λr hr=>?_) (λhr=>?_)
 ·rw[zmd,Option.map_eq_some_iff]at hr
  obtain⟨m,hm,rfl⟩:=hr
  exact h1 m hm
 ·rw[zmd,Option.map_eq_none_iff]at hr
  exact h0 hr
end
theorem zcn(k:Nat):(nd 0 k:Int).tmod 2=0:=by rw[zde,Int.tmod_eq_emod_of_nonneg (by omega)];omega
theorem zc4(h k:Nat):(nd (h+1) k:Int).tmod 2=1:=by rw[z14,Int.tmod_eq_emod_of_nonneg (by omega)];omega
def Lean_.fitN(s:Lean_):Prop:=s.opn.length<=1000000/\s.shut.length<=1000000/\(∀x∈s.opn,x.node.fit)/\(∀x∈s.shut,x.hash.length<=1000000000)
theorem zej{l:List Spot}{x:Int}{n:Node}(h:zaf l x=some n): ∃s∈l,s.at_=x/\s.node=n:=by
 simp only[zaf,Option.map_eq_some_iff]at h
 obtain⟨s,hs,rfl⟩:=h
 exact⟨s,List.mem_of_find?_eq_some hs,by simpa using List.find?_some hs,rfl⟩
end Go.Proofs.YtoegdgbghdnnfaaGreat.Sx

namespace Go.Proofs.YtoegdgbghdnnfaaGreat
theorem zos: ∀(m h k:Nat),upT m h k=(List.range (m+1)).map λi=>trip (h+i) (k/2^i)
 |0,h,k=>by simp[upT]
 |m+1,h,k=>by
  rw[zrb,zos m h k,List.range_succ (n:=m+1),List.map_append]
  rfl
def sibN(k:Nat):Nat:=if k%2=0 then k+1 else k-1
theorem zfdb{d h k:Nat}(hd:d<=16)(hh:h<d)(hk:k<2^(d-h)):sibI (nd h k:Int) ((2^d:Nat):Int)=(nd h (sibN k):Int):=by
 rw[<-zol,zjn hd hh hk,if_neg (by omega),zd4 hd hh (zk8 hh hk),zdn hd hh (zk8 hh hk)]
 unfold sibN
 by_cases he:k%2=0
 ·rw[if_pos he,show 2*(k/2)=k by omega,if_pos rfl]
 ·rw[if_neg he,if_neg (λe=>by
   have:=(zfz (h:=h) (h':=h) (by omega) (by omega) (by omega:nd h (2*(k/2))=nd h k)).2
   omega),show 2*(k/2)=k-1 by omega]
theorem z2f{m k:Nat}(hk:k<2^(m+1)):sibN k<2^(m+1):=by
 rw[Nat.pow_succ]at*
 unfold sibN
 split<;>omega
theorem zmj{d o:Nat}(hd:d<=16)(ho:o<2^d):zc1 (nd 0 o:Int) ((2^d:Nat):Int)=(List.range d).map λh=>(nd (h+1) (o/2^(h+1)):Int):=by
 rw[zyy hd (Nat.zero_le _) (by simpa using ho),zos,Nat.sub_zero,List.range_succ_eq_map,List.map_cons,List.tail_cons,List.map_map,List.map_map]
 apply List.map_congr_left
 intro h _
 simp[trip]
theorem zft{d o:Nat}(hd:d<=16)(ho:o<2^d):zb6 (nd 0 o:Int) ((2^d:Nat):Int)=(List.range d).map λh=>(nd h (sibN (o/2^h)):Int):=by
 unfold zb6
 rw[zlo hd d 17 0 o (by omega) ho (by omega),zos,List.range_succ,List.map_append,List.map_cons,List.map_nil,List.dropLast_concat,List.map_map]
 apply List.map_congr_left
 intro h hh
 rw[List.mem_range]at hh
 simp only[Function.comp_apply,trip,Nat.zero_add]
 refine zfdb hd hh ?_
 rw[Nat.div_lt_iff_lt_mul (zag h),<-Nat.pow_add]
 rwa[show d-h+h=d by omega]
theorem ze9{d o h:Nat}(ho:o<2^d)(hh:h<=d):o/2^h<2^(d-h):=by
 rw[Nat.div_lt_iff_lt_mul (zag h),<-Nat.pow_add]
 rwa[show d-h+h=d by omega]
end Go.Proofs.YtoegdgbghdnnfaaGreat

namespace Go.Proofs.YtoegdgbghdnnfaaGreat.Sx
open Go.RowKit
theorem Vsem.field{P:Program}{T:TT}{S:St}{o:Oper}(hT:TOk P T){t:TypeId}{x:Operand}{i off:Nat}{ft:TypeId}{ti tf:TI}{fs:List (Nat×TypeId)}{cells:List RV}{rv:RV}{K:TF->Option Ow->Prop}(hop:o.op= .field t x i)(hti:tget T t=some ti)(hk:ti.k= .struct fs)(hfs:lget fs i=some (off,ft))(htf:tget T ft=some tf)(hag:tf.agg=false)
  (hx:opr S x=some (.r (.ag cells))) (hc:lget cells off=some rv) (hK:K (.r rv) none):Vsem P S o K:=by
 refine⟨_,_,λB N a w k Q ⟨g,hs⟩ hd=>?_,hK⟩
 have hv:=(zah hs hx).2
 simp only[TF.at_,RV.at_]at hv
 obtain⟨us,e,hl⟩:=hv
 rw[zba]at hc hfs
 have hul:=(RV.listAt_iff _ _).1 hl
 have hlt:off<us.toList.length:=by rw[hul.1];exact(List.getElem?_eq_some_iff.1 hc).1
 have hu:us.toList[off]?=some us.toList[off]:=List.getElem?_eq_getElem hlt
 have h1:=hul.2 off rv _ hc hu
 obtain⟨q,hq⟩:=hT.get hti
 obtain⟨d,hdd,hko,_⟩:=q.desc
 rw[hq]at hdd
 rw[hk]at hko
 obtain⟨fields,rfl,hfl⟩:=hko
 obtain⟨qf,hqf⟩:=hT.get htf
 obtain⟨df,hdf,_,hrow⟩:=qf.desc
 rw[hqf]at hdf
 rw[hag]at hrow
 have hagg:(isAgg ft).run P w= .ok false w:=by
  unfold isAgg
  rw[Sem.run_bind,run_underlying hdf w]
  cases df<;>simp_all [TypeDesc.isRow]
 rw[<-hfl,List.getElem?_map]at hfs
 cases hfi:fields.toList[i]? with
 |none=>simp[hfi]at hfs
 |some fd=>
  simp only[hfi,Option.map_some,Option.some.injEq,Prod.mk.injEq]at hfs
  obtain⟨rfl,rfl⟩:=hfs
  have hfa:fields[i]?=some fd:=by simpa using hfi
  have hua:us[fd.offset]?=some us.toList[fd.offset]:=by rw[<-Array.getElem?_toList];exact hu
  refine za0 (v:=us.toList[fd.offset]) (w':=w) ?_ ⟨k,g,hs.put hd trivial h1.2⟩
  simp[execOp,hop,Instr.field,run_underlying hdd w,hfa,e,part,hagg,hua,asAgg]
theorem zjl{x:Int}(hx:zbt x=true): ∃h k,h<=16/\k<2^(16-h)/\x=(nd h k:Int)/\lv x.toNat=h/\x.toNat/2^(lv x.toNat+1)=k:=by
 rw[zme]at hx
 obtain⟨d,h,k,hd,hn,hh,hk,rfl⟩:=ze6 hx
 have:d=16:=by
  rcases Nat.lt_or_ge d 16 with hlt |hge
  ·have:=Nat.pow_le_pow_right (n:=2) (by omega) (show d<=15 by omega)
   omega
  ·omega
 subst this
 have hle:=z13 hd hh hk
 have:=z4r hle
 have h2:=zfz (h:=h) (h':=lv (nd h k)) (by omega) (zgy hle).1 this
 exact⟨h,k,hh,hk,rfl,by rw[Int.toNat_natCast];exact h2.1.symm,by rw[Int.toNat_natCast];exact h2.2.symm⟩
theorem zbjb{n o:Int}(hf:zck n=true)(h0:0<=o)(h1:o<n): ∃d k:Nat,d<=16/\n=((2^d:Nat):Int)/\k<2^d/\o=(k:Int)/\2*o=(nd 0 k:Int):=by
 obtain⟨d,hd,rfl⟩:=zet hf
 obtain⟨k,rfl⟩:=Int.eq_ofNat_of_zero_le h0
 exact⟨d,k,hd,rfl,by omega,rfl,by rw[zde];omega⟩
theorem zh2{n o:Int}(hf:zck n=true)(h0:0<=o)(h1:o<n): ∀c∈zb6 (2*o) n,zbt c=true:=by
 obtain⟨d,k,hd,rfl,hk,rfl,e⟩:=zbjb hf h0 h1
 rw[e,zft hd hk]
 intro c hc
 obtain⟨h,hh,rfl⟩:=List.mem_map.1 hc
 rw[List.mem_range]at hh
 refine zeb (d:=d) hd (by omega) ?_
 rw[show d-h=d-h-1+1 by omega]
 exact z2f (by rw[show d-h-1+1=d-h by omega];exact ze9 hk (by omega))
theorem zun{α:Type}{p:α->Bool}{l:List α}{x:α}(hx:x∈l)(h:p x=false):l.all p=false:=by
 rw[List.all_eq_false];exact⟨x,hx,by simp[h]⟩
def zgh(i:Int)(n:Node):List UInt8:=if i<0\/65536<=i then[]else if n.right=false\/n.kind.toNat=2 then[]else zkc i n
def zsl(i:Int)(n:Node):Int:=if i<0\/65536<=i then 1 else if n.right=false\/n.kind.toNat=2 then 3 else 0
def zio(n:Node)(l r:List UInt8):List UInt8:=if n.right=false\/n.kind.toNat=1 then[]else if l.length≠32\/r.length≠32 then[]else zhv n l r
def zy3(n:Node)(l r:List UInt8):Int:=if n.right=false\/n.kind.toNat=1 then 3 else if l.length≠32\/r.length≠32 then 1 else 0
theorem zp5(i:Int)(n:Node)(hn:n.fit):bG 149 [I i, .ag n.c] (.r (.tu [bs (zgh i n), .i .u8 (zsl i n)])):=by
 have:=z3g i n hn
 unfold zgh zsl
 by_cases h1:i<0\/65536<=i
 ·rw[if_pos h1]at this;rw[if_pos h1,if_pos h1];exact this
 ·rw[if_neg h1]at this;rw[if_neg h1,if_neg h1]
  by_cases h2:n.right=false\/n.kind.toNat=2
  ·rw[if_pos h2]at this;rw[if_pos h2,if_pos h2];exact this
  ·rw[if_neg h2]at this;rw[if_neg h2,if_neg h2];exact this
theorem z3k(n:Node)(l r:List UInt8)(hn:n.fit):bG 150 [.ag n.c,bs l,bs r] (.r (.tu [bs (zio n l r), .i .u8 (zy3 n l r)])):=by
 have:=z6h n l r hn
 unfold zio zy3
 by_cases h1:n.right=false\/n.kind.toNat=1
 ·rw[if_pos h1]at this;rw[if_pos h1,if_pos h1];exact this
 ·rw[if_neg h1]at this;rw[if_neg h1,if_neg h1]
  by_cases h2:l.length≠32\/r.length≠32
  ·rw[if_pos h2]at this;rw[if_pos h2,if_pos h2];exact this
  ·rw[if_neg h2]at this;rw[if_neg h2,if_neg h2];exact this
theorem zvk(i:Int)(n:Node)(hn:n.fit):(zgh i n).length<=50000000000:=by
 have:=zfh n hn
 unfold zgh zkc
 split
 ·simp
 ·split
  ·simp
  ·simp[zao];omega
theorem z8m(n:Node)(l r:List UInt8)(hn:n.fit):(zio n l r).length<=50000000000:=by
 have:=zfh n hn
 unfold zio zhv
 split
 ·simp
 ·split
  ·simp
  ·have a:=zal l
   have b:=zal r
   simp;omega
theorem ze8{l:List Stub}{x:Int}{m:List UInt8}(h:ze1 l x=some m):zch l x=m/\∃s∈l,s.at_=x/\s.hash=m:=by
 simp only[ze1]at h
 refine⟨by simp[zch,h],?_⟩
 rw[Option.map_eq_some_iff]at h
 obtain⟨s,hs,rfl⟩:=h
 exact⟨s,List.mem_of_find?_eq_some hs,by simpa using List.find?_some hs,rfl⟩
theorem zf8{l:List Stub}{x:Int}(h:ze1 l x=none):zch l x=[]:=by
 simp only[ze1]at h
 simp[zch,h]
def zg1(s:Lean_)(b:Bool):List Int:=(zb6 (2*s.own) s.leaves).filter λc=>(zaf s.opn c).isSome==b
end Go.Proofs.YtoegdgbghdnnfaaGreat.Sx
