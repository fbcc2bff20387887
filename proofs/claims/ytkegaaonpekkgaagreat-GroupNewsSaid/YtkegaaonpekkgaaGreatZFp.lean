import Derived.Test.YtkegaaonpekkgaaGreatZFm
import Derived.Test.YtkegaaonpekkgaaGreatZKu
import Derived.Test.YtkegaaonpekkgaaGreatZFe
import Derived.Lib.MakeNoZero
import Derived.Test.YtkegaaonpekkgaaGreatZSxBx
namespace Go.Proofs.YtkegaaonpekkgaaGreat.Sx
open Go.RowKit
section
abbrev wsR(l:List UInt64):RV:= .sl 1 l.length (l.map W)
theorem z5g{l:List UInt64}{i:Int}{j:Nat}(h:i=j)(hj:j<l.length):((l.map W).drop (i.toNat*1)).take 1=[W (l.getD j 0)]:=by
 subst h
 simp only[Int.toNat_natCast,Nat.mul_one]
 rw[List.drop_eq_getElem_cons (by simpa using hj),List.getD_eq_getElem?_getD,List.getElem?_eq_getElem hj]
 simp
def bitW(ws:List UInt64)(i:Nat):UInt64:=shrW (ws.getD (i/64) 0) (i%64)&&&1
def S4.orb(x:S4)(b:UInt64):S4:=⟨x.a|||b,x.b,x.c,x.d⟩
def redN(ws:List UInt64):Nat->S4
 |0=>⟨0,0,0,0⟩
 |j+1=>(((redN ws j).sum (redN ws j)).orb (bitW ws (64*ws.length-1-j))).once
theorem zu2(ws:List UInt64):redN ws 0=⟨0,0,0,0⟩:=rfl
theorem zu1(ws:List UInt64)(j:Nat):redN ws (j+1)=(((redN ws j).sum (redN ws j)).orb (bitW ws (64*ws.length-1-j))).once:=rfl
attribute [irreducible] redN
def zir(ws:List UInt64):S4:=redN ws (64*ws.length)
def rdI(ws:List UInt64)(j:Nat):St:={F:=[(0, .r (wsR ws)),(2, .own 0),(3, .own 1),(4, .r (I (64*ws.length-j)))],O:=[(0,some (S4.bx ⟨0,0,0,0⟩)),(1,some (redN ws j).bx)],nx:=2}
set_option maxHeartbeats 4000000 in
theorem zxv(ws:List UInt64)(hw:ws.length<=1000000000):aG 335 [wsR ws] (.r (.ag (zir ws).v)):=by
 refine aT Tryz.func335 rfl ?_
 refine Vcode.scope2 mixed Tab_ok 0 (rdI ws) (λj=>j<=64*ws.length) (λj=>64*ws.length-j) rfl ?_ ?_
 ·(conv=>whnf)
  refine⟨rfl,?_⟩
  refine zd (m:=64*(ws.length:Int)) rfl (by omega) ?_
  refine⟨rfl,0,by omega,zac [(0,0),(1,1)] rfl ⟨cr,rfl,rfl,zf (by congr 1<;>omega),trivial⟩ ⟨(aC aZ),by rw[zu2];exact⟨_,_,rfl,cr,_,_,rfl,cr,_,_,rfl,cr,_,_,rfl,cr,rfl⟩,trivial⟩⟩
 ·intro j hj
  refine zd (m:=64*(ws.length:Int)-j-1) rfl (by omega) ?_
  refine zh (λh=>zp ?_) (λh=>zq ?_)
  ·simp only[zb]at h
   have hj':j<64*ws.length:=by omega
   generalize hX:redN ws j=x
   refine za rfl rfl ?_
   refine za rfl rfl ?_
   refine ze (z8m x x) ?_
   refine aV ?_
   refine Vadr.any (by decide) ?_
   refine Vquo.i64 (64*ws.length-1-j) 64 (by omega) rfl (by omega) (by omega) ?_
   refine zm (by omega) (by omega) (z5g rfl (by omega)) (zg rfl ?_)
   refine Vrem.nat (64*ws.length-1-j) 64 (by omega) rfl (by omega) ?_
   refine Vshr.w _ ((64*ws.length-1-j)%64) rfl rfl ?_
   refine Vbits.wand _ 1 rfl rfl ?_
   refine Vbits.wor _ _ rfl rfl ?_
   refine Vadr.any (by decide) ?_
   refine za rfl rfl ?_
   refine ze (z8e ((x.sum x).orb (bitW ws (64*ws.length-1-j)))) ?_
   exact⟨j+1,by omega,by omega,zac [(0,0),(1,1)] rfl ⟨cr,rfl,rfl,zf (by congr 1<;>omega),trivial⟩ ⟨(aC aZ),by rw[zu1,hX];exact⟨_,_,rfl,cr,_,_,rfl,cr,_,_,rfl,cr,_,_,rfl,cr,rfl⟩,trivial⟩⟩
  ·simp only[zb]at h
   obtain rfl:j=64*ws.length:=by omega
   refine za rfl rfl ?_
   refine za rfl rfl ?_
   exact cr
end
theorem zjmb(x y:UInt64):aG 488 [W x,W y] (.r (.tu [W (mulH x y),W (x*y)])):=by
 refine aT Tryz.func488 rfl ?_
 refine zq ?_
 refine ze (ztb x y) ?_
 exact⟨_,rfl,cr⟩
theorem zrb: ∀(n t:Nat) (acc:Array Value),(∀v∈acc.toList,v.oneCell'=true)->∀v∈(Extern.BytealgMakeNoZero.digits n t acc).toList,v.oneCell'=true
 |0,_,acc,h=>h
 |n+1,t,acc,h=>by
  rw[Extern.BytealgMakeNoZero.digits]
  refine zrb n _ _ λv hv=>?_
  rw[Array.toList_push,List.mem_append]at hv
  rcases hv with hv |hv
  ·exact h v hv
  ·rw[List.mem_singleton]at hv
   subst hv
   rfl
theorem zhwb{P:Program}(w:World)(ps:Array TypeId)(t e:TypeId)(ht:P.underlying t=some (.slice e))(n:Nat)(hn:n<=281474976710656):
  ∃cs:Array Value,(Extern.BytealgMakeNoZero.makeNoZero ps #[t] #[.int .i64 n]).run P w= .ok (.slice (some ⟨w.heap.size,0,none⟩) n cs.size) (w.drew.drew.alloc (.cells cs e))/\n<=cs.size/\cs.size<=maxLen/\∀v∈cs.toList,v.oneCell'=true:=by
 have hdef:Extern.BytealgMakeNoZero.makeNoZero ps #[t] #[.int .i64 n]=
   (do
    let .slice elem<-underlying t |stuck "bytealg.MakeNoZero: slice type expected"
    if(n:Int)<0||(n:Int)>2^48 then runtimePanic (.error "makeslice: len out of range")
    let cap<-choose (.appendCap (n:Int).toNat 0 elem)
    askRoom cap
    let bytes<-choose (.extern "internal/bytealg.MakeNoZero.bytes" 0)
    let a<-newRow elem (Extern.BytealgMakeNoZero.digits cap bytes #[])
    pure (.slice (some a) (n:Int).toNat cap)):=rfl
 refine⟨Extern.BytealgMakeNoZero.digits (grownCap w n 0 e) ((Question.extern "internal/bytealg.MakeNoZero.bytes" 0).cut (w.tape (w.drawn+1) (.extern "internal/bytealg.MakeNoZero.bytes" 0))) #[],?_,?_,?_,zrb _ _ _ (by simp)⟩
 ·rw[hdef]
  have h1: ¬(n:Int)<0:=by omega
  have h2: ¬(281474976710656:Int)< (n:Int):=by omega
  simp[run_underlying ht,h1,h2,Question.forced,newRow,Lib.size_digits,grownCap]
 ·rw[Lib.size_digits]
  simpa using grownCap_ge w n 0 e
 ·rw[Lib.size_digits]
  simpa using grownCap_le_maxLen w n 0 e (by simp only[maxLen];omega)
theorem zneb(n:Nat)(hn:n<=1000000000):Extn aP 489 [I n] (.own 5 1 n (List.replicate n .any)):=by
 intro w k vs h
 simp only[RV.partsAt,RV.at_]at h
 obtain⟨_,_,rfl,rfl,rfl⟩:=h
 obtain⟨cs,hr,h1,h2,h3⟩:=zhwb (P:=Tryz.prog) w #[3] 22 5 (by kernel_rfl) n (by omega)
 refine⟨_,_,(run_callFunc_extern Tryz.func489 (by kernel_rfl) (by kernel_rfl) (by kernel_rfl) (e:=Extern.BytealgMakeNoZero.makeNoZero #[3] #[22]) (by kernel_rfl) _ w).trans (by rw[hr];rfl),?_,kset k w.heap.size 0,λb hb=>zcc b hb,some w.heap.size,⟨by simp, .inr ⟨w.heap.size,cs.size,cs,rfl,rfl,heap_alloc_new w.drew.drew _,h1,h2,by omega,zby,?_⟩⟩,λb hb=>?_⟩
 ·exact Ext.alloc (Ext.drew (Ext.drew (Ext.refl w))) _
 ·rw[RV.listAt_iff]
  refine⟨by rw[List.length_take,Array.length_toList,List.length_replicate];omega,λj f u hf hu=>⟨?_,?_⟩⟩
  ·exact h3 u (List.mem_of_mem_take (List.mem_of_getElem? hu))
  ·have:=(List.getElem?_eq_some_iff.1 hf).2
   rw[List.getElem_replicate]at this
   subst this
   simp[RV.at_]
 ·injection hb with hb
  omega
section
variable {P:Program} {T:TT} {B:Bs} {N:Nat} {S:St} {a:Act} {w:World} {k:Kp} {g:Env} {o:Oper} {Q:Exit->Act->World->Prop}
theorem Vstep.min{x y:Operand}{ts:Array TypeId}{m n:Int}{K:St->Prop}(hop:o.op= .call {callee:= .builtin .min,args:= #[x,y],argTypes:=ts}) (hx:opr S x=some (.r (.i .i64 m))) (hy:opr S y=some (.r (.i .i64 n)))
  (hK:newK S o.dst (.r (.i .i64 (if n<m then n else m))) none K):Vstep P S o K:=by
 rw[zaw]at hK
 refine Vstep.one (λB N a w k Q ⟨g,hs⟩ hd=>?_) hK
 have hv:=(zaf hs hx).2
 have hn:=(zaf hs hy).2
 simp only[TF.at_,RV.at_]at hv hn
 refine zau (v:= .int .i64 (if n<m then n else m)) (w':=w) ?_ ⟨k,g,hs.put hd trivial (by simp[TF.at_,RV.at_])⟩
 simp[execOp,hop,resolve,invoke,builtin,hv,hn,Builtin.min_,Builtin.min2]
theorem Vstep.clip{t e:TypeId}{ti te:TI}{x y z:Operand}{id sz n:Nat}{cells:List RV}{K:St->Prop}(hT:TOk P T)(hop:o.op= .slice t x none (some y) (some z))(hti:tget T t=some ti)(hk:ti.k= .slice e)(hte:tget T e=some te)(hsz:te.sz=sz)
  (hx:opr S x=some (.own id)) (ho:oget S.O id=some (.ch e sz n cells false)) (hy:opr S y=some (.r (.i .i64 n))) (hz:opr S z=some (.r (.i .i64 n))) (hn:0<n)
  (hK:newK (S.set id none) o.dst (.own S.nx) (some (.ch e sz n cells false)) K):Vstep P S o K:=by
 rw[zaw]at hK
 refine Vstep.one (λB N a w k Q ⟨g,hs⟩ hd=>?_) hK
 have hxv:=(zaf hs hx).2
 have hyv:=(zaf hs hy).2
 have hzv:=(zaf hs hz).2
 simp only[TF.at_,RV.at_]at hxv hyv hzv
 obtain⟨q1,q2,q3,q4⟩:=hs.owns id _ ho
 simp only[Ow.at_]at q3
 obtain⟨q,hq⟩:=hT.get hti
 obtain⟨d,hdd,hko,_⟩:=q.desc
 rw[hq]at hdd
 rw[hk]at hko
 simp only[KOk]at hko
 subst hko
 obtain⟨qe,hqe⟩:=hT.get hte
 have hsize:=zba (w:=w) qe hqe
 have hw:Wrote w k w k (g id).2:=⟨rfl,rfl,rfl,Nat.le_refl _,λ_ _ _=>⟨rfl,rfl⟩,λ_ _=>⟨Nat.le_refl _,λ_ _=>rfl,λ_ _ _ h=>h⟩⟩
 have h1:=hs.wrote hw (id:=some id) ⟨⟨_,ho⟩,rfl⟩
 have hcl:=q3.1
 rcases q3.2 with⟨h,⟨h0,_⟩ |⟨_,h',_⟩⟩ |⟨b,cap,cur,g1,g2,g3,g4,g5,g6,g7,g8⟩
 ·omega
 ·cases h'
 have hrun:(Instr.sliceAt t (a.eval x) none (some (a.eval y)) (some (a.eval z))).run P w= .ok (.slice (some ⟨b,0,none⟩) n n) w:=by
  rw[hxv,hyv,hzv,g2]
  have hne: ¬n=0:=by omega
  simp[Instr.sliceAt,Instr.slice,Instr.sliceBounds,Instr.sliceBound,asIntOf,run_underlying hdd w,hsize,g4,hne,Addr.add]
 have hsl:n*sz<=cap*sz:=Nat.mul_le_mul_right _ g4
 refine zau (v:= .slice (some ⟨b,0,none⟩) n n) (w':=w) (by simp[execOp,hop,hrun]) ⟨k,_,h1.adopt hd (o:= .ch e sz n cells false) (vb:=(.slice (some ⟨b,0,none⟩) n n,(g id).2)) trivial ?_ (λb hb=>q4 b hb) λj o' b hj hb hgj=>?_⟩
 ·simp only[Ow.at_]
  exact⟨hcl, .inr ⟨b,n,cur,g1,rfl,g3,Nat.le_refl _,by omega,by omega,g7,g8⟩⟩
 ·rcases zas hj with⟨_,e'⟩ |⟨hne,hj⟩
  ·cases e'
  ·exact hs.apart id j _ o' b ho hj hne hb hgj
end
def wrdI(b:List UInt8)(i:Nat):List UInt64:=(List.range i).map λj=>za7 b (8*j) 8
theorem z0b(b:List UInt8)(i:Nat):(wrdI b i).length=i:=by simp[wrdI]
theorem zayb(b:List UInt8)(i:Nat):wrdI b (i+1)=wrdI b i++[za7 b (8*i) 8]:=by simp[wrdI,List.range_succ]
def scOf(b:List UInt8):S4:=zir (wrdI (b.take 64) (((b.take 64).length+7)/8))
def scI(b:List UInt8)(i:Nat):St:={F:=[(0, .r (bs b)),(2, .own 0),(3, .own 1),(4, .r (I ((8*i:Nat):Int)))],O:=[(0,some (S4.bx ⟨0,0,0,0⟩)),(1,some (.ch 43 1 i ((wrdI b i).map W) true))],nx:=2}
theorem za0b(l:List UInt64)(n:Nat)(h:l.length=n):RV.sl 1 n (l.map W)=wsR l:=by rw[<-h]
set_option maxHeartbeats 1000000 in
theorem zrr(b:List UInt8)(hb:b.length<=10000000000):aG 227 [bs b] (.r (.ag (scOf b).v)):=by
 refine aT Tryz.func227 rfl ?_
 refine Vstep.min rfl rfl rfl ?_
 have hl:(b.take 64).length=min 64 b.length:=List.length_take
 refine⟨by omega,by split<;>omega,by split<;>omega,(b.take 64).length,(b.take 64).map U8,by split<;>omega,?_,?_⟩
 ·rw[Int.toNat_zero,Nat.zero_mul,List.drop_zero,Nat.mul_one,List.map_take,hl]
  rcases Nat.le_total 64 b.length with h |h
  ·rw[Nat.min_eq_left h]
  ·rw[Nat.min_eq_right h,List.take_of_length_le (by simp),List.take_of_length_le (by simpa using h)]
 have hsc:scOf b=zir (wrdI (b.take 64) (((b.take 64).length+7)/8)):=rfl
 generalize b.take 64=c at*
 have hc:c.length<=64:=by omega
 refine zy (scI c) (λi=>i<=(c.length+7)/8) (λi=>(c.length+7)/8-i) 0 (by omega) (Sub.trans (zd7 3 43 1 rfl) (zac [(0,0),(1,1)] rfl ⟨cr,rfl,rfl,cr,trivial⟩ ⟨(aC aZ),⟨rfl,rfl,rfl,rfl,zn _⟩,trivial⟩)) ?_
 intro i hi
 refine zh (λh=>zp ?_) (λh=>zq ?_)
 ·simp only[zb]at h
  refine ze (zkr c (8*i) (by omega) (by omega)) ?_
  refine zw ?_
  refine Vapp.mk' (j:=i+1) (zs:=(wrdI c (i+1)).map W) (by simp[maxLen];omega) (by show(i+1)*8<=_;omega) rfl (by rw[zayb,List.map_append];rfl) ?_
  refine zd (m:=((8*(i+1):Nat):Int)) (by omega) (by omega) ?_
  exact⟨i+1,by omega,by omega,zac [(0,0),(1,3)] rfl ⟨cr,rfl,rfl,cr,trivial⟩ ⟨(aC aZ),⟨rfl,rfl,rfl,rfl,zn _⟩,trivial⟩⟩
 ·simp only[zb]at h
  obtain rfl:i=(c.length+7)/8:=by omega
  have hrd:=zxv (wrdI c ((c.length+7)/8)) (by rw[z0b];omega)
  rw[<-za0b _ _ (z0b c _)]at hrd
  refine ze hrd ?_
  refine za rfl rfl ?_
  rw[hsc]
  exact cr
section
set_option maxHeartbeats 1000000 in
theorem zgub(x y:S4):aG 229 [.ag x.v, .ag y.v] (.r (.ag (x.sum y).once.v)):=by
 refine aT Tryz.func229 rfl ?_
 refine za rfl rfl ?_
 refine za rfl rfl ?_
 refine ze (z8m x y) ?_
 refine za rfl rfl ?_
 refine ze (z8e (x.sum y)) ?_
 refine za rfl rfl ?_
 exact cr
theorem zekb(x:S4){j:Nat}(h:j<4):lget (x.v.map TF.r) (0+j*1)=some (TF.r (W (x.l.getD j 0))):=by
 rw[Nat.zero_add]
 exact zh5 (l:=x.l) h
def S4.bit(x:S4)(i:Nat):UInt64:=shrW (x.l.getD (i/64) 0) (i%64)&&&1
theorem zgvb(x:S4)(i:Nat)(hi:i<256):aG 221 [.ag x.v,I i] (.r (I (x.bit i).toNat)):=by
 refine aT Tryz.func221 rfl ?_
 refine zu (by simp only[decide_eq_false_iff_not];omega) ?_
 refine zu (by simp only[decide_eq_false_iff_not];omega) ?_
 refine zq ?_
 refine Vquo.i64 i 64 rfl rfl (by omega) (by omega) ?_
 refine Vadr.mk' (i/64) rfl (by omega) ?_
 (conv=>whnf)
 generalize hq:lget _ _=q
 obtain rfl:=hq.symm.trans (zekb x (by omega:i/64<4))
 clear hq
 refine Vrem.nat i 64 rfl rfl (by omega) ?_
 refine Vshr.w _ (i%64) rfl rfl ?_
 refine Vbits.wand _ 1 rfl rfl ?_
 refine zd (m:=((x.bit i).toNat:Int)) rfl ?_ ?_
 ·have:(x.bit i).toNat<=1:=by
   unfold S4.bit
   rw[UInt64.toNat_and]
   exact Nat.and_le_right
  show _<=((x.bit i).toNat:Int)/\((x.bit i).toNat:Int)<=_
  omega
 exact cr
def scC(x:S4)(i:Nat):UInt8:=UInt8.ofNat (shrW (x.l.getD (i/8) 0) (i%8*8)).toNat
def scB(x:S4)(j:Nat):List UInt8:=(List.range 32).map λi=>if i<j then scC x i else 0
def S4.bytes(x:S4):List UInt8:=scB x 32
theorem zo8(x:S4)(j:Nat):(scB x j).length=32:=by simp[scB]
theorem S4.bytes_len(x:S4):x.bytes.length=32:=zo8 _ _
theorem zdrb(x:S4):scB x 0=List.replicate 32 0:=by
 apply List.ext_getElem
 ·simp[zo8]
 ·intro i h1 h2
  unfold scB
  simp only[List.getElem_map,List.getElem_replicate,Nat.not_lt_zero,if_false]
theorem zdqb(x:S4)(j:Nat):scB x (j+1)=(scB x j).set j (scC x j):=by
 apply List.ext_getElem
 ·simp[scB]
 ·intro i h1 h2
  simp only[scB,List.getElem_set,List.getElem_map,List.getElem_range]
  by_cases h:j=i
  ·subst h;simp
  ·rw[if_neg h]
   by_cases h3:i<j
   ·rw[if_pos h3,if_pos (by omega)]
   ·rw[if_neg h3,if_neg (by omega)]
attribute [irreducible] scB scC
def sbI(x:S4)(j:Nat):St:={F:=[(1, .own 0),(3, .own 1),(7, .r (I 32)),(8, .r (I j))],O:=[(0,some x.bx),(1,some (.ch 5 1 32 ((scB x j).map U8) false))],nx:=2}
set_option maxHeartbeats 1000000 in
theorem z8n(x:S4):aG 231 [.ag x.v] (bch x.bytes):=by
 refine za1 (T:=Tab) mixed Tab_ok Tryz.func231 rfl (by kernel_rfl) ?_
 refine⟨rfl,by decide,by decide,by decide,_,_,rfl,zs32,Vpub.own ?_⟩
 refine Vloop.mkx (sbI x) (λi=>i<=32) (λi=>32-i) 0 (by omega) (zac [(0,0),(1,1)] rfl ⟨rfl,rfl,cr,cr,trivial⟩ ⟨(aC aZ),⟨rfl,rfl,rfl,rfl,by rw[zdrb];exact zn _⟩,trivial⟩) ?_
 intro i hi
 refine zh (λh=>zp ?_) (λh=>zq ?_)
 ·simp only[zb]at h
  have hi':i<32:=by omega
  refine Vquo.i64 i 8 rfl rfl (by omega) (by omega) ?_
  refine Vadr.mk' (i/8) rfl (by omega) ?_
  (conv=>whnf)
  generalize hq:lget _ _=q
  obtain rfl:=hq.symm.trans (zekb x (by omega:i/8<4))
  clear hq
  refine Vrem.nat i 8 rfl rfl (by omega) ?_
  refine zd (m:=((i%8*8:Nat):Int)) (by omega) (by omega) ?_
  refine Vshr.w _ (i%8*8) rfl rfl ?_
  refine Vint.u8 _ rfl ?_
  refine Vadr.mk' i rfl (by omega) ?_
  refine⟨by rw[List.length_map,zo8];show i*1+1<=32;omega,(scB x (i+1)).map U8,?_,?_⟩
  ·rw[zdqb,Nat.mul_one]
   unfold scC
   exact zc1 (by rw[zo8];omega)
  refine zd (m:=((i+1:Nat):Int)) (by omega) (by omega) ?_
  exact⟨i+1,by omega,by omega,zac [(0,0),(1,1)] rfl ⟨rfl,rfl,cr,cr,trivial⟩ ⟨(aC aZ),⟨rfl,rfl,rfl,rfl,zn _⟩,trivial⟩⟩
 ·simp only[zb]at h
  obtain rfl:i=32:=by omega
  refine⟨_,zo _,?_⟩
  refine⟨_,zbd (id:=1) rfl,?_⟩
  exact congrArg (λn=>some (Ow.ch 5 1 n (x.bytes.map U8) true)) x.bytes_len.symm
end
end Go.Proofs.YtkegaaonpekkgaaGreat.Sx
