import Derived.Test.YtkegaaonpekkgaaGreatXqFf
import Derived.Lib.MakeNoZero
import Derived.Test.YtkegaaonpekkgaaGreatXqFn
import Derived.Test.YtkegaaonpekkgaaGreatXqKg
import Derived.Test.YtkegaaonpekkgaaGreatXqSxU
namespace Go.Proofs.YtkegaaonpekkgaaGreat.Sx
open Go.RowKit
set_option maxHeartbeats 1000000
theorem EA(x y:UInt64):aG 488 [W x,W y] (.r (.tu [W (rN x y),W (x*y)])):=by
 refine aT Tryz.func488 rfl ?_
 refine zq ?_
 refine ze (YJ x y) ?_
 exact⟨_,rfl,cr⟩
theorem ar: ∀(n t:Nat) (acc:Array Value),(∀v∈acc.toList,v.oneCell'=true)->∀v∈(Extern.BytealgMakeNoZero.digits n t acc).toList,v.oneCell'=true
 |0,_,acc,h=>h
 |n+1,t,acc,h=>by
  rw[Extern.BytealgMakeNoZero.digits]
  refine ar n _ _ λv hv=>?_
  rw[Array.toList_push,List.mem_append]at hv
  rcases hv with hv |hv
  ·exact h v hv
  ·rw[List.mem_singleton]at hv
   subst hv
   rfl
theorem Fp{P:Program}(w:World)(ps:Array TypeId)(t e:TypeId)(ht:P.underlying t=some (.slice e))(n:Nat)(hn:n<=281474976710656):
  ∃cs:Array Value,(Extern.BytealgMakeNoZero.makeNoZero ps #[t] #[.int .i64 n]).run P w= .ok (.slice (some ⟨w.heap.size,0,none⟩) n cs.size) (w.drew.drew.alloc (.cells cs e))/\n<=cs.size/\cs.size<=maxLen/\∀v∈cs.toList,v.oneCell'=true:=by
 have hdef:Extern.BytealgMakeNoZero.makeNoZero ps #[t] #[.int .i64 n]=
   (do
    let .slice elem<-underlying t |stuck "bytealg.MakeNoZero: slice type expected"
    if(n:Int)<0||(n:Int)>2^48 then runtimePanic (.error "makeslice: len out of range")
    let cap<-choose (.appendCap (n:Int).toNat 0 elem)
    askRoom cap
    let bytes<-choose (.extern "internal/bytealg.MakeNoZero.bytes" 0)
    let a<-newRow elem (Extern.BytealgMakeNoZero.digits cap bytes #[])
    pure (.slice (some a) (n:Int).toNat cap)):=rfl
 refine⟨Extern.BytealgMakeNoZero.digits (grownCap w n 0 e) ((Question.extern "internal/bytealg.MakeNoZero.bytes" 0).cut (w.tape (w.drawn+1) (.extern "internal/bytealg.MakeNoZero.bytes" 0))) #[],?_,?_,?_,ar _ _ _ (by simp)⟩
 ·rw[hdef]
  have h1: ¬(n:Int)<0:=by omega
  have h2: ¬(281474976710656:Int)< (n:Int):=by omega
  simp[run_underlying ht,h1,h2,Question.forced,newRow,Lib.size_digits,grownCap]
 ·rw[Lib.size_digits]
  simpa using grownCap_ge w n 0 e
 ·rw[Lib.size_digits]
  simpa using grownCap_le_maxLen w n 0 e (by simp only[maxLen];omega)
theorem Bx(n:Nat)(hn:n<=1000000000):Extn aP 489 [I n] (.own 5 1 n (List.replicate n .any)):=by
 intro w k vs h
 simp only[RV.partsAt,RV.at_]at h
 obtain⟨_,_,rfl,rfl,rfl⟩:=h
 obtain⟨cs,hr,h1,h2,h3⟩:=Fp (P:=Tryz.prog) w #[3] 22 5 (by kernel_rfl) n (by omega)
 refine⟨_,_,(run_callFunc_extern Tryz.func489 (by kernel_rfl) (by kernel_rfl) (by kernel_rfl) (e:=Extern.BytealgMakeNoZero.makeNoZero #[3] #[22]) (by kernel_rfl) _ w).trans (by rw[hr];rfl),?_,x6 k w.heap.size 0,λb hb=>wR b hb,some w.heap.size,⟨by simp,.inr ⟨w.heap.size,cs.size,cs,rfl,rfl,heap_alloc_new w.drew.drew _,h1,h2,by omega,wo,?_⟩⟩,λb hb=>?_⟩
 ·exact Ext.alloc (Ext.drew (Ext.drew (Ext.refl w))) _
 ·rw[RV.listAt_iff]
  refine⟨by rw[bL,bG,List.length_replicate];omega,λj f u hf hu=>⟨?_,?_⟩⟩
  ·exact h3 u (List.mem_of_mem_take (cH hu))
  ·have:=(List.getElem?_eq_some_iff.1 hf).2
   rw[List.getElem_replicate]at this
   subst this
   simp[RV.at_]
 ·injection hb with hb
  omega
section
variable {P:Program} {T:TT} {B:Bs} {N:Nat} {S:St} {a:Act} {w:World} {k:Kp} {g:Env} {o:Oper} {Q:Exit->Act->World->Prop}
theorem Vstep.min{x y:Operand}{ts:Array TypeId}{m n:Int}{K:St->Prop}(hop:o.op= .call {callee:= .builtin .min,args:= #[x,y],argTypes:=ts}) (hx:yv S x=some (.r (.i .i64 m))) (hy:yv S y=some (.r (.i .i64 n)))
  (hK:yI S o.dst (.r (.i .i64 (if n<m then n else m))) none K):Vstep P S o K:=by
 rw[yJ]at hK
 refine zI (λB N a w k Q ⟨g,hs⟩ hd=>?_) hK
 have hv:=(yi hs hx).2
 have hn:=(yi hs hy).2
 simp only[TF.at_,RV.at_]at hv hn
 refine yG (v:= .int .i64 (if n<m then n else m)) (w':=w) ?_ ⟨k,g,hs.put hd trivial (by simp[TF.at_,RV.at_])⟩
 simp[execOp,hop,resolve,invoke,builtin,hv,hn,Builtin.min_,Builtin.min2]
theorem Vstep.clip{t e:TypeId}{ti te:TI}{x y z:Operand}{id sz n:Nat}{cells:List RV}{K:St->Prop}(hT:TOk P T)(hop:o.op= .slice t x none (some y) (some z))(hti:yL T t=some ti)(hk:ti.k= .slice e)(hte:yL T e=some te)(hsz:te.sz=sz)
  (hx:yv S x=some (.own id)) (ho:ye S.O id=some (.ch e sz n cells false)) (hy:yv S y=some (.r (.i .i64 n))) (hz:yv S z=some (.r (.i .i64 n))) (hn:0<n)
  (hK:yI (S.set id none) o.dst (.own S.nx) (some (.ch e sz n cells false)) K):Vstep P S o K:=by
 rw[yJ]at hK
 refine zI (λB N a w k Q ⟨g,hs⟩ hd=>?_) hK
 have hxv:=(yi hs hx).2
 have hyv:=(yi hs hy).2
 have hzv:=(yi hs hz).2
 simp only[TF.at_,RV.at_]at hxv hyv hzv
 obtain⟨q1,q2,q3,q4⟩:=hs.owns id _ ho
 simp only[Ow.at_]at q3
 obtain⟨q,hq⟩:=hT.get hti
 obtain⟨d,hdd,hko,_⟩:=q.desc
 rw[hq]at hdd
 rw[hk]at hko
 simp only[u5]at hko
 subst hko
 obtain⟨qe,hqe⟩:=hT.get hte
 have hsize:=xq (w:=w) qe hqe
 have hw:Wrote w k w k (g id).2:=⟨rfl,rfl,rfl,bQ _,λ_ _ _=>⟨rfl,rfl⟩,λ_ _=>⟨bQ _,λ_ _=>rfl,λ_ _ _ h=>h⟩⟩
 have h1:=hs.wrote hw (id:=some id) ⟨⟨_,ho⟩,rfl⟩
 have hcl:=q3.1
 rcases q3.2 with⟨h,⟨h0,_⟩ |⟨_,h',_⟩⟩ |⟨b,cap,cur,g1,g2,g3,g4,g5,g6,g7,g8⟩
 ·omega
 ·cases h'
 have hrun:(Instr.sliceAt t (a.eval x) none (some (a.eval y)) (some (a.eval z))).run P w= .ok (.slice (some ⟨b,0,none⟩) n n) w:=by
  rw[hxv,hyv,hzv,g2]
  have hne: ¬n=0:=by omega
  simp[Instr.sliceAt,Instr.slice,Instr.sliceBounds,Instr.sliceBound,asIntOf,run_underlying hdd w,hsize,g4,hne,Addr.add]
 have hsl:n*sz<=cap*sz:=Nat.mul_le_mul_right _ g4
 refine yG (v:= .slice (some ⟨b,0,none⟩) n n) (w':=w) (by simp[execOp,hop,hrun]) ⟨k,_,h1.adopt hd (o:= .ch e sz n cells false) (vb:=(.slice (some ⟨b,0,none⟩) n n,(g id).2)) trivial ?_ (λb hb=>q4 b hb) λj o' b hj hb hgj=>?_⟩
 ·simp only[Ow.at_]
  exact⟨hcl,.inr ⟨b,n,cur,g1,rfl,g3,bQ _,by omega,by omega,g7,g8⟩⟩
 ·rcases yD hj with⟨_,e'⟩ |⟨hne,hj⟩
  ·cases e'
  ·exact hs.apart id j _ o' b ho hj hne hb hgj
end
def kf(b:cT)(i:Nat):List UInt64:=(List.range i).map λj=>xi b (8*j) 8
theorem TL(b:cT)(i:Nat):(kf b i).length=i:=by simp[kf]
theorem Lh(b:cT)(i:Nat):kf b (i+1)=kf b i++[xi b (8*i) 8]:=by simp[kf,List.range_succ]
def lV(b:cT):S4:=nQ (kf (b.take 64) (((b.take 64).length+7)/8))
def AN(b:cT)(i:Nat):St:={F:=[(0,.r (bs b)),(2,.own 0),(3,.own 1),(4,.r (I ((8*i:Nat):Int)))],O:=[(0,some (S4.bx ⟨0,0,0,0⟩)),(1,some (.ch 43 1 i ((kf b i).map W) true))],nx:=2}
theorem Ll(l:List UInt64)(n:Nat)(h:l.length=n):RV.sl 1 n (l.map W)=Bd l:=by rw[<-h]
theorem Z4(b:cT)(hb:b.length<=10000000000):aG 227 [bs b] (.r (.ag (lV b).v)):=by
 refine aT Tryz.func227 rfl ?_
 refine Vstep.min rfl rfl rfl ?_
 have hl:(b.take 64).length=min 64 b.length:=bL
 refine⟨by omega,by split<;>omega,by split<;>omega,(b.take 64).length,(b.take 64).map U8,by split<;>omega,?_,?_⟩
 ·rw[Int.toNat_zero,Nat.zero_mul,List.drop_zero,cL,List.map_take,hl]
  rcases Nat.le_total 64 b.length with h |h
  ·rw[Nat.min_eq_left h]
  ·rw[Nat.min_eq_right h,bF (by simp),bF (by simpa using h)]
 have hsc:lV b=nQ (kf (b.take 64) (((b.take 64).length+7)/8)):=rfl
 generalize b.take 64=c at*
 have hc:c.length<=64:=by omega
 refine zy (AN c) (λi=>i<=(c.length+7)/8) (λi=>(c.length+7)/8-i) 0 (by omega) (Sub.trans (uh 3 43 1 rfl) (zN [(0,0),(1,1)] ⟨(aC aZ),⟨rfl,rfl,rfl,rfl,zn _⟩,trivial⟩)) ?_
 intro i hi
 refine cZ (λh=>?_) λh=>?_
 ·simp only[zb]at h
  refine ze (kD c (8*i) (by omega) (by omega)) ?_
  refine zw ?_
  refine z7 (j:=i+1) (zs:=(kf c (i+1)).map W) (by simp[maxLen];omega) (by show(i+1)*8<=_;omega) rfl (by rw[Lh,bM];rfl) ?_
  refine zd (m:=((8*(i+1):Nat):Int)) (by omega) (by omega) ?_
  exact⟨i+1,by omega,by omega,zN [(0,0),(1,3)] ⟨(aC aZ),⟨rfl,rfl,rfl,rfl,zn _⟩,trivial⟩⟩
 ·simp only[zb]at h
  obtain rfl:i=(c.length+7)/8:=by omega
  have hrd:=VY (kf c ((c.length+7)/8)) (by rw[TL];omega)
  rw[<-Ll _ _ (TL c _)]at hrd
  refine ze hrd ?_
  refine cU ?_
  rw[hsc]
  exact cr
section
theorem G5(x y:S4):aG 229 [.ag x.v,.ag y.v] (.r (.ag (x.sum y).once.v)):=by
 refine aT Tryz.func229 rfl ?_
 refine cU ?_
 refine cU ?_
 refine ze (NG x y) ?_
 refine cU ?_
 refine ze (N7 (x.sum y)) ?_
 refine cU ?_
 exact cr
theorem JO(x:S4){j:Nat}(h:j<4):yp (x.v.map TF.r) (0+j*1)=some (TF.r (W (x.l.getD j 0))):=by
 rw[Nat.zero_add]
 exact nu (l:=x.l) h
def S4.bit(x:S4)(i:Nat):UInt64:=yA (x.l.getD (i/64) 0) (i%64)&&&1
theorem G6(x:S4)(i:Nat)(hi:i<256):aG 221 [.ag x.v,I i] (.r (I (x.bit i).toNat)):=by
 refine aT Tryz.func221 rfl ?_
 refine zu (by simp only[decide_eq_false_iff_not];omega) ?_
 refine zu (by simp only[decide_eq_false_iff_not];omega) ?_
 refine zq ?_
 refine Vquo.i64 i 64 rfl rfl (by omega) (by omega) ?_
 refine zD (i/64) rfl (by omega) ?_
 (conv=>whnf)
 generalize hq:yp _ _=q
 obtain rfl:=hq.symm.trans (JO x (by omega:i/64<4))
 clear hq
 refine Vrem.nat i 64 rfl rfl (by omega) ?_
 refine Vshr.w _ (i%64) rfl rfl ?_
 refine Vbits.wand _ 1 rfl rfl ?_
 refine zd (m:=((x.bit i).toNat:Int)) rfl ?_ ?_
 ·have:(x.bit i).toNat<=1:=by
   unfold S4.bit
   rw[UInt64.toNat_and]
   exact Nat.and_le_right
  show _<=((x.bit i).toNat:Int)/\((x.bit i).toNat:Int)<=_
  omega
 exact cr
def ML(x:S4)(i:Nat):UInt8:=UInt8.ofNat (yA (x.l.getD (i/8) 0) (i%8*8)).toNat
def jb(x:S4)(j:Nat):cT:=(List.range 32).map λi=>if i<j then ML x i else 0
def S4.bytes(x:S4):cT:=jb x 32
theorem ef(x:S4)(j:Nat):(jb x j).length=32:=by simp[jb]
theorem S4.bytes_len(x:S4):x.bytes.length=32:=ef _ _
theorem Jh(x:S4):jb x 0=List.replicate 32 0:=by
 apply List.ext_getElem
 ·simp[ef]
 ·intro i h1 h2
  unfold jb
  simp only[List.getElem_map,List.getElem_replicate,Nat.not_lt_zero,if_false]
theorem Jg(x:S4)(j:Nat):jb x (j+1)=(jb x j).set j (ML x j):=by
 apply List.ext_getElem
 ·simp[jb]
 ·intro i h1 h2
  simp only[jb,List.getElem_set,List.getElem_map,List.getElem_range]
  by_cases h:j=i
  ·subst h;simp
  ·rw[cQ h]
   by_cases h3:i<j
   ·rw[cO h3,cO (by omega)]
   ·rw[cQ h3,cQ (by omega)]
attribute [irreducible] jb ML
def AM(x:S4)(j:Nat):St:={F:=[(1,.own 0),(3,.own 1),(7,.r (I 32)),(8,.r (I j))],O:=[(0,some x.bx),(1,some (.ch 5 1 32 ((jb x j).map U8) false))],nx:=2}
theorem NH(x:S4):aG 231 [.ag x.v] (xJ x.bytes):=by
 refine yT (T:=Tab) mixed Tab_ok Tryz.func231 rfl (by kernel_rfl) ?_
 refine⟨rfl,by decide,by decide,by decide,_,_,rfl,bt,Vpub.own ?_⟩
 refine Vloop.mkx (AM x) (λi=>i<=32) (λi=>32-i) 0 (by omega) (zN [(0,0),(1,1)] ⟨(aC aZ),⟨rfl,rfl,rfl,rfl,by rw[Jh];exact zn _⟩,trivial⟩) ?_
 intro i hi
 refine cZ (λh=>?_) λh=>?_
 ·simp only[zb]at h
  have hi':i<32:=by omega
  refine Vquo.i64 i 8 rfl rfl (by omega) (by omega) ?_
  refine zD (i/8) rfl (by omega) ?_
  (conv=>whnf)
  generalize hq:yp _ _=q
  obtain rfl:=hq.symm.trans (JO x (by omega:i/8<4))
  clear hq
  refine Vrem.nat i 8 rfl rfl (by omega) ?_
  refine zd (m:=((i%8*8:Nat):Int)) (by omega) (by omega) ?_
  refine Vshr.w _ (i%8*8) rfl rfl ?_
  refine Vint.u8 _ rfl ?_
  refine zD i rfl (by omega) ?_
  refine⟨by rw[bC,ef];show i*1+1<=32;omega,(jb x (i+1)).map U8,?_,?_⟩
  ·rw[Jg,cL]
   unfold ML
   exact vI (by rw[ef];omega)
  refine zd (m:=((i+1:Nat):Int)) (by omega) (by omega) ?_
  exact⟨i+1,by omega,by omega,zN [(0,0),(1,1)] ⟨(aC aZ),⟨rfl,rfl,rfl,rfl,zn _⟩,trivial⟩⟩
 ·simp only[zb]at h
  obtain rfl:i=32:=by omega
  refine⟨_,zo _,?_⟩
  refine⟨_,xE (id:=1) rfl,?_⟩
  exact cR (λn=>some (Ow.ch 5 1 n (x.bytes.map U8) true)) x.bytes_len.symm
end
structure FA where
 i:Nat
 d:Nat
 f:TF
 deps:List Nat
def vm:List FA->Nat->Option FA
 |[],_=>none
 |x::r,i=>match Nat.beq x.i i with
  |true=>some x
  |false=>vm r i
def j6(A:List FA)(i:Nat):Bool:=match vm A i with
 |some _=>true
 |none=>false
def nZ(A:List FA):List Nat->List (Nat×TF)->List (Nat×TF)
 |[],Y=>Y
 |j::r,Y=>match vm A j with
  |some x=>(x.d,x.f)::nZ A r Y
  |none=>nZ A r Y
def j5:List FA->List (Nat×TF)
 |[]=>[]
 |x::r=>(x.d,x.f)::j5 r
def Zb(P:Program)(T:TT)(S:St)(o:Oper)(S2:St):Prop:=match o.op with
 | .buildSlice _ _ _=>si P T S o (λS'=>Sub S' S2)\/Yld P S o S2
 |_=>si P T S o (λS'=>Sub S' S2)
theorem Qu{P:Program}{T:TT}(hT:TOk P T){S S2:St}{o:Oper}(h:Zb P T S o S2):Yld P S o S2:=by
 have sub:si P T S o (λS'=>Sub S' S2)->Yld P S o S2:=λh B N a w k Q hs hd=>by
  refine Oper.wp_mono ?_ (tL (Q:=Q) hT hs hd h)
  rintro a' w' ⟨S',k',hsub,hs'⟩
  exact hsub B N a' w' k' hs'
 unfold Zb at h
 split at h
 ·exact h.elim sub id
 ·exact sub h
def kr(P:Program)(T:TT)(l:List Oper)(A:List FA)(F:List (Nat×TF))(O:List (Nat×Option Ow))(nx:Nat):List FA->Prop
 |[]=>True
 |x::r=>(match yp l x.i with
  |some o=>∀Y,Zb P T ⟨F++nZ A x.deps Y,O,nx⟩ o ⟨(x.d,x.f)::(F++nZ A x.deps Y),O,nx⟩
  |none=>False)/\kr P T l A F O nx r
def ks(P:Program)(T:TT)(l:List Oper)(A:List FA)(E:List (Nat×TF)->List (Nat×Option Ow)->Nat->Prop):List (Nat×List Nat)->List (Nat×TF)->List (Nat×Option Ow)->Nat->Prop
 |[],F,O,nx=>yZ (λx=> !(xu x.1 (A.map (·.d)))) F=true/\kr P T l A F O nx A/\E F O nx
 |b::bs,F,O,nx=>yZ (λx=> !(xu x.1 (A.map (·.d)))) F=true/\kr P T l A F O nx A/\∃F' O' nx',(match yp l b.1 with
  |some o=>∀Y,si P T ⟨F++nZ A b.2 Y,O,nx⟩ o λS'=>Sub S' ⟨F'++nZ A b.2 Y,O',nx'⟩
  |none=>False)/\ks P T l A E bs F' O' nx'
def kY:List Nat->Bool
 |[]=>true
 |x::r=>yZ (λy=>Nat.blt x y) r&&kY r
def Y1(l:List Oper)(m:Nat)(A:List FA)(bl:List (Nat×List Nat)):Bool:=
 let bs:=bl.map (·.1)
 let ws:=yq [] l
 Nat.ble m l.length&&(sC (A.map (·.d))&&(sC (A.map (·.i))&&(kY bs&&(yZ (λi=>Nat.blt i m&& !(j6 A i)) bs&&(yZ (λx=>Nat.blt x.i m) A&&(yZ (λb=>yZ (λj=>xu j ((yp ws b.1).getD [])&&j6 A j) b.2) bl&&
 yZ (λi=>match yp l i with
  |none=>false
  |some o=>yZ (λe=>Nat.blt e i) (yt o)&&
   (if Nat.blt i m then(match o.guard with |none=>true |some _=>false)&&(match vm A i with
    |some x=>yZ (λj=>xu j ((yp ws i).getD [])&&j6 A j) x.deps
    |none=>xu i bs&&yZ (λj=>j6 A j||xu j ((yp ws i).getD [])) (List.range i))
   else yZ (λj=>xu j ((yp ws i).getD [])) (List.range i))) (List.range l.length)))))))
theorem gb: ∀{A:List FA} {i:Nat} {x:FA},vm A i=some x->x∈A/\x.i=i
 |[],i,x,h=>by simp[vm]at h
 |y::r,i,x,h=>by
  simp only[vm]at h
  split at h
  ·rename_i hb;cases h;exact⟨by simp,bI hb⟩
  ·have:=gb h;exact⟨cK _ this.1,this.2⟩
theorem Vs{A:List FA}{x:FA}(hn:(A.map (·.i)).Nodup)(hx:x∈A):vm A x.i=some x:=by
 induction A with
 |nil=>cases hx
 |cons y r ih=>
  simp only[cJ,List.nodup_cons]at hn
  rcases List.mem_cons.1 hx with rfl |hx
  ·simp[vm]
  ·have:y.i≠x.i:=λe=>hn.1 (by rw[e];exact List.mem_map.2 ⟨x,hx,rfl⟩)
   simp only[vm,iV this]
   exact ih hn.2 hx
theorem Zd{P:Program}{T:TT}{l:List Oper}{A:List FA}{F:List (Nat×TF)}{O:List (Nat×Option Ow)}{nx:Nat}: ∀{r:List FA},kr P T l A F O nx r->∀x∈r,∃o,l[x.i]?=some o/\∀Y,Zb P T ⟨F++nZ A x.deps Y,O,nx⟩ o ⟨(x.d,x.f)::(F++nZ A x.deps Y),O,nx⟩
 |[],_,x,hx=>by cases hx
 |y::r,h,x,hx=>by
  simp only[kr]at h
  rcases List.mem_cons.1 hx with rfl |hx
  ·have h1:=h.1
   rw[yE]at h1
   split at h1
   ·rename_i o ho;exact⟨o,ho,h1⟩
   ·exact h1.elim
  ·exact Zd h.2 x hx
def Eg(A:List FA)(D:Nat->Prop)(t:Nat)(f:TF):Prop:=∃x∈A,D x.i/\x.d=t/\x.f=f
def FX(A:List FA)(D:Nat->Prop)(X:List (Nat×TF)):Prop:=∀t f,yl X t=some f↔Eg A D t f
theorem Ey{A:List FA}(hn:(A.map (·.d)).Nodup): ∀{x y:FA},x∈A->y∈A->x.d=y.d->x=y:=by
 induction A with
 |nil=>intro x y hx;cases hx
 |cons z r ih=>
  intro x y hx hy e
  simp only[cJ,List.nodup_cons]at hn
  rcases List.mem_cons.1 hx with ex |hx2
  ·rcases List.mem_cons.1 hy with ey |hy2
   ·rw[ex,ey]
   ·exact absurd (List.mem_map.2 ⟨y,hy2,by rw[<-e,ex]⟩) hn.1
  ·rcases List.mem_cons.1 hy with ey |hy2
   ·exact absurd (List.mem_map.2 ⟨x,hx2,by rw[e,ey]⟩) hn.1
   ·exact ih hn.2 hx2 hy2 e
theorem Qr{A:List FA}(hn:(A.map (·.d)).Nodup): ∀t f,yl (j5 A) t=some f↔∃x∈A,x.d=t/\x.f=f:=by
 induction A with
 |nil=>intro t f;simp[j5,yl]
 |cons y r ih=>
  intro t f
  simp only[cJ,List.nodup_cons]at hn
  constructor
  ·intro h
   rcases yO h with⟨e,e'⟩ |⟨_,h⟩
   ·exact⟨y,by simp,e,e'.symm⟩
   ·obtain⟨x,hx,h1,h2⟩:=(ih hn.2 t f).1 h
    exact⟨x,cK _ hx,h1,h2⟩
  ·rintro⟨x,hx,h1,h2⟩
   simp only[j5]
   rcases List.mem_cons.1 hx with rfl |hx
   ·rw[h1];simp[yl,h2]
   ·have:y.d≠t:=λe=>hn.1 (by rw[e,<-h1];exact List.mem_map.2 ⟨x,hx,rfl⟩)
    rw[nM this]
    exact(ih hn.2 t f).2 ⟨x,hx,h1,h2⟩
section
variable {P:Program} {T:TT} {B:Bs} {N:Nat} {S:St} {a:Act} {w:World} {k:Kp} {g:Env} {Q:Exit->Act->World->Prop} {l:List Oper} {m:Nat} {A:List FA} {bl:List (Nat×List Nat)} {bs:List Nat}
theorem lr{F F':List (Nat×TF)}{O:List (Nat×Option Ow)}{nx:Nat}(h: ∀t f,yl F' t=some f->yl F t=some f)(hs:yK B N ⟨F,O,nx⟩ a w k):yK B N ⟨F',O,nx⟩ a w k:=by
 obtain⟨g,hs⟩:=hs
 exact⟨g,hs.size,hs.defers,hs.keep,hs.kk,λt f hf=>hs.facts t f (h t f hf),hs.owns,hs.apart⟩
theorem tF{F F':List (Nat×TF)}{t:Nat}(h:yl F t=none):yl (F++F') t=yl F' t:=by
 induction F with
 |nil=>rfl
 |cons x r ih=>
  obtain⟨x1,x2⟩:=x
  rw[List.cons_append]
  simp only[yl]at h⊢
  split at h
  ·cases h
  ·exact ih h
theorem tG{F F':List (Nat×TF)}{t:Nat}{f:TF}(h:yl F t=some f):yl (F++F') t=some f:=by
 induction F with
 |nil=>simp[yl]at h
 |cons x r ih=>
  obtain⟨x1,x2⟩:=x
  rw[List.cons_append]
  simp only[yl]at h⊢
  split at h
  ·exact h
  ·exact ih h
theorem OG{F:List (Nat×TF)}{t:Nat}{f:TF}(h:yl F t=some f): ∃x∈F,x.1=t:=by
 induction F with
 |nil=>simp[yl]at h
 |cons x r ih=>
  obtain⟨x1,x2⟩:=x
  rcases yO h with⟨e,_⟩ |⟨_,h⟩
  ·exact⟨(x1,x2),by simp,e⟩
  ·obtain⟨y,hy,e⟩:=ih h;exact⟨y,cK _ hy,e⟩
structure FlOk (l:List Oper) (m:Nat) (A:List FA) (bl:List (Nat×List Nat)) (bs:List Nat):Prop where
 le:m<=l.length
 dd:(A.map (·.d)).Nodup
 ii:(A.map (·.i)).Nodup
 rises:kY bs=true
 bsm: ∀i∈bs,i<m/\vm A i=none
 am: ∀x∈A,x.i<m
 edge: ∀i o,l[i]?=some o->∀e∈yt o,e<i
 grd: ∀i o,i<m->l[i]?=some o->o.guard=none
 fa: ∀i x,i<m->i<l.length->vm A i=some x->∀j∈x.deps,j∈(yp (yq [] l) i).getD []/\∃y,vm A j=some y
 fb: ∀i,i<m->i<l.length->vm A i=none->i∈bs/\∀j,j<i->vm A j=none->j∈(yp (yq [] l) i).getD []
 back: ∀i,m<=i->i<l.length->∀j,j<i->j∈(yp (yq [] l) i).getD []
 fd: ∀b∈bl,∀j∈b.2,j∈(yp (yq [] l) b.1).getD []/\∃y,vm A j=some y
theorem HO(h:Y1 l m A bl=true):FlOk l m A bl (bl.map (·.1)):=by
 simp only[Y1,bB,Nat.ble_eq]at h
 obtain⟨h1,h2,h3,h4,h5,h55,h56,h6⟩:=h
 have blt: ∀{x y:Nat},Nat.blt x y=true↔x<y:=λ{x y}=>by simp[Nat.blt];omega
 have at_: ∀i o,l[i]?=some o->yZ (λe=>Nat.blt e i) (yt o)=true/\
   (if Nat.blt i m then(match o.guard with |none=>true |some _=>false)&&(match vm A i with
    |some x=>yZ (λj=>xu j ((yp (yq [] l) i).getD [])&&j6 A j) x.deps
    |none=>xu i (bl.map (·.1))&&yZ (λj=>j6 A j||xu j ((yp (yq [] l) i).getD [])) (List.range i))
   else yZ (λj=>xu j ((yp (yq [] l) i).getD [])) (List.range i))=true:=λi o ho=>by
  have:=(yC.1 h6) i (List.mem_range.2 (List.getElem?_eq_some_iff.1 ho).1)
  rw[yE,ho]at this
  simpa only[bB]using this
 have inA: ∀j,j6 A j=true->∃y,vm A j=some y:=λj hj=>by
  unfold j6 at hj
  split at hj
  ·rename_i y hy;exact⟨y,hy⟩
  ·cases hj
 refine⟨h1,wF h2,wF h3,h4,λi hi=>?_,λx hx=>blt.1 ((yC.1 h55) x hx),λi o ho e he=>?_,λi o hi ho=>?_,λi x hi hil hx j hj=>?_,λi hi hil hx=>?_,λi hi hil j hj=>?_,λb hb j hj=>?_⟩
 ·have:=(yC.1 h5) i hi
  simp only[bB,Bool.not_eq_true']at this
  refine⟨blt.1 this.1,?_⟩
  have h7:=this.2
  unfold j6 at h7
  split at h7
  ·cases h7
  ·assumption
 ·exact blt.1 ((yC.1 (at_ i o ho).1) e he)
 ·have:=(at_ i o ho).2
  rw[cO (blt.2 hi)]at this
  simp only[bB]at this
  have h7:=this.1
  split at h7
  ·assumption
  ·cases h7
 ·have:=(at_ i _ (bA hil)).2
  rw[cO (blt.2 hi)]at this
  simp only[bB,hx]at this
  have h7:=(yC.1 this.2) j hj
  simp only[bB]at h7
  exact⟨yW.1 h7.1,inA j h7.2⟩
 ·have:=(at_ i _ (bA hil)).2
  rw[cO (blt.2 hi)]at this
  simp only[bB,hx]at this
  refine⟨yW.1 this.2.1,λj hj hjn=>?_⟩
  have h7:=(yC.1 this.2.2) j (List.mem_range.2 hj)
  simp only[Bool.or_eq_true]at h7
  rcases h7 with h7 |h7
  ·obtain⟨y,hy⟩:=inA j h7
   rw[hy]at hjn;cases hjn
  ·exact yW.1 h7
 ·have:=(at_ i _ (bA hil)).2
  rw[cQ (λh=>by have:=blt.1 h;omega)]at this
  exact yW.1 ((yC.1 this) j (List.mem_range.2 hj))
 ·have h7:=(yC.1 ((yC.1 h56) b hb)) j hj
  simp only[bB]at h7
  exact⟨yW.1 h7.1,inA j h7.2⟩
theorem Q6(hL:FlOk l m A bl bs){D:Nat->Prop}(hc: ∀i o,D i->l[i]?=some o->∀e∈yt o,D e): ∀i,D i->∀j∈(yp (yq [] l) i).getD [],D j:=by
 intro i
 induction i using Nat.strongRecOn with
 |_ i ih=>
  intro hi j hj
  rcases Nat.lt_or_ge i l.length with hil |hil
  ·have ho:=bA hil
   have he:=iB (r:=l) (acc:=[]) (j:=i) (λk p hp e he=>by simpa using hL.edge k p hp e he) ho
   simp only[bO,Nat.zero_add]at he
   rw[yE,he]at hj
   simp only[Option.getD_some]at hj
   rcases List.mem_append.1 hj with hj |hj
   ·exact hc i _ hi ho j hj
   ·obtain⟨e,he,hj⟩:=List.mem_flatMap.1 hj
    exact ih e (hL.edge i _ ho e he) (hc i _ hi ho e he) j (by rw[yE];exact hj)
  ·rw[RX hil]at hj;cases hj
theorem OI(hL:FlOk l m A bl bs){D:Nat->Prop}(hc: ∀i o,D i->l[i]?=some o->∀e∈yt o,D e){i:Nat}{o:Oper}(ho:l[i]?=some o)(he: ∀e∈yt o,D e): ∀j∈(yp (yq [] l) i).getD [],D j:=by
 intro j hj
 have hw:=iB (r:=l) (acc:=[]) (j:=i) (λk p hp e he=>by simpa using hL.edge k p hp e he) ho
 simp only[bO,Nat.zero_add]at hw
 rw[yE,hw]at hj
 simp only[Option.getD_some]at hj
 rcases List.mem_append.1 hj with hj |hj
 ·exact he j hj
 ·obtain⟨e,he',hj⟩:=List.mem_flatMap.1 hj
  exact Q6 hL hc e (he e he') j (by rw[yE];exact hj)
def RY(P:Program)(T:TT)(B:Bs)(N:Nat)(l:List Oper)(m:Nat)(A:List FA)(bl:List (Nat×List Nat))(bs:List Nat)(K:St->Prop)(D:Nat->Prop)(a:Act)(w:World):Prop:=
 (∃F O nx k X bs',(∀i∈bs,D i\/i∈bs'.map (·.1))/\(∀b∈bs',b∈bl/\b.1∈bs/\¬D b.1)/\kY (bs'.map (·.1))=true/\(∀j,m<=j->¬D j)/\FX A D X/\yK B N ⟨F++X,O,nx⟩ a w k/\ks P T l A (λF O nx=>x9 P T l (l.drop m) ⟨F++j5 A,O,nx⟩ K) bs' F O nx)\/
 ∃t S k,m<=t/\t<=l.length/\(∀j,D j↔j<t)/\yK B N S a w k/\x9 P T l (l.drop t) S K
theorem gd{E:List (Nat×TF)->List (Nat×Option Ow)->Nat->Prop}{bs':List (Nat×List Nat)}{F:List (Nat×TF)}{O:List (Nat×Option Ow)}{nx:Nat}(h:ks P T l A E bs' F O nx):(∀x∈A,yl F x.d=none)/\kr P T l A F O nx A:=by
 have key:yZ (λx=> !(xu x.1 (A.map (·.d)))) F=true->∀x∈A,yl F x.d=none:=λh x hx=>by
  cases hf:yl F x.d with
  |none=>rfl
  |some f=>
   obtain⟨y,hy,e⟩:=OG hf
   have:=(yC.1 h) y hy
   rw[e]at this
   rw[yW.2 (List.mem_map.2 ⟨x,hx,rfl⟩)]at this
   cases this
 cases bs' with
 |nil=>exact⟨key h.1,h.2.1⟩
 |cons b r=>exact⟨key h.1,h.2.1⟩
theorem Zc(hL:FlOk l m A bl bs){K:St->Prop}{D:Nat->Prop}(h:RY P T B N l m A bl bs K D a w):
  (∃F O nx k X bs',(∀i∈bs,D i\/i∈bs'.map (·.1))/\(∀b∈bs',b∈bl/\b.1∈bs/\¬D b.1)/\kY (bs'.map (·.1))=true/\(∀j,m<=j->¬D j)/\FX A D X/\yK B N ⟨F++X,O,nx⟩ a w k/\ks P T l A (λF O nx=>x9 P T l (l.drop m) ⟨F++j5 A,O,nx⟩ K) bs' F O nx/\∃j0,j0<m/\¬D j0)\/
 ∃t S k,m<=t/\t<=l.length/\(∀j,D j↔j<t)/\yK B N S a w k/\x9 P T l (l.drop t) S K:=by
 rcases h with⟨F,O,nx,k,X,bs',h1,h2,h3,h4,h5,h6,h7⟩ |h
 ·by_cases hx: ∃j0,j0<m/\¬D j0
  ·exact .inl ⟨F,O,nx,k,X,bs',h1,h2,h3,h4,h5,h6,h7,hx⟩
  ·have hall: ∀j,j<m->D j:=λj hj=>Classical.byContradiction λhn=>hx ⟨j,hj,hn⟩
   cases bs' with
   |cons b r=>exact absurd (hall b.1 (hL.bsm b.1 (h2 b (by simp)).2.1).1) (h2 b (by simp)).2.2
   |nil=>
    refine .inr ⟨m,_,k,bQ _,hL.le,λj=>⟨λhj=>?_,hall j⟩,?_,h7.2.2⟩
    ·exact Classical.byContradiction λhn=>h4 j (by omega) hj
    ·refine lr (λt f hf=>?_) h6
     rcases eG hf with hf |hf
     ·exact tG hf
     ·obtain⟨x,hx,e1,e2⟩:=(Qr hL.dd t f).1 hf
      have hnone:=(gd (bs':=[]) h7).1 x hx
      rw[e1]at hnone
      rw[tF hnone]
      refine(h5 t f).2 ⟨x,hx,?_,e1,e2⟩
      exact hall _ (hL.am x hx)
 ·exact .inr h
theorem Ev(hT:TOk P T)(hN: ∀o∈l,∀d,o.dst=some d->d<N)(hL:FlOk l m A bl bs)(hdst: ∀x∈A,∀o,l[x.i]?=some o->True){K:St->Prop}(hQ: ∀S' a' w' k',K S'->yK B N S' a' w' k'->Q .normal a' w'):
  ∀(fuel:Nat) (listed:Array Bool) (a:Act) (w:World),listed.size=l.length->listed.toList.count false=fuel->
   (∀i o,listed.getD i false=true->l[i]?=some o->∀e∈yt o,listed.getD e false=true)->RY P T B N l m A bl bs K (λj=>listed.getD j false=true) a w->wpAny P .any l.toArray Q fuel listed a w:=by
 intro fuel
 induction fuel with
 |zero=>
  intro listed a w hsz hcnt hcl hnow
  have hall: ∀i,i<l.length->listed.getD i false=true:=λi hi=>by
   have hlt:i<listed.size:=by omega
   have hne:=List.count_eq_zero.1 hcnt
   have hmem:listed[i]∈listed.toList:=by simp
   cases hb:listed[i]with
   |true=>simp[hlt,hb]
   |false=>rw[hb]at hmem;exact absurd hmem hne
  have hempty:Region.ready .any l.toArray listed=[]:=by
   cases hr:Region.ready .any l.toArray listed with
   |nil=>rfl
   |cons x xs=>
    have hx:x∈Region.ready .any l.toArray listed:=by rw[hr];simp
    obtain⟨h1,o,ho,_⟩:=mem_ready.1 hx
    have hxl:x<l.length:=by
     have:=(Array.getElem?_eq_some_iff.1 ho).1
     simpa using this
    have:=hall x hxl
    have hlt:x<listed.size:=by omega
    simp[hlt]at h1 this
    rw[h1]at this;cases this
  refine⟨hempty,?_⟩
  rcases Zc hL hnow with⟨F,O,nx,k,X,bs',_,_,_,_,_,_,_,j0,h1,h2⟩ |⟨t,S,k,h1,h2,h3,h4,h5⟩
  ·exact absurd (hall j0 (by have:=hL.le;omega)) h2
  ·obtain rfl:t=l.length:=by
    rcases Nat.lt_or_ge t l.length with h |h
    ·have:=(h3 t).1 (hall t h);omega
    ·omega
   rw[List.drop_length]at h5
   exact hQ S a w k h5 h4
 |succ fuel ih=>
  intro listed a w hsz hcnt hcl hnow
  have unl: ∀i,i<l.length->(listed.getD i true=false↔¬listed.getD i false=true):=λi hi=>by
   have hlt:i<listed.size:=by omega
   simp[hlt]
  refine⟨λhempty=>?_,λi hi=>?_⟩
  ·exfalso
   have hmem:false∈listed.toList:=by
    rcases Classical.em (false∈listed.toList)with h |h
    ·exact h
    ·rw[List.count_eq_zero.2 h]at hcnt;cases hcnt
   obtain⟨i,hi⟩:=List.getElem?_of_mem hmem
   have hex: ∃i,i<l.length/\¬listed.getD i false=true:=by
    have hlt:=(List.getElem?_eq_some_iff.1 hi).1
    rw[bG]at hlt
    refine⟨i,by omega,?_⟩
    have:listed[i]?=some false:=by simpa using hi
    simp[this]
   obtain⟨i,⟨hil,hin⟩,hleast⟩:=rB hex
   have hrd:i∈Region.ready .any l.toArray listed:=by
    refine mem_ready.2 ⟨(unl i hil).2 hin,l[i],by simp[hil],λe he hb=>?_⟩
    have hee:e.on∈yt l[i]:=List.mem_filterMap.2 ⟨e,by simpa using he,by simp[hb]⟩
    have hlt:=hL.edge i _ (bA hil) _ hee
    exact Classical.byContradiction λhn=>by
     have:=hleast e.on ⟨by omega,hn⟩
     omega
   rw[hempty]at hrd
   cases hrd
  ·obtain⟨h1,o,ho,hedge⟩:=mem_ready.1 hi
   have hoi:l[i]?=some o:=by simpa using ho
   have hil:i<l.length:=(List.getElem?_eq_some_iff.1 hoi).1
   have hni: ¬listed.getD i false=true:=(unl i hil).1 h1
   have hed: ∀e∈yt o,listed.getD e false=true:=λe he=>by
    obtain⟨x,hx,hxe⟩:=List.mem_filterMap.1 he
    split at hxe
    ·rename_i hb
     cases hxe
     exact hedge x (by simpa using hx) hb
    ·cases hxe
   have hws:=OI (D:=λj=>listed.getD j false=true) hL hcl hoi hed
   have hget: ∀j,(listed.setIfInBounds i true).getD j false=true↔(listed.getD j false=true\/j=i):=λj=>by
    have hlt:i<listed.size:=by omega
    by_cases hji:j=i
    ·subst hji;simp[hlt]
    ·have:i≠j:=λe=>hji e.symm
     simp[Array.getElem?_setIfInBounds_ne this,hji]
   have hcl': ∀x p,(listed.setIfInBounds i true).getD x false=true->l[x]?=some p->∀e∈yt p,(listed.setIfInBounds i true).getD e false=true:=λx p hx hp e he=>by
    rw[hget]
    rcases(hget x).1 hx with hx |rfl
    ·exact .inl (hcl x p hx hp e he)
    ·rw[hoi]at hp;cases hp
     exact .inl (hed e he)
   have hcnt':(listed.setIfInBounds i true).toList.count false=fuel:=by
    have hlt:i<listed.toList.length:=by rw[bG];omega
    have hlt':i<listed.size:=by omega
    have hv:listed.toList[i]=false:=by
     have:listed[i]?=some listed[i]:=Array.getElem?_eq_getElem hlt'
     simp[hlt']at hni
     simpa using hni
    rw[Array.toList_setIfInBounds,List.count_set hlt,hcnt,hv]
    simp
   have next: ∀a' w',RY P T B N l m A bl bs K (λj=>(listed.setIfInBounds i true).getD j false=true) a' w'->wpAny P .any l.toArray Q fuel (listed.setIfInBounds i true) a' w':=
    λa' w' h=>ih _ a' w' (by simpa using hsz) hcnt' hcl' h
   rcases Zc hL hnow with⟨F,O,nx,k,X,bs',p1,p2,p3,p4,p5,p6,p7,j0,hj0,hn0⟩ |⟨t,S,k,ht1,ht2,ht3,hsat,hrv⟩
   ·have him:i<m:=by
     rcases Nat.lt_or_ge i m with h |h
     ·exact h
     ·exact absurd (hws j0 (hL.back i h hil j0 (by omega))) hn0
    have hgrd:=hL.grd i o him hoi
    obtain⟨hclean,hfA⟩:=gd p7
    unfold wpOp
    simp only[ho]
    rw[cO (by simp[Region.wanted,hgrd])]
    have p4': ∀j,m<=j->¬(listed.setIfInBounds i true).getD j false=true:=λj hj h=>by
     rcases(hget j).1 h with h |h
     ·exact p4 j hj h
     ·omega
    have dep_eq: ∀(ds:List Nat),(∀j∈ds,listed.getD j false=true/\∃y,vm A j=some y)->∀t f,yl (nZ A ds X) t=some f↔yl X t=some f:=by
     intro ds
     induction ds with
     |nil=>intro _ t f;rfl
     |cons j r ihd=>
      intro hds t f
      obtain⟨hDj,y,hy⟩:=hds j (by simp)
      have ihr:=ihd (λj' hj'=>hds j' (by simp[hj'])) t f
      simp only[nZ,hy]
      obtain⟨hyA,hyi⟩:=gb hy
      by_cases e:y.d=t
      ·have hX:yl X t=some y.f:=(p5 t y.f).2 ⟨y,hyA,by rw[hyi];exact hDj,e,rfl⟩
       rw[hX,e]
       simp[yl]
      ·rw[nM e]
       exact ihr
    have sat_dep: ∀(ds:List Nat),(∀j∈ds,listed.getD j false=true/\∃y,vm A j=some y)->yK B N ⟨F++nZ A ds X,O,nx⟩ a w k:=λds hds=>by
     refine lr (λt f hf=>?_) p6
     cases hF:yl F t with
     |some f0=>rw[tG hF]at hf⊢;exact hf
     |none=>rw[tF hF]at hf⊢;exact(dep_eq ds hds t f).1 hf
    cases hx:vm A i with
    |some x=>
     obtain⟨hxA,hxi⟩:=gb hx
     obtain⟨o',ho',hstep⟩:=Zd hfA x hxA
     rw[hxi,hoi]at ho'
     cases ho'
     have hdeps:=hL.fa i x him hil hx
     have hfx:=dep_eq x.deps λj hj=>⟨hws j (hdeps j hj).1,(hdeps j hj).2⟩
     have hsat2:=sat_dep x.deps λj hj=>⟨hws j (hdeps j hj).1,(hdeps j hj).2⟩
     refine .inl (Oper.wp_mono ?_ (Qu hT (hstep X) B N a w k Q hsat2 (hN o (cH hoi))))
     rintro a' w' ⟨k2,hs2⟩
     obtain⟨X',hX'⟩: ∃X',X'=(x.d,x.f)::X:=⟨_,rfl⟩
     refine next a' w' (.inl ⟨F,O,nx,k2,X',bs',λj hj=>?_,λj hj=>⟨(p2 j hj).1,(p2 j hj).2.1,λh=>?_⟩,p3,p4',λt f=>?_,?_,p7⟩)
     ·rcases p1 j hj with h |h
      ·exact .inl ((hget j).2 (.inl h))
      ·exact .inr h
     ·rcases(hget j.1).1 h with h |h
      ·exact(p2 j hj).2.2 h
      ·have:=(hL.bsm j.1 (p2 j hj).2.1).2
       rw[h,hx]at this;cases this
     ·subst hX'
      constructor
      ·intro h
       rcases yO h with⟨e,e'⟩ |⟨_,h⟩
       ·exact⟨x,hxA,(hget _).2 (.inr hxi),e,e'.symm⟩
       ·obtain⟨y,hy,hDy,e1,e2⟩:=(p5 t f).1 h
        exact⟨y,hy,(hget _).2 (.inl hDy),e1,e2⟩
      ·rintro⟨y,hy,hDy,e1,e2⟩
       by_cases e:x.d=t
       ·have:x=y:=Ey hL.dd hxA hy (e.trans e1.symm)
        subst this
        rw[e,e2];simp[yl]
       ·rw[nM e]
        refine(p5 t f).2 ⟨y,hy,?_,e1,e2⟩
        rcases(hget _).1 hDy with h |h
        ·exact h
        ·have h3:=Vs hL.ii hy
         rw[h,hx]at h3
         cases h3
         exact absurd e1 e
     ·refine lr (λt f hf=>?_) hs2
      subst hX'
      cases hF:yl F t with
      |some f0=>
       rw[tG hF]at hf
       have hne:x.d≠t:=λe=>by rw[<-e,hclean x hxA]at hF;cases hF
       rw[nM hne,tG hF]
       exact hf
      |none=>
       rw[tF hF]at hf
       by_cases e:x.d=t
       ·subst e;simpa[yl]using hf
       ·rw[nM e]at hf⊢
        rw[tF hF]
        exact(hfx t f).2 hf
    |none=>
     obtain⟨hib,hbk⟩:=hL.fb i him hil hx
     cases bs' with
     |nil=>
      rcases p1 i hib with h |h
      ·exact absurd h hni
      ·cases h
     |cons b r=>
      simp only[cJ,kY,bB]at p3
      have hbi:b.1=i:=by
       rcases p1 i hib with h |h
       ·exact absurd h hni
       ·rw[cJ]at h
        rcases List.mem_cons.1 h with e |h
        ·exact e.symm
        ·have hlt:b.1<i:=by
          have:=(yC.1 p3.1) i h
          simp[Nat.blt]at this
          omega
         have:=hbk b.1 hlt (hL.bsm b.1 (p2 b (by simp)).2.1).2
         exact absurd (hws b.1 this) (p2 b (by simp)).2.2
      obtain⟨b0,ds⟩:=b
      simp only at hbi
      subst hbi
      simp only[ks]at p7
      obtain⟨_,_,F',O',nx',hst,p7⟩:=p7
      rw[yE,hoi]at hst
      simp only at hst
      have hdd: ∀j∈ds,listed.getD j false=true/\∃y,vm A j=some y:=λj hj=>by
       have:=hL.fd (b0,ds) (p2 (b0,ds) (by simp)).1 j hj
       exact⟨hws j this.1,this.2⟩
      refine .inl (Oper.wp_mono ?_ (tL (Q:=Q) hT (sat_dep ds hdd) (hN o (cH hoi)) (hst X)))
      rintro a' w' ⟨S',k',hsub,hs'⟩
      obtain⟨k2,hs2⟩:=hsub B N a' w' k' hs'
      have hs2:yK B N ⟨F'++X,O',nx'⟩ a' w' k2:=by
       refine lr (λt f hf=>?_) hs2
       cases hF:yl F' t with
       |some f0=>rw[tG hF]at hf⊢;exact hf
       |none=>rw[tF hF]at hf⊢;exact(dep_eq ds hdd t f).2 hf
      refine next a' w' (.inl ⟨F',O',nx',k2,X,r,λj hj=>?_,λj hj=>⟨(p2 j (by simp[hj])).1,(p2 j (by simp[hj])).2.1,λh=>?_⟩,p3.2,p4',λt f=>?_,hs2,p7⟩)
      ·rcases p1 j hj with h |h
       ·exact .inl ((hget j).2 (.inl h))
       ·rw[cJ]at h
        rcases List.mem_cons.1 h with e |h
        ·exact .inl ((hget j).2 (.inr e))
        ·exact .inr h
      ·rcases(hget j.1).1 h with h |h
       ·exact(p2 j (by simp[hj])).2.2 h
       ·have h9:Nat.blt b0 j.1=true:=(yC.1 p3.1) j.1 (List.mem_map.2 ⟨j,hj,rfl⟩)
        simp[Nat.blt]at h9
        omega
      ·refine(p5 t f).trans ⟨λ⟨y,hy,hDy,e1,e2⟩=>⟨y,hy,(hget _).2 (.inl hDy),e1,e2⟩,λ⟨y,hy,hDy,e1,e2⟩=>⟨y,hy,?_,e1,e2⟩⟩
       rcases(hget _).1 hDy with h |h
       ·exact h
       ·have h3:=Vs hL.ii hy
        rw[h,hx]at h3;cases h3
   ·have hit:i=t:=by
     have h1: ¬i<t:=λhh=>hni ((ht3 i).2 hh)
     rcases Nat.lt_or_ge t i with hlt |hge
     ·have h2:=(ht3 t).1 (hws t (hL.back i (by omega) hil t hlt))
      omega
     ·omega
    subst hit
    have hdrop:l.drop i=o::l.drop (i+1):=by
     rw[cI hil]
     congr 1
     have:=bA hil
     rw[hoi]at this
     exact(Option.some.inj this).symm
    rw[hdrop]at hrv
    have hhd:=fc (Q:=Q) hT (hN o (cH hoi)) hsat hrv
    have nx2: ∀a' w',(∃S' k',x9 P T l (l.drop (i+1)) S' K/\yK B N S' a' w' k')->wpAny P .any l.toArray Q fuel (listed.setIfInBounds i true) a' w':=λa' w' ⟨S',k',hr',hs'⟩=>
     next a' w' (.inr ⟨i+1,S',k',by omega,by omega,λj=>(hget j).trans ((or_congr (ht3 j) Iff.rfl).trans (by omega)),hs',hr'⟩)
    unfold wpOp
    simp only[ho]
    split at hhd
    ·rename_i hw
     rw[cO hw]
     exact .inl (Oper.wp_mono nx2 hhd)
    ·rename_i hw
     rw[cQ hw]
     exact nx2 _ _ hhd
theorem Vcode.float(hm:P.follows .mixedOrders=true)(hT:TOk P T){id:Nat}{ops:Array Oper}{Q:Exit->St->Prop}(m:Nat)(A:List FA)(bl:List (Nat×List Nat))(hok:Y1 ops.toList m A bl=true){F:List (Nat×TF)}{O:List (Nat×Option Ow)}{nx:Nat}(h0:Sub S ⟨F,O,nx⟩)
  (h:ks P T ops.toList A (λF O nx=>x9 P T ops.toList (ops.toList.drop m) ⟨F++j5 A,O,nx⟩ (Q .normal)) bl F O nx):Vcode P (.region id ops true) S Q:=by
 refine⟨λB N a w k Q' hs hd hQ=>?_⟩
 have hN: ∀o∈ops.toList,∀d,o.dst=some d->d<N:=λo ho d hod=>by
  simp only[xf,List.all_eq_true]at hd
  have h1:=hd o ho
  simp only[hod]at h1
  exact cE h1
 have hL:=HO hok
 obtain⟨k1,g,hs1⟩:=h0 B N a w k hs
 have hs2:SatE B N ⟨F,O,nx⟩ a {w with drawn:=w.drawn+1} k1 g:=hs1.ext (w':={w with drawn:=w.drawn+1}) ⟨rfl,rfl,rfl,bQ _,λ_ _=>rfl⟩ λ_ _=>rfl
 refine wp_region_any hm ?_
 have:=Ev (Q:=Q') (B:=B) (N:=N) (K:=Q .normal) hT hN hL (λ_ _ _ _=>trivial) (λS' a' w' k' hq hs'=>hQ _ S' a' w' k' hq hs') ops.size (Array.replicate ops.size false) a {w with drawn:=w.drawn+1} (by simp) (by simp) (λi o hi=>by
  exfalso
  rw[Array.getD_eq_getD_getElem?]at hi
  by_cases hlt:i<ops.size
  ·simp[hlt]at hi
  ·simp[hlt]at hi) (.inl ⟨F,O,nx,k1,[],bl,λi hi=> .inr hi,λi hi=>⟨hi,List.mem_map.2 ⟨i,hi,rfl⟩,λhh=>absurd hh (by by_cases hlt:i.1<ops.size<;>simp[hlt])⟩,hL.rises,λj _ hh=>absurd hh (by by_cases hlt:j<ops.size<;>simp[hlt]),λt f=>?_,?_,h⟩)
 ·simpa using this
 ·constructor
  ·intro h;simp[yl]at h
  ·rintro⟨x,hx,hD,_⟩
   exact absurd hD (by by_cases hlt:x.i<ops.size<;>simp[hlt])
 ·rw[List.append_nil]
  exact⟨g,hs2⟩
end
theorem Yld.read{P:Program}{T:TT}(hT:TOk P T){S:St}{o:Oper}{d:Nat}{e:TypeId}{sz n:Nat}{cells:List RV}(h:si P T S o λS'=>S'=⟨(d,.own S.nx)::S.F,(S.nx,some (.ch e sz n cells true))::S.O,S.nx+1⟩):
  Yld P S o ⟨(d,.r (.sl sz n cells))::S.F,S.O,S.nx⟩:=λB N a w k Q hs hd=>by
 obtain⟨g0,h0⟩:=id hs
 refine Oper.wp_mono ?_ (tL (Q:=Q) hT hs hd h)
 rintro a' w' ⟨S',k',rfl,g,h1⟩
 have ne: ∀id ow,ye S.O id=some ow->id≠S.nx:=λid ow ho e=>by
  have:=(h0.owns id ow ho).1
  omega
 have og: ∀id ow,ye S.O id=some ow->ye ((S.nx,some (.ch e sz n cells true))::S.O) id=some ow:=λid ow ho=>by
  simp only[ye,iV (λe=>ne id ow ho e.symm)]
  exact ho
 refine⟨k',g,h1.size,h1.defers,h1.keep,h1.kk,λt f hf=>?_,λid ow ho=>?_,λi j ow ow' b hi hj=>h1.apart i j ow ow' b (og i ow hi) (og j ow' hj)⟩
 ·simp only[yl]at hf
  split at hf
  ·rename_i hb
   cases hf
   have:=bI hb
   subst this
   have hv:=(h1.facts d (.own S.nx) (by simp[yl])).2
   exact⟨trivial,tC (f:= .own S.nx) h1 (by simp[St.rv,ye]) hv⟩
  ·rename_i hb
   have h2:=(h1.facts t f (by simp only[yl,hb];exact hf)).2
   exact⟨(h0.facts t f hf).1,h2⟩
 ·have h2:=h1.owns id ow (og id ow ho)
  have h3:=h0.owns id ow ho
  exact⟨h3.1,h3.2.1,h2.2.2.1,h2.2.2.2⟩
end Go.Proofs.YtkegaaonpekkgaaGreat.Sx
