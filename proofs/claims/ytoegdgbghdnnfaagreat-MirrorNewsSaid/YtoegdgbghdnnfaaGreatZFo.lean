import Derived.Test.YtoegdgbghdnnfaaGreatZFh
import Derived.Test.YtoegdgbghdnnfaaGreatZSxNm
import Derived.Test.YtoegdgbghdnnfaaGreatZKq
import Derived.Test.YtoegdgbghdnnfaaGreatZFb
import Derived.Test.YtoegdgbghdnnfaaGreatZNq
import Derived.Lib.MakeNoZero
namespace Go.Proofs.YtoegdgbghdnnfaaGreat.Sx
open Go.RowKit
theorem z9l{w:World}{k:Kp}{b off:Nat}{l:List UInt8}{m K x:Nat}(hm:0<m)(hl:m*K=l.length)(hbig:l.length<=1000000000000)(hx:x<K)(hb:b<w.heap.size)(h:RV.cellsAt w k b off (l.map U8)):(bs (zd8 l m x)).at_ w k (zg5 b off m x):=by
 have hcl:=zrj hl hx
 have hmx:m*x+m<=l.length:=by rw[<-hl,<-Nat.mul_succ];exact Nat.mul_le_mul_left _ hx
 show RV.at_ w k (.sl 1 (zd8 l m x).length ((zd8 l m x).map U8)) _
 simp only[RV.at_]
 refine⟨_,m,by rw[hcl];rfl,Nat.le_of_eq hcl,by simp only[maxLen];omega,by simp,λ_=>⟨b,off+m*x,rfl,hb,?_⟩⟩
 rw[RV.cellsAt_iff]at h⊢
 intro j q hq
 rw[List.getElem?_map]at hq
 obtain⟨c,hc,rfl⟩:=Option.map_eq_some_iff.1 hq
 rw[zd8,List.getElem?_take]at hc
 split at hc
 ·rw[List.getElem?_drop]at hc
  have:=h (m*x+j) (U8 c) (by rw[List.getElem?_map,hc];rfl)
  rw[<-Nat.add_assoc]at this
  exact this
 ·cases hc
theorem z5x(t:Nat)(f:TF)(r:List (Nat×TF)):fget ((t,f)::r) t=some f:=by
 simp only[fget]
 rw[Nat.beq_refl]
theorem zvo(t:Nat)(f:Option Ow)(r:List (Nat×Option Ow)):oget ((t,f)::r) t=f:=by
 simp only[oget]
 rw[Nat.beq_refl]
def zo9(D:Nat):GOw where
 at_:=λw _ vb=>vb=(.int .i64 0,some D)/\w.heap[D]?=some (.deferred (some []))
 mono:=λ_ h ⟨e,hh⟩=>⟨e,by rw[(h D (by rw[e])).1];exact hh⟩
 one:=λ⟨e,_⟩=>by rw[e];rfl
theorem SatE.rebase{B:Bs}{N:Nat}{S:St}{a:Act}{w:World}{k:Kp}{g:Env}(hs:SatE B N S a w k g){i b:Nat}{ow:Ow}(ho:oget S.O i=some ow)(hg:(g i).2=some b)(j:Nat):SatE ⟨w,k,[b],a.defers⟩ N {F:=(j, .nm i (g i).1)::S.F,O:=[(i,some ow)],nx:=S.nx} a w k g:=by
 obtain⟨q1,q2,q3,q4⟩:=hs.owns i ow ho
 refine⟨hs.size,rfl,⟨rfl,rfl,rfl,Nat.le_refl _,λ_ _ _=>rfl⟩,λ_ _ _=>rfl,λt f hf=>?_,λid o h=>?_,λx y o o' b' hx hy hne=>?_⟩
 ·rcases zbd hf with⟨rfl,rfl⟩ |⟨_,hf⟩
  ·exact⟨q1,rfl⟩
  ·exact hs.facts t f hf
 ·rcases zav h with⟨rfl,e⟩ |⟨_,h⟩
  ·cases e
   exact⟨q1,q2,q3,λb' hb'=>⟨.inr (by rw[hg]at hb';cases hb';simp),(q4 b' hb').2⟩⟩
  ·cases h
 ·rcases zav hx with⟨rfl,_⟩ |⟨_,h⟩
  ·rcases zav hy with⟨rfl,_⟩ |⟨_,h⟩
   ·exact absurd rfl hne
   ·cases h
  ·cases h
set_option maxHeartbeats 1000000 in
theorem z8n{N:Nat}{w0 w:World}{k0 k:Kp}{a:Act}{g:Env}{S0:St}{i3 t12 p q:Nat}{l:List UInt8}{m K:Nat}{X:List Nat->List UInt64}{assign body:Code}{Q:Exit->Act->World->Prop}
  (hs:SatE ⟨w0,k0,[],[]⟩ N S0 a w k g) (h3:oget S0.O i3=some (boxW (X []))) (ht:fget S0.F t12=some (.r (.s (funS 360 [.ptr [bs l], .ptr [I m]]))))
  (hm:0<m) (hK:0<K) (hl:m*K=l.length) (hbig:l.length<=1000000000000) (hp:p<N) (hq:q<N)
  (hasg: ∀(ld:Nat) (a:Act) (W:World) (Kk:Act->World->Prop),Kk (a.put (some q) (a.tmps.getD p undef)) W->assign.wpIn (Fence.wide.inRound ld) 1 bP (Exit.then Kk (λ_ _ _=>False)) a W)
  (hbody: ∀(ld:Nat) (v:Value) (pre:List Nat) (x:Nat) (a:Act) (W:World) (k:Kp) (b:Nat),x<K->Sat ⟨W,k,[b],[]⟩ N {F:=(q, .r (bs (zd8 l m x)))::(p, .r (bs (zd8 l m x)))::(1000000+i3, .nm i3 v)::S0.F,O:=[(i3,some (boxW (X pre)))],nx:=S0.nx} a W k->
   body.wpIn (Fence.wide.inRound ld) 1 bP (λe a' W'=>e= .normal/\∃k',Sat ⟨W,k,[b],[]⟩ N {F:=[(1000000+i3, .nm i3 v)],O:=[(i3,some (boxW (X (pre++[x]))))],nx:=S0.nx} a' W' k') a W)
  (hdone: ∀D W k' g',SatE ⟨w0,k0,[],[{target:= .collected D,args:= #[]}]⟩ N ((S0.set i3 (some (boxW (X (upto (λj=>j) K))))).mk_ none (.gen (zo9 D))) {a with defers:=[{target:= .collected D,args:= #[]}]} W k' g'->Q .normal {a with defers:=[{target:= .collected D,args:= #[]}]} W):
  (Code.rangeFunc (.tmp t12) #[p] assign body).wpIn Fence.wide 3 bP Q a w:=by
 have hdf:a.defers=[]:=hs.defers
 obtain⟨hlt3,hlo3,hat3,hblk3⟩:=hs.owns i3 _ h3
 obtain⟨b3,e3⟩: ∃b3,g i3=(.pointer (some ⟨b3,0,none⟩),some b3):=by
  simp only[Ow.at_]at hat3
  obtain⟨b3,_,_,e,_⟩:=hat3
  exact⟨b3,e⟩
 rw[e3]at hat3
 obtain⟨hk3,cur3,ty3,hh3,hv3⟩:=zuq hat3
 have hb3:b3<w.heap.size:=(Array.getElem?_eq_some_iff.1 hh3).1
 have h12:=(hs.facts t12 _ ht).2
 simp only[TF.at_,RV.at_]at h12
 obtain⟨cap,hv,hparts⟩:=h12
 obtain⟨vS,vN,hcap,hS,hN'⟩:=zn9 hparts
 simp only[RV.at_]at hS hN'
 obtain⟨Bs,oS,rfl,hBs,hcS⟩:=hS
 obtain⟨Bn,oN,rfl,hBn,hcN⟩:=hN'
 simp only[RV.cellsAt]at hcS hcN
 obtain⟨⟨hkS,uS,hcellS,_,huS⟩,_⟩:=hcS
 obtain⟨⟨hkN,uN,hcellN,_,huN⟩,_⟩:=hcN
 simp only[RV.at_]at huS huN
 subst huN
 obtain⟨aa,cc,rfl,hlc,hmax,_,hblk⟩:=huS
 obtain⟨b,off,rfl,hbl,hcb⟩:=hblk (by rw[<-hl];exact Nat.mul_pos hm hK)
 have hcapE:cap= #[.pointer (some ⟨Bs,oS,none⟩), .pointer (some ⟨Bn,oN,none⟩)]:=by apply Array.ext';exact hcap
 subst hcapE
 have hneS:Bs≠b3:=λe=>by rw[e,hk3]at hkS;omega
 have hneN:Bn≠b3:=λe=>by rw[e,hk3]at hkN;omega
 obtain⟨KP,hKP⟩: ∃KP:World->World->Prop,KP= λA B=>∀x,x<w.heap.size->x≠b3->B.heap[x]?=A.heap[x]?:=⟨_,rfl⟩
 obtain⟨I,hI⟩: ∃I:List (Fin K)->World->Prop,I= λpre W=>Keep [b3] w W/\∃cur ty,W.heap[b3]?=some (.cells cur ty (0,0))/\cur.toList=(X (pre.map (·.val))).map valW:=⟨_,rfl⟩
 have hchunk: ∀x,x<K->(bs (zd8 l m x)).at_ w k (zg5 b off m x):=λx hx=>z9l hm hl hbig hx hbl hcb
 have sat: ∀pre W,I pre W->∃k',Le w k W k'/\SatE ⟨w0,k0,[],[]⟩ N (S0.set i3 (some (boxW (X (pre.map (·.val)))))) a W k' g:=by
  intro pre W hi
  rw[hI]at hi
  obtain⟨hkeep,cur,ty,hh,hcv⟩:=hi
  have hw:Wrote w k W (λc=>if c<w.heap.size then k c else 0) (some b3):=⟨hkeep.os,hkeep.tape,hkeep.output,hkeep.size,λc hc hne=>⟨hkeep.block c hc (by simpa usingλe=>hne (by rw[e])),by simp[hc]⟩,λc hc=>by
   cases hc
   refine⟨by simp[hb3],λo ho=>by omega,λh=>by omega⟩⟩
  exact⟨_,hw.le,hs.redo h3 (by rw[e3]) hw (by
   intro f hf
   obtain⟨r,_,rfl⟩:=List.mem_map.1 hf
   trivial) (by rw[e3];exact z86 (by simp[hb3,hk3]) hh hcv)⟩
 refine wpIn_rangeFunc_ownH (α:=Fin K) (gf:=360) (w0:=w) rfl (by decide) hv trivial (λargs w=>zjr Tryz.func360 rfl (by decide) args)
  (zz4 2 (by decide) Bs Bn oS oN b off m K l.length cc hm hl hlc hbig KP w (λA B h=>?_) hcellS hcellN) (λh1 h2=>?_) (λW ld o o' hld h _ _=>?_) (Below.refl _ _) (λ_=>rfl) I (λ_ _ _=>False) ?_ (λ_ _ _ _ _ h=>h.elim) ?_
  (λx a' _=>a'=(a.put (some p) (zg5 b off m x.val)).put (some q) (zg5 b off m x.val)) (λx a' _ _ _ _ h _ _=>h) ?_ ?_ ?_ (λ_ _ _ _ _ _ h=>h.elim)
 ·rw[hKP]at h
  exact⟨World.cell?_of_block (h Bs hBs hneS),World.cell?_of_block (h Bn hBn hneN)⟩
 ·rw[hKP]at h1 h2⊢
  exactλx hx hne=>(h2 x hx hne).trans (h1 x hx hne)
 ·rw[hKP]
  exactλx hx hne=>World.putObj_heap_other (by omega)
 ·intro s W W' row hi hg hr
  rw[hI]at hi⊢
  obtain⟨hkeep,cur,ty,hh,hcv⟩:=hi
  have hnr: ∀c,c<w.heap.size->some c≠row:=λc hc e=>by have:=(hr c e.symm).1;omega
  have hblk: ∀c,c<w.heap.size->W'.heap[c]?=W.heap[c]?:=λc hc=>hg.block c (Nat.lt_of_lt_of_le hc hkeep.size) (hnr c hc)
  exact⟨⟨hg.os.trans hkeep.os,hg.tape.trans hkeep.tape,hg.output.trans hkeep.output,Nat.le_trans hkeep.size hg.size,λc hc hn=>(hblk c hc).trans (hkeep.block c hc hn)⟩,cur,ty,(hblk b3 hb3).trans hh,hcv⟩
 ·rw[hI]
  exact⟨⟨rfl,rfl,rfl,Nat.le_refl _,λ_ _ _=>rfl⟩,cur3,ty3,hh3,hv3⟩
 ·intro ld pre x W Kk hi hk
  refine hasg ld _ W Kk (hk _ W (KeepsFrom.refl _ _) (by rw[hKP];exactλ_ _ _=>rfl) hi ?_)
  have e:({tmps:=(#[p].zip #[zg5 b off m x.val]).foldl (λt (p,v)=>t.setIfInBounds p v) a.tmps,defers:=[]}:Act)=a.put (some p) (zg5 b off m x.val):=by
   cases a
   subst hdf
   simp[Act.put]
  rw[e]
  congr 1
  simp only[Act.put]
  exact ziv (by rw[hs.size];exact hp)
 ·intro ld pre x a' W hld _ hi hax hlen
  subst hax
  obtain⟨k',hle,hsW⟩:=sat pre W hi
  have hx:=x.isLt
  have hch:=RV.mono hle _ _ (hchunk x.val hx)
  have hr:=hsW.rebase (i:=i3) (ow:=boxW (X (pre.map (λy:Fin K=>y.val)))) (b:=b3) (zvo _ _ _) (by rw[e3]) (1000000+i3)
  have hr2:=(hr.put (dst:=some p) (λd e=>by cases e;exact hp) (f:= .r (bs (zd8 l m x.val))) trivial hch).put (dst:=some q) (λd e=>by cases e;exact hq) (f:= .r (bs (zd8 l m x.val))) trivial hch
  rw[hdf]at hr2
  refine wpIn_mono (hbody ld (g i3).1 (pre.map (λy:Fin K=>y.val)) x.val _ W k' b3 hx ⟨g,hr2⟩) ?_
  rintro e a2 W2 ⟨rfl,k2,g2,h2⟩
  rw[hI]at hi
  obtain⟨hkeep,_⟩:=hi
  have hk2:Keep [b3] W W2:=h2.keep
  have hn:=(h2.facts (1000000+i3) _ (z5x _ _ _)).2
  simp only[TF.at_]at hn
  obtain⟨_,_,h2at,_⟩:=h2.owns i3 _ (zvo _ _ _)
  have e2:g2 i3=(.pointer (some ⟨b3,0,none⟩),some b3):=by
   simp only[Ow.at_]at h2at
   obtain⟨b',_,_,e,_⟩:=h2at
   rw[e]at hn⊢
   rw[e3]at hn
   injection hn with hn
   injection hn with hn
   injection hn with hn
   rw[hn]
  rw[e2]at h2at
  obtain⟨_,cur2,ty2,hh2,hv2⟩:=zuq h2at
  refine⟨⟨hk2.size,λc o hc ho _=>(hk2.block c (Array.getElem?_eq_some_iff.1 ho).1 (by simp;omega)).trans ho⟩,?_,?_⟩
  ·rw[hKP]
   exactλc hc hne=>hk2.block c (Nat.lt_of_lt_of_le hc hkeep.size) (by simpa using hne)
  ·rw[hI]
   exact⟨⟨hk2.os.trans hkeep.os,hk2.tape.trans hkeep.tape,hk2.output.trans hkeep.output,Nat.le_trans hkeep.size hk2.size,λc hc hn=>(hk2.block c (Nat.lt_of_lt_of_le hc hkeep.size) hn).trans (hkeep.block c hc hn)⟩,cur2,ty2,hh2,by rw[hv2];simp⟩
 ·intro D xs W hwD hS hi hD
  obtain⟨k',_,hsW⟩:=sat xs W hi
  rw[hdf]
  rw[hS]at hsW
  have h2:SatE ⟨w0,k0,[],[{target:= .collected D,args:= #[]}]⟩ N (S0.set i3 (some (boxW (X (upto (λj=>j) K))))) {a with defers:=[{target:= .collected D,args:= #[]}]} W k' g:=⟨hsW.size,rfl,hsW.keep,hsW.kk,hsW.facts,hsW.owns,hsW.apart⟩
  refine hdone D W k' _ (h2.adopt (dst:=none) (λd e=>by cases e) (o:= .gen (zo9 D)) (vb:=(.int .i64 0,some D)) trivial ⟨rfl,hD⟩ (λc hc=>?_) (λi o' c ho hc=>?_))
  ·cases hc
   exact⟨.inl (Nat.le_trans hs.keep.size hwD),(Array.getElem?_eq_some_iff.1 hD).1⟩
  ·cases hc
   intro hg
   have:D<w.heap.size:=by
    rcases zav ho with⟨rfl,_⟩ |⟨_,h⟩
    ·exact(hblk3 D hg).2
    ·exact((hs.owns i o' h).2.2.2 D hg).2
   omega
theorem z76{T:TT}{P:Program}(hT:TOk P T){F:Fence}{n N:Nat}{fn:Func}{res:Res}{S':St}{D idD:Nat}{a':Act}{w W2:World}{k k2:Kp}{e:Exit}(he:e= .normal\/e= .ret)
  (hq:finv T fn.results res e (S'.set idD none)) (ho:oget S'.O idD=some (.gen (zo9 D))) (hs:Sat ⟨w,k,[],[{target:= .collected D,args:= #[]}]⟩ N S' a' W2 k2):
  bodyPostM F n P fn (λe w'=>∃v,e=Ending.returned v/\Ext w w'/\∃k':Kp,(∀b,b<w.heap.size->k' b=k b)/\res.at_ w.heap.size w' k' v) e a' W2:=by
 obtain⟨g2,hs⟩:=hs
 obtain⟨_,_,hat,hblk⟩:=hs.owns idD _ ho
 simp only[Ow.at_,zo9]at hat
 obtain⟨hg2,hh⟩:=hat
 have hlt:D<W2.heap.size:=(Array.getElem?_eq_some_iff.1 hh).1
 have hw:Wrote W2 k2 (W2.putObj D (.deferred none)) k2 (some D):=⟨rfl,rfl,rfl,by simp,λb _ hne=>⟨World.putObj_heap_other (λe=>hne (by rw[e])),rfl⟩,λb hb=>by
  cases hb
  refine⟨Nat.le_refl _,λo _=>?_,λ_ es c e=>by rw[hh]at e;cases e⟩
  simp[World.cell?,hh,World.putObj_heap_same hlt]⟩
 have h3:=hs.wrote hw (id:=some idD) ⟨⟨_,ho⟩,by rw[hg2]⟩
 have h5:=zre (a':={a' with defers:=[]}) hT hq ⟨g2,h3.size,rfl,h3.keep,h3.kk,h3.facts,h3.owns,h3.apart⟩
 have hdf:a'.defers=_:=hs.defers
 rcases he with rfl |rfl
 all_goals
  obtain⟨_,v,hr,hR⟩:=h5
  show LeavesInM F n P fn a'.tmps _ a'.defers .returning W2
  rw[hdf]
  exact⟨nofun, .inl ⟨D,_,rfl,run_takeDeferred hh,v,hr,hR⟩⟩
section
theorem zq5{T:TT}{P:Program}{N n:Nat}{B:Bs}{c rest:Code}{S:St}{a:Act}{w:World}{k:Kp}{Q0:St->Prop}{Q:Exit->Act->World->Prop}(hm:P.follows .mixedOrders=true)(hT:TOk P T)
  (h:vcg P T c S (λe S'=>e= .normal/\Q0 S')) (hs:Sat B N S a w k) (hd:zbe N c=true) (hK: ∀S' a' w' k',Q0 S'->Sat B N S' a' w' k'->rest.wpIn Fence.wide n P Q a' w'):(Code.seq c rest).wpIn Fence.wide n P Q a w:=
 wpIn_seq (wpIn_wide.2 (za3 hm hT c S _ h B N a w k _ hs hd λe S' a' w' k' hq hs'=>by
  obtain⟨rfl,hq⟩:=hq
  exact hK S' a' w' k' hq hs'))
theorem pre3{T:TT}{P:Program}{N n:Nat}{B:Bs}{c1 c2 c3 blk tail:Code}{S Sl:St}{a:Act}{w:World}{k:Kp}{Q:Exit->Act->World->Prop}(hm:P.follows .mixedOrders=true)(hT:TOk P T)
  (h:vcg P T c1 S (λe S1=>e= .normal/\vcg P T c2 S1 (λe S2=>e= .normal/\vcg P T c3 S2 (λe S3=>e= .normal/\Sub S3 Sl)))) (hs:Sat B N S a w k) (hd:(zbe N c1&&(zbe N c2&&zbe N c3))=true)
  (hK: ∀a' w' k',Sat B N Sl a' w' k'->blk.wpIn Fence.wide n P (Exit.then (tail.wpIn Fence.wide n P Q) Q) a' w'):(Code.seq c1 (Code.seq c2 (Code.seq (Code.seq c3 blk) tail))).wpIn Fence.wide n P Q a w:=by
 simp only[Bool.and_eq_true]at hd
 refine zq5 hm hT h hs hd.1 λS1 a1 w1 k1 h1 hs1=>?_
 refine zq5 hm hT h1 hs1 hd.2.1 λS2 a2 w2 k2 h2 hs2=>?_
 refine wpIn_seq ?_
 refine zq5 hm hT h2 hs2 hd.2.2 λS3 a3 w3 k3 h3 hs3=>?_
 obtain⟨k',hs'⟩:=h3 _ _ _ _ _ hs3
 exact hK _ _ _ hs'
theorem z5v{N:Nat}{l:List Oper}(h:(l.all λo=>match o.dst with |some d=>Nat.blt d N |none=>true)=true): ∀o∈l,∀d,o.dst=some d->d<N:=λo ho d hd=>by
 have:=List.all_eq_true.1 h o ho
 rw[hd]at this
 exact Nat.le_of_ble_eq_true this
def hX(b:List UInt8)(pre:List Nat):X8:=pre.foldl (λs x=>z47 s k80 (zd8 (zds b) 128 x)) iv8
theorem zgwb(b:List UInt8):hX b []=iv8:=rfl
theorem zdpb(b:List UInt8)(pre:List Nat)(x:Nat):hX b (pre++[x])=z47 (hX b pre) k80 (zd8 (zds b) 128 x):=by simp[hX]
attribute [irreducible] hX
def endX(b:List UInt8):X8:=hX b (upto (λj=>j) ((zds b).length/128))
def sumC(x:X8)(i:Nat):UInt8:=UInt8.ofNat (shrW (x.l.getD (i/8) 0) (56-i%8*8)).toNat
def sumJ(x:X8)(j:Nat):List UInt8:=(List.range 64).map λi=>if i<j then sumC x i else 0
def sumB(b:List UInt8):List UInt8:=sumJ (endX b) 64
theorem zex(x:X8)(j:Nat):(sumJ x j).length=64:=by simp[sumJ]
theorem zb2b(b:List UInt8):(sumB b).length=64:=zex _ _
theorem z83(x:X8):sumJ x 0=List.replicate 64 0:=by
 apply List.ext_getElem
 ·simp[zex]
 ·intro i h1 h2
  unfold sumJ
  simp only[List.getElem_map,List.getElem_replicate,Nat.not_lt_zero,if_false]
theorem z82(x:X8)(j:Nat):sumJ x (j+1)=(sumJ x j).set j (sumC x j):=by
 apply List.ext_getElem
 ·simp[sumJ]
 ·intro i h1 h2
  simp only[sumJ,List.getElem_set,List.getElem_map,List.getElem_range]
  by_cases h:j=i
  ·subst h;simp
  ·rw[if_neg h]
   by_cases h3:i<j
   ·rw[if_pos h3,if_pos (by omega)]
   ·rw[if_neg h3,if_neg (by omega)]
attribute [irreducible] sumJ sumC
def smS(b:List UInt8):St:={F:=[(2, .own 0),(3, .own 1),(4, .r (.ptr (k80.map W))),(12, .r (.s (funS 360 [.ptr [bs (zds b)], .ptr [I 128]])))],O:=[(0,some (boxB (List.replicate 64 0))),(1,some (boxW (hX b []).l))],nx:=2}
theorem ziib(b:List UInt8):stOk [(0,0),(1,1)] (smS b)=true:=by
 simp only[stOk,smS,boxW,boxB,List.all_cons,List.all_nil,zeo,ze3]
 rfl
theorem z00{x:UInt8}{l:List UInt8}{j:Nat}(h:j<l.length):(zbi (U8 x)&&(Nat.beq (cellsOf (U8 x)).length 1&&Nat.ble (j*1+1) ((l.map U8).map TF.r).length))=true:=by
 have e:Nat.ble (j*1+1) ((l.map U8).map TF.r).length=true:=by
  rw[Nat.ble_eq,List.length_map,List.length_map]
  omega
 rw[e]
 rfl
theorem zy7{l:List UInt8}{j:Nat}{x:UInt8}{K:List TF->Prop}(h:j<l.length)(hK:K (((l.set j x).map U8).map TF.r)):putK ((l.map U8).map TF.r) (j*1) [TF.r (U8 x)] K:=by
 rw[Nat.mul_one,zfq _ _ _ _ (by simp;omega)]
 have e:((l.map U8).map TF.r).take j++[TF.r (U8 x)]++((l.map U8).map TF.r).drop (j+1)=((l.set j x).map U8).map TF.r:=by
  rw[List.set_eq_take_append_cons_drop,if_pos h]
  simp[List.map_take,List.map_drop]
 simp only[List.length_cons,List.length_nil,Nat.zero_add]
 rw[e]
 exact hK
def smO(xe:X8)(D j:Nat):St:={F:=[(2, .own 0),(3, .own 1),(6, .own 3),(18, .r (I j))],O:=[(0,some (boxB (List.replicate 64 0))),(1,some xe.bx),(2,some (.gen (zo9 D))),(3,some (boxB (sumJ xe j)))],nx:=4}
theorem z8w(xe:X8)(D j:Nat):stOk [(0,0),(1,1),(2,2),(3,3)] (smO xe D j)=true:=by
 simp only[stOk,smO,boxB,List.all_cons,List.all_nil,zeo,ze3]
 rfl
set_option maxRecDepth 100000 in
set_option maxHeartbeats 4000000 in
theorem z1r(b:List UInt8)(hb:b.length<=10000000000):bG 300 [bs b] (.r (.ag ((sumB b).map U8))):=by
 refine⟨zfe Tryz.func300 rfl (by kernel_rfl),λw k vs hp=>?_⟩
 refine callsIn_wide.1 (callsIn_of_wp_marks (n:=3) Tryz.func300 rfl trivial ?_)
 refine pre3 (N:=35) mixed Tab_ok (Sl:=smS b) ?v (zkl hp (by simp)) (by kernel_rfl) ?r
 case v=>
  (conv=>whnf)
  refine⟨rfl,?_⟩
  refine ze zdqb ?_
  refine ze zahb ?_
  (conv=>whnf)
  generalize hq:(zbi _&&_)=q
  obtain rfl:=hq.symm.trans (ziw (l:=k80.map W) 80 (by rw[List.length_map,zk9]) rfl)
  clear hq
  refine zfi (by rw[List.length_map];show(List.replicate 80 (Value.int .u64 0)).length=_;rw[List.length_replicate,List.length_map,zk9]) ?_
  (conv=>whnf)
  refine⟨rfl,?_⟩
  refine ze (z7o b hb) ?_
  refine ze (zdsb (zds b) 128 (by decide)) ?_
  refine⟨rfl,Sub.trans (zd7 (id:=2) (t:=4) (k80.map W) rfl rfl) (zac [(0,0),(1,1)] (ziib b) ⟨rfl,rfl,cr,cr,trivial⟩ ⟨zae ((List.replicate 64 (0:UInt8)).map U8),by rw[zgwb];exact⟨_,_,rfl,cr,_,_,rfl,cr,_,_,rfl,cr,_,_,rfl,cr,_,_,rfl,cr,_,_,rfl,cr,_,_,rfl,cr,_,_,rfl,cr,rfl⟩,trivial⟩)⟩
 case r=>
  rintro a1 w1 k1 ⟨g1,h1⟩
  have hlen:=ztb b
  have hdv:=z5d b
  have hz:padZ b.length<128:=by unfold padZ;omega
  refine wpIn_block ?_
  refine z8n (i3:=1) (t12:=12) (p:=13) (q:=5) (l:=zds b) (m:=128) (K:=(zds b).length/128) (X:=λpre=>(hX b pre).l) h1 rfl rfl (by decide) (by omega) (by omega) (by omega) (by decide) (by decide) ?asg ?body ?done
  case asg=>
   intro ld a Wr Kk hk
   refine wpIn_region_list (zl6 (λ⟨_,_,h⟩=>h) (List.all_eq_true.1 (by kernel_rfl)) ?_)
   go_wp2
   simp only[Act.put,Array.getD_eq_getD_getElem?]at hk
   exact hk
  case body=>
   intro ld v pre x a Wr kk bb hx hs
   refine wpIn_block (wpIn_region_list (zl6 (λ⟨_,_,h⟩=>by cases h.1) (List.all_eq_true.1 (by kernel_rfl)) ?_))
   refine zhi (T:=Tab) (N:=35) (K:=λS'=>Sub S' {F:=[(1000000+1, .nm 1 v)],O:=[(1,some (boxW (hX b (pre++[x])).l))],nx:=2}) Tab_ok (λo ho d hd=>?_) (λo h=>h) hs ?_ (λS' a' w' k' hK hs'=>⟨rfl,hK _ _ _ _ _ hs'⟩)
   ·exact z5v (N:=35) (by kernel_rfl) o ho d hd
   ·have hcl:(zd8 (zds b) 128 x).length=128:=zrj (K:=(zds b).length/128) (by omega) hx
    refine za rfl rfl ?_
    refine za (l:=k80.map W) (List.take_of_length_le (by rw[List.drop_zero,List.length_map,zk9];exact Nat.le_refl _)) (by rw[List.length_map,zk9]) ?_
    refine ze (zawb (hX b pre) k80 (zd8 (zds b) 128 x) zk9 hcl) ?_
    exact zac [(1,1)] rfl ⟨⟨rfl,rfl⟩,trivial⟩ ⟨by rw[zdpb];exact⟨_,_,rfl,cr,_,_,rfl,cr,_,_,rfl,cr,_,_,rfl,cr,_,_,rfl,cr,_,_,rfl,cr,_,_,rfl,cr,_,_,rfl,cr,rfl⟩,trivial⟩
  case done=>
   intro D Wr k' g' hsD
   generalize hXe:hX b (upto (λj=>j) ((zds b).length/128))=xe at hsD
   refine wpIn_wide.2 (za3 (T:=Tab) mixed Tab_ok _ _ (λe S'=>(e= .normal\/e= .ret)/\oget S'.O 2=some (.gen (zo9 D))/\finv Tab Tryz.f300.results (.r (.ag ((sumB b).map U8))) e (S'.set 2 none)) ?_ _ 35 _ _ _ _ ⟨g',hsD⟩ (by kernel_rfl) (λe S' a' w' k2 hq hs'=>z76 (T:=Tab) Tab_ok hq.1 hq.2.2 hq.2.1 hs'))
   have hse:sumB b=sumJ xe 64:=by rw[sumB,endX,hXe]
   rw[hse]
   clear hsD hXe hse
   refine Vloop.mk' (smO xe D) (λj=>j<=64) (λj=>64-j) 0 (by omega) (zac [(0,0),(1,1),(2,2),(3,3)] (z8w xe D 0) ⟨rfl,rfl,rfl,cr,trivial⟩ ⟨zae ((List.replicate 64 (0:UInt8)).map U8),(bD bZ),λ_ _ _ h=>h,by rw[z83];exact zae ((List.replicate 64 (0:UInt8)).map U8),trivial⟩) ?_
   intro j hj
   refine zh (λh=>zq ?_) (λh=>zt ?_)
   ·simp only[zb]at h
    have hj':j<64:=by omega
    refine Vquo.i64 j 8 rfl rfl (by omega) (by omega) ?_
    refine Vadr.mk' (j/8) rfl (by omega) ?_
    (conv=>whnf)
    generalize hq:lget _ _=q
    obtain rfl:=hq.symm.trans (zi2 (l:=xe.l) (j:=j/8) (by show j/8<8;omega))
    clear hq
    refine Vrem.nat j 8 rfl rfl (by omega) ?_
    refine zd (m:=((j%8*8:Nat):Int)) (by omega) (by omega) ?_
    refine zd (m:=((56-j%8*8:Nat):Int)) (by omega) (by omega) ?_
    refine Vshr.w _ (56-j%8*8) rfl rfl ?_
    refine Vint.u8 _ rfl ?_
    refine Vadr.mk' j rfl (by omega) ?_
    (conv=>whnf)
    generalize hq:(zbi _&&_)=q
    obtain rfl:=hq.symm.trans (z00 (x:=UInt8.ofNat (shrW (xe.l.getD (j/8) 0) (56-j%8*8)).toNat) (j:=j) (by rw[zex];omega))
    clear hq
    refine zy7 (by rw[zex];omega) ?_
    have hs:=z82 xe j
    unfold sumC at hs
    rw[<-hs]
    refine zd (m:=((j+1:Nat):Int)) (by omega) (by omega) ?_
    exact⟨j+1,by omega,by omega,zac [(0,0),(1,1),(2,2),(3,3)] (z8w xe D (j+1)) ⟨rfl,rfl,rfl,cr,trivial⟩ ⟨zae ((List.replicate 64 (0:UInt8)).map U8),(bD bZ),λ_ _ _ h=>h,zae ((sumJ xe (j+1)).map U8),trivial⟩⟩
   ·simp only[zb]at h
    obtain rfl:j=64:=by omega
    refine za (l:=((sumJ xe 64).map U8).map TF.r) (List.take_of_length_le (by simp[zex])) (by simp[zex]) ?_
    (conv=>whnf)
    generalize hq:St.rvs _ _=q
    obtain rfl:=hq.symm.trans (zhz _ _)
    clear hq
    (conv=>whnf)
    generalize hq:(zbi _&&_)=q
    obtain rfl:=hq.symm.trans (ziw (l:=(sumJ xe 64).map U8) 64 (by rw[List.length_map,zex]) rfl)
    clear hq
    refine zfi (by rw[List.length_map,List.length_map,List.length_map,zex];rfl) ?_
    (conv=>whnf)
    refine⟨.inr rfl,rfl,?_⟩
    refine za (l:=((sumJ xe 64).map U8).map TF.r) (List.take_of_length_le (by simp[zex])) (by simp[zex]) ?_
    (conv=>whnf)
    generalize hq:St.rvs _ _=q
    obtain rfl:=hq.symm.trans (zhz _ _)
    clear hq
    exact cr
end
def zem(ls:List (List UInt8)):List UInt8:=sumB (ls.flatMap id)
theorem zc5(ls:List (List UInt8)):(zem ls).length=64:=zb2b _
set_option maxRecDepth 100000 in
theorem z6w(ls:List (List UInt8))(hl:(ls.flatMap id).length<=10000000000):bG 256 [bss ls] (.r (bs (zem ls))):=by
 refine bT Tryz.func256 rfl ?_
 refine ze (zhl ls (by omega)) ?_
 refine ze (z1r (ls.flatMap id) hl) ?_
 (conv=>whnf)
 generalize hq:(zbi _&&_)=q
 obtain rfl:=hq.symm.trans (ziw (l:=(zem ls).map U8) 64 (by rw[List.length_map,zc5]) rfl)
 clear hq
 refine zfi (by rw[List.length_map,List.length_map];show(List.replicate 64 (Value.int .u8 0)).length=_;rw[List.length_replicate];exact(zc5 ls).symm) ?_
 refine Vstep.boxPub (n:=64) (vs:=(zem ls).map U8) Tab_ok rfl rfl rfl rfl rfl rfl rfl (by rw[List.length_map,zc5]) (by decide) (by decide) ?_
 exact zf (by show _=bs (zem ls);rw[bs,zc5])
section
structure S4 where
 a:UInt64
 b:UInt64
 c:UInt64
 d:UInt64
abbrev S4.v(x:S4):List RV:=[W x.a,W x.b,W x.c,W x.d]
abbrev S4.bx(x:S4):Ow:= .box [.r (W x.a), .r (W x.b), .r (W x.c), .r (W x.d)]
abbrev S4.l(x:S4):List UInt64:=[x.a,x.b,x.c,x.d]
def S4.car(x y:S4):UInt64:=carW x.d y.d (carW x.c y.c (carW x.b y.b (carW x.a y.a 0)))
def S4.sum(x y:S4):S4:=⟨x.a+y.a+0,x.b+y.b+carW x.a y.a 0,x.c+y.c+carW x.b y.b (carW x.a y.a 0),x.d+y.d+carW x.c y.c (carW x.b y.b (carW x.a y.a 0))⟩
def S4.bor(x y:S4):UInt64:=borW x.d y.d (borW x.c y.c (borW x.b y.b (borW x.a y.a 0)))
def S4.dif(x y:S4):S4:=⟨x.a-y.a-0,x.b-y.b-borW x.a y.a 0,x.c-y.c-borW x.b y.b (borW x.a y.a 0),x.d-y.d-borW x.c y.c (borW x.b y.b (borW x.a y.a 0))⟩
theorem z1q(x y c:UInt64)(hc:c.toNat<=1):Extn bP 363 [W x,W y,W c] (.r (.tu [W (x-y-c),W (borW x y c)])):=
 Extn.sub (λus w=>run_callFunc_extern Tryz.func363 (by kernel_rfl) (by kernel_rfl) (by kernel_rfl) (e:=zzp) (by kernel_rfl) us w) x y c hc
set_option maxHeartbeats 4000000 in
theorem z7e(x y:S4):bG 301 [.ag x.v, .ag y.v] (.r (.tu [.ag (x.sum y).v,W (x.car y)])):=by
 refine bT Tryz.func301 rfl ?_
 repeat' ((conv=>whnf);first|refine Vrounds.step mixed Tab_ok ?_|refine zu rfl (zq ?_)|refine zw rfl (zt ?_)|refine Vadr.any (by decide) ?_|refine Vint.any (k:= .i64) ?_|refine za rfl rfl ?_|refine bV ?_|refine Vcall.ext (zgw _ _ (carW _ _ _) (by repeat' first|apply z02 |decide)) ?_|refine Vcall.ext (zgw _ _ 0 (by decide)) ?_|refine Vloop.rounds 5 ?_)
 exact⟨_,rfl,cr⟩
set_option maxHeartbeats 4000000 in
theorem zhdb(x y:S4):bG 335 [.ag x.v, .ag y.v] (.r (.tu [.ag (x.dif y).v,W (x.bor y)])):=by
 refine bT Tryz.func335 rfl ?_
 repeat' ((conv=>whnf);first|refine Vrounds.step mixed Tab_ok ?_|refine zu rfl (zq ?_)|refine zw rfl (zt ?_)|refine Vadr.any (by decide) ?_|refine Vint.any (k:= .i64) ?_|refine za rfl rfl ?_|refine bV ?_|refine Vcall.ext (z1q _ _ (borW _ _ _) zc7b) ?_|refine Vcall.ext (z1q _ _ 0 (by decide)) ?_|refine Vloop.rounds 5 ?_)
 exact⟨_,rfl,cr⟩
def ord4:S4:=⟨6346243789798364141,1503914060200516822,0,1152921504606846976⟩
theorem zd4b:bG 336 [] (.r (.ag ord4.v)):=by
 refine bT Tryz.func336 rfl ?_
 repeat' ((conv=>whnf);first|refine za rfl rfl ?_)
 exact cr
attribute [irreducible] ord4
def S4.once(x:S4):S4:=if x.bor ord4=0 then x.dif ord4 else x
set_option maxHeartbeats 4000000 in
theorem z65(x:S4):bG 302 [.ag x.v] (.r (.ag x.once.v)):=by
 refine bT Tryz.func302 rfl ?_
 refine bV ?_
 refine za rfl rfl ?_
 refine ze zd4b ?_
 refine ze (zhdb x ord4) ?_
 refine zh (λh=>zq ?_) (λh=>zt ?_)
 ·have e:x.bor ord4=0:=by
   rw[beq_iff_eq]at h
   have:(x.bor ord4).toNat=0:=by omega
   exact UInt64.toNat_inj.1 this
  refine za rfl rfl ?_
  refine za rfl rfl ?_
  exact zf (by rw[S4.once,if_pos e])
 ·have e: ¬x.bor ord4=0:=by
   rw[beq_eq_false_iff_ne]at h
   intro e
   rw[e]at h
   exact h rfl
  refine za rfl rfl ?_
  refine za rfl rfl ?_
  exact zf (by rw[S4.once,if_neg e])
end
def swI(b:List UInt8)(at_ j:Nat):St:={F:=[(0, .r (bs b)),(1, .r (I at_)),(5, .r (W (zes b at_ j))),(6, .r (I (7-(j:Int))))],O:=[],nx:=0}
theorem ze2b(x:UInt64):x|||UInt64.ofNat (0:UInt8).toNat=x:=by
 have e:UInt64.ofNat (0:UInt8).toNat=0:=rfl
 rw[e,UInt64.or_zero]
theorem zegb(b:List UInt8)(at_:Nat)(hb:b.length<=10000000000)(ha:at_<=10000000000):bG 298 [bs b,I at_] (.r (W (zes b at_ 8))):=by
 refine bT Tryz.func298 rfl ?_
 refine Vloop.mk' (swI b at_) (λj=>j<=8) (λj=>8-j) 0 (by omega) (zac [] rfl ⟨cr,cr,by rw[zte];exact cr,cr,trivial⟩ trivial) ?_
 intro j hj
 refine zh (λh=>zq ?_) (λh=>zt ?_)
 ·simp only[zb]at h
  have hj':j<8:=by omega
  refine Vshl.w _ 8 rfl rfl (by decide) ?_
  refine zd (m:=((at_+(7-j):Nat):Int)) (by omega) (by omega) ?_
  have hs:=ztd b at_ j
  refine zh (λh2=>zq ?_) (λh2=>zt ?_)
  ·simp only[zb]at h2
   have hl:at_+(7-j)<b.length:=by omega
   refine zd (m:=((at_+(7-j):Nat):Int)) (by omega) (by omega) ?_
   refine zm (by omega) (by omega) (zaj rfl hl) (zg rfl ?_)
   refine Vint.w _ rfl ?_
   refine Vbits.wor _ _ rfl rfl ?_
   refine zd (m:=7-((j+1:Nat):Int)) (by omega) (by omega) ?_
   exact⟨j+1,by omega,by omega,zac [] rfl ⟨cr,cr,by
    rw[hs,List.getD_eq_getElem?_getD,List.getElem?_eq_getElem hl];exact cr,cr,trivial⟩ trivial⟩
  ·simp only[zb]at h2
   refine zd (m:=7-((j+1:Nat):Int)) (by omega) (by omega) ?_
   exact⟨j+1,by omega,by omega,zac [] rfl ⟨cr,cr,by
    rw[hs,List.getD_eq_getElem?_getD,List.getElem?_eq_none (by omega)]
    show Cv _ (W (_|||UInt64.ofNat (0:UInt8).toNat))
    rw[ze2b];exact cr,cr,trivial⟩ trivial⟩
 ·simp only[zb]at h
  obtain rfl:j=8:=by omega
  exact cr
section
abbrev wsR(l:List UInt64):RV:= .sl 1 l.length (l.map W)
theorem z4c{l:List UInt64}{i:Int}{j:Nat}(h:i=j)(hj:j<l.length):((l.map W).drop (i.toNat*1)).take 1=[W (l.getD j 0)]:=by
 subst h
 simp only[Int.toNat_natCast,Nat.mul_one]
 rw[List.drop_eq_getElem_cons (by simpa using hj),List.getD_eq_getElem?_getD,List.getElem?_eq_getElem hj]
 simp
def bitW(ws:List UInt64)(i:Nat):UInt64:=shrW (ws.getD (i/64) 0) (i%64)&&&1
def S4.orb(x:S4)(b:UInt64):S4:=⟨x.a|||b,x.b,x.c,x.d⟩
def redN(ws:List UInt64):Nat->S4
 |0=>⟨0,0,0,0⟩
 |j+1=>(((redN ws j).sum (redN ws j)).orb (bitW ws (64*ws.length-1-j))).once
theorem z8p(ws:List UInt64):redN ws 0=⟨0,0,0,0⟩:=rfl
theorem z8o(ws:List UInt64)(j:Nat):redN ws (j+1)=(((redN ws j).sum (redN ws j)).orb (bitW ws (64*ws.length-1-j))).once:=rfl
attribute [irreducible] redN
def zpi(ws:List UInt64):S4:=redN ws (64*ws.length)
def rdI(ws:List UInt64)(j:Nat):St:={F:=[(0, .r (wsR ws)),(2, .own 0),(3, .own 1),(4, .r (I (64*ws.length-j)))],O:=[(0,some (S4.bx ⟨0,0,0,0⟩)),(1,some (redN ws j).bx)],nx:=2}
set_option maxHeartbeats 4000000 in
theorem zxw(ws:List UInt64)(hw:ws.length<=1000000000):bG 299 [wsR ws] (.r (.ag (zpi ws).v)):=by
 refine bT Tryz.func299 rfl ?_
 refine Vcode.scope2 mixed Tab_ok 0 (rdI ws) (λj=>j<=64*ws.length) (λj=>64*ws.length-j) rfl ?_ ?_
 ·(conv=>whnf)
  refine⟨rfl,?_⟩
  refine zd (m:=64*(ws.length:Int)) rfl (by omega) ?_
  refine⟨rfl,0,by omega,zac [(0,0),(1,1)] rfl ⟨cr,rfl,rfl,zf (by congr 1<;>omega),trivial⟩ ⟨(bC bZ),by rw[z8p];exact⟨_,_,rfl,cr,_,_,rfl,cr,_,_,rfl,cr,_,_,rfl,cr,rfl⟩,trivial⟩⟩
 ·intro j hj
  refine zd (m:=64*(ws.length:Int)-j-1) rfl (by omega) ?_
  refine zh (λh=>zq ?_) (λh=>zt ?_)
  ·simp only[zb]at h
   have hj':j<64*ws.length:=by omega
   generalize hX:redN ws j=x
   refine za rfl rfl ?_
   refine za rfl rfl ?_
   refine ze (z7e x x) ?_
   refine bV ?_
   refine Vadr.any (by decide) ?_
   refine Vquo.i64 (64*ws.length-1-j) 64 (by omega) rfl (by omega) (by omega) ?_
   refine zm (by omega) (by omega) (z4c rfl (by omega)) (zg rfl ?_)
   refine Vrem.nat (64*ws.length-1-j) 64 (by omega) rfl (by omega) ?_
   refine Vshr.w _ ((64*ws.length-1-j)%64) rfl rfl ?_
   refine Vbits.wand _ 1 rfl rfl ?_
   refine Vbits.wor _ _ rfl rfl ?_
   refine Vadr.any (by decide) ?_
   refine za rfl rfl ?_
   refine ze (z65 ((x.sum x).orb (bitW ws (64*ws.length-1-j)))) ?_
   exact⟨j+1,by omega,by omega,zac [(0,0),(1,1)] rfl ⟨cr,rfl,rfl,zf (by congr 1<;>omega),trivial⟩ ⟨(bC bZ),by rw[z8o,hX];exact⟨_,_,rfl,cr,_,_,rfl,cr,_,_,rfl,cr,_,_,rfl,cr,rfl⟩,trivial⟩⟩
  ·simp only[zb]at h
   obtain rfl:j=64*ws.length:=by omega
   refine za rfl rfl ?_
   refine za rfl rfl ?_
   exact cr
end
theorem zgyb(x y:UInt64):bG 358 [W x,W y] (.r (.tu [W (mulH x y),W (x*y)])):=by
 refine bT Tryz.func358 rfl ?_
 refine zt ?_
 refine ze (ztw x y) ?_
 exact⟨_,rfl,cr⟩
theorem zrn: ∀(n t:Nat) (acc:Array Value),(∀v∈acc.toList,v.oneCell'=true)->∀v∈(Extern.BytealgMakeNoZero.digits n t acc).toList,v.oneCell'=true
 |0,_,acc,h=>h
 |n+1,t,acc,h=>by
  rw[Extern.BytealgMakeNoZero.digits]
  refine zrn n _ _ λv hv=>?_
  rw[Array.toList_push,List.mem_append]at hv
  rcases hv with hv |hv
  ·exact h v hv
  ·rw[List.mem_singleton]at hv
   subst hv
   rfl
theorem zfab{P:Program}(w:World)(ps:Array TypeId)(t e:TypeId)(ht:P.underlying t=some (.slice e))(n:Nat)(hn:n<=281474976710656):
  ∃cs:Array Value,(Extern.BytealgMakeNoZero.makeNoZero ps #[t] #[.int .i64 n]).run P w= .ok (.slice (some ⟨w.heap.size,0,none⟩) n cs.size) (w.drew.drew.alloc (.cells cs e))/\n<=cs.size/\cs.size<=maxLen/\∀v∈cs.toList,v.oneCell'=true:=by
 have hdef:Extern.BytealgMakeNoZero.makeNoZero ps #[t] #[.int .i64 n]=
   (do
    let .slice elem<-underlying t |stuck "bytealg.MakeNoZero: slice type expected"
    if(n:Int)<0||(n:Int)>2^48 then runtimePanic (.error "makeslice: len out of range")
    let cap<-choose (.appendCap (n:Int).toNat 0 elem)
    askRoom cap
    let bytes<-choose (.extern "internal/bytealg.MakeNoZero.bytes" 0)
    let a<-newRow elem (Extern.BytealgMakeNoZero.digits cap bytes #[])
    pure (.slice (some a) (n:Int).toNat cap)):=rfl
 refine⟨Extern.BytealgMakeNoZero.digits (grownCap w n 0 e) ((Question.extern "internal/bytealg.MakeNoZero.bytes" 0).cut (w.tape (w.drawn+1) (.extern "internal/bytealg.MakeNoZero.bytes" 0))) #[],?_,?_,?_,zrn _ _ _ (by simp)⟩
 ·rw[hdef]
  have h1: ¬(n:Int)<0:=by omega
  have h2: ¬(281474976710656:Int)< (n:Int):=by omega
  simp[run_underlying ht,h1,h2,Question.forced,newRow,Lib.size_digits,grownCap]
 ·rw[Lib.size_digits]
  simpa using grownCap_ge w n 0 e
 ·rw[Lib.size_digits]
  simpa using grownCap_le_maxLen w n 0 e (by simp only[maxLen];omega)
theorem zi3b(n:Nat)(hn:n<=1000000000):Extn bP 359 [I n] (.own 5 1 n (List.replicate n .any)):=by
 intro w k vs h
 simp only[RV.partsAt,RV.at_]at h
 obtain⟨_,_,rfl,rfl,rfl⟩:=h
 obtain⟨cs,hr,h1,h2,h3⟩:=zfab (P:=Tryz.prog) w #[3] 22 5 (by kernel_rfl) n (by omega)
 refine⟨_,_,(run_callFunc_extern Tryz.func359 (by kernel_rfl) (by kernel_rfl) (by kernel_rfl) (e:=Extern.BytealgMakeNoZero.makeNoZero #[3] #[22]) (by kernel_rfl) _ w).trans (by rw[hr];rfl),?_,kset k w.heap.size 0,λb hb=>zdd b hb,some w.heap.size,⟨by simp, .inr ⟨w.heap.size,cs.size,cs,rfl,rfl,heap_alloc_new w.drew.drew _,h1,h2,by omega,zcu,?_⟩⟩,λb hb=>?_⟩
 ·exact Ext.alloc (Ext.drew (Ext.drew (Ext.refl w))) _
 ·rw[RV.listAt_iff]
  refine⟨by rw[List.length_take,Array.length_toList,List.length_replicate];omega,λj f u hf hu=>⟨?_,?_⟩⟩
  ·exact h3 u (List.mem_of_mem_take (List.mem_of_getElem? hu))
  ·have:=(List.getElem?_eq_some_iff.1 hf).2
   rw[List.getElem_replicate]at this
   subst this
   simp[RV.at_]
 ·injection hb with hb
  omega
section
variable {P:Program} {T:TT} {B:Bs} {N:Nat} {S:St} {a:Act} {w:World} {k:Kp} {g:Env} {o:Oper} {Q:Exit->Act->World->Prop}
theorem Vstep.min{x y:Operand}{ts:Array TypeId}{m n:Int}{K:St->Prop}(hop:o.op= .call {callee:= .builtin .min,args:= #[x,y],argTypes:=ts}) (hx:opr S x=some (.r (.i .i64 m))) (hy:opr S y=some (.r (.i .i64 n)))
  (hK:newK S o.dst (.r (.i .i64 (if n<m then n else m))) none K):Vstep P S o K:=by
 rw[za4]at hK
 refine Vstep.one (λB N a w k Q ⟨g,hs⟩ hd=>?_) hK
 have hv:=(zah hs hx).2
 have hn:=(zah hs hy).2
 simp only[TF.at_,RV.at_]at hv hn
 refine za0 (v:= .int .i64 (if n<m then n else m)) (w':=w) ?_ ⟨k,g,hs.put hd trivial (by simp[TF.at_,RV.at_])⟩
 simp[execOp,hop,resolve,invoke,builtin,hv,hn,Builtin.min_,Builtin.min2]
theorem Vstep.clip{t e:TypeId}{ti te:TI}{x y z:Operand}{id sz n:Nat}{cells:List RV}{K:St->Prop}(hT:TOk P T)(hop:o.op= .slice t x none (some y) (some z))(hti:tget T t=some ti)(hk:ti.k= .slice e)(hte:tget T e=some te)(hsz:te.sz=sz)
  (hx:opr S x=some (.own id)) (ho:oget S.O id=some (.ch e sz n cells false)) (hy:opr S y=some (.r (.i .i64 n))) (hz:opr S z=some (.r (.i .i64 n))) (hn:0<n)
  (hK:newK (S.set id none) o.dst (.own S.nx) (some (.ch e sz n cells false)) K):Vstep P S o K:=by
 rw[za4]at hK
 refine Vstep.one (λB N a w k Q ⟨g,hs⟩ hd=>?_) hK
 have hxv:=(zah hs hx).2
 have hyv:=(zah hs hy).2
 have hzv:=(zah hs hz).2
 simp only[TF.at_,RV.at_]at hxv hyv hzv
 obtain⟨q1,q2,q3,q4⟩:=hs.owns id _ ho
 simp only[Ow.at_]at q3
 obtain⟨q,hq⟩:=hT.get hti
 obtain⟨d,hdd,hko,_⟩:=q.desc
 rw[hq]at hdd
 rw[hk]at hko
 simp only[KOk]at hko
 subst hko
 obtain⟨qe,hqe⟩:=hT.get hte
 have hsize:=zbm (w:=w) qe hqe
 have hw:Wrote w k w k (g id).2:=⟨rfl,rfl,rfl,Nat.le_refl _,λ_ _ _=>⟨rfl,rfl⟩,λ_ _=>⟨Nat.le_refl _,λ_ _=>rfl,λ_ _ _ h=>h⟩⟩
 have h1:=hs.wrote hw (id:=some id) ⟨⟨_,ho⟩,rfl⟩
 have hcl:=q3.1
 rcases q3.2 with⟨h,⟨h0,_⟩ |⟨_,h',_⟩⟩ |⟨b,cap,cur,g1,g2,g3,g4,g5,g6,g7,g8⟩
 ·omega
 ·cases h'
 have hrun:(Instr.sliceAt t (a.eval x) none (some (a.eval y)) (some (a.eval z))).run P w= .ok (.slice (some ⟨b,0,none⟩) n n) w:=by
  rw[hxv,hyv,hzv,g2]
  have hne: ¬n=0:=by omega
  simp[Instr.sliceAt,Instr.slice,Instr.sliceBounds,Instr.sliceBound,asIntOf,run_underlying hdd w,hsize,g4,hne,Addr.add]
 have hsl:n*sz<=cap*sz:=Nat.mul_le_mul_right _ g4
 refine za0 (v:= .slice (some ⟨b,0,none⟩) n n) (w':=w) (by simp[execOp,hop,hrun]) ⟨k,_,h1.adopt hd (o:= .ch e sz n cells false) (vb:=(.slice (some ⟨b,0,none⟩) n n,(g id).2)) trivial ?_ (λb hb=>q4 b hb) λj o' b hj hb hgj=>?_⟩
 ·simp only[Ow.at_]
  exact⟨hcl, .inr ⟨b,n,cur,g1,rfl,g3,Nat.le_refl _,by omega,by omega,g7,g8⟩⟩
 ·rcases zav hj with⟨_,e'⟩ |⟨hne,hj⟩
  ·cases e'
  ·exact hs.apart id j _ o' b ho hj hne hb hgj
end
def wrdI(b:List UInt8)(i:Nat):List UInt64:=(List.range i).map λj=>zes b (8*j) 8
theorem zz2(b:List UInt8)(i:Nat):(wrdI b i).length=i:=by simp[wrdI]
theorem z9e(b:List UInt8)(i:Nat):wrdI b (i+1)=wrdI b i++[zes b (8*i) 8]:=by simp[wrdI,List.range_succ]
def scOf(b:List UInt8):S4:=zpi (wrdI (b.take 64) (((b.take 64).length+7)/8))
def scI(b:List UInt8)(i:Nat):St:={F:=[(0, .r (bs b)),(2, .own 0),(3, .own 1),(4, .r (I ((8*i:Nat):Int)))],O:=[(0,some (S4.bx ⟨0,0,0,0⟩)),(1,some (.ch 23 1 i ((wrdI b i).map W) true))],nx:=2}
theorem z9f(l:List UInt64)(n:Nat)(h:l.length=n):RV.sl 1 n (l.map W)=wsR l:=by rw[<-h]
set_option maxHeartbeats 1000000 in
theorem zxz(b:List UInt8)(hb:b.length<=10000000000):bG 255 [bs b] (.r (.ag (scOf b).v)):=by
 refine bT Tryz.func255 rfl ?_
 refine Vstep.min rfl rfl rfl ?_
 have hl:(b.take 64).length=min 64 b.length:=List.length_take
 refine⟨by omega,by split<;>omega,by split<;>omega,(b.take 64).length,(b.take 64).map U8,by split<;>omega,?_,?_⟩
 ·rw[Int.toNat_zero,Nat.zero_mul,List.drop_zero,Nat.mul_one,List.map_take,hl]
  rcases Nat.le_total 64 b.length with h |h
  ·rw[Nat.min_eq_left h]
  ·rw[Nat.min_eq_right h,List.take_of_length_le (by simp),List.take_of_length_le (by simpa using h)]
 have hsc:scOf b=zpi (wrdI (b.take 64) (((b.take 64).length+7)/8)):=rfl
 generalize b.take 64=c at*
 have hc:c.length<=64:=by omega
 refine Vloop.mk' (scI c) (λi=>i<=(c.length+7)/8) (λi=>(c.length+7)/8-i) 0 (by omega) (Sub.trans (zb7 3 23 1 rfl) (zac [(0,0),(1,1)] rfl ⟨cr,rfl,rfl,cr,trivial⟩ ⟨(bC bZ),⟨rfl,rfl,rfl,rfl,zn _⟩,trivial⟩)) ?_
 intro i hi
 refine zh (λh=>zq ?_) (λh=>zt ?_)
 ·simp only[zb]at h
  refine ze (zegb c (8*i) (by omega) (by omega)) ?_
  refine zy ?_
  refine Vapp.mk' (j:=i+1) (zs:=(wrdI c (i+1)).map W) (by simp[maxLen];omega) (by show(i+1)*8<=_;omega) rfl (by rw[z9e,List.map_append];rfl) ?_
  refine zd (m:=((8*(i+1):Nat):Int)) (by omega) (by omega) ?_
  exact⟨i+1,by omega,by omega,zac [(0,0),(1,3)] rfl ⟨cr,rfl,rfl,cr,trivial⟩ ⟨(bC bZ),⟨rfl,rfl,rfl,rfl,zn _⟩,trivial⟩⟩
 ·simp only[zb]at h
  obtain rfl:i=(c.length+7)/8:=by omega
  have hrd:=zxw (wrdI c ((c.length+7)/8)) (by rw[zz2];omega)
  rw[<-z9f _ _ (zz2 c _)]at hrd
  refine ze hrd ?_
  refine za rfl rfl ?_
  rw[hsc]
  exact cr
end Go.Proofs.YtoegdgbghdnnfaaGreat.Sx
