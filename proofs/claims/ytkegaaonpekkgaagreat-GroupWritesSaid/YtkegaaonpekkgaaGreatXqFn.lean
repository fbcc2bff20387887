import Derived.Test.YtkegaaonpekkgaaGreatXqFf
import Derived.Test.YtkegaaonpekkgaaGreatXqNx
import Derived.RangeFuncNested
import Derived.RangeFuncLeaves
import Derived.Test.YtkegaaonpekkgaaGreatXqFa
import Derived.Test.YtkegaaonpekkgaaGreatXqKg
import Derived.Test.YtkegaaonpekkgaaGreatXqKu
import Derived.Test.YtkegaaonpekkgaaGreatXqSxY
import Derived.Test.YtkegaaonpekkgaaGreatXqNq
namespace Go.Proofs.YtkegaaonpekkgaaGreat.Sx
open Go.RowKit
set_option maxHeartbeats 4000000
section
def Y3(f:FuncId)(rvs:List RV):Stable where
 at_ w k v:=∃cap,v= .func (.func f) #[] cap/\RV.partsAt w k rvs cap.toList
 mono:=λh ⟨cap,e,hp⟩=>⟨cap,e,RV.parts_mono h rvs _ hp⟩
 one:=by rintro w k v ⟨cap,rfl,_⟩;rfl
section
variable {P:Program} {S:St} {o:Oper}
theorem Vstep.mkfunS{f:FuncId}{cap:Array Operand}{rvs:List RV}{K:St->Prop}(hop:o.op= .makeFunc (.func f) #[] cap) (hc:tU S cap.toList=some rvs) (hK:yI S o.dst (.r (.s (Y3 f rvs))) none K):Vstep P S o K:=by
 rw[yJ]at hK
 refine zI (λB N a w k Q ⟨g,hs⟩ hd=>?_) hK
 have hp:=ij hs hc
 refine yG (v:= .func (.func f) #[] (cap.map a.eval)) (w':=w) (by simp[execOp,hop,Instr.makeFunc]) ⟨k,g,hs.put hd trivial ?_⟩
 simp only[TF.at_,RV.at_]
 exact⟨_,rfl,by simpa using hp⟩
end
theorem Ga(l:cT)(m:Nat)(hm:1<=m):aG 428 [bs l,I m] (.r (.s (Y3 490 [.ptr [bs l],.ptr [I m]]))):=by
 refine aT Tryz.func428 rfl ?_
 refine zh (λh=>?_) (λh=>zq ?_)
 ·simp only[zb]at h
  omega
 refine zJ (xO (id:=0) (t:=2) [bs l] rfl rfl) (zJ (xO (id:=1) (t:=3) [I m] rfl rfl) (Vstep.mkfunS rfl rfl ?_))
 exact cr
def iv8:X8:=⟨7640891576956012808,13503953896175478587,4354685564936845355,11912009170470909681,5840696475078001361,11170449401992604703,2270897969802886507,6620516959819538809⟩
def k80:List UInt64:=[4794697086780616226,8158064640168781261,13096744586834688815,16840607885511220156,4131703408338449720,6480981068601479193,10538285296894168987,12329834152419229976,15566598209576043074,1334009975649890238,2608012711638119052,6128411473006802146,8268148722764581231,9286055187155687089,11230858885718282805,13951009754708518548,16472876342353939154,17275323862435702243,1135362057144423861,2597628984639134821,3308224258029322869,5365058923640841347,6679025012923562964,8573033837759648693,10970295158949994411,12119686244451234320,12683024718118986047,13788192230050041572,14330467153632333762,15395433587784984357,489312712824947311,1452737877330783856,2861767655752347644,3322285676063803686,5560940570517711597,5996557281743188959,7280758554555802590,8532644243296465576,9350256976987008742,10552545826968843579,11727347734174303076,12113106623233404929,14000437183269869457,14369950271660146224,15101387698204529176,15463397548674623760,17586052441742319658,1182934255886127544,1847814050463011016,2177327727835720531,2830643537854262169,3796741975233480872,4115178125766777443,5681478168544905931,6601373596472566643,7507060721942968483,8399075790359081724,8693463985226723168,9568029438360202098,10144078919501101548,10430055236837252648,11840083180663258601,13761210420658862357,14299343276471374635,14566680578165727644,15097957966210449927,16922976911328602910,17689382322260857208,500013540394364858,748580250866718886,1242879168328830382,1977374033974150939,2944078676154940804,3659926193048069267,4368137639120453308,4836135668995329356,5532061633213252278,6448918945643986474,6902733635092675308,7801388544844847127]
theorem kM:k80.length=80:=rfl
theorem HZ:aG 426 [] (.r (.ag iv8.v)):=by
 refine aT Tryz.func426 rfl ?_
 repeat' ((conv=>whnf);first|refine za rfl rfl ?_)
 exact cr
set_option maxRecDepth 100000 in
theorem LU:aG 427 [] (.r (.ag (k80.map W))):=by
 refine aT Tryz.func427 rfl ?_
 repeat' ((conv=>whnf);first|refine za rfl rfl ?_)
 exact zf (by kernel_rfl)
attribute [irreducible] k80 iv8
end
section
variable {P:Program} {T:TT} {B:Bs} {N:Nat} {S:St} {a:Act} {w:World} {k:Kp} {g:Env} {o:Oper} {Q:Exit->Act->World->Prop}
def YW(o:Oper):Bool:=match o.op with
 | .defer _=>false
 |_=>true
theorem KR{n l:Nat}{next:Act->World->Prop}(hnd:YW o=true)(h:o.wp P a w next Q):o.wpIn (Fence.wide.inRound l) n P a w next Q:=by
 refine⟨λ_ _=>trivial,?_⟩
 rw[Oper.semAt_eq _ _ _ (λc e=>by simp[YW,e]at hnd)]
 unfold Oper.wp at h
 generalize (execOp a.eval o).run P w=r at h
 cases r with
 |ok x w'=>
  cases x with
  |value v=>exact h
  |skip=>exact h
  |defer d=>exact h
  |enter f args=>exact⟨λhd=>by simp[Fence.wide]at hd,CallsIn.inRound l (callsIn_wide.2 h)⟩
  |row row args=>exact⟨λhd=>by simp[Fence.wide]at hd,λc cs _=>by
    obtain⟨v,w',r,s⟩:=h c cs
    exact⟨v,w',r,stepsIn_wide.2 s⟩⟩
  |_=>exact h.elim
 |halt x w'=>
  cases x with
  |panic v=>exact h
  |_=>exact h.elim
theorem jT{n l:Nat}{ops:Array Oper}(hQ: ¬LetsOut Q): ∀{r:List Oper} {a:Act} {w:World},(∀o∈r,YW o=true)->wpList P ops Q r a w->wpListIn (Fence.wide.inRound l) n P ops Q r a w
 |[],_,_,_,h=>h
 |o::r,a,w,hn,h=>by
  unfold wpList at h
  unfold wpListIn
  have ih: ∀a w,wpList P ops Q r a w->wpListIn (Fence.wide.inRound l) n P ops Q r a w:=λa w h=>jT hQ (λo ho=>hn o (by simp[ho])) h
  split at h
  ·rename_i hw
   rw[cO hw]
   rcases h with h |⟨_,h⟩
   ·exact KR (hn o (by simp)) (Oper.wp_mono (λa w h=>ih a w h) h)
   ·exact absurd h hQ
  ·rename_i hw
   rw[cQ hw]
   exact⟨λ_ _=>trivial,ih _ _ h⟩
end
theorem TQ(n:Nat)(hn:1<=n)(Bs Bn oS oN b off m K L cap:Nat)(hm:0<m)(hL:m*K=L)(hlen:L<=cap)(hbig:L<=1000000000000)(Kp:World->World->Prop)(w:World)
  (hKp: ∀A B,Kp A B->B.cell? ⟨Bs,oS,none⟩=A.cell? ⟨Bs,oS,none⟩/\B.cell? ⟨Bn,oN,none⟩=A.cell? ⟨Bn,oN,none⟩)
  (hBs:w.cell? ⟨Bs,oS,none⟩=some (.slice (some ⟨b,off,none⟩) L cap)) (hBn:w.cell? ⟨Bn,oN,none⟩=some (.int .i64 m)):
  SeqStopsK (α:=Fin K) Fence.wide n aP 490 #[.pointer (some ⟨Bs,oS,none⟩),.pointer (some ⟨Bn,oN,none⟩)] (λx=> #[qy b off m x.val]) Kp (λxs=>xs.map (·.val)=ni (λj=>j) K) (λ_=>True) K w:=by
 intro l J Jx W hW hJ hJx hY h0
 have hc: ∀a v,w.cell? a=some v->W.cell? a=some v:=λa v h=>(World.cell?_of_block (hW.block _ (World.block_lt_of_cell? w a h))).trans h
 refine(O8 n hn l Bs Bn oS oN b off m K L cap hm hL hlen hbig Kp hKp (λpre W=>∃p:List (Fin K),p.map (·.val)=pre/\J p W) (λpre W=>∃p:List (Fin K),p.map (·.val)=pre/\Jx p W) ?_ ?_ W (hc _ _ hBs) (hc _ _ hBn) ⟨[],rfl,h0⟩).mono ?_
 ·rintro pre W ⟨p,hp,hj⟩
  exact⟨p,hp,hJ p W W.drew none hj ⟨rfl,rfl,rfl,bQ _,λ_ _ _=>rfl⟩ (λr e=>by cases e)⟩
 ·rintro pre k W hk ⟨p,hp,hj⟩ hlt
  obtain⟨fn,tmps,assign,body,hy,hR⟩:=hY p ⟨k,hlt⟩ W hj (by rw[<-hp,bC]at hk;omega)
  refine⟨fn,tmps,assign,body,hy,hR.mono ?_⟩
  rintro e W' (⟨h1,h2,h3⟩ |⟨h1,h2⟩)
  ·exact .inl ⟨h1,⟨_,by simp[hp],h2⟩,h3⟩
  ·exact .inr ⟨h1,⟨_,by simp[hp],h2⟩⟩
 ·rintro e W' ⟨hv,(⟨ys,rfl,p,hp,hj⟩ |⟨pre,_,p,hp,hj⟩)⟩
  ·exact⟨hv,.inl ⟨p,hp,hj⟩⟩
  ·exact⟨hv,.inr ⟨p,trivial,hj⟩⟩
abbrev Jz(x:UInt64):Value:= .int .u64 (x.toNat:Int)
theorem Xr{w:World}{k:Kp}{g:Env}{b:Nat}{l:List UInt64}(h:(vQ l).at_ w k g (.pointer (some ⟨b,0,none⟩),some b)):k b=0/\∃cur ty,w.heap[b]?=some (.cells cur ty (0,0))/\cur.toList=l.map Jz:=by
 simp only[Ow.at_]at h
 obtain⟨b',cur,ty,e,hh,hk,hs,hc⟩:=h
 injection e with e1 e2
 injection e2 with e2
 subst e2
 refine⟨hk,cur,ty,hh,?_⟩
 apply List.ext_getElem
 ·rw[bG,hs];simp
 ·intro i h1 h2
  have h3:i<l.length:=by simpa using h2
  have:=hc i (.r (W l[i])) cur[i] (by simp[h3]) (by rw[Array.getElem?_eq_getElem])
  simp only[TF.at_,RV.at_]at this
  rw[Array.getElem_toList,this.2]
  simp
theorem MZ{w:World}{k:Kp}{g:Env}{b:Nat}{l:List UInt64}{cur:Array Value}{ty:TypeId}(hk:k b=0)(hh:w.heap[b]?=some (.cells cur ty (0,0)))(hc:cur.toList=l.map Jz):(vQ l).at_ w k g (.pointer (some ⟨b,0,none⟩),some b):=by
 simp only[Ow.at_]
 refine⟨b,cur,ty,rfl,hh,hk,by rw[<-bG,hc];simp,λj f u hf hu=>?_⟩
 rw[<-Array.getElem?_toList,hc]at hu
 rw[bR,bR]at hf
 rw[bR]at hu
 cases hx:l[j]? with
 |none=>rw[hx]at hf;cases hf
 |some x=>
  rw[hx]at hf hu
  cases hf;cases hu
  exact⟨rfl,by simp[TF.at_,RV.at_]⟩
def ul(l:cT)(m x:Nat):cT:=(l.drop (m*x)).take m
theorem al{l:cT}{m K x:Nat}(hl:m*K=l.length)(hx:x<K):(ul l m x).length=m:=by
 have:m*x+m<=m*K:=by rw[<-Nat.mul_succ];exact Nat.mul_le_mul_left _ hx
 rw[ul,bL,bW]
 omega
theorem Ly{w:World}{k:Kp}{b off:Nat}{l:cT}{m K x:Nat}(hm:0<m)(hl:m*K=l.length)(hbig:l.length<=1000000000000)(hx:x<K)(hb:b<w.heap.size)(h:RV.cellsAt w k b off (l.map U8)):(bs (ul l m x)).at_ w k (qy b off m x):=by
 have hcl:=al hl hx
 have hmx:m*x+m<=l.length:=by rw[<-hl,<-Nat.mul_succ];exact Nat.mul_le_mul_left _ hx
 show RV.at_ w k (.sl 1 (ul l m x).length ((ul l m x).map U8)) _
 simp only[RV.at_]
 refine⟨_,m,by rw[hcl];rfl,Nat.le_of_eq hcl,by simp only[maxLen];omega,by simp,λ_=>⟨b,off+m*x,rfl,hb,?_⟩⟩
 rw[RV.cellsAt_iff]at h⊢
 intro j q hq
 rw[bR]at hq
 obtain⟨c,hc,rfl⟩:=Option.map_eq_some_iff.1 hq
 rw[ul,bZ]at hc
 split at hc
 ·rw[List.getElem?_drop]at hc
  have:=h (m*x+j) (U8 c) (by rw[bR,hc];rfl)
  rw[<-Nat.add_assoc]at this
  exact this
 ·cases hc
theorem OF(t:Nat)(f:TF)(r:List (Nat×TF)):yl ((t,f)::r) t=some f:=by
 simp only[yl]
 rw[Nat.beq_refl]
theorem Wa(t:Nat)(f:Option Ow)(r:List (Nat×Option Ow)):ye ((t,f)::r) t=f:=by
 simp only[ye]
 rw[Nat.beq_refl]
def fR(D:Nat):GOw where
 at_:=λw _ vb=>vb=(.int .i64 0,some D)/\w.heap[D]?=some (.deferred (some []))
 mono:=λ_ h ⟨e,hh⟩=>⟨e,by rw[(h D (by rw[e])).1];exact hh⟩
 one:=λ⟨e,_⟩=>by rw[e];rfl
theorem SatE.rebase{B:Bs}{N:Nat}{S:St}{a:Act}{w:World}{k:Kp}{g:Env}(hs:SatE B N S a w k g){i b:Nat}{ow:Ow}(ho:ye S.O i=some ow)(hg:(g i).2=some b)(j:Nat):SatE ⟨w,k,[b],a.defers⟩ N {F:=(j,.nm i (g i).1)::S.F,O:=[(i,some ow)],nx:=S.nx} a w k g:=by
 obtain⟨q1,q2,q3,q4⟩:=hs.owns i ow ho
 refine⟨hs.size,rfl,⟨rfl,rfl,rfl,bQ _,λ_ _ _=>rfl⟩,λ_ _ _=>rfl,λt f hf=>?_,λid o h=>?_,λx y o o' b' hx hy hne=>?_⟩
 ·rcases yO hf with⟨rfl,rfl⟩ |⟨_,hf⟩
  ·exact⟨q1,rfl⟩
  ·exact hs.facts t f hf
 ·rcases yD h with⟨rfl,e⟩ |⟨_,h⟩
  ·cases e
   exact⟨q1,q2,q3,λb' hb'=>⟨.inr (by rw[hg]at hb';cases hb';simp),(q4 b' hb').2⟩⟩
  ·cases h
 ·rcases yD hx with⟨rfl,_⟩ |⟨_,h⟩
  ·rcases yD hy with⟨rfl,_⟩ |⟨_,h⟩
   ·exact absurd rfl hne
   ·cases h
  ·cases h
theorem MG{N:Nat}{w0 w:World}{k0 k:Kp}{a:Act}{g:Env}{S0:St}{i3 t12 p q:Nat}{l:cT}{m K:Nat}{X:List Nat->List UInt64}{assign body:Code}{Q:Exit->Act->World->Prop}
  (hs:SatE ⟨w0,k0,[],[]⟩ N S0 a w k g) (h3:ye S0.O i3=some (vQ (X []))) (ht:yl S0.F t12=some (.r (.s (Y3 490 [.ptr [bs l],.ptr [I m]]))))
  (hm:0<m) (hK:0<K) (hl:m*K=l.length) (hbig:l.length<=1000000000000) (hp:p<N) (hq:q<N)
  (hasg: ∀(ld:Nat) (a:Act) (W:World) (Kk:Act->World->Prop),Kk (a.put (some q) (a.tmps.getD p undef)) W->assign.wpIn (Fence.wide.inRound ld) 1 aP (Exit.then Kk (λ_ _ _=>False)) a W)
  (hbody: ∀(ld:Nat) (v:Value) (pre:List Nat) (x:Nat) (a:Act) (W:World) (k:Kp) (b:Nat),x<K->yK ⟨W,k,[b],[]⟩ N {F:=(q,.r (bs (ul l m x)))::(p,.r (bs (ul l m x)))::(1000000+i3,.nm i3 v)::S0.F,O:=[(i3,some (vQ (X pre)))],nx:=S0.nx} a W k->
   body.wpIn (Fence.wide.inRound ld) 1 aP (λe a' W'=>e= .normal/\∃k',yK ⟨W,k,[b],[]⟩ N {F:=[(1000000+i3,.nm i3 v)],O:=[(i3,some (vQ (X (pre++[x]))))],nx:=S0.nx} a' W' k') a W)
  (hdone: ∀D W k' g',SatE ⟨w0,k0,[],[{target:= .collected D,args:= #[]}]⟩ N ((S0.set i3 (some (vQ (X (ni (λj=>j) K))))).mk_ none (.gen (fR D))) {a with defers:=[{target:= .collected D,args:= #[]}]} W k' g'->Q .normal {a with defers:=[{target:= .collected D,args:= #[]}]} W):
  (Code.rangeFunc (.tmp t12) #[p] assign body).wpIn Fence.wide 3 aP Q a w:=by
 have hdf:a.defers=[]:=hs.defers
 obtain⟨hlt3,hlo3,hat3,hblk3⟩:=hs.owns i3 _ h3
 obtain⟨b3,e3⟩: ∃b3,g i3=(.pointer (some ⟨b3,0,none⟩),some b3):=by
  simp only[Ow.at_]at hat3
  obtain⟨b3,_,_,e,_⟩:=hat3
  exact⟨b3,e⟩
 rw[e3]at hat3
 obtain⟨hk3,cur3,ty3,hh3,hv3⟩:=Xr hat3
 have hb3:b3<w.heap.size:=(Array.getElem?_eq_some_iff.1 hh3).1
 have h12:=(hs.facts t12 _ ht).2
 simp only[TF.at_,RV.at_]at h12
 obtain⟨cap,hv,hparts⟩:=h12
 obtain⟨vS,vN,hcap,hS,hN'⟩:=ZI hparts
 simp only[RV.at_]at hS hN'
 obtain⟨Bs,oS,rfl,hBs,hcS⟩:=hS
 obtain⟨Bn,oN,rfl,hBn,hcN⟩:=hN'
 simp only[RV.cellsAt]at hcS hcN
 obtain⟨⟨hkS,uS,hcellS,_,huS⟩,_⟩:=hcS
 obtain⟨⟨hkN,uN,hcellN,_,huN⟩,_⟩:=hcN
 simp only[RV.at_]at huS huN
 subst huN
 obtain⟨aa,cc,rfl,hlc,hmax,_,hblk⟩:=huS
 obtain⟨b,off,rfl,hbl,hcb⟩:=hblk (by rw[<-hl];exact Nat.mul_pos hm hK)
 have hcapE:cap= #[.pointer (some ⟨Bs,oS,none⟩),.pointer (some ⟨Bn,oN,none⟩)]:=by apply Array.ext';exact hcap
 subst hcapE
 have hneS:Bs≠b3:=λe=>by rw[e,hk3]at hkS;omega
 have hneN:Bn≠b3:=λe=>by rw[e,hk3]at hkN;omega
 obtain⟨KP,hKP⟩: ∃KP:World->World->Prop,KP= λA B=>∀x,x<w.heap.size->x≠b3->B.heap[x]?=A.heap[x]?:=⟨_,rfl⟩
 obtain⟨I,hI⟩: ∃I:List (Fin K)->World->Prop,I= λpre W=>Keep [b3] w W/\∃cur ty,W.heap[b3]?=some (.cells cur ty (0,0))/\cur.toList=(X (pre.map (·.val))).map Jz:=⟨_,rfl⟩
 have hchunk: ∀x,x<K->(bs (ul l m x)).at_ w k (qy b off m x):=λx hx=>Ly hm hl hbig hx hbl hcb
 have sat: ∀pre W,I pre W->∃k',Le w k W k'/\SatE ⟨w0,k0,[],[]⟩ N (S0.set i3 (some (vQ (X (pre.map (·.val)))))) a W k' g:=by
  intro pre W hi
  rw[hI]at hi
  obtain⟨hkeep,cur,ty,hh,hcv⟩:=hi
  have hw:Wrote w k W (λc=>if c<w.heap.size then k c else 0) (some b3):=⟨hkeep.os,hkeep.tape,hkeep.output,hkeep.size,λc hc hne=>⟨hkeep.block c hc (by simpa usingλe=>hne (by rw[e])),by simp[hc]⟩,λc hc=>by
   cases hc
   refine⟨by simp[hb3],λo ho=>by omega,λh=>by omega⟩⟩
  exact⟨_,hw.le,hs.redo h3 (by rw[e3]) hw (by
   intro f hf
   obtain⟨r,_,rfl⟩:=List.mem_map.1 hf
   trivial) (by rw[e3];exact MZ (by simp[hb3,hk3]) hh hcv)⟩
 refine wpIn_rangeFunc_ownH (α:=Fin K) (gf:=490) (w0:=w) rfl (by decide) hv trivial (λargs w=>qw Tryz.func490 rfl (by decide) args)
  (TQ 2 (by decide) Bs Bn oS oN b off m K l.length cc hm hl hlc hbig KP w (λA B h=>?_) hcellS hcellN) (λh1 h2=>?_) (λW ld o o' hld h _ _=>?_) (Below.refl _ _) (λ_=>rfl) I (λ_ _ _=>False) ?_ (λ_ _ _ _ _ h=>h.elim) ?_
  (λx a' _=>a'=(a.put (some p) (qy b off m x.val)).put (some q) (qy b off m x.val)) (λx a' _ _ _ _ h _ _=>h) ?_ ?_ ?_ (λ_ _ _ _ _ _ h=>h.elim)
 ·rw[hKP]at h
  exact⟨World.cell?_of_block (h Bs hBs hneS),World.cell?_of_block (h Bn hBn hneN)⟩
 ·rw[hKP]at h1 h2⊢
  exactλx hx hne=>(h2 x hx hne).trans (h1 x hx hne)
 ·rw[hKP]
  exactλx hx hne=>World.putObj_heap_other (by omega)
 ·intro s W W' row hi hg hr
  rw[hI]at hi⊢
  obtain⟨hkeep,cur,ty,hh,hcv⟩:=hi
  have hnr: ∀c,c<w.heap.size->some c≠row:=λc hc e=>by have:=(hr c e.symm).1;omega
  have hblk: ∀c,c<w.heap.size->W'.heap[c]?=W.heap[c]?:=λc hc=>hg.block c (bN hc hkeep.size) (hnr c hc)
  exact⟨⟨hg.os.trans hkeep.os,hg.tape.trans hkeep.tape,hg.output.trans hkeep.output,Nat.le_trans hkeep.size hg.size,λc hc hn=>(hblk c hc).trans (hkeep.block c hc hn)⟩,cur,ty,(hblk b3 hb3).trans hh,hcv⟩
 ·rw[hI]
  exact⟨⟨rfl,rfl,rfl,bQ _,λ_ _ _=>rfl⟩,cur3,ty3,hh3,hv3⟩
 ·intro ld pre x W Kk hi hk
  refine hasg ld _ W Kk (hk _ W (KeepsFrom.refl _ _) (by rw[hKP];exactλ_ _ _=>rfl) hi ?_)
  have e:({tmps:=(#[p].zip #[qy b off m x.val]).foldl (λt (p,v)=>t.setIfInBounds p v) a.tmps,defers:=[]}:Act)=a.put (some p) (qy b off m x.val):=by
   cases a
   subst hdf
   simp[Act.put]
  rw[e]
  congr 1
  simp only[Act.put]
  exact oX (by rw[hs.size];exact hp)
 ·intro ld pre x a' W hld _ hi hax hlen
  subst hax
  obtain⟨k',hle,hsW⟩:=sat pre W hi
  have hx:=x.isLt
  have hch:=RV.mono hle _ _ (hchunk x.val hx)
  have hr:=hsW.rebase (i:=i3) (ow:=vQ (X (pre.map (λy:Fin K=>y.val)))) (b:=b3) (Wa _ _ _) (by rw[e3]) (1000000+i3)
  have hr2:=(hr.put (dst:=some p) (λd e=>by cases e;exact hp) (f:= .r (bs (ul l m x.val))) trivial hch).put (dst:=some q) (λd e=>by cases e;exact hq) (f:= .r (bs (ul l m x.val))) trivial hch
  rw[hdf]at hr2
  refine wpIn_mono (hbody ld (g i3).1 (pre.map (λy:Fin K=>y.val)) x.val _ W k' b3 hx ⟨g,hr2⟩) ?_
  rintro e a2 W2 ⟨rfl,k2,g2,h2⟩
  rw[hI]at hi
  obtain⟨hkeep,_⟩:=hi
  have hk2:Keep [b3] W W2:=h2.keep
  have hn:=(h2.facts (1000000+i3) _ (OF _ _ _)).2
  simp only[TF.at_]at hn
  obtain⟨_,_,h2at,_⟩:=h2.owns i3 _ (Wa _ _ _)
  have e2:g2 i3=(.pointer (some ⟨b3,0,none⟩),some b3):=by
   simp only[Ow.at_]at h2at
   obtain⟨b',_,_,e,_⟩:=h2at
   rw[e]at hn⊢
   rw[e3]at hn
   injection hn with hn
   injection hn with hn
   injection hn with hn
   rw[hn]
  rw[e2]at h2at
  obtain⟨_,cur2,ty2,hh2,hv2⟩:=Xr h2at
  refine⟨⟨hk2.size,λc o hc ho _=>(hk2.block c (Array.getElem?_eq_some_iff.1 ho).1 (by simp;omega)).trans ho⟩,?_,?_⟩
  ·rw[hKP]
   exactλc hc hne=>hk2.block c (bN hc hkeep.size) (by simpa using hne)
  ·rw[hI]
   exact⟨⟨hk2.os.trans hkeep.os,hk2.tape.trans hkeep.tape,hk2.output.trans hkeep.output,Nat.le_trans hkeep.size hk2.size,λc hc hn=>(hk2.block c (bN hc hkeep.size) hn).trans (hkeep.block c hc hn)⟩,cur2,ty2,hh2,by rw[hv2];simp⟩
 ·intro D xs W hwD hS hi hD
  obtain⟨k',_,hsW⟩:=sat xs W hi
  rw[hdf]
  rw[hS]at hsW
  have h2:SatE ⟨w0,k0,[],[{target:= .collected D,args:= #[]}]⟩ N (S0.set i3 (some (vQ (X (ni (λj=>j) K))))) {a with defers:=[{target:= .collected D,args:= #[]}]} W k' g:=⟨hsW.size,rfl,hsW.keep,hsW.kk,hsW.facts,hsW.owns,hsW.apart⟩
  refine hdone D W k' _ (h2.adopt (dst:=none) (λd e=>by cases e) (o:= .gen (fR D)) (vb:=(.int .i64 0,some D)) trivial ⟨rfl,hD⟩ (λc hc=>?_) (λi o' c ho hc=>?_))
  ·cases hc
   exact⟨.inl (Nat.le_trans hs.keep.size hwD),(Array.getElem?_eq_some_iff.1 hD).1⟩
  ·cases hc
   intro hg
   have:D<w.heap.size:=by
    rcases yD ho with⟨rfl,_⟩ |⟨_,h⟩
    ·exact(hblk3 D hg).2
    ·exact((hs.owns i o' h).2.2.2 D hg).2
   omega
theorem Mi{T:TT}{P:Program}(hT:TOk P T){F:Fence}{n N:Nat}{fn:Func}{res:Res}{S':St}{D idD:Nat}{a':Act}{w W2:World}{k k2:Kp}{e:Exit}(he:e= .normal\/e= .ret)
  (hq:dy T fn.results res e (S'.set idD none)) (ho:ye S'.O idD=some (.gen (fR D))) (hs:yK ⟨w,k,[],[{target:= .collected D,args:= #[]}]⟩ N S' a' W2 k2):
  bodyPostM F n P fn (λe w'=>∃v,e=Ending.returned v/\Ext w w'/\∃k':Kp,(∀b,b<w.heap.size->k' b=k b)/\res.at_ w.heap.size w' k' v) e a' W2:=by
 obtain⟨g2,hs⟩:=hs
 obtain⟨_,_,hat,hblk⟩:=hs.owns idD _ ho
 simp only[Ow.at_,fR]at hat
 obtain⟨hg2,hh⟩:=hat
 have hlt:D<W2.heap.size:=(Array.getElem?_eq_some_iff.1 hh).1
 have hw:Wrote W2 k2 (W2.putObj D (.deferred none)) k2 (some D):=⟨rfl,rfl,rfl,by simp,λb _ hne=>⟨World.putObj_heap_other (λe=>hne (by rw[e])),rfl⟩,λb hb=>by
  cases hb
  refine⟨bQ _,λo _=>?_,λ_ es c e=>by rw[hh]at e;cases e⟩
  simp[World.cell?,hh,World.putObj_heap_same hlt]⟩
 have h3:=hs.wrote hw (id:=some idD) ⟨⟨_,ho⟩,by rw[hg2]⟩
 have h5:=bq (a':={a' with defers:=[]}) hT hq ⟨g2,h3.size,rfl,h3.keep,h3.kk,h3.facts,h3.owns,h3.apart⟩
 have hdf:a'.defers=_:=hs.defers
 rcases he with rfl |rfl
 all_goals
  obtain⟨_,v,hr,hR⟩:=h5
  show LeavesInM F n P fn a'.tmps _ a'.defers .returning W2
  rw[hdf]
  exact⟨nofun,.inl ⟨D,_,rfl,run_takeDeferred hh,v,hr,hR⟩⟩
section
theorem cd{T:TT}{P:Program}{N n:Nat}{B:Bs}{c rest:Code}{S:St}{a:Act}{w:World}{k:Kp}{Q0:St->Prop}{Q:Exit->Act->World->Prop}(hm:P.follows .mixedOrders=true)(hT:TOk P T)
  (h:vO P T c S (λe S'=>e= .normal/\Q0 S')) (hs:yK B N S a w k) (hd:xf N c=true) (hK: ∀S' a' w' k',Q0 S'->yK B N S' a' w' k'->rest.wpIn Fence.wide n P Q a' w'):(Code.seq c rest).wpIn Fence.wide n P Q a w:=
 wpIn_seq (wpIn_wide.2 (yP hm hT c S _ h B N a w k _ hs hd λe S' a' w' k' hq hs'=>by
  obtain⟨rfl,hq⟩:=hq
  exact hK S' a' w' k' hq hs'))
theorem Av{T:TT}{P:Program}{N n:Nat}{B:Bs}{c1 c2 c3 blk tail:Code}{S Sl:St}{a:Act}{w:World}{k:Kp}{Q:Exit->Act->World->Prop}(hm:P.follows .mixedOrders=true)(hT:TOk P T)
  (h:vO P T c1 S (λe S1=>e= .normal/\vO P T c2 S1 (λe S2=>e= .normal/\vO P T c3 S2 (λe S3=>e= .normal/\Sub S3 Sl)))) (hs:yK B N S a w k) (hd:(xf N c1&&(xf N c2&&xf N c3))=true)
  (hK: ∀a' w' k',yK B N Sl a' w' k'->blk.wpIn Fence.wide n P (Exit.then (tail.wpIn Fence.wide n P Q) Q) a' w'):(Code.seq c1 (Code.seq c2 (Code.seq (Code.seq c3 blk) tail))).wpIn Fence.wide n P Q a w:=by
 simp only[bB]at hd
 refine cd hm hT h hs hd.1 λS1 a1 w1 k1 h1 hs1=>?_
 refine cd hm hT h1 hs1 hd.2.1 λS2 a2 w2 k2 h2 hs2=>?_
 refine wpIn_seq ?_
 refine cd hm hT h2 hs2 hd.2.2 λS3 a3 w3 k3 h3 hs3=>?_
 obtain⟨k',hs'⟩:=h3 _ _ _ _ _ hs3
 exact hK _ _ _ hs'
theorem OD{N:Nat}{l:List Oper}(h:(l.all λo=>match o.dst with |some d=>Nat.blt d N |none=>true)=true): ∀o∈l,∀d,o.dst=some d->d<N:=λo ho d hd=>by
 have:=List.all_eq_true.1 h o ho
 rw[hd]at this
 exact cE this
def hX(b:cT)(pre:List Nat):X8:=pre.foldl (λs x=>Oc s k80 (ul (vP b) 128 x)) iv8
theorem E8(b:cT):hX b []=iv8:=rfl
theorem HY(b:cT)(pre:List Nat)(x:Nat):hX b (pre++[x])=Oc (hX b pre) k80 (ul (vP b) 128 x):=by simp[hX]
attribute [irreducible] hX
def Ee(b:cT):X8:=hX b (ni (λj=>j) ((vP b).length/128))
def Oi(x:X8)(i:Nat):UInt8:=UInt8.ofNat (yA (x.l.getD (i/8) 0) (56-i%8*8)).toNat
def re(x:X8)(j:Nat):cT:=(List.range 64).map λi=>if i<j then Oi x i else 0
def Xf(b:cT):cT:=re (Ee b) 64
theorem uM(x:X8)(j:Nat):(re x j).length=64:=by simp[re]
theorem Jv(b:cT):(Xf b).length=64:=uM _ _
theorem MX(x:X8):re x 0=List.replicate 64 0:=by
 apply List.ext_getElem
 ·simp[uM]
 ·intro i h1 h2
  unfold re
  simp only[List.getElem_map,List.getElem_replicate,Nat.not_lt_zero,if_false]
theorem MW(x:X8)(j:Nat):re x (j+1)=(re x j).set j (Oi x j):=by
 apply List.ext_getElem
 ·simp[re]
 ·intro i h1 h2
  simp only[re,List.getElem_set,List.getElem_map,List.getElem_range]
  by_cases h:j=i
  ·subst h;simp
  ·rw[cQ h]
   by_cases h3:i<j
   ·rw[cO h3,cO (by omega)]
   ·rw[cQ h3,cQ (by omega)]
attribute [irreducible] re Oi
def CF(b:cT):St:={F:=[(2,.own 0),(3,.own 1),(4,.r (.ptr (k80.map W))),(12,.r (.s (Y3 490 [.ptr [bs (vP b)],.ptr [I 128]])))],O:=[(0,some (oV (List.replicate 64 0))),(1,some (vQ (hX b []).l))],nx:=2}
theorem CG(b:cT):vB [(0,0),(1,1)] (CF b)=true:=by
 simp only[vB,CF,vQ,oV,List.all_cons,List.all_nil,uD,uV]
 rfl
theorem SJ{x:UInt8}{l:cT}{j:Nat}(h:j<l.length):(xk (U8 x)&&(Nat.beq (cellsOf (U8 x)).length 1&&Nat.ble (j*1+1) ((l.map U8).map TF.r).length))=true:=by
 have e:Nat.ble (j*1+1) ((l.map U8).map TF.r).length=true:=by
  rw[Nat.ble_eq,bC,bC]
  omega
 rw[e]
 rfl
theorem UZ{l:cT}{j:Nat}{x:UInt8}{K:List TF->Prop}(h:j<l.length)(hK:K (((l.set j x).map U8).map TF.r)):rP ((l.map U8).map TF.r) (j*1) [TF.r (U8 x)] K:=by
 rw[cL,tK _ _ _ _ (by simp;omega)]
 have e:((l.map U8).map TF.r).take j++[TF.r (U8 x)]++((l.map U8).map TF.r).drop (j+1)=((l.set j x).map U8).map TF.r:=by
  rw[List.set_eq_take_append_cons_drop,cO h]
  simp[List.map_take,List.map_drop]
 simp only[bJ,bO,Nat.zero_add]
 rw[e]
 exact hK
def CE(xe:X8)(D j:Nat):St:={F:=[(2,.own 0),(3,.own 1),(6,.own 3),(18,.r (I j))],O:=[(0,some (oV (List.replicate 64 0))),(1,some xe.bx),(2,some (.gen (fR D))),(3,some (oV (re xe j)))],nx:=4}
theorem MP(xe:X8)(D j:Nat):vB [(0,0),(1,1),(2,2),(3,3)] (CE xe D j)=true:=by
 simp only[vB,CE,oV,List.all_cons,List.all_nil,uD,uV]
 rfl
set_option maxRecDepth 100000 in
theorem Rj(b:cT)(hb:b.length<=10000000000):aG 336 [bs b] (.r (.ag ((Xf b).map U8))):=by
 refine⟨t6 Tryz.func336 rfl (by kernel_rfl),λw k vs hp=>?_⟩
 refine callsIn_wide.1 (callsIn_of_wp_marks (n:=3) Tryz.func336 rfl trivial ?_)
 refine Av (N:=35) mixed Tab_ok (Sl:=CF b) ?v (lA hp (by simp)) (by kernel_rfl) ?r
 case v=>
  (conv=>whnf)
  refine⟨rfl,?_⟩
  refine ze HZ ?_
  refine ze LU ?_
  (conv=>whnf)
  generalize hq:(xk _&&_)=q
  obtain rfl:=hq.symm.trans (nj (l:=k80.map W) 80 (by rw[bC,kM]) rfl)
  clear hq
  refine tA (by rw[bC];show(List.replicate 80 (Value.int .u64 0)).length=_;rw[List.length_replicate,bC,kM]) ?_
  (conv=>whnf)
  refine⟨rfl,?_⟩
  refine ze (NR b hb) ?_
  refine ze (Ga (vP b) 128 (by decide)) ?_
  refine⟨rfl,Sub.trans (xO (id:=2) (t:=4) (k80.map W) rfl rfl) (zX [(0,0),(1,1)] (CG b) ⟨rfl,rfl,cr,cr,trivial⟩ ⟨yh ((List.replicate 64 (0:UInt8)).map U8),by rw[E8];exact⟨_,_,rfl,cr,_,_,rfl,cr,_,_,rfl,cr,_,_,rfl,cr,_,_,rfl,cr,_,_,rfl,cr,_,_,rfl,cr,_,_,rfl,cr,rfl⟩,trivial⟩)⟩
 case r=>
  rintro a1 w1 k1 ⟨g1,h1⟩
  have hlen:=Yd b
  have hdv:=Ol b
  have hz:t8 b.length<128:=by unfold t8;omega
  refine wpIn_block ?_
  refine MG (i3:=1) (t12:=12) (p:=13) (q:=5) (l:=vP b) (m:=128) (K:=(vP b).length/128) (X:=λpre=>(hX b pre).l) h1 rfl rfl (by decide) (by omega) (by omega) (by omega) (by decide) (by decide) ?asg ?body ?done
  case asg=>
   intro ld a Wr Kk hk
   refine wpIn_region_list (jT (λ⟨_,_,h⟩=>h) (List.all_eq_true.1 (by kernel_rfl)) ?_)
   go_wp2
   simp only[Act.put,Array.getD_eq_getD_getElem?]at hk
   exact hk
  case body=>
   intro ld v pre x a Wr kk bb hx hs
   refine wpIn_block (wpIn_region_list (jT (λ⟨_,_,h⟩=>by cases h.1) (List.all_eq_true.1 (by kernel_rfl)) ?_))
   refine pi (T:=Tab) (N:=35) (K:=λS'=>Sub S' {F:=[(1000000+1,.nm 1 v)],O:=[(1,some (vQ (hX b (pre++[x])).l))],nx:=2}) Tab_ok (λo ho d hd=>?_) (λo h=>h) hs ?_ (λS' a' w' k' hK hs'=>⟨rfl,hK _ _ _ _ _ hs'⟩)
   ·exact OD (N:=35) (by kernel_rfl) o ho d hd
   ·have hcl:(ul (vP b) 128 x).length=128:=al (K:=(vP b).length/128) (by omega) hx
    refine cU ?_
    refine za (l:=k80.map W) (bF (by rw[List.drop_zero,bC,kM];exact bQ _)) (by rw[bC,kM]) ?_
    refine ze (Kx (hX b pre) k80 (ul (vP b) 128 x) kM hcl) ?_
    exact zN [(1,1)] ⟨by rw[HY];exact⟨_,_,rfl,cr,_,_,rfl,cr,_,_,rfl,cr,_,_,rfl,cr,_,_,rfl,cr,_,_,rfl,cr,_,_,rfl,cr,_,_,rfl,cr,rfl⟩,trivial⟩
  case done=>
   intro D Wr k' g' hsD
   generalize hXe:hX b (ni (λj=>j) ((vP b).length/128))=xe at hsD
   refine wpIn_wide.2 (yP (T:=Tab) mixed Tab_ok _ _ (λe S'=>(e= .normal\/e= .ret)/\ye S'.O 2=some (.gen (fR D))/\dy Tab Tryz.f336.results (.r (.ag ((Xf b).map U8))) e (S'.set 2 none)) ?_ _ 35 _ _ _ _ ⟨g',hsD⟩ (by kernel_rfl) (λe S' a' w' k2 hq hs'=>Mi (T:=Tab) Tab_ok hq.1 hq.2.2 hq.2.1 hs'))
   have hse:Xf b=re xe 64:=by rw[Xf,Ee,hXe]
   rw[hse]
   clear hsD hXe hse
   refine zy (CE xe D) (λj=>j<=64) (λj=>64-j) 0 (by omega) (zX [(0,0),(1,1),(2,2),(3,3)] (MP xe D 0) ⟨rfl,rfl,rfl,cr,trivial⟩ ⟨yh ((List.replicate 64 (0:UInt8)).map U8),(aD aZ),λ_ _ _ h=>h,by rw[MX];exact yh ((List.replicate 64 (0:UInt8)).map U8),trivial⟩) ?_
   intro j hj
   refine cZ (λh=>?_) λh=>?_
   ·simp only[zb]at h
    have hj':j<64:=by omega
    refine Vquo.i64 j 8 rfl rfl (by omega) (by omega) ?_
    refine zD (j/8) rfl (by omega) ?_
    (conv=>whnf)
    generalize hq:yp _ _=q
    obtain rfl:=hq.symm.trans (nu (l:=xe.l) (j:=j/8) (by show j/8<8;omega))
    clear hq
    refine Vrem.nat j 8 rfl rfl (by omega) ?_
    refine zd (m:=((j%8*8:Nat):Int)) (by omega) (by omega) ?_
    refine zd (m:=((56-j%8*8:Nat):Int)) (by omega) (by omega) ?_
    refine Vshr.w _ (56-j%8*8) rfl rfl ?_
    refine Vint.u8 _ rfl ?_
    refine zD j rfl (by omega) ?_
    (conv=>whnf)
    generalize hq:(xk _&&_)=q
    obtain rfl:=hq.symm.trans (SJ (x:=UInt8.ofNat (yA (xe.l.getD (j/8) 0) (56-j%8*8)).toNat) (j:=j) (by rw[uM];omega))
    clear hq
    refine UZ (by rw[uM];omega) ?_
    have hs:=MW xe j
    unfold Oi at hs
    rw[<-hs]
    refine zd (m:=((j+1:Nat):Int)) (by omega) (by omega) ?_
    exact⟨j+1,by omega,by omega,zX [(0,0),(1,1),(2,2),(3,3)] (MP xe D (j+1)) ⟨rfl,rfl,rfl,cr,trivial⟩ ⟨yh ((List.replicate 64 (0:UInt8)).map U8),(aD aZ),λ_ _ _ h=>h,yh ((re xe (j+1)).map U8),trivial⟩⟩
   ·simp only[zb]at h
    obtain rfl:j=64:=by omega
    refine za (l:=((re xe 64).map U8).map TF.r) (bF (by simp[uM])) (by simp[uM]) ?_
    (conv=>whnf)
    generalize hq:St.rvs _ _=q
    obtain rfl:=hq.symm.trans (pO _ _)
    clear hq
    (conv=>whnf)
    generalize hq:(xk _&&_)=q
    obtain rfl:=hq.symm.trans (nj (l:=(re xe 64).map U8) 64 (by rw[bC,uM]) rfl)
    clear hq
    refine tA (by rw[bC,bC,bC,uM];rfl) ?_
    (conv=>whnf)
    refine⟨.inr rfl,rfl,?_⟩
    refine za (l:=((re xe 64).map U8).map TF.r) (bF (by simp[uM])) (by simp[uM]) ?_
    (conv=>whnf)
    generalize hq:St.rvs _ _=q
    obtain rfl:=hq.symm.trans (pO _ _)
    clear hq
    exact cr
end
def vy(ls:List cT):cT:=Xf (ls.flatMap id)
theorem wU(ls:List cT):(vy ls).length=64:=Jv _
set_option maxRecDepth 100000 in
theorem VN(ls:List cT)(hl:(ls.flatMap id).length<=10000000000):aG 228 [tk ls] (.r (bs (vy ls))):=by
 refine aT Tryz.func228 rfl ?_
 refine ze (pu ls (by omega)) ?_
 refine ze (Rj (ls.flatMap id) hl) ?_
 (conv=>whnf)
 generalize hq:(xk _&&_)=q
 obtain rfl:=hq.symm.trans (nj (l:=(vy ls).map U8) 64 (by rw[bC,wU]) rfl)
 clear hq
 refine tA (by rw[bC,bC];show(List.replicate 64 (Value.int .u8 0)).length=_;rw[List.length_replicate];exact(wU ls).symm) ?_
 refine Vstep.boxPub (n:=64) (vs:=(vy ls).map U8) Tab_ok rfl rfl rfl rfl rfl rfl rfl (by rw[bC,wU]) (by decide) (by decide) ?_
 exact zf (by show _=bs (vy ls);rw[bs,wU])
section
structure S4 where
 a:UInt64
 b:UInt64
 c:UInt64
 d:UInt64
abbrev S4.v(x:S4):List RV:=[W x.a,W x.b,W x.c,W x.d]
abbrev S4.bx(x:S4):Ow:= .box [.r (W x.a),.r (W x.b),.r (W x.c),.r (W x.d)]
abbrev S4.l(x:S4):List UInt64:=[x.a,x.b,x.c,x.d]
def S4.car(x y:S4):UInt64:=wg x.d y.d (wg x.c y.c (wg x.b y.b (wg x.a y.a 0)))
def S4.sum(x y:S4):S4:=⟨x.a+y.a+0,x.b+y.b+wg x.a y.a 0,x.c+y.c+wg x.b y.b (wg x.a y.a 0),x.d+y.d+wg x.c y.c (wg x.b y.b (wg x.a y.a 0))⟩
def S4.bor(x y:S4):UInt64:=uk x.d y.d (uk x.c y.c (uk x.b y.b (uk x.a y.a 0)))
def S4.dif(x y:S4):S4:=⟨x.a-y.a-0,x.b-y.b-uk x.a y.a 0,x.c-y.c-uk x.b y.b (uk x.a y.a 0),x.d-y.d-uk x.c y.c (uk x.b y.b (uk x.a y.a 0))⟩
theorem Ri(x y c:UInt64)(hc:c.toNat<=1):Extn aP 439 [W x,W y,W c] (.r (.tu [W (x-y-c),W (uk x y c)])):=
 Extn.sub (λus w=>run_callFunc_extern Tryz.func439 (by kernel_rfl) (by kernel_rfl) (by kernel_rfl) (e:=Ty) (by kernel_rfl) us w) x y c hc
theorem NG(x y:S4):aG 337 [.ag x.v,.ag y.v] (.r (.tu [.ag (x.sum y).v,W (x.car y)])):=by
 refine aT Tryz.func337 rfl ?_
 repeat' ((conv=>whnf);first|refine zC mixed Tab_ok ?_|refine zt rfl (zp ?_)|refine zu rfl (zq ?_)|refine zH (by decide) ?_|refine Vint.any (k:= .i64) ?_|refine za rfl rfl ?_|refine aV ?_|refine Vcall.ext (qg _ _ (wg _ _ _) (by repeat' first|apply SN |decide)) ?_|refine Vcall.ext (qg _ _ 0 (by decide)) ?_|refine zE 5 ?_)
 exact⟨_,rfl,cr⟩
theorem NP(x y:S4):aG 354 [.ag x.v,.ag y.v] (.r (.tu [.ag (x.dif y).v,W (x.bor y)])):=by
 refine aT Tryz.func354 rfl ?_
 repeat' ((conv=>whnf);first|refine zC mixed Tab_ok ?_|refine zt rfl (zp ?_)|refine zu rfl (zq ?_)|refine zH (by decide) ?_|refine Vint.any (k:= .i64) ?_|refine za rfl rfl ?_|refine aV ?_|refine Vcall.ext (Ri _ _ (uk _ _ _) HC) ?_|refine Vcall.ext (Ri _ _ 0 (by decide)) ?_|refine zE 5 ?_)
 exact⟨_,rfl,cr⟩
def ord4:S4:=⟨6346243789798364141,1503914060200516822,0,1152921504606846976⟩
theorem Re:aG 355 [] (.r (.ag ord4.v)):=by
 refine aT Tryz.func355 rfl ?_
 repeat' ((conv=>whnf);first|refine za rfl rfl ?_)
 exact cr
attribute [irreducible] ord4
def S4.once(x:S4):S4:=if x.bor ord4=0 then x.dif ord4 else x
theorem N7(x:S4):aG 338 [.ag x.v] (.r (.ag x.once.v)):=by
 refine aT Tryz.func338 rfl ?_
 refine aV ?_
 refine cU ?_
 refine ze Re ?_
 refine ze (NP x ord4) ?_
 refine cZ (λh=>?_) λh=>?_
 ·have e:x.bor ord4=0:=by
   rw[beq_iff_eq]at h
   have:(x.bor ord4).toNat=0:=by omega
   exact UInt64.toNat_inj.1 this
  refine cU ?_
  refine cU ?_
  exact zf (by rw[S4.once,cO e])
 ·have e: ¬x.bor ord4=0:=by
   rw[beq_eq_false_iff_ne]at h
   intro e
   rw[e]at h
   exact h rfl
  refine cU ?_
  refine cU ?_
  exact zf (by rw[S4.once,cQ e])
end
def AO(b:cT)(at_ j:Nat):St:={F:=[(0,.r (bs b)),(1,.r (I at_)),(5,.r (W (xi b at_ j))),(6,.r (I (7-(j:Int))))],O:=[],nx:=0}
theorem Fd(x:UInt64):x|||UInt64.ofNat (0:UInt8).toNat=x:=by
 have e:UInt64.ofNat (0:UInt8).toNat=0:=rfl
 rw[e,UInt64.or_zero]
theorem kD(b:cT)(at_:Nat)(hb:b.length<=10000000000)(ha:at_<=10000000000):aG 334 [bs b,I at_] (.r (W (xi b at_ 8))):=by
 refine aT Tryz.func334 rfl ?_
 refine zy (AO b at_) (λj=>j<=8) (λj=>8-j) 0 (by omega) (zO [] ⟨cr,cr,by rw[nL];exact cr,cr,trivial⟩) ?_
 intro j hj
 refine cZ (λh=>?_) λh=>?_
 ·simp only[zb]at h
  have hj':j<8:=by omega
  refine Vshl.w _ 8 rfl rfl (by decide) ?_
  refine zd (m:=((at_+(7-j):Nat):Int)) (by omega) (by omega) ?_
  have hs:=nK b at_ j
  refine cZ (λh2=>?_) λh2=>?_
  ·simp only[zb]at h2
   have hl:at_+(7-j)<b.length:=by omega
   refine zd (m:=((at_+(7-j):Nat):Int)) (by omega) (by omega) ?_
   refine cV (xn rfl hl) (zg rfl ?_)
   refine Vint.w _ rfl ?_
   refine Vbits.wor _ _ rfl rfl ?_
   refine zd (m:=7-((j+1:Nat):Int)) (by omega) (by omega) ?_
   exact⟨j+1,by omega,by omega,zO [] ⟨cr,cr,by
    rw[hs,bK,bA hl];exact cr,cr,trivial⟩⟩
  ·simp only[zb]at h2
   refine zd (m:=7-((j+1:Nat):Int)) (by omega) (by omega) ?_
   exact⟨j+1,by omega,by omega,zO [] ⟨cr,cr,by
    rw[hs,bK,List.getElem?_eq_none (by omega)]
    show Cv _ (W (_|||UInt64.ofNat (0:UInt8).toNat))
    rw[Fd];exact cr,cr,trivial⟩⟩
 ·simp only[zb]at h
  obtain rfl:j=8:=by omega
  exact cr
section
abbrev Bd(l:List UInt64):RV:= .sl 1 l.length (l.map W)
theorem Pm{l:List UInt64}{i:Int}{j:Nat}(h:i=j)(hj:j<l.length):((l.map W).drop (i.toNat*1)).take 1=[W (l.getD j 0)]:=by
 subst h
 simp only[cF,cL]
 rw[cI (by simpa using hj),bK,bA hj]
 simp
def jr(ws:List UInt64)(i:Nat):UInt64:=yA (ws.getD (i/64) 0) (i%64)&&&1
def S4.orb(x:S4)(b:UInt64):S4:=⟨x.a|||b,x.b,x.c,x.d⟩
def sE(ws:List UInt64):Nat->S4
 |0=>⟨0,0,0,0⟩
 |j+1=>(((sE ws j).sum (sE ws j)).orb (jr ws (64*ws.length-1-j))).once
theorem Wg(ws:List UInt64):sE ws 0=⟨0,0,0,0⟩:=rfl
theorem Wf(ws:List UInt64)(j:Nat):sE ws (j+1)=(((sE ws j).sum (sE ws j)).orb (jr ws (64*ws.length-1-j))).once:=rfl
attribute [irreducible] sE
def nQ(ws:List UInt64):S4:=sE ws (64*ws.length)
def AK(ws:List UInt64)(j:Nat):St:={F:=[(0,.r (Bd ws)),(2,.own 0),(3,.own 1),(4,.r (I (64*ws.length-j)))],O:=[(0,some (S4.bx ⟨0,0,0,0⟩)),(1,some (sE ws j).bx)],nx:=2}
theorem VY(ws:List UInt64)(hw:ws.length<=1000000000):aG 335 [Bd ws] (.r (.ag (nQ ws).v)):=by
 refine aT Tryz.func335 rfl ?_
 refine Vcode.scope2 mixed Tab_ok 0 (AK ws) (λj=>j<=64*ws.length) (λj=>64*ws.length-j) rfl ?_ ?_
 ·(conv=>whnf)
  refine⟨rfl,?_⟩
  refine zd (m:=64*(ws.length:Int)) rfl (by omega) ?_
  refine⟨rfl,0,by omega,zX [(0,0),(1,1)] rfl ⟨cr,rfl,rfl,zf (by congr 1<;>omega),trivial⟩ ⟨(aC aZ),by rw[Wg];exact⟨_,_,rfl,cr,_,_,rfl,cr,_,_,rfl,cr,_,_,rfl,cr,rfl⟩,trivial⟩⟩
 ·intro j hj
  refine zd (m:=64*(ws.length:Int)-j-1) rfl (by omega) ?_
  refine cZ (λh=>?_) λh=>?_
  ·simp only[zb]at h
   have hj':j<64*ws.length:=by omega
   generalize hX:sE ws j=x
   refine cU ?_
   refine cU ?_
   refine ze (NG x x) ?_
   refine aV ?_
   refine zH (by decide) ?_
   refine Vquo.i64 (64*ws.length-1-j) 64 (by omega) rfl (by omega) (by omega) ?_
   refine cV (Pm rfl (by omega)) (zg rfl ?_)
   refine Vrem.nat (64*ws.length-1-j) 64 (by omega) rfl (by omega) ?_
   refine Vshr.w _ ((64*ws.length-1-j)%64) rfl rfl ?_
   refine Vbits.wand _ 1 rfl rfl ?_
   refine Vbits.wor _ _ rfl rfl ?_
   refine zH (by decide) ?_
   refine cU ?_
   refine ze (N7 ((x.sum x).orb (jr ws (64*ws.length-1-j)))) ?_
   exact⟨j+1,by omega,by omega,zX [(0,0),(1,1)] rfl ⟨cr,rfl,rfl,zf (by congr 1<;>omega),trivial⟩ ⟨(aC aZ),by rw[Wf,hX];exact⟨_,_,rfl,cr,_,_,rfl,cr,_,_,rfl,cr,_,_,rfl,cr,rfl⟩,trivial⟩⟩
  ·simp only[zb]at h
   obtain rfl:j=64*ws.length:=by omega
   refine cU ?_
   refine cU ?_
   exact cr
end
end Go.Proofs.YtkegaaonpekkgaaGreat.Sx
