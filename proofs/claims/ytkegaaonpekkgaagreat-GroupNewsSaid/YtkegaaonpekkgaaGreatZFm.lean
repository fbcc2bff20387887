import Derived.Test.YtkegaaonpekkgaaGreatZFe
import Derived.Test.YtkegaaonpekkgaaGreatZSxBx
import Derived.RangeFuncNested
import Derived.RangeFuncLeaves
import Derived.Test.YtkegaaonpekkgaaGreatZFa
import Derived.Test.YtkegaaonpekkgaaGreatZKu
import Derived.Test.YtkegaaonpekkgaaGreatZSxY
namespace Go.Proofs.YtkegaaonpekkgaaGreat.Sx
open Go.RowKit
section
def padZ(n:Nat):Nat:=(239-n%128)%128
def lenC(n j:Nat):UInt8:=UInt8.ofNat (shrW (UInt64.ofNat n*8) (8*(7-j))).toNat
def le8B(n:Nat):Nat->List UInt8
 |0=>[]
 |j+1=>le8B n j++[lenC n j]
theorem zx9(n:Nat): ∀j,(le8B n j).length=j
 |0=>rfl
 |j+1=>by rw[le8B,aL,zx9 n j];rfl
def wzB(b:List UInt8)(j:Nat):List UInt8:=b++[128]++List.replicate j 0
def wlB(b:List UInt8)(j:Nat):List UInt8:=wzB b (padZ b.length)++List.replicate 8 0++le8B b.length j
theorem zikb(b:List UInt8)(j:Nat):(wzB b j).length=b.length+1+j:=by simp[wzB];omega
theorem z3h(b:List UInt8)(j:Nat):(wlB b j).length=b.length+1+padZ b.length+8+j:=by simp[wlB,zikb,zx9];omega
theorem zebb(b:List UInt8):wzB b 0=b++[128]:=by simp[wzB]
theorem zeab(b:List UInt8)(j:Nat):wzB b (j+1)=wzB b j++[0]:=by simp[wzB,List.replicate_succ']
theorem zd9b(b:List UInt8):wlB b 0=wzB b (padZ b.length)++List.replicate 8 0:=by simp[wlB,le8B]
theorem zd8b(b:List UInt8)(j:Nat):wlB b (j+1)=wlB b j++[lenC b.length j]:=by simp[wlB,le8B]
attribute [irreducible] wzB wlB lenC
def zc4(b:List UInt8):List UInt8:=wlB b 8
theorem zsn(b:List UInt8):(zc4 b).length=b.length+17+padZ b.length:=by rw[zc4,z3h];omega
theorem z6l(b:List UInt8):(zc4 b).length%128=0:=by rw[zsn];unfold padZ;omega
def whZ(b:List UInt8)(j:Nat):St:={F:=[(0, .r (bs b)),(3, .own 0)],O:=[(0,some (.ch 5 1 (b.length+1+j) ((wzB b j).map U8) true))],nx:=1}
def whL(b:List UInt8)(j:Nat):St:={F:=[(0, .r (bs b)),(3, .own 0),(4, .r (I (7-(j:Int))))],O:=[(0,some (.ch 5 1 (b.length+1+padZ b.length+8+j) ((wlB b j).map U8) true))],nx:=1}
theorem z6k{n:Nat}{l:List UInt8}{c:UInt8}{K:Nat->List RV->Prop}(hl:n<=100000000000)(hK:K (n+1) ((l++[c]).map U8)):Vapp n 1 1 (l.map U8) [U8 c] K:=
 Vapp.mk' (by simp[maxLen];omega) (by omega) rfl (by simp) hK
theorem zmzb(m:Nat):zR m=(List.replicate m (0:UInt8)).map U8:=by simp
set_option maxHeartbeats 1000000 in
theorem z8u(b:List UInt8)(hb:b.length<=10000000000):aG 429 [bs b] (bch (zc4 b)):=by
 refine aT Tryz.func429 rfl ?_
 refine ze (zxd b (by omega)) ?_
 refine zw ?_
 refine z6k (n:=b.length) (l:=b) (c:=128) (by omega) ?_
 have hz:padZ b.length<128:=by unfold padZ;omega
 refine zy (whZ b) (λj=>j<=padZ b.length) (λj=>padZ b.length-j) 0 (by omega) (zac [(0,2)] rfl ⟨cr,rfl,trivial⟩ ⟨⟨rfl,rfl,rfl,rfl,by rw[zebb];exact zn _⟩,trivial⟩) ?_
 intro j hj
 refine Vrem.nat (b.length+1+j) 128 rfl rfl (by omega) ?_
 refine zh (λh=>zp ?_) (λh=>zq ?_)
 ·simp only[zb]at h
  have hj':j<padZ b.length:=by
   have:(b.length+1+j)%128≠112:=by omega
   rcases Nat.lt_or_ge j (padZ b.length)with h' |h'
   ·exact h'
   ·have:j=padZ b.length:=by omega
    unfold padZ at this
    omega
  refine zw ?_
  refine z6k (n:=b.length+1+j) (l:=wzB b j) (c:=0) (by omega) ?_
  exact⟨j+1,by omega,by omega,zac [(0,2)] rfl ⟨cr,rfl,trivial⟩ ⟨⟨rfl,rfl,rfl,rfl,by rw[zeab];exact zn _⟩,trivial⟩⟩
 ·simp only[zb]at h
  obtain rfl:j=padZ b.length:=by
   have h1:(b.length+1+j)%128=112:=by omega
   unfold padZ at hj⊢
   omega
  refine Vstep.appZ (m:=8) Tab_ok rfl rfl rfl rfl ⟨rfl,rfl,rfl⟩ rfl rfl rfl rfl rfl (by decide) (by omega) ?_
  rw[zmzb,<-List.map_append]
  refine zy (whL b) (λj=>j<=8) (λj=>8-j) 0 (by omega) (zac [(0,1)] rfl ⟨cr,rfl,cr,trivial⟩ ⟨⟨rfl,rfl,rfl,rfl,by rw[zd9b];exact zn _⟩,trivial⟩) ?_
  intro j hj
  refine zh (λh=>zp ?_) (λh=>zq ?_)
  ·simp only[zb]at h
   have hj':j<8:=by omega
   refine Vint.w _ rfl ?_
   refine Vint.wmul _ 8 rfl rfl ?_
   refine zd (m:=((8*(7-j):Nat):Int)) (by omega) (by omega) ?_
   refine Vshr.w _ (8*(7-j)) rfl rfl ?_
   refine Vint.u8 _ rfl ?_
   refine zw ?_
   refine z6k (n:=b.length+1+padZ b.length+8+j) (l:=wlB b j) (by omega) ?_
   refine zd (m:=7-((j+1:Nat):Int)) (by omega) (by omega) ?_
   exact⟨j+1,by omega,by omega,zac [(0,2)] rfl ⟨cr,rfl,cr,trivial⟩ ⟨⟨rfl,rfl,rfl,rfl,by rw[zd8b];unfold lenC;exact zn _⟩,trivial⟩⟩
  ·simp only[zb]at h
   obtain rfl:j=8:=by omega
   have:=z3h b 8
   show some _=some _
   rw[zc4,this]
end
section
def funS(f:FuncId)(rvs:List RV):Stable where
 at_ w k v:=∃cap,v= .func (.func f) #[] cap/\RV.partsAt w k rvs cap.toList
 mono:=λh ⟨cap,e,hp⟩=>⟨cap,e,RV.parts_mono h rvs _ hp⟩
 one:=by rintro w k v ⟨cap,rfl,_⟩;rfl
section
variable {P:Program} {S:St} {o:Oper}
theorem Vstep.mkfunS{f:FuncId}{cap:Array Operand}{rvs:List RV}{K:St->Prop}(hop:o.op= .makeFunc (.func f) #[] cap) (hc:oprs S cap.toList=some rvs) (hK:newK S o.dst (.r (.s (funS f rvs))) none K):Vstep P S o K:=by
 rw[zaw]at hK
 refine Vstep.one (λB N a w k Q ⟨g,hs⟩ hd=>?_) hK
 have hp:=zme hs hc
 refine zau (v:= .func (.func f) #[] (cap.map a.eval)) (w':=w) (by simp[execOp,hop,Instr.makeFunc]) ⟨k,g,hs.put hd trivial ?_⟩
 simp only[TF.at_,RV.at_]
 exact⟨_,rfl,by simpa using hp⟩
end
theorem zf7b(l:List UInt8)(m:Nat)(hm:1<=m):aG 428 [bs l,I m] (.r (.s (funS 490 [.ptr [bs l], .ptr [I m]]))):=by
 refine aT Tryz.func428 rfl ?_
 refine zh (λh=>?_) (λh=>zq ?_)
 ·simp only[zb]at h
  omega
 refine Vstep.sub (zcq (id:=0) (t:=2) [bs l] rfl rfl) (Vstep.sub (zcq (id:=1) (t:=3) [I m] rfl rfl) (Vstep.mkfunS rfl rfl ?_))
 exact cr
def iv8:X8:=⟨7640891576956012808,13503953896175478587,4354685564936845355,11912009170470909681,5840696475078001361,11170449401992604703,2270897969802886507,6620516959819538809⟩
def k80:List UInt64:=[4794697086780616226,8158064640168781261,13096744586834688815,16840607885511220156,4131703408338449720,6480981068601479193,10538285296894168987,12329834152419229976,15566598209576043074,1334009975649890238,2608012711638119052,6128411473006802146,8268148722764581231,9286055187155687089,11230858885718282805,13951009754708518548,16472876342353939154,17275323862435702243,1135362057144423861,2597628984639134821,3308224258029322869,5365058923640841347,6679025012923562964,8573033837759648693,10970295158949994411,12119686244451234320,12683024718118986047,13788192230050041572,14330467153632333762,15395433587784984357,489312712824947311,1452737877330783856,2861767655752347644,3322285676063803686,5560940570517711597,5996557281743188959,7280758554555802590,8532644243296465576,9350256976987008742,10552545826968843579,11727347734174303076,12113106623233404929,14000437183269869457,14369950271660146224,15101387698204529176,15463397548674623760,17586052441742319658,1182934255886127544,1847814050463011016,2177327727835720531,2830643537854262169,3796741975233480872,4115178125766777443,5681478168544905931,6601373596472566643,7507060721942968483,8399075790359081724,8693463985226723168,9568029438360202098,10144078919501101548,10430055236837252648,11840083180663258601,13761210420658862357,14299343276471374635,14566680578165727644,15097957966210449927,16922976911328602910,17689382322260857208,500013540394364858,748580250866718886,1242879168328830382,1977374033974150939,2944078676154940804,3659926193048069267,4368137639120453308,4836135668995329356,5532061633213252278,6448918945643986474,6902733635092675308,7801388544844847127]
theorem zku:k80.length=80:=rfl
theorem zf5b:aG 426 [] (.r (.ag iv8.v)):=by
 refine aT Tryz.func426 rfl ?_
 repeat' ((conv=>whnf);first|refine za rfl rfl ?_)
 exact cr
set_option maxRecDepth 100000 in
set_option maxHeartbeats 1000000 in
theorem zb1b:aG 427 [] (.r (.ag (k80.map W))):=by
 refine aT Tryz.func427 rfl ?_
 repeat' ((conv=>whnf);first|refine za rfl rfl ?_)
 exact zf (by kernel_rfl)
attribute [irreducible] k80 iv8
end
section
variable {P:Program} {T:TT} {B:Bs} {N:Nat} {S:St} {a:Act} {w:World} {k:Kp} {g:Env} {o:Oper} {Q:Exit->Act->World->Prop}
def ztk(o:Oper):Bool:=match o.op with
 | .defer _=>false
 |_=>true
theorem zdeb{n l:Nat}{next:Act->World->Prop}(hnd:ztk o=true)(h:o.wp P a w next Q):o.wpIn (Fence.wide.inRound l) n P a w next Q:=by
 refine⟨λ_ _=>trivial,?_⟩
 rw[Oper.semAt_eq _ _ _ (λc e=>by simp[ztk,e]at hnd)]
 unfold Oper.wp at h
 generalize (execOp a.eval o).run P w=r at h
 cases r with
 |ok x w'=>
  cases x with
  |value v=>exact h
  |skip=>exact h
  |defer d=>exact h
  |enter f args=>exact⟨λhd=>by simp[Fence.wide]at hd,CallsIn.inRound l (callsIn_wide.2 h)⟩
  |row row args=>exact⟨λhd=>by simp[Fence.wide]at hd,λc cs _=>by
    obtain⟨v,w',r,s⟩:=h c cs
    exact⟨v,w',r,stepsIn_wide.2 s⟩⟩
  |_=>exact h.elim
 |halt x w'=>
  cases x with
  |panic v=>exact h
  |_=>exact h.elim
theorem zl3{n l:Nat}{ops:Array Oper}(hQ: ¬LetsOut Q): ∀{r:List Oper} {a:Act} {w:World},(∀o∈r,ztk o=true)->wpList P ops Q r a w->wpListIn (Fence.wide.inRound l) n P ops Q r a w
 |[],_,_,_,h=>h
 |o::r,a,w,hn,h=>by
  unfold wpList at h
  unfold wpListIn
  have ih: ∀a w,wpList P ops Q r a w->wpListIn (Fence.wide.inRound l) n P ops Q r a w:=λa w h=>zl3 hQ (λo ho=>hn o (by simp[ho])) h
  split at h
  ·rename_i hw
   rw[if_pos hw]
   rcases h with h |⟨_,h⟩
   ·exact zdeb (hn o (by simp)) (Oper.wp_mono (λa w h=>ih a w h) h)
   ·exact absurd h hQ
  ·rename_i hw
   rw[if_neg hw]
   exact⟨λ_ _=>trivial,ih _ _ h⟩
end
theorem z0f(n:Nat)(hn:1<=n)(Bs Bn oS oN b off m K L cap:Nat)(hm:0<m)(hL:m*K=L)(hlen:L<=cap)(hbig:L<=1000000000000)(Kp:World->World->Prop)(w:World)
  (hKp: ∀A B,Kp A B->B.cell? ⟨Bs,oS,none⟩=A.cell? ⟨Bs,oS,none⟩/\B.cell? ⟨Bn,oN,none⟩=A.cell? ⟨Bn,oN,none⟩)
  (hBs:w.cell? ⟨Bs,oS,none⟩=some (.slice (some ⟨b,off,none⟩) L cap)) (hBn:w.cell? ⟨Bn,oN,none⟩=some (.int .i64 m)):
  SeqStopsK (α:=Fin K) Fence.wide n aP 490 #[.pointer (some ⟨Bs,oS,none⟩), .pointer (some ⟨Bn,oN,none⟩)] (λx=> #[zf8 b off m x.val]) Kp (λxs=>xs.map (·.val)=upto (λj=>j) K) (λ_=>True) K w:=by
 intro l J Jx W hW hJ hJx hY h0
 have hc: ∀a v,w.cell? a=some v->W.cell? a=some v:=λa v h=>(World.cell?_of_block (hW.block _ (World.block_lt_of_cell? w a h))).trans h
 refine(z6x n hn l Bs Bn oS oN b off m K L cap hm hL hlen hbig Kp hKp (λpre W=>∃p:List (Fin K),p.map (·.val)=pre/\J p W) (λpre W=>∃p:List (Fin K),p.map (·.val)=pre/\Jx p W) ?_ ?_ W (hc _ _ hBs) (hc _ _ hBn) ⟨[],rfl,h0⟩).mono ?_
 ·rintro pre W ⟨p,hp,hj⟩
  exact⟨p,hp,hJ p W W.drew none hj ⟨rfl,rfl,rfl,Nat.le_refl _,λ_ _ _=>rfl⟩ (λr e=>by cases e)⟩
 ·rintro pre k W hk ⟨p,hp,hj⟩ hlt
  obtain⟨fn,tmps,assign,body,hy,hR⟩:=hY p ⟨k,hlt⟩ W hj (by rw[<-hp,List.length_map]at hk;omega)
  refine⟨fn,tmps,assign,body,hy,hR.mono ?_⟩
  rintro e W' (⟨h1,h2,h3⟩ |⟨h1,h2⟩)
  ·exact .inl ⟨h1,⟨_,by simp[hp],h2⟩,h3⟩
  ·exact .inr ⟨h1,⟨_,by simp[hp],h2⟩⟩
 ·rintro e W' ⟨hv,(⟨ys,rfl,p,hp,hj⟩ |⟨pre,_,p,hp,hj⟩)⟩
  ·exact⟨hv, .inl ⟨p,hp,hj⟩⟩
  ·exact⟨hv, .inr ⟨p,trivial,hj⟩⟩
abbrev valW(x:UInt64):Value:= .int .u64 (x.toNat:Int)
theorem ztw{w:World}{k:Kp}{g:Env}{b:Nat}{l:List UInt64}(h:(boxW l).at_ w k g (.pointer (some ⟨b,0,none⟩),some b)):k b=0/\∃cur ty,w.heap[b]?=some (.cells cur ty (0,0))/\cur.toList=l.map valW:=by
 simp only[Ow.at_]at h
 obtain⟨b',cur,ty,e,hh,hk,hs,hc⟩:=h
 injection e with e1 e2
 injection e2 with e2
 subst e2
 refine⟨hk,cur,ty,hh,?_⟩
 apply List.ext_getElem
 ·rw[Array.length_toList,hs];simp
 ·intro i h1 h2
  have h3:i<l.length:=by simpa using h2
  have:=hc i (.r (W l[i])) cur[i] (by simp[h3]) (by rw[Array.getElem?_eq_getElem])
  simp only[TF.at_,RV.at_]at this
  rw[Array.getElem_toList,this.2]
  simp
theorem zarb{w:World}{k:Kp}{g:Env}{b:Nat}{l:List UInt64}{cur:Array Value}{ty:TypeId}(hk:k b=0)(hh:w.heap[b]?=some (.cells cur ty (0,0)))(hc:cur.toList=l.map valW):(boxW l).at_ w k g (.pointer (some ⟨b,0,none⟩),some b):=by
 simp only[Ow.at_]
 refine⟨b,cur,ty,rfl,hh,hk,by rw[<-Array.length_toList,hc];simp,λj f u hf hu=>?_⟩
 rw[<-Array.getElem?_toList,hc]at hu
 rw[List.getElem?_map,List.getElem?_map]at hf
 rw[List.getElem?_map]at hu
 cases hx:l[j]? with
 |none=>rw[hx]at hf;cases hf
 |some x=>
  rw[hx]at hf hu
  cases hf;cases hu
  exact⟨rfl,by simp[TF.at_,RV.at_]⟩
def zdc(l:List UInt8)(m x:Nat):List UInt8:=(l.drop (m*x)).take m
theorem zq7{l:List UInt8}{m K x:Nat}(hl:m*K=l.length)(hx:x<K):(zdc l m x).length=m:=by
 have:m*x+m<=m*K:=by rw[<-Nat.mul_succ];exact Nat.mul_le_mul_left _ hx
 rw[zdc,List.length_take,List.length_drop]
 omega
theorem za7b{w:World}{k:Kp}{b off:Nat}{l:List UInt8}{m K x:Nat}(hm:0<m)(hl:m*K=l.length)(hbig:l.length<=1000000000000)(hx:x<K)(hb:b<w.heap.size)(h:RV.cellsAt w k b off (l.map U8)):(bs (zdc l m x)).at_ w k (zf8 b off m x):=by
 have hcl:=zq7 hl hx
 have hmx:m*x+m<=l.length:=by rw[<-hl,<-Nat.mul_succ];exact Nat.mul_le_mul_left _ hx
 show RV.at_ w k (.sl 1 (zdc l m x).length ((zdc l m x).map U8)) _
 simp only[RV.at_]
 refine⟨_,m,by rw[hcl];rfl,Nat.le_of_eq hcl,by simp only[maxLen];omega,by simp,λ_=>⟨b,off+m*x,rfl,hb,?_⟩⟩
 rw[RV.cellsAt_iff]at h⊢
 intro j q hq
 rw[List.getElem?_map]at hq
 obtain⟨c,hc,rfl⟩:=Option.map_eq_some_iff.1 hq
 rw[zdc,List.getElem?_take]at hc
 split at hc
 ·rw[List.getElem?_drop]at hc
  have:=h (m*x+j) (U8 c) (by rw[List.getElem?_map,hc];rfl)
  rw[<-Nat.add_assoc]at this
  exact this
 ·cases hc
theorem z68(t:Nat)(f:TF)(r:List (Nat×TF)):fget ((t,f)::r) t=some f:=by
 simp only[fget]
 rw[Nat.beq_refl]
theorem zuw(t:Nat)(f:Option Ow)(r:List (Nat×Option Ow)):oget ((t,f)::r) t=f:=by
 simp only[oget]
 rw[Nat.beq_refl]
def zoy(D:Nat):GOw where
 at_:=λw _ vb=>vb=(.int .i64 0,some D)/\w.heap[D]?=some (.deferred (some []))
 mono:=λ_ h ⟨e,hh⟩=>⟨e,by rw[(h D (by rw[e])).1];exact hh⟩
 one:=λ⟨e,_⟩=>by rw[e];rfl
theorem SatE.rebase{B:Bs}{N:Nat}{S:St}{a:Act}{w:World}{k:Kp}{g:Env}(hs:SatE B N S a w k g){i b:Nat}{ow:Ow}(ho:oget S.O i=some ow)(hg:(g i).2=some b)(j:Nat):SatE ⟨w,k,[b],a.defers⟩ N {F:=(j, .nm i (g i).1)::S.F,O:=[(i,some ow)],nx:=S.nx} a w k g:=by
 obtain⟨q1,q2,q3,q4⟩:=hs.owns i ow ho
 refine⟨hs.size,rfl,⟨rfl,rfl,rfl,Nat.le_refl _,λ_ _ _=>rfl⟩,λ_ _ _=>rfl,λt f hf=>?_,λid o h=>?_,λx y o o' b' hx hy hne=>?_⟩
 ·rcases zay hf with⟨rfl,rfl⟩ |⟨_,hf⟩
  ·exact⟨q1,rfl⟩
  ·exact hs.facts t f hf
 ·rcases zas h with⟨rfl,e⟩ |⟨_,h⟩
  ·cases e
   exact⟨q1,q2,q3,λb' hb'=>⟨.inr (by rw[hg]at hb';cases hb';simp),(q4 b' hb').2⟩⟩
  ·cases h
 ·rcases zas hx with⟨rfl,_⟩ |⟨_,h⟩
  ·rcases zas hy with⟨rfl,_⟩ |⟨_,h⟩
   ·exact absurd rfl hne
   ·cases h
  ·cases h
set_option maxHeartbeats 1000000 in
theorem z97{N:Nat}{w0 w:World}{k0 k:Kp}{a:Act}{g:Env}{S0:St}{i3 t12 p q:Nat}{l:List UInt8}{m K:Nat}{X:List Nat->List UInt64}{assign body:Code}{Q:Exit->Act->World->Prop}
  (hs:SatE ⟨w0,k0,[],[]⟩ N S0 a w k g) (h3:oget S0.O i3=some (boxW (X []))) (ht:fget S0.F t12=some (.r (.s (funS 490 [.ptr [bs l], .ptr [I m]]))))
  (hm:0<m) (hK:0<K) (hl:m*K=l.length) (hbig:l.length<=1000000000000) (hp:p<N) (hq:q<N)
  (hasg: ∀(ld:Nat) (a:Act) (W:World) (Kk:Act->World->Prop),Kk (a.put (some q) (a.tmps.getD p undef)) W->assign.wpIn (Fence.wide.inRound ld) 1 aP (Exit.then Kk (λ_ _ _=>False)) a W)
  (hbody: ∀(ld:Nat) (v:Value) (pre:List Nat) (x:Nat) (a:Act) (W:World) (k:Kp) (b:Nat),x<K->Sat ⟨W,k,[b],[]⟩ N {F:=(q, .r (bs (zdc l m x)))::(p, .r (bs (zdc l m x)))::(1000000+i3, .nm i3 v)::S0.F,O:=[(i3,some (boxW (X pre)))],nx:=S0.nx} a W k->
   body.wpIn (Fence.wide.inRound ld) 1 aP (λe a' W'=>e= .normal/\∃k',Sat ⟨W,k,[b],[]⟩ N {F:=[(1000000+i3, .nm i3 v)],O:=[(i3,some (boxW (X (pre++[x]))))],nx:=S0.nx} a' W' k') a W)
  (hdone: ∀D W k' g',SatE ⟨w0,k0,[],[{target:= .collected D,args:= #[]}]⟩ N ((S0.set i3 (some (boxW (X (upto (λj=>j) K))))).mk_ none (.gen (zoy D))) {a with defers:=[{target:= .collected D,args:= #[]}]} W k' g'->Q .normal {a with defers:=[{target:= .collected D,args:= #[]}]} W):
  (Code.rangeFunc (.tmp t12) #[p] assign body).wpIn Fence.wide 3 aP Q a w:=by
 have hdf:a.defers=[]:=hs.defers
 obtain⟨hlt3,hlo3,hat3,hblk3⟩:=hs.owns i3 _ h3
 obtain⟨b3,e3⟩: ∃b3,g i3=(.pointer (some ⟨b3,0,none⟩),some b3):=by
  simp only[Ow.at_]at hat3
  obtain⟨b3,_,_,e,_⟩:=hat3
  exact⟨b3,e⟩
 rw[e3]at hat3
 obtain⟨hk3,cur3,ty3,hh3,hv3⟩:=ztw hat3
 have hb3:b3<w.heap.size:=(Array.getElem?_eq_some_iff.1 hh3).1
 have h12:=(hs.facts t12 _ ht).2
 simp only[TF.at_,RV.at_]at h12
 obtain⟨cap,hv,hparts⟩:=h12
 obtain⟨vS,vN,hcap,hS,hN'⟩:=znz hparts
 simp only[RV.at_]at hS hN'
 obtain⟨Bs,oS,rfl,hBs,hcS⟩:=hS
 obtain⟨Bn,oN,rfl,hBn,hcN⟩:=hN'
 simp only[RV.cellsAt]at hcS hcN
 obtain⟨⟨hkS,uS,hcellS,_,huS⟩,_⟩:=hcS
 obtain⟨⟨hkN,uN,hcellN,_,huN⟩,_⟩:=hcN
 simp only[RV.at_]at huS huN
 subst huN
 obtain⟨aa,cc,rfl,hlc,hmax,_,hblk⟩:=huS
 obtain⟨b,off,rfl,hbl,hcb⟩:=hblk (by rw[<-hl];exact Nat.mul_pos hm hK)
 have hcapE:cap= #[.pointer (some ⟨Bs,oS,none⟩), .pointer (some ⟨Bn,oN,none⟩)]:=by apply Array.ext';exact hcap
 subst hcapE
 have hneS:Bs≠b3:=λe=>by rw[e,hk3]at hkS;omega
 have hneN:Bn≠b3:=λe=>by rw[e,hk3]at hkN;omega
 obtain⟨KP,hKP⟩: ∃KP:World->World->Prop,KP= λA B=>∀x,x<w.heap.size->x≠b3->B.heap[x]?=A.heap[x]?:=⟨_,rfl⟩
 obtain⟨I,hI⟩: ∃I:List (Fin K)->World->Prop,I= λpre W=>Keep [b3] w W/\∃cur ty,W.heap[b3]?=some (.cells cur ty (0,0))/\cur.toList=(X (pre.map (·.val))).map valW:=⟨_,rfl⟩
 have hchunk: ∀x,x<K->(bs (zdc l m x)).at_ w k (zf8 b off m x):=λx hx=>za7b hm hl hbig hx hbl hcb
 have sat: ∀pre W,I pre W->∃k',Le w k W k'/\SatE ⟨w0,k0,[],[]⟩ N (S0.set i3 (some (boxW (X (pre.map (·.val)))))) a W k' g:=by
  intro pre W hi
  rw[hI]at hi
  obtain⟨hkeep,cur,ty,hh,hcv⟩:=hi
  have hw:Wrote w k W (λc=>if c<w.heap.size then k c else 0) (some b3):=⟨hkeep.os,hkeep.tape,hkeep.output,hkeep.size,λc hc hne=>⟨hkeep.block c hc (by simpa usingλe=>hne (by rw[e])),by simp[hc]⟩,λc hc=>by
   cases hc
   refine⟨by simp[hb3],λo ho=>by omega,λh=>by omega⟩⟩
  exact⟨_,hw.le,hs.redo h3 (by rw[e3]) hw (by
   intro f hf
   obtain⟨r,_,rfl⟩:=List.mem_map.1 hf
   trivial) (by rw[e3];exact zarb (by simp[hb3,hk3]) hh hcv)⟩
 refine wpIn_rangeFunc_ownH (α:=Fin K) (gf:=490) (w0:=w) rfl (by decide) hv trivial (λargs w=>zf7 Tryz.func490 rfl (by decide) args)
  (z0f 2 (by decide) Bs Bn oS oN b off m K l.length cc hm hl hlc hbig KP w (λA B h=>?_) hcellS hcellN) (λh1 h2=>?_) (λW ld o o' hld h _ _=>?_) (Below.refl _ _) (λ_=>rfl) I (λ_ _ _=>False) ?_ (λ_ _ _ _ _ h=>h.elim) ?_
  (λx a' _=>a'=(a.put (some p) (zf8 b off m x.val)).put (some q) (zf8 b off m x.val)) (λx a' _ _ _ _ h _ _=>h) ?_ ?_ ?_ (λ_ _ _ _ _ _ h=>h.elim)
 ·rw[hKP]at h
  exact⟨World.cell?_of_block (h Bs hBs hneS),World.cell?_of_block (h Bn hBn hneN)⟩
 ·rw[hKP]at h1 h2⊢
  exactλx hx hne=>(h2 x hx hne).trans (h1 x hx hne)
 ·rw[hKP]
  exactλx hx hne=>World.putObj_heap_other (by omega)
 ·intro s W W' row hi hg hr
  rw[hI]at hi⊢
  obtain⟨hkeep,cur,ty,hh,hcv⟩:=hi
  have hnr: ∀c,c<w.heap.size->some c≠row:=λc hc e=>by have:=(hr c e.symm).1;omega
  have hblk: ∀c,c<w.heap.size->W'.heap[c]?=W.heap[c]?:=λc hc=>hg.block c (Nat.lt_of_lt_of_le hc hkeep.size) (hnr c hc)
  exact⟨⟨hg.os.trans hkeep.os,hg.tape.trans hkeep.tape,hg.output.trans hkeep.output,Nat.le_trans hkeep.size hg.size,λc hc hn=>(hblk c hc).trans (hkeep.block c hc hn)⟩,cur,ty,(hblk b3 hb3).trans hh,hcv⟩
 ·rw[hI]
  exact⟨⟨rfl,rfl,rfl,Nat.le_refl _,λ_ _ _=>rfl⟩,cur3,ty3,hh3,hv3⟩
 ·intro ld pre x W Kk hi hk
  refine hasg ld _ W Kk (hk _ W (KeepsFrom.refl _ _) (by rw[hKP];exactλ_ _ _=>rfl) hi ?_)
  have e:({tmps:=(#[p].zip #[zf8 b off m x.val]).foldl (λt (p,v)=>t.setIfInBounds p v) a.tmps,defers:=[]}:Act)=a.put (some p) (zf8 b off m x.val):=by
   cases a
   subst hdf
   simp[Act.put]
  rw[e]
  congr 1
  simp only[Act.put]
  exact zhy (by rw[hs.size];exact hp)
 ·intro ld pre x a' W hld _ hi hax hlen
  subst hax
  obtain⟨k',hle,hsW⟩:=sat pre W hi
  have hx:=x.isLt
  have hch:=RV.mono hle _ _ (hchunk x.val hx)
  have hr:=hsW.rebase (i:=i3) (ow:=boxW (X (pre.map (λy:Fin K=>y.val)))) (b:=b3) (zuw _ _ _) (by rw[e3]) (1000000+i3)
  have hr2:=(hr.put (dst:=some p) (λd e=>by cases e;exact hp) (f:= .r (bs (zdc l m x.val))) trivial hch).put (dst:=some q) (λd e=>by cases e;exact hq) (f:= .r (bs (zdc l m x.val))) trivial hch
  rw[hdf]at hr2
  refine wpIn_mono (hbody ld (g i3).1 (pre.map (λy:Fin K=>y.val)) x.val _ W k' b3 hx ⟨g,hr2⟩) ?_
  rintro e a2 W2 ⟨rfl,k2,g2,h2⟩
  rw[hI]at hi
  obtain⟨hkeep,_⟩:=hi
  have hk2:Keep [b3] W W2:=h2.keep
  have hn:=(h2.facts (1000000+i3) _ (z68 _ _ _)).2
  simp only[TF.at_]at hn
  obtain⟨_,_,h2at,_⟩:=h2.owns i3 _ (zuw _ _ _)
  have e2:g2 i3=(.pointer (some ⟨b3,0,none⟩),some b3):=by
   simp only[Ow.at_]at h2at
   obtain⟨b',_,_,e,_⟩:=h2at
   rw[e]at hn⊢
   rw[e3]at hn
   injection hn with hn
   injection hn with hn
   injection hn with hn
   rw[hn]
  rw[e2]at h2at
  obtain⟨_,cur2,ty2,hh2,hv2⟩:=ztw h2at
  refine⟨⟨hk2.size,λc o hc ho _=>(hk2.block c (Array.getElem?_eq_some_iff.1 ho).1 (by simp;omega)).trans ho⟩,?_,?_⟩
  ·rw[hKP]
   exactλc hc hne=>hk2.block c (Nat.lt_of_lt_of_le hc hkeep.size) (by simpa using hne)
  ·rw[hI]
   exact⟨⟨hk2.os.trans hkeep.os,hk2.tape.trans hkeep.tape,hk2.output.trans hkeep.output,Nat.le_trans hkeep.size hk2.size,λc hc hn=>(hk2.block c (Nat.lt_of_lt_of_le hc hkeep.size) hn).trans (hkeep.block c hc hn)⟩,cur2,ty2,hh2,by rw[hv2];simp⟩
 ·intro D xs W hwD hS hi hD
  obtain⟨k',_,hsW⟩:=sat xs W hi
  rw[hdf]
  rw[hS]at hsW
  have h2:SatE ⟨w0,k0,[],[{target:= .collected D,args:= #[]}]⟩ N (S0.set i3 (some (boxW (X (upto (λj=>j) K))))) {a with defers:=[{target:= .collected D,args:= #[]}]} W k' g:=⟨hsW.size,rfl,hsW.keep,hsW.kk,hsW.facts,hsW.owns,hsW.apart⟩
  refine hdone D W k' _ (h2.adopt (dst:=none) (λd e=>by cases e) (o:= .gen (zoy D)) (vb:=(.int .i64 0,some D)) trivial ⟨rfl,hD⟩ (λc hc=>?_) (λi o' c ho hc=>?_))
  ·cases hc
   exact⟨.inl (Nat.le_trans hs.keep.size hwD),(Array.getElem?_eq_some_iff.1 hD).1⟩
  ·cases hc
   intro hg
   have:D<w.heap.size:=by
    rcases zas ho with⟨rfl,_⟩ |⟨_,h⟩
    ·exact(hblk3 D hg).2
    ·exact((hs.owns i o' h).2.2.2 D hg).2
   omega
theorem z9d{T:TT}{P:Program}(hT:TOk P T){F:Fence}{n N:Nat}{fn:Func}{res:Res}{S':St}{D idD:Nat}{a':Act}{w W2:World}{k k2:Kp}{e:Exit}(he:e= .normal\/e= .ret)
  (hq:finv T fn.results res e (S'.set idD none)) (ho:oget S'.O idD=some (.gen (zoy D))) (hs:Sat ⟨w,k,[],[{target:= .collected D,args:= #[]}]⟩ N S' a' W2 k2):
  bodyPostM F n P fn (λe w'=>∃v,e=Ending.returned v/\Ext w w'/\∃k':Kp,(∀b,b<w.heap.size->k' b=k b)/\res.at_ w.heap.size w' k' v) e a' W2:=by
 obtain⟨g2,hs⟩:=hs
 obtain⟨_,_,hat,hblk⟩:=hs.owns idD _ ho
 simp only[Ow.at_,zoy]at hat
 obtain⟨hg2,hh⟩:=hat
 have hlt:D<W2.heap.size:=(Array.getElem?_eq_some_iff.1 hh).1
 have hw:Wrote W2 k2 (W2.putObj D (.deferred none)) k2 (some D):=⟨rfl,rfl,rfl,by simp,λb _ hne=>⟨World.putObj_heap_other (λe=>hne (by rw[e])),rfl⟩,λb hb=>by
  cases hb
  refine⟨Nat.le_refl _,λo _=>?_,λ_ es c e=>by rw[hh]at e;cases e⟩
  simp[World.cell?,hh,World.putObj_heap_same hlt]⟩
 have h3:=hs.wrote hw (id:=some idD) ⟨⟨_,ho⟩,by rw[hg2]⟩
 have h5:=zq0 (a':={a' with defers:=[]}) hT hq ⟨g2,h3.size,rfl,h3.keep,h3.kk,h3.facts,h3.owns,h3.apart⟩
 have hdf:a'.defers=_:=hs.defers
 rcases he with rfl |rfl
 all_goals
  obtain⟨_,v,hr,hR⟩:=h5
  show LeavesInM F n P fn a'.tmps _ a'.defers .returning W2
  rw[hdf]
  exact⟨nofun, .inl ⟨D,_,rfl,run_takeDeferred hh,v,hr,hR⟩⟩
section
theorem zqr{T:TT}{P:Program}{N n:Nat}{B:Bs}{c rest:Code}{S:St}{a:Act}{w:World}{k:Kp}{Q0:St->Prop}{Q:Exit->Act->World->Prop}(hm:P.follows .mixedOrders=true)(hT:TOk P T)
  (h:vcg P T c S (λe S'=>e= .normal/\Q0 S')) (hs:Sat B N S a w k) (hd:za6 N c=true) (hK: ∀S' a' w' k',Q0 S'->Sat B N S' a' w' k'->rest.wpIn Fence.wide n P Q a' w'):(Code.seq c rest).wpIn Fence.wide n P Q a w:=
 wpIn_seq (wpIn_wide.2 (zaz hm hT c S _ h B N a w k _ hs hd λe S' a' w' k' hq hs'=>by
  obtain⟨rfl,hq⟩:=hq
  exact hK S' a' w' k' hq hs'))
theorem pre3{T:TT}{P:Program}{N n:Nat}{B:Bs}{c1 c2 c3 blk tail:Code}{S Sl:St}{a:Act}{w:World}{k:Kp}{Q:Exit->Act->World->Prop}(hm:P.follows .mixedOrders=true)(hT:TOk P T)
  (h:vcg P T c1 S (λe S1=>e= .normal/\vcg P T c2 S1 (λe S2=>e= .normal/\vcg P T c3 S2 (λe S3=>e= .normal/\Sub S3 Sl)))) (hs:Sat B N S a w k) (hd:(za6 N c1&&(za6 N c2&&za6 N c3))=true)
  (hK: ∀a' w' k',Sat B N Sl a' w' k'->blk.wpIn Fence.wide n P (Exit.then (tail.wpIn Fence.wide n P Q) Q) a' w'):(Code.seq c1 (Code.seq c2 (Code.seq (Code.seq c3 blk) tail))).wpIn Fence.wide n P Q a w:=by
 simp only[Bool.and_eq_true]at hd
 refine zqr hm hT h hs hd.1 λS1 a1 w1 k1 h1 hs1=>?_
 refine zqr hm hT h1 hs1 hd.2.1 λS2 a2 w2 k2 h2 hs2=>?_
 refine wpIn_seq ?_
 refine zqr hm hT h2 hs2 hd.2.2 λS3 a3 w3 k3 h3 hs3=>?_
 obtain⟨k',hs'⟩:=h3 _ _ _ _ _ hs3
 exact hK _ _ _ hs'
theorem z66{N:Nat}{l:List Oper}(h:(l.all λo=>match o.dst with |some d=>Nat.blt d N |none=>true)=true): ∀o∈l,∀d,o.dst=some d->d<N:=λo ho d hd=>by
 have:=List.all_eq_true.1 h o ho
 rw[hd]at this
 exact Nat.le_of_ble_eq_true this
def hX(b:List UInt8)(pre:List Nat):X8:=pre.foldl (λs x=>z6e s k80 (zdc (zc4 b) 128 x)) iv8
theorem zjkb(b:List UInt8):hX b []=iv8:=rfl
theorem zf4b(b:List UInt8)(pre:List Nat)(x:Nat):hX b (pre++[x])=z6e (hX b pre) k80 (zdc (zc4 b) 128 x):=by simp[hX]
attribute [irreducible] hX
def endX(b:List UInt8):X8:=hX b (upto (λj=>j) ((zc4 b).length/128))
def sumC(x:X8)(i:Nat):UInt8:=UInt8.ofNat (shrW (x.l.getD (i/8) 0) (56-i%8*8)).toNat
def sumJ(x:X8)(j:Nat):List UInt8:=(List.range 64).map λi=>if i<j then sumC x i else 0
def sumB(b:List UInt8):List UInt8:=sumJ (endX b) 64
theorem zdv(x:X8)(j:Nat):(sumJ x j).length=64:=by simp[sumJ]
theorem zd0b(b:List UInt8):(sumB b).length=64:=zdv _ _
theorem zamb(x:X8):sumJ x 0=List.replicate 64 0:=by
 apply List.ext_getElem
 ·simp[zdv]
 ·intro i h1 h2
  unfold sumJ
  simp only[List.getElem_map,List.getElem_replicate,Nat.not_lt_zero,if_false]
theorem zalb(x:X8)(j:Nat):sumJ x (j+1)=(sumJ x j).set j (sumC x j):=by
 apply List.ext_getElem
 ·simp[sumJ]
 ·intro i h1 h2
  simp only[sumJ,List.getElem_set,List.getElem_map,List.getElem_range]
  by_cases h:j=i
  ·subst h;simp
  ·rw[if_neg h]
   by_cases h3:i<j
   ·rw[if_pos h3,if_pos (by omega)]
   ·rw[if_neg h3,if_neg (by omega)]
attribute [irreducible] sumJ sumC
def smS(b:List UInt8):St:={F:=[(2, .own 0),(3, .own 1),(4, .r (.ptr (k80.map W))),(12, .r (.s (funS 490 [.ptr [bs (zc4 b)], .ptr [I 128]])))],O:=[(0,some (boxB (List.replicate 64 0))),(1,some (boxW (hX b []).l))],nx:=2}
theorem zmkb(b:List UInt8):stOk [(0,0),(1,1)] (smS b)=true:=by
 simp only[stOk,smS,boxW,boxB,List.all_cons,List.all_nil,zdq,zdz]
 rfl
theorem z1h{x:UInt8}{l:List UInt8}{j:Nat}(h:j<l.length):(za8 (U8 x)&&(Nat.beq (cellsOf (U8 x)).length 1&&Nat.ble (j*1+1) ((l.map U8).map TF.r).length))=true:=by
 have e:Nat.ble (j*1+1) ((l.map U8).map TF.r).length=true:=by
  rw[Nat.ble_eq,List.length_map,List.length_map]
  omega
 rw[e]
 rfl
theorem zy8{l:List UInt8}{j:Nat}{x:UInt8}{K:List TF->Prop}(h:j<l.length)(hK:K (((l.set j x).map U8).map TF.r)):putK ((l.map U8).map TF.r) (j*1) [TF.r (U8 x)] K:=by
 rw[Nat.mul_one,zej _ _ _ _ (by simp;omega)]
 have e:((l.map U8).map TF.r).take j++[TF.r (U8 x)]++((l.map U8).map TF.r).drop (j+1)=((l.set j x).map U8).map TF.r:=by
  rw[List.set_eq_take_append_cons_drop,if_pos h]
  simp[List.map_take,List.map_drop]
 simp only[List.length_cons,List.length_nil,Nat.zero_add]
 rw[e]
 exact hK
def smO(xe:X8)(D j:Nat):St:={F:=[(2, .own 0),(3, .own 1),(6, .own 3),(18, .r (I j))],O:=[(0,some (boxB (List.replicate 64 0))),(1,some xe.bx),(2,some (.gen (zoy D))),(3,some (boxB (sumJ xe j)))],nx:=4}
theorem zafb(xe:X8)(D j:Nat):stOk [(0,0),(1,1),(2,2),(3,3)] (smO xe D j)=true:=by
 simp only[stOk,smO,boxB,List.all_cons,List.all_nil,zdq,zdz]
 rfl
set_option maxRecDepth 100000 in
set_option maxHeartbeats 4000000 in
theorem z13(b:List UInt8)(hb:b.length<=10000000000):aG 336 [bs b] (.r (.ag ((sumB b).map U8))):=by
 refine⟨zdt Tryz.func336 rfl (by kernel_rfl),λw k vs hp=>?_⟩
 refine callsIn_wide.1 (callsIn_of_wp_marks (n:=3) Tryz.func336 rfl trivial ?_)
 refine pre3 (N:=35) mixed Tab_ok (Sl:=smS b) ?v (zj7 hp (by simp)) (by kernel_rfl) ?r
 case v=>
  (conv=>whnf)
  refine⟨rfl,?_⟩
  refine ze zf5b ?_
  refine ze zb1b ?_
  (conv=>whnf)
  generalize hq:(za8 _&&_)=q
  obtain rfl:=hq.symm.trans (zh0 (l:=k80.map W) 80 (by rw[List.length_map,zku]) rfl)
  clear hq
  refine zeb (by rw[List.length_map];show(List.replicate 80 (Value.int .u64 0)).length=_;rw[List.length_replicate,List.length_map,zku]) ?_
  (conv=>whnf)
  refine⟨rfl,?_⟩
  refine ze (z8u b hb) ?_
  refine ze (zf7b (zc4 b) 128 (by decide)) ?_
  refine⟨rfl,Sub.trans (zcq (id:=2) (t:=4) (k80.map W) rfl rfl) (zac [(0,0),(1,1)] (zmkb b) ⟨rfl,rfl,cr,cr,trivial⟩ ⟨zae ((List.replicate 64 (0:UInt8)).map U8),by rw[zjkb];exact⟨_,_,rfl,cr,_,_,rfl,cr,_,_,rfl,cr,_,_,rfl,cr,_,_,rfl,cr,_,_,rfl,cr,_,_,rfl,cr,_,_,rfl,cr,rfl⟩,trivial⟩)⟩
 case r=>
  rintro a1 w1 k1 ⟨g1,h1⟩
  have hlen:=zsn b
  have hdv:=z6l b
  have hz:padZ b.length<128:=by unfold padZ;omega
  refine wpIn_block ?_
  refine z97 (i3:=1) (t12:=12) (p:=13) (q:=5) (l:=zc4 b) (m:=128) (K:=(zc4 b).length/128) (X:=λpre=>(hX b pre).l) h1 rfl rfl (by decide) (by omega) (by omega) (by omega) (by decide) (by decide) ?asg ?body ?done
  case asg=>
   intro ld a Wr Kk hk
   refine wpIn_region_list (zl3 (λ⟨_,_,h⟩=>h) (List.all_eq_true.1 (by kernel_rfl)) ?_)
   go_wp2
   simp only[Act.put,Array.getD_eq_getD_getElem?]at hk
   exact hk
  case body=>
   intro ld v pre x a Wr kk bb hx hs
   refine wpIn_block (wpIn_region_list (zl3 (λ⟨_,_,h⟩=>by cases h.1) (List.all_eq_true.1 (by kernel_rfl)) ?_))
   refine zgn (T:=Tab) (N:=35) (K:=λS'=>Sub S' {F:=[(1000000+1, .nm 1 v)],O:=[(1,some (boxW (hX b (pre++[x])).l))],nx:=2}) Tab_ok (λo ho d hd=>?_) (λo h=>h) hs ?_ (λS' a' w' k' hK hs'=>⟨rfl,hK _ _ _ _ _ hs'⟩)
   ·exact z66 (N:=35) (by kernel_rfl) o ho d hd
   ·have hcl:(zdc (zc4 b) 128 x).length=128:=zq7 (K:=(zc4 b).length/128) (by omega) hx
    refine za rfl rfl ?_
    refine za (l:=k80.map W) (List.take_of_length_le (by rw[List.drop_zero,List.length_map,zku];exact Nat.le_refl _)) (by rw[List.length_map,zku]) ?_
    refine ze (zcsb (hX b pre) k80 (zdc (zc4 b) 128 x) zku hcl) ?_
    exact zac [(1,1)] rfl ⟨⟨rfl,rfl⟩,trivial⟩ ⟨by rw[zf4b];exact⟨_,_,rfl,cr,_,_,rfl,cr,_,_,rfl,cr,_,_,rfl,cr,_,_,rfl,cr,_,_,rfl,cr,_,_,rfl,cr,_,_,rfl,cr,rfl⟩,trivial⟩
  case done=>
   intro D Wr k' g' hsD
   generalize hXe:hX b (upto (λj=>j) ((zc4 b).length/128))=xe at hsD
   refine wpIn_wide.2 (zaz (T:=Tab) mixed Tab_ok _ _ (λe S'=>(e= .normal\/e= .ret)/\oget S'.O 2=some (.gen (zoy D))/\finv Tab Tryz.f336.results (.r (.ag ((sumB b).map U8))) e (S'.set 2 none)) ?_ _ 35 _ _ _ _ ⟨g',hsD⟩ (by kernel_rfl) (λe S' a' w' k2 hq hs'=>z9d (T:=Tab) Tab_ok hq.1 hq.2.2 hq.2.1 hs'))
   have hse:sumB b=sumJ xe 64:=by rw[sumB,endX,hXe]
   rw[hse]
   clear hsD hXe hse
   refine zy (smO xe D) (λj=>j<=64) (λj=>64-j) 0 (by omega) (zac [(0,0),(1,1),(2,2),(3,3)] (zafb xe D 0) ⟨rfl,rfl,rfl,cr,trivial⟩ ⟨zae ((List.replicate 64 (0:UInt8)).map U8),(aD aZ),λ_ _ _ h=>h,by rw[zamb];exact zae ((List.replicate 64 (0:UInt8)).map U8),trivial⟩) ?_
   intro j hj
   refine zh (λh=>zp ?_) (λh=>zq ?_)
   ·simp only[zb]at h
    have hj':j<64:=by omega
    refine Vquo.i64 j 8 rfl rfl (by omega) (by omega) ?_
    refine Vadr.mk' (j/8) rfl (by omega) ?_
    (conv=>whnf)
    generalize hq:lget _ _=q
    obtain rfl:=hq.symm.trans (zh5 (l:=xe.l) (j:=j/8) (by show j/8<8;omega))
    clear hq
    refine Vrem.nat j 8 rfl rfl (by omega) ?_
    refine zd (m:=((j%8*8:Nat):Int)) (by omega) (by omega) ?_
    refine zd (m:=((56-j%8*8:Nat):Int)) (by omega) (by omega) ?_
    refine Vshr.w _ (56-j%8*8) rfl rfl ?_
    refine Vint.u8 _ rfl ?_
    refine Vadr.mk' j rfl (by omega) ?_
    (conv=>whnf)
    generalize hq:(za8 _&&_)=q
    obtain rfl:=hq.symm.trans (z1h (x:=UInt8.ofNat (shrW (xe.l.getD (j/8) 0) (56-j%8*8)).toNat) (j:=j) (by rw[zdv];omega))
    clear hq
    refine zy8 (by rw[zdv];omega) ?_
    have hs:=zalb xe j
    unfold sumC at hs
    rw[<-hs]
    refine zd (m:=((j+1:Nat):Int)) (by omega) (by omega) ?_
    exact⟨j+1,by omega,by omega,zac [(0,0),(1,1),(2,2),(3,3)] (zafb xe D (j+1)) ⟨rfl,rfl,rfl,cr,trivial⟩ ⟨zae ((List.replicate 64 (0:UInt8)).map U8),(aD aZ),λ_ _ _ h=>h,zae ((sumJ xe (j+1)).map U8),trivial⟩⟩
   ·simp only[zb]at h
    obtain rfl:j=64:=by omega
    refine za (l:=((sumJ xe 64).map U8).map TF.r) (List.take_of_length_le (by simp[zdv])) (by simp[zdv]) ?_
    (conv=>whnf)
    generalize hq:St.rvs _ _=q
    obtain rfl:=hq.symm.trans (zg4 _ _)
    clear hq
    (conv=>whnf)
    generalize hq:(za8 _&&_)=q
    obtain rfl:=hq.symm.trans (zh0 (l:=(sumJ xe 64).map U8) 64 (by rw[List.length_map,zdv]) rfl)
    clear hq
    refine zeb (by rw[List.length_map,List.length_map,List.length_map,zdv];rfl) ?_
    (conv=>whnf)
    refine⟨.inr rfl,rfl,?_⟩
    refine za (l:=((sumJ xe 64).map U8).map TF.r) (List.take_of_length_le (by simp[zdv])) (by simp[zdv]) ?_
    (conv=>whnf)
    generalize hq:St.rvs _ _=q
    obtain rfl:=hq.symm.trans (zg4 _ _)
    clear hq
    exact cr
end
def zcu(ls:List (List UInt8)):List UInt8:=sumB (ls.flatMap id)
theorem zcf(ls:List (List UInt8)):(zcu ls).length=64:=zd0b _
set_option maxRecDepth 100000 in
theorem zxp(ls:List (List UInt8))(hl:(ls.flatMap id).length<=10000000000):aG 228 [bss ls] (.r (bs (zcu ls))):=by
 refine aT Tryz.func228 rfl ?_
 refine ze (zgt ls (by omega)) ?_
 refine ze (z13 (ls.flatMap id) hl) ?_
 (conv=>whnf)
 generalize hq:(za8 _&&_)=q
 obtain rfl:=hq.symm.trans (zh0 (l:=(zcu ls).map U8) 64 (by rw[List.length_map,zcf]) rfl)
 clear hq
 refine zeb (by rw[List.length_map,List.length_map];show(List.replicate 64 (Value.int .u8 0)).length=_;rw[List.length_replicate];exact(zcf ls).symm) ?_
 refine Vstep.boxPub (n:=64) (vs:=(zcu ls).map U8) Tab_ok rfl rfl rfl rfl rfl rfl rfl (by rw[List.length_map,zcf]) (by decide) (by decide) ?_
 exact zf (by show _=bs (zcu ls);rw[bs,zcf])
section
structure S4 where
 a:UInt64
 b:UInt64
 c:UInt64
 d:UInt64
abbrev S4.v(x:S4):List RV:=[W x.a,W x.b,W x.c,W x.d]
abbrev S4.bx(x:S4):Ow:= .box [.r (W x.a), .r (W x.b), .r (W x.c), .r (W x.d)]
abbrev S4.l(x:S4):List UInt64:=[x.a,x.b,x.c,x.d]
def S4.car(x y:S4):UInt64:=carW x.d y.d (carW x.c y.c (carW x.b y.b (carW x.a y.a 0)))
def S4.sum(x y:S4):S4:=⟨x.a+y.a+0,x.b+y.b+carW x.a y.a 0,x.c+y.c+carW x.b y.b (carW x.a y.a 0),x.d+y.d+carW x.c y.c (carW x.b y.b (carW x.a y.a 0))⟩
def S4.bor(x y:S4):UInt64:=borW x.d y.d (borW x.c y.c (borW x.b y.b (borW x.a y.a 0)))
def S4.dif(x y:S4):S4:=⟨x.a-y.a-0,x.b-y.b-borW x.a y.a 0,x.c-y.c-borW x.b y.b (borW x.a y.a 0),x.d-y.d-borW x.c y.c (borW x.b y.b (borW x.a y.a 0))⟩
theorem z12(x y c:UInt64)(hc:c.toNat<=1):Extn aP 439 [W x,W y,W c] (.r (.tu [W (x-y-c),W (borW x y c)])):=
 Extn.sub (λus w=>run_callFunc_extern Tryz.func439 (by kernel_rfl) (by kernel_rfl) (by kernel_rfl) (e:=zzu) (by kernel_rfl) us w) x y c hc
set_option maxHeartbeats 4000000 in
theorem z8m(x y:S4):aG 337 [.ag x.v, .ag y.v] (.r (.tu [.ag (x.sum y).v,W (x.car y)])):=by
 refine aT Tryz.func337 rfl ?_
 repeat' ((conv=>whnf);first|refine Vrounds.step mixed Tab_ok ?_|refine zt rfl (zp ?_)|refine zu rfl (zq ?_)|refine Vadr.any (by decide) ?_|refine Vint.any (k:= .i64) ?_|refine za rfl rfl ?_|refine aV ?_|refine Vcall.ext (zf1 _ _ (carW _ _ _) (by repeat' first|apply z1j |decide)) ?_|refine Vcall.ext (zf1 _ _ 0 (by decide)) ?_|refine Vloop.rounds 5 ?_)
 exact⟨_,rfl,cr⟩
set_option maxHeartbeats 4000000 in
theorem z8t(x y:S4):aG 354 [.ag x.v, .ag y.v] (.r (.tu [.ag (x.dif y).v,W (x.bor y)])):=by
 refine aT Tryz.func354 rfl ?_
 repeat' ((conv=>whnf);first|refine Vrounds.step mixed Tab_ok ?_|refine zt rfl (zp ?_)|refine zu rfl (zq ?_)|refine Vadr.any (by decide) ?_|refine Vint.any (k:= .i64) ?_|refine za rfl rfl ?_|refine aV ?_|refine Vcall.ext (z12 _ _ (borW _ _ _) zfkb) ?_|refine Vcall.ext (z12 _ _ 0 (by decide)) ?_|refine Vloop.rounds 5 ?_)
 exact⟨_,rfl,cr⟩
def ord4:S4:=⟨6346243789798364141,1503914060200516822,0,1152921504606846976⟩
theorem z1z:aG 355 [] (.r (.ag ord4.v)):=by
 refine aT Tryz.func355 rfl ?_
 repeat' ((conv=>whnf);first|refine za rfl rfl ?_)
 exact cr
attribute [irreducible] ord4
def S4.once(x:S4):S4:=if x.bor ord4=0 then x.dif ord4 else x
set_option maxHeartbeats 4000000 in
theorem z8e(x:S4):aG 338 [.ag x.v] (.r (.ag x.once.v)):=by
 refine aT Tryz.func338 rfl ?_
 refine aV ?_
 refine za rfl rfl ?_
 refine ze z1z ?_
 refine ze (z8t x ord4) ?_
 refine zh (λh=>zp ?_) (λh=>zq ?_)
 ·have e:x.bor ord4=0:=by
   rw[beq_iff_eq]at h
   have:(x.bor ord4).toNat=0:=by omega
   exact UInt64.toNat_inj.1 this
  refine za rfl rfl ?_
  refine za rfl rfl ?_
  exact zf (by rw[S4.once,if_pos e])
 ·have e: ¬x.bor ord4=0:=by
   rw[beq_eq_false_iff_ne]at h
   intro e
   rw[e]at h
   exact h rfl
  refine za rfl rfl ?_
  refine za rfl rfl ?_
  exact zf (by rw[S4.once,if_neg e])
end
def swI(b:List UInt8)(at_ j:Nat):St:={F:=[(0, .r (bs b)),(1, .r (I at_)),(5, .r (W (za7 b at_ j))),(6, .r (I (7-(j:Int))))],O:=[],nx:=0}
theorem zhlb(x:UInt64):x|||UInt64.ofNat (0:UInt8).toNat=x:=by
 have e:UInt64.ofNat (0:UInt8).toNat=0:=rfl
 rw[e,UInt64.or_zero]
theorem zkr(b:List UInt8)(at_:Nat)(hb:b.length<=10000000000)(ha:at_<=10000000000):aG 334 [bs b,I at_] (.r (W (za7 b at_ 8))):=by
 refine aT Tryz.func334 rfl ?_
 refine zy (swI b at_) (λj=>j<=8) (λj=>8-j) 0 (by omega) (zac [] rfl ⟨cr,cr,by rw[zii];exact cr,cr,trivial⟩ trivial) ?_
 intro j hj
 refine zh (λh=>zp ?_) (λh=>zq ?_)
 ·simp only[zb]at h
  have hj':j<8:=by omega
  refine Vshl.w _ 8 rfl rfl (by decide) ?_
  refine zd (m:=((at_+(7-j):Nat):Int)) (by omega) (by omega) ?_
  have hs:=zih b at_ j
  refine zh (λh2=>zp ?_) (λh2=>zq ?_)
  ·simp only[zb]at h2
   have hl:at_+(7-j)<b.length:=by omega
   refine zd (m:=((at_+(7-j):Nat):Int)) (by omega) (by omega) ?_
   refine zm (by omega) (by omega) (za3 rfl hl) (zg rfl ?_)
   refine Vint.w _ rfl ?_
   refine Vbits.wor _ _ rfl rfl ?_
   refine zd (m:=7-((j+1:Nat):Int)) (by omega) (by omega) ?_
   exact⟨j+1,by omega,by omega,zac [] rfl ⟨cr,cr,by
    rw[hs,List.getD_eq_getElem?_getD,List.getElem?_eq_getElem hl];exact cr,cr,trivial⟩ trivial⟩
  ·simp only[zb]at h2
   refine zd (m:=7-((j+1:Nat):Int)) (by omega) (by omega) ?_
   exact⟨j+1,by omega,by omega,zac [] rfl ⟨cr,cr,by
    rw[hs,List.getD_eq_getElem?_getD,List.getElem?_eq_none (by omega)]
    show Cv _ (W (_|||UInt64.ofNat (0:UInt8).toNat))
    rw[zhlb];exact cr,cr,trivial⟩ trivial⟩
 ·simp only[zb]at h
  obtain rfl:j=8:=by omega
  exact cr
end Go.Proofs.YtkegaaonpekkgaaGreat.Sx
