import Derived.Test.YtoegdgbghdnnfaaGreatZFo
import Derived.Test.YtoegdgbghdnnfaaGreatZOnes
namespace Go.Proofs.YtoegdgbghdnnfaaGreat.Sx
open Go.RowKit
section
set_option maxHeartbeats 1000000 in
theorem zd8b(x y:S4):bG 257 [.ag x.v, .ag y.v] (.r (.ag (x.sum y).once.v)):=by
 refine bT Tryz.func257 rfl ?_
 refine za rfl rfl ?_
 refine za rfl rfl ?_
 refine ze (z7e x y) ?_
 refine za rfl rfl ?_
 refine ze (z65 (x.sum y)) ?_
 refine za rfl rfl ?_
 exact cr
theorem zcfb(x:S4){j:Nat}(h:j<4):lget (x.v.map TF.r) (0+j*1)=some (TF.r (W (x.l.getD j 0))):=by
 rw[Nat.zero_add]
 exact zi2 (l:=x.l) h
def S4.bit(x:S4)(i:Nat):UInt64:=shrW (x.l.getD (i/64) 0) (i%64)&&&1
theorem zd9b(x:S4)(i:Nat)(hi:i<256):bG 248 [.ag x.v,I i] (.r (I (x.bit i).toNat)):=by
 refine bT Tryz.func248 rfl ?_
 refine zw (by simp only[decide_eq_false_iff_not];omega) ?_
 refine zw (by simp only[decide_eq_false_iff_not];omega) ?_
 refine zt ?_
 refine Vquo.i64 i 64 rfl rfl (by omega) (by omega) ?_
 refine Vadr.mk' (i/64) rfl (by omega) ?_
 (conv=>whnf)
 generalize hq:lget _ _=q
 obtain rfl:=hq.symm.trans (zcfb x (by omega:i/64<4))
 clear hq
 refine Vrem.nat i 64 rfl rfl (by omega) ?_
 refine Vshr.w _ (i%64) rfl rfl ?_
 refine Vbits.wand _ 1 rfl rfl ?_
 refine zd (m:=((x.bit i).toNat:Int)) rfl ?_ ?_
 ·have:(x.bit i).toNat<=1:=by
   unfold S4.bit
   rw[UInt64.toNat_and]
   exact Nat.and_le_right
  show _<=((x.bit i).toNat:Int)/\((x.bit i).toNat:Int)<=_
  omega
 exact cr
def scC(x:S4)(i:Nat):UInt8:=UInt8.ofNat (shrW (x.l.getD (i/8) 0) (i%8*8)).toNat
def scB(x:S4)(j:Nat):List UInt8:=(List.range 32).map λi=>if i<j then scC x i else 0
def S4.bytes(x:S4):List UInt8:=scB x 32
theorem zpn(x:S4)(j:Nat):(scB x j).length=32:=by simp[scB]
theorem S4.bytes_len(x:S4):x.bytes.length=32:=zpn _ _
theorem zbvb(x:S4):scB x 0=List.replicate 32 0:=by
 apply List.ext_getElem
 ·simp[zpn]
 ·intro i h1 h2
  unfold scB
  simp only[List.getElem_map,List.getElem_replicate,Nat.not_lt_zero,if_false]
theorem zbub(x:S4)(j:Nat):scB x (j+1)=(scB x j).set j (scC x j):=by
 apply List.ext_getElem
 ·simp[scB]
 ·intro i h1 h2
  simp only[scB,List.getElem_set,List.getElem_map,List.getElem_range]
  by_cases h:j=i
  ·subst h;simp
  ·rw[if_neg h]
   by_cases h3:i<j
   ·rw[if_pos h3,if_pos (by omega)]
   ·rw[if_neg h3,if_neg (by omega)]
attribute [irreducible] scB scC
def sbI(x:S4)(j:Nat):St:={F:=[(1, .own 0),(3, .own 1),(7, .r (I 32)),(8, .r (I j))],O:=[(0,some x.bx),(1,some (.ch 5 1 32 ((scB x j).map U8) false))],nx:=2}
set_option maxHeartbeats 1000000 in
theorem z7h(x:S4):bG 259 [.ag x.v] (bch x.bytes):=by
 refine zar (T:=Tab) mixed Tab_ok Tryz.func259 rfl (by kernel_rfl) ?_
 refine⟨rfl,by decide,by decide,by decide,_,_,rfl,zs32,Vpub.own ?_⟩
 refine Vloop.mkx (sbI x) (λi=>i<=32) (λi=>32-i) 0 (by omega) (zac [(0,0),(1,1)] rfl ⟨rfl,rfl,cr,cr,trivial⟩ ⟨(bC bZ),⟨rfl,rfl,rfl,rfl,by rw[zbvb];exact zn _⟩,trivial⟩) ?_
 intro i hi
 refine zh (λh=>zq ?_) (λh=>zt ?_)
 ·simp only[zb]at h
  have hi':i<32:=by omega
  refine Vquo.i64 i 8 rfl rfl (by omega) (by omega) ?_
  refine Vadr.mk' (i/8) rfl (by omega) ?_
  (conv=>whnf)
  generalize hq:lget _ _=q
  obtain rfl:=hq.symm.trans (zcfb x (by omega:i/8<4))
  clear hq
  refine Vrem.nat i 8 rfl rfl (by omega) ?_
  refine zd (m:=((i%8*8:Nat):Int)) (by omega) (by omega) ?_
  refine Vshr.w _ (i%8*8) rfl rfl ?_
  refine Vint.u8 _ rfl ?_
  refine Vadr.mk' i rfl (by omega) ?_
  refine⟨by rw[List.length_map,zpn];show i*1+1<=32;omega,(scB x (i+1)).map U8,?_,?_⟩
  ·rw[zbub,Nat.mul_one]
   unfold scC
   exact zd9 (by rw[zpn];omega)
  refine zd (m:=((i+1:Nat):Int)) (by omega) (by omega) ?_
  exact⟨i+1,by omega,by omega,zac [(0,0),(1,1)] rfl ⟨rfl,rfl,cr,cr,trivial⟩ ⟨(bC bZ),⟨rfl,rfl,rfl,rfl,zn _⟩,trivial⟩⟩
 ·simp only[zb]at h
  obtain rfl:i=32:=by omega
  refine⟨_,zo _,?_⟩
  refine⟨_,zbr (id:=1) rfl,?_⟩
  exact congrArg (λn=>some (Ow.ch 5 1 n (x.bytes.map U8) true)) x.bytes_len.symm
end
structure FA where
 i:Nat
 d:Nat
 f:TF
 deps:List Nat
def zdt:List FA->Nat->Option FA
 |[],_=>none
 |x::r,i=>match Nat.beq x.i i with
  |true=>some x
  |false=>zdt r i
def faIn(A:List FA)(i:Nat):Bool:=match zdt A i with
 |some _=>true
 |none=>false
def depF(A:List FA):List Nat->List (Nat×TF)->List (Nat×TF)
 |[],Y=>Y
 |j::r,Y=>match zdt A j with
  |some x=>(x.d,x.f)::depF A r Y
  |none=>depF A r Y
def zls:List FA->List (Nat×TF)
 |[]=>[]
 |x::r=>(x.d,x.f)::zls r
def zrr(P:Program)(T:TT)(S:St)(o:Oper)(S2:St):Prop:=match o.op with
 | .buildSlice _ _ _=>zgo P T S o (λS'=>Sub S' S2)\/Yld P S o S2
 |_=>zgo P T S o (λS'=>Sub S' S2)
theorem z20{P:Program}{T:TT}(hT:TOk P T){S S2:St}{o:Oper}(h:zrr P T S o S2):Yld P S o S2:=by
 have sub:zgo P T S o (λS'=>Sub S' S2)->Yld P S o S2:=λh B N a w k Q hs hd=>by
  refine Oper.wp_mono ?_ (zid (Q:=Q) hT hs hd h)
  rintro a' w' ⟨S',k',hsub,hs'⟩
  exact hsub B N a' w' k' hs'
 unfold zrr at h
 split at h
 ·exact h.elim sub id
 ·exact sub h
def zkz(P:Program)(T:TT)(l:List Oper)(A:List FA)(R:List Nat)(F:List (Nat×TF))(O:List (Nat×Option Ow))(nx:Nat):List FA->Prop
 |[]=>True
 |x::r=>(match allB (λj=> !(memB j R)) x.deps with
  |true=>(match lget l x.i with
   |some o=>∀Y,zrr P T ⟨F++depF A x.deps Y,O,nx⟩ o ⟨(x.d,x.f)::(F++depF A x.deps Y),O,nx⟩
   |none=>False)
  |false=>True)/\zkz P T l A R F O nx r
def zk0(P:Program)(T:TT)(l:List Oper)(A:List FA)(E:List (Nat×TF)->List (Nat×Option Ow)->Nat->Prop):List (Nat×List Nat)->List (Nat×TF)->List (Nat×Option Ow)->Nat->Prop
 |[],F,O,nx=>allB (λx=> !(memB x.1 (A.map (·.d)))) F=true/\zkz P T l A [] F O nx A/\E F O nx
 |b::bs,F,O,nx=>allB (λx=> !(memB x.1 (A.map (·.d)))) F=true/\zkz P T l A (b.1::bs.map (·.1)) F O nx A/\∃F' O' nx',(match lget l b.1 with
  |some o=>∀Y,zgo P T ⟨F++depF A b.2 Y,O,nx⟩ o λS'=>Sub S' ⟨F'++depF A b.2 Y,O',nx'⟩
  |none=>False)/\zk0 P T l A E bs F' O' nx'
def zle:List Nat->Bool
 |[]=>true
 |x::r=>allB (λy=>Nat.blt x y) r&&zle r
def ztq(l:List Oper)(m:Nat)(A:List FA)(bl:List (Nat×List Nat)):Bool:=
 let bs:=bl.map (·.1)
 let ws:=zap [] l
 Nat.ble m l.length&&(zgi (A.map (·.d))&&(zgi (A.map (·.i))&&(zle bs&&(allB (λi=>Nat.blt i m&& !(faIn A i)) bs&&(allB (λx=>Nat.blt x.i m) A&&(allB (λb=>allB (λj=>memB j ((lget ws b.1).getD [])&&faIn A j) b.2) bl&&
 allB (λi=>match lget l i with
  |none=>false
  |some o=>allB (λe=>Nat.blt e i) (za1 o)&&
   (if Nat.blt i m then(match o.guard with |none=>true |some _=>false)&&(match zdt A i with
    |some x=>allB (λj=>memB j ((lget ws i).getD [])&&(faIn A j||memB j bs)) x.deps
    |none=>memB i bs&&allB (λj=>faIn A j||memB j ((lget ws i).getD [])) (List.range i))
   else allB (λj=>memB j ((lget ws i).getD [])) (List.range i))) (List.range l.length)))))))
theorem znd: ∀{A:List FA} {i:Nat} {x:FA},zdt A i=some x->x∈A/\x.i=i
 |[],i,x,h=>by simp[zdt]at h
 |y::r,i,x,h=>by
  simp only[zdt]at h
  split at h
  ·rename_i hb;cases h;exact⟨by simp,Nat.eq_of_beq_eq_true hb⟩
  ·have:=znd h;exact⟨List.mem_cons_of_mem _ this.1,this.2⟩
theorem zxe{A:List FA}{x:FA}(hn:(A.map (·.i)).Nodup)(hx:x∈A):zdt A x.i=some x:=by
 induction A with
 |nil=>cases hx
 |cons y r ih=>
  simp only[List.map_cons,List.nodup_cons]at hn
  rcases List.mem_cons.1 hx with rfl |hx
  ·simp[zdt]
  ·have:y.i≠x.i:=λe=>hn.1 (by rw[e];exact List.mem_map.2 ⟨x,hx,rfl⟩)
   simp only[zdt,zm7 this]
   exact ih hn.2 hx
theorem zru{P:Program}{T:TT}{l:List Oper}{A:List FA}{F:List (Nat×TF)}{O:List (Nat×Option Ow)}{nx:Nat}{R:List Nat}: ∀{r:List FA},zkz P T l A R F O nx r->∀x∈r,(∀j∈x.deps,j∉R)->∃o,l[x.i]?=some o/\∀Y,zrr P T ⟨F++depF A x.deps Y,O,nx⟩ o ⟨(x.d,x.f)::(F++depF A x.deps Y),O,nx⟩
 |[],_,x,hx,_=>by cases hx
 |y::r,h,x,hx,hR=>by
  simp only[zkz]at h
  rcases List.mem_cons.1 hx with rfl |hx
  ·have h1:=h.1
   have hl:allB (λj=> !(memB j R)) x.deps=true:=za5.2 λj hj=>by
    have:=hR j hj
    cases hb:memB j R with
    |false=>rfl
    |true=>exact absurd (zbg.1 hb) this
   rw[hl]at h1
   simp only at h1
   rw[zba]at h1
   split at h1
   ·rename_i o ho;exact⟨o,ho,h1⟩
   ·exact h1.elim
  ·exact zru h.2 x hx hR
def zgeb(A:List FA)(D:Nat->Prop)(t:Nat)(f:TF):Prop:=∃x∈A,D x.i/\x.d=t/\x.f=f
def FX(A:List FA)(D:Nat->Prop)(X:List (Nat×TF)):Prop:=∀t f,fget X t=some f↔zgeb A D t f
theorem zgnb{A:List FA}(hn:(A.map (·.d)).Nodup): ∀{x y:FA},x∈A->y∈A->x.d=y.d->x=y:=by
 induction A with
 |nil=>intro x y hx;cases hx
 |cons z r ih=>
  intro x y hx hy e
  simp only[List.map_cons,List.nodup_cons]at hn
  rcases List.mem_cons.1 hx with ex |hx2
  ·rcases List.mem_cons.1 hy with ey |hy2
   ·rw[ex,ey]
   ·exact absurd (List.mem_map.2 ⟨y,hy2,by rw[<-e,ex]⟩) hn.1
  ·rcases List.mem_cons.1 hy with ey |hy2
   ·exact absurd (List.mem_map.2 ⟨x,hx2,by rw[e,ey]⟩) hn.1
   ·exact ih hn.2 hx2 hy2 e
theorem z2y{A:List FA}(hn:(A.map (·.d)).Nodup): ∀t f,fget (zls A) t=some f↔∃x∈A,x.d=t/\x.f=f:=by
 induction A with
 |nil=>intro t f;simp[zls,fget]
 |cons y r ih=>
  intro t f
  simp only[List.map_cons,List.nodup_cons]at hn
  constructor
  ·intro h
   rcases zbd h with⟨e,e'⟩ |⟨_,h⟩
   ·exact⟨y,by simp,e,e'.symm⟩
   ·obtain⟨x,hx,h1,h2⟩:=(ih hn.2 t f).1 h
    exact⟨x,List.mem_cons_of_mem _ hx,h1,h2⟩
  ·rintro⟨x,hx,h1,h2⟩
   simp only[zls]
   rcases List.mem_cons.1 hx with rfl |hx
   ·rw[h1];simp[fget,h2]
   ·have:y.d≠t:=λe=>hn.1 (by rw[e,<-h1];exact List.mem_map.2 ⟨x,hx,rfl⟩)
    rw[zji this]
    exact(ih hn.2 t f).2 ⟨x,hx,h1,h2⟩
section
variable {P:Program} {T:TT} {B:Bs} {N:Nat} {S:St} {a:Act} {w:World} {k:Kp} {g:Env} {Q:Exit->Act->World->Prop} {l:List Oper} {m:Nat} {A:List FA} {bl:List (Nat×List Nat)} {bs:List Nat}
theorem zkk{F F':List (Nat×TF)}{O:List (Nat×Option Ow)}{nx:Nat}(h: ∀t f,fget F' t=some f->fget F t=some f)(hs:Sat B N ⟨F,O,nx⟩ a w k):Sat B N ⟨F',O,nx⟩ a w k:=by
 obtain⟨g,hs⟩:=hs
 exact⟨g,hs.size,hs.defers,hs.keep,hs.kk,λt f hf=>hs.facts t f (h t f hf),hs.owns,hs.apart⟩
theorem zfm{F F':List (Nat×TF)}{t:Nat}(h:fget F t=none):fget (F++F') t=fget F' t:=by
 induction F with
 |nil=>rfl
 |cons x r ih=>
  obtain⟨x1,x2⟩:=x
  rw[List.cons_append]
  simp only[fget]at h⊢
  split at h
  ·cases h
  ·exact ih h
theorem zfn{F F':List (Nat×TF)}{t:Nat}{f:TF}(h:fget F t=some f):fget (F++F') t=some f:=by
 induction F with
 |nil=>simp[fget]at h
 |cons x r ih=>
  obtain⟨x1,x2⟩:=x
  rw[List.cons_append]
  simp only[fget]at h⊢
  split at h
  ·exact h
  ·exact ih h
theorem z5y{F:List (Nat×TF)}{t:Nat}{f:TF}(h:fget F t=some f): ∃x∈F,x.1=t:=by
 induction F with
 |nil=>simp[fget]at h
 |cons x r ih=>
  obtain⟨x1,x2⟩:=x
  rcases zbd h with⟨e,_⟩ |⟨_,h⟩
  ·exact⟨(x1,x2),by simp,e⟩
  ·obtain⟨y,hy,e⟩:=ih h;exact⟨y,List.mem_cons_of_mem _ hy,e⟩
structure FlOk (l:List Oper) (m:Nat) (A:List FA) (bl:List (Nat×List Nat)) (bs:List Nat):Prop where
 le:m<=l.length
 dd:(A.map (·.d)).Nodup
 ii:(A.map (·.i)).Nodup
 rises:zle bs=true
 bsm: ∀i∈bs,i<m/\zdt A i=none
 am: ∀x∈A,x.i<m
 edge: ∀i o,l[i]?=some o->∀e∈za1 o,e<i
 grd: ∀i o,i<m->l[i]?=some o->o.guard=none
 fa: ∀i x,i<m->i<l.length->zdt A i=some x->∀j∈x.deps,j∈(lget (zap [] l) i).getD []
 fb: ∀i,i<m->i<l.length->zdt A i=none->i∈bs/\∀j,j<i->zdt A j=none->j∈(lget (zap [] l) i).getD []
 back: ∀i,m<=i->i<l.length->∀j,j<i->j∈(lget (zap [] l) i).getD []
 fd: ∀b∈bl,∀j∈b.2,j∈(lget (zap [] l) b.1).getD []/\∃y,zdt A j=some y
theorem zdfb(h:ztq l m A bl=true):FlOk l m A bl (bl.map (·.1)):=by
 simp only[ztq,Bool.and_eq_true,Nat.ble_eq]at h
 obtain⟨h1,h2,h3,h4,h5,h55,h56,h6⟩:=h
 have blt: ∀{x y:Nat},Nat.blt x y=true↔x<y:=λ{x y}=>by simp[Nat.blt];omega
 have at_: ∀i o,l[i]?=some o->allB (λe=>Nat.blt e i) (za1 o)=true/\
   (if Nat.blt i m then(match o.guard with |none=>true |some _=>false)&&(match zdt A i with
    |some x=>allB (λj=>memB j ((lget (zap [] l) i).getD [])&&(faIn A j||memB j (bl.map (·.1)))) x.deps
    |none=>memB i (bl.map (·.1))&&allB (λj=>faIn A j||memB j ((lget (zap [] l) i).getD [])) (List.range i))
   else allB (λj=>memB j ((lget (zap [] l) i).getD [])) (List.range i))=true:=λi o ho=>by
  have:=(za5.1 h6) i (List.mem_range.2 (List.getElem?_eq_some_iff.1 ho).1)
  rw[zba,ho]at this
  simpa only[Bool.and_eq_true]using this
 have inA: ∀j,faIn A j=true->∃y,zdt A j=some y:=λj hj=>by
  unfold faIn at hj
  split at hj
  ·rename_i y hy;exact⟨y,hy⟩
  ·cases hj
 refine⟨h1,zc0 h2,zc0 h3,h4,λi hi=>?_,λx hx=>blt.1 ((za5.1 h55) x hx),λi o ho e he=>?_,λi o hi ho=>?_,λi x hi hil hx j hj=>?_,λi hi hil hx=>?_,λi hi hil j hj=>?_,λb hb j hj=>?_⟩
 ·have:=(za5.1 h5) i hi
  simp only[Bool.and_eq_true,Bool.not_eq_true']at this
  refine⟨blt.1 this.1,?_⟩
  have h7:=this.2
  unfold faIn at h7
  split at h7
  ·cases h7
  ·assumption
 ·exact blt.1 ((za5.1 (at_ i o ho).1) e he)
 ·have:=(at_ i o ho).2
  rw[if_pos (blt.2 hi)]at this
  simp only[Bool.and_eq_true]at this
  have h7:=this.1
  split at h7
  ·assumption
  ·cases h7
 ·have:=(at_ i _ (List.getElem?_eq_getElem hil)).2
  rw[if_pos (blt.2 hi)]at this
  simp only[Bool.and_eq_true,hx]at this
  have h7:=(za5.1 this.2) j hj
  rw[Bool.and_eq_true]at h7
  exact zbg.1 h7.1
 ·have:=(at_ i _ (List.getElem?_eq_getElem hil)).2
  rw[if_pos (blt.2 hi)]at this
  simp only[Bool.and_eq_true,hx]at this
  refine⟨zbg.1 this.2.1,λj hj hjn=>?_⟩
  have h7:=(za5.1 this.2.2) j (List.mem_range.2 hj)
  simp only[Bool.or_eq_true]at h7
  rcases h7 with h7 |h7
  ·obtain⟨y,hy⟩:=inA j h7
   rw[hy]at hjn;cases hjn
  ·exact zbg.1 h7
 ·have:=(at_ i _ (List.getElem?_eq_getElem hil)).2
  rw[if_neg (λh=>by have:=blt.1 h;omega)]at this
  exact zbg.1 ((za5.1 this) j (List.mem_range.2 hj))
 ·have h7:=(za5.1 ((za5.1 h56) b hb)) j hj
  simp only[Bool.and_eq_true]at h7
  exact⟨zbg.1 h7.1,inA j h7.2⟩
theorem z3e(hL:FlOk l m A bl bs){D:Nat->Prop}(hc: ∀i o,D i->l[i]?=some o->∀e∈za1 o,D e): ∀i,D i->∀j∈(lget (zap [] l) i).getD [],D j:=by
 intro i
 induction i using Nat.strongRecOn with
 |_ i ih=>
  intro hi j hj
  rcases Nat.lt_or_ge i l.length with hil |hil
  ·have ho:=List.getElem?_eq_getElem hil
   have he:=zmx (r:=l) (acc:=[]) (j:=i) (λk p hp e he=>by simpa using hL.edge k p hp e he) ho
   simp only[List.length_nil,Nat.zero_add]at he
   rw[zba,he]at hj
   simp only[Option.getD_some]at hj
   rcases List.mem_append.1 hj with hj |hj
   ·exact hc i _ hi ho j hj
   ·obtain⟨e,he,hj⟩:=List.mem_flatMap.1 hj
    exact ih e (hL.edge i _ ho e he) (hc i _ hi ho e he) j (by rw[zba];exact hj)
  ·rw[z2n hil]at hj;cases hj
theorem z52(hL:FlOk l m A bl bs){D:Nat->Prop}(hc: ∀i o,D i->l[i]?=some o->∀e∈za1 o,D e){i:Nat}{o:Oper}(ho:l[i]?=some o)(he: ∀e∈za1 o,D e): ∀j∈(lget (zap [] l) i).getD [],D j:=by
 intro j hj
 have hw:=zmx (r:=l) (acc:=[]) (j:=i) (λk p hp e he=>by simpa using hL.edge k p hp e he) ho
 simp only[List.length_nil,Nat.zero_add]at hw
 rw[zba,hw]at hj
 simp only[Option.getD_some]at hj
 rcases List.mem_append.1 hj with hj |hj
 ·exact he j hj
 ·obtain⟨e,he',hj⟩:=List.mem_flatMap.1 hj
  exact z3e hL hc e (he e he') j (by rw[zba];exact hj)
def z2o(P:Program)(T:TT)(B:Bs)(N:Nat)(l:List Oper)(m:Nat)(A:List FA)(bl:List (Nat×List Nat))(bs:List Nat)(K:St->Prop)(D:Nat->Prop)(a:Act)(w:World):Prop:=
 (∃F O nx k X bs',(∀i∈bs,D i\/i∈bs'.map (·.1))/\(∀b∈bs',b∈bl/\b.1∈bs/\¬D b.1)/\zle (bs'.map (·.1))=true/\(∀j,m<=j->¬D j)/\FX A D X/\Sat B N ⟨F++X,O,nx⟩ a w k/\zk0 P T l A (λF O nx=>runv P T l (l.drop m) ⟨F++zls A,O,nx⟩ K) bs' F O nx)\/
 ∃t S k,m<=t/\t<=l.length/\(∀j,D j↔j<t)/\Sat B N S a w k/\runv P T l (l.drop t) S K
theorem zng{E:List (Nat×TF)->List (Nat×Option Ow)->Nat->Prop}{bs':List (Nat×List Nat)}{F:List (Nat×TF)}{O:List (Nat×Option Ow)}{nx:Nat}(h:zk0 P T l A E bs' F O nx):(∀x∈A,fget F x.d=none)/\zkz P T l A (bs'.map (·.1)) F O nx A:=by
 have key:allB (λx=> !(memB x.1 (A.map (·.d)))) F=true->∀x∈A,fget F x.d=none:=λh x hx=>by
  cases hf:fget F x.d with
  |none=>rfl
  |some f=>
   obtain⟨y,hy,e⟩:=z5y hf
   have:=(za5.1 h) y hy
   rw[e]at this
   rw[zbg.2 (List.mem_map.2 ⟨x,hx,rfl⟩)]at this
   cases this
 cases bs' with
 |nil=>exact⟨key h.1,h.2.1⟩
 |cons b r=>exact⟨key h.1,h.2.1⟩
theorem zrt(hL:FlOk l m A bl bs){K:St->Prop}{D:Nat->Prop}(h:z2o P T B N l m A bl bs K D a w):
  (∃F O nx k X bs',(∀i∈bs,D i\/i∈bs'.map (·.1))/\(∀b∈bs',b∈bl/\b.1∈bs/\¬D b.1)/\zle (bs'.map (·.1))=true/\(∀j,m<=j->¬D j)/\FX A D X/\Sat B N ⟨F++X,O,nx⟩ a w k/\zk0 P T l A (λF O nx=>runv P T l (l.drop m) ⟨F++zls A,O,nx⟩ K) bs' F O nx/\∃j0,j0<m/\¬D j0)\/
 ∃t S k,m<=t/\t<=l.length/\(∀j,D j↔j<t)/\Sat B N S a w k/\runv P T l (l.drop t) S K:=by
 rcases h with⟨F,O,nx,k,X,bs',h1,h2,h3,h4,h5,h6,h7⟩ |h
 ·by_cases hx: ∃j0,j0<m/\¬D j0
  ·exact .inl ⟨F,O,nx,k,X,bs',h1,h2,h3,h4,h5,h6,h7,hx⟩
  ·have hall: ∀j,j<m->D j:=λj hj=>Classical.byContradiction λhn=>hx ⟨j,hj,hn⟩
   cases bs' with
   |cons b r=>exact absurd (hall b.1 (hL.bsm b.1 (h2 b (by simp)).2.1).1) (h2 b (by simp)).2.2
   |nil=>
    refine .inr ⟨m,_,k,Nat.le_refl _,hL.le,λj=>⟨λhj=>?_,hall j⟩,?_,h7.2.2⟩
    ·exact Classical.byContradiction λhn=>h4 j (by omega) hj
    ·refine zkk (λt f hf=>?_) h6
     rcases zp4 hf with hf |hf
     ·exact zfn hf
     ·obtain⟨x,hx,e1,e2⟩:=(z2y hL.dd t f).1 hf
      have hnone:=(zng (bs':=[]) h7).1 x hx
      rw[e1]at hnone
      rw[zfm hnone]
      refine(h5 t f).2 ⟨x,hx,?_,e1,e2⟩
      exact hall _ (hL.am x hx)
 ·exact .inr h
theorem zgmb(hT:TOk P T)(hN: ∀o∈l,∀d,o.dst=some d->d<N)(hL:FlOk l m A bl bs)(hdst: ∀x∈A,∀o,l[x.i]?=some o->True){K:St->Prop}(hQ: ∀S' a' w' k',K S'->Sat B N S' a' w' k'->Q .normal a' w'):
  ∀(fuel:Nat) (listed:Array Bool) (a:Act) (w:World),listed.size=l.length->listed.toList.count false=fuel->
   (∀i o,listed.getD i false=true->l[i]?=some o->∀e∈za1 o,listed.getD e false=true)->z2o P T B N l m A bl bs K (λj=>listed.getD j false=true) a w->wpAny P .any l.toArray Q fuel listed a w:=by
 intro fuel
 induction fuel with
 |zero=>
  intro listed a w hsz hcnt hcl hnow
  have hall: ∀i,i<l.length->listed.getD i false=true:=λi hi=>by
   have hlt:i<listed.size:=by omega
   have hne:=List.count_eq_zero.1 hcnt
   have hmem:listed[i]∈listed.toList:=by simp
   cases hb:listed[i]with
   |true=>simp[hlt,hb]
   |false=>rw[hb]at hmem;exact absurd hmem hne
  have hempty:Region.ready .any l.toArray listed=[]:=by
   cases hr:Region.ready .any l.toArray listed with
   |nil=>rfl
   |cons x xs=>
    have hx:x∈Region.ready .any l.toArray listed:=by rw[hr];simp
    obtain⟨h1,o,ho,_⟩:=mem_ready.1 hx
    have hxl:x<l.length:=by
     have:=(Array.getElem?_eq_some_iff.1 ho).1
     simpa using this
    have:=hall x hxl
    have hlt:x<listed.size:=by omega
    simp[hlt]at h1 this
    rw[h1]at this;cases this
  refine⟨hempty,?_⟩
  rcases zrt hL hnow with⟨F,O,nx,k,X,bs',_,_,_,_,_,_,_,j0,h1,h2⟩ |⟨t,S,k,h1,h2,h3,h4,h5⟩
  ·exact absurd (hall j0 (by have:=hL.le;omega)) h2
  ·obtain rfl:t=l.length:=by
    rcases Nat.lt_or_ge t l.length with h |h
    ·have:=(h3 t).1 (hall t h);omega
    ·omega
   rw[List.drop_length]at h5
   exact hQ S a w k h5 h4
 |succ fuel ih=>
  intro listed a w hsz hcnt hcl hnow
  have unl: ∀i,i<l.length->(listed.getD i true=false↔¬listed.getD i false=true):=λi hi=>by
   have hlt:i<listed.size:=by omega
   simp[hlt]
  refine⟨λhempty=>?_,λi hi=>?_⟩
  ·exfalso
   have hmem:false∈listed.toList:=by
    rcases Classical.em (false∈listed.toList)with h |h
    ·exact h
    ·rw[List.count_eq_zero.2 h]at hcnt;cases hcnt
   obtain⟨i,hi⟩:=List.getElem?_of_mem hmem
   have hex: ∃i,i<l.length/\¬listed.getD i false=true:=by
    have hlt:=(List.getElem?_eq_some_iff.1 hi).1
    rw[Array.length_toList]at hlt
    refine⟨i,by omega,?_⟩
    have:listed[i]?=some false:=by simpa using hi
    simp[this]
   obtain⟨i,⟨hil,hin⟩,hleast⟩:=zmz hex
   have hrd:i∈Region.ready .any l.toArray listed:=by
    refine mem_ready.2 ⟨(unl i hil).2 hin,l[i],by simp[hil],λe he hb=>?_⟩
    have hee:e.on∈za1 l[i]:=List.mem_filterMap.2 ⟨e,by simpa using he,by simp[hb]⟩
    have hlt:=hL.edge i _ (List.getElem?_eq_getElem hil) _ hee
    exact Classical.byContradiction λhn=>by
     have:=hleast e.on ⟨by omega,hn⟩
     omega
   rw[hempty]at hrd
   cases hrd
  ·obtain⟨h1,o,ho,hedge⟩:=mem_ready.1 hi
   have hoi:l[i]?=some o:=by simpa using ho
   have hil:i<l.length:=(List.getElem?_eq_some_iff.1 hoi).1
   have hni: ¬listed.getD i false=true:=(unl i hil).1 h1
   have hed: ∀e∈za1 o,listed.getD e false=true:=λe he=>by
    obtain⟨x,hx,hxe⟩:=List.mem_filterMap.1 he
    split at hxe
    ·rename_i hb
     cases hxe
     exact hedge x (by simpa using hx) hb
    ·cases hxe
   have hws:=z52 (D:=λj=>listed.getD j false=true) hL hcl hoi hed
   have hget: ∀j,(listed.setIfInBounds i true).getD j false=true↔(listed.getD j false=true\/j=i):=λj=>by
    have hlt:i<listed.size:=by omega
    by_cases hji:j=i
    ·subst hji;simp[hlt]
    ·have:i≠j:=λe=>hji e.symm
     simp[Array.getElem?_setIfInBounds_ne this,hji]
   have hcl': ∀x p,(listed.setIfInBounds i true).getD x false=true->l[x]?=some p->∀e∈za1 p,(listed.setIfInBounds i true).getD e false=true:=λx p hx hp e he=>by
    rw[hget]
    rcases(hget x).1 hx with hx |rfl
    ·exact .inl (hcl x p hx hp e he)
    ·rw[hoi]at hp;cases hp
     exact .inl (hed e he)
   have hcnt':(listed.setIfInBounds i true).toList.count false=fuel:=by
    have hlt:i<listed.toList.length:=by rw[Array.length_toList];omega
    have hlt':i<listed.size:=by omega
    have hv:listed.toList[i]=false:=by
     have:listed[i]?=some listed[i]:=Array.getElem?_eq_getElem hlt'
     simp[hlt']at hni
     simpa using hni
    rw[Array.toList_setIfInBounds,List.count_set hlt,hcnt,hv]
    simp
   have next: ∀a' w',z2o P T B N l m A bl bs K (λj=>(listed.setIfInBounds i true).getD j false=true) a' w'->wpAny P .any l.toArray Q fuel (listed.setIfInBounds i true) a' w':=
    λa' w' h=>ih _ a' w' (by simpa using hsz) hcnt' hcl' h
   rcases zrt hL hnow with⟨F,O,nx,k,X,bs',p1,p2,p3,p4,p5,p6,p7,j0,hj0,hn0⟩ |⟨t,S,k,ht1,ht2,ht3,hsat,hrv⟩
   ·have him:i<m:=by
     rcases Nat.lt_or_ge i m with h |h
     ·exact h
     ·exact absurd (hws j0 (hL.back i h hil j0 (by omega))) hn0
    have hgrd:=hL.grd i o him hoi
    obtain⟨hclean,hfA⟩:=zng p7
    unfold wpOp
    simp only[ho]
    rw[if_pos (by simp[Region.wanted,hgrd])]
    have p4': ∀j,m<=j->¬(listed.setIfInBounds i true).getD j false=true:=λj hj h=>by
     rcases(hget j).1 h with h |h
     ·exact p4 j hj h
     ·omega
    have dep_eq: ∀(ds:List Nat),(∀j∈ds,listed.getD j false=true)->∀t f,fget (depF A ds X) t=some f↔fget X t=some f:=by
     intro ds
     induction ds with
     |nil=>intro _ t f;rfl
     |cons j r ihd=>
      intro hds t f
      have hDj:=hds j (by simp)
      have ihr:=ihd (λj' hj'=>hds j' (by simp[hj'])) t f
      cases hy:zdt A j with
      |none=>simp only[depF,hy];exact ihr
      |some y=>
      simp only[depF,hy]
      obtain⟨hyA,hyi⟩:=znd hy
      by_cases e:y.d=t
      ·have hX:fget X t=some y.f:=(p5 t y.f).2 ⟨y,hyA,by rw[hyi];exact hDj,e,rfl⟩
       rw[hX,e]
       simp[fget]
      ·rw[zji e]
       exact ihr
    have sat_dep: ∀(ds:List Nat),(∀j∈ds,listed.getD j false=true)->Sat B N ⟨F++depF A ds X,O,nx⟩ a w k:=λds hds=>by
     refine zkk (λt f hf=>?_) p6
     cases hF:fget F t with
     |some f0=>rw[zfn hF]at hf⊢;exact hf
     |none=>rw[zfm hF]at hf⊢;exact(dep_eq ds hds t f).1 hf
    cases hx:zdt A i with
    |some x=>
     obtain⟨hxA,hxi⟩:=znd hx
     have hdeps:=hL.fa i x him hil hx
     obtain⟨o',ho',hstep⟩:=zru hfA x hxA λj hj hjR=>by
      obtain⟨b,hb,rfl⟩:=List.mem_map.1 hjR
      exact(p2 b hb).2.2 (hws b.1 (hdeps b.1 hj))
     rw[hxi,hoi]at ho'
     cases ho'
     have hfx:=dep_eq x.deps λj hj=>hws j (hdeps j hj)
     have hsat2:=sat_dep x.deps λj hj=>hws j (hdeps j hj)
     refine .inl (Oper.wp_mono ?_ (z20 hT (hstep X) B N a w k Q hsat2 (hN o (List.mem_of_getElem? hoi))))
     rintro a' w' ⟨k2,hs2⟩
     obtain⟨X',hX'⟩: ∃X',X'=(x.d,x.f)::X:=⟨_,rfl⟩
     refine next a' w' (.inl ⟨F,O,nx,k2,X',bs',λj hj=>?_,λj hj=>⟨(p2 j hj).1,(p2 j hj).2.1,λh=>?_⟩,p3,p4',λt f=>?_,?_,p7⟩)
     ·rcases p1 j hj with h |h
      ·exact .inl ((hget j).2 (.inl h))
      ·exact .inr h
     ·rcases(hget j.1).1 h with h |h
      ·exact(p2 j hj).2.2 h
      ·have:=(hL.bsm j.1 (p2 j hj).2.1).2
       rw[h,hx]at this;cases this
     ·subst hX'
      constructor
      ·intro h
       rcases zbd h with⟨e,e'⟩ |⟨_,h⟩
       ·exact⟨x,hxA,(hget _).2 (.inr hxi),e,e'.symm⟩
       ·obtain⟨y,hy,hDy,e1,e2⟩:=(p5 t f).1 h
        exact⟨y,hy,(hget _).2 (.inl hDy),e1,e2⟩
      ·rintro⟨y,hy,hDy,e1,e2⟩
       by_cases e:x.d=t
       ·have:x=y:=zgnb hL.dd hxA hy (e.trans e1.symm)
        subst this
        rw[e,e2];simp[fget]
       ·rw[zji e]
        refine(p5 t f).2 ⟨y,hy,?_,e1,e2⟩
        rcases(hget _).1 hDy with h |h
        ·exact h
        ·have h3:=zxe hL.ii hy
         rw[h,hx]at h3
         cases h3
         exact absurd e1 e
     ·refine zkk (λt f hf=>?_) hs2
      subst hX'
      cases hF:fget F t with
      |some f0=>
       rw[zfn hF]at hf
       have hne:x.d≠t:=λe=>by rw[<-e,hclean x hxA]at hF;cases hF
       rw[zji hne,zfn hF]
       exact hf
      |none=>
       rw[zfm hF]at hf
       by_cases e:x.d=t
       ·subst e;simpa[fget]using hf
       ·rw[zji e]at hf⊢
        rw[zfm hF]
        exact(hfx t f).2 hf
    |none=>
     obtain⟨hib,hbk⟩:=hL.fb i him hil hx
     cases bs' with
     |nil=>
      rcases p1 i hib with h |h
      ·exact absurd h hni
      ·cases h
     |cons b r=>
      simp only[List.map_cons,zle,Bool.and_eq_true]at p3
      have hbi:b.1=i:=by
       rcases p1 i hib with h |h
       ·exact absurd h hni
       ·rw[List.map_cons]at h
        rcases List.mem_cons.1 h with e |h
        ·exact e.symm
        ·have hlt:b.1<i:=by
          have:=(za5.1 p3.1) i h
          simp[Nat.blt]at this
          omega
         have:=hbk b.1 hlt (hL.bsm b.1 (p2 b (by simp)).2.1).2
         exact absurd (hws b.1 this) (p2 b (by simp)).2.2
      obtain⟨b0,ds⟩:=b
      simp only at hbi
      subst hbi
      simp only[zk0]at p7
      obtain⟨_,_,F',O',nx',hst,p7⟩:=p7
      rw[zba,hoi]at hst
      simp only at hst
      have hdd: ∀j∈ds,listed.getD j false=true:=λj hj=>by
       have:=hL.fd (b0,ds) (p2 (b0,ds) (by simp)).1 j hj
       exact hws j this.1
      refine .inl (Oper.wp_mono ?_ (zid (Q:=Q) hT (sat_dep ds hdd) (hN o (List.mem_of_getElem? hoi)) (hst X)))
      rintro a' w' ⟨S',k',hsub,hs'⟩
      obtain⟨k2,hs2⟩:=hsub B N a' w' k' hs'
      have hs2:Sat B N ⟨F'++X,O',nx'⟩ a' w' k2:=by
       refine zkk (λt f hf=>?_) hs2
       cases hF:fget F' t with
       |some f0=>rw[zfn hF]at hf⊢;exact hf
       |none=>rw[zfm hF]at hf⊢;exact(dep_eq ds hdd t f).2 hf
      refine next a' w' (.inl ⟨F',O',nx',k2,X,r,λj hj=>?_,λj hj=>⟨(p2 j (by simp[hj])).1,(p2 j (by simp[hj])).2.1,λh=>?_⟩,p3.2,p4',λt f=>?_,hs2,p7⟩)
      ·rcases p1 j hj with h |h
       ·exact .inl ((hget j).2 (.inl h))
       ·rw[List.map_cons]at h
        rcases List.mem_cons.1 h with e |h
        ·exact .inl ((hget j).2 (.inr e))
        ·exact .inr h
      ·rcases(hget j.1).1 h with h |h
       ·exact(p2 j (by simp[hj])).2.2 h
       ·have h9:Nat.blt b0 j.1=true:=(za5.1 p3.1) j.1 (List.mem_map.2 ⟨j,hj,rfl⟩)
        simp[Nat.blt]at h9
        omega
      ·refine(p5 t f).trans ⟨λ⟨y,hy,hDy,e1,e2⟩=>⟨y,hy,(hget _).2 (.inl hDy),e1,e2⟩,λ⟨y,hy,hDy,e1,e2⟩=>⟨y,hy,?_,e1,e2⟩⟩
       rcases(hget _).1 hDy with h |h
       ·exact h
       ·have h3:=zxe hL.ii hy
        rw[h,hx]at h3;cases h3
   ·have hit:i=t:=by
     have h1: ¬i<t:=λhh=>hni ((ht3 i).2 hh)
     rcases Nat.lt_or_ge t i with hlt |hge
     ·have h2:=(ht3 t).1 (hws t (hL.back i (by omega) hil t hlt))
      omega
     ·omega
    subst hit
    have hdrop:l.drop i=o::l.drop (i+1):=by
     rw[List.drop_eq_getElem_cons hil]
     congr 1
     have:=List.getElem?_eq_getElem hil
     rw[hoi]at this
     exact(Option.some.inj this).symm
    rw[hdrop]at hrv
    have hhd:=zoj (Q:=Q) hT (hN o (List.mem_of_getElem? hoi)) hsat hrv
    have nx2: ∀a' w',(∃S' k',runv P T l (l.drop (i+1)) S' K/\Sat B N S' a' w' k')->wpAny P .any l.toArray Q fuel (listed.setIfInBounds i true) a' w':=λa' w' ⟨S',k',hr',hs'⟩=>
     next a' w' (.inr ⟨i+1,S',k',by omega,by omega,λj=>(hget j).trans ((or_congr (ht3 j) Iff.rfl).trans (by omega)),hs',hr'⟩)
    unfold wpOp
    simp only[ho]
    split at hhd
    ·rename_i hw
     rw[if_pos hw]
     exact .inl (Oper.wp_mono nx2 hhd)
    ·rename_i hw
     rw[if_neg hw]
     exact nx2 _ _ hhd
theorem Vcode.float(hm:P.follows .mixedOrders=true)(hT:TOk P T){id:Nat}{ops:Array Oper}{Q:Exit->St->Prop}(m:Nat)(A:List FA)(bl:List (Nat×List Nat))(hok:ztq ops.toList m A bl=true){F:List (Nat×TF)}{O:List (Nat×Option Ow)}{nx:Nat}(h0:Sub S ⟨F,O,nx⟩)
  (h:zk0 P T ops.toList A (λF O nx=>runv P T ops.toList (ops.toList.drop m) ⟨F++zls A,O,nx⟩ (Q .normal)) bl F O nx):Vcode P (.region id ops true) S Q:=by
 refine⟨λB N a w k Q' hs hd hQ=>?_⟩
 have hN: ∀o∈ops.toList,∀d,o.dst=some d->d<N:=λo ho d hod=>by
  simp only[zbe,List.all_eq_true]at hd
  have h1:=hd o ho
  simp only[hod]at h1
  exact Nat.le_of_ble_eq_true h1
 have hL:=zdfb hok
 obtain⟨k1,g,hs1⟩:=h0 B N a w k hs
 have hs2:SatE B N ⟨F,O,nx⟩ a {w with drawn:=w.drawn+1} k1 g:=hs1.ext (w':={w with drawn:=w.drawn+1}) ⟨rfl,rfl,rfl,Nat.le_refl _,λ_ _=>rfl⟩ λ_ _=>rfl
 refine wp_region_any hm ?_
 have:=zgmb (Q:=Q') (B:=B) (N:=N) (K:=Q .normal) hT hN hL (λ_ _ _ _=>trivial) (λS' a' w' k' hq hs'=>hQ _ S' a' w' k' hq hs') ops.size (Array.replicate ops.size false) a {w with drawn:=w.drawn+1} (by simp) (by simp) (λi o hi=>by
  exfalso
  rw[Array.getD_eq_getD_getElem?]at hi
  by_cases hlt:i<ops.size
  ·simp[hlt]at hi
  ·simp[hlt]at hi) (.inl ⟨F,O,nx,k1,[],bl,λi hi=> .inr hi,λi hi=>⟨hi,List.mem_map.2 ⟨i,hi,rfl⟩,λhh=>absurd hh (by by_cases hlt:i.1<ops.size<;>simp[hlt])⟩,hL.rises,λj _ hh=>absurd hh (by by_cases hlt:j<ops.size<;>simp[hlt]),λt f=>?_,?_,h⟩)
 ·simpa using this
 ·constructor
  ·intro h;simp[fget]at h
  ·rintro⟨x,hx,hD,_⟩
   exact absurd hD (by by_cases hlt:x.i<ops.size<;>simp[hlt])
 ·rw[List.append_nil]
  exact⟨g,hs2⟩
end
theorem Yld.read{P:Program}{T:TT}(hT:TOk P T){S:St}{o:Oper}{d:Nat}{e:TypeId}{sz n:Nat}{cells:List RV}(h:zgo P T S o λS'=>S'=⟨(d, .own S.nx)::S.F,(S.nx,some (.ch e sz n cells true))::S.O,S.nx+1⟩):
  Yld P S o ⟨(d, .r (.sl sz n cells))::S.F,S.O,S.nx⟩:=λB N a w k Q hs hd=>by
 obtain⟨g0,h0⟩:=id hs
 refine Oper.wp_mono ?_ (zid (Q:=Q) hT hs hd h)
 rintro a' w' ⟨S',k',rfl,g,h1⟩
 have ne: ∀id ow,oget S.O id=some ow->id≠S.nx:=λid ow ho e=>by
  have:=(h0.owns id ow ho).1
  omega
 have og: ∀id ow,oget S.O id=some ow->oget ((S.nx,some (.ch e sz n cells true))::S.O) id=some ow:=λid ow ho=>by
  simp only[oget,zm7 (λe=>ne id ow ho e.symm)]
  exact ho
 refine⟨k',g,h1.size,h1.defers,h1.keep,h1.kk,λt f hf=>?_,λid ow ho=>?_,λi j ow ow' b hi hj=>h1.apart i j ow ow' b (og i ow hi) (og j ow' hj)⟩
 ·simp only[fget]at hf
  split at hf
  ·rename_i hb
   cases hf
   have:=Nat.eq_of_beq_eq_true hb
   subst this
   have hv:=(h1.facts d (.own S.nx) (by simp[fget])).2
   exact⟨trivial,zgm (f:= .own S.nx) h1 (by simp[St.rv,oget]) hv⟩
  ·rename_i hb
   have h2:=(h1.facts t f (by simp only[fget,hb];exact hf)).2
   exact⟨(h0.facts t f hf).1,h2⟩
 ·have h2:=h1.owns id ow (og id ow ho)
  have h3:=h0.owns id ow ho
  exact⟨h3.1,h3.2.1,h2.2.2.1,h2.2.2.2⟩
def repC(c:UInt8)(bp:Nat):List RV:=List.replicate bp (U8 c)++List.replicate (32-bp) .any
theorem zzd(c:UInt8){bp:Nat}(h:bp<=32):(repC c bp).length=32:=by simp[repC];omega
theorem z8r(c:UInt8):(([c].map U8).take (Nat.min [c].length 32*1))++(List.replicate 32 RV.any).drop (Nat.min [c].length 32*1)=repC c 1:=rfl
theorem z8q(c:UInt8){bp:Nat}(h:2*bp<=32)(h0:0<bp):(repC c bp).take (bp*1)++(((repC c bp).drop (0*1)).take (bp*1)).take (Nat.min bp (32-bp)*1)++(repC c bp).drop (bp*1+Nat.min bp (32-bp)*1)=repC c (2*bp):=by
 have e:Nat.min bp (32-bp)=bp:=Nat.min_eq_left (by omega)
 rw[e]
 simp only[repC,Nat.mul_one,Nat.zero_mul,List.drop_zero]
 have h1:(List.replicate bp (U8 c)).length=bp:=List.length_replicate
 have t1:(List.replicate bp (U8 c)++List.replicate (32-bp) RV.any).take bp=List.replicate bp (U8 c):=by rw[List.take_append_of_le_length (by rw[h1];exact Nat.le_refl _),List.take_of_length_le (by rw[h1];exact Nat.le_refl _)]
 rw[t1,List.take_of_length_le (by rw[h1];exact Nat.le_refl _),List.replicate_append_replicate,List.drop_append,h1,List.drop_eq_nil_of_le (by rw[h1];omega),List.nil_append,List.drop_replicate]
 congr 2<;>omega
theorem ze9b{S:St}{j off m s0:Nat}{e:TypeId}{sz n:Nat}{ys:List RV}{pub:Bool}(ho:oget S.O j=some (.ch e sz n ys pub))(h:off+m*sz<=ys.length):rhsv S s0 (.cut j off m)=some (sz,m,(ys.drop off).take (m*sz)):=by
 have hb:Nat.ble (off+m*sz) ys.length=true:=Nat.ble_eq_true_of_le h
 unfold rhsv
 simp only[ho,hb]
def repI(c:UInt8)(bp:Nat):St:={F:=[(7, .r (I 32)),(8, .r (I 32)),(9, .own 0),(10, .r (I bp))],O:=[(0,some (.ch 5 1 32 (repC c bp) false))],nx:=1}
set_option maxHeartbeats 1000000 in
theorem zaqb(c:UInt8):bG 328 [bs [c],I 32] (.own 5 1 32 (List.replicate 32 (U8 c))):=by
 refine bT Tryz.func328 rfl ?_
 refine zw rfl (zt ?_)
 refine zw rfl (zt ?_)
 refine Vint.n 1 rfl ?_
 refine Vint.n 32 rfl ?_
 refine ze (zgyb 1 32) ?_
 refine zw rfl ?_
 refine zw rfl (zt ?_)
 refine Vint.n 32 rfl ?_
 refine zw rfl (zt ?_)
 refine zw rfl (zt ?_)
 refine Vcall.ext (zi3b 32 (by decide)) ?_
 refine Vstep.clip Tab_ok rfl rfl rfl rfl rfl rfl rfl rfl rfl (by decide) ?_
 refine Vstep.copy Tab_ok rfl rfl rfl rfl rfl rfl rfl rfl (z8r c) ?_
 refine Vloop.mk' (repI c) (λbp=>bp∈[1,2,4,8,16,32]) (λbp=>32-bp) 1 (by decide) (zac [(0,1)] rfl ⟨cr,cr,rfl,cr,trivial⟩ ⟨⟨rfl,rfl,rfl,rfl,zn _⟩,trivial⟩) ?_
 intro bp hbp
 refine zh (λh=>zq ?_) (λh=>zt ?_)
 ·simp only[zb]at h
  have h2:2*bp<=32:=by simp at hbp;omega
  have h0:0<bp:=by simp at hbp;omega
  refine Vstep.min rfl rfl rfl ?_
  refine Vdraw.code (Vcode.float mixed Tab_ok 8 [⟨0,67, .r (I bp),[]⟩,⟨1,68, .own 0,[]⟩,⟨2,69, .r (I bp),[]⟩,⟨3,70, .cut 0 (bp*1) (32-bp),[1,2]⟩,⟨4,71, .own 0,[]⟩,⟨5,72, .r (I bp),[]⟩,⟨6,73, .cut 0 (0*1) bp,[4,5]⟩] [(7,[3,6])] (by kernel_rfl)
   (F:=[(7, .r (I 32)),(8, .r (I 32)),(9, .own 0),(10, .r (I bp)),(11, .r (I bp))]) (O:=[(0,some (.ch 5 1 32 (repC c bp) false))]) (nx:=1) (zac [(0,0)] rfl ⟨cr,cr,rfl,cr,zf (by rw[if_neg (by omega)]),trivial⟩ ⟨⟨rfl,rfl,rfl,rfl,zn _⟩,trivial⟩) ?_)
  refine⟨rfl,⟨λY=>zo _,λY=>zo _,λY=>zo _,λY=>Vstep.val Tab_ok (Vcutn.mk' bp (32-bp) rfl (by omega) (by omega) (by omega) (zo _)),λY=>zo _,λY=>zo _,λY=>Vstep.val Tab_ok (Vcutn.mk' 0 bp rfl (by omega) (by omega) (by omega) (zo _)),trivial⟩,
   [(74, .r (I ((Nat.min bp (32-bp):Nat):Int))),(7, .r (I 32)),(8, .r (I 32)),(9, .own 0),(10, .r (I bp)),(11, .r (I bp))],(0,some (.ch 5 1 32 (repC c (2*bp)) false))::[(0,some (.ch 5 1 32 (repC c bp) false))],1,λY=>?_,?_⟩
  ·exact Vstep.copyCut Tab_ok rfl rfl rfl rfl rfl rfl (by rw[zzd c (by omega)];show bp*1+(32-bp)*1<=32;omega) rfl (ze9b rfl (by rw[zzd c (by omega)];show 0*1+bp*1<=32;omega)) (z8q c h2 h0) (zo _)
  refine⟨rfl,⟨λY=>zo _,λY=>zo _,λY=>zo _,λY=>Vstep.val Tab_ok (Vcutn.mk' bp (32-bp) rfl (by omega) (by omega) (by omega) (zo _)),λY=>zo _,λY=>zo _,λY=>Vstep.val Tab_ok (Vcutn.mk' 0 bp rfl (by omega) (by omega) (by omega) (zo _)),trivial⟩,?_⟩
  refine zd (m:=((2*bp:Nat):Int)) (by rw[show Nat.min bp (32-bp)=bp from Nat.min_eq_left (by omega)];omega) (by rw[show Nat.min bp (32-bp)=bp from Nat.min_eq_left (by omega)];omega) ?_
  exact⟨2*bp,by simp at hbp⊢;omega,by omega,zac [(0,0)] rfl ⟨cr,cr,rfl,cr,trivial⟩ ⟨⟨rfl,rfl,rfl,rfl,zn _⟩,trivial⟩⟩
 ·simp only[zb]at h
  obtain rfl:bp=32:=by simp at hbp;omega
  exact rfl
end Go.Proofs.YtoegdgbghdnnfaaGreat.Sx
