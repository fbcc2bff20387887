import Derived.Test.YtddokcpcpoihmaaGreatZWire
import Derived.Test.YtddokcpcpoihmaaGreatZEa
namespace Go.Proofs.YtddokcpcpoihmaaGreat.Sx
open Go.RowKit
section
def zdp(x:Fe):List UInt64:=[x.a,x.b,x.c,x.d,x.e]
def bitB(o:List UInt8)(v:UInt64)(at_ k:Nat):List UInt8:=o.set ((at_+k)/8) (o.getD ((at_+k)/8) 0|||shl8 (UInt8.ofNat (shrW v k&&&1).toNat) ((at_+k)%8))
def rowB(o:List UInt8)(v:UInt64)(at_:Nat):Nat->List UInt8
 |0=>o
 |k+1=>bitB (rowB o v at_ k) v at_ k
def allF(x:Fe):Nat->List UInt8
 |0=>List.replicate 32 0
 |i+1=>rowB (allF x i) ((zdp x).getD i 0) (i*51) 51
theorem zh6(o:List UInt8)(v:UInt64)(at_:Nat): ∀k,(rowB o v at_ k).length=o.length
 |0=>rfl
 |k+1=>by rw[rowB,bitB,List.length_set,zh6 o v at_ k]
theorem zhk(x:Fe): ∀i,(allF x i).length=32
 |0=>by simp[allF]
 |i+1=>by rw[allF,zh6,zhk x i]
theorem znt(x:Fe)(i:Nat):allF x (i+1)=rowB (allF x i) ((zdp x).getD i 0) (i*51) 51:=rfl
theorem zoj(o:List UInt8)(v:UInt64)(at_:Nat):rowB o v at_ 0=o:=rfl
theorem znu(x:Fe):allF x 0=List.replicate 32 0:=rfl
attribute [irreducible] rowB allF zdp
def Fe.bytes(x:Fe):List UInt8:=allF x.least 5
theorem Fe.bytes_len(x:Fe):x.bytes.length=32:=zhk _ _
theorem Vquo.i64{a b:Int}{K:Int->Prop}(x y:Nat)(ha:a=(x:Int))(hb:b=(y:Int))(hy:0<y)(hx:x<9223372036854775808)(hK:K ((x/y:Nat):Int)):Vquo .i64 a b K:=by
 subst ha;subst hb
 refine⟨by omega,_,?_,hK⟩
 have h:=Nat.div_le_self x y
 rw[Int.tdiv_eq_ediv_of_nonneg (by omega),<-Int.natCast_ediv]
 generalize x/y=z at*
 exact wrap_i64 (by omega)
theorem zs32:(List.replicate ((32:Int).toNat) ([Value.int .u8 0].map ofC)).flatten=(List.replicate 32 (0:UInt8)).map U8:=by simp[ofC]
theorem zcw{l:List UInt8}{j:Nat}(h:j<l.length):(l.map U8)[j]?=some (U8 (l.getD j 0)):=by
 rw[List.getElem?_map,List.getElem?_eq_getElem h,List.getD_eq_getElem?_getD,List.getElem?_eq_getElem h]
 rfl
theorem zs4(x:Fe){i:Nat}(hi:i<5):(x.v.drop (i*1)).take 1=[W ((zdp x).getD i 0)]:=by
 have:i=0\/i=1\/i=2\/i=3\/i=4:=by omega
 unfold zdp
 rcases this with rfl |rfl |rfl |rfl |rfl<;>rfl
def outI(x:Fe)(i:Nat):St:={F:=[(3, .own 0),(12, .r (.ag x.v)),(13, .r (I i))],O:=[(0,some (.ch 5 1 32 ((allF x i).map U8) false))],nx:=1}
def inI(x:Fe)(i k:Nat):St:={F:=[(3, .own 0),(12, .r (.ag x.v)),(13, .r (I i)),(5, .r (W ((zdp x).getD i 0))),(6, .r (I ((i*51:Nat):Int))),(19, .r (I k))],O:=[(0,some (.ch 5 1 32 ((rowB (allF x i) ((zdp x).getD i 0) (i*51) k).map U8) false))],nx:=1}
set_option maxHeartbeats 1000000 in
theorem zjk(x:Fe):zab Tryz.prog 104 [.ag x.v] (bch x.bytes):=by
 refine zba (T:=Tab) mixed Tab_ok Tryz.func104 rfl (by kernel_rfl) ?_
 refine za rfl rfl ?_
 refine zd (zg5 x) ?_
 refine⟨rfl,by decide,by decide,by decide,_,_,rfl,zs32,Vpub.own ?_⟩
 refine za rfl rfl ?_
 refine Vloop.mkx (outI x.least) (λi=>i<=5) (λi=>5-i) 0 (by omega) (zac [(0,1)] rfl ⟨rfl,cr,cr,trivial⟩ ⟨⟨rfl,rfl,rfl,rfl,by rw[znu];exact zm _⟩,trivial⟩) ?_
 intro i hi
 refine zg (λh=>zo ?_) (λh=>zp ?_)
 ·simp only[zb]at h
  have hi':i<5:=by omega
  refine zk (by omega) (by simp;omega) (zs4 x.least hi') ?_
  refine zc (m:=((i*51:Nat):Int)) (by omega) (by omega) ?_
  refine Vloop.mkx (inI x.least i) (λk=>k<=51) (λk=>51-k) 0 (by omega) (zac [(0,0)] rfl ⟨rfl,cr,cr,cr,cr,cr,trivial⟩ ⟨⟨rfl,rfl,rfl,rfl,by rw[zoj];exact zm _⟩,trivial⟩) ?_
  intro k hk
  refine zg (λh=>zo ?_) (λh=>zp ?_)
  ·simp only[zb]at h
   have hk':k<51:=by omega
   have hL:(rowB (allF x.least i) ((zdp x.least).getD i 0) (i*51) k).length=32:=by rw[zh6,zhk]
   refine Vdraw.mk' (by kernel_rfl) ?_
   refine zc (m:=((i*51+k:Nat):Int)) (by omega) (by omega) ?_
   refine Vquo.i64 (i*51+k) 8 rfl rfl (by omega) (by omega) ?_
   refine Vadr.mk' ((i*51+k)/8) rfl (by omega) ?_
   refine zf (f:=U8 ((rowB (allF x.least i) ((zdp x.least).getD i 0) (i*51) k).getD ((i*51+k)/8) 0)) (by rw[Nat.mul_one];exact zcw (by rw[hL];omega)) ?_
   refine Vshr.w _ k rfl rfl ?_
   refine Vbits.wand _ 1 rfl rfl ?_
   refine Vint.u8 _ rfl ?_
   refine zc (m:=((i*51+k:Nat):Int)) (by omega) (by omega) ?_
   refine Vrem.nat (i*51+k) 8 rfl rfl (by omega) ?_
   refine Vshl.b _ ((i*51+k)%8) rfl rfl (by omega) ?_
   refine Vbits.or8 _ _ rfl rfl ?_
   refine Vadr.mk' ((i*51+k)/8) rfl (by omega) ?_
   refine⟨by rw[List.length_map,hL];show(i*51+k)/8*1+1<=32;omega,(rowB (allF x.least i) ((zdp x.least).getD i 0) (i*51) (k+1)).map U8,?_,?_⟩
   ·rw[rowB,bitB,Nat.mul_one]
    exact zbj (by rw[hL];omega)
   refine zc (m:=((k+1:Nat):Int)) (by omega) (by omega) ?_
   exact⟨k+1,by omega,by omega,zac [(0,0)] rfl ⟨rfl,cr,cr,cr,cr,cr,trivial⟩ ⟨⟨rfl,rfl,rfl,rfl,zm _⟩,trivial⟩⟩
  ·simp only[zb]at h
   obtain rfl:k=51:=by omega
   refine⟨_,zn _,?_⟩
   refine zc (m:=((i+1:Nat):Int)) (by omega) (by omega) ?_
   exact⟨i+1,by omega,by omega,zac [(0,0)] rfl ⟨rfl,cr,cr,trivial⟩ ⟨⟨rfl,rfl,rfl,rfl,by rw[znt];exact zm _⟩,trivial⟩⟩
 ·simp only[zb]at h
  obtain rfl:i=5:=by omega
  refine⟨_,zn _,?_⟩
  refine⟨_,zbe (id:=0) rfl,?_⟩
  exact congrArg (λn=>some (Ow.ch 5 1 n (x.bytes.map U8) true)) x.bytes_len.symm
end
section
def zb3(w:World)(k:Kp)(g:Env):List TF->List Value->Prop
 |[],us=>us=[]
 |f::fs,us=>∃u r,us=u::r/\f.at_ w k g u/\zb3 w k g fs r
def lift(O:List (Nat×Ow)):List (Nat×Option Ow):=O.map λx=>(x.1,some x.2)
structure Own (w:World) (k:Kp) (g:Env) (n:Nat) (O:List (Nat×Option Ow)):Prop where
 owns: ∀id o,oget O id=some o->id<n/\o.lt n/\o.at_ w k g (g id)/\∀b,(g id).2=some b->b<w.heap.size
 apart: ∀i j o o' b,oget O i=some o->oget O j=some o'->i≠j->(g i).2=some b->(g j).2≠some b
def blks(g:Env)(O:List (Nat×Ow)):List Nat:=O.filterMap λx=>(g x.1).2
def Acts(P:Program)(f:FuncId)(n0:Nat)(O0:List (Nat×Ow))(args:List TF)(names:List (Nat×Value))(n1:Nat)(O1:List (Nat×Ow))(res:TF):Prop:=
 zlf P f/\∀w k g us,Own w k g n0 (lift O0)->(∀x∈names,(g x.1).1=x.2)->zb3 w k g args us->
  Calls P f us.toArray w λe w'=>∃v,e= .returned v/\Keep (blks g O0) w w'/\∃(k':Kp) (g':Env),(∀b,b<w.heap.size->b∉blks g O0->k' b=k b)/\
   Own w' k' g' n1 (lift O1)/\(∀id o b,oget (lift O1) id=some o->(g' id).2=some b->w.heap.size<=b\/b∈blks g O0)/\(∀x∈names,g' x.1=g x.1)/\res.lt n1/\res.at_ w' k' g' v
def blk:Value->Option Nat
 | .pointer (some a)=>some a.block
 | .map (some b)=>some b
 |_=>none
def Nmd(o:Ow):Prop:=∀w k g vb,o.at_ w k g vb->vb.2=blk vb.1
theorem zc4{cells:List TF}:Nmd (.box cells):=λw k g vb h=>by
 simp only[Ow.at_]at h
 obtain⟨b,cur,t,rfl,_⟩:=h
 rfl
def Zero(o:Ow):Prop:=∀w k g vb b,o.at_ w k g vb->vb.2=some b->k b=0
theorem zrv{cells:List TF}:Zero (.box cells):=λw k g vb b h hb=>by
 simp only[Ow.at_]at h
 obtain⟨b',cur,t,rfl,_,hk,_⟩:=h
 cases hb
 exact hk
theorem ztm{e:TypeId}{sz n:Nat}{cells:List RV}:Zero (.ch e sz n cells false):=λw k g vb b h hb=>by
 simp only[Ow.at_]at h
 have:=(h.blk hb).1
 simpa using this
def zpi:List (Nat×Ow)->Prop
 |[]=>True
 |x::r=>Zero x.2/\zpi r
theorem zor: ∀{O:List (Nat×Ow)},zpi O->∀x∈O,Zero x.2
 |[],_,x,h=>by cases h
 |y::r,h,x,hx=>by
  rcases List.mem_cons.1 hx with rfl |hx
  ·exact h.1
  ·exact zor h.2 x hx
theorem zd3: ∀{O:List (Nat×Ow)} {i:Nat} {o:Ow},oget (lift O) i=some o->(i,o)∈O
 |[],i,o,h=>by simp[lift,oget]at h
 |x::r,i,o,h=>by
  rcases zak (show oget ((x.1,some x.2)::lift r) i=some o from h)with⟨e,e'⟩ |⟨_,h⟩
  ·cases e';subst e;simp
  ·exact List.mem_cons_of_mem _ (zd3 h)
theorem zic: ∀{O:List (Nat×Ow)} {x:Nat×Ow},x∈O->∃o,oget (lift O) x.1=some o
 |[],x,h=>by cases h
 |y::r,x,h=>by
  show∃o,oget ((y.1,some y.2)::lift r) x.1=some o
  rcases List.mem_cons.1 h with rfl |h
  ·exact⟨x.2,by simp[oget]⟩
  ·obtain⟨o,ho⟩:=zic h
   by_cases e:y.1=x.1
   ·exact⟨y.2,by simp[oget,e]⟩
   ·refine⟨o,?_⟩
    rw[oget,zlk e]
    exact ho
theorem zch: ∀{O:List (Nat×Ow)} {x:Nat×Ow},(O.map (·.1)).Nodup->x∈O->oget (lift O) x.1=some x.2
 |[],x,_,h=>by cases h
 |y::r,x,hn,h=>by
  show oget ((y.1,some y.2)::lift r) x.1=some x.2
  simp only[List.map_cons,List.nodup_cons]at hn
  rcases List.mem_cons.1 h with rfl |h
  ·simp[oget]
  ·have:y.1≠x.1:=λe=>hn.1 (by rw[e];exact List.mem_map.2 ⟨x,h,rfl⟩)
   rw[oget,zlk this]
   exact zch hn.2 h
theorem zqs{g:Env}{O:List (Nat×Ow)}{b:Nat}:b∈blks g O↔∃i o,oget (lift O) i=some o/\(g i).2=some b:=by
 constructor
 ·intro h
  obtain⟨x,hx,hb⟩:=List.mem_filterMap.1 h
  obtain⟨o,ho⟩:=zic hx
  exact⟨x.1,o,ho,hb⟩
 ·rintro⟨i,o,ho,hb⟩
  exact List.mem_filterMap.2 ⟨(i,o),zd3 ho,hb⟩
def zjf:Nat->List TF->List (Nat×TF)
 |_,[]=>[]
 |n,f::r=>(n,f)::zjf (n+1) r
def nmsT:List (Nat×Value)->List (Nat×TF)
 |[]=>[]
 |x::r=>(1000000+x.1, .nm x.1 x.2)::nmsT r
def zo9(S:St):List (Nat×Value)->Prop
 |[]=>True
 |x::r=>(∃t,fget S.F t=some (.nm x.1 x.2))/\zo9 S r
def zur(O0 O1:List (Nat×Ow)):List (Nat×Value)->Prop
 |[]=>True
 |x::r=>(∃o o',oget (lift O0) x.1=some o/\oget (lift O1) x.1=some o'/\Nmd o/\Nmd o')/\zur O0 O1 r
def retT(T:TT)(results:List ResultVar)(S:St)(res:TF):Prop:=
 match results with
 |[x]=>resv T S x λf=>match res with
  | .r v=>match S.rv f with
   |some v'=>Cv v' v
   |none=>False
  |res=>f=res
 |xs=>zme T S xs λvs=>∃v,res= .r v/\Cv (.tu vs) v
section
variable {P:Program} {T:TT} {B:Bs} {N:Nat} {S:St} {a:Act} {w:World} {k:Kp} {g:Env} {o:Oper} {Q:Exit->Act->World->Prop}
theorem znw: ∀{l:List TF} {n t:Nat} {f:TF} {us:List Value},zb3 w k g l us->fget (zjf n l) t=some f->f∈l/\n<=t/\∃u,us[t-n]?=some u/\f.at_ w k g u
 |[],_,_,_,_,_,h=>by simp[zjf,fget]at h
 |v::r,n,t,f,us,hp,h=>by
  simp only[zb3]at hp
  obtain⟨u,us',rfl,h1,h2⟩:=hp
  simp only[zjf]at h
  rcases zav h with⟨rfl,rfl⟩ |⟨hne,h⟩
  ·exact⟨by simp,Nat.le_refl _,u,by simp,h1⟩
  ·obtain⟨hm,hle,u',hu',h3⟩:=znw h2 h
   refine⟨List.mem_cons_of_mem _ hm,by omega,u',?_,h3⟩
   rw[show t-n=(t-(n+1))+1 by omega]
   simpa using hu'
theorem zoq: ∀{l:List TF} {us:List Value},zb3 w k g l us->us.length=l.length
 |[],us,h=>by simp only[zb3]at h;subst h;rfl
 |v::r,us,h=>by
  simp only[zb3]at h
  obtain⟨u,us',rfl,_,h2⟩:=h
  simp[zoq h2]
theorem zqw: ∀{l:List (Nat×Value)} {t:Nat} {f:TF},fget (nmsT l) t=some f->∃x∈l,f= .nm x.1 x.2
 |[],t,f,h=>by simp[nmsT,fget]at h
 |x::r,t,f,h=>by
  simp only[nmsT]at h
  rcases zav h with⟨rfl,rfl⟩ |⟨_,h⟩
  ·exact⟨x,by simp,rfl⟩
  ·obtain⟨y,hy,e⟩:=zqw h
   exact⟨y,List.mem_cons_of_mem _ hy,e⟩
theorem zfu{F:List (Nat×TF)}{d t:Nat}{f:TF}(h:d≠t):fget ((d,f)::F) t=fget F t:=by rw[fget,zlk h]
theorem zj8{F F':List (Nat×TF)}{t:Nat}{f:TF}(h:fget (F++F') t=some f):fget F t=some f\/fget F' t=some f:=by
 induction F with
 |nil=>exact .inr h
 |cons x r ih=>
  rcases zav (show fget ((x.1,x.2)::(r++F')) t=some f from h)with⟨e,e'⟩ |⟨hne,h⟩
  ·left;subst e';obtain⟨x1,x2⟩:=x;simp only at e;subst e;simp[fget]
  ·rcases ih h with h2 |h2
   ·exact .inl ((zfu (F:=r) (f:=x.2) hne).trans h2)
   ·exact .inr h2
theorem zob: ∀{l:List (Nat×Value)},zo9 S l->∀x∈l,∃t,fget S.F t=some (.nm x.1 x.2)
 |[],_,x,h=>by cases h
 |y::r,h,x,hx=>by
  rcases List.mem_cons.1 hx with rfl |hx
  ·exact h.1
  ·exact zob h.2 x hx
theorem zoc{O0 O1:List (Nat×Ow)}: ∀{l:List (Nat×Value)},zur O0 O1 l->∀x∈l,∃o o',oget (lift O0) x.1=some o/\oget (lift O1) x.1=some o'/\Nmd o/\Nmd o'
 |[],_,x,h=>by cases h
 |y::r,h,x,hx=>by
  rcases List.mem_cons.1 hx with rfl |hx
  ·exact h.1
  ·exact zoc h.2 x hx
theorem zz4(hT:TOk P T){fn:Func}{res:TF}(hs:SatE B N S a w k g)(h:retT T fn.results.toList S res): ∃v,(results fn a.tmps).run P w= .ok v w/\res.at_ w k g v:=by
 unfold retT at h
 split at h
 ·rename_i x hx
  obtain⟨fr,v,hret,hat,hr⟩:=zh3 hT hs h
  refine⟨v,?_,?_⟩
  ·have hx':fn.results= #[x]:=by apply Array.ext';simpa using hx
   rw[zeo,hx',Array.mapM_eq_mapM_toList]
   simp only[Sem.run_bind,Sem.run_map,List.mapM_cons,List.mapM_nil,hr]
   simp
  ·split at hret
   ·split at hret
    ·rename_i v' hv'
     exact hret w k v (zdg hs hv' hat)
    ·exact hret.elim
   ·rw[<-hret];exact hat
 ·rename_i hxs
  obtain⟨rs,vs,⟨rv,rfl,hcv⟩,hp',hlen,hr⟩:=zgs hT hs h
  refine⟨.tuple vs.toArray,?_,?_⟩
  ·rw[zeo,Array.mapM_eq_mapM_toList]
   simp only[Sem.run_bind,Sem.run_map,hr]
   have hne:vs.length≠1:=by
    intro he
    rw[hlen]at he
    obtain⟨x,hx⟩:=List.length_eq_one_iff.1 he
    exact hxs x hx
   simp[hne]
  ·exact hcv w k _ (by simp only[RV.at_];exact⟨vs.toArray,rfl,hp'⟩)
def endT(T:TT)(results:List ResultVar)(names:List (Nat×Value))(n1:Nat)(O1:List (Nat×Ow))(res:TF)(ex:Exit)(S:St):Prop:=
 (ex= .ret\/ex= .normal)/\∃S1,Sub S S1/\S1.nx=n1/\(∃E,S1.O=lift O1++E)/\zo9 S1 names/\retT T results S1 res
theorem zdy{O E:List (Nat×Option Ow)}{i:Nat}{o:Ow}(h:oget O i=some o):oget (O++E) i=some o:=by
 induction O with
 |nil=>simp[oget]at h
 |cons x r ih=>
  obtain⟨x1,x2⟩:=x
  rw[List.cons_append]
  simp only[oget]at h⊢
  split at h
  ·exact h
  ·exact ih h
theorem zg0{results:List ResultVar}{names:List (Nat×Value)}{n1:Nat}{O1:List (Nat×Ow)}{res:TF}{ex:Exit}(hex:ex= .ret\/ex= .normal)(ρ:List (Nat×Nat))(F1:List (Nat×TF))(E:List (Nat×Option Ow))
  (h0:stOk ρ ⟨F1++nmsT names,lift O1++E,n1⟩=true) (h1:zg1 ρ S (F1++nmsT names)) (h2:zhc ρ S (lift O1++E)) (h3:zo9 ⟨F1++nmsT names,lift O1++E,n1⟩ names) (h4:retT T results ⟨F1++nmsT names,lift O1++E,n1⟩ res):
  endT T results names n1 O1 res ex S:=⟨hex,_,zac ρ h0 h1 h2,rfl,⟨E,rfl⟩,h3,h4⟩
theorem zc3{f:FuncId}{fn:Func}{n0 n1:Nat}{O0 O1:List (Nat×Ow)}{args:List TF}{names:List (Nat×Value)}{res:TF}{c:Code}(hm:P.follows .mixedOrders=true)(hT:TOk P T)(hf:P.funcs[f]?=some fn)(hb:fn.body=some c)
  (hk:(Nat.ble args.length fn.ntmps&&(zat fn.ntmps c&& !(fn.name== "runtime.NumGoroutine")))=true)
  (hlt:(args.all (ltB n0)&&(names.all (λx=>Nat.blt x.1 n0)&&ltB n1 res))=true) (hnm:zur O0 O1 names)
  (h:vcg P T c {F:=zjf 0 args++nmsT names,O:=lift O0,nx:=n0} (endT T fn.results.toList names n1 O1 res)):Acts P f n0 O0 args names n1 O1 res:=by
 simp only[Bool.and_eq_true,Nat.ble_eq,Bool.not_eq_true',beq_eq_false_iff_ne]at hk
 obtain⟨hn,hd,hname⟩:=hk
 simp only[Bool.and_eq_true,List.all_eq_true]at hlt
 obtain⟨hla,hln,hlr⟩:=hlt
 refine⟨⟨fn,c,hf,hb,hname⟩,λw k g us ho hnames hp=>?_⟩
 refine calls_of_wp hf hb ?_
 have hl:=zoq hp
 have hstart:Sat ⟨w,k,blks g O0,[]⟩ fn.ntmps {F:=zjf 0 args++nmsT names,O:=lift O0,nx:=n0} {tmps:=us.toArray++Array.replicate (fn.ntmps-us.toArray.size) undef,defers:=[]} w k:=by
  refine⟨g,by simp;omega,rfl,⟨rfl,rfl,rfl,Nat.le_refl _,λ_ _ _=>rfl⟩,λ_ _ _=>rfl,λt f hf=>?_,λid o' ho'=>?_,ho.apart⟩
  ·rcases zj8 hf with hf |hf
   ·obtain⟨hmem,_,u',hu',hat⟩:=znw hp hf
    refine⟨zl9 (hla _ hmem),?_⟩
    rw[Nat.sub_zero]at hu'
    have hlt:t<us.length:=(List.getElem?_eq_some_iff.1 hu').1
    have:(us.toArray++Array.replicate (fn.ntmps-us.toArray.size) undef)[t]?=some u':=by
     rw[Array.getElem?_append_left (by simpa using hlt)]
     simpa using hu'
    simp only[Array.getD_eq_getD_getElem?,this,Option.getD_some]
    exact hat
   ·obtain⟨x,hx,rfl⟩:=zqw hf
    exact⟨by have:=hln x hx;simp[Nat.blt]at this;simp only[TF.lt];omega,hnames x hx⟩
  ·obtain⟨q1,q2,q3,q4⟩:=ho.owns id o' ho'
   exact⟨q1,q2,q3,λb hb=>⟨.inr (zqs.2 ⟨id,o',ho',hb⟩),q4 b hb⟩⟩
 refine zap hm hT c _ _ h ⟨w,k,blks g O0,[]⟩ fn.ntmps _ w k _ hstart hd λex S' a' w' k' ⟨hex,S1,hsub,hn1,⟨E,hO1⟩,hnms,hret⟩ hs'=>?_
 have fin:a'.defers=[]/\∃v,(results fn a'.tmps).run P w'= .ok v w'/\(λ(e:Ending) w'=>∃v,e= .returned v/\Keep (blks g O0) w w'/\∃(k':Kp) (g':Env),(∀b,b<w.heap.size->b∉blks g O0->k' b=k b)/\
   Own w' k' g' n1 (lift O1)/\(∀id o b,oget (lift O1) id=some o->(g' id).2=some b->w.heap.size<=b\/b∈blks g O0)/\(∀x∈names,g' x.1=g x.1)/\res.lt n1/\res.at_ w' k' g' v) (.returned v) w':=by
  obtain⟨k2,g2,h2⟩:=hsub _ _ _ _ _ hs'
  obtain⟨v,hr,hat⟩:=zz4 hT h2 hret
  refine⟨h2.defers,v,hr,v,rfl,h2.keep,k2,g2,h2.kk,⟨λid o' ho'=>?_,λi j oi oj b hi hj=>h2.apart i j oi oj b (by rw[hO1];exact zdy hi) (by rw[hO1];exact zdy hj)⟩,λid o' b ho' hb=>?_,λx hx=>?_,zl9 hlr,hat⟩
  ·obtain⟨q1,q2,q3,q4⟩:=h2.owns id o' (by rw[hO1];exact zdy ho')
   rw[hn1]at q1 q2
   exact⟨q1,q2,q3,λb hb=>(q4 b hb).2⟩
  ·exact((h2.owns id o' (by rw[hO1];exact zdy ho')).2.2.2 b hb).1
  ·obtain⟨t,ht⟩:=zob hnms x hx
   have e1:=(h2.facts t _ ht).2
   simp only[TF.at_]at e1
   have e0:=hnames x hx
   obtain⟨o0,o1,h0,h1,d0,d1⟩:=zoc hnm x hx
   have b0:=d0 _ _ _ _ (ho.owns _ _ h0).2.2.1
   have b1:=d1 _ _ _ _ (h2.owns _ _ (by rw[hO1];exact zdy h1)).2.2.1
   apply Prod.ext
   ·rw[e1,e0]
   ·rw[b1,b0,e1,e0]
 rcases hex with rfl |rfl
 ·exact fin
 ·exact fin
def ren(σ:List (Nat×Nat))(names:List Nat)(m i:Nat):Nat:=
 match memB i names with
 |true=>match za0 σ i with
  |some j=>j
  |none=>m+i
 |false=>m+i
def zcz(τ:Nat->Nat):TF->TF
 | .r v=> .r v
 | .own i=> .own (τ i)
 | .adr i o=> .adr (τ i) o
 | .nm i v=> .nm (τ i) v
 | .cut i o n=> .cut (τ i) o n
def zgi(τ:Nat->Nat):Ow->Ow
 | .box cells=> .box (cells.map (zcz τ))
 | .ch e sz n cells pub=> .ch e sz n cells pub
 | .gen p=> .gen p
def zdt:List (Nat×Nat)->List (Nat×Option Ow)->List (Nat×Option Ow)
 |[],O=>O
 |x::r,O=>zdt r ((x.2,none)::O)
def zh2(τ:Nat->Nat):List (Nat×Ow)->List (Nat×Option Ow)->List (Nat×Option Ow)
 |[],O=>O
 |x::r,O=>zh2 τ r ((τ x.1,some (zgi τ x.2))::O)
def renK(σ:List (Nat×Nat))(names:List Nat)(m i:Nat)(K:Nat->Prop):Prop:=
 match memB i names with
 |true=>match za0 σ i with
  |some j=>K j
  |none=>K (m+i)
 |false=>K (m+i)
theorem ztd{σ:List (Nat×Nat)}{names:List Nat}{m i:Nat}{K:Nat->Prop}:renK σ names m i K=K (ren σ names m i):=by
 unfold renK ren
 cases memB i names with
 |true=>cases za0 σ i<;>rfl
 |false=>rfl
def zmd(σ:List (Nat×Nat))(names:List Nat)(m:Nat)(f:TF)(K:TF->Prop):Prop:=
 match f with
 | .r v=>K (.r v)
 | .own i=>renK σ names m i λj=>K (.own j)
 | .adr i o=>renK σ names m i λj=>K (.adr j o)
 | .nm i v=>renK σ names m i λj=>K (.nm j v)
 | .cut i o n=>renK σ names m i λj=>K (.cut j o n)
theorem zoh{σ:List (Nat×Nat)}{names:List Nat}{m:Nat}{f:TF}{K:TF->Prop}:zmd σ names m f K=K (zcz (ren σ names m) f):=by
 cases f<;>simp only[zmd,ztd,zcz]
def zpe(σ:List (Nat×Nat))(names:List Nat)(m:Nat):List TF->(List TF->Prop)->Prop
 |[],K=>K []
 |f::r,K=>zmd σ names m f λf'=>zpe σ names m r λr'=>K (f'::r')
theorem zq6{σ:List (Nat×Nat)}{names:List Nat}{m:Nat}: ∀{l:List TF} {K:List TF->Prop},zpe σ names m l K=K (l.map (zcz (ren σ names m)))
 |[],K=>rfl
 |f::r,K=>by simp only[zpe,zoh,zq6,List.map_cons]
def zu0(σ:List (Nat×Nat))(names:List Nat)(m:Nat)(o:Ow)(K:Ow->Prop):Prop:=
 match o with
 | .box cells=>zpe σ names m cells λcs=>K (.box cs)
 | .ch e sz n cells pub=>K (.ch e sz n cells pub)
 | .gen p=>K (.gen p)
theorem zz1{σ:List (Nat×Nat)}{names:List Nat}{m:Nat}{o:Ow}{K:Ow->Prop}:zu0 σ names m o K=K (zgi (ren σ names m) o):=by
 cases o<;>simp only[zu0,zq6,zgi]
def zpc(σ:List (Nat×Nat))(names:List Nat)(m:Nat):List (Nat×Ow)->List (Nat×Option Ow)->(List (Nat×Option Ow)->Prop)->Prop
 |[],O,K=>K O
 |(i,o)::r,O,K=>renK σ names m i λj=>zu0 σ names m o λo'=>zpc σ names m r ((j,some o')::O) K
theorem zq3{σ:List (Nat×Nat)}{names:List Nat}{m:Nat}: ∀{l:List (Nat×Ow)} {O:List (Nat×Option Ow)} {K:List (Nat×Option Ow)->Prop},zpc σ names m l O K=K (zh2 (ren σ names m) l O)
 |[],O,K=>rfl
 |(i,o)::r,O,K=>by simp only[zpc,ztd,zz1,zq3,zh2]
def zjz:List (Nat×Nat)->List (Nat×Option Ow)->(List (Nat×Option Ow)->Prop)->Prop
 |[],O,K=>K O
 |(_,j)::r,O,K=>zjz r ((j,none)::O) K
theorem zmn: ∀{σ:List (Nat×Nat)} {O:List (Nat×Option Ow)} {K:List (Nat×Option Ow)->Prop},zjz σ O K=K (zdt σ O)
 |[],O,K=>rfl
 |(_,j)::r,O,K=>by simp only[zjz,zmn,zdt]
def zif(σ:List (Nat×Nat))(names:List Nat)(S:St)(n1:Nat)(O1:List (Nat×Ow))(res:TF)(dst:Option Nat):St:=
 ({F:=S.F,O:=zh2 (ren σ names S.nx) O1 (zdt σ S.O),nx:=S.nx+n1}:St).put dst (zcz (ren σ names S.nx) res)
def zpj(σ:List (Nat×Nat))(names:List Nat)(S:St)(n1:Nat)(O1:List (Nat×Ow))(res:TF)(dst:Option Nat)(K:St->Prop):Prop:=
 match S with
 |⟨F,O,nx⟩=>zjz σ O λO=>zpc σ names nx O1 O λO=>match dst with
  |some d=>zmd σ names nx res λf=>K ⟨(d,f)::F,O,nx+n1⟩
  |none=>K ⟨F,O,nx+n1⟩
theorem zie{σ:List (Nat×Nat)}{names:List Nat}{S:St}{n1:Nat}{O1:List (Nat×Ow)}{res:TF}{dst:Option Nat}{K:St->Prop}:zpj σ names S n1 O1 res dst K=K (zif σ names S n1 O1 res dst):=by
 cases S;cases dst<;>simp only[zpj,zmn,zq3,zoh,zif,St.put]
theorem ziv: ∀{σ:List (Nat×Nat)} {O:List (Nat×Option Ow)} {c:Nat} {o:Ow},oget (zdt σ O) c=some o->oget O c=some o/\∀x∈σ,x.2≠c
 |[],O,c,o,h=>⟨h,λx hx=>by cases hx⟩
 |y::r,O,c,o,h=>by
  obtain⟨h1,h2⟩:=ziv (show oget (zdt r ((y.2,none)::O)) c=some o from h)
  rcases zak h1 with⟨_,e⟩ |⟨hne,h1⟩
  ·cases e
  ·refine⟨h1,λx hx=>?_⟩
   rcases List.mem_cons.1 hx with rfl |hx
   ·exact hne
   ·exact h2 x hx
theorem zem{τ:Nat->Nat}: ∀{l:List (Nat×Ow)} {O:List (Nat×Option Ow)} {c:Nat} {o:Ow},oget (zh2 τ l O) c=some o->(∃x∈l,c=τ x.1/\o=zgi τ x.2)\/oget O c=some o
 |[],O,c,o,h=> .inr h
 |y::r,O,c,o,h=>by
  rcases zem (show oget (zh2 τ r ((τ y.1,some (zgi τ y.2))::O)) c=some o from h)with⟨x,hx,e⟩ |h1
  ·exact .inl ⟨x,List.mem_cons_of_mem _ hx,e⟩
  ·rcases zak h1 with⟨e,e'⟩ |⟨_,h1⟩
   ·cases e';exact .inl ⟨y,by simp,e.symm,rfl⟩
   ·exact .inr h1
theorem zq7{τ:Nat->Nat}{g' g2:Env}(h: ∀i,g2 (τ i)=g' i): ∀{f:TF} {u:Value},f.at_ w k g' u->(zcz τ f).at_ w k g2 u
 | .r v,u,hu=>hu
 | .own i,u,hu=>by simp only[zcz,TF.at_]at*;rw[h];exact hu
 | .adr i o,u,hu=>by simp only[zcz,TF.at_]at*;rw[h];exact hu
 | .nm i v,u,hu=>by simp only[zcz,TF.at_]at*;rw[h];exact hu
 | .cut i _ _,u,hu=>by simp only[zcz,TF.at_]at*;rw[h];exact hu
theorem zz2{τ:Nat->Nat}{g' g2:Env}(h: ∀i,g2 (τ i)=g' i){vb:Value×Option Nat}: ∀{o:Ow},o.at_ w k g' vb->(zgi τ o).at_ w k g2 vb
 | .box cells,hu=>by
  simp only[zgi,Ow.at_]at*
  obtain⟨b,cur,t,e,hh,hk,hsz,hc⟩:=hu
  refine⟨b,cur,t,e,hh,hk,by simpa using hsz,λj f u hf hu=>?_⟩
  rw[List.getElem?_map]at hf
  cases hcj:cells[j]? with
  |none=>rw[hcj]at hf;cases hf
  |some f0=>
   rw[hcj]at hf
   simp only[Option.map_some,Option.some.injEq]at hf
   subst hf
   exact⟨(hc j f0 u hcj hu).1,zq7 h (hc j f0 u hcj hu).2⟩
 | .ch ..,hu=>hu
 | .gen _,hu=>hu
theorem zq8{τ:Nat->Nat}{n m:Nat}(h: ∀i,i<n->τ i<m): ∀{f:TF},f.lt n->(zcz τ f).lt m
 | .r _,_=>trivial
 | .own i,hl=>h i hl
 | .adr i _,hl=>h i hl
 | .nm i _,hl=>h i hl
 | .cut i _ _,hl=>h i hl
theorem zz3{τ:Nat->Nat}{n m:Nat}(h: ∀i,i<n->τ i<m): ∀{o:Ow},o.lt n->(zgi τ o).lt m
 | .box cells,hl=>λf hf=>by
  obtain⟨f0,hf0,rfl⟩:=List.mem_map.1 hf
  exact zq8 h (hl f0 hf0)
 | .ch ..,_=>trivial
 | .gen _,_=>trivial
theorem z1u{ρ:List (Nat×Nat)}(hs:SatE B N S a w k g){o o':Ow}{vb:Value×Option Nat}(hc:cvOw ρ S o' o)(q3:o'.at_ w k g vb):o.at_ w k (renv ρ g) vb:=by
 cases o' with
 |box cs=>
  cases o with
  |box ds=>
   simp only[Ow.at_]at q3⊢
   obtain⟨b,cur,t,e,hh,hk,hsz,hall⟩:=q3
   have hds:=zhp (us:=cur.toList) hs hc ⟨by rw[Array.length_toList,hsz],λj f u hf hu=>hall j f u hf (by simpa using hu)⟩
   exact⟨b,cur,t,e,hh,hk,by rw[<-Array.length_toList,hds.1],λj f u hf hu=>hds.2 j f u hf (by simpa using hu)⟩
  |ch=>exact hc.elim
  |gen=>exact hc.elim
 |gen p=>
  cases o with
  |gen q=>exact hc w k _ q3
  |box=>exact hc.elim
  |ch=>exact hc.elim
 |ch e sz n cs pub=>
  cases o with
  |box=>exact hc.elim
  |gen=>exact hc.elim
  |ch e' sz' n' ds pub'=>
   obtain⟨rfl,rfl,rfl,rfl,hcs⟩:=hc
   simp only[Ow.at_]at q3⊢
   obtain⟨r1,r2⟩:=q3
   have hlen:ds.length=cs.length:=Cvs.length hcs
   refine⟨by rw[hlen];exact r1,?_⟩
   rcases r2 with⟨h0,r2 |⟨hn,hp,b,o,e,hm,hb,hc⟩⟩ |⟨b,cap,cur,e1,e2,hh,s1,s2,s3,s4,s5⟩
   ·exact .inl ⟨h0, .inl r2⟩
   ·exact .inl ⟨h0, .inr ⟨hn,hp,b,o,e,hm,hb,hcs.cells hc⟩⟩
   ·exact .inr ⟨b,cap,cur,e1,e2,hh,s1,s2,s3,s4,hcs.list s5⟩
def stA(σ:List (Nat×Nat))(names:List Nat)(n0:Nat)(O0 O1:List (Nat×Ow)):Bool:=
 O0.all (λx=>Nat.blt x.1 n0&&zde n0 x.2)&&(zdm (σ.map (·.2))&&(zdm (O1.map (·.1))&&names.all (λi=>(oget (lift O0) i).isSome)))
structure Handed (P:Program) (S:St) (o:Oper) (σ:List (Nat×Nat)) (f:FuncId) (args:List TF):Prop where
 out: ∀{B:Bs} {N:Nat} {a:Act} {w:World} {k:Kp} {g:Env},SatE B N S a w k g->∃us,(execOp a.eval o).run P w=(callFunc f us.toArray).run P w/\zb3 w k (renv σ g) args us
theorem Vstep.acts(σ:List (Nat×Nat))(names:List Nat){f:FuncId}{n0 n1:Nat}{O0 O1:List (Nat×Ow)}{args:List TF}{res:TF}{K:St->Prop}
  (hA: ∀vs:Nat->Value,(∀i j t v,za0 σ i=some j->fget S.F t=some (.nm j v)->vs i=v)->Acts P f n0 O0 args (names.map λi=>(i,vs i)) n1 O1 res) (hcall:Handed P S o σ f args)
  (hst:stA σ names n0 O0 O1=true) (ho:zhc σ S (lift O0)) (hz:zpi O0) (hK:zpj σ names S n1 O1 res o.dst K):Vstep P S o K:=by
 rw[zie]at hK
 refine Vstep.one (λB N a w k Q ⟨g,hs⟩ hd=>?_) hK
 simp only[stA,Bool.and_eq_true,List.all_eq_true]at hst
 obtain⟨hst0,hnd,hnd1,hnm0⟩:=hst
 obtain⟨⟨fn,c,hf,hb,hn⟩,hA⟩:=hA (λi=>(renv σ g i).1) λi j t v hi ht=>by
  have:=(hs.facts t _ ht).2
  simp only[TF.at_]at this
  simp only[renv,hi]
  exact this
 obtain⟨us,hrun,hargs⟩:=hcall.out hs
 have hown:Own w k (renv σ g) n0 (lift O0):=by
  refine⟨λi o' hi=>?_,λi j oi oj b hi hj hne hbi hbj=>?_⟩
  ·obtain⟨⟨j,o2,hj,ho2,hc⟩,hm⟩:=zb2 ho hi
   have hlt:=hst0 _ (zd3 hi)
   obtain⟨q1,q2,q3,q4⟩:=hs.owns j o2 ho2
   have hren:renv σ g i=g j:=by simp[renv,hj]
   refine⟨by have:=hlt.1;simp[Nat.blt]at this;omega,zq0 hlt.2,?_,λb hb=>?_⟩
   ·rw[hren];exact z1u hs hc q3
   ·rw[hren]at hb;exact(q4 b hb).2
  ·obtain⟨⟨i',oi',hi',hoi,_⟩,_⟩:=zb2 ho hi
   obtain⟨⟨j',oj',hj',hoj,_⟩,_⟩:=zb2 ho hj
   simp only[renv,hi']at hbi
   simp only[renv,hj']at hbj
   refine hs.apart i' j' oi' oj' b hoi hoj (λe=>?_) hbi hbj
   subst e
   exact hne (zoi (zbf hnd) hi' hj')
 have hX: ∀b,b∈blks (renv σ g) O0->∃i j o',za0 σ i=some j/\oget S.O j=some o'/\(g j).2=some b/\k b=0:=λb hb=>by
  obtain⟨i,o1,hi,hgi⟩:=zqs.1 hb
  obtain⟨⟨j,o2,hj,ho2,_⟩,_⟩:=zb2 ho hi
  have hren:renv σ g i=g j:=by simp[renv,hj]
  have hzz:=zor hz _ (zd3 hi) w k (renv σ g) (renv σ g i) b (hown.owns i o1 hi).2.2.1 hgi
  rw[hren]at hgi
  exact⟨i,j,o2,hj,ho2,hgi,hzz⟩
 unfold Oper.wp
 rw[hrun,zf0 hf hb hn]
 simp only[Oper.upon]
 refine(hA w k (renv σ g) us hown (λx hx=>?_) hargs).mono ?_
 ·obtain⟨i,_,rfl⟩:=List.mem_map.1 hx
  rfl
 rintro en w' ⟨v,rfl,hkeep,k',g',hkk,hown',hblk,hnames,hrlt,hrat⟩
 simp only
 have hle:Le w k w' k':=by
  refine⟨hkeep.size,λb hb=>?_,λb o' hb ho'=>?_,λb hb hk es c e=>?_⟩
  ·by_cases hx:b∈blks (renv σ g) O0
   ·obtain⟨_,_,_,_,_,_,h0⟩:=hX b hx;omega
   ·exact Nat.le_of_eq (hkk b hb hx).symm
  ·by_cases hx:b∈blks (renv σ g) O0
   ·obtain⟨_,_,_,_,_,_,h0⟩:=hX b hx;omega
   ·exact World.cell?_of_block (a:=⟨b,o',none⟩) (hkeep.block b hb hx)
  ·by_cases hx:b∈blks (renv σ g) O0
   ·obtain⟨_,_,_,_,_,_,h0⟩:=hX b hx;omega
   ·exact(hkeep.block b hb hx).trans e
 let g2:Env:=λc=>if c<S.nx then g c else g' (c-S.nx)
 have hg2: ∀i,i<S.nx->g2 i=g i:=λi hi=>by simp[g2,hi]
 have hτ: ∀i,g2 (ren σ names S.nx i)=g' i/\(i<n1->ren σ names S.nx i<S.nx+n1):=λi=>by
  have other:g2 (S.nx+i)=g' i/\(i<n1->S.nx+i<S.nx+n1):=⟨by simp only[g2];rw[if_neg (by omega),Nat.add_sub_cancel_left],λh=>by omega⟩
  unfold ren
  cases hm:memB i names with
  |false=>exact other
  |true=>
   cases hr:za0 σ i with
   |none=>exact other
   |some j=>
    simp only
    have hmem:=zaq.1 hm
    have hsome:=hnm0 i hmem
    obtain⟨o1,ho1⟩:=Option.isSome_iff_exists.1 hsome
    obtain⟨⟨j',o2,hj',ho2,_⟩,_⟩:=zb2 ho ho1
    rw[hr]at hj'
    cases hj'
    have hjlt:=(hs.owns j o2 ho2).1
    refine⟨?_,λ_=>by omega⟩
    rw[hg2 j hjlt]
    have:=hnames (i,(renv σ g i).1) (List.mem_map.2 ⟨i,hmem,rfl⟩)
    simp only at this
    rw[this]
    simp[renv,hr]
 have old: ∀c o',oget (zdt σ S.O) c=some o'->oget S.O c=some o'/\∀b,(g c).2=some b->b∉blks (renv σ g) O0:=λc o' h=>by
  obtain⟨h1,h2⟩:=ziv h
  refine⟨h1,λb hb hx=>?_⟩
  obtain⟨i,j,o2,hj,ho2,hgj,_⟩:=hX b hx
  exact hs.apart c j o' o2 b h1 ho2 (λe=>h2 _ (zgj hj) e.symm) hb hgj
 have hkeepB:Keep B.X B.w w':=⟨hkeep.os.trans hs.keep.os,hkeep.tape.trans hs.keep.tape,hkeep.output.trans hs.keep.output,Nat.le_trans hs.keep.size hkeep.size,λb hb hx=>by
  refine(hkeep.block b (Nat.lt_of_lt_of_le hb hs.keep.size) λhm=>?_).trans (hs.keep.block b hb hx)
  obtain⟨i,j,o2,hj,ho2,hgj,_⟩:=hX b hm
  rcases((hs.owns j o2 ho2).2.2.2 b hgj).1 with h |h
  ·omega
  ·exact hx h⟩
 have hs2:SatE B N {F:=S.F,O:=zh2 (ren σ names S.nx) O1 (zdt σ S.O),nx:=S.nx+n1} a w' k' g2:=by
  refine⟨hs.size,hs.defers,hkeepB,λb hb hx=>?_,λt f hf=>?_,λc o' hc=>?_,λc d oc od b hc hd' hne hbc hbd=>?_⟩
  ·refine(hkk b (Nat.lt_of_lt_of_le hb hs.keep.size) λhm=>?_).trans (hs.kk b hb hx)
   obtain⟨i,j,o2,hj,ho2,hgj,_⟩:=hX b hm
   rcases((hs.owns j o2 ho2).2.2.2 b hgj).1 with h |h
   ·omega
   ·exact hx h
  ·have:=hs.facts t f hf
   exact⟨TF.lt_mono (Nat.le_add_right _ _) this.1,TF.env hg2 this.1 (TF.mono hle this.2)⟩
  ·rcases zem hc with⟨x,hx,rfl,rfl⟩ |hc
   ·have hx1:=zch (zbf hnd1) hx
    obtain⟨q1,q2,q3,q4⟩:=hown'.owns x.1 x.2 hx1
    refine⟨(hτ x.1).2 q1,zz3 (λi hi=>(hτ i).2 hi) q2,?_,λb hb=>?_⟩
    ·rw[(hτ x.1).1]
     exact zz2 (λi=>(hτ i).1) q3
    ·rw[(hτ x.1).1]at hb
     refine⟨?_,q4 b hb⟩
     rcases hblk x.1 x.2 b hx1 hb with h |h
     ·left;have:=hs.keep.size;omega
     ·obtain⟨i,j,o2,hj,ho2,hgj,_⟩:=hX b h
      exact((hs.owns j o2 ho2).2.2.2 b hgj).1
   ·obtain⟨hc,hnx⟩:=old c o' hc
    obtain⟨q1,q2,q3,q4⟩:=hs.owns c o' hc
    refine⟨Nat.lt_of_lt_of_le q1 (Nat.le_add_right _ _),Ow.lt_mono (Nat.le_add_right _ _) q2,?_,λb hb=>?_⟩
    ·rw[hg2 c q1]
     exact Ow.env hg2 q2 (Ow.mono hle (λb hb=>⟨hkeep.block b (q4 b hb).2 (hnx b hb),hkk b (q4 b hb).2 (hnx b hb)⟩) q3)
    ·rw[hg2 c q1]at hb
     exact⟨(q4 b hb).1,Nat.lt_of_lt_of_le (q4 b hb).2 hkeep.size⟩
  ·have newOld: ∀x∈O1,∀d od,oget (zdt σ S.O) d=some od->(g2 (ren σ names S.nx x.1)).2=some b->(g2 d).2=some b->False:=λx hx d od hd' h1 h2=>by
    have hx1:=zch (zbf hnd1) hx
    obtain⟨hd',hnx⟩:=old d od hd'
    obtain⟨q1,_,_,q4⟩:=hs.owns d od hd'
    rw[hg2 d q1]at h2
    rw[(hτ x.1).1]at h1
    rcases hblk x.1 x.2 b hx1 h1 with h |h
    ·have:=(q4 b h2).2;omega
    ·exact hnx b h2 h
   rcases zem hc with⟨x,hx,rfl,rfl⟩ |hc
   ·rcases zem hd' with⟨y,hy,rfl,rfl⟩ |hd'
    ·have hx1:=zch (zbf hnd1) hx
     have hy1:=zch (zbf hnd1) hy
     rw[(hτ x.1).1]at hbc
     rw[(hτ y.1).1]at hbd
     exact hown'.apart x.1 y.1 x.2 y.2 b hx1 hy1 (λe=>hne (by rw[e])) hbc hbd
    ·exact newOld x hx d od hd' hbc hbd
   ·rcases zem hd' with⟨y,hy,rfl,rfl⟩ |hd'
    ·exact newOld y hy c oc hc hbd hbc
    ·have hc1:=(old c oc hc).1
     have hd1:=(old d od hd').1
     rw[hg2 c (hs.owns c oc hc1).1]at hbc
     rw[hg2 d (hs.owns d od hd1).1]at hbd
     exact hs.apart c d oc od b hc1 hd1 hne hbc hbd
 refine⟨k',g2,?_⟩
 unfold zif
 exact hs2.put hd (zq8 (λi hi=>(hτ i).2 hi) hrlt) (zq7 (λi=>(hτ i).1) hrat)
abbrev zi:= @Vstep.acts
def zgy(σ:List (Nat×Nat))(S:St):List Operand->List TF->Prop
 |[],fs=>fs=[]
 |x::xs,fs=>∃f r,fs=f::r/\(match opr S x with
  |some f'=>cvTF σ S f' f
  |none=>False)/\zgy σ S xs r
def zij(σ:List (Nat×Nat))(S:St):List Value->List TF->Prop
 |[],fs=>fs=[]
 |c::cs,fs=>∃f r,fs=f::r/\(match f with
  | .r v=>∀w k,v.at_ w k c
  | .own i=>∃j t,za0 σ i=some j/\fget S.F t=some (.nm j c)
  |_=>False)/\zij σ S cs r
theorem zig{σ:List (Nat×Nat)}(hs:SatE B N S a w k g): ∀{xs:List Operand} {fs:List TF},zgy σ S xs fs->zb3 w k (renv σ g) fs (xs.map a.eval)
 |[],fs,h=>by simp only[zgy]at h;subst h;simp[zb3]
 |x::xs,fs,h=>by
  simp only[zgy]at h
  obtain⟨f,r,rfl,h1,h2⟩:=h
  simp only[List.map_cons,zb3]
  refine⟨_,_,rfl,?_,zig hs h2⟩
  split at h1
  ·rename_i f' hf'
   exact zm1 hs h1 (zad hs hf').2
  ·exact h1.elim
theorem znz{σ:List (Nat×Nat)}(hs:SatE B N S a w k g): ∀{cs:List Value} {fs:List TF},zij σ S cs fs->zb3 w k (renv σ g) fs cs
 |[],fs,h=>by simp only[zij]at h;subst h;simp[zb3]
 |c::cs,fs,h=>by
  simp only[zij]at h
  obtain⟨f,r,rfl,h1,h2⟩:=h
  simp only[zb3]
  refine⟨_,_,rfl,?_,znz hs h2⟩
  split at h1
  ·exact h1 w k
  ·obtain⟨j,t,hj,ht⟩:=h1
   have:=(hs.facts t _ ht).2
   simp only[TF.at_]at this⊢
   simp only[renv,hj]
   exact this.symm
  ·exact h1.elim
theorem zrk{fs fs':List TF}{us us':List Value}(h:zb3 w k g fs us)(h':zb3 w k g fs' us'):zb3 w k g (fs++fs') (us++us'):=by
 induction fs generalizing us with
 |nil=>simp only[zb3]at h;subst h;exact h'
 |cons f r ih=>
  simp only[zb3]at h
  obtain⟨u,us2,rfl,h1,h2⟩:=h
  exact⟨u,us2++us',rfl,h1,ih h2⟩
theorem Handed.func{σ:List (Nat×Nat)}{f:FuncId}{xs:Array Operand}{ts:Array TypeId}{fs:List TF}(hop:o.op= .call {callee:= .value (.func f),args:=xs,argTypes:=ts})(h:zgy σ S xs.toList fs):Handed P S o σ f fs:=by
 refine⟨λ{B N a w k g} hs=>⟨xs.toList.map a.eval,?_,zig hs h⟩⟩
 have hargs':xs.map a.eval=(xs.toList.map a.eval).toArray:=by apply Array.ext';simp
 simp[execOp,hop,resolve,Deferred.ofValue,invoke,Act.eval,hargs']
abbrev zh:= @Handed.func
theorem Handed.clo{σ:List (Nat×Nat)}{f:FuncId}{t:Nat}{cap:Array Value}{xs:Array Operand}{ts:Array TypeId}{fs cs:List TF}(hop:o.op= .call {callee:= .value (.tmp t),args:=xs,argTypes:=ts})
  (ht:fget S.F t=some (.r (.x (.func (.func f) #[] cap)))) (h:zgy σ S xs.toList fs) (hc:zij σ S cap.toList cs):Handed P S o σ f (fs++cs):=by
 refine⟨λ{B N a w k g} hs=>⟨xs.toList.map a.eval++cap.toList,?_,zrk (zig hs h) (znz hs hc)⟩⟩
 have hfv:=(hs.facts t _ ht).2
 simp only[TF.at_,RV.at_]at hfv
 have e2:a.eval (.tmp t)= .func (.func f) #[] cap:=by
  have:a.eval (.tmp t)=a.tmps.getD t undef:=by simp[Act.eval]
  rw[this,hfv]
 have hargs':xs.map a.eval++cap=(xs.toList.map a.eval++cap.toList).toArray:=by apply Array.ext';simp
 simp[execOp,hop,resolve,e2,Deferred.ofValue,invoke,hargs']
end
end
end Go.Proofs.YtddokcpcpoihmaaGreat.Sx
