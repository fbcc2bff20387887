import Derived.Test.YtoegdgbghdnnfaaGreatZSxZ
import Derived.ScopeJumps
import Derived.Test.YtoegdgbghdnnfaaGreatZSxV
import Derived.Lib.SliceRun
import Derived.WalkKit
import Derived.WalkSpells
import Derived.WalkLawsBesides
import Derived.Lib.Hide
import Derived.Deep.Draws
import Derived.Deep.AppendLies
import Derived.Test.YtoegdgbghdnnfaaGreatZSxS
import Derived.Laws.Cover3
import Derived.Laws.BitsAllLaws
namespace Go.Proofs.YtoegdgbghdnnfaaGreat.Sx
open Go.RowKit
section
variable {P:Program} {T:TT} {B:Bs} {N:Nat} {S:St} {a:Act} {w:World} {k:Kp} {g:Env} {o:Oper} {Q:Exit->Act->World->Prop}
theorem zkn: ∀{c rest:Code} {l:Nat},findLabel c l=some rest->zbe N c=true->zbe N rest=true
 | .seq a b,rest,l,h,hd=>by
  simp only[zbe,Bool.and_eq_true]at hd
  simp only[findLabel]at h
  split at h
  ·rename_i r hr
   cases h
   simp only[zbe,Bool.and_eq_true]
   exact⟨zkn hr hd.1,hd.2⟩
  ·exact zkn h hd.2
 | .label l',rest,l,h,hd=>by
  simp only[findLabel]at h
  split at h
  ·cases h;rfl
  ·cases h
 | .skip,_,_,h,_=>by simp[findLabel]at h
 | .region ..,_,_,h,_=>by simp[findLabel]at h
 | .cond ..,_,_,h,_=>by simp[findLabel]at h
 | .block ..,_,_,h,_=>by simp[findLabel]at h
 | .loop ..,_,_,h,_=>by simp[findLabel]at h
 | .exit ..,_,_,h,_=>by simp[findLabel]at h
 | .ret,_,_,h,_=>by simp[findLabel]at h
 | .goto ..,_,_,h,_=>by simp[findLabel]at h
 | .scope ..,_,_,h,_=>by simp[findLabel]at h
 | .rangeFunc ..,_,_,h,_=>by simp[findLabel]at h
 | .refuse ..,_,_,h,_=>by simp[findLabel]at h
def zh7(l:Nat)(J:St->Prop)(Q:Exit->St->Prop)(e:Exit)(S:St):Prop:=
 match e with
 | .goto l'=>match Nat.beq l' l with
  |true=>J S
  |false=>False
 |e=>Q e S
theorem Vcode.scope(hm:P.follows .mixedOrders=true)(hT:TOk P T){c rest:Code}{Q:Exit->St->Prop}(l:Nat){ι:Type}(inv:ι->St)(R:ι->Prop)(μ:ι->Nat)(hf:findLabel c l=some rest)
  (first:vcg P T c S (zh7 l (λS'=>∃i,R i/\Sub S' (inv i)) Q))
  (pass: ∀i,R i->vcg P T rest (inv i) (zh7 l (λS'=>∃i',R i'/\μ i'<μ i/\Sub S' (inv i')) Q)):Vcode P (.scope c) S Q:=by
 refine⟨λB N a w k Q' hs hd hQ=>?_⟩
 have hd0:zbe N c=true:=by simpa only[zbe]using hd
 let J:Nat->Act->World->Prop:=λn a w=>∃i k,R i/\μ i=n/\Sat B N (inv i) a w k
 refine wp_scope_jumps l (λa w=>∃n,J n a w) (λa w=>leastOf (λn=>J n a w)) hf ?_ ?_
 ·refine za3 hm hT c S _ first B N a w k _ hs hd0 λe S' a' w' k' hq hs'=>?_
  cases e with
  |goto l'=>
   simp only[zh7]at hq
   split at hq
   ·rename_i hb
    obtain⟨i,hR,hsub⟩:=hq
    obtain⟨k2,hs2⟩:=hsub B N a' w' k' hs'
    exact⟨Nat.eq_of_beq_eq_true hb,μ i,i,k2,hR,rfl,hs2⟩
   ·exact hq.elim
  |_=>exact hQ _ S' a' w' k' hq hs'
 ·intro a1 w1 hJ
  obtain⟨i,k1,hR,hμ,hs1⟩:=(leastOf_spec hJ).1
  refine za3 hm hT rest (inv i) _ (pass i hR) B N a1 w1 k1 _ hs1 (zkn hf hd0) λe S' a' w' k' hq hs'=>?_
  cases e with
  |goto l'=>
   simp only[zh7]at hq
   split at hq
   ·rename_i hb
    obtain⟨i',hR',hlt,hsub⟩:=hq
    obtain⟨k2,hs2⟩:=hsub B N a' w' k' hs'
    have hJ':J (μ i') a' w':=⟨i',k2,hR',rfl,hs2⟩
    refine⟨Nat.eq_of_beq_eq_true hb,⟨μ i',hJ'⟩,?_⟩
    exact Nat.lt_of_le_of_lt ((leastOf_spec ⟨_,hJ'⟩).2 _ hJ') (by rw[<-hμ];exact hlt)
   ·exact hq.elim
  |_=>exact hQ _ S' a' w' k' hq hs'
theorem Vcode.run(hT:TOk P T){id:Nat}{ops:Array Oper}{Q:Exit->St->Prop}(h:runv P T ops.toList ops.toList S (Q .normal)):Vcode P (.region id ops false) S Q:=by
 refine⟨λB N a w k Q' hs hd hQ=>?_⟩
 have hN: ∀o∈ops.toList,∀d,o.dst=some d->d<N:=λo ho d hod=>by
  simp only[zbe,List.all_eq_true]at hd
  have h1:=hd o ho
  simp only[hod]at h1
  exact Nat.le_of_ble_eq_true h1
 exact wp_region_list (zhi (Q:=Q') hT hN (λ_ h=>h) hs h λS' a' w' k' hq hs'=>hQ _ S' a' w' k' hq hs')
theorem Vstep.mapMk{t:TypeId}{K:St->Prop}(gh:Nat)(hop:o.op= .makeMap t none)(hK: ∀b:Nat,newK ⟨(gh, .nm S.nx (.map (some b)))::S.F,(S.nx,some (.gen (mapO [])))::S.O,S.nx+1⟩ o.dst (.r (.x (.map (some b)))) none K):Vstep P S o K:=by
 simp only[za4]at hK
 refine⟨Nat,_,λB N a w k Q hs0 hd=>Oper.wp_mono ?_ (show o.wp P a w (λa' w'=>∃b k',Sat B N (St.put ⟨(gh, .nm S.nx (.map (some b)))::S.F,(S.nx,some (.gen (mapO [])))::S.O,S.nx+1⟩ o.dst (.r (.x (.map (some b))))) a' w' k') Q from ?_),hK⟩
 ·rintro a' w' ⟨b,k',h⟩;exact⟨b,k',h⟩
 obtain⟨g,hs⟩:=hs0
 refine za0 (v:= .map (some w.heap.size)) (w':=w.alloc (.map #[] 0)) (by simp[execOp,hop,Instr.makeMap,newObj];rfl) ⟨w.heap.size,kset k w.heap.size 0,?_⟩
 have hat:Ow.at_ (w.alloc (.map #[] 0)) (kset k w.heap.size 0) g (.map (some w.heap.size),some w.heap.size) (.gen (mapO [])):=by
  simp only[Ow.at_]
  exact⟨w.heap.size, #[],0,rfl,heap_alloc_new w _,zcu,⟨rfl,λj x e h=>by simp at h⟩,stampE.nil⟩
 have h:=hs.make (dst:=none) (λd e=>by cases e) (zdz w (.map #[] 0)) (λb hb=>zdd b hb) (vb:=(.map (some w.heap.size),some w.heap.size)) (o:= .gen (mapO [])) trivial hat (λb hb=>by
  cases hb
  exact⟨Nat.le_refl _,by simp⟩)
 have h2:SatE B N ⟨(gh, .nm S.nx (.map (some w.heap.size)))::S.F,(S.nx,some (.gen (mapO [])))::S.O,S.nx+1⟩ a (w.alloc (.map #[] 0)) (kset k w.heap.size 0) (g.set S.nx (.map (some w.heap.size),some w.heap.size)):=by
  refine⟨h.size,h.defers,h.keep,h.kk,λt' f hf=>?_,h.owns,h.apart⟩
  rcases zbd hf with⟨rfl,rfl⟩ |⟨_,hf⟩
  ·exact⟨Nat.lt_succ_self _,by simp only[TF.at_,Env.set_eq]⟩
  ·exact h.facts t' f hf
 exact⟨_,h2.put hd trivial (by simp only[TF.at_,RV.at_])⟩
theorem Vstep.mapPut{t kt et:TypeId}{x y z:Operand}(id gh:Nat){n:Int}{ents:List (Int×RV)}{f:TF}{r:RV}{m:Value}{K:St->Prop}(hop:o.op= .mapUpdate t x y z)(hx:opr S x=some (.r (.x m)))(hgh:fget S.F gh=some (.nm id m))(ho:oget S.O id=some (.gen (mapO ents)))(hy:opr S y=some (.r (.i .i64 n)))(hz:opr S z=some f)(hr:S.rv f=some r)
  (hu:P.underlying t=some (.map kt et)) (hk:P.underlying kt=some (.int .i64)) (hm:zc6 ents n=none) (hK:setK S id (some (.gen (mapO (ents++[(n,r)])))) o.dst K):Vstep P S o K:=by
 rw[zd6]at hK
 refine Vstep.one (λB N a w k Q ⟨g,hs⟩ hd=>?_) hK
 have hv:=(zah hs hx).2
 have hn:=(zah hs hy).2
 have hzv:=zgm hs hr (zah hs hz).2
 have hnm:=(hs.facts gh _ hgh).2
 simp only[TF.at_,RV.at_]at hv hn hnm
 obtain⟨_,_,hat,_⟩:=hs.owns id _ ho
 simp only[Ow.at_]at hat
 obtain⟨b,es,c,e,hh,hkb,he,hst⟩:=hat
 obtain⟨res,h1,h2⟩:=zkq (n:=n) hk he
 rw[hm]at h2
 simp only at h2
 subst h2
 rw[<-hnm,e]at hv
 have hb:b<w.heap.size:=(Array.getElem?_eq_some_iff.1 hh).1
 let ob:Obj:= .map (es.push {key:= .int .i64 n,val:=a.eval z,born:=c}) (c+1)
 let w':World:={w with heap:=w.heap.setIfInBounds b ob}
 have hrun:(Instr.mapUpdate t (.map (some b)) (.int .i64 n) (a.eval z)).run P w= .ok () w':=by
  simp[Instr.mapUpdate,run_underlying hu w,zhg hk,h1,hh,getObj,setObj,Sem.run,w',ob]
 have hw:Wrote w k w' k (some b):=⟨rfl,rfl,rfl,by simp[w'],λx _ hne=>⟨by simp only[w'];rw[Array.getElem?_setIfInBounds_ne (λh=>hne (by rw[h]))],rfl⟩,λx hx=>by
  cases hx
  exact⟨Nat.le_refl _,λo ho=>by omega,λh=>by omega⟩⟩
 have hnew:(Ow.gen (mapO (ents++[(n,r)]))).at_ w' k g (g id):=by
  simp only[Ow.at_]
  refine⟨b,_,c+1,e,by simp only[w',ob];rw[Array.getElem?_setIfInBounds_self_of_lt hb],hkb,?_,hst.push (z05 he hm)⟩
  have he':=he.mono hw.le
  refine⟨by simp[he'.1],λj x en hj hen=>?_⟩
  rw[Array.toList_push]at hen
  rcases Nat.lt_or_ge j ents.length with hlt |hge
  ·rw[List.getElem?_append_left hlt]at hj
   rw[List.getElem?_append_left (by rw[he'.1];exact hlt)]at hen
   exact he'.2 j x en hj hen
  ·rw[List.getElem?_append_right hge]at hj
   rw[List.getElem?_append_right (by rw[he'.1];exact hge),he'.1]at hen
   have:j-ents.length=0:=by have:=(List.getElem?_eq_some_iff.1 hj).1;simp at this;omega
   rw[this]at hj hen
   simp at hj hen
   subst hj;subst hen
   exact⟨rfl,RV.mono hw.le _ _ hzv⟩
 exact zz0 (w':=w') (by simp[execOp,hop,hv,hn,hrun]) ⟨k,g,(hs.redo (ow':= .gen (mapO (ents++[(n,r)]))) ho (by rw[e]) hw trivial hnew).drop⟩
theorem z0p{id gh:Nat}{m:Value}{ents:List (Int×RV)}(ho:oget S.O id=some (.gen (mapO ents)))(hgh:fget S.F gh=some (.nm id m)):
  ∀{B N a w k},Sat B N S a w k->∃k',Sat B N ⟨S.F,(id,none)::S.O,S.nx⟩ a w k'/\(mapS ents).at_ w k' m/\Le w k w k':=by
 rintro B N a w k ⟨g,hs⟩
 obtain⟨_,_,hat,hblk⟩:=hs.owns id _ ho
 simp only[Ow.at_]at hat
 obtain⟨b,es,c,e,hh,hkb,he,hst⟩:=hat
 have hb:b<w.heap.size:=(Array.getElem?_eq_some_iff.1 hh).1
 have hw:Wrote w k w (kset k b 1) (some b):=⟨rfl,rfl,rfl,Nat.le_refl _,λx _ hne=>⟨rfl,by simp[kset,show x≠b fromλh=>hne (by rw[h])]⟩,λx hx=>by
  cases hx
  exact⟨by omega,λ_ _=>rfl,λh=>by omega⟩⟩
 have h:=hs.wrote hw (id:=some id) ⟨⟨_,ho⟩,by rw[e]⟩
 have hnm:=(hs.facts gh _ hgh).2
 simp only[TF.at_]at hnm
 refine⟨kset k b 1,⟨g,h⟩,?_,hw.le⟩
 rw[<-hnm,e]
 exact .inr ⟨b,es,c,rfl,hb,by rw[zcu];omega,hh,he.mono hw.le,hst⟩
end
theorem Sub.trans{S S' S'':St}(h:Sub S S')(h':Sub S' S''):Sub S S'':=λB N a w k hs=>by
 obtain⟨k',hs'⟩:=h B N a w k hs
 exact h' B N a w k' hs'
theorem zs3(pub:Bool){S:St}(t:Nat)(e:TypeId)(sz:Nat)(hf:fget S.F t=some (.r (.x (.slice none 0 0)))):Sub S {F:=(t, .own S.nx)::S.F,O:=(S.nx,some (.ch e sz 0 [] pub))::S.O,nx:=S.nx+1}:=by
 rintro B N a w k ⟨g,hs⟩
 have hv:=(hs.facts t _ hf).2
 simp only[TF.at_,RV.at_]at hv
 have hlt:t<a.tmps.size:=by
  rcases Nat.lt_or_ge t a.tmps.size with h |h
  ·exact h
  ·rw[Array.getD_eq_getD_getElem?,Array.getElem?_eq_none h]at hv
   simp[undef]at hv
 have h:=hs.adopt (dst:=some t) (λd hd=>by cases hd;rw[<-hs.size];exact hlt) (o:= .ch e sz 0 [] pub) (vb:=(.slice none 0 0,none)) trivial ⟨by simp, .inl ⟨rfl, .inl ⟨rfl,none,rfl⟩⟩⟩ (λb hb=>by cases hb) (λi o' b _ hb=>by cases hb)
 have e1:a.put (some t) (.slice none 0 0)=a:=by
  simp only[Act.put]
  have:a.tmps.setIfInBounds t (.slice none 0 0)=a.tmps:=by
   apply Array.ext
   ·simp
   ·intro i h1 h2
    by_cases hi:t=i
    ·subst hi
     rw[Array.getElem_setIfInBounds_self]
     rw[Array.getD_eq_getD_getElem?,Array.getElem?_eq_getElem hlt]at hv
     exact hv.symm
    ·rw[Array.getElem_setIfInBounds_ne _ hi]
  rw[this]
 rw[e1]at h
 exact⟨k,_,h⟩
theorem zb7{S:St}(t:Nat)(e:TypeId)(sz:Nat)(hf:fget S.F t=some (.r (.x (.slice none 0 0)))):Sub S {F:=(t, .own S.nx)::S.F,O:=(S.nx,some (.ch e sz 0 [] true))::S.O,nx:=S.nx+1}:=zs3 true t e sz hf
theorem zjc{S:St}(t:Nat)(e:TypeId)(sz:Nat)(hf:fget S.F t=some (.r (.x (.slice none 0 0)))):Sub S {F:=(t, .own S.nx)::S.F,O:=(S.nx,some (.ch e sz 0 [] false))::S.O,nx:=S.nx+1}:=zs3 false t e sz hf
theorem Cvs.of_eq{cs ds:List RV}(h:cs=ds):Cvs cs ds:=h▸zn cs
theorem cvCh{ρ:List (Nat×Nat)}{S:St}{e:TypeId}{l m:List UInt8}(h:l=m):cvOw ρ S (.ch e 1 l.length (l.map U8) true) (.ch e 1 m.length (m.map U8) true):=by
 subst h
 exact⟨rfl,rfl,rfl,rfl,zn _⟩
theorem zau{ρ:List (Nat×Nat)}{S:St}{e:TypeId}{l m:List Int}(h:l=m):cvOw ρ S (.ch e 1 l.length (l.map I) true) (.ch e 1 m.length (m.map I) true):=by
 subst h
 exact⟨rfl,rfl,rfl,rfl,zn _⟩
def bch(l:List UInt8):Res:= .ch 5 1 l.length (l.map U8)
def ich(l:List Int):Res:= .ch 3 1 l.length (l.map I)
theorem Vcall.bool{P:Program}{f:FuncId}{vs:List RV}{K:Res->Prop}{β:Bool}(hg:zab P f vs (.r (.b β)))(ht:β=true->K (.r (.b true)))(hf:β=false->K (.r (.b false))):Vcall P f vs K:=by
 cases β
 ·exact ze hg (hf rfl)
 ·exact ze hg (ht rfl)
theorem zfe{P:Program}{f:FuncId}{fn:Func}{c:Code}(hf:P.funcs[f]?=some fn)(hb:fn.body=some c)(hn:(!(fn.name== "runtime.NumGoroutine"))=true):zlj P f:=
 ⟨fn,c,hf,hb,by simpa using hn⟩
theorem znn{P:Program}{f:FuncId}{sz n:Nat}{cells args:List RV}{res:Res}(hk:zlj P f)(h:n<=9223372036854775807->zab P f (.sl sz n cells::args) res):zab P f (.sl sz n cells::args) res:=
 ⟨hk,λw k vs hp=>(h (by
  simp only[RV.partsAt,RV.at_]at hp
  obtain⟨_,_,rfl,⟨a,c,rfl,h1,h2,_⟩,_⟩:=hp
  simp only[maxLen]at h2
  omega)).2 w k vs hp⟩
def k_64(k:IntKind):Prop:=k= .u64\/k= .i64
theorem z4e{k:IntKind}(hk:k_64 k){m:Nat}(h:m<9223372036854775808):(m:Int)=k.wrap (m:Int):=by
 rcases hk with rfl |rfl
 ·simp only[IntKind.wrap];simp[IntKind.bits,IntKind.signed];omega
 ·rw[IntKind.wrap_i64];omega
theorem z78{a:Nat}(h:a<9223372036854775808):(BitVec.ofInt 64 (a:Int)).toNat=a:=by rw[BitVec.toNat_ofInt];omega
theorem Vint.nat{k:IntKind}(hk:k_64 k){e:Int}{K:Int->Prop}(n:Nat)(he:e=(n:Int))(h:n<9223372036854775808)(hK:K (n:Int)):Vint k e K:=⟨n,by rw[he];exact z4e hk h,hK⟩
def bitN(op:BinOp)(x y:Nat):Nat:=match op with
 | .and=>x&&&y
 | .or=>x|||y
 | .xor=>x^^^y
 |_=>x&&&(18446744073709551615-y)
theorem zc6b{op:BinOp}{x y:Nat}{u v:BitVec 64}(hu:u.toNat=x)(hv:v.toNat=y):bitN op x y=(match op with
  | .and=>(u&&&v).toNat
  | .or=>(u|||v).toNat
  | .xor=>(u^^^v).toNat
  |_=>(u&&& ~~~v).toNat):=by
 subst hu;subst hv
 unfold bitN
 cases op<;>simp[BitVec.toNat_and,BitVec.toNat_or,BitVec.toNat_xor,BitVec.toNat_not]
theorem Vbits.nat{k:IntKind}(hk:k_64 k){op:BinOp}{a b:Int}{K:Int->Prop}(x y m:Nat)(ha:a=(x:Int))(hb:b=(y:Int))(hx:x<9223372036854775808)(hy:y<9223372036854775808)(hm:m<9223372036854775808)
  (he:bitN op x y=m) (hK:K (m:Int)):Vbits k op a b K:=by
 subst ha;subst hb;subst he
 refine⟨_,(z4e hk hm).trans (congrArg (λz:Nat=>k.wrap (z:Int)) ?_),hK⟩
 have h1:=z78 hx
 have h2:=z78 hy
 rcases hk with rfl |rfl<;>exact zc6b h1 h2
theorem Vshr.nat{k:IntKind}(hk:k_64 k){a b:Int}{K:Int->Prop}(x n m:Nat)(ha:a=(x:Int))(hb:b=(n:Int))(hn:n<=64)(hm:x/2^n=m)(hK:K (m:Int)):Vshr k a b K:=by
 subst ha;subst hb;subst hm
 have e:k.bits=64:=by rcases hk with rfl |rfl<;>rfl
 refine⟨by omega,_,?_,hK⟩
 rw[Int.toNat_natCast,e,Nat.min_eq_left hn,Int.fdiv_eq_ediv_of_nonneg _ (Int.pow_nonneg (by omega))]
 norm_cast
theorem Vshl.nat{k:IntKind}(hk:k_64 k){a b:Int}{K:Int->Prop}(x n m:Nat)(ha:a=(x:Int))(hb:b=(n:Int))(hn:n<=64)(hm:x*2^n=m)(hl:m<9223372036854775808)(hK:K (m:Int)):Vshl k a b K:=by
 subst ha;subst hb
 have e:k.bits=64:=by rcases hk with rfl |rfl<;>rfl
 refine⟨by omega,_,?_,hK⟩
 rw[Int.toNat_natCast,e,Nat.min_eq_left hn,show(x:Int)*2^n=((x*2^n:Nat):Int)by simp,hm]
 exact z4e hk hl
theorem Vstep.nilSl{P:Program}{S:St}{o:Oper}{t t2 e:TypeId}{x y:Operand}{sz n:Nat}{cells:List RV}{K:St->Prop}(hop:o.op= .binOp .eql t x y t2)(hx:opr S x=some (.r (.sl sz n cells)))(hy:opr S y=some (.r (.x (.slice none 0 0))))(hu:P.underlying t=some (.slice e))
  (h1:n=0->newK S o.dst (.r (.b true)) none K) (h0:newK S o.dst (.r (.b false)) none K):Vstep P S o K:=by
 simp only[za4]at h1 h0
 have key: ∀B N a w k (Q:Exit->Act->World->Prop),Sat B N S a w k->(∀d,o.dst=some d->d<N)->o.wp P a w (λa' w'=>∃b k',(b=true->n=0)/\Sat B N (S.new o.dst (.r (.b b)) none) a' w' k') Q:=λB N a w k Q ⟨g,hs⟩ hd=>by
  have hv:=(zah hs hx).2
  have hn:=(zah hs hy).2
  simp only[TF.at_,RV.at_]at hv hn
  obtain⟨p,c,e1,_,_,_,h4⟩:=hv
  refine za0 (v:= .bool p.isNone) (w':=w) ?_ ⟨p.isNone,k,λhb=>?_,g,hs.put hd trivial (by simp only[TF.at_,RV.at_])⟩
  ·have hq:=Go.Lib.run_eql_slice_nil (P:=P) w _ _ p n c 0 0 hu
   simp[execOp,hop,e1,hn,eqGuard,hq]
  ·rcases Nat.eq_zero_or_pos n with h |h
   ·exact h
   ·obtain⟨b,o',rfl,_⟩:=h4 h
    cases hb
 by_cases hn:n=0
 ·exact⟨Bool,λb=>S.new o.dst (.r (.b b)) none,λB N a w k Q hs hd=>Oper.wp_mono (λa' w' ⟨b,k',_,h⟩=>⟨b,k',h⟩) (key B N a w k Q hs hd),λb=>match b with |false=>h0 |true=>h1 hn⟩
 ·refine Vstep.one (λB N a w k Q hs hd=>Oper.wp_mono (λa' w' ⟨b,k',hb,h⟩=>?_) (key B N a w k Q hs hd)) h0
  cases b with
  |false=>exact⟨k',h⟩
  |true=>exact absurd (hb rfl) hn
abbrev U64(n:Nat):RV:= .i .u64 (n:Int)
theorem zgs{x:Nat}(h:x<18446744073709551616):IntKind.u64.wrap (x:Int)=(x:Int):=by
 have:((x:Int)%18446744073709551616)=x:=by omega
 simp only[IntKind.wrap]
 simp[IntKind.bits,IntKind.signed]
 omega
theorem Vint.u64{e:Int}{K:Int->Prop}(n:Nat)(he:e=(n:Int))(h:n<18446744073709551616)(hK:K (n:Int)):Vint .u64 e K:=⟨n,by rw[he,zgs h],hK⟩
theorem Vquo.nat{a b:Int}{K:Int->Prop}(x y:Nat)(ha:a=(x:Int))(hb:b=(y:Int))(hy:0<y)(hx:x<18446744073709551616)(hK:K ((x/y:Nat):Int)):Vquo .u64 a b K:=by
 subst ha;subst hb
 refine⟨by omega,_,?_,hK⟩
 rw[Int.tdiv_eq_ediv_of_nonneg (by omega),<-Int.natCast_ediv,zgs (Nat.lt_of_le_of_lt (Nat.div_le_self _ _) hx)]
theorem Vrem.nat{a b:Int}{K:Int->Prop}(x y:Nat)(ha:a=(x:Int))(hb:b=(y:Int))(hy:0<y)(hK:K ((x%y:Nat):Int)):Vrem a b K:=by
 subst ha;subst hb
 refine⟨by omega,_,?_,hK⟩
 rw[Int.tmod_eq_emod_of_nonneg (by omega),<-Int.natCast_emod]
theorem Vint.u8{e:Int}{K:Int->Prop}(n:Nat)(he:e=(n:Int))(hK:K (((UInt8.ofNat n).toNat:Nat):Int)):Vint .u8 e K:=by
 refine⟨_,?_,hK⟩
 subst he
 simp only[IntKind.wrap]
 simp[IntKind.bits,IntKind.signed]
theorem Vadr.mk'{i:Int}{n:Nat}{K:Nat->Prop}(j:Nat)(h:i=(j:Int))(hj:j<n)(hK:K j):Vadr i n K:=by
 subst h
 exact⟨by omega,by omega,by rw[Int.toNat_natCast];exact hK⟩
theorem zor(q:Nat):UInt8.ofNat (q%256)=UInt8.ofNat q:=by
 apply UInt8.toNat_inj.1
 simp
theorem zik{P:Program}{f:FuncId}{args:List RV}{e:TypeId}{sz n:Nat}{cells:List RV}(h:zab P f args (.own e sz n cells)):zab P f args (.ch e sz n cells):=
 ⟨h.1,λw k vs hp=>(h.2 w k vs hp).mono λe' w' ⟨v,he,hx,k',hk,ob,⟨hl,hc⟩,hb⟩=>by
  rcases hc with⟨rfl,h⟩ |⟨b,cap,cur,rfl,rfl,hh,h1,h2,h3,h4,h5⟩
  ·refine⟨v,he,hx,k',hk,none,⟨hl, .inl ⟨rfl,?_⟩⟩,λb h=>by cases h⟩
   rcases h with h |⟨_,h,_⟩
   ·exact .inl h
   ·cases h
  ·have hle:Le w' k' w' (kset k' b (n*sz)):=⟨Nat.le_refl _,λx _=>by
    unfold kset
    split
    ·rename_i hx;subst hx;rw[h4];simp
    ·exact Nat.le_refl _,λ_ _ _ _=>rfl,λ_ _ _ _ _ h=>h⟩
   have hb':=hb b rfl
   exact⟨_,he,hx,kset k' b (n*sz),λx hx'=>by rw[kset,if_neg (by omega)];exact hk x hx',some b,⟨hl, .inr ⟨b,cap,cur,rfl,rfl,hh,h1,h2,h3,zcu,RV.list_mono hle _ _ h5⟩⟩,hb⟩⟩
end Go.Proofs.YtoegdgbghdnnfaaGreat.Sx

namespace Go.Proofs.YtoegdgbghdnnfaaGreat
open Go.RowKit
def Ext(w w':World):Prop:=Below w.heap.size w w'
theorem Ext.refl(w:World):Ext w w:=Below.refl _ _
theorem Ext.alloc{a w:World}(h:Ext a w)(o:Obj):Ext a (w.alloc o):=Below.alloc h h.size o
theorem Ext.drew{a w:World}(h:Ext a w):Ext a w.drew:=Below.drew h
theorem Ext.le{a w:World}(h:Ext a w):a.heap.size<=w.heap.size:=h.size
theorem zdz(w:World)(o:Obj):Ext w (w.alloc o):=(Ext.refl w).alloc o
structure AC where
 a:Option Addr
 c:Nat
def Sl(w:World)(S:Nat->Prop)(sz:Nat)(p:AC)(n:Nat)(xs:List Value):Prop:=
 xs.length=n*sz/\n<=p.c/\p.c<=maxLen/\
  (0<n->∃b o,p.a=some ⟨b,o,none⟩/\S b/\b<w.heap.size/\∀j u,xs[j]?=some u->w.cell? ⟨b,o+j,none⟩=some u)
section
variable {w w':World} {S S':Nat->Prop} {sz n:Nat} {p:AC} {xs:List Value}
theorem Sl.at_(h:Sl w S sz p n xs)(hn:0<n): ∃b o,p.a=some ⟨b,o,none⟩/\S b/\b<w.heap.size/\∀j u,xs[j]?=some u->w.cell? ⟨b,o+j,none⟩=some u:=h.2.2.2 hn
end
abbrev bv(b:UInt8):Value:= .int .u8 (b.toNat:Int)
abbrev iv(n:Int):Value:= .int .i64 n
def I64(n:Int):Prop:= -9223372036854775808<=n/\n<=9223372036854775807
def By(w:World)(S:Nat->Prop)(p:AC)(l:List UInt8):Prop:=Sl w S 1 p l.length (l.map bv)
def Is(w:World)(S:Nat->Prop)(p:AC)(l:List Int):Prop:=Sl w S 1 p l.length (l.map iv)/\∀x∈l,I64 x
section
variable {w w':World} {S S':Nat->Prop} {p:AC} {l:List UInt8} {m:List Int}
theorem By.form(h:By w S p l)(hk:0<l.length): ∃b o,p.a=some ⟨b,o,none⟩/\∀(k:Nat) (h:k<l.length),w.cell? ⟨b,o+k,none⟩=some (.int .u8 (l[k].toNat:Int)):=by
 obtain⟨b,o,e,_,_,hc⟩:=Sl.at_ h hk
 exact⟨b,o,e,λk hk=>hc k _ (by simp[hk])⟩
end
def Ow(w:World)(base:Nat)(e:TypeId)(sz:Nat)(v:Value)(n:Nat)(xs:List Value)(g:Option Nat):Prop:=
 xs.length=n*sz/\
 ((g=none/\∃a,v= .slice a n n/\Sl w (base<= ·) sz ⟨a,n⟩ n xs)\/
 (∃b cap cur,g=some b/\v= .slice (some ⟨b,0,none⟩) n cap/\base<=b/\w.heap[b]?=some (.cells cur e (0,0))/\n<=cap/\cap<=maxLen/\cur.size=cap*sz/\cur.toList.take (n*sz)=xs))
section
variable {w w':World} {base:Nat} {e:TypeId} {sz n:Nat} {v:Value} {xs:List Value} {g:Option Nat}
theorem Ow.lt(h:Ow w base e sz v n xs g): ∀k,g=some k->base<=k/\k<w.heap.size:=by
 intro k hk
 rcases h.2 with⟨rfl,_⟩ |⟨b,cap,cur,rfl,_,hb,hh,_⟩
 ·cases hk
 ·cases hk
  exact⟨hb,(Array.getElem?_eq_some_iff.1 hh).1⟩
end
def Ret(w:World)(Post:World->Value->Prop)(e:Ending)(w':World):Prop:=∃v,e= .returned v/\Ext w w'/\Post w' v
end Go.Proofs.YtoegdgbghdnnfaaGreat

namespace Go.Proofs.YtoegdgbghdnnfaaGreat.Sx
open Go.RowKit
section
variable {P:Program} {w w':World} {k:Kp} {v:Value}
theorem z6q{f:FuncId}{args:List RV}{res:Res}(hk:zlj P f)(h: ∀w k vs,RV.partsAt w k args vs->Calls P f vs.toArray w (Ret w λw' v=>∃k':Kp,(∀b,b<w.heap.size->k' b=k b)/\res.at_ w.heap.size w' k' v)):zab P f args res:=
 ⟨hk,λw k vs hp=>(h w k vs hp).mono λ_ _ ⟨v,he,hx,hr⟩=>⟨v,he,hx,hr⟩⟩
section
variable {α:Type} {f:α->RV} {g:α->Value}
theorem zjbb(hfg: ∀x w k v,(f x).at_ w k v↔v=g x){l:List α}(h:(RV.sl 1 l.length (l.map f)).at_ w k v): ∃p:AC,v= .slice p.a l.length p.c/\Sl w (λ_=>True) 1 p l.length (l.map g):=by
 simp only[RV.at_]at h
 obtain⟨a,c,rfl,h1,h2,h3,h4⟩:=h
 refine⟨⟨a,c⟩,rfl,by simp,h1,h2,λhn=>?_⟩
 obtain⟨b,o,e,hb,hc⟩:=h4 hn
 refine⟨b,o,e,trivial,hb,λj u hu=>?_⟩
 rw[RV.cellsAt_iff]at hc
 simp only[List.getElem?_map,Option.map_eq_some_iff]at hu
 obtain⟨x,hx,rfl⟩:=hu
 obtain⟨_,u,hu,_,hf⟩:=hc j (f x) (by simp[hx])
 rw[hu,(hfg x w k u).1 hf]
end
theorem z2u{l:List UInt8}(h:(bs l).at_ w k v): ∃p:AC,v= .slice p.a l.length p.c/\By w (λ_=>True) p l:=zjbb (f:=U8) (g:=bv) (λx w k v=>by simp[RV.at_]) h
theorem zsi{α:Type}{f:α->RV}{g:α->Value}(hfg: ∀x w k v,(f x).at_ w k v↔v=g x)(h1: ∀x,(g x).oneCell'=true): ∀l:List α,RV.listAt w k (l.map f) (l.map g)
 |[]=>by simp[RV.listAt]
 |x::r=>by
  simp only[List.map_cons,RV.listAt]
  exact⟨_,_,rfl,h1 x,(hfg _ _ _ _).2 rfl,zsi hfg h1 r⟩
theorem z8i{x:RV}{vs:List Value}(h:RV.partsAt w k [x] vs): ∃a,vs=[a]/\x.at_ w k a:=by
 simp only[RV.partsAt]at h
 obtain⟨u,r,rfl,h1,rfl⟩:=h
 exact⟨u,rfl,h1⟩
theorem zn9{x y:RV}{vs:List Value}(h:RV.partsAt w k [x,y] vs): ∃a b,vs=[a,b]/\x.at_ w k a/\y.at_ w k b:=by
 simp only[RV.partsAt]at h
 obtain⟨u,r,rfl,h1,u',r',rfl,h2,rfl⟩:=h
 exact⟨u,u',rfl,h1,h2⟩
end
abbrev F1(a:Int):RV:= .x (.float .f64 (fl a))
end Go.Proofs.YtoegdgbghdnnfaaGreat.Sx

namespace Go.Proofs.YtoegdgbghdnnfaaGreat
def lvF:Nat->Nat->Nat
 |0,_=>0
 |f+1,x=>if x%2=1 then lvF f (x/2)+1 else 0
def lv(x:Nat):Nat:=lvF 17 x
def nd(h k:Nat):Nat:=k*2^(h+1)+2^h-1
theorem zag(n:Nat):0<2^n:=Nat.pow_pos (by omega)
theorem z73: ∀(f x:Nat),x<2^f-1->lvF f x<f/\x%2^(lvF f x)=2^(lvF f x)-1/\x/2^(lvF f x)%2=0
 |0,x,h=>by simp at h
 |f+1,x,h=>by
  have hp:=zag f
  have e:2^(f+1)=2*2^f:=by rw[Nat.pow_succ];omega
  unfold lvF
  by_cases hx:x%2=1
  ·rw[if_pos hx]
   have ih:=z73 f (x/2) (by omega)
   generalize lvF f (x/2)=l at ih
   have hl:=zag l
   refine⟨by omega,?_,?_⟩
   ·rw[Nat.pow_succ,Nat.mul_comm,Nat.mod_mul,ih.2.1];omega
   ·rw[Nat.pow_succ,Nat.mul_comm,<-Nat.div_div_eq_div_mul];exact ih.2.2
  ·rw[if_neg hx]
   refine⟨by omega,by simp;omega,by simp;omega⟩
theorem zgy{x:Nat}(h:x<=131070):lv x<=16/\x%2^(lv x)=2^(lv x)-1/\x/2^(lv x)%2=0:=by
 have:=z73 17 x (by omega)
 exact⟨by unfold lv;omega,this.2⟩
theorem z4r{x:Nat}(h:x<=131070):x=nd (lv x) (x/2^(lv x+1)):=by
 obtain⟨_,h1,h2⟩:=zgy h
 generalize lv x=l at*
 have hp:=zag l
 unfold nd
 have e1:x/2^(l+1)=x/2^l/2:=by rw[Nat.pow_succ,Nat.div_div_eq_div_mul]
 have e2:=Nat.div_add_mod x (2^l)
 have e3:=Nat.div_add_mod (x/2^l) 2
 rw[e1]
 rw[h1]at e2
 rw[h2]at e3
 generalize x/2^l/2=k at*
 have e4:k*2^(l+1)=2^l*(2*k):=by rw[Nat.pow_succ,Nat.mul_comm (2^l) 2,<-Nat.mul_assoc,Nat.mul_comm,Nat.mul_comm k 2]
 rw[e4]
 have e5:2*k=x/2^l:=by omega
 rw[e5]
 omega
theorem z74: ∀(f h k:Nat),h<f->lvF f (nd h k)=h
 |0,h,k,hh=>by omega
 |f+1,0,k,_=>by unfold lvF nd;simp
 |f+1,h+1,k,hh=>by
  have hp:=zag h
  have e:nd (h+1) k=2*nd h k+1:=by
   unfold nd
   rw[Nat.pow_succ 2 (h+1),Nat.pow_succ 2 h,<-Nat.mul_assoc]
   omega
  unfold lvF
  rw[e,if_pos (by omega),show(2*nd h k+1)/2=nd h k by omega,z74 f h k (by omega)]
theorem zwr{h k:Nat}(hh:h<=16):lv (nd h k)=h:=z74 17 h k (by omega)
theorem z14(h k:Nat):nd (h+1) k=2*nd h k+1:=by
 have hp:=zag h
 unfold nd
 rw[Nat.pow_succ 2 (h+1),Nat.pow_succ 2 h,<-Nat.mul_assoc]
 omega
theorem zde(k:Nat):nd 0 k=2*k:=by unfold nd;simp;omega
def fitsL:List Int:=[1,2,4,8,16,32,64,128,256,512,1024,2048,4096,8192,16384,32768,65536]
def zck(n:Int):Bool:=fitsL.contains n
theorem zet{n:Int}(h:zck n=true): ∃d,d<=16/\n=((2^d:Nat):Int):=by
 unfold zck fitsL at h
 simp at h
 rcases h with h |h |h |h |h |h |h |h |h |h |h |h |h |h |h |h |h
 ·exact⟨0,by omega,by simpa using h⟩
 ·exact⟨1,by omega,by simpa using h⟩
 ·exact⟨2,by omega,by simpa using h⟩
 ·exact⟨3,by omega,by simpa using h⟩
 ·exact⟨4,by omega,by simpa using h⟩
 ·exact⟨5,by omega,by simpa using h⟩
 ·exact⟨6,by omega,by simpa using h⟩
 ·exact⟨7,by omega,by simpa using h⟩
 ·exact⟨8,by omega,by simpa using h⟩
 ·exact⟨9,by omega,by simpa using h⟩
 ·exact⟨10,by omega,by simpa using h⟩
 ·exact⟨11,by omega,by simpa using h⟩
 ·exact⟨12,by omega,by simpa using h⟩
 ·exact⟨13,by omega,by simpa using h⟩
 ·exact⟨14,by omega,by simpa using h⟩
 ·exact⟨15,by omega,by simpa using h⟩
 ·exact⟨16,by omega,by simpa using h⟩
theorem zce: ∀d,d<=16->zck ((2^d:Nat):Int)=true:=by decide+kernel
theorem zdc{n:Int}(h:zck n=true):1<=n/\n<=65536:=by
 obtain⟨d,hd,rfl⟩:=zet h
 have h1:=zag d
 have h2:2^d<=2^16:=Nat.pow_le_pow_right (by omega) hd
 omega
def zbt(x:Int):Bool:=decide (0<=x)&&decide (x<=131070)
def ofI(x n:Int):Bool:=zck n&&(decide (0<=x)&&decide (x<=2*n-2))
theorem zdk{x:Int}:zbt x=true↔0<=x/\x<=131070:=by simp[zbt]
theorem ze5{x n:Int}:ofI x n=true↔zck n=true/\0<=x/\x<=2*n-2:=by simp[ofI]
def lvI(x:Int):Int:=if zbt x then(lv x.toNat:Int)else-1
def zek(x:Int):Int:=if 0<lvI x then 2^(lvI x-1).toNat else 0
def zbw(x:Int):Int:=if zek x=0 then-1 else x-zek x
def zbo(x:Int):Int:=if zek x=0 then-1 else x+zek x
def zi8(n:Int):Int:=if zck n then n-1 else-1
def upN(x:Nat):Nat:=if x/2^(lv x+1)%2=0 then x+2^lv x else x-2^lv x
def parI(x n:Int):Int:=if ofI x n&&decide (x≠n-1)then(upN x.toNat:Int)else-1
def sibI(x n:Int):Int:=if parI x n<0 then-1 else if x<parI x n then zbo (parI x n)else zbw (parI x n)
def zdx(n:Int):Nat->Int->List Int
 |0,_=>[]
 |f+1,x=>if parI x n<0 then[]else parI x n::zdx n f (parI x n)
def zc1(x n:Int):List Int:=zdx n 17 x
def zf4(n:Int):Nat->Int->List Int
 |0,_=>[]
 |f+1,x=>if parI x n<0 then[]else sibI x n::zf4 n f (parI x n)
def zb6(x n:Int):List Int:=zf4 n 17 x
def zjf(y:Int):Int:=2^(lvI y).toNat-1
def za2(x y:Int):Bool:=(zbt x&&zbt y)&&(decide (y-zjf y<=x)&&decide (x<=y+zjf y))
theorem zmw{x y:Int}:za2 x y=true↔(zbt x=true/\zbt y=true)/\y-zjf y<=x/\x<=y+zjf y:=by
 simp only[za2,Bool.and_eq_true,decide_eq_true_eq]
theorem zzx(y:Int):zjf y=2^(lvI y).toNat-1:=rfl
theorem zn1(x:Int): -1<=lvI x/\lvI x<=16:=by
 unfold lvI
 split
 ·rename_i h
  rw[zdk]at h
  have:=(zgy (x:=x.toNat) (by omega)).1
  omega
 ·omega
theorem zl7{x:Int}(h:zbt x=true):lvI x=lv x.toNat:=by simp[lvI,h]
theorem zl8{x:Int}(h:zbt x=false):lvI x= -1:=by simp[lvI,h]
theorem zipb{h k:Nat}(hh:h+1<=16):upN (nd h k)=nd (h+1) (k/2):=by
 have hp:=zag h
 unfold upN
 rw[zwr (by omega)]
 have e1:nd h k/2^(h+1)=k:=by
  unfold nd
  have:2^h<2^(h+1):=by rw[Nat.pow_succ];omega
  rw[Nat.add_sub_assoc (by omega),Nat.add_comm,Nat.add_mul_div_right _ _ (zag _),Nat.div_eq_of_lt (by omega)]
  omega
 rw[e1]
 unfold nd
 rw[Nat.pow_succ 2 (h+1),Nat.pow_succ 2 h]
 generalize 2^h=q at*
 split
 ·rename_i hk
  have:k=2*(k/2):=by omega
  generalize k/2=j at*
  subst this
  rw[show 2*j*(q*2)=j*(q*2*2)by rw[Nat.mul_comm 2 j,Nat.mul_assoc,Nat.mul_comm 2]]
  omega
 ·rename_i hk
  have:k=2*(k/2)+1:=by omega
  generalize k/2=j at*
  subst this
  rw[Nat.add_mul,show 2*j*(q*2)=j*(q*2*2)by rw[Nat.mul_comm 2 j,Nat.mul_assoc,Nat.mul_comm 2]]
  omega
theorem z8e{a j:Nat}(h:a/2^j%2=0):a|||2^j=a+2^j:=by
 have hp:=zag j
 have e3:a=a/2^(j+1)*2^(j+1)+a%2^j:=by
  have e4:=Nat.div_add_mod a (2^j)
  have e5:a/2^(j+1)=a/2^j/2:=by rw[Nat.pow_succ,Nat.div_div_eq_div_mul]
  have e6:a/2^(j+1)*2^(j+1)=2^j*(2*(a/2^j/2)):=by rw[e5,Nat.pow_succ,Nat.mul_comm,Nat.mul_assoc]
  rw[e6,show 2*(a/2^j/2)=a/2^j by omega]
  omega
 have hlt:a%2^j<2^j:=Nat.mod_lt _ hp
 have hs:2^(j+1)=2*2^j:=by rw[Nat.pow_succ];omega
 have hq:(a/2^(j+1)*2^(j+1))%2^(j+1)=0:=by simp
 generalize a/2^(j+1)*2^(j+1)=q at*
 generalize a%2^j=r at*
 have e7:q|||r=q+r:=nat_join (j+1) q r hq (by omega)
 have e8:r|||2^j=2^j+r:=by rw[Nat.or_comm];exact nat_join j _ _ (by simp) hlt
 have e9:q|||(2^j+r)=q+(2^j+r):=nat_join (j+1) q _ hq (by omega)
 rw[e3,<-e7,Nat.or_assoc,e8,e9,e7]
 omega
theorem z5q{a j:Nat}(ha:a<2^64)(hj:j<64):a&&&(2^64-(2^j+1))=a-a/2^j%2*2^j:=by
 have hjj:2^j<2^64:=Nat.pow_lt_pow_right (by omega) hj
 have key: ∀b:Nat,b<2^64->b/2^j%2=0->b&&&(2^64-(2^j+1))=b:=by
  intro b hb h0
  apply Nat.eq_of_testBit_eq
  intro i
  rw[Nat.testBit_and,Nat.testBit_two_pow_sub_succ hjj,Nat.testBit_two_pow]
  by_cases hi:i<64
  ·by_cases hij:j=i
   ·subst hij
    simp[Nat.testBit_eq_decide_div_mod_eq,h0]
   ·simp[hij,hi]
  ·have:b.testBit i=false:=Nat.testBit_lt_two_pow (Nat.lt_of_lt_of_le hb (Nat.pow_le_pow_right (by omega) (by omega)))
   simp[this]
 have hp:=zag j
 rcases Nat.mod_two_eq_zero_or_one (a/2^j)with h |h
 ·rw[h,key a ha h];omega
 ·have hge:2^j<=a:=by
   rcases Nat.lt_or_ge a (2^j)with hl |hl
   ·rw[Nat.div_eq_of_lt hl]at h;omega
   ·exact hl
  have h0:(a-2^j)/2^j%2=0:=by
   have:(a-2^j)/2^j=a/2^j-1:=by have:=Nat.sub_mul_div a (2^j) 1;rwa[Nat.mul_one]at this
   omega
  have e:a=(a-2^j)|||2^j:=by rw[z8e h0];omega
  have:=key (a-2^j) (by omega) h0
  rw[h,Nat.one_mul]
  conv=>lhs;rw[e]
  rw[Nat.and_or_distrib_right,this]
  have h2:2^j&&&(2^64-(2^j+1))=0:=by
   apply Nat.eq_of_testBit_eq
   intro i
   rw[Nat.testBit_and,Nat.testBit_two_pow_sub_succ hjj,Nat.testBit_two_pow]
   by_cases hij:j=i<;>simp[hij]
  rw[h2,Nat.or_zero]
theorem zsm{h k d:Nat}(hd:h<=d):nd h k<=2*2^d-2↔k<2^(d-h):=by
 have hp:=zag h
 have hq:=zag (d-h)
 have e:2^d=2^h*2^(d-h):=by rw[<-Nat.pow_add];congr 1;omega
 unfold nd
 rw[e,Nat.pow_succ]
 generalize 2^h=q at*
 generalize 2^(d-h)=Q at*
 have e1:k*(q*2)=2*(q*k):=by rw[<-Nat.mul_assoc,Nat.mul_comm k q,Nat.mul_comm]
 rw[e1]
 constructor
 ·intro h1
  rcases Nat.lt_or_ge k Q with h2 |h2
  ·exact h2
  ·have:=Nat.mul_le_mul_left q h2
   have:q*1<=q*Q:=Nat.mul_le_mul_left q hq
   omega
 ·intro h1
  have:=Nat.mul_le_mul_left q (show k+1<=Q from h1)
  rw[Nat.mul_add]at this
  omega
theorem ze6{x n:Int}(h:ofI x n=true): ∃d h k,d<=16/\n=((2^d:Nat):Int)/\h<=d/\k<2^(d-h)/\x=(nd h k:Int):=by
 rw[ze5]at h
 obtain⟨d,hd,hn⟩:=zet h.1
 obtain⟨m,rfl⟩:=Int.eq_ofNat_of_zero_le h.2.1
 have h16:2^d<=2^16:=Nat.pow_le_pow_right (by omega) hd
 have hm:m<=2*2^d-2:=by omega
 have hf:=z4r (x:=m) (by omega)
 have hl:lv m<=d:=by
  rcases Nat.lt_or_ge d (lv m)with h1 |h1
  ·exfalso
   have h2:2^(d+1)<=2^lv m:=Nat.pow_le_pow_right (by omega) h1
   rw[Nat.pow_succ]at h2
   have hp:=zag d
   have:2^lv m-1<=m:=by
    conv=>rhs;rw[hf]
    unfold nd
    omega
   omega
  ·exact h1
 refine⟨d,lv m,m/2^(lv m+1),hd,hn,hl,?_,by rw[<-hf]⟩
 rw[<-zsm hl,<-hf];exact hm
theorem z4s{d h k:Nat}(hd:d<=16)(hh:h<=d)(hk:k<2^(d-h)):ofI (nd h k:Int) ((2^d:Nat):Int)=true:=by
 rw[ze5]
 have:=(zsm hh).2 hk
 exact⟨zce d hd,by omega,by have:=zag d;omega⟩
theorem z13{d h k:Nat}(hd:d<=16)(hh:h<=d)(hk:k<2^(d-h)):nd h k<=131070:=by
 have:=(zsm hh).2 hk
 have h16:2^d<=2^16:=Nat.pow_le_pow_right (by omega) hd
 omega
theorem zeb{d h k:Nat}(hd:d<=16)(hh:h<=d)(hk:k<2^(d-h)):zbt (nd h k:Int)=true:=by
 have:=z13 hd hh hk
 rw[zdk];omega
theorem zn2{d h k:Nat}(hd:d<=16)(hh:h<=d)(hk:k<2^(d-h)):lvI (nd h k:Int)=h:=by
 rw[zl7 (zeb hd hh hk),Int.toNat_natCast,zwr (by omega)]
theorem zhu(d:Nat):(nd d 0:Int)=((2^d:Nat):Int)-1:=by
 have:=zag d
 unfold nd;omega
theorem zfz{h k h' k':Nat}(hh:h<=16)(hh':h'<=16)(e:nd h k=nd h' k'):h=h'/\k=k':=by
 have h1:h=h':=by rw[<-zwr (h:=h) (k:=k) hh,<-zwr (h:=h') (k:=k') hh',e]
 subst h1
 refine⟨rfl,?_⟩
 unfold nd at e
 have hp:=zag h
 have:k*2^(h+1)=k'*2^(h+1):=by omega
 exact Nat.eq_of_mul_eq_mul_right (zag _) this
theorem zjn{d h k:Nat}(hd:d<=16)(hh:h<d)(hk:k<2^(d-h)):parI (nd h k:Int) ((2^d:Nat):Int)=(nd (h+1) (k/2):Int):=by
 have hne:(nd h k:Int)≠((2^d:Nat):Int)-1:=by
  rw[<-zhu]
  intro e
  have:=(zfz (by omega) hd (Int.ofNat.inj e)).1
  omega
 unfold parI
 rw[z4s hd (by omega) hk,Int.toNat_natCast,zipb (by omega),Bool.true_and,if_pos (by rw[decide_eq_true_eq];exact hne)]
theorem zim{d:Nat}:parI (nd d 0:Int) ((2^d:Nat):Int)= -1:=by
 unfold parI
 rw[zhu];simp
theorem zk8{d h k:Nat}(hh:h<d)(hk:k<2^(d-h)):k/2<2^(d-(h+1)):=by
 have e:2^(d-h)=2*2^(d-(h+1)):=by
  rw[show d-h=d-(h+1)+1 by omega,Nat.pow_succ];omega
 omega
theorem zn8{x n:Int}(h:0<=parI x n):ofI x n=true/\ofI (parI x n) n=true/\lvI (parI x n)=lvI x+1/\0<=lvI x:=by
 have ho:ofI x n=true:=by
  unfold parI at h
  split at h
  ·rename_i h1;simp at h1;exact h1.1
  ·omega
 obtain⟨d,l,k,hd,rfl,hh,hk,rfl⟩:=ze6 ho
 rcases Nat.lt_or_ge l d with hlt |hge
 ·rw[zjn hd hlt hk]at*
  exact⟨ho,z4s hd (by omega) (zk8 hlt hk),by rw[zn2 hd (by omega) (zk8 hlt hk),zn2 hd hh hk];rfl,by rw[zn2 hd hh hk];omega⟩
 ·obtain rfl:l=d:=by omega
  have:k=0:=by simpa using hk
  subst this
  rw[zim]at h
  omega
def on6(f:Nat):Nat:=Nat.land (Nat.add f (Nat.div f 4294967296)) 127
def on5(e:Nat):Nat:=on6 (Nat.add e (Nat.div e 65536))
def on4(d:Nat):Nat:=on5 (Nat.add d (Nat.div d 256))
def on3(b:Nat):Nat:=on4 (Nat.land (Nat.add (Nat.div b 16) b) 1085102592571150095)
def on2(a:Nat):Nat:=on3 (Nat.add (Nat.land (Nat.div a 4) 3689348814741910323) (Nat.land a 3689348814741910323))
def zwv(n:Nat):Nat:=on2 (Nat.add (Nat.land (Nat.div n 2) 6148914691236517205) (Nat.land n 6148914691236517205))
def pwN(n:Nat):Bool:=Nat.beq (Nat.land n (Nat.sub n 1)) 0
def beqB:Bool->Bool->Bool
 |true,b=>b
 |false,true=>false
 |false,false=>true
def z8c(n:Nat):Bool:=beqB (Nat.beq (zwv n) 1) (pwN n)
def upTo(p:Nat->Bool):Nat->Bool
 |0=>true
 |n+1=>match p (n+1)with |true=>upTo p n |false=>false
theorem zuh{p:Nat->Bool}: ∀{n:Nat},upTo p n=true->∀i,i<n->p (i+1)=true
 |0,_,i,h=>by omega
 |n+1,h,i,hi=>by
  unfold upTo at h
  split at h
  ·by_cases e:i=n
   ·subst e;assumption
   ·exact zuh h i (by omega)
  ·cases h
theorem z0j:upTo (λk=>upTo (λi=>z8c (Nat.add (Nat.mul 2048 (Nat.sub k 1)) i)) 2048) 32=true:=by decide+kernel
theorem ze1b{n:Nat}(h1:1<=n)(h2:n<=65536):z8c n=true:=by
 have h:=zuh z0j ((n-1)/2048) (by omega)
 have h':=zuh h ((n-1)%2048) (by omega)
 have e:Nat.add (Nat.mul 2048 (Nat.sub ((n-1)/2048+1) 1)) ((n-1)%2048+1)=n:=by
  show 2048*((n-1)/2048+1-1)+((n-1)%2048+1)=n
  omega
 rw[e]at h'
 exact h'
theorem zc5b{a b:Bool}(h:beqB a b=true):a=b:=by cases a<;>cases b<;>simp[beqB]at*
theorem zieb{n:Nat}(h1:1<=n)(h2:n<=65536)(h:n&&&(n-1)=0): ∃d,d<=16/\n=2^d:=by
 obtain⟨hl,_,_⟩:=zgy (x:=n-1) (by omega)
 have hn:=z4r (x:=n-1) (by omega)
 generalize lv (n-1)=l at*
 generalize (n-1)/2^(l+1)=k at hn
 have hp:=zag l
 have hp1:=zag (l+1)
 have hlt:2^l<2^(l+1):=by rw[Nat.pow_succ];omega
 unfold nd at hn
 have e1:n=k*2^(l+1)+2^l:=by omega
 have d1:n/2^(l+1)=k:=by
  rw[e1,Nat.add_comm,Nat.add_mul_div_right _ _ hp1,Nat.div_eq_of_lt (by omega)];omega
 have d2:(n-1)/2^(l+1)=k:=by
  rw[hn,Nat.add_sub_assoc (by omega),Nat.add_comm,Nat.add_mul_div_right _ _ hp1,Nat.div_eq_of_lt (by omega)];omega
 have:=Nat.and_div_two_pow (a:=n) (b:=n-1) (n:=l+1)
 rw[h,d1,d2,Nat.and_self,Nat.zero_div]at this
 subst this
 exact⟨l,hl,by omega⟩
theorem zidb: ∀d,d<=16->pwN (2^d)=true:=by decide+kernel
theorem zbgb{n:Nat}(h1:1<=n)(h2:n<=65536):(zwv n=1)↔zck (n:Int)=true:=by
 have h:=zc5b (ze1b h1 h2)
 constructor
 ·intro h3
  rw[h3]at h
  have h4:n&&&(n-1)=0:=Nat.eq_of_beq_eq_true (h.symm.trans rfl)
  obtain⟨d,hd,rfl⟩:=zieb h1 h2 h4
  exact zce d hd
 ·intro h3
  obtain⟨d,hd,e⟩:=zet h3
  have e':n=2^d:=by omega
  rw[e',zidb d hd]at h
  rw[e']
  exact Nat.eq_of_beq_eq_true h
end Go.Proofs.YtoegdgbghdnnfaaGreat
