import Derived.Test.YtoegdgbghdnnfaaGreatZSxM
import Derived.Test.YtoegdgbghdnnfaaGreatZSxJ
namespace Go.Proofs.YtoegdgbghdnnfaaGreat.Sx
open Go.RowKit
section
variable {P:Program} {T:TT} {B:Bs} {N:Nat} {a:Act} {w:World} {k:Kp} {g:Env} {Q:Exit->Act->World->Prop}
variable {l:List Oper} {S0:St} {res:RS} {m:Nat} {F:Nat->Option TF} {O:Nat->Option Ow}
def zo3(S:St):List Nat->List (Nat×TF)
 |[]=>[]
 |t::r=>match fget S.F t with
  |some f=>(t,f)::zo3 S r
  |none=>zo3 S r
def zrv(S:St):List Nat->List (Nat×Option Ow)
 |[]=>[]
 |i::r=>(i,oget S.O i)::zrv S r
theorem zih{S:St}: ∀{ts:List Nat} {t:Nat},fget (zo3 S ts) t=if t∈ts then fget S.F t else none
 |[],t=>by simp[zo3,fget]
 |u::r,t=>by
  simp only[zo3]
  by_cases hu:u=t
  ·subst hu
   cases hf:fget S.F u with
   |some f=>simp[fget]
   |none=>simp[zih,hf]
  ·have hb:Nat.beq u t=false:=by
    cases hb:Nat.beq u t
    ·rfl
    ·exact absurd (Nat.eq_of_beq_eq_true hb) hu
   have hmem:t∈u::r↔t∈r:=by simp[Ne.symm hu]
   cases hf:fget S.F u with
   |some f=>simp only[fget,hb];rw[zih];simp only[hmem]
   |none=>simp only;rw[zih];simp only[hmem]
theorem zj9{S:St}: ∀{ts:List Nat} {t:Nat},oget (zrv S ts) t=if t∈ts then oget S.O t else none
 |[],t=>by simp[zrv,oget]
 |u::r,t=>by
  simp only[zrv]
  by_cases hu:u=t
  ·subst hu;simp[oget]
  ·have hb:Nat.beq u t=false:=by
    cases hb:Nat.beq u t
    ·rfl
    ·exact absurd (Nat.eq_of_beq_eq_true hb) hu
   have hmem:t∈u::r↔t∈r:=by simp[Ne.symm hu]
   simp only[oget,hb];rw[zj9];simp only[hmem]
def isCh(S:St)(id:Nat):Bool:=match oget S.O id with
 |some (.ch ..)=>true
 |_=>false
def ztr(S:St)(o:Oper):List Nat:=ids1 S o++(ids2 S (ids1 S o)).filter (isCh S)
def foot(S:St)(o:Oper):St:={F:=zo3 S (zed o),O:=zrv S (ztr S o),nx:=S.nx}
theorem z3b(S:St)(o:Oper):Agree S (foot S o) o:=by
 refine⟨rfl,λx hx=>?_,λid hid=>?_,λid hid e sz n cells=>?_⟩
 ·cases x with
  |tmp t=>
   have:t∈zed o:=List.mem_filterMap.2 ⟨.tmp t,hx,rfl⟩
   simp only[opr,foot,zih,if_pos this]
  |_=>rfl
 ·simp only[foot,zj9]
  rw[if_pos (show id∈ztr S o from List.mem_append_left _ hid)]
 ·simp only[foot,zj9]
  by_cases hm:id∈ztr S o
  ·rw[if_pos hm]
  ·rw[if_neg hm]
   constructor
   ·intro h
    exact absurd (List.mem_append_right _ (List.mem_filter.2 ⟨hid,by simp[isCh,h]⟩)) hm
   ·intro h;cases h
def Kn(l:List Oper)(S0:St)(res:RS)(m:Nat)(D:Nat->Prop)(id:Nat):Prop:=id<S0.nx\/∃j,D j/\j<m/\(res j).2.isSome=true/\idAt l S0 res j=id
def ovr(xo:Option (Nat×Ow))(O:Nat->Option Ow):Nat->Option Ow:=
 match xo with
 |none=>O
 |some (x,o)=>updO O x o
theorem z8f{xo:Option (Nat×Ow)}{O:Nat->Option Ow}{id:Nat}(h: ∀x o,xo=some (x,o)->x≠id):ovr xo O id=O id:=by
 cases xo with
 |none=>rfl
 |some q=>simp only[ovr,updO];rw[if_neg λe=>h q.1 q.2 rfl e.symm]
theorem ze3b{xo:Option (Nat×Ow)}{O:Nat->Option Ow}{id:Nat}{ow:Ow}(h: ∀x o,xo=some (x,o)->x≠id):ovr xo (updO O id ow)=updO (ovr xo O) id ow:=by
 cases xo with
 |none=>rfl
 |some q=>
  funext j
  simp only[ovr,updO]
  have:=h q.1 q.2 rfl
  by_cases h1:j=q.1
  ·rw[if_pos h1,if_neg (λe=>this (h1.symm.trans e)),if_pos h1]
  ·by_cases h2:j=id
   ·rw[if_neg h1,if_pos h2,if_pos h2]
   ·rw[if_neg h1,if_neg h2,if_neg h2,if_neg h1]
structure Mid (B:Bs) (N:Nat) (l:List Oper) (S0:St) (res:RS) (m:Nat) (D:Nat->Prop) (xo:Option (Nat×Ow)) (a:Act) (w:World) (k:Kp) (g:Env) (F:Nat->Option TF) (O:Nat->Option Ow):Prop where
 sat:SatF B N F (ovr xo O) (idAt l S0 res m) a w k g
 lk:Lk l S0 res m D F O
 kF: ∀t f,F t=some f->∀id∈zam f,Kn l S0 res m D id
 kO: ∀i o,O i=some o->∀id∈zcm o,Kn l S0 res m D id
 kx: ∀x o,xo=some (x,o)->Kn l S0 res m D x/\∀id∈zcm o,Kn l S0 res m D id
 below: ∀i,m<=i->D i->i=m/\xo.isSome=true
theorem Mid.kOv{D:Nat->Prop}{xo:Option (Nat×Ow)}(h:Mid B N l S0 res m D xo a w k g F O): ∀i o,ovr xo O i=some o->∀id∈zcm o,Kn l S0 res m D id:=by
 intro i o hi id hid
 cases xo with
 |none=>exact h.kO i o hi id hid
 |some q=>
  simp only[ovr,updO]at hi
  split at hi
  ·cases hi;exact(h.kx q.1 q.2 rfl).2 id hid
  ·exact h.kO i o hi id hid
end
theorem zrf{l:List Oper}{S0:St}{res:RS}: ∀{i:Nat} {id j:Nat},(id,j)∈Cs l S0 res i->j<i/\(res j).2.isSome=true/\idAt l S0 res j=id
 |0,id,j,h=>by simp[Cs]at h
 |i+1,id,j,h=>by
  simp only[Cs,zgc]at h
  split at h
  ·rename_i o ho
   rcases List.mem_cons.1 h with e |h
   ·cases e;exact⟨by omega,by simp[ho],rfl⟩
   ·have:=zrf h;exact⟨by omega,this.2⟩
  ·have:=zrf h;exact⟨by omega,this.2⟩
theorem zmm: ∀{ρ:List (Nat×Nat)} {i j:Nat},zcv ρ i=some j->(i,j)∈ρ
 |[],i,j,h=>by simp[zcv]at h
 |(u,f)::r,i,j,h=>by
  simp only[zcv]at h
  split at h
  ·rename_i hb;cases h;rw[<-Nat.eq_of_beq_eq_true hb];simp
  ·exact List.mem_cons_of_mem _ (zmm h)
section
variable {P:Program} {T:TT} {B:Bs} {N:Nat} {a:Act} {w:World} {k:Kp} {g:Env} {Q:Exit->Act->World->Prop}
variable {l:List Oper} {S0:St} {res:RS} {m:Nat} {F:Nat->Option TF} {O:Nat->Option Ow} {D:Nat->Prop}
structure Looks (l:List Oper) (ws:List (List Nat)) (m:Nat):Prop where
 le:m<=l.length
 edge: ∀i o,l[i]?=some o->∀e∈za1 o,e<i
 back: ∀i,m<i->i<l.length->∀j,j<i->j∈(lget ws i).getD []
 late: ∀o,l[m]?=some o->(∀j,j<m->j∈(lget ws m).getD [])\/∃t x y,o.op= .store t x y/\o.dst=none/\o.guard=none/\∀j s,j<m->zb5 l j=some s->s∈zed o->j∈(lget ws m).getD []
 dst: ∀i j t,i<m->j<i->zb5 l j=some t->zb5 l i≠some t
 grd: ∀i o j want,i<m->l[i]?=some o->o.guard=some (j,want)->j∈(lget ws i).getD []/\j<i
 rd: ∀i j o t,i<m->j<i->l[i]?=some o->zb5 l j=some t->t∈zed o->j∈(lget ws i).getD []
 wr: ∀i j p t,i<m->j<i->l[j]?=some p->zb5 l i=some t->t∈zed p->j∈(lget ws i).getD []
theorem Kn.mono{D D':Nat->Prop}(h: ∀j,D j->D' j){id:Nat}(hk:Kn l S0 res m D id):Kn l S0 res m D' id:=hk.imp (λx=>x) λ⟨j,h1,h2⟩=>⟨j,h j h1,h2⟩
theorem zyk(hm:P.follows .mixedOrders=true)(hT:TOk P T)(hN: ∀o∈l,∀d,o.dst=some d->d<N){ws:List (List Nat)}(hL:Looks l ws m)(hstp: ∀j,j<m->Stp P T l ws S0 res j)
  (h0: ∀id o,oget S0.O id=some o->id<S0.nx) {xo:Option (Nat×Ow)} (h:Mid B N l S0 res m D xo a w k g F O) {i:Nat} (hxo: ∀x o' o,xo=some (x,o')->l[i]?=some o->x∉zbb (Ls l S0 res i) o) (him:i<m) (hni: ¬D i) (hws: ∀j∈(lget ws i).getD [],D j) (hcl: ∀j,D j->∀x∈(lget ws j).getD [],D x)
  {K:Act->World->Prop} (hK: ∀a' w' k' g' F' O',Mid B N l S0 res m (λj=>D j\/j=i) xo a' w' k' g' F' O'->K a' w'):
  wpOp P l.toArray Q i K a w:=by
 have hil:i<l.length:=Nat.lt_of_lt_of_le him hL.le
 obtain⟨o,hoi,hrd,hst⟩:=hstp i him
 have hod: ∀d,o.dst=some d->d<N:=hN o (List.mem_of_getElem? hoi)
 have hdsti:zb5 l i=o.dst:=by simp[zb5,hoi]
 have hlex:=Lk.lex (S0:=S0) (res:=res) hL.le hL.dst i (by omega)
 have hfacts: ∀t∈zed o,F t=fget (Ls l S0 res i).F t:=by
  intro t ht
  by_cases hx: ∃j,j<i/\zb5 l j=some t
  ·obtain⟨j,hj,hjt⟩:=hx
   rw[h.lk.hit j t (hws j (hL.rd i j o t him hj hoi hjt ht)) (by omega) hjt,hlex.hit j t hj (by omega) hjt]
  ·rw[hlex.miss t λj hj _ hjt=>hx ⟨j,hj,hjt⟩,h.lk.miss t λj hj hjm hjt=>?_]
   rcases Nat.lt_trichotomy j i with hlt |rfl |hgt
   ·exact hx ⟨j,hlt,hjt⟩
   ·exact hni hj
   ·exact hni (hcl j hj i (hL.wr j i o t hjm hgt hoi hjt ht))
 have hd2: ∀j t,D j->j<m->zb5 l j=some t->zb5 l i≠some t:=λj t hj hjm hjt hit=>by
  rcases Nat.lt_trichotomy j i with hlt |rfl |hgt
  ·exact hL.dst i j t him hlt hjt hit
  ·exact hni hj
  ·exact hL.dst j i t hjm hgt hit hjt
 have hi2: ∀j o o',D j->j<m->(res j).2=some o->(res i).2=some o'->idAt l S0 res j≠idAt l S0 res i:=λj o o' hj hjm ho ho'=>
  z7s (by have:=hL.le;omega) hil (λe=>hni (e▸hj)) ho ho'
 have hlk:=h.lk.step him hd2 hi2
 have hbelow: ∀x,m<=x->(D x\/x=i)->x=m/\xo.isSome=true:=λx hx hh=>hh.elim (h.below x hx) (λe=>by omega)
 have hkx: ∀x o,xo=some (x,o)->Kn l S0 res m (λj=>D j\/j=i) x/\∀id∈zcm o,Kn l S0 res m (λj=>D j\/j=i) id:=λx o e=>⟨(h.kx x o e).1.mono λj hj=> .inl hj,λid hid=>((h.kx x o e).2 id hid).mono λj hj=> .inl hj⟩
 have hgrd: ∀b,Grd l (Ls l S0 res i) o b->Region.wanted o (yielded l.toArray a.tmps)=b:=by
  intro b hg
  unfold Grd at hg
  cases hgd:o.guard with
  |none=>simp only[hgd]at hg;simp[Region.wanted,hgd,hg]
  |some jw=>
   obtain⟨j,want⟩:=jw
   simp only[hgd]at hg
   obtain⟨oj,d,hj,hjd,hgb⟩:=hg
   have hw:=hL.grd i o j want him hoi hgd
   have hjt:zb5 l j=some d:=by simp[zb5,hj,hjd]
   have hFe:F d=fget (Ls l S0 res i).F d:=by
    rw[h.lk.hit j d (hws j hw.1) (by omega) hjt,<-hlex.hit j d hw.2 (by omega) hjt]
   rcases hgb with⟨β,hf,rfl⟩ |⟨us,hf,rfl⟩
   ·have:=(h.sat.facts d _ (hFe.trans hf)).2
    simp only[TF.at_,RV.at_]at this
    have hy:yielded l.toArray a.tmps j=some β:=by
     unfold yielded
     simp only[List.getElem?_toArray,hj,Option.bind_some,hjd]
     cases ht:a.tmps[d]? with
     |none=>simp[ht,undef]at this
     |some v=>simp[ht]at this;subst this;rfl
    simp[Region.wanted,hgd,hy]
   ·have:=(h.sat.facts d _ (hFe.trans hf)).2
    simp only[TF.at_,RV.at_]at this
    obtain⟨vs,hv,_⟩:=this
    have hy:yielded l.toArray a.tmps j=none:=by
     unfold yielded
     simp only[List.getElem?_toArray,hj,Option.bind_some,hjd]
     cases ht:a.tmps[d]? with
     |none=>rfl
     |some v=>simp[ht]at hv;subst hv;rfl
    simp[Region.wanted,hgd,hy]
 unfold wpOp
 simp only[List.getElem?_toArray,hoi]
 rcases hst with⟨hg,hr⟩ |⟨hg,hneed,hv,hids⟩
 ·rw[hgrd false hg]
  simp only[Bool.false_eq_true,if_false]
  refine hK _ _ k g _ _ ⟨h.sat.skipped (dst:=o.dst),?_,?_,?_,?_,hbelow⟩
  ·have:=hlk
   simp only[hr,ffAt,hdsti]at this
   exact this
  ·intro t f hf id hid
   simp only[updF]at hf
   split at hf
   ·cases hf;simp[zam]at hid
   ·exact(h.kF t f hf id hid).mono λj hj=> .inl hj
  ·intro x o' ho' id hid
   exact(h.kO x o' ho' id hid).mono λj hj=> .inl hj
  ·exact hkx
 ·rw[hgrd true hg]
  simp only[if_true]
  left
  have hknown: ∀id∈zbb (Ls l S0 res i) o,id<idAt l S0 res i/\Kn l S0 res m D id:=by
   intro id hid
   have:=(za5.1 hneed) id hid
   split at this
   ·rename_i hb
    have hb:id<S0.nx:=Nat.le_of_ble_eq_true hb
    exact⟨Nat.lt_of_lt_of_le hb (zg0 (S0:=S0) (res:=res) (Nat.zero_le i) (by omega)), .inl hb⟩
   ·split at this
    ·rename_i j hj
     obtain⟨h1,h2,h3⟩:=zrf (zmm hj)
     obtain⟨oj,hoj⟩:=Option.isSome_iff_exists.1 h2
     exact⟨h3▸zwt h1 (by omega) hoj, .inr ⟨j,hws j (zbg.1 this),by omega,h2,h3⟩⟩
    ·cases this
  have howns: ∀id∈zbb (Ls l S0 res i) o,O id=oget (Ls l S0 res i).O id:=by
   intro id hid
   rcases(hknown id hid).2 with hlt |⟨j,hj,hjm,hjs,rfl⟩
   ·have old: ∀j o,(res j).2=some o->j<m->idAt l S0 res j≠id:=λj o ho hjm e=>by
     have:=zg0 (l:=l) (S0:=S0) (res:=res) (Nat.zero_le j) (by have:=hL.le;omega)
     simp only[idAt,Ls]at this e
     omega
    rw[h.lk.omiss id λj o _ hjm ho=>old j o ho hjm,hlex.omiss id λj o _ hjm ho=>old j o ho hjm]
   ·obtain⟨oj,hoj⟩:=Option.isSome_iff_exists.1 hjs
    have hji:j<i:=by
     rcases Nat.lt_or_ge j i with h1 |h1
     ·exact h1
     ·have:=(hknown _ hid).1
      have h2:=zg0 (l:=l) (S0:=S0) (res:=res) h1 (by have:=hL.le;omega)
      omega
    rw[h.lk.ohit j oj hj hjm hoj,hlex.ohit j oj hji hjm hoj]
  have hov: ∀id∈zbb (Ls l S0 res i) o,ovr xo O id=O id:=λid hid=>z8f λx o' e hx=>hxo x o' o e hoi (hx▸hid)
  have hsat:SatE B N (foot (Ls l S0 res i) o) a w k g:=by
   have hget: ∀id o',oget (foot (Ls l S0 res i) o).O id=some o'->id∈zbb (Ls l S0 res i) o/\ovr xo O id=some o'/\(id∈ids1 (Ls l S0 res i) o\/isCh (Ls l S0 res i) id=true):=λid o' ho'=>by
    simp only[foot,zj9]at ho'
    split at ho'
    ·rename_i hmem
     rcases List.mem_append.1 hmem with h1 |h1
     ·have hh:id∈zbb (Ls l S0 res i) o:=List.mem_append_left _ h1
      exact⟨hh,(hov id hh).trans ((howns id hh).trans ho'), .inl h1⟩
     ·have hh:id∈zbb (Ls l S0 res i) o:=List.mem_append_right _ (List.mem_filter.1 h1).1
      exact⟨hh,(hov id hh).trans ((howns id hh).trans ho'), .inr (List.mem_filter.1 h1).2⟩
    ·cases ho'
   refine⟨h.sat.size,h.sat.defers,h.sat.keep,h.sat.kk,λt f hf=>?_,λid o' ho'=>?_,λx y o1 o2 b hx hy=>h.sat.apart x y o1 o2 b (hget x o1 hx).2.1 (hget y o2 hy).2.1⟩
   ·simp only[foot,zih]at hf
    split at hf
    ·rename_i ht
     have hFt:=(hfacts t ht).trans hf
     refine⟨?_,(h.sat.facts t f hFt).2⟩
     have hin: ∀id∈zam f,id<idAt l S0 res i:=λid hid=>(hknown id (List.mem_append_left _ (by
      obtain⟨x,hx,he⟩:=List.mem_filterMap.1 ht
      cases x<;>simp at he
      subst he
      exact zmb hx (by simp only[opr];exact hf) hid))).1
     cases f with
     |r=>trivial
     |own id=>exact hin id (by simp[zam])
     |adr id off=>exact hin id (by simp[zam])
     |nm id v=>exact hin id (by simp[zam])
     |cut id _ _=>exact hin id (by simp[zam])
    ·cases hf
   ·obtain⟨h1,h2,h3⟩:=hget id o' ho'
    obtain⟨_,_,q3,q4⟩:=h.sat.owns id o' h2
    refine⟨(hknown id h1).1,?_,q3,q4⟩
    cases o' with
    |ch=>trivial
    |gen=>trivial
    |box cells=>
     have hlo:oget (Ls l S0 res i).O id=some (.box cells):=(howns id h1).symm.trans ((hov id h1).symm.trans h2)
     rcases h3 with h3 |h3
     ·intro f hf
      have hin: ∀x∈zam f,x<idAt l S0 res i:=λx hx=>(hknown x (List.mem_append_right _ (zyi h3 hlo hf hx))).1
      cases f with
      |r=>trivial
      |own x=>exact hin x (by simp[zam])
      |adr x off=>exact hin x (by simp[zam])
      |nm x v=>exact hin x (by simp[zam])
      |cut x _ _=>exact hin x (by simp[zam])
     ·simp[isCh,hlo]at h3
  obtain⟨f0,ow0,he,hp⟩:=zot hrd (z3b _ _) (hv (λf ow=>f=(res i).1/\ow=(res i).2) ⟨rfl,rfl⟩)
  obtain⟨rfl,rfl⟩:=he
  have hloc:=zzt (Q:=Q) hT hsat hrd (hp (λf ow=>f=(res i).1/\ow=(res i).2) ⟨rfl,rfl⟩)
  refine Oper.wp_mono ?_ hloc
  rintro a' w' ⟨f,ow,v,k',⟨rfl,rfl⟩,rfl,hext,hkk,hres⟩
  have hidm:idAt l S0 res i<=idAt l S0 res m:=zg0 (by omega) hL.le
  have hs1:=h.sat.ext hext hkk
  have hmem: ∀id∈ziq (res i).1 (res i).2,id=idAt l S0 res i\/id∈zbb (Ls l S0 res i) o:=λid hid=>by
   have:=zbg.1 ((za5.1 hids) id hid)
   exact(List.mem_cons.1 this)
  cases hr:(res i).2 with
  |none=>
   simp only[hr]at hres hlk
   obtain⟨hl1,hat⟩:=hres
   have hff:ffAt l S0 res i=(res i).1:=by simp[ffAt,hr]
   rw[hff,hdsti]at hlk
   refine hK _ _ k' g _ _ ⟨hs1.put hod (TF.lt_mono hidm hl1) hat,hlk,λt f hf id hid=>?_,λx o' ho' id hid=>(h.kO x o' ho' id hid).mono λj hj=> .inl hj,hkx,hbelow⟩
   simp only[updF]at hf
   split at hf
   ·cases hf
    have hne:id≠idAt l S0 res i:=λe=>by
     subst e
     have: ∀(f:TF),f.lt (idAt l S0 res i)->idAt l S0 res i∉zam f:=λf hf hm=>by
      cases f<;>simp[zam]at hm<;>subst hm<;>simp[TF.lt]at hf
     exact this _ hl1 hid
    rcases hmem id (by rw[hr];simpa[ziq]using hid)with e |hall
    ·exact absurd e hne
    ·exact(hknown id hall).2.mono λj hj=> .inl hj
   ·exact(h.kF t f hf id hid).mono λj hj=> .inl hj
  |some ow=>
   simp only[hr]at hres hlk
   obtain⟨ob,hfe,hl1,hat,hblk⟩:=hres
   have hff:ffAt l S0 res i= .own (idAt l S0 res i):=by simp[ffAt,hr]
   rw[hff,hdsti]at hlk
   have hnk: ¬Kn l S0 res m D (idAt l S0 res i):=by
    rintro(hlt |⟨j,hj,hjm,hjs,he⟩)
    ·have:=zg0 (l:=l) (S0:=S0) (res:=res) (Nat.zero_le i) (by omega)
     simp only[idAt,Ls]at this hlt
     omega
    ·obtain⟨oj,hoj⟩:=Option.isSome_iff_exists.1 hjs
     exact hi2 j oj ow hj hjm hoj hr he
   have hidlt:idAt l S0 res i<idAt l S0 res m:=zwt him hL.le hr
   have hnone:O (idAt l S0 res i)=none:=by
    cases hO:O (idAt l S0 res i)with
    |none=>rfl
    |some o'=>
     exfalso
     rw[h.lk.omiss _ λj o hj hjm ho=>hi2 j o ow hj hjm ho hr]at hO
     exact hnk (.inl (h0 _ _ hO))
   have howl: ∀{o':Ow} {n:Nat},o'.lt n->n∉zcm o':=λ{o' n} hl hm=>by
    cases o' with
    |ch=>simp[zcm]at hm
    |gen=>simp[zcm]at hm
    |box cells=>
     obtain⟨f,hf,hid⟩:=List.mem_flatMap.1 hm
     have:=hl f hf
     cases f<;>simp[zam]at hid<;>subst hid<;>simp[TF.lt]at this
   have hxi: ∀x o,xo=some (x,o)->x≠idAt l S0 res i:=λx o e hx=>hnk (hx▸(h.kx x o e).1)
   have hnone':ovr xo O (idAt l S0 res i)=none:=by rw[z8f hxi];exact hnone
   have hmk:=hs1.make hod (vb:=(v,ob)) hidlt hnone' (λt f hf hm=>hnk (h.kF t f hf _ hm)) (λx o' ho' hm=>hnk (h.kOv x o' ho' _ hm)) (Ow.lt_mono hidm hl1) (howl hl1) hat
    (λb hb=>⟨.inl (by have:=(hblk b hb).1;have:=h.sat.keep.size;omega),(hblk b hb).2⟩) (λx o' b ho' hb hgb=>by
     have:=(hblk b hb).1
     have:=((h.sat.owns x o' ho').2.2.2 b hgb).2
     omega)
   rw[<-ze3b hxi]at hmk
   refine hK _ _ k' _ _ _ ⟨hmk,hlk,λt f hf id hid=>?_,λx o' ho' id hid=>?_,hkx,hbelow⟩
   ·simp only[updF]at hf
    split at hf
    ·cases hf
     simp only[zam,List.mem_singleton]at hid
     subst hid
     exact .inr ⟨i, .inr rfl,him,by simp[hr],rfl⟩
    ·exact(h.kF t f hf id hid).mono λj hj=> .inl hj
   ·simp only[updO]at ho'
    split at ho'
    ·cases ho'
     have hne:id≠idAt l S0 res i:=λe=>howl (n:=idAt l S0 res i) hl1 (by rw[<-e];exact hid)
     rcases hmem id (by
      rw[hr]
      cases ow with
      |ch=>simp[zcm]at hid
      |gen=>simp[zcm]at hid
      |box cells=>simp only[ziq];exact List.mem_append_right _ hid)with e |hall
     ·exact absurd e hne
     ·exact(hknown id hall).2.mono λj hj=> .inl hj
    ·exact(h.kO x o' ho' id hid).mono λj hj=> .inl hj
end
def stF(F:Nat->Option TF):List Nat->List (Nat×TF)
 |[]=>[]
 |t::r=>match F t with
  |some f=>(t,f)::stF F r
  |none=>stF F r
def stO(O:Nat->Option Ow):List Nat->List (Nat×Option Ow)
 |[]=>[]
 |i::r=>(i,O i)::stO O r
theorem zpq{F:Nat->Option TF}: ∀{ts:List Nat} {t:Nat},fget (stF F ts) t=if t∈ts then F t else none
 |[],t=>by simp[stF,fget]
 |u::r,t=>by
  simp only[stF]
  by_cases hu:u=t
  ·subst hu
   cases hf:F u with
   |some f=>simp[fget]
   |none=>simp[zpq,hf]
  ·have hb:Nat.beq u t=false:=by
    cases hb:Nat.beq u t
    ·rfl
    ·exact absurd (Nat.eq_of_beq_eq_true hb) hu
   have hmem:t∈u::r↔t∈r:=by simp[Ne.symm hu]
   cases hf:F u with
   |some f=>simp only[fget,hb];rw[zpq];simp only[hmem]
   |none=>simp only;rw[zpq];simp only[hmem]
theorem z2j{O:Nat->Option Ow}: ∀{ts:List Nat} {t:Nat},oget (stO O ts) t=if t∈ts then O t else none
 |[],t=>by simp[stO,oget]
 |u::r,t=>by
  simp only[stO]
  by_cases hu:u=t
  ·subst hu;simp[oget]
  ·have hb:Nat.beq u t=false:=by
    cases hb:Nat.beq u t
    ·rfl
    ·exact absurd (Nat.eq_of_beq_eq_true hb) hu
   have hmem:t∈u::r↔t∈r:=by simp[Ne.symm hu]
   simp only[oget,hb];rw[z2j];simp only[hmem]
section
variable {P:Program} {T:TT} {S S':St} {t:TypeId} {x y:Operand} {K:St->Prop}
theorem zv2{ti:TI}{v:RV}{id off:Nat}(ho:oget S'.O id=oget S.O id)(h:stAt S ti v K id off):
  ∃o',K (S.set id (some o'))/\zcm o' ⊆ (match oget S.O id with |some o=>zcm o |none=>[])/\∀K':St->Prop,K' (S'.set id (some o'))->stAt S' ti v K' id off:=by
 unfold stAt at h
 unfold stAt
 rw[ho]
 split at h
 ·rename_i cells hc
  split at h
  ·exact h.elim
  ·rename_i hcond
   have hp:off+((cellsOf v).map TF.r).length<=cells.length:=by
    simp only[Bool.and_eq_true,Nat.beq_eq,Nat.ble_eq]at hcond
    rw[List.length_map,hcond.2.1]
    exact hcond.2.2
   rw[zfq _ _ _ _ hp,zd6]at h
   refine⟨_,h,?_,λK' hK'=>?_⟩
   ·intro i hi
    simp only[zcm,List.flatMap_append,List.mem_append]at hi
    simp only[hc,zcm]
    rcases hi with(hi |hi) |hi
    ·obtain⟨f,hf,hfi⟩:=List.mem_flatMap.1 hi
     exact List.mem_flatMap.2 ⟨f,List.mem_of_mem_take hf,hfi⟩
    ·obtain⟨f,hf,hfi⟩:=List.mem_flatMap.1 hi
     obtain⟨r,_,rfl⟩:=List.mem_map.1 hf
     simp[zam]at hfi
    ·obtain⟨f,hf,hfi⟩:=List.mem_flatMap.1 hi
     exact List.mem_flatMap.2 ⟨f,List.mem_of_mem_drop hf,hfi⟩
   ·rw[zfq _ _ _ _ hp,zd6]
    exact hK'
 ·rename_i e sz n cells hc
  split at h
  ·exact h.elim
  ·obtain⟨hfit,zs,hz,h⟩:=h
   rw[zd6]at h
   refine⟨_,h,by simp[zcm],λK' hK'=>?_⟩
   exact⟨hfit,zs,hz,by rw[zd6];exact hK'⟩
 ·exact h.elim
theorem zb0b{f:TF}{v:RV}(ho: ∀id∈zam f,oget S'.O id=oget S.O id)(h:stv S T t f v K):
  ∃id o',id∈zam f/\K (S.set id (some o'))/\zcm o' ⊆ (match oget S.O id with |some o=>zcm o |none=>[])/\∀K':St->Prop,K' (S'.set id (some o'))->stv S' T t f v K':=by
 unfold stv at h
 split at h
 ·rename_i ti hti
  split at h
  ·rename_i id
   split at h
   ·rename_i cells hc
    obtain⟨o',h1,h2,h3⟩:=zv2 (ho id (by simp[zam])) h
    refine⟨id,o',by simp[zam],h1,h2,λK' hK'=>?_⟩
    unfold stv
    simp only[hti]
    rw[ho id (by simp[zam]),hc]
    exact h3 K' hK'
   ·exact h.elim
  ·rename_i id off
   obtain⟨o',h1,h2,h3⟩:=zv2 (ho id (by simp[zam])) h
   refine⟨id,o',by simp[zam],h1,h2,λK' hK'=>?_⟩
   unfold stv
   simp only[hti]
   exact h3 K' hK'
  ·exact h.elim
 ·exact h.elim
theorem z01{cells:List TF}{off i id2:Nat}(h:i∈zcm (.box (cells.take off++[.own id2]++cells.drop (off+1)))):i∈zcm (.box cells)\/i=id2:=by
 simp only[zcm,List.flatMap_append,List.mem_append]at h
 rcases h with(h |h) |h
 ·obtain⟨f,hf,hfi⟩:=List.mem_flatMap.1 h
  exact .inl (List.mem_flatMap.2 ⟨f,List.mem_of_mem_take hf,hfi⟩)
 ·simp[zam]at h;exact .inr h
 ·obtain⟨f,hf,hfi⟩:=List.mem_flatMap.1 h
  exact .inl (List.mem_flatMap.2 ⟨f,List.mem_of_mem_drop hf,hfi⟩)
theorem zbyb(hx:opr S' x=opr S x)(hy:opr S' y=opr S y)(ho: ∀f,(opr S x=some f\/opr S y=some f)->∀id∈zam f,oget S'.O id=oget S.O id)(h:sto T S none t x y K):
  ∃id o',stId S x=some id/\K (S.set id (some o'))/\(∀i∈zcm o',(∃o,oget S.O id=some o/\i∈zcm o)\/∃g,opr S y=some g/\i∈zam g)/\∀K':St->Prop,K' (S'.set id (some o'))->sto T S' none t x y K':=by
 unfold sto at h
 unfold sto
 rw[hx,hy]
 split at h
 ·rename_i f g' hf hg
  have hof:=ho f (.inl hf)
  have hog:=ho g' (.inr hg)
  split at h
  ·rename_i id2
   have e2:=hog id2 (by simp[zam])
   rw[e2]
   split at h
   ·rename_i ow2 j off h2
    have ej:=hof j (by simp[zam])
    rw[ej]
    split at h
    ·rename_i cells hc
     split at h
     ·exact h.elim
     ·split at h
      ·rename_i ti hti
       split at h
       ·rename_i h1
        rw[zd6]at h
        refine⟨j,_,by simp[stId,hf],h,λi hi=>?_,λK' hK'=>?_⟩
        ·rcases z01 hi with hi |rfl
         ·exact .inl ⟨_,hc,hi⟩
         ·exact .inr ⟨_,hg,by simp[zam]⟩
        ·rw[zd6]
         exact hK'
       ·exact h.elim
      ·exact h.elim
    ·exact h.elim
   ·rename_i ow2 j h2
    have ej:=hof j (by simp[zam])
    rw[ej]
    split at h
    ·rename_i cells hc
     split at h
     ·exact h.elim
     ·split at h
      ·rename_i ti hti
       split at h
       ·rename_i h1
        rw[zd6]at h
        refine⟨j,_,by simp[stId,hf],h,λi hi=>?_,λK' hK'=>?_⟩
        ·rcases z01 (off:=0) hi with hi |rfl
         ·exact .inl ⟨_,hc,hi⟩
         ·exact .inr ⟨_,hg,by simp[zam]⟩
        ·rw[zd6]
         exact hK'
       ·exact h.elim
      ·exact h.elim
    ·exact h.elim
   ·exact h.elim
  ·rename_i v
   obtain⟨id,o',h1,h2,h3,h4⟩:=zb0b hof h
   rw[za4]at h2
   refine⟨id,o',?_,h2,λi hi=> .inl ?_,λK' hK'=>h4 _ (by rw[za4];exact hK')⟩
   ·cases f with
    |r=>simp[zam]at h1
    |own j=>simp[zam]at h1;subst h1;simp[stId,hf]
    |adr j off=>simp[zam]at h1;subst h1;simp[stId,hf]
    |nm j u=>exact absurd h (by unfold stv;split<;>exactλh=>h)
    |cut j o u=>exact absurd h (by unfold stv;split<;>exactλh=>h)
   ·have:=h3 hi
    cases hq:oget S.O id with
    |none=>simp[hq]at this
    |some o=>simp only[hq]at this;exact⟨o,rfl,this⟩
  ·exact h.elim
 ·exact h.elim
end
section
variable {P:Program} {T:TT} {B:Bs} {N:Nat} {a:Act} {w:World} {k:Kp} {g:Env} {Q:Exit->Act->World->Prop}
variable {l:List Oper} {S0:St} {res:RS} {m:Nat} {F:Nat->Option TF} {O:Nat->Option Ow} {D:Nat->Prop}
theorem zqn: ∀{L:List (Nat×TF)} {t:Nat} {f:TF},fget L t=some f->t∈L.map (·.1)
 |[],t,f,h=>by simp[fget]at h
 |(u,f0)::r,t,f,h=>by
  rcases zbd h with⟨rfl,_⟩ |⟨_,h⟩
  ·simp
  ·exact List.mem_cons_of_mem _ (zqn h)
theorem zq2: ∀{L:List (Nat×Option Ow)} {t:Nat} {f:Ow},oget L t=some f->t∈L.map (·.1)
 |[],t,f,h=>by simp[oget]at h
 |(u,f0)::r,t,f,h=>by
  rcases zav h with⟨rfl,_⟩ |⟨_,h⟩
  ·simp
  ·exact List.mem_cons_of_mem _ (zq2 h)
structure LateSt (l:List Oper) (ws:List (List Nat)) (S0:St) (res:RS) (m:Nat) (o:Oper) (t:TypeId) (x y:Operand):Prop where
 at_:l[m]?=some o
 op:o.op= .store t x y
 dst:o.dst=none
 grd:o.guard=none
 need:zbc (Ls l S0 res m) o S0.nx (Cs l S0 res m) ((lget ws m).getD [])=true
 rd: ∀j s,j<m->zb5 l j=some s->s∈zed o->j∈(lget ws m).getD []
theorem z7z(hT:TOk P T){ws:List (List Nat)}(hL:Looks l ws m){o:Oper}{t:TypeId}{x y:Operand}(hst:LateSt l ws S0 res m o t x y)(h:Mid B N l S0 res m D none a w k g F O)(hni: ¬D m)(hws: ∀j∈(lget ws m).getD [],D j)
  {K:St->Prop} (hsto:sto T (Ls l S0 res m) none t x y K):
  ∃id o',stId (Ls l S0 res m) x=some id/\K ((Ls l S0 res m).set id (some o'))/\o.wp P a w (λa' w'=>∃k' g',Mid B N l S0 res m (λj=>D j\/j=m) (some (id,o')) a' w' k' g' F O) Q:=by
 have hlex:=Lk.lex (S0:=S0) (res:=res) hL.le hL.dst m (Nat.le_refl _)
 have hfacts: ∀s∈zed o,F s=fget (Ls l S0 res m).F s:=by
  intro s hs
  by_cases hx: ∃j,j<m/\zb5 l j=some s
  ·obtain⟨j,hj,hjt⟩:=hx
   rw[h.lk.hit j s (hws j (hst.rd j s hj hjt hs)) hj hjt,hlex.hit j s hj hj hjt]
  ·rw[hlex.miss s λj hj _ hjt=>hx ⟨j,hj,hjt⟩,h.lk.miss s λj _ hjm hjt=>hx ⟨j,hjm,hjt⟩]
 have hknown: ∀id∈zbb (Ls l S0 res m) o,Kn l S0 res m D id:=by
  intro id hid
  have:=(za5.1 hst.need) id hid
  split at this
  ·rename_i hb
   exact .inl (Nat.le_of_ble_eq_true hb)
  ·split at this
   ·rename_i j hj
    obtain⟨h1,h2,h3⟩:=zrf (zmm hj)
    exact .inr ⟨j,hws j (zbg.1 this),h1,h2,h3⟩
   ·cases this
 have howns: ∀id∈zbb (Ls l S0 res m) o,O id=oget (Ls l S0 res m).O id:=by
  intro id hid
  rcases hknown id hid with hlt |⟨j,hj,hjm,hjs,rfl⟩
  ·have old: ∀j o,(res j).2=some o->j<m->idAt l S0 res j≠id:=λj o ho hjm e=>by
    have:=zg0 (l:=l) (S0:=S0) (res:=res) (Nat.zero_le j) (by have:=hL.le;omega)
    simp only[idAt,Ls]at this e
    omega
   rw[h.lk.omiss id λj o _ hjm ho=>old j o ho hjm,hlex.omiss id λj o _ hjm ho=>old j o ho hjm]
  ·obtain⟨oj,hoj⟩:=Option.isSome_iff_exists.1 hjs
   rw[h.lk.ohit j oj hj hjm hoj,hlex.ohit j oj hjm hjm hoj]
 have hkeyF: ∀s f,F s=some f->s∈(Ls l S0 res m).F.map (·.1):=by
  intro s f hs
  by_cases hx: ∃j,j<m/\zb5 l j=some s
  ·obtain⟨j,hj,hjt⟩:=hx
   exact zqn (hlex.hit j s hj hj hjt)
  ·rw[h.lk.miss s λj _ hjm hjt=>hx ⟨j,hjm,hjt⟩]at hs
   exact zqn ((hlex.miss s λj hj _ hjt=>hx ⟨j,hj,hjt⟩).trans hs)
 have hkeyO: ∀i q,O i=some q->i∈(Ls l S0 res m).O.map (·.1):=by
  intro i q hi
  by_cases hx: ∃j q',j<m/\(res j).2=some q'/\idAt l S0 res j=i
  ·obtain⟨j,q',hj,hr,rfl⟩:=hx
   exact zq2 (hlex.ohit j q' hj hj hr)
  ·rw[h.lk.omiss i λj q' _ hjm hr he=>hx ⟨j,q',hjm,hr,he⟩]at hi
   exact zq2 ((hlex.omiss i λj q' hj _ hr he=>hx ⟨j,q',hj,hr,he⟩).trans hi)
 obtain⟨S',hS'⟩: ∃S':St,S'={F:=stF F ((Ls l S0 res m).F.map (·.1)),O:=stO O ((Ls l S0 res m).O.map (·.1)),nx:=idAt l S0 res m}:=⟨_,rfl⟩
 have eF:fget S'.F=F:=by
  funext s
  rw[hS',zpq]
  split
  ·rfl
  ·rename_i hn
   cases hs:F s with
   |none=>rfl
   |some f=>exact absurd (hkeyF s f hs) hn
 have eO:oget S'.O=O:=by
  funext s
  rw[hS',z2j]
  split
  ·rfl
  ·rename_i hn
   cases hs:O s with
   |none=>rfl
   |some f=>exact absurd (hkeyO s f hs) hn
 have enx:S'.nx=idAt l S0 res m:=by rw[hS']
 have hsat:SatE B N S' a w k g:=SatF.toE (by rw[eF,eO,enx];exact h.sat)
 have hmem: ∀z,z=x\/z=y->z∈o.op.operands.toList:=by
  intro z hz
  rw[hst.op]
  rcases hz with rfl |rfl<;>simp[Op.operands]
 have hopr: ∀z,z∈o.op.operands.toList->opr S' z=opr (Ls l S0 res m) z:=by
  intro z hz
  cases z with
  |tmp s=>simp only[opr];rw[eF];exact hfacts s (List.mem_filterMap.2 ⟨.tmp s,hz,rfl⟩)
  |_=>rfl
 have hids: ∀z∈o.op.operands.toList,∀f,opr (Ls l S0 res m) z=some f->∀id∈zam f,id∈zbb (Ls l S0 res m) o:=λz hz f hf id hid=>List.mem_append_left _ (zmb hz hf hid)
 have hmx:=hmem x (.inl rfl)
 have hmy:=hmem y (.inr rfl)
 obtain⟨id,o',h1,h2,h3,h4⟩:=zbyb (S':=S') (hopr x hmx) (hopr y hmy) (λf hf id hid=>by
  rw[eO]
  rcases hf with hf |hf
  ·exact howns id (hids x hmx f hf id hid)
  ·exact howns id (hids y hmy f hf id hid)) hsto
 have hidx:id∈zbb (Ls l S0 res m) o:=by
  unfold stId at h1
  split at h1
  ·rename_i j hj;cases h1;exact hids x hmx _ hj _ (by simp[zam])
  ·rename_i j off hj;cases h1;exact hids x hmx _ hj _ (by simp[zam])
  ·cases h1
 refine⟨id,o',h1,h2,?_⟩
 have hw:=zop (Q:=Q) hT hsat hst.op (K:=λS''=>S''=S'.set id (some o')) (h:=by rw[hst.dst];exact h4 _ rfl)
 refine Oper.wp_mono ?_ hw
 rintro a' w' ⟨S'',k',rfl,g',hs'⟩
 refine⟨k',g',?_,h.lk.congr λj hj=>⟨.inl,λhh=>hh.elim (λq=>q) λe=>by omega⟩,λs f hf i hi=>(h.kF s f hf i hi).mono λj hj=> .inl hj,λi q hq j hj=>(h.kO i q hq j hj).mono λj hj=> .inl hj,λi q e=>?_,λi hi hd=>?_⟩
 ·have hh:=hs'.toF (Nat.le_refl _)
  have e1:fget (S'.set id (some o')).F=F:=eF
  have e2:oget (S'.set id (some o')).O=ovr (some (id,o')) O:=by
   funext j
   simp only[St.set,ovr,updO,oget]
   by_cases hj:j=id
   ·subst hj;simp
   ·have hb:Nat.beq id j=false:=by
     cases hb:Nat.beq id j
     ·rfl
     ·exact absurd (Nat.eq_of_beq_eq_true hb).symm hj
    rw[hb,if_neg hj,eO]
  have e3:(S'.set id (some o')).nx=idAt l S0 res m:=enx
  rw[e1,e2,e3]at hh
  exact hh
 ·cases e
  refine⟨(hknown id hidx).mono λj hj=> .inl hj,λi hi=>?_⟩
  refine Kn.mono (λj hj=> .inl hj) ?_
  rcases h3 i hi with⟨q,hq,hiq⟩ |⟨f,hf,hif⟩
  ·exact h.kO id q ((howns id hidx).trans hq) i hiq
  ·exact hknown i (hids y hmy f hf i hif)
 ·rcases hd with hd |rfl
  ·have:=(h.below i hi hd).2;simp at this
  ·exact⟨rfl,rfl⟩
end
end Go.Proofs.YtoegdgbghdnnfaaGreat.Sx
