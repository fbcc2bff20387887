import Derived.Test.YtpdllgbfemnemaaGreatZSxM
import Derived.Test.YtpdllgbfemnemaaGreatZSxJ
import Derived.Deep.LoopGhost
namespace Go.Proofs.YtpdllgbfemnemaaGreat.Sx
open Go.RowKit
section
section
variable {P:Program} {T:TT} {B:Bs} {N:Nat} {a:Act} {w:World} {k:Kp} {g:Env} {Q:Exit->Act->World->Prop}
variable {l:List Oper} {S0:St} {res:RS} {m:Nat} {F:Nat->Option TF} {O:Nat->Option Ow}
def zq5(S:St):List Nat->List (Nat×TF)
 |[]=>[]
 |t::r=>match fget S.F t with
  |some f=>(t,f)::zq5 S r
  |none=>zq5 S r
def zt4(S:St):List Nat->List (Nat×Option Ow)
 |[]=>[]
 |i::r=>(i,oget S.O i)::zt4 S r
theorem zke{S:St}: ∀{ts:List Nat} {t:Nat},fget (zq5 S ts) t=if t∈ts then fget S.F t else none
 |[],t=>by simp[zq5,fget]
 |u::r,t=>by
  simp only[zq5]
  by_cases hu:u=t
  ·subst hu
   cases hf:fget S.F u with
   |some f=>simp[fget]
   |none=>simp[zke,hf]
  ·have hb:Nat.beq u t=false:=by
    cases hb:Nat.beq u t
    ·rfl
    ·exact absurd (Nat.eq_of_beq_eq_true hb) hu
   have hmem:t∈u::r↔t∈r:=by simp[Ne.symm hu]
   cases hf:fget S.F u with
   |some f=>simp only[fget,hb];rw[zke];simp only[hmem]
   |none=>simp only;rw[zke];simp only[hmem]
theorem zl9{S:St}: ∀{ts:List Nat} {t:Nat},oget (zt4 S ts) t=if t∈ts then oget S.O t else none
 |[],t=>by simp[zt4,oget]
 |u::r,t=>by
  simp only[zt4]
  by_cases hu:u=t
  ·subst hu;simp[oget]
  ·have hb:Nat.beq u t=false:=by
    cases hb:Nat.beq u t
    ·rfl
    ·exact absurd (Nat.eq_of_beq_eq_true hb) hu
   have hmem:t∈u::r↔t∈r:=by simp[Ne.symm hu]
   simp only[oget,hb];rw[zl9];simp only[hmem]
def isCh(S:St)(id:Nat):Bool:=match oget S.O id with
 |some (.ch ..)=>true
 |_=>false
def zv0(S:St)(o:Oper):List Nat:=ids1 S o++(ids2 S (ids1 S o)).filter (isCh S)
def foot(S:St)(o:Oper):St:={F:=zq5 S (ze1 o),O:=zt4 S (zv0 S o),nx:=S.nx}
theorem z52(S:St)(o:Oper):Agree S (foot S o) o:=by
 refine⟨rfl,λx hx=>?_,λid hid=>?_,λid hid e sz n cells=>?_⟩
 ·cases x with
  |tmp t=>
   have:t∈ze1 o:=List.mem_filterMap.2 ⟨.tmp t,hx,rfl⟩
   simp only[opr,foot,zke,if_pos this]
  |_=>rfl
 ·simp only[foot,zl9]
  rw[if_pos (show id∈zv0 S o from List.mem_append_left _ hid)]
 ·simp only[foot,zl9]
  by_cases hm:id∈zv0 S o
  ·rw[if_pos hm]
  ·rw[if_neg hm]
   constructor
   ·intro h
    exact absurd (List.mem_append_right _ (List.mem_filter.2 ⟨hid,by simp[isCh,h]⟩)) hm
   ·intro h;cases h
def Kn(l:List Oper)(S0:St)(res:RS)(m:Nat)(D:Nat->Prop)(id:Nat):Prop:=id<S0.nx\/∃j,D j/\j<m/\(res j).2.isSome=true/\idAt l S0 res j=id
def ovr(xo:Option (Nat×Ow))(O:Nat->Option Ow):Nat->Option Ow:=
 match xo with
 |none=>O
 |some (x,o)=>updO O x o
theorem z7z{xo:Option (Nat×Ow)}{O:Nat->Option Ow}{id:Nat}(h: ∀x o,xo=some (x,o)->x≠id):ovr xo O id=O id:=by
 cases xo with
 |none=>rfl
 |some q=>simp only[ovr,updO];rw[if_neg λe=>h q.1 q.2 rfl e.symm]
theorem zecb{xo:Option (Nat×Ow)}{O:Nat->Option Ow}{id:Nat}{ow:Ow}(h: ∀x o,xo=some (x,o)->x≠id):ovr xo (updO O id ow)=updO (ovr xo O) id ow:=by
 cases xo with
 |none=>rfl
 |some q=>
  funext j
  simp only[ovr,updO]
  have:=h q.1 q.2 rfl
  by_cases h1:j=q.1
  ·rw[if_pos h1,if_neg (λe=>this (h1.symm.trans e)),if_pos h1]
  ·by_cases h2:j=id
   ·rw[if_neg h1,if_pos h2,if_pos h2]
   ·rw[if_neg h1,if_neg h2,if_neg h2,if_neg h1]
structure Mid (B:Bs) (N:Nat) (l:List Oper) (S0:St) (res:RS) (m:Nat) (D:Nat->Prop) (xo:Option (Nat×Ow)) (a:Act) (w:World) (k:Kp) (g:Env) (F:Nat->Option TF) (O:Nat->Option Ow):Prop where
 sat:SatF B N F (ovr xo O) (idAt l S0 res m) a w k g
 lk:Lk l S0 res m D F O
 kF: ∀t f,F t=some f->∀id∈zao f,Kn l S0 res m D id
 kO: ∀i o,O i=some o->∀id∈zc8 o,Kn l S0 res m D id
 kx: ∀x o,xo=some (x,o)->Kn l S0 res m D x/\∀id∈zc8 o,Kn l S0 res m D id
 below: ∀i,m<=i->D i->i=m/\xo.isSome=true
theorem Mid.kOv{D:Nat->Prop}{xo:Option (Nat×Ow)}(h:Mid B N l S0 res m D xo a w k g F O): ∀i o,ovr xo O i=some o->∀id∈zc8 o,Kn l S0 res m D id:=by
 intro i o hi id hid
 cases xo with
 |none=>exact h.kO i o hi id hid
 |some q=>
  simp only[ovr,updO]at hi
  split at hi
  ·cases hi;exact(h.kx q.1 q.2 rfl).2 id hid
  ·exact h.kO i o hi id hid
end
theorem zuc{l:List Oper}{S0:St}{res:RS}: ∀{i:Nat} {id j:Nat},(id,j)∈Cs l S0 res i->j<i/\(res j).2.isSome=true/\idAt l S0 res j=id
 |0,id,j,h=>by simp[Cs]at h
 |i+1,id,j,h=>by
  simp only[Cs,zhh]at h
  split at h
  ·rename_i o ho
   rcases List.mem_cons.1 h with e |h
   ·cases e;exact⟨by omega,by simp[ho],rfl⟩
   ·have:=zuc h;exact⟨by omega,this.2⟩
  ·have:=zuc h;exact⟨by omega,this.2⟩
theorem zn0: ∀{ρ:List (Nat×Nat)} {i j:Nat},zdx ρ i=some j->(i,j)∈ρ
 |[],i,j,h=>by simp[zdx]at h
 |(u,f)::r,i,j,h=>by
  simp only[zdx]at h
  split at h
  ·rename_i hb;cases h;rw[<-Nat.eq_of_beq_eq_true hb];simp
  ·exact List.mem_cons_of_mem _ (zn0 h)
section
variable {P:Program} {T:TT} {B:Bs} {N:Nat} {a:Act} {w:World} {k:Kp} {g:Env} {Q:Exit->Act->World->Prop}
variable {l:List Oper} {S0:St} {res:RS} {m:Nat} {F:Nat->Option TF} {O:Nat->Option Ow} {D:Nat->Prop}
structure Looks (l:List Oper) (ws:List (List Nat)) (m:Nat):Prop where
 le:m<=l.length
 edge: ∀i o,l[i]?=some o->∀e∈zbd o,e<i
 back: ∀i,m<i->i<l.length->∀j,j<i->j∈(lget ws i).getD []
 late: ∀o,l[m]?=some o->(∀j,j<m->j∈(lget ws m).getD [])\/∃t x y,o.op= .store t x y/\o.dst=none/\o.guard=none/\∀j s,j<m->zcq l j=some s->s∈ze1 o->j∈(lget ws m).getD []
 dst: ∀i j t,i<m->j<i->zcq l j=some t->zcq l i≠some t
 grd: ∀i o j want,i<m->l[i]?=some o->o.guard=some (j,want)->j∈(lget ws i).getD []/\j<i
 rd: ∀i j o t,i<m->j<i->l[i]?=some o->zcq l j=some t->t∈ze1 o->j∈(lget ws i).getD []
 wr: ∀i j p t,i<m->j<i->l[j]?=some p->zcq l i=some t->t∈ze1 p->j∈(lget ws i).getD []
theorem Kn.mono{D D':Nat->Prop}(h: ∀j,D j->D' j){id:Nat}(hk:Kn l S0 res m D id):Kn l S0 res m D' id:=hk.imp (λx=>x) λ⟨j,h1,h2⟩=>⟨j,h j h1,h2⟩
theorem z1j(hm:P.follows .mixedOrders=true)(hT:TOk P T)(hN: ∀o∈l,∀d,o.dst=some d->d<N){ws:List (List Nat)}(hL:Looks l ws m)(hstp: ∀j,j<m->Stp P T l ws S0 res j)
  (h0: ∀id o,oget S0.O id=some o->id<S0.nx) {xo:Option (Nat×Ow)} (h:Mid B N l S0 res m D xo a w k g F O) {i:Nat} (hxo: ∀x o' o,xo=some (x,o')->l[i]?=some o->x∉zbo (Ls l S0 res i) o) (him:i<m) (hni: ¬D i) (hws: ∀j∈(lget ws i).getD [],D j) (hcl: ∀j,D j->∀x∈(lget ws j).getD [],D x)
  {K:Act->World->Prop} (hK: ∀a' w' k' g' F' O',Mid B N l S0 res m (λj=>D j\/j=i) xo a' w' k' g' F' O'->K a' w'):
  wpOp P l.toArray Q i K a w:=by
 have hil:i<l.length:=Nat.lt_of_lt_of_le him hL.le
 obtain⟨o,hoi,hrd,hst⟩:=hstp i him
 have hod: ∀d,o.dst=some d->d<N:=hN o (List.mem_of_getElem? hoi)
 have hdsti:zcq l i=o.dst:=by simp[zcq,hoi]
 have hlex:=Lk.lex (S0:=S0) (res:=res) hL.le hL.dst i (by omega)
 have hfacts: ∀t∈ze1 o,F t=fget (Ls l S0 res i).F t:=by
  intro t ht
  by_cases hx: ∃j,j<i/\zcq l j=some t
  ·obtain⟨j,hj,hjt⟩:=hx
   rw[h.lk.hit j t (hws j (hL.rd i j o t him hj hoi hjt ht)) (by omega) hjt,hlex.hit j t hj (by omega) hjt]
  ·rw[hlex.miss t λj hj _ hjt=>hx ⟨j,hj,hjt⟩,h.lk.miss t λj hj hjm hjt=>?_]
   rcases Nat.lt_trichotomy j i with hlt |rfl |hgt
   ·exact hx ⟨j,hlt,hjt⟩
   ·exact hni hj
   ·exact hni (hcl j hj i (hL.wr j i o t hjm hgt hoi hjt ht))
 have hd2: ∀j t,D j->j<m->zcq l j=some t->zcq l i≠some t:=λj t hj hjm hjt hit=>by
  rcases Nat.lt_trichotomy j i with hlt |rfl |hgt
  ·exact hL.dst i j t him hlt hjt hit
  ·exact hni hj
  ·exact hL.dst j i t hjm hgt hit hjt
 have hi2: ∀j o o',D j->j<m->(res j).2=some o->(res i).2=some o'->idAt l S0 res j≠idAt l S0 res i:=λj o o' hj hjm ho ho'=>
  z87 (by have:=hL.le;omega) hil (λe=>hni (e▸hj)) ho ho'
 have hlk:=h.lk.step him hd2 hi2
 have hbelow: ∀x,m<=x->(D x\/x=i)->x=m/\xo.isSome=true:=λx hx hh=>hh.elim (h.below x hx) (λe=>by omega)
 have hkx: ∀x o,xo=some (x,o)->Kn l S0 res m (λj=>D j\/j=i) x/\∀id∈zc8 o,Kn l S0 res m (λj=>D j\/j=i) id:=λx o e=>⟨(h.kx x o e).1.mono λj hj=> .inl hj,λid hid=>((h.kx x o e).2 id hid).mono λj hj=> .inl hj⟩
 have hgrd: ∀b,Grd l (Ls l S0 res i) o b->Region.wanted o (yielded l.toArray a.tmps)=b:=by
  intro b hg
  unfold Grd at hg
  cases hgd:o.guard with
  |none=>simp only[hgd]at hg;simp[Region.wanted,hgd,hg]
  |some jw=>
   obtain⟨j,want⟩:=jw
   simp only[hgd]at hg
   obtain⟨oj,d,hj,hjd,hgb⟩:=hg
   have hw:=hL.grd i o j want him hoi hgd
   have hjt:zcq l j=some d:=by simp[zcq,hj,hjd]
   have hFe:F d=fget (Ls l S0 res i).F d:=by
    rw[h.lk.hit j d (hws j hw.1) (by omega) hjt,<-hlex.hit j d hw.2 (by omega) hjt]
   rcases hgb with⟨β,hf,rfl⟩ |⟨us,hf,rfl⟩
   ·have:=(h.sat.facts d _ (hFe.trans hf)).2
    simp only[TF.at_,RV.at_]at this
    have hy:yielded l.toArray a.tmps j=some β:=by
     unfold yielded
     simp only[List.getElem?_toArray,hj,Option.bind_some,hjd]
     cases ht:a.tmps[d]? with
     |none=>simp[ht,undef]at this
     |some v=>simp[ht]at this;subst this;rfl
    simp[Region.wanted,hgd,hy]
   ·have:=(h.sat.facts d _ (hFe.trans hf)).2
    simp only[TF.at_,RV.at_]at this
    obtain⟨vs,hv,_⟩:=this
    have hy:yielded l.toArray a.tmps j=none:=by
     unfold yielded
     simp only[List.getElem?_toArray,hj,Option.bind_some,hjd]
     cases ht:a.tmps[d]? with
     |none=>rfl
     |some v=>simp[ht]at hv;subst hv;rfl
    simp[Region.wanted,hgd,hy]
 unfold wpOp
 simp only[List.getElem?_toArray,hoi]
 rcases hst with⟨hg,hr⟩ |⟨hg,hneed,hv,hids⟩
 ·rw[hgrd false hg]
  simp only[Bool.false_eq_true,if_false]
  refine hK _ _ k g _ _ ⟨h.sat.skipped (dst:=o.dst),?_,?_,?_,?_,hbelow⟩
  ·have:=hlk
   simp only[hr,ffAt,hdsti]at this
   exact this
  ·intro t f hf id hid
   simp only[updF]at hf
   split at hf
   ·cases hf;simp[zao]at hid
   ·exact(h.kF t f hf id hid).mono λj hj=> .inl hj
  ·intro x o' ho' id hid
   exact(h.kO x o' ho' id hid).mono λj hj=> .inl hj
  ·exact hkx
 ·rw[hgrd true hg]
  simp only[if_true]
  left
  have hknown: ∀id∈zbo (Ls l S0 res i) o,id<idAt l S0 res i/\Kn l S0 res m D id:=by
   intro id hid
   have:=(zbk.1 hneed) id hid
   split at this
   ·rename_i hb
    have hb:id<S0.nx:=Nat.le_of_ble_eq_true hb
    exact⟨Nat.lt_of_lt_of_le hb (zh2 (S0:=S0) (res:=res) (Nat.zero_le i) (by omega)), .inl hb⟩
   ·split at this
    ·rename_i j hj
     obtain⟨h1,h2,h3⟩:=zuc (zn0 hj)
     obtain⟨oj,hoj⟩:=Option.isSome_iff_exists.1 h2
     exact⟨h3▸zyz h1 (by omega) hoj, .inr ⟨j,hws j (zbt.1 this),by omega,h2,h3⟩⟩
    ·cases this
  have howns: ∀id∈zbo (Ls l S0 res i) o,O id=oget (Ls l S0 res i).O id:=by
   intro id hid
   rcases(hknown id hid).2 with hlt |⟨j,hj,hjm,hjs,rfl⟩
   ·have old: ∀j o,(res j).2=some o->j<m->idAt l S0 res j≠id:=λj o ho hjm e=>by
     have:=zh2 (l:=l) (S0:=S0) (res:=res) (Nat.zero_le j) (by have:=hL.le;omega)
     simp only[idAt,Ls]at this e
     omega
    rw[h.lk.omiss id λj o _ hjm ho=>old j o ho hjm,hlex.omiss id λj o _ hjm ho=>old j o ho hjm]
   ·obtain⟨oj,hoj⟩:=Option.isSome_iff_exists.1 hjs
    have hji:j<i:=by
     rcases Nat.lt_or_ge j i with h1 |h1
     ·exact h1
     ·have:=(hknown _ hid).1
      have h2:=zh2 (l:=l) (S0:=S0) (res:=res) h1 (by have:=hL.le;omega)
      omega
    rw[h.lk.ohit j oj hj hjm hoj,hlex.ohit j oj hji hjm hoj]
  have hov: ∀id∈zbo (Ls l S0 res i) o,ovr xo O id=O id:=λid hid=>z7z λx o' e hx=>hxo x o' o e hoi (hx▸hid)
  have hsat:SatE B N (foot (Ls l S0 res i) o) a w k g:=by
   have hget: ∀id o',oget (foot (Ls l S0 res i) o).O id=some o'->id∈zbo (Ls l S0 res i) o/\ovr xo O id=some o'/\(id∈ids1 (Ls l S0 res i) o\/isCh (Ls l S0 res i) id=true):=λid o' ho'=>by
    simp only[foot,zl9]at ho'
    split at ho'
    ·rename_i hmem
     rcases List.mem_append.1 hmem with h1 |h1
     ·have hh:id∈zbo (Ls l S0 res i) o:=List.mem_append_left _ h1
      exact⟨hh,(hov id hh).trans ((howns id hh).trans ho'), .inl h1⟩
     ·have hh:id∈zbo (Ls l S0 res i) o:=List.mem_append_right _ (List.mem_filter.1 h1).1
      exact⟨hh,(hov id hh).trans ((howns id hh).trans ho'), .inr (List.mem_filter.1 h1).2⟩
    ·cases ho'
   refine⟨h.sat.size,h.sat.defers,h.sat.keep,h.sat.kk,λt f hf=>?_,λid o' ho'=>?_,λx y o1 o2 b hx hy=>h.sat.apart x y o1 o2 b (hget x o1 hx).2.1 (hget y o2 hy).2.1⟩
   ·simp only[foot,zke]at hf
    split at hf
    ·rename_i ht
     have hFt:=(hfacts t ht).trans hf
     refine⟨?_,(h.sat.facts t f hFt).2⟩
     have hin: ∀id∈zao f,id<idAt l S0 res i:=λid hid=>(hknown id (List.mem_append_left _ (by
      obtain⟨x,hx,he⟩:=List.mem_filterMap.1 ht
      cases x<;>simp at he
      subst he
      exact zn6 hx (by simp only[opr];exact hf) hid))).1
     cases f with
     |r=>trivial
     |own id=>exact hin id (by simp[zao])
     |adr id off=>exact hin id (by simp[zao])
     |nm id v=>exact hin id (by simp[zao])
    ·cases hf
   ·obtain⟨h1,h2,h3⟩:=hget id o' ho'
    obtain⟨_,_,q3,q4⟩:=h.sat.owns id o' h2
    refine⟨(hknown id h1).1,?_,q3,q4⟩
    cases o' with
    |ch=>trivial
    |gen=>trivial
    |box cells=>
     have hlo:oget (Ls l S0 res i).O id=some (.box cells):=(howns id h1).symm.trans ((hov id h1).symm.trans h2)
     rcases h3 with h3 |h3
     ·intro f hf
      have hin: ∀x∈zao f,x<idAt l S0 res i:=λx hx=>(hknown x (List.mem_append_right _ (zz0 h3 hlo hf hx))).1
      cases f with
      |r=>trivial
      |own x=>exact hin x (by simp[zao])
      |adr x off=>exact hin x (by simp[zao])
      |nm x v=>exact hin x (by simp[zao])
     ·simp[isCh,hlo]at h3
  obtain⟨f0,ow0,he,hp⟩:=zpk hrd (z52 _ _) (hv (λf ow=>f=(res i).1/\ow=(res i).2) ⟨rfl,rfl⟩)
  obtain⟨rfl,rfl⟩:=he
  have hloc:=z1v (Q:=Q) hT hsat hrd (hp (λf ow=>f=(res i).1/\ow=(res i).2) ⟨rfl,rfl⟩)
  refine Oper.wp_mono ?_ hloc
  rintro a' w' ⟨f,ow,v,k',⟨rfl,rfl⟩,rfl,hext,hkk,hres⟩
  have hidm:idAt l S0 res i<=idAt l S0 res m:=zh2 (by omega) hL.le
  have hs1:=h.sat.ext hext hkk
  have hmem: ∀id∈zj2 (res i).1 (res i).2,id=idAt l S0 res i\/id∈zbo (Ls l S0 res i) o:=λid hid=>by
   have:=zbt.1 ((zbk.1 hids) id hid)
   exact(List.mem_cons.1 this)
  cases hr:(res i).2 with
  |none=>
   simp only[hr]at hres hlk
   obtain⟨hl1,hat⟩:=hres
   have hff:ffAt l S0 res i=(res i).1:=by simp[ffAt,hr]
   rw[hff,hdsti]at hlk
   refine hK _ _ k' g _ _ ⟨hs1.put hod (TF.lt_mono hidm hl1) hat,hlk,λt f hf id hid=>?_,λx o' ho' id hid=>(h.kO x o' ho' id hid).mono λj hj=> .inl hj,hkx,hbelow⟩
   simp only[updF]at hf
   split at hf
   ·cases hf
    have hne:id≠idAt l S0 res i:=λe=>by
     subst e
     have: ∀(f:TF),f.lt (idAt l S0 res i)->idAt l S0 res i∉zao f:=λf hf hm=>by
      cases f<;>simp[zao]at hm<;>subst hm<;>simp[TF.lt]at hf
     exact this _ hl1 hid
    rcases hmem id (by rw[hr];simpa[zj2]using hid)with e |hall
    ·exact absurd e hne
    ·exact(hknown id hall).2.mono λj hj=> .inl hj
   ·exact(h.kF t f hf id hid).mono λj hj=> .inl hj
  |some ow=>
   simp only[hr]at hres hlk
   obtain⟨ob,hfe,hl1,hat,hblk⟩:=hres
   have hff:ffAt l S0 res i= .own (idAt l S0 res i):=by simp[ffAt,hr]
   rw[hff,hdsti]at hlk
   have hnk: ¬Kn l S0 res m D (idAt l S0 res i):=by
    rintro(hlt |⟨j,hj,hjm,hjs,he⟩)
    ·have:=zh2 (l:=l) (S0:=S0) (res:=res) (Nat.zero_le i) (by omega)
     simp only[idAt,Ls]at this hlt
     omega
    ·obtain⟨oj,hoj⟩:=Option.isSome_iff_exists.1 hjs
     exact hi2 j oj ow hj hjm hoj hr he
   have hidlt:idAt l S0 res i<idAt l S0 res m:=zyz him hL.le hr
   have hnone:O (idAt l S0 res i)=none:=by
    cases hO:O (idAt l S0 res i)with
    |none=>rfl
    |some o'=>
     exfalso
     rw[h.lk.omiss _ λj o hj hjm ho=>hi2 j o ow hj hjm ho hr]at hO
     exact hnk (.inl (h0 _ _ hO))
   have howl: ∀{o':Ow} {n:Nat},o'.lt n->n∉zc8 o':=λ{o' n} hl hm=>by
    cases o' with
    |ch=>simp[zc8]at hm
    |gen=>simp[zc8]at hm
    |box cells=>
     obtain⟨f,hf,hid⟩:=List.mem_flatMap.1 hm
     have:=hl f hf
     cases f<;>simp[zao]at hid<;>subst hid<;>simp[TF.lt]at this
   have hxi: ∀x o,xo=some (x,o)->x≠idAt l S0 res i:=λx o e hx=>hnk (hx▸(h.kx x o e).1)
   have hnone':ovr xo O (idAt l S0 res i)=none:=by rw[z7z hxi];exact hnone
   have hmk:=hs1.make hod (vb:=(v,ob)) hidlt hnone' (λt f hf hm=>hnk (h.kF t f hf _ hm)) (λx o' ho' hm=>hnk (h.kOv x o' ho' _ hm)) (Ow.lt_mono hidm hl1) (howl hl1) hat
    (λb hb=>⟨.inl (by have:=(hblk b hb).1;have:=h.sat.keep.size;omega),(hblk b hb).2⟩) (λx o' b ho' hb hgb=>by
     have:=(hblk b hb).1
     have:=((h.sat.owns x o' ho').2.2.2 b hgb).2
     omega)
   rw[<-zecb hxi]at hmk
   refine hK _ _ k' _ _ _ ⟨hmk,hlk,λt f hf id hid=>?_,λx o' ho' id hid=>?_,hkx,hbelow⟩
   ·simp only[updF]at hf
    split at hf
    ·cases hf
     simp only[zao,List.mem_singleton]at hid
     subst hid
     exact .inr ⟨i, .inr rfl,him,by simp[hr],rfl⟩
    ·exact(h.kF t f hf id hid).mono λj hj=> .inl hj
   ·simp only[updO]at ho'
    split at ho'
    ·cases ho'
     have hne:id≠idAt l S0 res i:=λe=>howl (n:=idAt l S0 res i) hl1 (by rw[<-e];exact hid)
     rcases hmem id (by
      rw[hr]
      cases ow with
      |ch=>simp[zc8]at hid
      |gen=>simp[zc8]at hid
      |box cells=>simp only[zj2];exact List.mem_append_right _ hid)with e |hall
     ·exact absurd e hne
     ·exact(hknown id hall).2.mono λj hj=> .inl hj
    ·exact(h.kO x o' ho' id hid).mono λj hj=> .inl hj
end
end
section
def stF(F:Nat->Option TF):List Nat->List (Nat×TF)
 |[]=>[]
 |t::r=>match F t with
  |some f=>(t,f)::stF F r
  |none=>stF F r
def stO(O:Nat->Option Ow):List Nat->List (Nat×Option Ow)
 |[]=>[]
 |i::r=>(i,O i)::stO O r
theorem zq2{F:Nat->Option TF}: ∀{ts:List Nat} {t:Nat},fget (stF F ts) t=if t∈ts then F t else none
 |[],t=>by simp[stF,fget]
 |u::r,t=>by
  simp only[stF]
  by_cases hu:u=t
  ·subst hu
   cases hf:F u with
   |some f=>simp[fget]
   |none=>simp[zq2,hf]
  ·have hb:Nat.beq u t=false:=by
    cases hb:Nat.beq u t
    ·rfl
    ·exact absurd (Nat.eq_of_beq_eq_true hb) hu
   have hmem:t∈u::r↔t∈r:=by simp[Ne.symm hu]
   cases hf:F u with
   |some f=>simp only[fget,hb];rw[zq2];simp only[hmem]
   |none=>simp only;rw[zq2];simp only[hmem]
theorem z38{O:Nat->Option Ow}: ∀{ts:List Nat} {t:Nat},oget (stO O ts) t=if t∈ts then O t else none
 |[],t=>by simp[stO,oget]
 |u::r,t=>by
  simp only[stO]
  by_cases hu:u=t
  ·subst hu;simp[oget]
  ·have hb:Nat.beq u t=false:=by
    cases hb:Nat.beq u t
    ·rfl
    ·exact absurd (Nat.eq_of_beq_eq_true hb) hu
   have hmem:t∈u::r↔t∈r:=by simp[Ne.symm hu]
   simp only[oget,hb];rw[z38];simp only[hmem]
section
variable {P:Program} {T:TT} {S S':St} {t:TypeId} {x y:Operand} {K:St->Prop}
theorem zw4{ti:TI}{v:RV}{id off:Nat}(ho:oget S'.O id=oget S.O id)(h:stAt S ti v K id off):
  ∃o',K (S.set id (some o'))/\zc8 o' ⊆ (match oget S.O id with |some o=>zc8 o |none=>[])/\∀K':St->Prop,K' (S'.set id (some o'))->stAt S' ti v K' id off:=by
 unfold stAt at h
 unfold stAt
 rw[ho]
 split at h
 ·rename_i cells hc
  split at h
  ·exact h.elim
  ·rw[zei]at h
   refine⟨_,h,?_,λK' hK'=>?_⟩
   ·intro i hi
    simp only[zc8,List.flatMap_append,List.mem_append]at hi
    simp only[hc,zc8]
    rcases hi with(hi |hi) |hi
    ·obtain⟨f,hf,hfi⟩:=List.mem_flatMap.1 hi
     exact List.mem_flatMap.2 ⟨f,List.mem_of_mem_take hf,hfi⟩
    ·obtain⟨f,hf,hfi⟩:=List.mem_flatMap.1 hi
     obtain⟨r,_,rfl⟩:=List.mem_map.1 hf
     simp[zao]at hfi
    ·obtain⟨f,hf,hfi⟩:=List.mem_flatMap.1 hi
     exact List.mem_flatMap.2 ⟨f,List.mem_of_mem_drop hf,hfi⟩
   ·rw[zei]
    exact hK'
 ·rename_i e sz n cells hc
  split at h
  ·exact h.elim
  ·obtain⟨hfit,zs,hz,h⟩:=h
   rw[zei]at h
   refine⟨_,h,by simp[zc8],λK' hK'=>?_⟩
   exact⟨hfit,zs,hz,by rw[zei];exact hK'⟩
 ·exact h.elim
theorem zayb{f:TF}{v:RV}(ho: ∀id∈zao f,oget S'.O id=oget S.O id)(h:stv S T t f v K):
  ∃id o',id∈zao f/\K (S.set id (some o'))/\zc8 o' ⊆ (match oget S.O id with |some o=>zc8 o |none=>[])/\∀K':St->Prop,K' (S'.set id (some o'))->stv S' T t f v K':=by
 unfold stv at h
 split at h
 ·rename_i ti hti
  split at h
  ·rename_i id
   split at h
   ·rename_i cells hc
    obtain⟨o',h1,h2,h3⟩:=zw4 (ho id (by simp[zao])) h
    refine⟨id,o',by simp[zao],h1,h2,λK' hK'=>?_⟩
    unfold stv
    simp only[hti]
    rw[ho id (by simp[zao]),hc]
    exact h3 K' hK'
   ·exact h.elim
  ·rename_i id off
   obtain⟨o',h1,h2,h3⟩:=zw4 (ho id (by simp[zao])) h
   refine⟨id,o',by simp[zao],h1,h2,λK' hK'=>?_⟩
   unfold stv
   simp only[hti]
   exact h3 K' hK'
  ·exact h.elim
 ·exact h.elim
theorem z3i{cells:List TF}{off i id2:Nat}(h:i∈zc8 (.box (cells.take off++[.own id2]++cells.drop (off+1)))):i∈zc8 (.box cells)\/i=id2:=by
 simp only[zc8,List.flatMap_append,List.mem_append]at h
 rcases h with(h |h) |h
 ·obtain⟨f,hf,hfi⟩:=List.mem_flatMap.1 h
  exact .inl (List.mem_flatMap.2 ⟨f,List.mem_of_mem_take hf,hfi⟩)
 ·simp[zao]at h;exact .inr h
 ·obtain⟨f,hf,hfi⟩:=List.mem_flatMap.1 h
  exact .inl (List.mem_flatMap.2 ⟨f,List.mem_of_mem_drop hf,hfi⟩)
theorem zanb(hx:opr S' x=opr S x)(hy:opr S' y=opr S y)(ho: ∀f,(opr S x=some f\/opr S y=some f)->∀id∈zao f,oget S'.O id=oget S.O id)(h:sto T S none t x y K):
  ∃id o',stId S x=some id/\K (S.set id (some o'))/\(∀i∈zc8 o',(∃o,oget S.O id=some o/\i∈zc8 o)\/∃g,opr S y=some g/\i∈zao g)/\∀K':St->Prop,K' (S'.set id (some o'))->sto T S' none t x y K':=by
 unfold sto at h
 unfold sto
 rw[hx,hy]
 split at h
 ·rename_i f g' hf hg
  have hof:=ho f (.inl hf)
  have hog:=ho g' (.inr hg)
  split at h
  ·rename_i id2
   have e2:=hog id2 (by simp[zao])
   rw[e2]
   split at h
   ·rename_i ow2 j off h2
    have ej:=hof j (by simp[zao])
    rw[ej]
    split at h
    ·rename_i cells hc
     split at h
     ·exact h.elim
     ·split at h
      ·rename_i ti hti
       split at h
       ·rename_i h1
        rw[zei]at h
        refine⟨j,_,by simp[stId,hf],h,λi hi=>?_,λK' hK'=>?_⟩
        ·rcases z3i hi with hi |rfl
         ·exact .inl ⟨_,hc,hi⟩
         ·exact .inr ⟨_,hg,by simp[zao]⟩
        ·rw[zei]
         exact hK'
       ·exact h.elim
      ·exact h.elim
    ·exact h.elim
   ·rename_i ow2 j h2
    have ej:=hof j (by simp[zao])
    rw[ej]
    split at h
    ·rename_i cells hc
     split at h
     ·exact h.elim
     ·split at h
      ·rename_i ti hti
       split at h
       ·rename_i h1
        rw[zei]at h
        refine⟨j,_,by simp[stId,hf],h,λi hi=>?_,λK' hK'=>?_⟩
        ·rcases z3i (off:=0) hi with hi |rfl
         ·exact .inl ⟨_,hc,hi⟩
         ·exact .inr ⟨_,hg,by simp[zao]⟩
        ·rw[zei]
         exact hK'
       ·exact h.elim
      ·exact h.elim
    ·exact h.elim
   ·exact h.elim
  ·rename_i v
   obtain⟨id,o',h1,h2,h3,h4⟩:=zayb hof h
   rw[zci]at h2
   refine⟨id,o',?_,h2,λi hi=> .inl ?_,λK' hK'=>h4 _ (by rw[zci];exact hK')⟩
   ·cases f with
    |r=>simp[zao]at h1
    |own j=>simp[zao]at h1;subst h1;simp[stId,hf]
    |adr j off=>simp[zao]at h1;subst h1;simp[stId,hf]
    |nm j u=>exact absurd h (by unfold stv;split<;>exactλh=>h)
   ·have:=h3 hi
    cases hq:oget S.O id with
    |none=>simp[hq]at this
    |some o=>simp only[hq]at this;exact⟨o,rfl,this⟩
  ·exact h.elim
 ·exact h.elim
end
section
variable {P:Program} {T:TT} {B:Bs} {N:Nat} {a:Act} {w:World} {k:Kp} {g:Env} {Q:Exit->Act->World->Prop}
variable {l:List Oper} {S0:St} {res:RS} {m:Nat} {F:Nat->Option TF} {O:Nat->Option Ow} {D:Nat->Prop}
theorem ztp: ∀{L:List (Nat×TF)} {t:Nat} {f:TF},fget L t=some f->t∈L.map (·.1)
 |[],t,f,h=>by simp[fget]at h
 |(u,f0)::r,t,f,h=>by
  rcases zca h with⟨rfl,_⟩ |⟨_,h⟩
  ·simp
  ·exact List.mem_cons_of_mem _ (ztp h)
theorem zsu: ∀{L:List (Nat×Option Ow)} {t:Nat} {f:Ow},oget L t=some f->t∈L.map (·.1)
 |[],t,f,h=>by simp[oget]at h
 |(u,f0)::r,t,f,h=>by
  rcases zav h with⟨rfl,_⟩ |⟨_,h⟩
  ·simp
  ·exact List.mem_cons_of_mem _ (zsu h)
structure LateSt (l:List Oper) (ws:List (List Nat)) (S0:St) (res:RS) (m:Nat) (o:Oper) (t:TypeId) (x y:Operand):Prop where
 at_:l[m]?=some o
 op:o.op= .store t x y
 dst:o.dst=none
 grd:o.guard=none
 need:zlr (Ls l S0 res m) o S0.nx (Cs l S0 res m) ((lget ws m).getD [])=true
 rd: ∀j s,j<m->zcq l j=some s->s∈ze1 o->j∈(lget ws m).getD []
theorem z74(hT:TOk P T){ws:List (List Nat)}(hL:Looks l ws m){o:Oper}{t:TypeId}{x y:Operand}(hst:LateSt l ws S0 res m o t x y)(h:Mid B N l S0 res m D none a w k g F O)(hni: ¬D m)(hws: ∀j∈(lget ws m).getD [],D j)
  {K:St->Prop} (hsto:sto T (Ls l S0 res m) none t x y K):
  ∃id o',stId (Ls l S0 res m) x=some id/\K ((Ls l S0 res m).set id (some o'))/\o.wp P a w (λa' w'=>∃k' g',Mid B N l S0 res m (λj=>D j\/j=m) (some (id,o')) a' w' k' g' F O) Q:=by
 have hlex:=Lk.lex (S0:=S0) (res:=res) hL.le hL.dst m (Nat.le_refl _)
 have hfacts: ∀s∈ze1 o,F s=fget (Ls l S0 res m).F s:=by
  intro s hs
  by_cases hx: ∃j,j<m/\zcq l j=some s
  ·obtain⟨j,hj,hjt⟩:=hx
   rw[h.lk.hit j s (hws j (hst.rd j s hj hjt hs)) hj hjt,hlex.hit j s hj hj hjt]
  ·rw[hlex.miss s λj hj _ hjt=>hx ⟨j,hj,hjt⟩,h.lk.miss s λj _ hjm hjt=>hx ⟨j,hjm,hjt⟩]
 have hknown: ∀id∈zbo (Ls l S0 res m) o,Kn l S0 res m D id:=by
  intro id hid
  have:=(zbk.1 hst.need) id hid
  split at this
  ·rename_i hb
   exact .inl (Nat.le_of_ble_eq_true hb)
  ·split at this
   ·rename_i j hj
    obtain⟨h1,h2,h3⟩:=zuc (zn0 hj)
    exact .inr ⟨j,hws j (zbt.1 this),h1,h2,h3⟩
   ·cases this
 have howns: ∀id∈zbo (Ls l S0 res m) o,O id=oget (Ls l S0 res m).O id:=by
  intro id hid
  rcases hknown id hid with hlt |⟨j,hj,hjm,hjs,rfl⟩
  ·have old: ∀j o,(res j).2=some o->j<m->idAt l S0 res j≠id:=λj o ho hjm e=>by
    have:=zh2 (l:=l) (S0:=S0) (res:=res) (Nat.zero_le j) (by have:=hL.le;omega)
    simp only[idAt,Ls]at this e
    omega
   rw[h.lk.omiss id λj o _ hjm ho=>old j o ho hjm,hlex.omiss id λj o _ hjm ho=>old j o ho hjm]
  ·obtain⟨oj,hoj⟩:=Option.isSome_iff_exists.1 hjs
   rw[h.lk.ohit j oj hj hjm hoj,hlex.ohit j oj hjm hjm hoj]
 have hkeyF: ∀s f,F s=some f->s∈(Ls l S0 res m).F.map (·.1):=by
  intro s f hs
  by_cases hx: ∃j,j<m/\zcq l j=some s
  ·obtain⟨j,hj,hjt⟩:=hx
   exact ztp (hlex.hit j s hj hj hjt)
  ·rw[h.lk.miss s λj _ hjm hjt=>hx ⟨j,hjm,hjt⟩]at hs
   exact ztp ((hlex.miss s λj hj _ hjt=>hx ⟨j,hj,hjt⟩).trans hs)
 have hkeyO: ∀i q,O i=some q->i∈(Ls l S0 res m).O.map (·.1):=by
  intro i q hi
  by_cases hx: ∃j q',j<m/\(res j).2=some q'/\idAt l S0 res j=i
  ·obtain⟨j,q',hj,hr,rfl⟩:=hx
   exact zsu (hlex.ohit j q' hj hj hr)
  ·rw[h.lk.omiss i λj q' _ hjm hr he=>hx ⟨j,q',hjm,hr,he⟩]at hi
   exact zsu ((hlex.omiss i λj q' hj _ hr he=>hx ⟨j,q',hj,hr,he⟩).trans hi)
 obtain⟨S',hS'⟩: ∃S':St,S'={F:=stF F ((Ls l S0 res m).F.map (·.1)),O:=stO O ((Ls l S0 res m).O.map (·.1)),nx:=idAt l S0 res m}:=⟨_,rfl⟩
 have eF:fget S'.F=F:=by
  funext s
  rw[hS',zq2]
  split
  ·rfl
  ·rename_i hn
   cases hs:F s with
   |none=>rfl
   |some f=>exact absurd (hkeyF s f hs) hn
 have eO:oget S'.O=O:=by
  funext s
  rw[hS',z38]
  split
  ·rfl
  ·rename_i hn
   cases hs:O s with
   |none=>rfl
   |some f=>exact absurd (hkeyO s f hs) hn
 have enx:S'.nx=idAt l S0 res m:=by rw[hS']
 have hsat:SatE B N S' a w k g:=SatF.toE (by rw[eF,eO,enx];exact h.sat)
 have hmem: ∀z,z=x\/z=y->z∈o.op.operands.toList:=by
  intro z hz
  rw[hst.op]
  rcases hz with rfl |rfl<;>simp[Op.operands]
 have hopr: ∀z,z∈o.op.operands.toList->opr S' z=opr (Ls l S0 res m) z:=by
  intro z hz
  cases z with
  |tmp s=>simp only[opr];rw[eF];exact hfacts s (List.mem_filterMap.2 ⟨.tmp s,hz,rfl⟩)
  |_=>rfl
 have hids: ∀z∈o.op.operands.toList,∀f,opr (Ls l S0 res m) z=some f->∀id∈zao f,id∈zbo (Ls l S0 res m) o:=λz hz f hf id hid=>List.mem_append_left _ (zn6 hz hf hid)
 have hmx:=hmem x (.inl rfl)
 have hmy:=hmem y (.inr rfl)
 obtain⟨id,o',h1,h2,h3,h4⟩:=zanb (S':=S') (hopr x hmx) (hopr y hmy) (λf hf id hid=>by
  rw[eO]
  rcases hf with hf |hf
  ·exact howns id (hids x hmx f hf id hid)
  ·exact howns id (hids y hmy f hf id hid)) hsto
 have hidx:id∈zbo (Ls l S0 res m) o:=by
  unfold stId at h1
  split at h1
  ·rename_i j hj;cases h1;exact hids x hmx _ hj _ (by simp[zao])
  ·rename_i j off hj;cases h1;exact hids x hmx _ hj _ (by simp[zao])
  ·cases h1
 refine⟨id,o',h1,h2,?_⟩
 have hw:=zw8 (Q:=Q) hT hsat hst.op (K:=λS''=>S''=S'.set id (some o')) (h:=by rw[hst.dst];exact h4 _ rfl)
 refine Oper.wp_mono ?_ hw
 rintro a' w' ⟨S'',k',rfl,g',hs'⟩
 refine⟨k',g',?_,h.lk.congr λj hj=>⟨.inl,λhh=>hh.elim (λq=>q) λe=>by omega⟩,λs f hf i hi=>(h.kF s f hf i hi).mono λj hj=> .inl hj,λi q hq j hj=>(h.kO i q hq j hj).mono λj hj=> .inl hj,λi q e=>?_,λi hi hd=>?_⟩
 ·have hh:=hs'.toF (Nat.le_refl _)
  have e1:fget (S'.set id (some o')).F=F:=eF
  have e2:oget (S'.set id (some o')).O=ovr (some (id,o')) O:=by
   funext j
   simp only[St.set,ovr,updO,oget]
   by_cases hj:j=id
   ·subst hj;simp
   ·have hb:Nat.beq id j=false:=by
     cases hb:Nat.beq id j
     ·rfl
     ·exact absurd (Nat.eq_of_beq_eq_true hb).symm hj
    rw[hb,if_neg hj,eO]
  have e3:(S'.set id (some o')).nx=idAt l S0 res m:=enx
  rw[e1,e2,e3]at hh
  exact hh
 ·cases e
  refine⟨(hknown id hidx).mono λj hj=> .inl hj,λi hi=>?_⟩
  refine Kn.mono (λj hj=> .inl hj) ?_
  rcases h3 i hi with⟨q,hq,hiq⟩ |⟨f,hf,hif⟩
  ·exact h.kO id q ((howns id hidx).trans hq) i hiq
  ·exact hknown i (hids y hmy f hf i hif)
 ·rcases hd with hd |rfl
  ·have:=(h.below i hi hd).2;simp at this
  ·exact⟨rfl,rfl⟩
end
end
section
section
variable {P:Program} {T:TT} {B:Bs} {N:Nat} {a:Act} {w:World} {k:Kp} {g:Env} {Q:Exit->Act->World->Prop}
variable {l:List Oper} {S0:St} {res:RS} {m:Nat}
theorem zxb(h:zk1 m l=true):Looks l (zas [] l) m:=by
 simp only[zk1,Bool.and_eq_true,Nat.ble_eq]at h
 obtain⟨hle,h⟩:=h
 have at_: ∀i o,l[i]?=some o->zlq l (zas [] l) (m) i o=true:=λi o ho=>by
  have:=(zbk.1 h) i (List.mem_range.2 (List.getElem?_eq_some_iff.1 ho).1)
  rw[zb0,ho]at this
  exact this
 have blt: ∀{x y:Nat},Nat.blt x y=true↔x<y:=λ{x y}=>by simp[Nat.blt];omega
 have front: ∀i o,i<m->l[i]?=some o->(match o.guard with |none=>true |some (g,_)=>memB g ((lget (zas [] l) i).getD [])&&Nat.blt g i)=true/\∀j,j<i->∃p,l[j]?=some p/\
   (match p.dst,o.dst with |some d,some e=> !(Nat.beq d e) |_,_=>true)=true/\
   (memB j ((lget (zas [] l) i).getD [])||((match p.dst with |none=>true |some d=> !(memB d (ze1 o)))&&(match o.dst with |none=>true |some d=> !(memB d (ze1 p)))))=true:=by
  intro i o hi ho
  have:=at_ i o ho
  simp only[zlq,Bool.and_eq_true]at this
  have h2:=this.2
  rw[if_pos (blt.2 hi)]at h2
  simp only[Bool.and_eq_true]at h2
  refine⟨h2.1.2,λj hj=>?_⟩
  have h3:=(zbk.1 h2.2) j (List.mem_range.2 hj)
  rw[zb0]at h3
  split at h3
  ·cases h3
  ·rename_i p hp
   simp only[Bool.and_eq_true]at h3
   exact⟨p,hp,h3.1,h3.2⟩
 refine⟨hle,λi o ho e he=>?_,λi hi hil j hj=>?_,λo ho=>?_,λi j t hi hj hjt hit=>?_,λi o j want hi ho hg=>?_,λi j o t hi hj ho hjt ht=>?_,λi j p t hi hj hp hit ht=>?_⟩
 ·have:=at_ i o ho
  simp only[zlq,Bool.and_eq_true]at this
  exact blt.1 ((zbk.1 this.1) e he)
 ·have:=at_ i _ (List.getElem?_eq_getElem hil)
  simp only[zlq,Bool.and_eq_true]at this
  have h2:=this.2
  rw[if_neg (by rw[blt];omega)]at h2
  simp only[Bool.or_eq_true,Bool.and_eq_true]at h2
  rcases h2 with h2 |⟨h2,_⟩
  ·exact zbt.1 ((zbk.1 h2) j (List.mem_range.2 hj))
  ·have:=Nat.eq_of_beq_eq_true h2;omega
 ·have:=at_ _ o ho
  simp only[zlq,Bool.and_eq_true]at this
  have h2:=this.2
  rw[if_neg (by rw[blt];omega)]at h2
  simp only[Bool.or_eq_true,Bool.and_eq_true]at h2
  rcases h2 with h2 |⟨_,h2⟩
  ·exact .inl λj hj=>zbt.1 ((zbk.1 h2) j (List.mem_range.2 hj))
  ·right
   simp only[z7r,Bool.and_eq_true]at h2
   obtain⟨q1,q2,q3,q4⟩:=h2
   split at q1
   ·rename_i t x y hop
    refine⟨t,x,y,hop,?_,?_,λj s hj hjs hs=>?_⟩
    ·cases hd:o.dst with
     |none=>rfl
     |some d=>simp[hd]at q2
    ·cases hg:o.guard with
     |none=>rfl
     |some d=>simp[hg]at q3
    ·have h3:=(zbk.1 q4) j (List.mem_range.2 hj)
     simp only[Bool.or_eq_true]at h3
     rcases h3 with h3 |h3
     ·exact zbt.1 h3
     ·rw[zb0]at h3
      split at h3
      ·rename_i p hp
       simp only[zcq,hp,Option.bind_some]at hjs
       simp[hjs,zbt.2 hs]at h3
      ·cases h3
   ·cases q1
 ·have hil:i<l.length:=Nat.lt_of_lt_of_le hi hle
  obtain⟨p,hp,h1,_⟩:=(front i _ hi (List.getElem?_eq_getElem hil)).2 j hj
  simp only[zcq,hp,List.getElem?_eq_getElem hil,Option.bind_some]at hjt hit
  simp[hjt,hit]at h1
 ·have:=(front i o hi ho).1
  simp only[hg,Bool.and_eq_true]at this
  exact⟨zbt.1 this.1,blt.1 this.2⟩
 ·obtain⟨p,hp,_,h2⟩:=(front i o hi ho).2 j hj
  simp only[zcq,hp,Option.bind_some]at hjt
  simp only[hjt,zbt.2 ht,Bool.not_true,Bool.false_and,Bool.or_false]at h2
  exact zbt.1 h2
 ·have hil:i<l.length:=Nat.lt_of_lt_of_le hi hle
  obtain⟨p',hp',_,h2⟩:=(front i _ hi (List.getElem?_eq_getElem hil)).2 j hj
  rw[hp]at hp'
  cases hp'
  simp only[zcq,List.getElem?_eq_getElem hil,Option.bind_some]at hit
  simp only[hit,zbt.2 ht,Bool.not_true,Bool.and_false,Bool.or_false]at h2
  exact zbt.1 h2
theorem zcgb(h:zlf l=true):Looks l (zas [] l) (zcz l):=zxb h
theorem zctb(hL:Looks l (zas [] l) m){i:Nat}{o:Oper}(ho:l[i]?=some o):lget (zas [] l) i=some (zbd o++(zbd o).flatMap λe=>(lget (zas [] l) e).getD []):=by
 have:=zot (r:=l) (acc:=[]) (j:=i) (o:=o) (λk p hp e he=>by simpa using hL.edge k p hp e he) ho
 simp only[List.length_nil,Nat.zero_add]at this
 rw[zb0,this]
 simp only[zb0]
theorem z21{i:Nat}(hi:l.length<=i):(lget (zas [] l) i).getD []=[]:=by
 have hlen: ∀(r:List Oper) (acc:List (List Nat)),(zas acc r).length=acc.length+r.length:=λr=>by
  induction r with
  |nil=>intro acc;simp[zas]
  |cons o r ih=>intro acc;simp only[zas];rw[ih];simp;omega
 rw[zb0,List.getElem?_eq_none (by rw[hlen];simpa using hi)]
 rfl
theorem zqs(hL:Looks l (zas [] l) m){D:Nat->Prop}(hc: ∀i o,D i->l[i]?=some o->∀e∈zbd o,D e): ∀i,D i->∀j∈(lget (zas [] l) i).getD [],D j:=by
 intro i
 induction i using Nat.strongRecOn with
 |_ i ih=>
  intro hi j hj
  rcases Nat.lt_or_ge i l.length with hil |hil
  ·have ho:=List.getElem?_eq_getElem hil
   rw[zctb hL ho]at hj
   simp only[Option.getD_some]at hj
   rcases List.mem_append.1 hj with hj |hj
   ·exact hc i _ hi ho j hj
   ·obtain⟨e,he,hj⟩:=List.mem_flatMap.1 hj
    exact ih e (hL.edge i _ ho e he) (hc i _ hi ho e he) j hj
  ·rw[z21 hil]at hj;cases hj
theorem zbvb(hL:Looks l (zas [] l) m){D:Nat->Prop}(hc: ∀i o,D i->l[i]?=some o->∀e∈zbd o,D e){i:Nat}{o:Oper}(ho:l[i]?=some o)(he: ∀e∈zbd o,D e): ∀j∈(lget (zas [] l) i).getD [],D j:=by
 intro j hj
 rw[zctb hL ho]at hj
 simp only[Option.getD_some]at hj
 rcases List.mem_append.1 hj with hj |hj
 ·exact he j hj
 ·obtain⟨e,he',hj⟩:=List.mem_flatMap.1 hj
  exact zqs hL hc e (he e he') j hj
theorem zo7{p:Nat->Prop}(h: ∃n,p n): ∃n,p n/\∀m,p m->n<=m:=by
 obtain⟨n,hn⟩:=h
 induction n using Nat.strongRecOn with
 |_ n ih=>
  by_cases hm: ∃m,m<n/\p m
  ·obtain⟨m,hlt,hp⟩:=hm
   exact ih m hlt hp
  ·exact⟨n,hn,λm hp=>Nat.le_of_not_lt λhlt=>hm ⟨m,hlt,hp⟩⟩
def Now(P:Program)(T:TT)(B:Bs)(N:Nat)(l:List Oper)(S0:St)(res:RS)(m:Nat)(K:St->Prop)(D:Nat->Prop)(a:Act)(w:World):Prop:=
 (∃k g F O,Mid B N l S0 res m D none a w k g F O)\/(∃k g F O id o',Mid B N l S0 res m D (some (id,o')) a w k g F O/\D m/\m<l.length/\(∀j oj,j<m->¬D j->l[j]?=some oj->id∉zbo (Ls l S0 res j) oj)/\runv P T l (l.drop (m+1)) ((Ls l S0 res m).set id (some o')) K)\/∃t S k,m<=t/\t<=l.length/\(∀j,D j↔j<t)/\Sat B N S a w k/\runv P T l (l.drop t) S K
theorem zefb(hL:Looks l (zas [] l) m){D:Nat->Prop}{F:Nat->Option TF}{O:Nat->Option Ow}(h:Mid B N l S0 res m D none a w k g F O)(hall: ∀j,j<m->D j):Sat B N (Ls l S0 res m) a w k:=by
 obtain⟨e1,e2⟩:=(h.lk.congr (D':=λj=>j<m) λj hj=>⟨λ_=>hj,λ_=>hall j hj⟩).unique (Lk.lex hL.le hL.dst m (Nat.le_refl _))
 have:=h.sat
 rw[e1,e2]at this
 exact⟨g,this.toE⟩
theorem zbqb(hL:Looks l (zas [] l) m){D:Nat->Prop}{F:Nat->Option TF}{O:Nat->Option Ow}{id:Nat}{o':Ow}(h:Mid B N l S0 res m D (some (id,o')) a w k g F O)(hall: ∀j,j<m->D j):Sat B N ((Ls l S0 res m).set id (some o')) a w k:=by
 obtain⟨e1,e2⟩:=(h.lk.congr (D':=λj=>j<m) λj hj=>⟨λ_=>hj,λ_=>hall j hj⟩).unique (Lk.lex hL.le hL.dst m (Nat.le_refl _))
 have:=h.sat
 rw[e1,e2]at this
 have e3:ovr (some (id,o')) (oget (Ls l S0 res m).O)=oget ((Ls l S0 res m).set id (some o')).O:=by
  funext j
  simp only[St.set,ovr,updO,oget]
  by_cases hj:j=id
  ·subst hj;simp
  ·have hb:Nat.beq id j=false:=by
    cases hb:Nat.beq id j
    ·rfl
    ·exact absurd (Nat.eq_of_beq_eq_true hb).symm hj
   rw[hb,if_neg hj]
 rw[e3]at this
 exact⟨g,SatF.toE (S:=(Ls l S0 res m).set id (some o')) this⟩
theorem z1c(hL:Looks l (zas [] l) m){K:St->Prop}(hrun:runv P T l (l.drop m) (Ls l S0 res m) K){D:Nat->Prop}(h:Now P T B N l S0 res m K D a w):
  (∃k g F O j0,Mid B N l S0 res m D none a w k g F O/\j0<m/\¬D j0)\/(∃k g F O id o' j0,Mid B N l S0 res m D (some (id,o')) a w k g F O/\D m/\m<l.length/\(∀j oj,j<m->¬D j->l[j]?=some oj->id∉zbo (Ls l S0 res j) oj)/\runv P T l (l.drop (m+1)) ((Ls l S0 res m).set id (some o')) K/\j0<m/\¬D j0)\/∃t S k,m<=t/\t<=l.length/\(∀j,D j↔j<t)/\Sat B N S a w k/\runv P T l (l.drop t) S K:=by
 rcases h with⟨k,g,F,O,h⟩ |⟨k,g,F,O,id,o',h,hDm,hml,hid,hrun'⟩ |h
 ·by_cases hx: ∃j0,j0<m/\¬D j0
  ·obtain⟨j0,h1,h2⟩:=hx
   exact .inl ⟨k,g,F,O,j0,h,h1,h2⟩
  ·have hall: ∀j,j<m->D j:=λj hj=>Classical.byContradiction λhn=>hx ⟨j,hj,hn⟩
   refine .inr (.inr ⟨m,_,k,Nat.le_refl _,hL.le,λj=>⟨λhj=>?_,hall j⟩,zefb hL h hall,hrun⟩)
   exact Classical.byContradiction λhn=>absurd (h.below j (by omega) hj).2 (by simp)
 ·by_cases hx: ∃j0,j0<m/\¬D j0
  ·obtain⟨j0,h1,h2⟩:=hx
   exact .inr (.inl ⟨k,g,F,O,id,o',j0,h,hDm,hml,hid,hrun',h1,h2⟩)
  ·have hall: ∀j,j<m->D j:=λj hj=>Classical.byContradiction λhn=>hx ⟨j,hj,hn⟩
   refine .inr (.inr ⟨m+1,_,k,Nat.le_succ _,hml,λj=>⟨λhj=>?_,λhj=>?_⟩,zbqb hL h hall,hrun'⟩)
   ·rcases Nat.lt_or_ge j m with hlt |hge
    ·omega
    ·have:=(h.below j hge hj).1;omega
   ·rcases Nat.lt_or_ge j m with hlt |hge
    ·exact hall j hlt
    ·obtain rfl:j=m:=by omega
     exact hDm
 ·exact .inr (.inr h)
theorem zb1b(hm:P.follows .mixedOrders=true)(hT:TOk P T)(hN: ∀o∈l,∀d,o.dst=some d->d<N)(hL:Looks l (zas [] l) m)(hstp: ∀j,j<m->Stp P T l (zas [] l) S0 res j)
  (h0: ∀id o,oget S0.O id=some o->id<S0.nx) {K:St->Prop} (hend:zjn l (zas [] l) S0 res m) (hrun:runv P T l (l.drop m) (Ls l S0 res m) K) (hQ: ∀S' a' w' k',K S'->Sat B N S' a' w' k'->Q .normal a' w'):
  ∀(fuel:Nat) (listed:Array Bool) (a:Act) (w:World),listed.size=l.length->listed.toList.count false=fuel->
   (∀i o,listed.getD i false=true->l[i]?=some o->∀e∈zbd o,listed.getD e false=true)->Now P T B N l S0 res m K (λj=>listed.getD j false=true) a w->wpAny P .any l.toArray Q fuel listed a w:=by
 intro fuel
 induction fuel with
 |zero=>
  intro listed a w hsz hcnt hcl hnow
  have hall: ∀i,i<l.length->listed.getD i false=true:=λi hi=>by
   have hlt:i<listed.size:=by omega
   have hne:=List.count_eq_zero.1 hcnt
   have hmem:listed[i]∈listed.toList:=by simp
   cases hb:listed[i]with
   |true=>simp[hlt,hb]
   |false=>rw[hb]at hmem;exact absurd hmem hne
  have hempty:Region.ready .any l.toArray listed=[]:=by
   cases hr:Region.ready .any l.toArray listed with
   |nil=>rfl
   |cons x xs=>
    have hx:x∈Region.ready .any l.toArray listed:=by rw[hr];simp
    obtain⟨h1,o,ho,_⟩:=mem_ready.1 hx
    have hxl:x<l.length:=by
     have:=(Array.getElem?_eq_some_iff.1 ho).1
     simpa using this
    have:=hall x hxl
    have hlt:x<listed.size:=by omega
    simp[hlt]at h1 this
    rw[h1]at this;cases this
  refine⟨hempty,?_⟩
  rcases z1c hL hrun hnow with⟨k,g,F,O,j0,h,h1,h2⟩ |⟨k,g,F,O,id,o',j0,h,_,_,_,_,h1,h2⟩ |⟨t,S,k,h1,h2,h3,h4,h5⟩
  ·exact absurd (hall j0 (by have:=hL.le;omega)) h2
  ·exact absurd (hall j0 (by have:=hL.le;omega)) h2
  ·obtain rfl:t=l.length:=by
    rcases Nat.lt_or_ge t l.length with h |h
    ·have:=(h3 t).1 (hall t h);omega
    ·omega
   rw[List.drop_length]at h5
   exact hQ S a w k h5 h4
 |succ fuel ih=>
  intro listed a w hsz hcnt hcl hnow
  have unl: ∀i,i<l.length->(listed.getD i true=false↔¬listed.getD i false=true):=λi hi=>by
   have hlt:i<listed.size:=by omega
   simp[hlt]
  refine⟨λhempty=>?_,λi hi=>?_⟩
  ·--somebody is ready
   exfalso
   have hmem:false∈listed.toList:=by
    rcases Classical.em (false∈listed.toList)with h |h
    ·exact h
    ·rw[List.count_eq_zero.2 h]at hcnt;cases hcnt
   obtain⟨i,hi⟩:=List.getElem?_of_mem hmem
   have hex: ∃i,i<l.length/\¬listed.getD i false=true:=by
    have hlt:=(List.getElem?_eq_some_iff.1 hi).1
    rw[Array.length_toList]at hlt
    refine⟨i,by omega,?_⟩
    have:listed[i]?=some false:=by simpa using hi
    simp[this]
   obtain⟨i,⟨hil,hin⟩,hleast⟩:=zo7 hex
   have hrd:i∈Region.ready .any l.toArray listed:=by
    refine mem_ready.2 ⟨(unl i hil).2 hin,l[i],by simp[hil],λe he hb=>?_⟩
    have hee:e.on∈zbd l[i]:=List.mem_filterMap.2 ⟨e,by simpa using he,by simp[hb]⟩
    have hlt:=hL.edge i _ (List.getElem?_eq_getElem hil) _ hee
    exact Classical.byContradiction λhn=>by
     have:=hleast e.on ⟨by omega,hn⟩
     omega
   rw[hempty]at hrd
   cases hrd
  ·obtain⟨h1,o,ho,hedge⟩:=mem_ready.1 hi
   have hoi:l[i]?=some o:=by simpa using ho
   have hil:i<l.length:=(List.getElem?_eq_some_iff.1 hoi).1
   have hni: ¬listed.getD i false=true:=(unl i hil).1 h1
   have hed: ∀e∈zbd o,listed.getD e false=true:=λe he=>by
    obtain⟨x,hx,hxe⟩:=List.mem_filterMap.1 he
    split at hxe
    ·rename_i hb
     cases hxe
     exact hedge x (by simpa using hx) hb
    ·cases hxe
   have hws:=zbvb (D:=λj=>listed.getD j false=true) hL hcl hoi hed
   have hget: ∀j,(listed.setIfInBounds i true).getD j false=true↔(listed.getD j false=true\/j=i):=λj=>by
    have hlt:i<listed.size:=by omega
    by_cases hji:j=i
    ·subst hji;simp[hlt]
    ·have:i≠j:=λe=>hji e.symm
     simp[Array.getElem?_setIfInBounds_ne this,hji]
   have hcl': ∀x p,(listed.setIfInBounds i true).getD x false=true->l[x]?=some p->∀e∈zbd p,(listed.setIfInBounds i true).getD e false=true:=λx p hx hp e he=>by
    rw[hget]
    rcases(hget x).1 hx with hx |rfl
    ·exact .inl (hcl x p hx hp e he)
    ·rw[hoi]at hp;cases hp
     exact .inl (hed e he)
   have hcnt':(listed.setIfInBounds i true).toList.count false=fuel:=by
    have hlt:i<listed.toList.length:=by rw[Array.length_toList];omega
    have hlt':i<listed.size:=by omega
    have hv:listed.toList[i]=false:=by
     have:listed[i]?=some listed[i]:=Array.getElem?_eq_getElem hlt'
     simp[hlt']at hni
     simpa using hni
    rw[Array.toList_setIfInBounds,List.count_set hlt,hcnt,hv]
    simp
   have next: ∀a' w',Now P T B N l S0 res m K (λj=>(listed.setIfInBounds i true).getD j false=true) a' w'->wpAny P .any l.toArray Q fuel (listed.setIfInBounds i true) a' w':=
    λa' w' h=>ih _ a' w' (by simpa using hsz) hcnt' hcl' h
   rcases z1c hL hrun hnow with⟨k,g,F,O,j0,h,hj0,hn0⟩ |⟨k,g,F,O,id,o',j0,h,hDm,hml,hid,hrun2,hj0,hn0⟩ |⟨t,S,k,ht1,ht2,ht3,hsat,hrv⟩
   ·rcases Nat.lt_or_ge i m with him |hge
    case inr=>
     obtain rfl:i=m:=by
      rcases Nat.eq_or_lt_of_le hge with e |hlt
      ·exact e.symm
      ·exact absurd (hws j0 (hL.back i hlt hil j0 (by omega))) hn0
     rcases hL.late o hoi with hall |⟨t,x,y,hop,hdst,hgrd,hrd⟩
     ·exact absurd (hws j0 (hall j0 hj0)) hn0
     have hE:=hend o hoi
     simp only[Bool.or_eq_true]at hE
     rcases hE with hE |hE
     ·exact absurd (hws j0 (zbt.1 ((zbk.1 hE) j0 (List.mem_range.2 hj0)))) hn0
     simp only[zwd,hop,Bool.and_eq_true]at hE
     obtain⟨hneed,hE⟩:=hE
     have hdrop:l.drop i=o::l.drop (i+1):=by
      rw[List.drop_eq_getElem_cons hil]
      congr 1
      have:=List.getElem?_eq_getElem hil
      rw[hoi]at this
      exact(Option.some.inj this).symm
     have hrun':=hrun
     rw[hdrop]at hrun'
     simp only[runv,hgrd,zju,zy0,hop,hdst]at hrun'
     obtain⟨id,o',hid,hK,hwp⟩:=z74 (Q:=Q) hT hL ⟨hoi,hop,hdst,hgrd,hneed,hrd⟩ h hni hws hrun'
     rw[hid]at hE
     simp only at hE
     unfold wpOp
     simp only[ho]
     rw[if_pos (by simp[Region.wanted,hgrd])]
     refine .inl (Oper.wp_mono ?_ hwp)
     rintro a' w' ⟨k',g',h'⟩
     refine next a' w' (.inr (.inl ⟨k',g',F,O,id,o',⟨h'.sat,h'.lk.congr λj _=>(hget j).symm,λt f hf id hid=>(h'.kF t f hf id hid).mono λj hj=>(hget j).2 hj,λx o' ho' id hid=>(h'.kO x o' ho' id hid).mono λj hj=>(hget j).2 hj,λx q e=>⟨(h'.kx x q e).1.mono λj hj=>(hget j).2 hj,λz hz=>((h'.kx x q e).2 z hz).mono λj hj=>(hget j).2 hj⟩,λx hx hh=>h'.below x hx ((hget x).1 hh)⟩,(hget i).2 (.inr rfl),hil,λj oj hj hnj hoj=>?_,hK⟩))
     have:=(zbk.1 hE) _ (z79 hj hoj)
     simp only[Bool.or_eq_true,Bool.not_eq_true']at this
     rcases this with this |this
     ·exact absurd ((hget j).2 (.inl (hws j (zbt.1 this)))) hnj
     ·intro hm
      rw[zbt.2 hm]at this
      cases this
    refine z1j hm hT hN hL hstp h0 h (λx o' o e=>by cases e) him hni hws (zqs hL hcl) λa' w' k' g' F' O' h'=>next a' w' (.inl ⟨k',g',F',O',?_⟩)
    exact⟨h'.sat,h'.lk.congr λj _=>(hget j).symm,λt f hf id hid=>(h'.kF t f hf id hid).mono λj hj=>(hget j).2 hj,λx o' ho' id hid=>(h'.kO x o' ho' id hid).mono λj hj=>(hget j).2 hj,λx o e=>(by cases e),λx hx hh=>h'.below x hx ((hget x).1 hh)⟩
   ·have him:i<m:=by
     rcases Nat.lt_or_ge i m with h1 |h1
     ·exact h1
     ·rcases Nat.eq_or_lt_of_le h1 with e |hlt
      ·exact absurd (e▸hDm) hni
      ·exact absurd (hws j0 (hL.back i hlt hil j0 (by omega))) hn0
    refine z1j hm hT hN hL hstp h0 h (λx q o2 e ho2=>by cases e;exact hid i o2 him hni ho2) him hni hws (zqs hL hcl) λa' w' k' g' F' O' h'=>next a' w' (.inr (.inl ⟨k',g',F',O',id,o',?_,(hget m).2 (.inl hDm),hml,λj oj hj hnj hoj=>hid j oj hj (λhh=>hnj ((hget j).2 (.inl hh))) hoj,hrun2⟩))
    exact⟨h'.sat,h'.lk.congr λj _=>(hget j).symm,λt f hf id hid=>(h'.kF t f hf id hid).mono λj hj=>(hget j).2 hj,λx o' ho' id hid=>(h'.kO x o' ho' id hid).mono λj hj=>(hget j).2 hj,λx q e=>⟨(h'.kx x q e).1.mono λj hj=>(hget j).2 hj,λz hz=>((h'.kx x q e).2 z hz).mono λj hj=>(hget j).2 hj⟩,λx hx hh=>h'.below x hx ((hget x).1 hh)⟩
   ·have hit:i=t:=by
     have h1: ¬i<t:=λhh=>hni ((ht3 i).2 hh)
     rcases Nat.lt_or_ge t i with hlt |hge
     ·have h2:=(ht3 t).1 (hws t (hL.back i (by omega) hil t hlt))
      omega
     ·omega
    subst hit
    have hdrop:l.drop i=o::l.drop (i+1):=by
     rw[List.drop_eq_getElem_cons hil]
     congr 1
     have:=List.getElem?_eq_getElem hil
     rw[hoi]at this
     exact(Option.some.inj this).symm
    rw[hdrop]at hrv
    have hhd:=zpj (Q:=Q) hT (hN o (List.mem_of_getElem? hoi)) hsat hrv
    have nx2: ∀a' w',(∃S' k',runv P T l (l.drop (i+1)) S' K/\Sat B N S' a' w' k')->wpAny P .any l.toArray Q fuel (listed.setIfInBounds i true) a' w':=λa' w' ⟨S',k',hr',hs'⟩=>
     next a' w' (.inr (.inr ⟨i+1,S',k',by omega,by omega,λj=>(hget j).trans ((or_congr (ht3 j) Iff.rfl).trans (by omega)),hs',hr'⟩))
    unfold wpOp
    simp only[ho]
    split at hhd
    ·rename_i hw
     rw[if_pos hw]
     exact .inl (Oper.wp_mono nx2 hhd)
    ·rename_i hw
     rw[if_neg hw]
     exact nx2 _ _ hhd
theorem zly(hm:P.follows .mixedOrders=true)(hT:TOk P T){ops:Array Oper}{S:St}(hN: ∀o∈ops.toList,∀d,o.dst=some d->d<N){K:St->Prop}(hs:Sat B N S a w k)(hL:Looks ops.toList (zas [] ops.toList) m)(hstp: ∀j,j<m->Stp P T ops.toList (zas [] ops.toList) S res j)(hend:zjn ops.toList (zas [] ops.toList) S res m)(hrun:runv P T ops.toList (ops.toList.drop m) (Ls ops.toList S res m) K)(hQ: ∀S' a' w' k',K S'->Sat B N S' a' w' k'->Q .normal a' w'):wpAny P .any ops Q ops.size (Array.replicate ops.size false) a {w with drawn:=w.drawn+1}:=by
 obtain⟨g,hs⟩:=hs
 have h0: ∀i o,oget S.O i=some o->i<S.nx:=λi o ho=>(hs.owns i o ho).1
 have hs':SatE B N S a {w with drawn:=w.drawn+1} k g:=hs.ext (w':={w with drawn:=w.drawn+1}) ⟨rfl,rfl,rfl,Nat.le_refl _,λ_ _=>rfl⟩ λ_ _=>rfl
 have hnx:S.nx<=idAt ops.toList S res m:=by
  have:=zh2 (l:=ops.toList) (S0:=S) (res:=res) (Nat.zero_le m) hL.le
  simpa only[idAt,Ls]using this
 have:=zb1b (Q:=Q) (B:=B) (N:=N) hm hT hN hL hstp h0 hend hrun hQ ops.size (Array.replicate ops.size false) a {w with drawn:=w.drawn+1} (by simp) (by simp) (λi o hi=>by
  exfalso
  rw[Array.getD_eq_getD_getElem?]at hi
  by_cases hlt:i<ops.size
  ·simp[hlt]at hi
  ·simp[hlt]at hi) (.inl ⟨k,g,fget S.F,oget S.O,?_⟩)
 ·simpa using this
 ·refine⟨hs'.toF hnx,⟨λj t hj=>absurd hj (by by_cases hlt:j<ops.size<;>simp[hlt]),λt _=>rfl,λj o hj=>absurd hj (by by_cases hlt:j<ops.size<;>simp[hlt]),λi _=>rfl⟩,λt f hf i hi=> .inl ?_,λi o ho j hj=> .inl ?_,λx o e=>(by cases e),λi _ hh=>absurd hh (by by_cases hlt:i<ops.size<;>simp[hlt])⟩
  ·have:=(hs.facts t f hf).1
   cases f<;>simp[zao]at hi<;>subst hi<;>exact this
  ·have:=(hs.owns i o ho).2.1
   cases o with
   |ch=>simp[zc8]at hj
   |gen=>simp[zc8]at hj
   |box cells=>
    obtain⟨f,hf,hid⟩:=List.mem_flatMap.1 hj
    have:=this f hf
    cases f<;>simp[zao]at hid<;>subst hid<;>exact this
theorem znq(hm:P.follows .mixedOrders=true)(hT:TOk P T){ops:Array Oper}{S:St}(hN: ∀o∈ops.toList,∀d,o.dst=some d->d<N){K:St->Prop}(hs:Sat B N S a w k)(hok:zlf ops.toList=true)
  (h:rund P T ops.toList (zas [] ops.toList) S.nx 0 ops.toList S [] [] K) (hQ: ∀S' a' w' k',K S'->Sat B N S' a' w' k'->Q .normal a' w'):wpAny P .any ops Q ops.size (Array.replicate ops.size false) a {w with drawn:=w.drawn+1}:=by
 obtain⟨res,_,hstp,hend,hrun⟩:=zu6 (l:=ops.toList) (S0:=S) (K:=K) ops.toList 0 (λ_=>(.r .any,none)) rfl h
 simp only[Nat.zero_add]at hstp hrun hend
 exact zly hm hT hN hs (zcgb hok) (λj hj=>hstp j (Nat.zero_le _) hj) hend hrun hQ
theorem zzx(hm:P.follows .mixedOrders=true)(hT:TOk P T){id:Nat}{ops:Array Oper}{S:St}(hN: ∀o∈ops.toList,∀d,o.dst=some d->d<N){K:St->Prop}(hs:Sat B N S a w k)
  (h:Vcut_ P T ops.toList S K) (hQ: ∀S' a' w' k',K S'->Sat B N S' a' w' k'->Q .normal a' w'):(Code.region id ops true).wp P Q a w:=by
 obtain⟨m,hok,h⟩:=h
 obtain⟨res,_,hstp,hend,hrun⟩:=zrv (l:=ops.toList) (S0:=S) (K:=K) m ops.toList 0 (λ_=>(.r .any,none)) rfl h
 simp only[Nat.zero_add]at hstp hrun hend
 exact wp_region_any hm (zly hm hT hN hs (zxb hok) (λj hj=>hstp j (Nat.zero_le _) hj) hend hrun hQ)
theorem zym(hm:P.follows .mixedOrders=true)(hT:TOk P T){id:Nat}{ops:Array Oper}{S:St}(hN: ∀o∈ops.toList,∀d,o.dst=some d->d<N){K:St->Prop}(hs:Sat B N S a w k)(hok:zlf ops.toList=true)
  (h:rund P T ops.toList (zas [] ops.toList) S.nx 0 ops.toList S [] [] K) (hQ: ∀S' a' w' k',K S'->Sat B N S' a' w' k'->Q .normal a' w'):(Code.region id ops true).wp P Q a w:=
 wp_region_any hm (znq hm hT hN hs hok h hQ)
theorem zqh: ∀{l l':List Oper} {o:Oper},zhz l=some (l',o)->l=l'++[o]
 |[],_,_,h=>by simp[zhz]at h
 |x::r,l',o,h=>by
  simp only[zhz]at h
  split at h
  ·rename_i l2 y hr
   cases h
   rw[zqh hr];rfl
  ·rename_i hr
   cases h
   cases r with
   |nil=>rfl
   |cons y r=>
    simp only[zhz]at hr
    split at hr<;>cases hr
theorem z5e{l:List Oper}{o:Oper}{d:Nat}{v:Value}(h:z5o l o=some (d,v)):
  o.op= .move (.const v)/\o.dst=some d/\o.guard=none/\o.after= #[]/\∀p∈l,d∉ze1 p/\p.dst≠some d/\(∀cs b,p.op≠ .select cs b)/\∀g b,p.guard=some (g,b)->g<l.length:=by
 unfold z5o at h
 split at h
 ·rename_i v' d' h1 h2 h3 h4
  split at h
  ·rename_i hall
   cases h
   refine⟨h1,h2,h3,by apply Array.ext';simpa using h4,λp hp=>?_⟩
   have:=(zbk.1 hall) p hp
   simp only[Bool.and_eq_true,Bool.not_eq_true']at this
   obtain⟨q1,q2,q3,q4⟩:=this
   refine⟨λhm=>?_,λe=>?_,λcs b e=>?_,λg b e=>?_⟩
   ·rw[zbt.2 hm]at q1;cases q1
   ·rw[e]at q2;simp at q2
   ·rw[e]at q3;simp[zcpb]at q3
   ·rw[e]at q4;simp[Nat.blt]at q4;omega
  ·cases h
 ·cases h
theorem z5g{l:List Oper}{o:Oper}(hed: ∀(j:Nat) (p:Oper),l[j]?=some p->∀e∈p.after,Region.binds .any e=true->e.on<l.length)(hg: ∀(j:Nat) (p:Oper),l[j]?=some p->∀g b,p.guard=some (g,b)->g<l.length):
  ∀(fuel:Nat) (listed:Array Bool) (a:Act) (w:World),listed.size=l.length->wpAny P .any l.toArray Q fuel listed a w->wpAny P .any (l++[o]).toArray Q fuel (listed.push true) a w:=by
 have hready: ∀(listed:Array Bool),listed.size=l.length->∀j,j∈Region.ready .any (l++[o]).toArray (listed.push true)↔j∈Region.ready .any l.toArray listed:=by
  intro listed hsz j
  rw[mem_ready,mem_ready]
  simp only[List.getElem?_toArray,Array.getD_eq_getD_getElem?,Array.getElem?_push,hsz]
  rcases Nat.lt_or_ge j l.length with hj |hj
  ·rw[if_neg (by omega),List.getElem?_append_left hj]
   constructor
   ·rintro⟨h0,p,hp,hall⟩
    refine⟨h0,p,hp,λe he hb=>?_⟩
    have:=hall e he hb
    rwa[if_neg (by have:=hed j p hp e he hb;omega)]at this
   ·rintro⟨h0,p,hp,hall⟩
    refine⟨h0,p,hp,λe he hb=>?_⟩
    rw[if_neg (by have:=hed j p hp e he hb;omega)]
    exact hall e he hb
  ·constructor
   ·rintro⟨h0,_⟩
    split at h0
    ·simp at h0
    ·rw[Array.getElem?_eq_none (by omega)]at h0;simp at h0
   ·rintro⟨h0,p,hp,_⟩
    rw[List.getElem?_eq_none hj]at hp;cases hp
 intro fuel
 induction fuel with
 |zero=>
  intro listed a w hsz h
  refine⟨?_,h.2⟩
  rw[List.eq_nil_iff_forall_not_mem]
  intro j hj
  have:=(hready listed hsz j).1 hj
  rw[h.1]at this;simp at this
 |succ fuel ih=>
  intro listed a w hsz h
  refine⟨λhe=>h.1 ?_,λj hj=>?_⟩
  ·rw[List.eq_nil_iff_forall_not_mem]
   intro j hj
   have:=(hready listed hsz j).2 hj
   rw[he]at this;simp at this
  ·have hj':=(hready listed hsz j).1 hj
   have hw:=h.2 j hj'
   have hlt:j<l.length:=by
    obtain⟨_,p,hp,_⟩:=mem_ready.1 hj'
    simpa using(Array.getElem?_eq_some_iff.1 hp).1
   have e1:(listed.push true).setIfInBounds j true=(listed.setIfInBounds j true).push true:=by
    apply Array.ext'
    simp only[Array.toList_setIfInBounds,Array.toList_push]
    rw[List.set_append_left _ _ (by rw[Array.length_toList];omega)]
   rw[e1]
   obtain⟨p,hp⟩: ∃p,l[j]?=some p:=⟨l[j],List.getElem?_eq_getElem hlt⟩
   unfold wpOp at hw⊢
   have hp1:l.toArray[j]?=some p:=by simpa using hp
   have hp2:(l++[o]).toArray[j]?=some p:=by simpa[List.getElem?_append_left hlt]using hp
   rw[hp1]at hw
   rw[hp2]
   simp only at hw⊢
   have hwant:Region.wanted p (yielded (l++[o]).toArray a.tmps)=Region.wanted p (yielded l.toArray a.tmps):=by
    unfold Region.wanted
    cases hpg:p.guard with
    |none=>rfl
    |some gw=>
     obtain⟨gi,b⟩:=gw
     have:=hg j p hp gi b hpg
     simp only[yielded,List.getElem?_toArray,List.getElem?_append_left this]
   rw[hwant]
   split at hw
   ·rename_i hc
    rw[if_pos hc]
    rcases hw with hw |hw
    ·exact .inl (Oper.wp_mono (λa' w' h'=>ih _ a' w' (by simpa using hsz) h') hw)
    ·exact .inr hw
   ·rename_i hc
    rw[if_neg hc]
    exact ih _ _ _ (by simpa using hsz) hw
theorem zyi(hm:P.follows .mixedOrders=true)(hT:TOk P T){id:Nat}{ops:Array Oper}{S:St}(hN: ∀o∈ops.toList,∀d,o.dst=some d->d<N){K:St->Prop}(hs:Sat B N S a w k)
  {l:List Oper} {d:Nat} {v:Value} (hf:ztm ops.toList=some (l,d,v)) (hok:zlf l=true)
  (h:rund P T l (zas [] l) S.nx 0 l (S.put (some d) (.r (ofC v))) [] [] K) (hQ: ∀S' a' w' k',K S'->Sat B N S' a' w' k'->Q .normal a' w'):(Code.region id ops true).wp P Q a w:=by
 unfold ztm at hf
 split at hf
 ·rename_i l' o hsp
  split at hf
  ·rename_i d' v' hfb
   cases hf
   have hops:ops=(l++[o]).toArray:=by apply Array.ext';simpa using zqh hsp
   subst hops
   obtain⟨hop,hdst,hgd,haf,hall⟩:=z5e hfb
   have hlim: ∀(j:Nat) (p:Oper),l[j]?=some p->(∀e∈p.after,Region.binds .any e=true->e.on<l.length)/\∀g b,p.guard=some (g,b)->g<l.length:=by
    intro j p hp
    have hj:=(List.getElem?_eq_some_iff.1 hp).1
    simp only[zlf,zk1,Bool.and_eq_true]at hok
    have h1:=(zbk.1 hok.2) j (List.mem_range.2 hj)
    simp only[zb0,hp]at h1
    simp only[zlq,Bool.and_eq_true]at h1
    refine⟨λe he hb=>?_,λg b hpg=>?_⟩
    ·have:=(zbk.1 h1.1) e.on (List.mem_filterMap.2 ⟨e,by simpa using he,by simp[hb]⟩)
     simp[Nat.blt]at this
     omega
    ·exact(hall p (List.mem_of_getElem? hp)).2.2.2 g b hpg
   let Qn:Exit->Act->World->Prop:=λe a w=>match e with
    | .normal=>Q .normal a w
    |_=>False
   obtain⟨g,hs⟩:=hs
   have hd:d<N:=hN o (by simp) d hdst
   have hput:Sat B N (S.put (some d) (.r (ofC v))) (a.put (some d) v) w k:=⟨g,hs.put (λx hx=>by cases hx;exact hd) trivial (z0q v)⟩
   have hstart:=znq (Q:=Qn) (ops:=l.toArray) hm hT (λp hp=>hN p (by simp at hp⊢;exact .inl hp)) hput (by simpa using hok) (by rw[List.toList_toArray];exact h) hQ
   have hpush:=z5g (Q:=Qn) (o:=o) (λj p hp=>(hlim j p hp).1) (λj p hp=>(hlim j p hp).2) _ _ _ _ (by simp) hstart
   have hoi:((l++[o]).toArray)[l.length]?=some o:=by simp
   have hfirst:=wpAny_first (Q:=Qn) (md:= .any) (v:=v) hoi (λj p cs b hp e=>by
    have hp':(l++[o])[j]?=some p:=by simpa using hp
    rcases Nat.lt_or_ge j l.length with hj |hj
    ·rw[List.getElem?_append_left hj]at hp'
     exact(hall p (List.mem_of_getElem? hp')).2.2.1 cs b e
    ·rw[List.getElem?_append_right hj]at hp'
     have:j-l.length=0:=by have:=(List.getElem?_eq_some_iff.1 hp').1;simp at this;omega
     rw[this]at hp'
     simp at hp'
     rw[<-hp',hop]at e;cases e) (λc a w h=>h.elim) l.length (Array.replicate (l.length+1) false) a {w with drawn:=w.drawn+1} (λj p hp hne hun hno=>by
    have hp':(l++[o])[j]?=some p:=by simpa using hp
    have hj:j<l.length:=by have:=(List.getElem?_eq_some_iff.1 hp').1;simp at this;omega
    rw[List.getElem?_append_left hj]at hp'
    obtain⟨q1,q2,q3,q4⟩:=hall p (List.mem_of_getElem? hp')
    have hlook:d∉p.looksAt (l++[o]).toArray:=by
     intro hm
     rcases List.mem_append.1 hm with hm |hm
     ·exact q1 hm
     ·cases hpg:p.guard with
      |none=>simp[hpg]at hm
      |some gw=>
       obtain⟨gi,b⟩:=gw
       have hgl:=q4 gi b hpg
       simp only[hpg,List.getElem?_toArray,List.getElem?_append_left hgl,Option.mem_toList]at hm
       rw[List.getElem?_eq_getElem hgl]at hm
       exact(hall _ (List.getElem_mem hgl)).2.1 (by simpa using hm)
    have hlook0: ∀x,x∉o.looksAt (l++[o]).toArray:=λx hx=>by
     simp[Oper.looksAt,hop,hgd,Op.operands]at hx
    unfold Oper.apart
    rw[hdst]
    simp only[Bool.and_eq_true,Bool.not_eq_true',bne_iff_ne,ne_eq]
    refine⟨⟨by simpa using hlook,q2⟩,?_⟩
    cases p.dst with
    |none=>rfl
    |some x=>simpa using hlook0 x) (by
    rw[mem_ready]
    exact⟨by simp,o,hoi,λe he=>by rw[haf]at he;simp at he⟩) (.inl ⟨by simp[Region.wanted,hgd],λw=>by simp[execOp,hop,Act.eval]⟩) (by
    have e1:(Array.replicate (l.length+1) false).setIfInBounds l.length true=(Array.replicate l.toArray.size false).push true:=by
     apply Array.ext'
     simp only[Array.toList_setIfInBounds,Array.toList_push,Array.toList_replicate,List.size_toArray]
     rw[List.replicate_succ',List.set_append_right _ _ (by simp)]
     simp
    rw[e1,hdst]
    exact hpush)
   have hreg:(Code.region id (l++[o]).toArray true).wp P Qn a w:=wp_region_any hm (by simpa using hfirst)
   intro b kk cs
   obtain⟨e,a',w',q,r⟩:=hreg b kk cs
   refine⟨e,a',w',?_,r⟩
   cases e with
   |normal=>exact q
   |_=>exact q.elim
  ·cases hf
 ·cases hf
end
end
section
section
variable {P:Program} {T:TT} {B:Bs} {N:Nat} {S:St} {a:Act} {w:World} {k:Kp} {g:Env} {o:Oper} {Q:Exit->Act->World->Prop}
def renv(ρ:List (Nat×Nat))(g:Env):Env:=λi=>match zdx ρ i with
 |some j=>g j
 |none=>g i
theorem zv1{ρ:List (Nat×Nat)}(hs:SatE B N S a w k g){f f':TF}{u:Value}(h:cvTF ρ S f f')(hf:f.at_ w k g u):f'.at_ w k (renv ρ g) u:=by
 cases f' with
 |r v=>
  unfold cvTF at h
  simp only at h
  split at h
  ·simp[TF.at_,RV.at_]
  ·split at h
   ·rename_i v' hv
    exact h w k u (zhl hs hv hf)
   ·exact h.elim
 |own id=>
  simp only[cvTF]at h
  split at h
  ·rename_i j i hj
   subst h
   simp only[TF.at_,renv,hj]at*
   exact hf
  ·exact h.elim
 |adr id off=>
  simp only[cvTF]at h
  split at h
  ·rename_i j i o hj
   obtain⟨rfl,rfl⟩:=h
   simp only[TF.at_,renv,hj]at*
   exact hf
  ·exact h.elim
 |nm id v=>
  simp only[cvTF]at h
  split at h
  ·rename_i j i u hj
   obtain⟨rfl,rfl⟩:=h
   simp only[TF.at_,renv,hj]at*
   exact hf
  ·exact h.elim
theorem zoq{ρ:List (Nat×Nat)}(hs:SatE B N S a w k g): ∀{cs ds:List TF} {us:List Value},zh5 ρ S cs ds->AllAt (λf u=>u.oneCell'=true/\f.at_ w k g u) cs us->AllAt (λf u=>u.oneCell'=true/\f.at_ w k (renv ρ g) u) ds us
 |[],ds,us,h,hu=>by simp only[zh5]at h;subst h;exact⟨hu.1,λj f u hf=>by simp at hf⟩
 |f::cs,ds,us,h,hu=>by
  simp only[zh5]at h
  obtain⟨f',ds',rfl,h1,h2⟩:=h
  cases us with
  |nil=>have:=hu.1;simp at this
  |cons u us=>
   have h0:=hu.2 0 f u (by simp) (by simp)
   have ih:=zoq hs h2 ⟨by simpa using hu.1,λj f u hf hv=>hu.2 (j+1) f u (by simpa using hf) (by simpa using hv)⟩
   refine⟨by simp[ih.1],λj f2 v hf hv=>?_⟩
   cases j with
   |zero=>simp at hf hv;subst hf;subst hv;exact⟨h0.1,zv1 hs h1 h0.2⟩
   |succ j=>exact ih.2 j f2 v (by simpa using hf) (by simpa using hv)
theorem zr3{ρ:List (Nat×Nat)}: ∀{F:List (Nat×TF)} {t:Nat} {f:TF},znu ρ S F->fget F t=some f->(∃f',fget S.F t=some f'/\cvTF ρ S f' f)/\(t,f)∈F
 |[],t,f,_,h=>by simp[fget]at h
 |(u,f0)::r,t,f,hok,h=>by
  simp only[znu]at hok
  rcases zca h with⟨rfl,rfl⟩ |⟨_,h⟩
  ·refine⟨?_,by simp⟩
   have:=hok.1
   split at this
   ·rename_i f' hf';exact⟨f',hf',this⟩
   ·exact this.elim
  ·have:=zr3 hok.2 h
   exact⟨this.1,List.mem_cons_of_mem _ this.2⟩
theorem zeq{ρ:List (Nat×Nat)}: ∀{O:List (Nat×Option Ow)} {id:Nat} {o:Ow},znm ρ S O->oget O id=some o->(∃j o',zdx ρ id=some j/\oget S.O j=some o'/\cvOw ρ S o' o)/\(id,some o)∈O
 |[],id,o,_,h=>by simp[oget]at h
 |(u,o0)::r,id,o,hok,h=>by
  simp only[znm]at hok
  rcases zav h with⟨rfl,rfl⟩ |⟨_,h⟩
  ·refine⟨?_,by simp⟩
   have:=hok.1
   split at this
   ·rename_i o1 j he hj
    cases he
    split at this
    ·rename_i o' ho';exact⟨j,o',hj,ho',this⟩
    ·exact this.elim
   ·exact this.elim
  ·have:=zeq hok.2 h
   exact⟨this.1,List.mem_cons_of_mem _ this.2⟩
theorem zvg{n:Nat}: ∀{f:TF},ltB n f=true->f.lt n
 | .r _,_=>trivial
 | .own id,h=>by simp[ltB,Nat.blt]at h;simp[TF.lt];omega
 | .adr id _,h=>by simp[ltB,Nat.blt]at h;simp[TF.lt];omega
 | .nm id _,h=>by simp[ltB,Nat.blt]at h;simp[TF.lt];omega
theorem z1o{n:Nat}: ∀{o:Ow},zyv n o=true->o.lt n
 | .box cells,h=>λf hf=>zvg (by simp[zyv]at h;exact h f hf)
 | .ch ..,_=>trivial
 | .gen _,_=>trivial
theorem zmq: ∀{ρ:List (Nat×Nat)} {i j:Nat},zdx ρ i=some j->(i,j)∈ρ
 |[],i,j,h=>by simp[zdx]at h
 |(u,f)::r,i,j,h=>by
  simp only[zdx]at h
  split at h
  ·rename_i hb;cases h;rw[<-Nat.eq_of_beq_eq_true hb];simp
  ·exact List.mem_cons_of_mem _ (zmq h)
theorem zdt: ∀{l:List Nat},zir l=true->l.Nodup
 |[],_=>List.nodup_nil
 |x::r,h=>by
  simp only[zir,Bool.and_eq_true,Bool.not_eq_true',List.any_eq_false]at h
  refine List.nodup_cons.2 ⟨λhx=>?_,zdt h.2⟩
  have:=h.1 x hx
  simp at this
theorem z1l: ∀{ρ:List (Nat×Nat)} {i i' j:Nat},(ρ.map (·.2)).Nodup->(i,j)∈ρ->(i',j)∈ρ->i=i'
 |[],_,_,_,_,m,_=>by cases m
 |x::r,i,i',j,hn,m,m'=>by
  simp only[List.map_cons,List.nodup_cons]at hn
  rcases List.mem_cons.1 m with e |m1
  ·rcases List.mem_cons.1 m' with e' |m1'
   ·rw[<-e]at e';cases e';rfl
   ·exact absurd (by rw[<-e];exact List.mem_map.2 ⟨(i',j),m1',rfl⟩) hn.1
  ·rcases List.mem_cons.1 m' with e' |m1'
   ·exact absurd (by rw[<-e'];exact List.mem_map.2 ⟨(i,j),m1,rfl⟩) hn.1
   ·exact z1l hn.2 m1 m1'
theorem zxh{ρ:List (Nat×Nat)}(hn:(ρ.map (·.2)).Nodup){i i' j:Nat}(h:zdx ρ i=some j)(h':zdx ρ i'=some j):i=i':=
 z1l hn (zmq h) (zmq h')
theorem Cvs.length: ∀{cs ds:List RV},Cvs cs ds->ds.length=cs.length
 |[],ds,h=>by simp only[Cvs]at h;subst h;rfl
 |x::cs,ds,h=>by
  simp only[Cvs]at h
  obtain⟨g,r,rfl,_,h⟩:=h
  simp[Cvs.length h]
theorem zad(ρ:List (Nat×Nat)){S S':St}(h0:stOk ρ S'=true)(h1:znu ρ S S'.F)(h2:znm ρ S S'.O):Sub S S':=by
 intro B N a w k ⟨g,hs⟩
 simp only[stOk,Bool.and_eq_true,List.all_eq_true]at h0
 obtain⟨⟨⟨hF,hO⟩,hn2⟩,_⟩:=h0
 refine⟨k,renv ρ g,hs.size,hs.defers,hs.keep,hs.kk,λt f hf=>?_,λid o ho=>?_,λi j o o' b hi hj hne hbi hbj=>?_⟩
 ·obtain⟨⟨f',hf',hc⟩,hm⟩:=zr3 h1 hf
  exact⟨zvg (hF _ hm),zv1 hs hc (hs.facts t f' hf').2⟩
 ·obtain⟨⟨j,o',hj,ho',hc⟩,hm⟩:=zeq h2 ho
  have hlt:=hO _ hm
  obtain⟨q1,q2,q3,q4⟩:=hs.owns j o' ho'
  have hren:renv ρ g id=g j:=by simp[renv,hj]
  refine⟨by have:=hlt.1;simp[Nat.blt]at this;omega,z1o hlt.2,?_,by rw[hren];exact q4⟩
  rw[hren]
  cases o' with
  |box cs=>
   cases o with
   |box ds=>
    simp only[Ow.at_]at q3⊢
    obtain⟨b,cur,t,e,hh,hk,hsz,hall⟩:=q3
    have hds:=zoq (us:=cur.toList) hs hc ⟨by rw[Array.length_toList,hsz],λj f u hf hu=>hall j f u hf (by simpa using hu)⟩
    exact⟨b,cur,t,e,hh,hk,by rw[<-Array.length_toList,hds.1],λj f u hf hu=>hds.2 j f u hf (by simpa using hu)⟩
   |ch=>exact hc.elim
   |gen=>exact hc.elim
  |gen p=>
   cases o with
   |gen q=>exact hc w k _ q3
   |box=>exact hc.elim
   |ch=>exact hc.elim
  |ch e sz n cs pub=>
   cases o with
   |box=>exact hc.elim
   |gen=>exact hc.elim
   |ch e' sz' n' ds pub'=>
    obtain⟨rfl,rfl,rfl,rfl,hcs⟩:=hc
    simp only[Ow.at_]at q3⊢
    obtain⟨r1,r2⟩:=q3
    have hlen:ds.length=cs.length:=Cvs.length hcs
    refine⟨by rw[hlen];exact r1,?_⟩
    rcases r2 with⟨h0,r2 |⟨hn,hp,b,o,e,hm,hb,hc⟩⟩ |⟨b,cap,cur,e1,e2,hh,s1,s2,s3,s4,s5⟩
    ·exact .inl ⟨h0, .inl r2⟩
    ·exact .inl ⟨h0, .inr ⟨hn,hp,b,o,e,hm,hb,hcs.cells hc⟩⟩
    ·exact .inr ⟨b,cap,cur,e1,e2,hh,s1,s2,s3,s4,hcs.list s5⟩
 ·obtain⟨⟨i',oi,hi',hoi,_⟩,_⟩:=zeq h2 hi
  obtain⟨⟨j',oj,hj',hoj,_⟩,_⟩:=zeq h2 hj
  simp only[renv,hi']at hbi
  simp only[renv,hj']at hbj
  refine hs.apart i' j' oi oj b hoi hoj (λe=>?_) hbi hbj
  subst e
  exact hne (zxh (zdt hn2) hi' hj')
theorem zdj(hm:P.follows .mixedOrders=true)(hT:TOk P T): ∀(c:Code) (S:St) (Q:Exit->St->Prop),vcg P T c S Q->z3t P c S Q
 | .skip,S,Q,h=>λB N a w k Q' hs _ hQ=>wp_skip (hQ _ S a w k h hs)
 | .region id ops draw,S,Q,h=>λB N a w k Q' hs hd hQ=>by
  have hN: ∀o∈ops.toList,∀d,o.dst=some d->d<N:=λo ho d hod=>by
   simp only[zcp,List.all_eq_true]at hd
   have h1:=hd o ho
   simp only[hod]at h1
   exact Nat.le_of_ble_eq_true h1
  cases draw with
  |false=>
   simp only[vcg]at h
   split at h
   ·have:=zku (Q:=Q') hT hN (λ_ h=>h) hs h λS' a' w' k' hq hs'=>hQ _ S' a' w' k' hq hs'
    exact wp_region_list this
   ·exact h.out B N a w k Q' hs hd hQ
  |true=>
   simp only[vcg]at h
   split at h
   ·obtain⟨hok,h⟩ |h |h:=h
    ·exact zym hm hT hN hs hok h λS' a' w' k' hq hs'=>hQ _ S' a' w' k' hq hs'
    ·exact zzx hm hT hN hs h λS' a' w' k' hq hs'=>hQ _ S' a' w' k' hq hs'
    ·exact h.out B N a w k Q' hs hd hQ
   ·rename_i l d v hfree
    obtain⟨hok,h⟩ |h:=h
    case inr=>exact h.elim
    exact zyi hm hT hN hs hfree hok h λS' a' w' k' hq hs'=>hQ _ S' a' w' k' hq hs'
 | .seq x y,S,Q,h=>λB N a w k Q' hs hd hQ=>by
  simp only[zcp,Bool.and_eq_true]at hd
  simp only[vcg]at h
  refine wp_seq (zdj hm hT x S _ h B N a w k _ hs hd.1 λe S' a' w' k' hq hs'=>?_)
  cases e with
  |normal=>exact zdj hm hT y S' Q hq B N a' w' k' Q' hs' hd.2 hQ
  |_=>exact hQ _ S' a' w' k' hq hs'
 | .cond c x y,S,Q,h=>λB N a w k Q' hs hd hQ=>by
  simp only[zcp,Bool.and_eq_true]at hd
  simp only[vcg]at h
  split at h
  ·rename_i β hc
   obtain⟨g,hs'⟩:=hs
   have hev:=(zak hs' hc).2
   simp only[TF.at_,RV.at_]at hev
   refine wp_cond_split hev (λht=>?_) λhf=>?_
   ·exact zdj hm hT x S Q (h.out.1 ht) B N a w k Q' ⟨g,hs'⟩ hd.1 hQ
   ·exact zdj hm hT y S Q (h.out.2 hf) B N a w k Q' ⟨g,hs'⟩ hd.2 hQ
  ·exact h.elim
 | .block id c,S,Q,h=>λB N a w k Q' hs hd hQ=>by
  simp only[vcg]at h
  refine wp_block (zdj hm hT c S _ h B N a w k _ hs hd λe S' a' w' k' hq hs'=>?_)
  cases e with
  |exit id'=>
   simp only[Exit.inBlock]
   simp only[z7t]at hq
   split at hq
   ·rename_i hb;rw[if_pos (Nat.eq_of_beq_eq_true hb)];exact hQ _ S' a' w' k' hq hs'
   ·rename_i hb;rw[if_neg (Nat.ne_of_beq_eq_false hb)];exact hQ _ S' a' w' k' hq hs'
  |_=>exact hQ _ S' a' w' k' hq hs'
 | .loop c,S,Q,h=>λB N a w k Q' hs hd hQ=>by
  simp only[vcg]at h
  obtain⟨ι,inv,R,μ,⟨i0,hR0,hsub⟩,hround⟩:=h
  obtain⟨k0,hs0⟩:=hsub B N a w k hs
  refine wp_loop_ghost (λn a w=>∃i k,R i/\μ i=n/\Sat B N (inv i) a w k) (μ i0) ⟨i0,k0,hR0,rfl,hs0⟩ ?_
  rintro n a' w' ⟨i,k',hR,rfl,hs'⟩
  rcases hround with hround |hround
  ·refine zdj hm hT c (inv i) _ (hround i hR) B N a' w' k' _ hs' hd λe S' a2 w2 k2 hq hs2=>?_
   cases e with
   |normal=>
    obtain⟨i',hR',hlt,hsub'⟩:=hq
    obtain⟨k3,hs3⟩:=hsub' B N a2 w2 k2 hs2
    exact⟨μ i',hlt,i',k3,hR',rfl,hs3⟩
   |_=>exact hQ _ S' a2 w2 k2 hq hs2
  ·refine zdj hm hT c (inv i) _ (hround i hR) B N a' w' k' _ hs' hd λe S' a2 w2 k2 hq hs2=>?_
   cases e with
   |normal=>
    obtain⟨i',hR',hlt,hsub'⟩:=hq
    obtain⟨k3,hs3⟩:=hsub' B N a2 w2 k2 hs2
    exact⟨μ i',hlt,i',k3,hR',rfl,hs3⟩
   |_=>
    obtain⟨S2,hsub2,hq⟩:=hq
    obtain⟨k3,hs3⟩:=hsub2 B N a2 w2 k2 hs2
    exact hQ _ S2 a2 w2 k3 hq hs3
 | .exit id,S,Q,h=>λB N a w k Q' hs _ hQ=>wp_exit (hQ _ S a w k h hs)
 | .ret,S,Q,h=>λB N a w k Q' hs _ hQ=>wp_ret (hQ _ S a w k h hs)
 | .label l,S,Q,h=>λB N a w k Q' hs _ hQ=>wp_label (hQ _ S a w k h hs)
 | .goto l,S,Q,h=>λB N a w k Q' hs _ hQ=>wp_goto (hQ _ S a w k h hs)
 | .scope c,S,Q,h=>h.out
 | .rangeFunc _ _ _ _,S,Q,h=>h.out
 | .refuse _,S,Q,h=>h.elim
end
section
variable {P:Program} {T:TT} {B:Bs} {N:Nat} {S:St} {a:Act} {w:World} {k:Kp} {g:Env}
theorem zqy: ∀{l:List RV} {n t:Nat} {f:TF} {us:List Value},RV.partsAt w k l us->fget (zor n l) t=some f->∃v,f= .r v/\n<=t/\∃u,us[t-n]?=some u/\v.at_ w k u
 |[],_,_,_,_,_,h=>by simp[zor,fget]at h
 |v::r,n,t,f,us,hp,h=>by
  simp only[RV.partsAt]at hp
  obtain⟨u,us',rfl,h1,h2⟩:=hp
  simp only[zor]at h
  rcases zca h with⟨rfl,rfl⟩ |⟨hne,h⟩
  ·exact⟨v,rfl,Nat.le_refl _,u,by simp,h1⟩
  ·obtain⟨v',e,hle,u',hu',h3⟩:=zqy h2 h
   refine⟨v',e,by omega,u',?_,h3⟩
   rw[show t-n=(t-(n+1))+1 by omega]
   simpa using hu'
theorem zm7: ∀{l:List RV} {us:List Value},RV.partsAt w k l us->us.length=l.length
 |[],us,h=>by simp only[RV.partsAt]at h;subst h;rfl
 |v::r,us,h=>by
  simp only[RV.partsAt]at h
  obtain⟨u,us',rfl,_,h2⟩:=h
  simp[zm7 h2]
theorem zxm{args:List RV}{vs:List Value}(hp:RV.partsAt w k args vs){n:Nat}(hn:args.length<=n):
  Sat ⟨w,k,[]⟩ n (St.args args) {tmps:=vs.toArray++Array.replicate (n-vs.toArray.size) undef,defers:=[]} w k:=by
 have hl:=zm7 hp
 refine⟨λ_=>(undef,none),by simp;omega,rfl,⟨rfl,rfl,rfl,Nat.le_refl _,λ_ _ _=>rfl⟩,λ_ _ _=>rfl,λt f hf=>?_,λid o ho=>by simp[St.args,oget]at ho,λi j o o' b hi=>by simp[St.args,oget]at hi⟩
 obtain⟨v,rfl,_,u,hu,hat⟩:=zqy hp hf
 rw[Nat.sub_zero]at hu
 refine⟨trivial,?_⟩
 have hlt:t<vs.length:=(List.getElem?_eq_some_iff.1 hu).1
 have:(vs.toArray++Array.replicate (n-vs.toArray.size) undef)[t]?=some u:=by
  rw[Array.getElem?_append_left (by simpa using hlt)]
  simpa using hu
 simp only[TF.at_,Array.getD_eq_getD_getElem?,this,Option.getD_some]
 exact hat
def znz(tmps:Array Value)(x:ResultVar):Sem Value:=
 match x with
 | .tmp t=>pure (tmps.getD t undef)
 | .cell p t=>do loadVar t (<-asAddr (tmps.getD p undef))
theorem zgy(fn:Func)(tmps:Array Value):results fn tmps=(do
  let vs<-fn.results.mapM (znz tmps)
  pure (if h:vs.size=1 then vs[0]else .tuple vs)):=by
 unfold results
 congr 2
theorem zoe(hT:TOk P T)(hs:SatE B N S a w k g){x:ResultVar}{K:TF->Prop}(h:resv T S x K):
  ∃f v,K f/\f.at_ w k g v/\(znz a.tmps x).run P w= .ok v w:=by
 cases x with
 |tmp t=>
  simp only[resv]at h
  split at h
  ·rename_i f hf
   exact⟨f,_,h,(hs.facts t f hf).2,rfl⟩
  ·exact h.elim
 |cell p t=>
  simp only[resv]at h
  split at h
  ·rename_i f ti hf hti
   obtain⟨q,hq⟩:=hT.get hti
   obtain⟨f',v,hK,_,hat,hr⟩:=zx4 hs q hq (hs.facts p f hf).2 h
   refine⟨f',v,hK,hat,?_⟩
   cases hv:a.tmps.getD p undef with
   |pointer ad=>
    cases ad with
    |some ad=>rw[hv]at hr;simp only[Instr.loadAt,Instr.sureAddr,Sem.run_bind,Sem.run_pure,Result.andThen_ok]at hr;simp only[znz,hv,asAddr,Sem.run_bind,Sem.run_pure,Result.andThen_ok];exact hr
    |none=>rw[hv]at hr;simp[Instr.loadAt,Instr.sureAddr]at hr
   |_=>rw[hv]at hr;simp[Instr.loadAt,Instr.sureAddr]at hr
  ·exact h.elim
theorem zm1(hT:TOk P T)(hs:SatE B N S a w k g): ∀{xs:List ResultVar} {K:List RV->Prop},zut T S xs K->
  ∃rs vs,K rs/\RV.partsAt w k rs vs/\vs.length=xs.length/\(xs.mapM (znz a.tmps)).run P w= .ok vs w
 |[],K,h=>⟨[],[],h,by simp[RV.partsAt],rfl,by simp⟩
 |x::r,K,h=>by
  simp only[zut]at h
  obtain⟨f,v,h1,hat,hr⟩:=zoe hT hs h
  split at h1
  ·rename_i rv hrv
   obtain⟨rs,vs,hK,hp,hlen,hr2⟩:=zm1 hT hs h1
   refine⟨_,v::vs,hK,by simp only[RV.partsAt];exact⟨v,vs,rfl,zhl hs hrv hat,hp⟩,by simp[hlen],?_⟩
   rw[List.mapM_cons,Sem.run_bind,hr]
   simp[hr2]
  ·exact h1.elim
theorem z0p(hT:TOk P T){fn:Func}{res:Res}{e:Exit}{S':St}{a':Act}{w':World}{k':Kp}(hq:finv T fn.results res e S')(hs':Sat ⟨w,k,[]⟩ N S' a' w' k'):
  bodyPost P fn (λe w'=>∃v,e=Ending.returned v/\Ext w w'/\∃k':Kp,(∀b,b<w.heap.size->k' b=k b)/\res.at_ w.heap.size w' k' v) e a' w':=by
 have fin:finv T fn.results res .ret S'->a'.defers=[]/\∃v,(results fn a'.tmps).run P w'= .ok v w'/\
   (λe w'=>∃v,e=Ending.returned v/\Ext w w'/\∃k':Kp,(∀b,b<w.heap.size->k' b=k b)/\res.at_ w.heap.size w' k' v) (.returned v) w':=by
  intro hq
  obtain⟨g,hs'⟩:=hs'
  have hext:Ext w w':=⟨hs'.keep.os,hs'.keep.tape,hs'.keep.output,hs'.keep.size,λb hb=>hs'.keep.block b hb (by simp)⟩
  have hkk: ∀b,b<w.heap.size->k' b=k b:=λb hb=>hs'.kk b hb (by simp)
  refine⟨hs'.defers,?_⟩
  simp only[finv]at hq
  unfold retv at hq
  split at hq
  ·rename_i x hx
   obtain⟨fr,v,hret,hat,hr⟩:=zoe hT hs' hq
   refine⟨v,?_,v,rfl,hext,k',hkk,?_⟩
   ·have hx':fn.results= #[x]:=by apply Array.ext';simpa using hx
    rw[zgy,hx',Array.mapM_eq_mapM_toList]
    simp only[Sem.run_bind,Sem.run_map,List.mapM_cons,List.mapM_nil,hr]
    simp
   ·unfold Vret at hret
    split at hret
    ·split at hret
     ·rename_i v' hv'
      exact hret w' k' v (zhl hs' hv' hat)
     ·exact hret.elim
    ·split at hret
     ·rename_i e sz n cells id
      have ho:=hs'.owns id _ hret
      simp only[Ow.at_]at ho
      simp only[TF.at_]at hat
      subst hat
      refine⟨_,ho.2.2.1,λb hb=>?_⟩
      rcases(ho.2.2.2 b hb).1 with h |h
      ·exact h
      ·simp at h
     ·exact hret.elim
    ·split at hret
     ·rename_i e sz n cells id
      have ho:=hs'.owns id _ hret
      simp only[Ow.at_]at ho
      simp only[TF.at_]at hat
      subst hat
      refine⟨_,ho.2.2.1,λb hb=>?_⟩
      rcases(ho.2.2.2 b hb).1 with h |h
      ·exact h
      ·simp at h
     ·exact hret.elim
    ·split at hret
     ·rename_i cells id
      have ho:=hs'.owns id _ hret
      simp only[Ow.at_]at ho
      obtain⟨q1,q2,⟨b,cur,t,e,hh,hkb,hsz,hc⟩,q4⟩:=ho
      simp only[TF.at_]at hat
      rw[e]at hat q4
      refine⟨b,cur,t,hat,?_,hh,hkb,by simpa using hsz,λj f u hf hu=>?_⟩
      ·rcases(q4 b rfl).1 with h |h
       ·exact h
       ·simp at h
      ·exact hc j (.r f) u (by rw[List.getElem?_map,hf];rfl) hu
     ·exact hret.elim
  ·rename_i hxs
   obtain⟨rs,vs,⟨rv,rfl,hcv⟩,hp',hlen,hr⟩:=zm1 hT hs' hq
   refine⟨.tuple vs.toArray,?_, .tuple vs.toArray,rfl,hext,k',hkk,?_⟩
   ·rw[zgy,Array.mapM_eq_mapM_toList]
    simp only[Sem.run_bind,Sem.run_map,hr]
    have hne:vs.length≠1:=by
     intro he
     rw[hlen]at he
     obtain⟨x,hx⟩:=List.length_eq_one_iff.1 he
     exact hxs x hx
    simp[hne]
   ·exact hcv w' k' _ (by simp only[RV.at_];exact⟨vs.toArray,rfl,hp'⟩)
 cases e with
 |ret=>exact fin hq
 |normal=>exact fin hq
 |_=>exact hq.elim
theorem zyp{f:FuncId}{fn:Func}{args:List RV}{res:Res}{c:Code}(hm:P.follows .mixedOrders=true)(hT:TOk P T)(hf:P.funcs[f]?=some fn)(hb:fn.body=some c)
  (hk:(Nat.ble args.length fn.ntmps&&(zcp fn.ntmps c&& !(fn.name== "runtime.NumGoroutine")))=true)
  (h:vcg P T c (St.args args) λe S=>∃S',Sub S S'/\finv T fn.results res e S'):zaf P f args res:=by
 simp only[Bool.and_eq_true,Nat.ble_eq,Bool.not_eq_true',beq_eq_false_iff_ne]at hk
 obtain⟨hn,hd,hname⟩:=hk
 refine⟨⟨fn,c,hf,hb,hname⟩,λw k vs hp=>?_⟩
 refine calls_of_wp hf hb ?_
 refine zdj hm hT c _ _ h ⟨w,k,[]⟩ fn.ntmps _ w k _ (zxm hp hn) hd λe S0 a' w' k0 ⟨S',hsub,hq⟩ hs0=>?_
 obtain⟨k',hs'⟩:=hsub _ _ _ _ _ hs0
 exact z0p hT hq hs'
theorem zac{f:FuncId}{fn:Func}{args:List RV}{res:Res}{c:Code}(hm:P.follows .mixedOrders=true)(hT:TOk P T)(hf:P.funcs[f]?=some fn)(hb:fn.body=some c)
  (hk:(Nat.ble args.length fn.ntmps&&(zcp fn.ntmps c&& !(fn.name== "runtime.NumGoroutine")))=true)
  (h:vcg P T c (St.args args) (finv T fn.results res)):zaf P f args res:=by
 simp only[Bool.and_eq_true,Nat.ble_eq,Bool.not_eq_true',beq_eq_false_iff_ne]at hk
 obtain⟨hn,hd,hname⟩:=hk
 refine⟨⟨fn,c,hf,hb,hname⟩,λw k vs hp=>?_⟩
 refine calls_of_wp hf hb ?_
 refine zdj hm hT c _ _ h ⟨w,k,[]⟩ fn.ntmps _ w k _ (zxm hp hn) hd λe S' a' w' k' hq hs'=>?_
 exact z0p hT hq hs'
end
end
end Go.Proofs.YtpdllgbfemnemaaGreat.Sx
