import Derived.Test.YtddokcpcpoihmaaGreatZSxZ
import Derived.ScopeJumps
import Derived.Test.YtddokcpcpoihmaaGreatZEa
import Derived.Test.YtddokcpcpoihmaaGreatZKi
namespace Go.Proofs.YtddokcpcpoihmaaGreat.Sx
open Go.RowKit
section
section
variable {P:Program} {T:TT} {B:Bs} {N:Nat} {S:St} {a:Act} {w:World} {k:Kp} {g:Env} {o:Oper} {Q:Exit->Act->World->Prop}
theorem zgp: ∀{c rest:Code} {l:Nat},findLabel c l=some rest->zat N c=true->zat N rest=true
 | .seq a b,rest,l,h,hd=>by
  simp only[zat,Bool.and_eq_true]at hd
  simp only[findLabel]at h
  split at h
  ·rename_i r hr
   cases h
   simp only[zat,Bool.and_eq_true]
   exact⟨zgp hr hd.1,hd.2⟩
  ·exact zgp h hd.2
 | .label l',rest,l,h,hd=>by
  simp only[findLabel]at h
  split at h
  ·cases h;rfl
  ·cases h
 | .skip,_,_,h,_=>by simp[findLabel]at h
 | .region ..,_,_,h,_=>by simp[findLabel]at h
 | .cond ..,_,_,h,_=>by simp[findLabel]at h
 | .block ..,_,_,h,_=>by simp[findLabel]at h
 | .loop ..,_,_,h,_=>by simp[findLabel]at h
 | .exit ..,_,_,h,_=>by simp[findLabel]at h
 | .ret,_,_,h,_=>by simp[findLabel]at h
 | .goto ..,_,_,h,_=>by simp[findLabel]at h
 | .scope ..,_,_,h,_=>by simp[findLabel]at h
 | .rangeFunc ..,_,_,h,_=>by simp[findLabel]at h
 | .refuse ..,_,_,h,_=>by simp[findLabel]at h
def ze9(l:Nat)(J:St->Prop)(Q:Exit->St->Prop)(e:Exit)(S:St):Prop:=
 match e with
 | .goto l'=>match Nat.beq l' l with
  |true=>J S
  |false=>False
 |e=>Q e S
theorem Vcode.scope(hm:P.follows .mixedOrders=true)(hT:TOk P T){c rest:Code}{Q:Exit->St->Prop}(l:Nat){ι:Type}(inv:ι->St)(R:ι->Prop)(μ:ι->Nat)(hf:findLabel c l=some rest)
  (first:vcg P T c S (ze9 l (λS'=>∃i,R i/\Sub S' (inv i)) Q))
  (pass: ∀i,R i->vcg P T rest (inv i) (ze9 l (λS'=>∃i',R i'/\μ i'<μ i/\Sub S' (inv i')) Q)):Vcode P (.scope c) S Q:=by
 refine⟨λB N a w k Q' hs hd hQ=>?_⟩
 have hd0:zat N c=true:=by simpa only[zat]using hd
 let J:Nat->Act->World->Prop:=λn a w=>∃i k,R i/\μ i=n/\Sat B N (inv i) a w k
 refine wp_scope_jumps l (λa w=>∃n,J n a w) (λa w=>leastOf (λn=>J n a w)) hf ?_ ?_
 ·refine zap hm hT c S _ first B N a w k _ hs hd0 λe S' a' w' k' hq hs'=>?_
  cases e with
  |goto l'=>
   simp only[ze9]at hq
   split at hq
   ·rename_i hb
    obtain⟨i,hR,hsub⟩:=hq
    obtain⟨k2,hs2⟩:=hsub B N a' w' k' hs'
    exact⟨Nat.eq_of_beq_eq_true hb,μ i,i,k2,hR,rfl,hs2⟩
   ·exact hq.elim
  |_=>exact hQ _ S' a' w' k' hq hs'
 ·intro a1 w1 hJ
  obtain⟨i,k1,hR,hμ,hs1⟩:=(leastOf_spec hJ).1
  refine zap hm hT rest (inv i) _ (pass i hR) B N a1 w1 k1 _ hs1 (zgp hf hd0) λe S' a' w' k' hq hs'=>?_
  cases e with
  |goto l'=>
   simp only[ze9]at hq
   split at hq
   ·rename_i hb
    obtain⟨i',hR',hlt,hsub⟩:=hq
    obtain⟨k2,hs2⟩:=hsub B N a' w' k' hs'
    have hJ':J (μ i') a' w':=⟨i',k2,hR',rfl,hs2⟩
    refine⟨Nat.eq_of_beq_eq_true hb,⟨μ i',hJ'⟩,?_⟩
    exact Nat.lt_of_le_of_lt ((leastOf_spec ⟨_,hJ'⟩).2 _ hJ') (by rw[<-hμ];exact hlt)
   ·exact hq.elim
  |_=>exact hQ _ S' a' w' k' hq hs'
theorem Vcode.run(hT:TOk P T){id:Nat}{ops:Array Oper}{Q:Exit->St->Prop}(h:runv P T ops.toList ops.toList S (Q .normal)):Vcode P (.region id ops false) S Q:=by
 refine⟨λB N a w k Q' hs hd hQ=>?_⟩
 have hN: ∀o∈ops.toList,∀d,o.dst=some d->d<N:=λo ho d hod=>by
  simp only[zat,List.all_eq_true]at hd
  have h1:=hd o ho
  simp only[hod]at h1
  exact Nat.le_of_ble_eq_true h1
 exact wp_region_list (zer (Q:=Q') hT hN (λ_ h=>h) hs h λS' a' w' k' hq hs'=>hQ _ S' a' w' k' hq hs')
theorem Vstep.mapMk{t:TypeId}{K:St->Prop}(gh:Nat)(hop:o.op= .makeMap t none)(hK: ∀b:Nat,newK ⟨(gh, .nm S.nx (.map (some b)))::S.F,(S.nx,some (.gen (mapO [])))::S.O,S.nx+1⟩ o.dst (.r (.x (.map (some b)))) none K):Vstep P S o K:=by
 simp only[zas]at hK
 refine⟨Nat,_,λB N a w k Q hs0 hd=>Oper.wp_mono ?_ (show o.wp P a w (λa' w'=>∃b k',Sat B N (St.put ⟨(gh, .nm S.nx (.map (some b)))::S.F,(S.nx,some (.gen (mapO [])))::S.O,S.nx+1⟩ o.dst (.r (.x (.map (some b))))) a' w' k') Q from ?_),hK⟩
 ·rintro a' w' ⟨b,k',h⟩;exact⟨b,k',h⟩
 obtain⟨g,hs⟩:=hs0
 refine zau (v:= .map (some w.heap.size)) (w':=w.alloc (.map #[] 0)) (by simp[execOp,hop,Instr.makeMap,newObj];rfl) ⟨w.heap.size,kset k w.heap.size 0,?_⟩
 have hat:Ow.at_ (w.alloc (.map #[] 0)) (kset k w.heap.size 0) g (.map (some w.heap.size),some w.heap.size) (.gen (mapO [])):=by
  simp only[Ow.at_]
  exact⟨w.heap.size, #[],0,rfl,heap_alloc_new w _,zbp,⟨rfl,λj x e h=>by simp at h⟩,stampE.nil⟩
 have h:=hs.make (dst:=none) (λd e=>by cases e) (zaw w (.map #[] 0)) (λb hb=>zb7 b hb) (vb:=(.map (some w.heap.size),some w.heap.size)) (o:= .gen (mapO [])) trivial hat (λb hb=>by
  cases hb
  exact⟨Nat.le_refl _,by simp⟩)
 have h2:SatE B N ⟨(gh, .nm S.nx (.map (some w.heap.size)))::S.F,(S.nx,some (.gen (mapO [])))::S.O,S.nx+1⟩ a (w.alloc (.map #[] 0)) (kset k w.heap.size 0) (g.set S.nx (.map (some w.heap.size),some w.heap.size)):=by
  refine⟨h.size,h.defers,h.keep,h.kk,λt' f hf=>?_,h.owns,h.apart⟩
  rcases zav hf with⟨rfl,rfl⟩ |⟨_,hf⟩
  ·exact⟨Nat.lt_succ_self _,by simp only[TF.at_,Env.set_eq]⟩
  ·exact h.facts t' f hf
 exact⟨_,h2.put hd trivial (by simp only[TF.at_,RV.at_])⟩
theorem Vstep.mapPut{t kt et:TypeId}{x y z:Operand}(id gh:Nat){n:Int}{ents:List (Int×RV)}{f:TF}{r:RV}{m:Value}{K:St->Prop}(hop:o.op= .mapUpdate t x y z)(hx:opr S x=some (.r (.x m)))(hgh:fget S.F gh=some (.nm id m))(ho:oget S.O id=some (.gen (mapO ents)))(hy:opr S y=some (.r (.i .i64 n)))(hz:opr S z=some f)(hr:S.rv f=some r)
  (hu:P.underlying t=some (.map kt et)) (hk:P.underlying kt=some (.int .i64)) (hm:zcy ents n=none) (hK:setK S id (some (.gen (mapO (ents++[(n,r)])))) o.dst K):Vstep P S o K:=by
 rw[zby]at hK
 refine Vstep.one (λB N a w k Q ⟨g,hs⟩ hd=>?_) hK
 have hv:=(zad hs hx).2
 have hn:=(zad hs hy).2
 have hzv:=zdg hs hr (zad hs hz).2
 have hnm:=(hs.facts gh _ hgh).2
 simp only[TF.at_,RV.at_]at hv hn hnm
 obtain⟨_,_,hat,_⟩:=hs.owns id _ ho
 simp only[Ow.at_]at hat
 obtain⟨b,es,c,e,hh,hkb,he,hst⟩:=hat
 obtain⟨res,h1,h2⟩:=zgu (n:=n) hk he
 rw[hm]at h2
 simp only at h2
 subst h2
 rw[<-hnm,e]at hv
 have hb:b<w.heap.size:=(Array.getElem?_eq_some_iff.1 hh).1
 let ob:Obj:= .map (es.push {key:= .int .i64 n,val:=a.eval z,born:=c}) (c+1)
 let w':World:={w with heap:=w.heap.setIfInBounds b ob}
 have hrun:(Instr.mapUpdate t (.map (some b)) (.int .i64 n) (a.eval z)).run P w= .ok () w':=by
  simp[Instr.mapUpdate,run_underlying hu w,zeq hk,h1,hh,getObj,setObj,Sem.run,w',ob]
 have hw:Wrote w k w' k (some b):=⟨rfl,rfl,rfl,by simp[w'],λx _ hne=>⟨by simp only[w'];rw[Array.getElem?_setIfInBounds_ne (λh=>hne (by rw[h]))],rfl⟩,λx hx=>by
  cases hx
  exact⟨Nat.le_refl _,λo ho=>by omega,λh=>by omega⟩⟩
 have hnew:(Ow.gen (mapO (ents++[(n,r)]))).at_ w' k g (g id):=by
  simp only[Ow.at_]
  refine⟨b,_,c+1,e,by simp only[w',ob];rw[Array.getElem?_setIfInBounds_self_of_lt hb],hkb,?_,hst.push (zsr he hm)⟩
  have he':=he.mono hw.le
  refine⟨by simp[he'.1],λj x en hj hen=>?_⟩
  rw[Array.toList_push]at hen
  rcases Nat.lt_or_ge j ents.length with hlt |hge
  ·rw[List.getElem?_append_left hlt]at hj
   rw[List.getElem?_append_left (by rw[he'.1];exact hlt)]at hen
   exact he'.2 j x en hj hen
  ·rw[List.getElem?_append_right hge]at hj
   rw[List.getElem?_append_right (by rw[he'.1];exact hge),he'.1]at hen
   have:j-ents.length=0:=by have:=(List.getElem?_eq_some_iff.1 hj).1;simp at this;omega
   rw[this]at hj hen
   simp at hj hen
   subst hj;subst hen
   exact⟨rfl,RV.mono hw.le _ _ hzv⟩
 exact zld (w':=w') (by simp[execOp,hop,hv,hn,hrun]) ⟨k,g,(hs.redo (ow':= .gen (mapO (ents++[(n,r)]))) ho (by rw[e]) hw trivial hnew).drop⟩
theorem zsg{id gh:Nat}{m:Value}{ents:List (Int×RV)}(ho:oget S.O id=some (.gen (mapO ents)))(hgh:fget S.F gh=some (.nm id m)):
  ∀{B N a w k},Sat B N S a w k->∃k',Sat B N ⟨S.F,(id,none)::S.O,S.nx⟩ a w k'/\(mapS ents).at_ w k' m/\Le w k w k':=by
 rintro B N a w k ⟨g,hs⟩
 obtain⟨_,_,hat,hblk⟩:=hs.owns id _ ho
 simp only[Ow.at_]at hat
 obtain⟨b,es,c,e,hh,hkb,he,hst⟩:=hat
 have hb:b<w.heap.size:=(Array.getElem?_eq_some_iff.1 hh).1
 have hw:Wrote w k w (kset k b 1) (some b):=⟨rfl,rfl,rfl,Nat.le_refl _,λx _ hne=>⟨rfl,by simp[kset,show x≠b fromλh=>hne (by rw[h])]⟩,λx hx=>by
  cases hx
  exact⟨by omega,λ_ _=>rfl,λh=>by omega⟩⟩
 have h:=hs.wrote hw (id:=some id) ⟨⟨_,ho⟩,by rw[e]⟩
 have hnm:=(hs.facts gh _ hgh).2
 simp only[TF.at_]at hnm
 refine⟨kset k b 1,⟨g,h⟩,?_,hw.le⟩
 rw[<-hnm,e]
 exact .inr ⟨b,es,c,rfl,hb,by rw[zbp];omega,hh,he.mono hw.le,hst⟩
end
end
section
section
variable {P:Program} {T:TT} {S:St} {o:Oper}
theorem Vstep.nm(id t:Nat)(hid:Nat.blt id S.nx=true){K:St->Prop}(h: ∀v,Vstep P ⟨(t, .nm id v)::S.F,S.O,S.nx⟩ o K):Vstep P S o K:=by
 refine⟨Σ v:Value,(h v).out.choose,λx=>(h x.1).out.choose_spec.choose x.2,λB N a w k Q hs0 hd=>?_,λx=>(h x.1).out.choose_spec.choose_spec.2 x.2⟩
 obtain⟨g,hs⟩:=hs0
 have hs1:Sat B N ⟨(t, .nm id (g id).1)::S.F,S.O,S.nx⟩ a w k:=by
  refine⟨g,hs.size,hs.defers,hs.keep,hs.kk,λt' f hf=>?_,hs.owns,hs.apart⟩
  rcases zav hf with⟨rfl,rfl⟩ |⟨_,hf⟩
  ·exact⟨by simp[Nat.blt]at hid;simp only[TF.lt];omega,rfl⟩
  ·exact hs.facts t' f hf
 refine Oper.wp_mono ?_ ((h (g id).1).out.choose_spec.choose_spec.1 B N a w k Q hs1 hd)
 rintro a' w' ⟨i,k',hs'⟩
 exact⟨⟨(g id).1,i⟩,k',hs'⟩
def zll(S:St):List Operand->List Value->Prop
 |[],vs=>vs=[]
 |x::xs,vs=>∃v r,vs=v::r/\(∃id t,opr S x=some (.own id)/\fget S.F t=some (.nm id v))/\zll S xs r
theorem Vstep.mkfunX{f:FuncId}{cap:Array Operand}(vs:List Value){K:St->Prop}(hop:o.op= .makeFunc (.func f) #[] cap) (hc:zll S cap.toList vs) (hK:newK S o.dst (.r (.x (.func (.func f) #[] vs.toArray))) none K):Vstep P S o K:=by
 rw[zas]at hK
 refine Vstep.one (λB N a w k Q ⟨g,hs⟩ hd=>?_) hK
 have key: ∀(xs:List Operand) (vs:List Value),zll S xs vs->xs.map a.eval=vs:=by
  intro xs
  induction xs with
  |nil=>intro vs h;simp only[zll]at h;subst h;rfl
  |cons x r ih=>
   intro vs h
   simp only[zll]at h
   obtain⟨v,r',rfl,⟨id,t,hx,ht⟩,hr⟩:=h
   have h1:=(zad hs hx).2
   have h2:=(hs.facts t _ ht).2
   simp only[TF.at_]at h1 h2
   rw[List.map_cons,ih r' hr,h1,h2]
 have hv:cap.map a.eval=vs.toArray:=by
  apply Array.ext'
  rw[Array.toList_map]
  exact key _ _ hc
 refine zau (v:= .func (.func f) #[] vs.toArray) (w':=w) (by simp[execOp,hop,Instr.makeFunc,hv]) ⟨k,g,hs.put hd trivial ?_⟩
 simp only[TF.at_,RV.at_]
end
end
section
section
variable {P:Program} {T:TT} {B:Bs} {N:Nat} {S:St} {a:Act} {w:World} {k:Kp} {g:Env} {o:Oper} {Q:Exit->Act->World->Prop}
theorem Vstep.val{K:St->Prop}(hT:TOk P T)(h:valv P T S o λf ow=>newK S o.dst f ow K):Vstep P S o K:=by
 refine⟨{S':St//K S'},Subtype.val,λB N a w k Q ⟨g,hs⟩ hd=>Oper.wp_mono ?_ (zmp hT hs hd h),λi=>i.2⟩
 rintro a' w' ⟨f,ow,k',hK,hq⟩
 rw[zas]at hK
 exact⟨⟨_,hK⟩,k',hq⟩
theorem Vcutn.mk'{lo hi:Int}{n:Nat}{K:Nat->Nat->Prop}(l m:Nat)(hl:lo=(l:Int))(hm:hi=((l+m:Nat):Int))(h2:l+m<=n)(h3:l<n)(hK:K l m)(h4:n<=maxLen:=by decide):Vcutn lo hi n K:=by
 subst hl;subst hm
 exact⟨by omega,by omega,by omega,by omega,h4,l,m,rfl,by omega,hK⟩
theorem Vstep.copyCut{x y:Operand}{t t' e:TypeId}{ti te:TI}{id off n n0 m:Nat}{cells ys zs:List RV}{f:TF}{K:St->Prop}(hT:TOk P T)
  (hop:o.op= .call {callee:= .builtin .copy,args:= #[x,y],argTypes:= #[t,t']}) (hti:tget T t=some ti) (hk:ti.k= .slice e) (hte:tget T e=some te)
  (hx:opr S x=some (.cut id off n)) (ho:oget S.O id=some (.ch e te.sz n0 cells false)) (hn:off+n*te.sz<=cells.length)
  (hy:opr S y=some f) (hr:rhsv S te.sz f=some (te.sz,m,ys)) (hz:cells.take off++ys.take (Nat.min m n*te.sz)++cells.drop (off+Nat.min m n*te.sz)=zs)
  (hK:newK (S.set id (some (.ch e te.sz n0 zs false))) o.dst (.r (.i .i64 (Nat.min m n:Nat))) none K):Vstep P S o K:=by
 subst hz
 rw[zas]at hK
 refine Vstep.one (λB N a w k Q ⟨g,hs⟩ hd=>?_) hK
 obtain⟨q,hq⟩:=hT.get hti
 obtain⟨d,hdd,hko,_⟩:=q.desc
 rw[hq]at hdd
 rw[hk]at hko
 simp only[KOk]at hko
 subst hko
 obtain⟨qe,hqe⟩:=hT.get hte
 obtain⟨i,hi,hsi,hby,z,hz,hzc⟩:=qe.info
 rw[hqe]at hi
 have hxv:=(zad hs hx).2
 simp only[TF.at_]at hxv
 obtain⟨b,c,hb,hxv,hnc⟩:=hxv
 obtain⟨qa,qc,us,hu2,hus,husl,hsrc⟩:=zmf hs hr (zad hs hy).2
 obtain⟨hid,hlo,hat,_⟩:=hs.owns id _ ho
 simp only[Ow.at_]at hat
 have hmn:Nat.min m n<=n:=Nat.min_le_right _ _
 have hmm:Nat.min m n<=m:=Nat.min_le_left _ _
 have run: ∀{v:Value} {w':World},(Builtin.copy_ #[t,t'] o.type #[.slice (some ⟨b,off,none⟩) n c, .slice qa m qc]).run P w= .ok v w'->(execOp a.eval o).run P w= .ok (.value v) w':=λ{v w'} hr=>by
  simp[execOp,hop,resolve,invoke,builtin,hxv,hu2,hr]
 obtain⟨hcl0,hat⟩:=hat
 rcases hat with⟨hno,_⟩ |⟨b',cap,cur,e1,e2,hh,h1,h2,h3,h4,h5⟩
 ·rw[hno]at hb;cases hb
 obtain rfl:b'=b:=by rw[e1]at hb;injection hb
 have hk0:k b'=0:=by simpa using h4
 have hcc:n0*te.sz<=cap*te.sz:=Nat.mul_le_mul_right _ h1
 have hle:Nat.min m n*te.sz<=m*te.sz:=Nat.mul_le_mul_right _ hmm
 have hle2:Nat.min m n*te.sz<=n*te.sz:=Nat.mul_le_mul_right _ hmn
 rcases Nat.eq_zero_or_pos (Nat.min m n)with h0 |hpos
 ·have hrun:=zi1 (P:=P) w t t' o.type e (some ⟨b',off,none⟩) qa n c m qc hdd hi h0
  refine zau (run hrun) ⟨k,g,?_⟩
  rw[h0]
  have e2:cells.take off++ys.take (0*te.sz)++cells.drop (off+0*te.sz)=cells:=by simp
  rw[e2]
  exact(hs.reset ho).put hd trivial (by simp[TF.at_,RV.at_,goInt])
 ·obtain⟨sb,so,rfl,hcells⟩:=hsrc (by omega)
  have hcl:(us.take (Nat.min m n*te.sz)).length=Nat.min m n*te.sz:=by rw[List.length_take,husl];omega
  have hsub: ∀(j:Nat) (v:Value),(us.take (Nat.min m n*te.sz))[j]?=some v->us[j]?=some v:=λj v hj=>by
   rw[List.getElem?_take]at hj
   split at hj
   ·exact hj
   ·cases hj
  have hnew:RV.listAt w k (ys.take (Nat.min m n*te.sz)) (us.take (Nat.min m n*te.sz)):=zbt hus _
  have hr:=zi2 (P:=P) w t t' o.type e te.sz b' off n c ⟨sb,so,none⟩ m qc _ cur e (us.take (Nat.min m n*te.sz)) hdd hi hsi hh rfl hcl (λj v hj=>by rw[Addr.add_mid];exact hcells j v (hsub j v hj)) (by rw[hcl];omega) (λv hv=>by
   obtain⟨j,hj⟩:=List.getElem?_of_mem hv
   have hjl:j< (ys.take (Nat.min m n*te.sz)).length:=by rw[<-zao hnew];exact(List.getElem?_eq_some_iff.1 hj).1
   exact(((RV.listAt_iff _ _).1 hnew).2 j _ v (List.getElem?_eq_getElem hjl) hj).1)
  have hw:=zfj (k:=k) (cs:=(cur.toList.take off++us.take (Nat.min m n*te.sz)++cur.toList.drop (off+(us.take (Nat.min m n*te.sz)).length)).toArray) hh hk0
  have h1':=hs.redo (ow':= .ch e te.sz n0 (cells.take off++ys.take (Nat.min m n*te.sz)++cells.drop (off+Nat.min m n*te.sz)) false) ho e1 hw trivial (by
   simp only[Ow.at_]
   have hyl:ys.length=m*te.sz:=by rw[<-zao hus,husl]
   refine⟨by simp only[List.length_append,List.length_take,List.length_drop];omega, .inr ⟨b',cap,_,e1,e2,setRow_heap w b' cur _ e (0,0) hh,h1,h2,?_,by simpa using hk0,?_⟩⟩
   ·simp only[List.size_toArray,List.length_append,List.length_take,List.length_drop,Array.length_toList,husl];omega
   ·have hnew':=RV.list_mono hw.le _ _ hnew
    have h5':=RV.list_mono hw.le _ _ h5
    have hall:=za3 (za3 (zbt h5' off) hnew') (zcj h5' (off+Nat.min m n*te.sz))
    rw[List.take_take,Nat.min_eq_left (by omega)]at hall
    have hA:(List.take off cur.toList++us.take (Nat.min m n*te.sz)).length=off+Nat.min m n*te.sz:=by rw[List.length_append,List.length_take,hcl,Array.length_toList];omega
    have e:(List.take off cur.toList++us.take (Nat.min m n*te.sz)++List.drop (off+(us.take (Nat.min m n*te.sz)).length) cur.toList).take (n0*te.sz)=List.take off cur.toList++us.take (Nat.min m n*te.sz)++(cur.toList.take (n0*te.sz)).drop (off+Nat.min m n*te.sz):=by
     rw[List.take_append,hA,List.drop_take,hcl]
     congr 1
     exact List.take_of_length_le (by omega)
    rw[List.toList_toArray,e]
    exact hall)
  exact zau (run hr) ⟨k,g,h1'.put hd trivial (by simp[TF.at_,RV.at_,goInt])⟩
theorem Vstep.copyBox{x y:Operand}{t t' e:TypeId}{ti te:TI}{id off n m:Nat}{cells zs:List TF}{ys:List RV}{f:TF}{K:St->Prop}(hT:TOk P T)
  (hop:o.op= .call {callee:= .builtin .copy,args:= #[x,y],argTypes:= #[t,t']}) (hti:tget T t=some ti) (hk:ti.k= .slice e) (hte:tget T e=some te) (hsz:te.sz=1)
  (hx:opr S x=some (.cut id off n)) (ho:oget S.O id=some (.box cells)) (hn:off+n<=cells.length)
  (hy:opr S y=some f) (hr:rhsv S 1 f=some (1,m,ys)\/(∃off',f= .cut id off' m/\off'+m<=cells.length/\ys.map .r=(cells.drop off').take m)) (hz:cells.take off++((ys.take (Nat.min m n)).map .r)++cells.drop (off+Nat.min m n)=zs)
  (hK:newK (S.set id (some (.box zs))) o.dst (.r (.i .i64 (Nat.min m n:Nat))) none K):Vstep P S o K:=by
 subst hz
 rw[zas]at hK
 refine Vstep.one (λB N a w k Q ⟨g,hs⟩ hd=>?_) hK
 obtain⟨q,hq⟩:=hT.get hti
 obtain⟨d,hdd,hko,_⟩:=q.desc
 rw[hq]at hdd
 rw[hk]at hko
 simp only[KOk]at hko
 subst hko
 obtain⟨qe,hqe⟩:=hT.get hte
 obtain⟨i,hi,hsi,hby,z,hz,hzc⟩:=qe.info
 rw[hqe]at hi
 rw[hsz]at hsi
 have hxv:=(zad hs hx).2
 simp only[TF.at_]at hxv
 obtain⟨b,c,hb,hxv,hnc⟩:=hxv
 obtain⟨hid,hlo,hat,_⟩:=hs.owns id _ ho
 simp only[Ow.at_]at hat
 obtain⟨b',cur,ty,e1,hh,hk0,hcs,hc⟩:=hat
 obtain rfl:b'=b:=by rw[e1]at hb;injection hb
 have hold:AllAt (λf u=>u.oneCell'=true/\f.at_ w k g u) cells cur.toList:=⟨by rw[Array.length_toList,hcs],λj f u hf hu=>hc j f u hf (by simpa using hu)⟩
 have key: ∃qa qc us,a.eval y= .slice qa m qc/\RV.listAt w k ys us/\us.length=m*1/\(0<m->∃b o,qa=some ⟨b,o,none⟩/\∀j v,us[j]?=some v->w.cell? ⟨b,o+j,none⟩=some v):=by
  rcases hr with hr |⟨off',rfl,ho2,hys⟩
  ·exact zmf hs hr (zad hs hy).2
  ·have hyv:=(zad hs hy).2
   simp only[TF.at_]at hyv
   obtain⟨b2,c2,hb2,hyv,hnc2⟩:=hyv
   obtain rfl:b'=b2:=by rw[e1]at hb2;injection hb2
   have hcut:=(hold.drop off').take m
   rw[<-hys]at hcut
   refine⟨some ⟨b',off',none⟩,c2,(cur.toList.drop off').take m,hyv,?_,?_,λ_=>⟨b',off',rfl,λj v hj=>?_⟩⟩
   ·rw[RV.listAt_iff]
    refine⟨by have:=hcut.1;rw[List.length_map]at this;exact this.symm▸rfl,λj f u hf hu=>?_⟩
    have:=hcut.2 j (.r f) u (by rw[List.getElem?_map,hf];rfl) hu
    exact this
   ·rw[List.length_take,List.length_drop,Array.length_toList,hcs]
    omega
   ·rw[List.getElem?_take]at hj
    split at hj
    ·rw[List.getElem?_drop]at hj
     rw[cell_of_row w b' (off'+j) cur ty (0,0) hh]
     simpa using hj
    ·cases hj
 obtain⟨qa,qc,us,hu2,hus,husl,hsrc⟩:=key
 rw[Nat.mul_one]at husl
 have hmn:Nat.min m n<=n:=Nat.min_le_right _ _
 have hmm:Nat.min m n<=m:=Nat.min_le_left _ _
 have run: ∀{v:Value} {w':World},(Builtin.copy_ #[t,t'] o.type #[.slice (some ⟨b',off,none⟩) n c, .slice qa m qc]).run P w= .ok v w'->(execOp a.eval o).run P w= .ok (.value v) w':=λ{v w'} hr=>by
  simp[execOp,hop,resolve,invoke,builtin,hxv,hu2,hr]
 rcases Nat.eq_zero_or_pos (Nat.min m n)with h0 |hpos
 ·have hrun:=zi1 (P:=P) w t t' o.type e (some ⟨b',off,none⟩) qa n c m qc hdd hi h0
  refine zau (run hrun) ⟨k,g,?_⟩
  rw[h0]
  have h1:=hs.reset ho
  have e2:cells.take off++((ys.take 0).map TF.r)++cells.drop (off+0)=cells:=by simp
  rw[e2]
  exact h1.put hd trivial (by simp[TF.at_,RV.at_,goInt])
 ·obtain⟨sb,so,rfl,hcells⟩:=hsrc (by omega)
  have hcl:(us.take (Nat.min m n)).length=Nat.min m n*1:=by rw[List.length_take,husl];omega
  have hsub: ∀(j:Nat) (v:Value),(us.take (Nat.min m n))[j]?=some v->us[j]?=some v:=λj v hj=>by
   rw[List.getElem?_take]at hj
   split at hj
   ·exact hj
   ·cases hj
  have hnew:RV.listAt w k (ys.take (Nat.min m n)) (us.take (Nat.min m n)):=zbt hus _
  have hnl:=zao hnew
  have hr:=zi2 (P:=P) w t t' o.type e 1 b' off n c ⟨sb,so,none⟩ m qc _ cur ty (us.take (Nat.min m n)) hdd hi hsi hh rfl hcl (λj v hj=>by rw[Addr.add_mid];exact hcells j v (hsub j v hj)) (by rw[hcl,hcs];omega) (λv hv=>by
   obtain⟨j,hj⟩:=List.getElem?_of_mem hv
   have hjl:j< (ys.take (Nat.min m n)).length:=by rw[<-zao hnew];exact(List.getElem?_eq_some_iff.1 hj).1
   exact(((RV.listAt_iff _ _).1 hnew).2 j _ v (List.getElem?_eq_getElem hjl) hj).1)
  have hw:=zfj (k:=k) (cs:=(cur.toList.take off++us.take (Nat.min m n)++cur.toList.drop (off+(us.take (Nat.min m n)).length)).toArray) hh hk0
  have hnew2:AllAt (λf u=>u.oneCell'=true/\f.at_ w k g u) ((ys.take (Nat.min m n)).map TF.r) (us.take (Nat.min m n)):=by
   refine⟨by rw[List.length_map,hnl],λj f u hf hu=>?_⟩
   rw[List.getElem?_map]at hf
   obtain⟨r,hr,rfl⟩:=Option.map_eq_some_iff.1 hf
   exact((RV.listAt_iff _ _).1 hnew).2 j r u hr hu
  have hcl':(us.take (Nat.min m n)).length=Nat.min m n:=by rw[hcl,Nat.mul_one]
  have hall:=(((hold.take off).append hnew2).append (hold.drop (off+Nat.min m n))).mono (q:=λf u=>u.oneCell'=true/\f.at_ (w.setRow b' (cur.toList.take off++us.take (Nat.min m n)++cur.toList.drop (off+(us.take (Nat.min m n)).length)).toArray) k g u) λf u h=>⟨h.1,TF.mono hw.le h.2⟩
  have h1:=hs.redo (ow':= .box (cells.take off++((ys.take (Nat.min m n)).map TF.r)++cells.drop (off+Nat.min m n))) ho (by rw[e1]) hw (by
   intro f hf
   rcases List.mem_append.1 hf with hf |hf
   ·rcases List.mem_append.1 hf with hf |hf
    ·exact hlo f (List.mem_of_mem_take hf)
    ·obtain⟨r,_,rfl⟩:=List.mem_map.1 hf
     trivial
   ·exact hlo f (List.mem_of_mem_drop hf)) (by
   simp only[Ow.at_]
   refine⟨b',_,ty,e1,setRow_heap w b' cur _ ty (0,0) hh,hk0,by have:=hall.1;rw[hcl'];simpa using this,λj f u hf hu=>hall.2 j f u hf (by rw[hcl']at hu;simpa using hu)⟩)
  exact zau (run hr) ⟨k,g,h1.put hd trivial (by simp[TF.at_,RV.at_,goInt])⟩
theorem zdv(l:List RV)(n:Nat):(l.map TF.r).all (ltB n)=true:=by
 induction l with
 |nil=>rfl
 |cons x r ih=>rw[List.map_cons,List.all_cons,ih];rfl
theorem Vstep.actsBox{l l':List RV}(j:Nat){f:FuncId}{args:List TF}{r:RV}{K:St->Prop}(hA: ∀v,Acts P f 1 [(0, .box (l.map .r))] args [(0,v)] 1 [(0, .box (l'.map .r))] (.r r))(hcall:Handed P S o [(0,j)] f args)
  (ho:oget S.O j=some (.box (l.map .r))) (hK:newK ⟨S.F,(j,some (.box (l'.map .r)))::(j,none)::S.O,S.nx+1⟩ o.dst (.r r) none K):Vstep P S o K:=by
 refine zi [(0,j)] [0] (λvs _=>hA (vs 0)) hcall ?_ ⟨?_,trivial⟩ ⟨zrv,trivial⟩ ?_
 ·simp only[stA,List.all_cons,List.all_nil,zde,zdv,lift,List.map_cons,List.map_nil,oget,zdm,List.any_nil]
  rfl
 ·show match oget S.O j with |some o'=>cvOw [(0,j)] S o' (.box (l.map .r)) |none=>False
  rw[ho]
  exact zae l
 ·rw[zie]
  rw[zas]at hK
  have e:(l'.map TF.r).map (zcz (ren [(0,j)] [0] S.nx))=l'.map TF.r:=by
   rw[List.map_map]
   exact List.map_congr_left λx _=>rfl
  have e2:zif [(0,j)] [0] S 1 [(0, .box (l'.map .r))] (.r r) o.dst=St.new ⟨S.F,(j,some (.box (l'.map .r)))::(j,none)::S.O,S.nx+1⟩ o.dst (.r r) none:=by
   show St.put ⟨S.F,(j,some (.box ((l'.map TF.r).map (zcz (ren [(0,j)] [0] S.nx)))))::(j,none)::S.O,S.nx+1⟩ o.dst (.r r)=_
   rw[e]
   rfl
  rw[e2]
  exact hK
end
end
section
def zbi(b:List UInt8)(at_:Nat):Nat->UInt64
 |0=>0
 |j+1=>shlW (zbi b at_ j) 8|||UInt64.ofNat (b.getD (at_+(7-j)) 0).toNat
theorem zmt(b:List UInt8)(at_:Nat):zbi b at_ 0=0:=rfl
theorem zms(b:List UInt8)(at_ j:Nat):zbi b at_ (j+1)=shlW (zbi b at_ j) 8|||UInt64.ofNat (b.getD (at_+(7-j)) 0).toNat:=rfl
attribute [irreducible] zbi
def Fe.of(b:List UInt8):Fe:=⟨zbi b 0 8&&&msk,shrW (zbi b 6 8) 3&&&msk,shrW (zbi b 12 8) 6&&&msk,shrW (zbi b 19 8) 1&&&msk,shrW (zbi b 24 8) 12&&&msk⟩
abbrev boxB(b:List UInt8):Ow:= .box ((b.map U8).map .r)
theorem zst{l:List UInt8}{j:Nat}(h:j<l.length):((l.map U8).map TF.r)[j]?=some (.r (U8 (l.getD j 0))):=by
 rw[List.getElem?_map,zcw h]
 rfl
def zu9(b:List UInt8)(at_:Nat)(v:Value)(j:Nat):St:={F:=[(0, .r (I at_)),(1, .own 0),(4, .r (W (zbi b at_ j))),(5, .r (I (7-(j:Int)))),(1000000, .nm 0 v)],O:=[(0,some (boxB b))],nx:=1}
theorem zrq(b:List UInt8)(at_:Nat)(v:Value)(j:Nat):stOk [(0,0)] (zu9 b at_ v j)=true:=by
 have h:=zdv (b.map U8) 1
 simp only[stOk,zu9,boxB,List.all_cons,List.all_nil,zde,h]
 rfl
theorem zir(v:Value)(b:List UInt8)(hb:b.length=32)(at_:Nat)(ha:at_<=24):Acts Tryz.prog 228 1 [(0,boxB b)] [.r (I at_), .own 0] [(0,v)] 1 [(0,boxB b)] (.r (W (zbi b at_ 8))):=by
 refine zc3 (T:=Tab) mixed Tab_ok Tryz.func228 rfl (by kernel_rfl) rfl ⟨⟨_,_,rfl,rfl,zc4,zc4⟩,trivial⟩ ?_
 refine zw (zu9 b at_ v) (λj=>j<=8) (λj=>8-j) 0 (by omega) (zac [(0,0)] (zrq b at_ v _) ⟨cr,rfl,by rw[zmt];exact cr,cr,⟨rfl,rfl⟩,trivial⟩ ⟨zae _,trivial⟩) ?_
 intro j hj
 refine zg (λh=>zo ?_) (λh=>zp ?_)
 ·simp only[zb]at h
  have hj':j<8:=by omega
  refine Vshl.w _ 8 rfl rfl (by decide) ?_
  refine zc (m:=((at_+(7-j):Nat):Int)) (by omega) (by omega) ?_
  refine Vadr.mk' (at_+(7-j)) rfl (by omega) ?_
  (conv=>whnf)
  generalize hq:lget _ _=q
  obtain rfl:q=some (TF.r (U8 (b.getD (at_+(7-j)) 0))):=hq.symm.trans ((zal _ ((at_+(7-j))*1)).trans (by rw[Nat.mul_one];exact zst (by omega)))
  clear hq
  refine Vint.w _ rfl ?_
  refine Vbits.wor _ _ rfl rfl ?_
  refine zc (m:=7-((j+1:Nat):Int)) (by omega) (by omega) ?_
  exact⟨j+1,by omega,by omega,zac [(0,0)] (zrq b at_ v _) ⟨cr,rfl,by rw[zms];exact cr,cr,⟨rfl,rfl⟩,trivial⟩ ⟨zae _,trivial⟩⟩
 ·simp only[zb]at h
  obtain rfl:j=8:=by omega
  exact zg0 (.inl rfl) [(0,0)] [(3, .r (W (zbi b at_ 8)))] [] (by have h:=zdv (b.map U8) 1;simp only[stOk,lift,boxB,List.map_cons,List.map_nil,List.append_nil,List.all_cons,List.all_nil,zde,h];rfl) ⟨cr,⟨rfl,rfl⟩,trivial⟩ ⟨zae _,trivial⟩ ⟨⟨1000000,rfl⟩,trivial⟩ (cr)
theorem z22{l:List TF}{ys:List RV}(h:l.length=ys.length):l.take 0++(ys.take ys.length).map TF.r++l.drop (0+ys.length)=ys.map TF.r:=by
 rw[List.take_zero,List.nil_append,List.take_length,Nat.zero_add,<-h,List.drop_length,List.append_nil]
theorem h_of(b:List UInt8)(hb:b.length=32):zab Tryz.prog 174 [bs b] (.r (.ag (Fe.of b).v)):=by
 refine zaa (T:=Tab) mixed Tab_ok Tryz.func174 rfl (by kernel_rfl) ?_
 refine Vstep.val Tab_ok ?_
 refine Vcutn.mk' 0 32 rfl rfl (by decide) (by decide) ?_
 refine Vstep.copyBox Tab_ok rfl rfl rfl rfl rfl rfl rfl (by decide) rfl (.inl rfl) (zs:=(b.map U8).map .r) ?_ ?_
 ·have e:Nat.min b.length 32=(b.map U8).length:=by rw[hb,List.length_map,hb];rfl
  rw[e]
  exact z22 (by rw[List.length_map,List.length_map,hb];rfl)
 refine Vstep.nm 1 1000000 rfl λp=>Vstep.mkfunX [p] rfl ⟨_,_,rfl,⟨1,1000000,rfl,rfl⟩,rfl⟩ ?_
 refine Vstep.actsBox 1 (λv=>zir v b hb 0 (by decide)) (Handed.clo (fs:=[.r (I 0)]) (cs:=[.own 0]) rfl rfl ⟨_,_,rfl,cr,rfl⟩ ⟨_,_,rfl,⟨1,1000000,rfl,rfl⟩,rfl⟩) rfl ?_
 refine Vbits.wand _ msk rfl rfl ?_
 refine Vstep.actsBox 1 (λv=>zir v b hb 6 (by decide)) (Handed.clo (fs:=[.r (I 6)]) (cs:=[.own 0]) rfl rfl ⟨_,_,rfl,cr,rfl⟩ ⟨_,_,rfl,⟨1,1000000,rfl,rfl⟩,rfl⟩) rfl ?_
 refine Vshr.w _ 3 rfl rfl ?_
 refine Vbits.wand _ msk rfl rfl ?_
 refine Vstep.actsBox 1 (λv=>zir v b hb 12 (by decide)) (Handed.clo (fs:=[.r (I 12)]) (cs:=[.own 0]) rfl rfl ⟨_,_,rfl,cr,rfl⟩ ⟨_,_,rfl,⟨1,1000000,rfl,rfl⟩,rfl⟩) rfl ?_
 refine Vshr.w _ 6 rfl rfl ?_
 refine Vbits.wand _ msk rfl rfl ?_
 refine Vstep.actsBox 1 (λv=>zir v b hb 19 (by decide)) (Handed.clo (fs:=[.r (I 19)]) (cs:=[.own 0]) rfl rfl ⟨_,_,rfl,cr,rfl⟩ ⟨_,_,rfl,⟨1,1000000,rfl,rfl⟩,rfl⟩) rfl ?_
 refine Vshr.w _ 1 rfl rfl ?_
 refine Vbits.wand _ msk rfl rfl ?_
 refine Vstep.actsBox 1 (λv=>zir v b hb 24 (by decide)) (Handed.clo (fs:=[.r (I 24)]) (cs:=[.own 0]) rfl rfl ⟨_,_,rfl,cr,rfl⟩ ⟨_,_,rfl,⟨1,1000000,rfl,rfl⟩,rfl⟩) rfl ?_
 refine Vshr.w _ 12 rfl rfl ?_
 refine Vbits.wand _ msk rfl rfl ?_
 repeat' ((conv=>whnf);first |refine za rfl rfl ?_)
 exactλ_ _ _ h=>h
end
section
def rorW(x:UInt64)(n:Nat):UInt64:=shlW x (64-n)|||shrW x n
theorem Vbits.wandN{a b:Int}{K:Int->Prop}(x y:UInt64)(m:Nat)(ha:a=(x.toNat:Int))(hb:b=(y.toNat:Int))(hm:(x&&&y).toNat=m)(hK:K (m:Int)):Vbits .u64 .and a b K:=Vbits.wand x y ha hb (by rw[hm];exact hK)
theorem z4m(x:UInt64)(n:Nat)(hn:1<=n/\n<=63):zab Tryz.prog 317 [W x,I (-(n:Int))] (.r (W (rorW x n))):=by
 refine zaa (T:=Tab) mixed Tab_ok Tryz.func317 rfl (by kernel_rfl) ?_
 have e1:(UInt64.ofNat (18446744073709551616-n)).toNat=18446744073709551616-n:=by rw[UInt64.toNat_ofNat'];omega
 refine Vint.n ((UInt64.ofNat (18446744073709551616-n)).toNat:Int) (by rw[e1];simp only[IntKind.wrap];simp[IntKind.bits,IntKind.signed];omega) ?_
 refine Vbits.wandN (UInt64.ofNat (18446744073709551616-n)) 63 (64-n) rfl rfl (by
  rw[UInt64.toNat_and,e1]
  have:=Nat.and_two_pow_sub_one_eq_mod (18446744073709551616-n) 6
  have e:(63:UInt64).toNat=2^6-1:=rfl
  rw[e,this]
  omega) ?_
 refine Vshl.w x (64-n) rfl rfl (by omega) ?_
 refine Vint.u64 n (by omega) (by omega) ?_
 refine Vshr.w x n rfl rfl ?_
 refine Vbits.wor _ _ rfl rfl ?_
 exact cr
theorem zb4(x:UInt64)(n:Nat)(hn:1<=n/\n<=63):zab Tryz.prog 276 [W x,I n] (.r (W (rorW x n))):=by
 refine zaa (T:=Tab) mixed Tab_ok Tryz.func276 rfl (by kernel_rfl) ?_
 refine zc (m:= -(n:Int)) (by omega) (by omega) ?_
 refine zd (z4m x n hn) ?_
 exact cr
abbrev boxW(l:List UInt64):Ow:= .box ((l.map W).map .r)
theorem zfp{l:List UInt64}{j:Nat}(h:j<l.length):lget ((l.map W).map TF.r) (j*1)=some (TF.r (W (l.getD j 0))):=by
 rw[zal,Nat.mul_one,List.getElem?_map,List.getElem?_map,List.getElem?_eq_getElem h,List.getD_eq_getElem?_getD,List.getElem?_eq_getElem h]
 rfl
theorem zq5{l:List UInt64}{j:Nat}{x:UInt64}{K:List TF->Prop}(h:j<l.length)(hK:K (((l.set j x).map W).map TF.r)):putK ((l.map W).map TF.r) (j*1) [TF.r (W x)] K:=by
 rw[Nat.mul_one,zdr _ _ _ _ (by simp;omega)]
 have e:((l.map W).map TF.r).take j++[TF.r (W x)]++((l.map W).map TF.r).drop (j+1)=((l.set j x).map W).map TF.r:=by
  rw[List.set_eq_take_append_cons_drop,if_pos h]
  simp[List.map_take,List.map_drop]
 simp only[List.length_cons,List.length_nil,Nat.zero_add]
 rw[e]
 exact hK
def zfo(c:List UInt8):Nat->UInt64
 |0=>0
 |j+1=>shlW (zfo c j) 8|||UInt64.ofNat (c.getD j 0).toNat
def wA(b:List UInt8)(t:Nat):List UInt64:=(List.range 80).map λi=>if i<t then zfo (b.drop (8*i)) 8 else 0
def wI(b:List UInt8)(t j:Nat):List UInt64:=(wA b t).set t (zfo (b.drop (8*t)) j)
theorem zro(b:List UInt8)(t:Nat):(wA b t).length=80:=by simp[wA]
theorem zrp(b:List UInt8)(t j:Nat):(wI b t j).length=80:=by simp[wI,wA]
theorem z3n(b:List UInt8)(t:Nat)(ht:t<80):wI b t 0=wA b t:=by
 apply List.ext_getElem
 ·simp[wI]
 ·intro i h1 h2
  simp only[wI,List.getElem_set]
  split
  ·rename_i h;subst h;simp[wA,zfo]
  ·rfl
theorem z50(b:List UInt8)(t:Nat):wI b t 8=wA b (t+1):=by
 apply List.ext_getElem
 ·simp[wI,wA]
 ·intro i h1 h2
  simp only[wI,List.getElem_set,wA,List.getElem_map,List.getElem_range]
  split
  ·rename_i h;subst h;simp
  ·rename_i h
   by_cases h3:i<t
   ·rw[if_pos h3,if_pos (by omega)]
   ·rw[if_neg h3,if_neg (by omega)]
theorem z51(b:List UInt8)(t j:Nat)(ht:t<80):(wI b t j).getD t 0=zfo (b.drop (8*t)) j:=by
 rw[wI,List.getD_eq_getElem?_getD,List.getElem?_set_self (by rw[zro];exact ht)]
 rfl
theorem z52(b:List UInt8)(t j:Nat)(x:UInt64)(hx:x=zfo (b.drop (8*t)) (j+1)):(wI b t j).set t x=wI b t (j+1):=by
 rw[hx,wI,List.set_set]
 rfl
theorem zt0(c:List UInt8)(j:Nat):zfo c (j+1)=shlW (zfo c j) 8|||UInt64.ofNat (c.getD j 0).toNat:=rfl
attribute [irreducible] wA wI zfo
end
end Go.Proofs.YtddokcpcpoihmaaGreat.Sx
