import Derived.Test.YtpdllgbfemnemaaGreatZSxK
namespace Go.Proofs.YtpdllgbfemnemaaGreat.Sx
open Go.RowKit
section
section
variable {P:Program} {T:TT} {B:Bs} {N:Nat} {S:St} {a:Act} {w:World} {k:Kp} {g:Env} {o:Oper} {Q:Exit->Act->World->Prop}
def cloS{α:Type}(P:Program)(arg:α->RV)(D:α->Prop)(q:α->Bool):Stable where
 at_ w k v:=∃f rvs cap,v= .func (.func f) #[] cap/\RV.partsAt w k rvs cap.toList/\∀x,D x->zaf P f (arg x::rvs) (.r (.b (q x)))
 mono:=λh ⟨f,rvs,cap,e,hp,hg⟩=>⟨f,rvs,cap,e,RV.parts_mono h rvs _ hp,hg⟩
 one:=by rintro w k v ⟨f,rvs,cap,rfl,_⟩;rfl
theorem Vstep.sub{S':St}{K:St->Prop}(hs:Sub S S')(h:Vstep P S' o K):Vstep P S o K:=by
 obtain⟨ι,S2,hy,hK⟩:=h
 refine⟨ι,S2,λB N a w k Q hs0 hd=>?_,hK⟩
 obtain⟨k',hs'⟩:=hs B N a w k hs0
 exact hy B N a w k' Q hs' hd
theorem Vstep.clo{α:Type}{arg:α->RV}{D:α->Prop}{q:α->Bool}{t:Nat}{x:Operand}{ts:Array TypeId}{f:TF}{v:RV}{K:St->Prop}(y:α)
  (hop:o.op= .call {callee:= .value (.tmp t),args:= #[x],argTypes:=ts}) (hf:fget S.F t=some (.r (.s (cloS P arg D q)))) (hx:opr S x=some f) (hv:S.rv f=some v) (hc:Cv v (arg y)) (hD:D y)
  (hK:newK S o.dst (.r (.b (q y))) none K):Vstep P S o K:=by
 rw[zci]at hK
 refine Vstep.one (λB N a w k Q ⟨g,hs⟩ hd=>?_) hK
 have hfv:=(hs.facts t _ hf).2
 simp only[TF.at_,RV.at_]at hfv
 obtain⟨fn,rvs,cap,e,hp,hg⟩:=hfv
 have hxv:=zhl hs hv (zak hs hx).2
 have hus:RV.partsAt w k (v::rvs) (a.eval x::cap.toList):=by simp only[RV.partsAt];exact⟨_,_,rfl,hxv,hp⟩
 have:=zud (o:=o) (Q:=Q) (K:=λf ow=>f= .r (.b (q y))/\ow=none) hs hus (zk hc (zn rvs)) (hg y hD) (by
  have e2:a.eval (.tmp t)= .func (.func fn) #[] cap:=by
   have:a.eval (.tmp t)=a.tmps.getD t undef:=by simp[Act.eval]
   rw[this,e]
  have e3: #[a.eval x]++cap=(a.eval x::cap.toList).toArray:=by apply Array.ext';simp
  simp[execOp,hop,resolve,e2,Deferred.ofValue,invoke,e3]) ⟨rfl,rfl⟩
 refine Oper.wp_mono ?_ this
 rintro a' w' ⟨f',ow,u,k',⟨rfl,rfl⟩,rfl,hl⟩
 exact⟨k',hl.sat hs hd⟩
theorem Vstep.cloB{α:Type}{arg:α->RV}{D:α->Prop}{q:α->Bool}{t:Nat}{x:Operand}{ts:Array TypeId}{f:TF}{v:RV}{K:St->Prop}(y:α)
  (hop:o.op= .call {callee:= .value (.tmp t),args:= #[x],argTypes:=ts}) (hf:fget S.F t=some (.r (.s (cloS P arg D q)))) (hx:opr S x=some f) (hv:S.rv f=some v) (hc:Cv v (arg y)) (hD:D y)
  (h1:q y=true->newK S o.dst (.r (.b true)) none K) (h0:q y=false->newK S o.dst (.r (.b false)) none K):Vstep P S o K:=by
 refine Vstep.clo y hop hf hx hv hc hD ?_
 cases hq:q y
 ·exact h0 hq
 ·exact h1 hq
theorem SatE.pub(hs:SatE B N S a w k g){id:Nat}{vs:List RV}(ho:oget S.O id=some (.box (vs.map .r))):
  ∃b k',g id=(.pointer (some ⟨b,0,none⟩),some b)/\Le w k w k'/\b<w.heap.size/\RV.cellsAt w k' b 0 vs/\SatE B N (S.set id none) a w k' g:=by
 obtain⟨_,_,hat,_⟩:=hs.owns id _ ho
 simp only[Ow.at_]at hat
 obtain⟨b,cur,ty,e,hh,hk,hsz,hc⟩:=hat
 have hw:Wrote w k w (kset k b vs.length) (some b):=⟨rfl,rfl,rfl,Nat.le_refl _,λx _ hne=>⟨rfl,by simp[kset,show x≠b fromλh=>hne (by rw[h])]⟩,λx hx=>by
  cases hx
  exact⟨by omega,λ_ _=>rfl,λh=>by omega⟩⟩
 refine⟨b,kset k b vs.length,e,hw.le,(Array.getElem?_eq_some_iff.1 hh).1,?_,hs.wrote hw (id:=some id) ⟨⟨_,ho⟩,by rw[e]⟩⟩
 rw[RV.cellsAt_iff]
 intro j f hf
 have hj:=(List.getElem?_eq_some_iff.1 hf).1
 rw[List.length_map]at hsz
 have hcj:cur[j]?=some cur[j]:=Array.getElem?_eq_getElem (by omega)
 have h1:=hc j (.r f) cur[j] (by simp[hf]) hcj
 refine⟨by rw[zc1];omega,cur[j],?_,h1.1,RV.mono hw.le f _ h1.2⟩
 rw[Nat.zero_add,cell_of_row w b j cur ty (0,0) hh]
 exact hcj
theorem ze4{id t:Nat}(vs:List RV)(hf:fget S.F t=some (.own id))(ho:oget S.O id=some (.box (vs.map .r))):Sub S ⟨(t, .r (.ptr vs))::S.F,(id,none)::S.O,S.nx⟩:=by
 rintro B N a w k ⟨g,hs⟩
 obtain⟨b,k',hg,hle,hb,hc,h⟩:=hs.pub ho
 have hv:=(hs.facts t _ hf).2
 simp only[TF.at_]at hv
 refine⟨k',g,h.size,h.defers,h.keep,h.kk,λt' f hf'=>?_,h.owns,h.apart⟩
 rcases zca hf' with⟨rfl,rfl⟩ |⟨_,hf'⟩
 ·refine⟨trivial,?_⟩
  simp only[TF.at_,RV.at_]
  exact⟨b,0,by rw[hv,hg],hb,hc⟩
 ·exact h.facts t' f hf'
theorem zkz(hs:SatE B N S a w k g): ∀{xs:List Operand} {vs:List RV},oprs S xs=some vs->RV.partsAt w k vs (xs.map a.eval)
 |[],vs,h=>by simp only[oprs]at h;cases h;rfl
 |x::xs,vs,h=>by
  simp only[oprs]at h
  split at h
  ·rename_i f hf
   split at h
   ·rename_i v vs' hv hvs
    cases h
    simp only[List.map_cons,RV.partsAt]
    exact⟨_,_,rfl,zhl hs hv (zak hs hf).2,zkz hs hvs⟩
   ·cases h
  ·cases h
theorem Vstep.mkfun{α:Type}(arg:α->RV)(D:α->Prop)(q:α->Bool){f:FuncId}{cap:Array Operand}{rvs:List RV}{K:St->Prop}(hop:o.op= .makeFunc (.func f) #[] cap) (hc:oprs S cap.toList=some rvs)
  (hg: ∀x,D x->zaf P f (arg x::rvs) (.r (.b (q x)))) (hK:newK S o.dst (.r (.s (cloS P arg D q))) none K):Vstep P S o K:=by
 rw[zci]at hK
 refine Vstep.one (λB N a w k Q ⟨g,hs⟩ hd=>?_) hK
 have hp:=zkz hs hc
 refine zbr (v:= .func (.func f) #[] (cap.map a.eval)) (w':=w) (by simp[execOp,hop,Instr.makeFunc]) ⟨k,g,hs.put hd trivial ?_⟩
 simp only[TF.at_,RV.at_]
 exact⟨f,rvs,_,rfl,by simpa using hp,hg⟩
def entsAt(w:World)(k:Kp)(ents:List (Int×RV))(es:List MapEntry):Prop:=es.length=ents.length/\∀(j:Nat) (x:Int×RV) (e:MapEntry),ents[j]?=some x->es[j]?=some e->e.key= .int .i64 x.1/\x.2.at_ w k e.val
theorem entsAt.mono{w':World}{k':Kp}(h:Le w k w' k'){ents:List (Int×RV)}{es:List MapEntry}(he:entsAt w k ents es):entsAt w' k' ents es:=
 ⟨he.1,λj x e h1 h2=>⟨(he.2 j x e h1 h2).1,RV.mono h _ _ (he.2 j x e h1 h2).2⟩⟩
def stampE(es:Array MapEntry)(c:Nat):Prop:=(∀x∈es.toList,x.born<c)/\(es.toList.map (·.born)).Nodup/\(es.toList.map (·.key)).Nodup
theorem stampE.nil:stampE #[] 0:=⟨λx h=>by simp at h,by simp,by simp⟩
theorem stampE.push{es:Array MapEntry}{c:Nat}{key val:Value}(h:stampE es c)(hk: ∀x∈es.toList,x.key≠key):stampE (es.push {key:=key,val:=val,born:=c}) (c+1):=by
 refine⟨λx hx=>?_,?_,?_⟩
 ·rw[Array.toList_push]at hx
  rcases List.mem_append.1 hx with hx |hx
  ·have:=h.1 x hx;omega
  ·rw[List.mem_singleton.1 hx];exact Nat.lt_succ_self _
 ·rw[Array.toList_push,List.map_append,List.nodup_append]
  refine⟨h.2.1,by simp,λx hx y hy e=>?_⟩
  obtain⟨z,hz,rfl⟩:=List.mem_map.1 hx
  have:=h.1 z hz
  simp at hy
  omega
 ·rw[Array.toList_push,List.map_append,List.nodup_append]
  refine⟨h.2.2,by simp,λx hx y hy e=>?_⟩
  obtain⟨z,hz,rfl⟩:=List.mem_map.1 hx
  simp at hy
  exact hk z hz (e.trans hy)
def mapS(ents:List (Int×RV)):Stable where
 at_ w k v:=(v= .map none/\ents=[])\/∃b es c,v= .map (some b)/\b<w.heap.size/\0<k b/\w.heap[b]?=some (.map es c)/\entsAt w k ents es.toList/\stampE es c
 mono:=by
  rintro w k w' k' v h (h1 |⟨b,es,c,e,hb,hk,hh,he,hst⟩)
  ·exact .inl h1
  ·exact .inr ⟨b,es,c,e,Nat.lt_of_lt_of_le hb h.size,Nat.lt_of_lt_of_le hk (h.keep b hb),h.map b hb hk es c hh,he.mono h,hst⟩
 one:=by
  rintro w k v (⟨rfl,_⟩ |⟨b,es,c,rfl,_⟩)<;>rfl
def mapO(ents:List (Int×RV)):GOw where
 at_ w k vb:=∃b es c,vb=(.map (some b),some b)/\w.heap[b]?=some (.map es c)/\k b=0/\entsAt w k ents es.toList/\stampE es c
 mono:=by
  rintro w k w' k' vb h hb ⟨b,es,c,rfl,hh,hk,he,hst⟩
  have:=hb b rfl
  exact⟨b,es,c,rfl,this.1.trans hh,this.2.trans hk,he.mono h,hst⟩
 one:=by rintro w k vb ⟨b,es,c,rfl,_⟩;rfl
def zcw:List (Int×RV)->Int->Option RV
 |[],_=>none
 |(m,r)::l,n=>if m=n then some r else zcw l n
theorem zvw: ∀{ents:List (Int×RV)} {es:List MapEntry} {n:Int},entsAt w k ents es->zcw ents n=none->∀x∈es,x.key≠ .int .i64 n
 |[],[],n,_,_,x,hx=>by cases hx
 |[],e::es,n,h,_,x,hx=>by have:=h.1;simp at this
 |x::ents,[],n,h,_,y,hy=>by cases hy
 |(m,r)::ents,e::es,n,h,hm,x,hx=>by
  obtain⟨h1,h2⟩:=h.2 0 (m,r) e (by simp) (by simp)
  simp only[zcw]at hm
  split at hm
  ·cases hm
  ·rename_i hne
   rcases List.mem_cons.1 hx with rfl |hx
   ·rw[h1]
    intro e'
    simp at e'
    exact hne e'
   ·exact zvw ⟨by have:=h.1;simpa using this,λj x e h1 h2=>h.2 (j+1) x e (by simpa using h1) (by simpa using h2)⟩ hm x hx
theorem zpz{kd:IntKind}{n:Int}: ∀{ents:List (Int×RV)} {es:List MapEntry} (i:Nat),entsAt w k ents es->
  ∃res,Instr.findNow (.int kd) (.int .i64 n) es i=some res/\match zcw ents n with
   |some r=>∃j v,res=some (j,v)/\r.at_ w k v
   |none=>res=none
 |[],[],i,_=>⟨none,rfl,rfl⟩
 |[],e::es,i,h=>by have:=h.1;simp at this
 |x::ents,[],i,h=>by have:=h.1;simp at this
 |(m,r)::ents,e::es,i,h=>by
  obtain⟨h1,h2⟩:=h.2 0 (m,r) e (by simp) (by simp)
  simp only[Instr.findNow,h1,Instr.sameNow,if_true,zcw]
  by_cases hm:m=n
  ·rw[if_pos hm]
   subst hm
   exact⟨some (i,e.val),by simp,i,e.val,rfl,h2⟩
  ·rw[if_neg hm]
   have:(n==m)=false:=by simp;omega
   rw[this]
   simp only
   exact zpz (i+1) ⟨by have:=h.1;simpa using this,λj x e h1 h2=>h.2 (j+1) x e (by simpa using h1) (by simpa using h2)⟩
theorem zjw{kt:TypeId}{n:Int}{ents:List (Int×RV)}{es:List MapEntry}(hk:P.underlying kt=some (.int .i64))(he:entsAt w k ents es):
  ∃res,(Instr.findKey kt (.int .i64 n) es).run P w= .ok res w/\match zcw ents n with
   |some r=>∃j v,res=some (j,v)/\r.at_ w k v
   |none=>res=none:=by
 obtain⟨res,h1,h2⟩:=zpz (kd:= .i64) (n:=n) 0 he
 exact⟨res,by simp[Instr.findKey,run_underlying hk w,h1],h2⟩
theorem zyr{kt:TypeId}{n:Int}{b:Bool}{m:Nat}(hk:P.underlying kt=some (.int .i64)):(Instr.checkKey b (m+1) kt (.int .i64 n)).run P w= .ok () w:=by
 simp[Instr.checkKey,run_underlying hk w]
theorem zgn{kt:TypeId}{n:Int}{b:Bool}(hk:P.underlying kt=some (.int .i64)):(Instr.checkKey b 10000 kt (.int .i64 n)).run P w= .ok () w:=zyr (m:=9999) hk
theorem zkx{t kt et:TypeId}{v:Value}{n:Int}{ok:Bool}{ents:List (Int×RV)}{z:Value}{zr:RV}(hu:P.underlying t=some (.map kt et))(hk:P.underlying kt=some (.int .i64))(hz:(P.info? et).bind (·.zero)=some z)(hzr:zr.at_ w k z)
  (hv:(mapS ents).at_ w k v): ∃u b,(Instr.lookup t v (.int .i64 n) ok).run P w= .ok (if ok then .tuple #[u, .bool b]else u) w/\match zcw ents n with
   |some r=>r.at_ w k u/\b=true
   |none=>zr.at_ w k u/\b=false:=by
 obtain⟨i,hi,hz⟩:=Option.bind_eq_some_iff.1 hz
 have zv:(zeroValue et).run P w= .ok z w:=by simp[zeroValue,typeInfo,hi,hz]
 rcases hv with⟨rfl,rfl⟩ |⟨b,es,c,rfl,_,_,hh,he,_⟩
 ·refine⟨z,false,?_,hzr,rfl⟩
  obtain⟨res,h1,h2⟩:=zjw (n:=n) (k:=k) hk (show entsAt w k [] []from⟨rfl,λj x e h=>by simp at h⟩)
  simp only[zcw]at h2
  subst h2
  simp[Instr.lookup,run_underlying hu w,zgn hk,h1,zv]
 ·obtain⟨res,h1,h2⟩:=zjw (n:=n) hk he
  cases hm:zcw ents n with
  |none=>
   rw[hm]at h2
   simp only at h2
   subst h2
   exact⟨z,false,by simp[Instr.lookup,run_underlying hu w,zgn hk,h1,zv,hh,getObj,Sem.run],hzr,rfl⟩
  |some r=>
   rw[hm]at h2
   obtain⟨j,u,rfl,hr⟩:=h2
   exact⟨u,true,by simp[Instr.lookup,run_underlying hu w,zgn hk,h1,hh,getObj,Sem.run],hr,rfl⟩
theorem Vstep.look2{t kt et:TypeId}{x y:Operand}{n:Int}{ents:List (Int×RV)}{z:Value}{K:St->Prop}(zr:RV)(hop:o.op= .lookup t x y true)(hx:opr S x=some (.r (.s (mapS ents))))(hy:opr S y=some (.r (.i .i64 n)))
  (hu:P.underlying t=some (.map kt et)) (hk:P.underlying kt=some (.int .i64)) (hz:(P.info? et).bind (·.zero)=some z) (hzr: ∀w k,zr.at_ w k z)
  (h1: ∀r,zcw ents n=some r->newK S o.dst (.r (.tu [r, .b true])) none K) (h0:zcw ents n=none->newK S o.dst (.r (.tu [zr, .b false])) none K):Vstep P S o K:=by
 simp only[zci]at h1 h0
 cases hm:zcw ents n with
 |some r=>
  refine Vstep.one (λB N a w k Q ⟨g,hs⟩ hd=>?_) (h1 r hm)
  have hv:=(zak hs hx).2
  have hn:=(zak hs hy).2
  simp only[TF.at_,RV.at_]at hv hn
  obtain⟨u,b,hr,h2⟩:=zkx (n:=n) (ok:=true) hu hk hz (hzr w k) hv
  rw[hm]at h2
  refine zbr (v:= .tuple #[u, .bool b]) (w':=w) (by simp[execOp,hop,hn,hr]) ⟨k,g,hs.put hd trivial ?_⟩
  simp only[TF.at_,RV.at_]
  exact⟨_,rfl,by simp only[RV.partsAt];exact⟨_,_,rfl,h2.1,_,_,rfl,by simp[RV.at_,h2.2],rfl⟩⟩
 |none=>
  refine Vstep.one (λB N a w k Q ⟨g,hs⟩ hd=>?_) (h0 hm)
  have hv:=(zak hs hx).2
  have hn:=(zak hs hy).2
  simp only[TF.at_,RV.at_]at hv hn
  obtain⟨u,b,hr,h2⟩:=zkx (n:=n) (ok:=true) hu hk hz (hzr w k) hv
  rw[hm]at h2
  refine zbr (v:= .tuple #[u, .bool b]) (w':=w) (by simp[execOp,hop,hn,hr]) ⟨k,g,hs.put hd trivial ?_⟩
  simp only[TF.at_,RV.at_]
  exact⟨_,rfl,by simp only[RV.partsAt];exact⟨_,_,rfl,h2.1,_,_,rfl,by simp[RV.at_,h2.2],rfl⟩⟩
theorem Vstep.look1{t kt et:TypeId}{x y:Operand}{n:Int}{ents:List (Int×RV)}{z:Value}{K:St->Prop}(zr:RV)(hop:o.op= .lookup t x y false)(hx:opr S x=some (.r (.s (mapS ents))))(hy:opr S y=some (.r (.i .i64 n)))
  (hu:P.underlying t=some (.map kt et)) (hk:P.underlying kt=some (.int .i64)) (hz:(P.info? et).bind (·.zero)=some z) (hzr: ∀w k,zr.at_ w k z)
  (h1: ∀r,zcw ents n=some r->newK S o.dst (.r r) none K) (h0:zcw ents n=none->newK S o.dst (.r zr) none K):Vstep P S o K:=by
 simp only[zci]at h1 h0
 cases hm:zcw ents n with
 |some r=>
  refine Vstep.one (λB N a w k Q ⟨g,hs⟩ hd=>?_) (h1 r hm)
  have hv:=(zak hs hx).2
  have hn:=(zak hs hy).2
  simp only[TF.at_,RV.at_]at hv hn
  obtain⟨u,b,hr,h2⟩:=zkx (n:=n) (ok:=false) hu hk hz (hzr w k) hv
  rw[hm]at h2
  exact zbr (v:=u) (w':=w) (by simp[execOp,hop,hn,hr]) ⟨k,g,hs.put hd trivial h2.1⟩
 |none=>
  refine Vstep.one (λB N a w k Q ⟨g,hs⟩ hd=>?_) (h0 hm)
  have hv:=(zak hs hx).2
  have hn:=(zak hs hy).2
  simp only[TF.at_,RV.at_]at hv hn
  obtain⟨u,b,hr,h2⟩:=zkx (n:=n) (ok:=false) hu hk hz (hzr w k) hv
  rw[hm]at h2
  exact zbr (v:=u) (w':=w) (by simp[execOp,hop,hn,hr]) ⟨k,g,hs.put hd trivial h2.1⟩
theorem Vstep.max{x y:Operand}{ts:Array TypeId}{m n:Int}{K:St->Prop}(hop:o.op= .call {callee:= .builtin .max,args:= #[x,y],argTypes:=ts}) (hx:opr S x=some (.r (.i .i64 m))) (hy:opr S y=some (.r (.i .i64 n)))
  (hK:newK S o.dst (.r (.i .i64 (if m<n then n else m))) none K):Vstep P S o K:=by
 rw[zci]at hK
 refine Vstep.one (λB N a w k Q ⟨g,hs⟩ hd=>?_) hK
 have hv:=(zak hs hx).2
 have hn:=(zak hs hy).2
 simp only[TF.at_,RV.at_]at hv hn
 refine zbr (v:= .int .i64 (if m<n then n else m)) (w':=w) ?_ ⟨k,g,hs.put hd trivial (by simp[TF.at_,RV.at_])⟩
 simp[execOp,hop,resolve,invoke,builtin,hv,hn,Builtin.max_,Builtin.max2]
theorem Vstep.mapNew{t kt et:TypeId}{x y z:Operand}{id:Nat}{n:Int}{ents:List (Int×RV)}{f:TF}{r:RV}{K:St->Prop}(hop:o.op= .mapUpdate t x y z)(hx:opr S x=some (.own id))(ho:oget S.O id=some (.gen (mapO ents)))(hy:opr S y=some (.r (.i .i64 n)))(hz:opr S z=some f)(hr:S.rv f=some r)
  (hu:P.underlying t=some (.map kt et)) (hk:P.underlying kt=some (.int .i64)) (hm:zcw ents n=none) (hK:setK S id (some (.gen (mapO (ents++[(n,r)])))) o.dst K):Vstep P S o K:=by
 rw[zei]at hK
 refine Vstep.one (λB N a w k Q ⟨g,hs⟩ hd=>?_) hK
 have hv:=(zak hs hx).2
 have hn:=(zak hs hy).2
 have hzv:=zhl hs hr (zak hs hz).2
 simp only[TF.at_,RV.at_]at hv hn
 obtain⟨_,_,hat,_⟩:=hs.owns id _ ho
 simp only[Ow.at_]at hat
 obtain⟨b,es,c,e,hh,hkb,he,hst⟩:=hat
 obtain⟨res,h1,h2⟩:=zjw (n:=n) hk he
 rw[hm]at h2
 simp only at h2
 subst h2
 rw[e]at hv
 have hb:b<w.heap.size:=(Array.getElem?_eq_some_iff.1 hh).1
 let ob:Obj:= .map (es.push {key:= .int .i64 n,val:=a.eval z,born:=c}) (c+1)
 let w':World:={w with heap:=w.heap.setIfInBounds b ob}
 have hrun:(Instr.mapUpdate t (.map (some b)) (.int .i64 n) (a.eval z)).run P w= .ok () w':=by
  simp[Instr.mapUpdate,run_underlying hu w,zgn hk,h1,hh,getObj,setObj,Sem.run,w',ob]
 have hw:Wrote w k w' k (some b):=⟨rfl,rfl,rfl,by simp[w'],λx _ hne=>⟨by simp only[w'];rw[Array.getElem?_setIfInBounds_ne (λh=>hne (by rw[h]))],rfl⟩,λx hx=>by
  cases hx
  exact⟨Nat.le_refl _,λo ho=>by omega,λh=>by omega⟩⟩
 have hnew:(Ow.gen (mapO (ents++[(n,r)]))).at_ w' k g (g id):=by
  simp only[Ow.at_]
  refine⟨b,_,c+1,e,by simp only[w',ob];rw[Array.getElem?_setIfInBounds_self_of_lt hb],hkb,?_,hst.push (zvw he hm)⟩
  have he':=he.mono hw.le
  refine⟨by simp[he'.1],λj x en hj hen=>?_⟩
  rw[Array.toList_push]at hen
  rcases Nat.lt_or_ge j ents.length with hlt |hge
  ·rw[List.getElem?_append_left hlt]at hj
   rw[List.getElem?_append_left (by rw[he'.1];exact hlt)]at hen
   exact he'.2 j x en hj hen
  ·rw[List.getElem?_append_right hge]at hj
   rw[List.getElem?_append_right (by rw[he'.1];exact hge),he'.1]at hen
   have:j-ents.length=0:=by have:=(List.getElem?_eq_some_iff.1 hj).1;simp at this;omega
   rw[this]at hj hen
   simp at hj hen
   subst hj;subst hen
   exact⟨rfl,RV.mono hw.le _ _ hzv⟩
 exact zn9 (w':=w') (by simp[execOp,hop,hv,hn,hrun]) ⟨k,g,(hs.redo (ow':= .gen (mapO (ents++[(n,r)]))) ho (by rw[e]) hw trivial hnew).drop⟩
theorem Yld.mapMk{t:TypeId}(hop:o.op= .makeMap t none):Yld P S o (S.new o.dst (.own S.nx) (some (.gen (mapO [])))):=by
 intro B N a w k Q ⟨g,hs⟩ hd
 refine zbr (v:= .map (some w.heap.size)) (w':=w.alloc (.map #[] 0)) (by simp[execOp,hop,Instr.makeMap,newObj];rfl) ⟨kset k w.heap.size 0,_,hs.make hd (za3 w _) (λb hb=>zdw b hb) (vb:=(.map (some w.heap.size),some w.heap.size)) (o:= .gen (mapO [])) trivial ?_ λb hb=>?_⟩
 ·simp only[Ow.at_]
  exact⟨w.heap.size, #[],0,rfl,heap_alloc_new w _,zc1,⟨rfl,λj x e h=>by simp at h⟩,stampE.nil⟩
 ·cases hb
  exact⟨Nat.le_refl _,by simp⟩
theorem zu9{id j i:Nat}{ents:List (Int×RV)}{cells:List TF}(ho:oget S.O id=some (.gen (mapO ents)))(hj:oget S.O j=some (.box cells))(hi:cells[i]?=some (.own id)):
  Sub S ⟨S.F,(j,some (.box (cells.set i (.r (.s (mapS ents))))))::(id,none)::S.O,S.nx⟩:=by
 rintro B N a w k ⟨g,hs⟩
 obtain⟨_,_,hat,hblk⟩:=hs.owns id _ ho
 simp only[Ow.at_]at hat
 obtain⟨b,es,c,e,hh,hkb,he,hst⟩:=hat
 have hb:b<w.heap.size:=(Array.getElem?_eq_some_iff.1 hh).1
 have hw:Wrote w k w (kset k b 1) (some b):=⟨rfl,rfl,rfl,Nat.le_refl _,λx _ hne=>⟨rfl,by simp[kset,show x≠b fromλh=>hne (by rw[h])]⟩,λx hx=>by
  cases hx
  exact⟨by omega,λ_ _=>rfl,λh=>by omega⟩⟩
 have h:=hs.wrote hw (id:=some id) ⟨⟨_,ho⟩,by rw[e]⟩
 have hjid:j≠id:=λhji=>by rw[hji,ho]at hj;cases hj
 have hj':oget (S.strike (some id)).O j=some (.box cells):=by
  simp only[St.strike,St.set,oget]
  split
  ·rename_i hb';exact absurd (Nat.eq_of_beq_eq_true hb').symm hjid
  ·exact hj
 obtain⟨q1,q2,q3,q4⟩:=h.owns j _ hj'
 have hnew:(Ow.box (cells.set i (.r (.s (mapS ents))))).at_ w (kset k b 1) g (g j):=by
  simp only[Ow.at_]at q3⊢
  obtain⟨bj,cur,ty,ej,hhj,hkj,hsz,hc⟩:=q3
  refine⟨bj,cur,ty,ej,hhj,hkj,by rw[List.length_set];exact hsz,λx f u hf hu=>?_⟩
  by_cases hx:i=x
  ·subst hx
   have hil:=(List.getElem?_eq_some_iff.1 hi).1
   rw[List.getElem?_set_self hil]at hf
   cases hf
   have h0:=hc i _ u hi hu
   refine⟨h0.1,?_⟩
   have h1:=h0.2
   simp only[TF.at_]at h1
   rw[e]at h1
   simp only[TF.at_,RV.at_]
   exact .inr ⟨b,es,c,h1,hb,by rw[zc1];omega,hh,he.mono hw.le,hst⟩
  ·rw[List.getElem?_set_ne hx]at hf
   exact hc x f u hf hu
 have hlt:(Ow.box (cells.set i (.r (.s (mapS ents))))).lt S.nx:=λf hf=>by
  rcases List.mem_or_eq_of_mem_set hf with hf |rfl
  ·exact q2 f hf
  ·trivial
 have up: ∀x o',oget ((j,some (.box (cells.set i (.r (.s (mapS ents))))))::(id,none)::S.O) x=some o'->(x=j/\o'= .box (cells.set i (.r (.s (mapS ents)))))\/(j≠x/\oget (S.strike (some id)).O x=some o'):=λx o' h=>by
  rcases zav h with⟨rfl,e⟩ |⟨hne,h⟩
  ·cases e;exact .inl ⟨rfl,rfl⟩
  ·exact .inr ⟨hne,h⟩
 refine⟨kset k b 1,g,h.size,h.defers,h.keep,h.kk,h.facts,λx o' hx=>?_,λx y o1 o2 b' hx hy hne hbx=>?_⟩
 ·rcases up x o' hx with⟨rfl,rfl⟩ |⟨_,hx⟩
  ·exact⟨q1,hlt,hnew,q4⟩
  ·exact h.owns x o' hx
 ·have old: ∀x ox,oget ((j,some (.box (cells.set i (.r (.s (mapS ents))))))::(id,none)::S.O) x=some ox->∃ox',oget (S.strike (some id)).O x=some ox':=λx ox hx=>by
   rcases up x ox hx with⟨rfl,_⟩ |⟨_,hx⟩
   ·exact⟨_,hj'⟩
   ·exact⟨ox,hx⟩
  obtain⟨p1,hp1⟩:=old x o1 hx
  obtain⟨p2,hp2⟩:=old y o2 hy
  exact h.apart x y p1 p2 b' hp1 hp2 hne hbx
end
end
section
section
variable {P:Program} {T:TT} {B:Bs} {N:Nat} {S:St} {a:Act} {w:World} {k:Kp} {g:Env} {o:Oper} {Q:Exit->Act->World->Prop}
theorem zgj{m n:Nat}(h:m≠n):Nat.beq m n=false:=by
 cases hb:Nat.beq m n
 ·rfl
 ·exact absurd (Nat.eq_of_beq_eq_true hb) h
theorem wpl{ops:Array Oper}{rest:List Oper}(hg:o.guard=none)(h:o.wp P a w (wpList P ops Q rest) Q):wpList P ops Q (o::rest) a w:=by
 unfold wpList;rw[if_pos (by simp[Region.wanted,hg])];exact .inl h
theorem z3e(hs:SatE B N S a w k g){id:Nat}{ents:List (Int×RV)}(ho:oget S.O id=some (.gen (mapO ents))): ∃b,g id=(.map (some b),some b):=by
 have:=(hs.owns id _ ho).2.2.1
 simp only[Ow.at_]at this
 obtain⟨b,es,c,e,_⟩:=this
 exact⟨b,e⟩
theorem za8b(hT:TOk P T){id:Nat}{ops:Array Oper}{d0 d1 d2 d3 ta tb ts:Nat}{ti:TI}{fs:List (Nat×TypeId)}{o0 o1 o2 o3 o4:Oper}(hops:ops= #[o0,o1,o2,o3,o4])
  (h0:o0.op= .makeMap ta none/\o0.dst=some d0/\o0.guard=none) (h1:o1.op= .makeMap tb none/\o1.dst=some d1/\o1.guard=none)
  (h2:o2.op= .build ts #[(0, .tmp d0),(1, .tmp d1)]/\o2.dst=some d2/\o2.guard=none) (h3:o3.op= .alloc ts/\o3.dst=some d3/\o3.guard=none)
  (h4:o4.op= .store ts (.tmp d3) (.tmp d2)/\o4.dst=none/\o4.guard=none) (hti:tget T ts=some ti) (hk:ti.k= .struct fs) (hsz:ti.sz=2) (hzero:ti.zero=[.map none, .map none])
  (hp0:zeu T fs 0=some (0,1)) (hp1:zeu T fs 1=some (1,1)) (hne:d0≠d1/\d0≠d2/\d1≠d2/\d2≠d3) {QS:Exit->St->Prop}
  (hK:QS .normal ⟨(d3, .own (S.nx+2))::(d2, .r .any)::(d1, .own (S.nx+1))::(d0, .own S.nx)::S.F,(S.nx+2,some (.box [.own S.nx, .own (S.nx+1)]))::(S.nx+2,some (.box [.r (ofC (.map none)), .r (ofC (.map none))]))::(S.nx+1,some (.gen (mapO [])))::(S.nx,some (.gen (mapO [])))::S.O,S.nx+3⟩):
  Vcode P (.region id ops false) S QS:=by
 subst hops
 refine⟨λB N a w k Q' hs hd hQ=>wp_region_list ?_⟩
 obtain⟨h0,h0d,h0g⟩:=h0
 obtain⟨h1,h1d,h1g⟩:=h1
 obtain⟨h2,h2d,h2g⟩:=h2
 obtain⟨h3,h3d,h3g⟩:=h3
 obtain⟨h4,h4d,h4g⟩:=h4
 have hdd:d0<N/\d1<N/\d2<N/\d3<N:=by
  simp[zcp,h0d,h1d,h2d,h3d,h4d,Nat.blt]at hd
  omega
 obtain⟨l0,l1,l2,l3⟩:=hdd
 refine wpl h0g (Oper.wp_mono ?_ (Yld.mapMk h0 B N a w k Q' hs λd e=>by rw[h0d]at e;cases e;exact l0))
 rintro a1 w1 ⟨k1,hs1⟩
 refine wpl h1g (Oper.wp_mono ?_ (Yld.mapMk h1 B N a1 w1 k1 Q' hs1 λd e=>by rw[h1d]at e;cases e;exact l1))
 rintro a2 w2 ⟨k2,g2,hs2⟩
 simp only[St.new,St.mk_,h0d,h1d]at hs2
 obtain⟨b0,e0⟩:=z3e hs2 (id:=S.nx) (ents:=[]) (by
  have:Nat.beq (S.nx+1) S.nx=false:=zgj (by omega)
  simp[oget,this])
 obtain⟨b1,e1⟩:=z3e hs2 (id:=S.nx+1) (ents:=[]) (by simp[oget])
 have v1:a2.tmps.getD d1 undef= .map (some b1):=by
  have:=(hs2.facts d1 (.own (S.nx+1)) (by simp[fget])).2
  simp only[TF.at_]at this
  rw[this,e1]
 have v0:a2.tmps.getD d0 undef= .map (some b0):=by
  have hb:Nat.beq d1 d0=false:=zgj λh=>hne.1 h.symm
  have:=(hs2.facts d0 (.own S.nx) (by simp[fget,hb])).2
  simp only[TF.at_]at this
  rw[this,e0]
 obtain⟨q,hq⟩:=hT.get hti
 obtain⟨i,hi,hisz,_,z,hz,hzc⟩:=q.info
 rw[hq]at hi
 have hzcs:z.cells= #[.map none, .map none]:=by apply Array.ext';rw[hzc,hzero]
 have hbuild:(execOp a2.eval o2).run P w2= .ok (.value (.agg #[.map (some b0), .map (some b1)])) w2:=by
  have ev0:a2.eval (.tmp d0)= .map (some b0):=by rw[<-v0];simp[Act.eval]
  have ev1:a2.eval (.tmp d1)= .map (some b1):=by rw[<-v1];simp[Act.eval]
  have:=zxt (w:=w2) (parts:= #[(0, .map (some b0)),(1, .map (some b1))]) (vs:= #[.map (some b0), .map (some b1)]) hT q hq hk hi hz (by
   rw[hzcs]
   simp[Instr.fill,hp0,hp1,Value.cells])
  simp[execOp,h2,ev0,ev1,this]
 refine wpl h2g (zbr hbuild ?_)
 have hs3:=hs2.put (dst:=o2.dst) (λd e=>by rw[h2d]at e;cases e;exact l2) (f:= .r (.x (.agg #[.map (some b0), .map (some b1)]))) (v:= .agg #[.map (some b0), .map (some b1)]) trivial (by simp[TF.at_,RV.at_])
 generalize hS3:St.put _ o2.dst _=S3 at hs3
 generalize ha3:a2.put o2.dst _=a3 at hs3⊢
 obtain⟨k4,hext,hkk,ob,_,hlt4,hat4,hblk4⟩:=zjh hs3 (cells:=ti.zero.map λv=> .r (ofC v)) (cs:=z.cells) (t:=ts) (by simp[TF.lt]) (by rw[<-Array.length_toList,hzc];simp) (λj f u hf hu=>by
  have hl:=zta (w:=w2) (k:=k2) q hzc
  rw[RV.listAt_iff]at hl
  rw[List.getElem?_map]at hf
  cases hv:ti.zero[j]? with
  |none=>simp[hv]at hf
  |some v=>
   simp only[hv,Option.map_some,Option.some.injEq]at hf
   subst hf
   exact hl.2 j (ofC v) u (by simp[hv]) (by simpa using hu))
 refine wpl h3g (zbr (v:= .pointer (some ⟨w2.heap.size,0,none⟩)) (w':=w2.alloc (.cells z.cells ts)) (by simp[execOp,h3,Instr.alloc,zeroValue,typeInfo,hi,hz,newVar,newRow]) ?_)
 have hs4:=hs3.make (dst:=o3.dst) (λd e=>by rw[h3d]at e;cases e;exact l3) hext hkk (vb:=(.pointer (some ⟨w2.heap.size,0,none⟩),ob)) hlt4 hat4 hblk4
 have hob:ob=some w2.heap.size:=by
  simp only[Ow.at_]at hat4
  obtain⟨b,cur,t,e,_⟩:=hat4
  simp only[Prod.mk.injEq,Value.pointer.injEq,Option.some.injEq,Addr.mk.injEq]at e
  rw[e.2,e.1.1]
 subst hob
 have hn3:S3.nx=S.nx+2:=by rw[<-hS3,h2d];rfl
 have hF3:S3.F=(d2, .r (.x (.agg #[.map (some b0), .map (some b1)])))::(d1, .own (S.nx+1))::(d0, .own S.nx)::S.F:=by rw[<-hS3,h2d];rfl
 have hO3:S3.O=(S.nx+1,some (.gen (mapO [])))::(S.nx,some (.gen (mapO [])))::S.O:=by rw[<-hS3,h2d];rfl
 simp only[St.mk_,h3d,hn3,hF3,hO3,hzero,List.map_cons,List.map_nil]at hs4
 generalize ha4:a3.put (some d3) (Value.pointer (some ⟨w2.heap.size,0,none⟩))=a4 at hs4
 have hbeq:Nat.beq d3 d2=false:=zgj λh=>hne.2.2.2 h.symm
 have v2:a4.eval (.tmp d2)= .agg #[.map (some b0), .map (some b1)]:=by
  have:=(hs4.facts d2 (.r (.x (.agg #[.map (some b0), .map (some b1)]))) (by simp[fget,hbeq])).2
  simp only[TF.at_,RV.at_]at this
  simp only[Act.eval]
  simpa using this
 have v3:a4.eval (.tmp d3)= .pointer (some ⟨w2.heap.size,0,none⟩):=by
  have:=(hs4.facts d3 (.own (S.nx+2)) (by simp[fget])).2
  simp only[TF.at_,Env.set_eq]at this
  simp only[Act.eval]
  simpa using this
 have g0:(Env.set g2 (S.nx+2) (.pointer (some ⟨w2.heap.size,0,none⟩),some w2.heap.size)) S.nx=(.map (some b0),some b0):=by rw[Env.set_lt _ (by omega),e0]
 have g1:(Env.set g2 (S.nx+2) (.pointer (some ⟨w2.heap.size,0,none⟩),some w2.heap.size)) (S.nx+1)=(.map (some b1),some b1):=by rw[Env.set_lt _ (by omega),e1]
 obtain⟨w5,hr5,hs5⟩:=zp1 hs4 q hq (id:=S.nx+2) (b:=w2.heap.size) (off:=0) (cells:=[.r (ofC (.map none)), .r (ofC (.map none))]) (new:=[.own S.nx, .own (S.nx+1)]) (v:= .agg #[.map (some b0), .map (some b1)]) (by simp[oget]) (by rw[Env.set_eq]) (by simp[hsz]) (by simp[hsz])
  (by simp[TF.lt];omega) ⟨by simp[Value.cells],λj f u hf hu=>by
   simp only[Value.cells]at hu
   rcases j with _ |_ |j
   ·simp at hf hu;subst hf;subst hu;exact⟨rfl,by simp only[TF.at_];rw[g0]⟩
   ·simp at hf hu;subst hf;subst hu;exact⟨rfl,by simp only[TF.at_];rw[g1]⟩
   ·simp at hf⟩
 rw[h3d,ha4]
 refine wpl h4g (zn9 (w':=w5) (by simp[execOp,h4,v2,v3,hr5]) ?_)
 rw[h4d]
 refine hQ .normal _ a4 w5 k4 hK ⟨Env.set g2 (S.nx+2) (.pointer (some ⟨w2.heap.size,0,none⟩),some w2.heap.size),hs5.size,hs5.defers,hs5.keep,hs5.kk,λt f hf=>?_,?_,?_⟩
 ·rcases zca hf with⟨rfl,rfl⟩ |⟨hn1,hf⟩
  ·exact hs5.facts _ _ (by simp[St.set,fget])
  ·rcases zca hf with⟨rfl,rfl⟩ |⟨hn2,hf⟩
   ·exact⟨trivial,by simp[TF.at_,RV.at_]⟩
   ·refine hs5.facts t f ?_
    have n1:Nat.beq d3 t=false:=zgj hn1
    have n2:Nat.beq d2 t=false:=zgj hn2
    simp only[St.set]
    rw[fget,n1,fget,n2]
    exact hf
 ·simpa[St.set,hsz]using hs5.owns
 ·simpa[St.set,hsz]using hs5.apart
end
end
section
section
variable {P:Program} {T:TT} {B:Bs} {N:Nat} {S:St} {a:Act} {w:World} {k:Kp} {g:Env} {o:Oper} {Q:Exit->Act->World->Prop}
def z67(P:Program)(f:FuncId)(e:TypeId)(sz n:Nat)(cells:List RV)(args:List RV)(m:Nat)(out:List RV):Prop:=
 zks P f/\∀w k u ob vs,chAt w k e sz n cells false u ob->(∀b,ob=some b->b<w.heap.size)->RV.partsAt w k args vs->
  Calls P f (u::vs).toArray w λen w'=>∃v,en= .returned v/\Keep ob.toList w w'/\∃k':Kp,(∀b,b<w.heap.size->some b≠ob->k' b=k b)/\∃ob',chAt w' k' e sz m out false v ob'/\∀b,ob'=some b->(w.heap.size<=b\/ob=some b)/\b<w'.heap.size
theorem chAt.blk{e:TypeId}{sz n:Nat}{cells:List RV}{pub:Bool}{u:Value}{ob:Option Nat}(h:chAt w k e sz n cells pub u ob){b:Nat}(hb:ob=some b):k b=(if pub then n*sz else 0)/\(∃cur,w.heap[b]?=some (.cells cur e (0,0))):=by
 rcases h.2 with⟨h,_⟩ |⟨b',cap,cur,h,_,hh,_,_,_,h',_⟩
 ·rw[h]at hb;cases hb
 ·rw[h]at hb;cases hb;exact⟨h',cur,hh⟩
theorem Vstep.take{f:FuncId}{x:Operand}{xs:List Operand}{ts:Array TypeId}{id:Nat}{e:TypeId}{sz n m:Nat}{cells out:List RV}{vs ps:List RV}{K:St->Prop}{args:Array Operand}
  (hop:o.op= .call {callee:= .value (.func f),args:=args,argTypes:=ts}) (hargs:args.toList=x::xs) (hx:opr S x=some (.own id)) (ho:oget S.O id=some (.ch e sz n cells false)) (hxs:oprs S xs=some vs) (hc:Cvs vs ps)
  (hg:z67 P f e sz n cells ps m out) (hK:newK (S.set id none) o.dst (.own S.nx) (some (.ch e sz m out false)) K):Vstep P S o K:=by
 rw[zci]at hK
 refine Vstep.one (λB N a w k Q ⟨g,hs⟩ hd=>?_) hK
 obtain⟨⟨fn,c,hf,hb,hn⟩,hg⟩:=hg
 have hxv:=(zak hs hx).2
 simp only[TF.at_]at hxv
 obtain⟨q1,q2,q3,q4⟩:=hs.owns id _ ho
 simp only[Ow.at_]at q3
 have hp:=hc.at_ (zkz hs hxs)
 unfold Oper.wp
 have hargs':args.map a.eval=(a.eval x::xs.map a.eval).toArray:=by apply Array.ext';simp[hargs]
 rw[show(execOp a.eval o).run P w=(callFunc f (a.eval x::xs.map a.eval).toArray).run P w by simp[execOp,hop,resolve,Deferred.ofValue,invoke,Act.eval,hargs'],zgp hf hb hn]
 simp only[Oper.upon]
 refine(hg w k (a.eval x) (g id).2 (xs.map a.eval) (by rw[hxv];exact q3) (λb hb=>(q4 b hb).2) hp).mono ?_
 rintro en w' ⟨v,rfl,hkeep,k',hk',ob',hch,hob⟩
 simp only
 have hw:Wrote w k w' k' (g id).2:=by
  refine⟨hkeep.os,hkeep.tape,hkeep.output,hkeep.size,λb hb hne=>⟨hkeep.block b hb (λhm=>hne ?_),hk' b hb hne⟩,λb hb=>?_⟩
  ·rw[Option.mem_toList]at hm;exact hm.symm
  ·have hkb:=(q3.blk hb.symm).1
   simp only[Bool.false_eq_true,if_false]at hkb
   exact⟨by omega,λo' ho'=>by omega,λh=>by omega⟩
 have h1:=hs.wrote hw (id:=some id) ⟨⟨_,ho⟩,rfl⟩
 refine⟨k',_,h1.adopt hd (o:= .ch e sz m out false) (vb:=(v,ob')) trivial hch (λb hb=>⟨?_,(hob b hb).2⟩) λi o' b hi hb hgi=>?_⟩
 ·rcases(hob b hb).1 with h |h
  ·left;have:=hs.keep.size;omega
  ·exact(q4 b h).1
 ·rcases zav hi with⟨_,e'⟩ |⟨hne,hi⟩
  ·cases e'
  ·rcases(hob b hb).1 with h |h
   ·have:=((hs.owns i o' hi).2.2.2 b hgi).2;omega
   ·exact hs.apart id i _ o' b ho hi hne h hgi
theorem z0h{f:FuncId}{fn:Func}{e:TypeId}{sz n m:Nat}{cells out args:List RV}{c:Code}{rt:Nat}(hm:P.follows .mixedOrders=true)(hT:TOk P T)(hf:P.funcs[f]?=some fn)(hb:fn.body=some c)
  (hk:(Nat.ble (args.length+1) fn.ntmps&&(zcp fn.ntmps c&& !(fn.name== "runtime.NumGoroutine")))=true) (hres:fn.results= #[.tmp rt])
  (h:vcg P T c {F:=(0, .own 0)::zor 1 args,O:=[(0,some (.ch e sz n cells false))],nx:=1} λex S=>(ex= .ret\/ex= .normal)/\∃id,fget S.F rt=some (.own id)/\oget S.O id=some (.ch e sz m out false)):z67 P f e sz n cells args m out:=by
 simp only[Bool.and_eq_true,Nat.ble_eq,Bool.not_eq_true',beq_eq_false_iff_ne]at hk
 obtain⟨hn,hd,hname⟩:=hk
 refine⟨⟨fn,c,hf,hb,hname⟩,λw k u ob vs hch hobl hp=>?_⟩
 refine calls_of_wp hf hb ?_
 have hl:=zm7 hp
 have hstart:Sat ⟨w,k,ob.toList⟩ fn.ntmps {F:=(0, .own 0)::zor 1 args,O:=[(0,some (.ch e sz n cells false))],nx:=1} {tmps:=(u::vs).toArray++Array.replicate (fn.ntmps-(u::vs).toArray.size) undef,defers:=[]} w k:=by
  refine⟨λ_=>(u,ob),by simp;omega,rfl,⟨rfl,rfl,rfl,Nat.le_refl _,λ_ _ _=>rfl⟩,λ_ _ _=>rfl,λt f hf=>?_,λid o' ho'=>?_,λi j oi oj b hi hj hne=>?_⟩
  ·rcases zca hf with⟨rfl,rfl⟩ |⟨hne,hf⟩
   ·refine⟨by simp[TF.lt],?_⟩
    simp only[TF.at_]
    rw[Array.getD_eq_getD_getElem?,Array.getElem?_append_left (by simp)]
    simp
   ·obtain⟨v,rfl,hle,u',hu',hat⟩:=zqy hp hf
    refine⟨trivial,?_⟩
    have hlt:t-1<vs.length:=(List.getElem?_eq_some_iff.1 hu').1
    have:((u::vs).toArray++Array.replicate (fn.ntmps-(u::vs).toArray.size) undef)[t]?=some u':=by
     rw[Array.getElem?_append_left (by simp;omega)]
     obtain⟨t',rfl⟩: ∃t',t=t'+1:=⟨t-1,by omega⟩
     simpa using hu'
    simp only[TF.at_,Array.getD_eq_getD_getElem?,this,Option.getD_some]
    exact hat
  ·rcases zav ho' with⟨rfl,e'⟩ |⟨_,ho'⟩
   ·cases e'
    exact⟨by simp,trivial,hch,λb hb=>⟨.inr (by simpa using hb),hobl b hb⟩⟩
   ·simp[oget]at ho'
  ·rcases zav hi with⟨rfl,_⟩ |⟨_,hi⟩
   ·rcases zav hj with⟨rfl,_⟩ |⟨_,hj⟩
    ·exact absurd rfl hne
    ·simp[oget]at hj
   ·simp[oget]at hi
 refine zdj hm hT c _ _ h ⟨w,k,ob.toList⟩ fn.ntmps _ w k _ hstart hd λex S' a' w' k' ⟨hex,id,hfg,hog⟩ ⟨g,hs'⟩=>?_
 have fin:a'.defers=[]/\∃v,(results fn a'.tmps).run P w'= .ok v w'/\∃v',Ending.returned v=Ending.returned v'/\Keep ob.toList w w'/\∃k':Kp,(∀b,b<w.heap.size->some b≠ob->k' b=k b)/\∃ob',chAt w' k' e sz m out false v' ob'/\∀b,ob'=some b->(w.heap.size<=b\/ob=some b)/\b<w'.heap.size:=by
  refine⟨hs'.defers,(g id).1,?_,(g id).1,rfl,hs'.keep,k',λb hb hne=>hs'.kk b hb (by rw[Option.mem_toList];exactλh=>hne h.symm),(g id).2,?_,λb hb=>?_⟩
  ·have hv:=(hs'.facts rt _ hfg).2
   simp only[TF.at_]at hv
   rw[zgy,hres,Array.mapM_eq_mapM_toList]
   simp[znz,<-hv]
  ·have:=(hs'.owns id _ hog).2.2.1
   simpa[Ow.at_]using this
  ·have:=(hs'.owns id _ hog).2.2.2 b hb
   refine⟨this.1.imp (λh=>h) λhm=>by simpa using hm,this.2⟩
 rcases hex with rfl |rfl
 ·exact fin
 ·exact fin
theorem Vstep.peek{f:FuncId}{x:Operand}{xs:List Operand}{ts:Array TypeId}{id:Nat}{e:TypeId}{sz n:Nat}{cells:List RV}{vs:List RV}{K:St->Prop}{args:Array Operand}{r:RV}
  (hop:o.op= .call {callee:= .value (.func f),args:=args,argTypes:=ts}) (hargs:args.toList=x::xs) (hx:opr S x=some (.own id)) (ho:oget S.O id=some (.ch e sz n cells false)) (hxs:oprs S xs=some vs)
  (hr: ∀w k w' k' v,r.at_ w k v->r.at_ w' k' v)
  (hg:zaf P f (.sl sz n cells::vs) (.r r)) (hK:newK S o.dst (.r r) none K):Vstep P S o K:=by
 rw[zci]at hK
 refine Vstep.one (λB N a w k Q ⟨g,hs⟩ hd=>?_) hK
 obtain⟨⟨fn,c,hf,hb,hn⟩,hg⟩:=hg
 have hxv:=(zak hs hx).2
 simp only[TF.at_]at hxv
 obtain⟨q1,q2,q3,q4⟩:=hs.owns id _ ho
 simp only[Ow.at_]at q3
 let k1:Kp:=match(g id).2 with
  |some b=>kset k b (n*sz)
  |none=>k
 have hw:Wrote w k w k1 (g id).2:=by
  refine⟨rfl,rfl,rfl,Nat.le_refl _,λb hb hne=>⟨rfl,?_⟩,λb hb=>?_⟩
  ·simp only[k1]
   cases hob:(g id).2 with
   |none=>rfl
   |some b'=>simp only[kset];rw[if_neg (λh=>hne (by rw[hob,h]))]
  ·have hkb:=(q3.blk hb.symm).1
   simp only[Bool.false_eq_true,if_false]at hkb
   exact⟨by omega,λ_ _=>rfl,λh=>by omega⟩
 have hle:=hw.le
 have hp:=RV.parts_mono hle _ _ (zkz hs hxs)
 have hsl:(RV.sl sz n cells).at_ w k1 (a.eval x):=by
  rw[hxv]
  have h2:chAt w k1 e sz n cells true (g id).1 (g id).2:=by
   refine⟨q3.1,?_⟩
   rcases q3.2 with⟨h,h' |⟨_,h',_⟩⟩ |⟨b,cap,cur,h1,h2,h3,h4,h5,h6,h7,h8⟩
   ·exact .inl ⟨h, .inl h'⟩
   ·cases h'
   ·refine .inr ⟨b,cap,cur,h1,h2,h3,h4,h5,h6,?_,RV.list_mono hle _ _ h8⟩
    simp only[k1,h1,zc1,if_true]
  exact h2.sl
 have hp2:RV.partsAt w k1 (.sl sz n cells::vs) (a.eval x::xs.map a.eval):=by simp only[RV.partsAt];exact⟨_,_,rfl,hsl,hp⟩
 unfold Oper.wp
 have hargs':args.map a.eval=(a.eval x::xs.map a.eval).toArray:=by apply Array.ext';simp[hargs]
 rw[show(execOp a.eval o).run P w=(callFunc f (a.eval x::xs.map a.eval).toArray).run P w by simp[execOp,hop,resolve,Deferred.ofValue,invoke,Act.eval,hargs'],zgp hf hb hn]
 simp only[Oper.upon]
 refine(hg w k1 _ hp2).mono ?_
 rintro en w' ⟨v,rfl,hext,k',hk',hres⟩
 simp only
 exact⟨k,g,(hs.ext hext λ_ _=>rfl).put hd trivial (hr _ _ _ _ _ hres)⟩
theorem zo9{t e:TypeId}{p:Option Addr}{n c sz i:Nat}(hu:P.underlying t=some (.slice e))(hz:(sizeOf e).run P w= .ok sz w)(hnc:n<=c)(hi:i<=n):
  (Instr.sliceAt t (.slice p n c) none (some (.int .i64 (i:Int))) none).run P w= .ok (.slice p i c) w:=by
 have e1:(Instr.sliceBound (.int .i64 (i:Int)) c .sliceAcap).run P w= .ok i w:=by rw[zji (by omega) (by omega)];simp
 have e2:(if c=0 then p else p.map (·.add (0*sz)))=p:=by
  split
  ·rfl
  ·cases p with
   |none=>rfl
   |some a=>simp[Addr.add]
 have e3:p.map (·.add 0)=p:=by
  cases p with
  |none=>rfl
  |some a=>simp[Addr.add]
 simp[Instr.sliceAt,Instr.slice,Instr.sliceBounds,run_underlying hu w,hz,e1,Addr.add]
theorem Vstep.head{t e:TypeId}{ti te:TI}{x y:Operand}{id:Nat}{sz n i:Nat}{cells:List RV}{K:St->Prop}(hT:TOk P T)(hop:o.op= .slice t x none (some y) none)(hti:tget T t=some ti)(hk:ti.k= .slice e)(hte:tget T e=some te)(hsz:te.sz=sz)
  (hx:opr S x=some (.own id)) (ho:oget S.O id=some (.ch e sz n cells false)) (hy:opr S y=some (.r (.i .i64 i))) (hi:i<=n)
  (hK:newK (S.set id none) o.dst (.own S.nx) (some (.ch e sz i (cells.take (i*sz)) false)) K):Vstep P S o K:=by
 rw[zci]at hK
 refine Vstep.one (λB N a w k Q ⟨g,hs⟩ hd=>?_) hK
 have hxv:=(zak hs hx).2
 have hyv:=(zak hs hy).2
 simp only[TF.at_,RV.at_]at hxv hyv
 obtain⟨q1,q2,q3,q4⟩:=hs.owns id _ ho
 simp only[Ow.at_]at q3
 obtain⟨q,hq⟩:=hT.get hti
 obtain⟨d,hdd,hko,_⟩:=q.desc
 rw[hq]at hdd
 rw[hk]at hko
 simp only[KOk]at hko
 subst hko
 obtain⟨qe,hqe⟩:=hT.get hte
 have hsize:=zel (w:=w) qe hqe
 rw[hsz]at hsize
 have hw:Wrote w k w k (g id).2:=⟨rfl,rfl,rfl,Nat.le_refl _,λ_ _ _=>⟨rfl,rfl⟩,λ_ _=>⟨Nat.le_refl _,λ_ _=>rfl,λ_ _ _ h=>h⟩⟩
 have h1:=hs.wrote hw (id:=some id) ⟨⟨_,ho⟩,rfl⟩
 have hcl:=q3.1
 have hle:i*sz<=n*sz:=Nat.mul_le_mul_right _ hi
 have hlen:(cells.take (i*sz)).length=i*sz:=by rw[List.length_take];omega
 have key: ∃v,(Instr.sliceAt t (a.eval x) none (some (a.eval y)) none).run P w= .ok v w/\chAt w k e sz i (cells.take (i*sz)) false v (g id).2:=by
  rw[hxv,hyv]
  rcases q3.2 with⟨h,⟨h0,p,hv⟩ |⟨_,h',_⟩⟩ |⟨b,cap,cur,g1,g2,g3,g4,g5,g6,g7,g8⟩
  ·obtain rfl:i=0:=by omega
   rw[hv]
   exact⟨_,zo9 (n:=0) (c:=0) (i:=0) hdd hsize (by omega) (by omega),hlen, .inl ⟨h, .inl ⟨rfl,p,rfl⟩⟩⟩
  ·cases h'
  ·rw[g2]
   refine⟨_,zo9 hdd hsize g4 hi,hlen, .inr ⟨b,cap,cur,g1,rfl,g3,by omega,g5,g6,by simpa using g7,?_⟩⟩
   have:=zf3 g8 (i*sz)
   rw[List.take_take,Nat.min_eq_left hle]at this
   exact this
 obtain⟨v,hrun,hch⟩:=key
 refine zbr (v:=v) (w':=w) (by simp[execOp,hop,hrun]) ⟨k,_,h1.adopt hd (o:= .ch e sz i (cells.take (i*sz)) false) (vb:=(v,(g id).2)) trivial hch (λb hb=>q4 b hb) λj o' b hj hb hgj=>?_⟩
 rcases zav hj with⟨_,e'⟩ |⟨hne,hj⟩
 ·cases e'
 ·exact hs.apart id j _ o' b ho hj hne hb hgj
end
end
section
section
variable {P:Program} {T:TT} {B:Bs} {N:Nat} {S:St} {a:Act} {w:World} {k:Kp} {g:Env} {o:Oper} {Q:Exit->Act->World->Prop}
theorem SatE.reset(hs:SatE B N S a w k g){id:Nat}{ow:Ow}(ho:oget S.O id=some ow):SatE B N (S.set id (some ow)) a w k g:=by
 have up: ∀i o',oget (S.set id (some ow)).O i=some o'->oget S.O i=some o':=λi o' h=>by
  rcases zav h with⟨rfl,e⟩ |⟨_,h⟩
  ·cases e;exact ho
  ·exact h
 exact⟨hs.size,hs.defers,hs.keep,hs.kk,hs.facts,λi o' h=>hs.owns i o' (up i o' h),λi j o1 o2 b hi hj=>hs.apart i j o1 o2 b (up i o1 hi) (up j o2 hj)⟩
theorem zyk(v:Value)(m:Nat):(Builtin.zeroCells #[v] m).toList=List.replicate m v:=by
 apply List.ext_getElem
 ·simp[Builtin.zeroCells]
 ·intro i h1 h2
  simp[Builtin.zeroCells,Nat.mod_one]
theorem z5k(hT:TOk P T){rid:Nat}{ops:Array Oper}{id t0 t5 d0 d1 d2 ta e n i:Nat}{ti te:TI}{cells:List RV}{o0 o1 o2 o3:Oper}(hops:ops= #[o0,o1,o2,o3])
  (h0:o0.op= .move (.tmp t0)/\o0.dst=some d0/\o0.guard=none) (h1:o1.op= .move (.tmp t5)/\o1.dst=some d1/\o1.guard=none)
  (h2:o2.op= .slice ta (.tmp d0) (some (.tmp d1)) none none/\o2.dst=some d2/\o2.guard=none) (h3:o3.op= .call {callee:= .builtin .clear,args:= #[.tmp d2],argTypes:= #[ta]}/\o3.dst=none/\o3.guard=none)
  (hti:tget T ta=some ti) (hk:ti.k= .slice e) (hte:tget T e=some te) (hsz:te.sz=1) (hz0:te.zero=[.int .i64 0]) (hne:d0≠d1/\d0≠t5)
  (hf0:fget S.F t0=some (.own id)) (ho:oget S.O id=some (.ch e 1 n cells false)) (hf5:fget S.F t5=some (.r (.i .i64 (i:Int)))) (hi:i<=n) {QS:Exit->St->Prop}
  (hK:QS .normal ⟨(d2, .r .any)::(d1, .r (.i .i64 (i:Int)))::(d0, .own id)::S.F,(id,some (.ch e 1 n (cells.take i++List.replicate (n-i) (.i .i64 0)) false))::S.O,S.nx⟩):
  Vcode P (.region rid ops false) S QS:=by
 subst hops
 refine⟨λB N a w k Q' ⟨g,hs⟩ hd hQ=>wp_region_list ?_⟩
 obtain⟨h0,h0d,h0g⟩:=h0
 obtain⟨h1,h1d,h1g⟩:=h1
 obtain⟨h2,h2d,h2g⟩:=h2
 obtain⟨h3,h3d,h3g⟩:=h3
 have hdd:d0<N/\d1<N/\d2<N:=by
  simp[zcp,h0d,h1d,h2d,h3d,Nat.blt]at hd
  omega
 obtain⟨l0,l1,l2⟩:=hdd
 have hx:=hs.facts t0 _ hf0
 have hy:=hs.facts t5 _ hf5
 have v0:a.tmps.getD t0 undef=(g id).1:=by have:=hx.2;simpa[TF.at_]using this
 refine wpl h0g (zbr (v:=(g id).1) (w':=w) (by simp[execOp,h0,Act.eval,<-v0]) ?_)
 have hs1:=hs.put (dst:=o0.dst) (λd hd=>by rw[h0d]at hd;cases hd;exact l0) (f:= .own id) (v:=(g id).1) hx.1 (by simp[TF.at_])
 have hb5:Nat.beq d0 t5=false:=zgj hne.2
 have v5:(a.put o0.dst (g id).1).tmps.getD t5 undef= .int .i64 (i:Int):=by
  have:=(hs1.facts t5 (.r (.i .i64 (i:Int))) (by rw[h0d];simp only[St.put];rw[fget,hb5];exact hf5)).2
  simpa[TF.at_,RV.at_]using this
 refine wpl h1g (zbr (v:= .int .i64 (i:Int)) (w':=w) (by simp[execOp,h1,Act.eval,<-v5]) ?_)
 have hs2:=hs1.put (dst:=o1.dst) (λd hd=>by rw[h1d]at hd;cases hd;exact l1) (f:= .r (.i .i64 (i:Int))) (v:= .int .i64 (i:Int)) trivial (by simp[TF.at_,RV.at_])
 generalize ha2:(a.put o0.dst (g id).1).put o1.dst (.int .i64 (i:Int))=a2 at hs2⊢
 rw[h0d,h1d]at hs2
 have hb1:Nat.beq d1 d0=false:=zgj λe'=>hne.1 e'.symm
 have e0:a2.eval (.tmp d0)=(g id).1:=by
  have:=(hs2.facts d0 (.own id) (by simp only[St.put];rw[fget,hb1];simp[fget])).2
  simp only[Act.eval]
  simpa[TF.at_]using this
 have e1:a2.eval (.tmp d1)= .int .i64 (i:Int):=by
  have:=(hs2.facts d1 (.r (.i .i64 (i:Int))) (by simp[St.put,fget])).2
  simp only[Act.eval]
  simpa[TF.at_,RV.at_]using this
 obtain⟨q1,q2,q3,q4⟩:=hs2.owns id (.ch e 1 n cells false) (by simpa[St.put]using ho)
 simp only[Ow.at_]at q3
 obtain⟨q,hq⟩:=hT.get hti
 obtain⟨dd,hdd,hko,_⟩:=q.desc
 rw[hq]at hdd
 rw[hk]at hko
 simp only[KOk]at hko
 subst hko
 obtain⟨qe,hqe⟩:=hT.get hte
 have hsize:=zel (w:=w) qe hqe
 rw[hsz]at hsize
 obtain⟨inf,hinf,_,_,z,hz,hzc⟩:=qe.info
 rw[hqe]at hinf
 have hzcs:z.cells= #[.int .i64 0]:=by apply Array.ext';rw[hzc,hz0]
 have hcl:=q3.1
 rw[Nat.mul_one]at hcl
 have hform: ∃p c,(g id).1= .slice p n c/\n<=c:=by
  rcases q3.2 with⟨_,⟨rfl,p,e'⟩ |⟨_,h',_⟩⟩ |⟨b,cap,cur,_,e',_,h1,_⟩
  ·exact⟨p,0,e',Nat.le_refl _⟩
  ·cases h'
  ·exact⟨_,cap,e',h1⟩
 obtain⟨p,c,hpv,hnc⟩:=hform
 obtain⟨p',hr,hp'⟩:=zsn (P:=P) (w:=w) (t:=ta) (e:=e) (p:=p) (n:=n) (c:=c) (sz:=1) (lo:=i) (hi:=n) (vl:=some (.int .i64 (i:Int))) (vh:=none) hdd hsize hnc (by omega) (by omega) (by omega) (.inr ⟨.i64,rfl⟩) (.inl ⟨rfl,rfl⟩)
 simp only[Int.toNat_natCast]at hr hp'
 refine wpl h2g (zbr (v:= .slice p' (n-i) (c-i)) (w':=w) (by simp[execOp,h2,e0,e1,hpv,hr]) ?_)
 have hs3:=hs2.put (dst:=o2.dst) (λd hd=>by rw[h2d]at hd;cases hd;exact l2) (f:= .r .any) (v:= .slice p' (n-i) (c-i)) trivial (by simp[TF.at_,RV.at_])
 have e2:(a2.put o2.dst (.slice p' (n-i) (c-i))).eval (.tmp d2)= .slice p' (n-i) (c-i):=by
  rw[h2d]
  have hlt:d2<a2.tmps.size:=by rw[hs2.size];exact l2
  simp[Act.eval,Act.put,hlt]
 generalize ha3:a2.put o2.dst (.slice p' (n-i) (c-i))=a3 at hs3 e2⊢
 rw[h2d]at hs3
 have ho3:oget (St.put (St.put (St.put S (some d0) (.own id)) (some d1) (.r (.i .i64 (i:Int)))) (some d2) (.r .any)).O id=some (.ch e 1 n cells false):=by simpa[St.put]using ho
 rcases Nat.eq_or_lt_of_le hi with rfl |hlt
 ·refine wpl h3g (zbr (v:= .tuple #[]) (w':=w) ?_ ?_)
  ·rw[Nat.sub_self]at e2
   cases p'<;>simp[execOp,h3,resolve,invoke,builtin,e2,Builtin.clear_,run_underlying hdd w]
  ·rw[h3d]
   refine hQ .normal _ _ w k hK ⟨g,?_⟩
   have:=hs3.reset ho3
   simp only[St.put,St.set]at this
   rw[Nat.sub_self,List.replicate_zero,List.append_nil,List.take_of_length_le (by omega)]
   exact this
 ·rcases q3.2 with⟨_,⟨h',_⟩ |⟨_,h',_⟩⟩ |⟨b,cap,cur,g1,g2,g3,g4,g5,g6,g7,g8⟩
  ·omega
  ·cases h'
  ·rw[hpv]at g2
   simp only[Value.slice.injEq]at g2
   obtain⟨rfl,_,rfl⟩:=g2
   have hp2:=hp' (by omega) b 0 rfl
   rw[Nat.mul_one,Nat.zero_add]at hp2
   subst hp2
   rw[Nat.mul_one]at g6
   have hkb:k b=0:=by simpa using g7
   have hst:=run_storeCells_at P b i e (List.replicate (n-i) (.int .i64 0)) 0 cur w g3 (by simp;omega) (λv hv=>by rw[List.eq_of_mem_replicate hv];rfl)
   simp only[Nat.add_zero,List.length_replicate]at hst
   rw[show i+(n-i)=n by omega]at hst
   generalize hcs:(cur.toList.take i++List.replicate (n-i) (Value.int .i64 0)++cur.toList.drop n).toArray=cs at hst
   have hpos: ∃m,n-i=m+1:=⟨n-i-1,by omega⟩
   have hrun:(execOp a3.eval o3).run P w= .ok (.value (.tuple #[])) (w.setRow b cs):=by
    obtain⟨m,hm⟩:=hpos
    rw[hm]at e2 hst
    simp[execOp,h3,resolve,invoke,builtin,e2,Builtin.clear_,run_underlying hdd w,zeroValue,typeInfo,hinf,hz,hzcs,zyk,hst]
   refine wpl h3g (zbr (v:= .tuple #[]) (w':=w.setRow b cs) hrun ?_)
   rw[h3d]
   have hw:=zpv (k:=k) (cs:=cs) g3 hkb
   have hnew:Ow.at_ (w.setRow b cs) k g (g id) (.ch e 1 n (cells.take i++List.replicate (n-i) (.i .i64 0)) false):=by
    simp only[Ow.at_]
    refine⟨by simp;omega, .inr ⟨b,c,cs,g1,hpv,setRow_heap w b cur _ e (0,0) g3,g4,g5,?_,by simpa using hkb,?_⟩⟩
    ·rw[<-hcs];simp;omega
    ·have g8':=RV.list_mono hw.le _ _ g8
     have hlo:=zf3 g8' i
     rw[List.take_take,Nat.mul_one,Nat.min_eq_left hi]at hlo
     have hz:RV.listAt (w.setRow b cs) k (List.replicate (n-i) (.i .i64 0)) (List.replicate (n-i) (Value.int .i64 0)):=by
      rw[RV.listAt_iff]
      refine⟨by simp,λj f u hf hu=>?_⟩
      rw[List.getElem?_replicate]at hf hu
      split at hf
      ·rename_i hj
       rw[if_pos hj]at hu
       cases hf;cases hu
       exact⟨rfl,by simp[RV.at_]⟩
      ·cases hf
     have hall:=zcf hlo hz
     have ht:cs.toList.take (n*1)=cur.toList.take i++List.replicate (n-i) (Value.int .i64 0):=by
      rw[<-hcs,Nat.mul_one,List.toList_toArray]
      rw[List.take_append_of_le_length (by simp;omega)]
      rw[List.take_of_length_le (by simp;omega)]
     rw[ht]
     exact hall
   have:=hs3.redo (ow':= .ch e 1 n (cells.take i++List.replicate (n-i) (.i .i64 0)) false) ho3 g1 hw trivial hnew
   simp only[St.put,St.set]at this
   exact hQ .normal _ _ _ k hK ⟨g,this⟩
end
end
end Go.Proofs.YtpdllgbfemnemaaGreat.Sx
