import Derived.Test.YtlofklpckddkfaaGreatZSxV
import Derived.WalkKit
import Derived.WalkSpells
import Derived.WalkLawsBesides
import Derived.Lib.Hide
import Derived.Deep.Draws
import Derived.Deep.AppendLies
import Derived.Test.YtlofklpckddkfaaGreatZPa
import Derived.Laws.Cover3
namespace Go.Proofs.YtlofklpckddkfaaGreat.Sx
open Go.RowKit
section
section
variable {P:Program} {T:TT} {B:Bs} {N:Nat} {S:St} {a:Act} {w:World} {k:Kp} {g:Env} {o:Oper} {Q:Exit->Act->World->Prop}
def cloS{α:Type}(P:Program)(arg:α->RV)(D:α->Prop)(q:α->Bool):Stable where
 at_ w k v:=∃f rvs cap,v= .func (.func f) #[] cap/\RV.partsAt w k rvs cap.toList/\∀x,D x->zab P f (arg x::rvs) (.r (.b (q x)))
 mono:=λh ⟨f,rvs,cap,e,hp,hg⟩=>⟨f,rvs,cap,e,RV.parts_mono h rvs _ hp,hg⟩
 one:=by rintro w k v ⟨f,rvs,cap,rfl,_⟩;rfl
theorem Vstep.sub{S':St}{K:St->Prop}(hs:Sub S S')(h:Vstep P S' o K):Vstep P S o K:=by
 obtain⟨ι,S2,hy,hK⟩:=h
 refine⟨ι,S2,λB N a w k Q hs0 hd=>?_,hK⟩
 obtain⟨k',hs'⟩:=hs B N a w k hs0
 exact hy B N a w k' Q hs' hd
theorem Vstep.clo{α:Type}{arg:α->RV}{D:α->Prop}{q:α->Bool}{t:Nat}{x:Operand}{ts:Array TypeId}{f:TF}{v:RV}{K:St->Prop}(y:α)
  (hop:o.op= .call {callee:= .value (.tmp t),args:= #[x],argTypes:=ts}) (hf:fget S.F t=some (.r (.s (cloS P arg D q)))) (hx:opr S x=some f) (hv:S.rv f=some v) (hc:Cv v (arg y)) (hD:D y)
  (hK:newK S o.dst (.r (.b (q y))) none K):Vstep P S o K:=by
 rw[zaq]at hK
 refine Vstep.one (λB N a w k Q ⟨g,hs⟩ hd=>?_) hK
 have hfv:=(hs.facts t _ hf).2
 simp only[TF.at_,RV.at_]at hfv
 obtain⟨fn,rvs,cap,e,hp,hg⟩:=hfv
 have hxv:=ze6 hs hv (zaf hs hx).2
 have hus:RV.partsAt w k (v::rvs) (a.eval x::cap.toList):=by simp only[RV.partsAt];exact⟨_,_,rfl,hxv,hp⟩
 have:=zfw (o:=o) (Q:=Q) (K:=λf ow=>f= .r (.b (q y))/\ow=none) hs hus (zk hc (zn rvs)) (hg y hD) (by
  have e2:a.eval (.tmp t)= .func (.func fn) #[] cap:=by
   have:a.eval (.tmp t)=a.tmps.getD t undef:=by simp[Act.eval]
   rw[this,e]
  have e3: #[a.eval x]++cap=(a.eval x::cap.toList).toArray:=by apply Array.ext';simp
  simp[execOp,hop,resolve,e2,Deferred.ofValue,invoke,e3]) ⟨rfl,rfl⟩
 refine Oper.wp_mono ?_ this
 rintro a' w' ⟨f',ow,u,k',⟨rfl,rfl⟩,rfl,hl⟩
 exact⟨k',hl.sat hs hd⟩
theorem Vstep.cloB{α:Type}{arg:α->RV}{D:α->Prop}{q:α->Bool}{t:Nat}{x:Operand}{ts:Array TypeId}{f:TF}{v:RV}{K:St->Prop}(y:α)
  (hop:o.op= .call {callee:= .value (.tmp t),args:= #[x],argTypes:=ts}) (hf:fget S.F t=some (.r (.s (cloS P arg D q)))) (hx:opr S x=some f) (hv:S.rv f=some v) (hc:Cv v (arg y)) (hD:D y)
  (h1:q y=true->newK S o.dst (.r (.b true)) none K) (h0:q y=false->newK S o.dst (.r (.b false)) none K):Vstep P S o K:=by
 refine Vstep.clo y hop hf hx hv hc hD ?_
 cases hq:q y
 ·exact h0 hq
 ·exact h1 hq
theorem SatE.pub(hs:SatE B N S a w k g){id:Nat}{vs:List RV}(ho:oget S.O id=some (.box (vs.map .r))):
  ∃b k',g id=(.pointer (some ⟨b,0,none⟩),some b)/\Le w k w k'/\b<w.heap.size/\RV.cellsAt w k' b 0 vs/\SatE B N (S.set id none) a w k' g:=by
 obtain⟨_,_,hat,_⟩:=hs.owns id _ ho
 simp only[Ow.at_]at hat
 obtain⟨b,cur,ty,e,hh,hk,hsz,hc⟩:=hat
 have hw:Wrote w k w (kset k b vs.length) (some b):=⟨rfl,rfl,rfl,Nat.le_refl _,λx _ hne=>⟨rfl,by simp[kset,show x≠b fromλh=>hne (by rw[h])]⟩,λx hx=>by
  cases hx
  exact⟨by omega,λ_ _=>rfl,λh=>by omega⟩⟩
 refine⟨b,kset k b vs.length,e,hw.le,(Array.getElem?_eq_some_iff.1 hh).1,?_,hs.wrote hw (id:=some id) ⟨⟨_,ho⟩,by rw[e]⟩⟩
 rw[RV.cellsAt_iff]
 intro j f hf
 have hj:=(List.getElem?_eq_some_iff.1 hf).1
 rw[List.length_map]at hsz
 have hcj:cur[j]?=some cur[j]:=Array.getElem?_eq_getElem (by omega)
 have h1:=hc j (.r f) cur[j] (by simp[hf]) hcj
 refine⟨by rw[zbk];omega,cur[j],?_,h1.1,RV.mono hw.le f _ h1.2⟩
 rw[Nat.zero_add,cell_of_row w b j cur ty (0,0) hh]
 exact hcj
theorem zdo{id t:Nat}(vs:List RV)(hf:fget S.F t=some (.own id))(ho:oget S.O id=some (.box (vs.map .r))):Sub S ⟨(t, .r (.ptr vs))::S.F,(id,none)::S.O,S.nx⟩:=by
 rintro B N a w k ⟨g,hs⟩
 obtain⟨b,k',hg,hle,hb,hc,h⟩:=hs.pub ho
 have hv:=(hs.facts t _ hf).2
 simp only[TF.at_]at hv
 refine⟨k',g,h.size,h.defers,h.keep,h.kk,λt' f hf'=>?_,h.owns,h.apart⟩
 rcases zau hf' with⟨rfl,rfl⟩ |⟨_,hf'⟩
 ·refine⟨trivial,?_⟩
  simp only[TF.at_,RV.at_]
  exact⟨b,0,by rw[hv,hg],hb,hc⟩
 ·exact h.facts t' f hf'
theorem zio(hs:SatE B N S a w k g): ∀{xs:List Operand} {vs:List RV},oprs S xs=some vs->RV.partsAt w k vs (xs.map a.eval)
 |[],vs,h=>by simp only[oprs]at h;cases h;rfl
 |x::xs,vs,h=>by
  simp only[oprs]at h
  split at h
  ·rename_i f hf
   split at h
   ·rename_i v vs' hv hvs
    cases h
    simp only[List.map_cons,RV.partsAt]
    exact⟨_,_,rfl,ze6 hs hv (zaf hs hf).2,zio hs hvs⟩
   ·cases h
  ·cases h
theorem Vstep.mkfun{α:Type}(arg:α->RV)(D:α->Prop)(q:α->Bool){f:FuncId}{cap:Array Operand}{rvs:List RV}{K:St->Prop}(hop:o.op= .makeFunc (.func f) #[] cap) (hc:oprs S cap.toList=some rvs)
  (hg: ∀x,D x->zab P f (arg x::rvs) (.r (.b (q x)))) (hK:newK S o.dst (.r (.s (cloS P arg D q))) none K):Vstep P S o K:=by
 rw[zaq]at hK
 refine Vstep.one (λB N a w k Q ⟨g,hs⟩ hd=>?_) hK
 have hp:=zio hs hc
 refine zan (v:= .func (.func f) #[] (cap.map a.eval)) (w':=w) (by simp[execOp,hop,Instr.makeFunc]) ⟨k,g,hs.put hd trivial ?_⟩
 simp only[TF.at_,RV.at_]
 exact⟨f,rvs,_,rfl,by simpa using hp,hg⟩
def entsAt(w:World)(k:Kp)(ents:List (Int×RV))(es:List MapEntry):Prop:=es.length=ents.length/\∀(j:Nat) (x:Int×RV) (e:MapEntry),ents[j]?=some x->es[j]?=some e->e.key= .int .i64 x.1/\x.2.at_ w k e.val
theorem entsAt.mono{w':World}{k':Kp}(h:Le w k w' k'){ents:List (Int×RV)}{es:List MapEntry}(he:entsAt w k ents es):entsAt w' k' ents es:=
 ⟨he.1,λj x e h1 h2=>⟨(he.2 j x e h1 h2).1,RV.mono h _ _ (he.2 j x e h1 h2).2⟩⟩
def stampE(es:Array MapEntry)(c:Nat):Prop:=(∀x∈es.toList,x.born<c)/\(es.toList.map (·.born)).Nodup/\(es.toList.map (·.key)).Nodup
theorem stampE.nil:stampE #[] 0:=⟨λx h=>by simp at h,by simp,by simp⟩
theorem stampE.push{es:Array MapEntry}{c:Nat}{key val:Value}(h:stampE es c)(hk: ∀x∈es.toList,x.key≠key):stampE (es.push {key:=key,val:=val,born:=c}) (c+1):=by
 refine⟨λx hx=>?_,?_,?_⟩
 ·rw[Array.toList_push]at hx
  rcases List.mem_append.1 hx with hx |hx
  ·have:=h.1 x hx;omega
  ·rw[List.mem_singleton.1 hx];exact Nat.lt_succ_self _
 ·rw[Array.toList_push,List.map_append,List.nodup_append]
  refine⟨h.2.1,by simp,λx hx y hy e=>?_⟩
  obtain⟨z,hz,rfl⟩:=List.mem_map.1 hx
  have:=h.1 z hz
  simp at hy
  omega
 ·rw[Array.toList_push,List.map_append,List.nodup_append]
  refine⟨h.2.2,by simp,λx hx y hy e=>?_⟩
  obtain⟨z,hz,rfl⟩:=List.mem_map.1 hx
  simp at hy
  exact hk z hz (e.trans hy)
def mapS(ents:List (Int×RV)):Stable where
 at_ w k v:=(v= .map none/\ents=[])\/∃b es c,v= .map (some b)/\b<w.heap.size/\0<k b/\w.heap[b]?=some (.map es c)/\entsAt w k ents es.toList/\stampE es c
 mono:=by
  rintro w k w' k' v h (h1 |⟨b,es,c,e,hb,hk,hh,he,hst⟩)
  ·exact .inl h1
  ·exact .inr ⟨b,es,c,e,Nat.lt_of_lt_of_le hb h.size,Nat.lt_of_lt_of_le hk (h.keep b hb),h.map b hb hk es c hh,he.mono h,hst⟩
 one:=by
  rintro w k v (⟨rfl,_⟩ |⟨b,es,c,rfl,_⟩)<;>rfl
def mapO(ents:List (Int×RV)):GOw where
 at_ w k vb:=∃b es c,vb=(.map (some b),some b)/\w.heap[b]?=some (.map es c)/\k b=0/\entsAt w k ents es.toList/\stampE es c
 mono:=by
  rintro w k w' k' vb h hb ⟨b,es,c,rfl,hh,hk,he,hst⟩
  have:=hb b rfl
  exact⟨b,es,c,rfl,this.1.trans hh,this.2.trans hk,he.mono h,hst⟩
 one:=by rintro w k vb ⟨b,es,c,rfl,_⟩;rfl
def zb3:List (Int×RV)->Int->Option RV
 |[],_=>none
 |(m,r)::l,n=>if m=n then some r else zb3 l n
theorem zt0: ∀{ents:List (Int×RV)} {es:List MapEntry} {n:Int},entsAt w k ents es->zb3 ents n=none->∀x∈es,x.key≠ .int .i64 n
 |[],[],n,_,_,x,hx=>by cases hx
 |[],e::es,n,h,_,x,hx=>by have:=h.1;simp at this
 |x::ents,[],n,h,_,y,hy=>by cases hy
 |(m,r)::ents,e::es,n,h,hm,x,hx=>by
  obtain⟨h1,h2⟩:=h.2 0 (m,r) e (by simp) (by simp)
  simp only[zb3]at hm
  split at hm
  ·cases hm
  ·rename_i hne
   rcases List.mem_cons.1 hx with rfl |hx
   ·rw[h1]
    intro e'
    simp at e'
    exact hne e'
   ·exact zt0 ⟨by have:=h.1;simpa using this,λj x e h1 h2=>h.2 (j+1) x e (by simpa using h1) (by simpa using h2)⟩ hm x hx
theorem zjc{kd:IntKind}{n:Int}: ∀{ents:List (Int×RV)} {es:List MapEntry} (i:Nat),entsAt w k ents es->
  ∃res,Instr.findNow (.int kd) (.int .i64 n) es i=some res/\match zb3 ents n with
   |some r=>∃j v,res=some (j,v)/\r.at_ w k v
   |none=>res=none
 |[],[],i,_=>⟨none,rfl,rfl⟩
 |[],e::es,i,h=>by have:=h.1;simp at this
 |x::ents,[],i,h=>by have:=h.1;simp at this
 |(m,r)::ents,e::es,i,h=>by
  obtain⟨h1,h2⟩:=h.2 0 (m,r) e (by simp) (by simp)
  simp only[Instr.findNow,h1,Instr.sameNow,if_true,zb3]
  by_cases hm:m=n
  ·rw[if_pos hm]
   subst hm
   exact⟨some (i,e.val),by simp,i,e.val,rfl,h2⟩
  ·rw[if_neg hm]
   have:(n==m)=false:=by simp;omega
   rw[this]
   simp only
   exact zjc (i+1) ⟨by have:=h.1;simpa using this,λj x e h1 h2=>h.2 (j+1) x e (by simpa using h1) (by simpa using h2)⟩
theorem zhh{kt:TypeId}{n:Int}{ents:List (Int×RV)}{es:List MapEntry}(hk:P.underlying kt=some (.int .i64))(he:entsAt w k ents es):
  ∃res,(Instr.findKey kt (.int .i64 n) es).run P w= .ok res w/\match zb3 ents n with
   |some r=>∃j v,res=some (j,v)/\r.at_ w k v
   |none=>res=none:=by
 obtain⟨res,h1,h2⟩:=zjc (kd:= .i64) (n:=n) 0 he
 exact⟨res,by simp[Instr.findKey,run_underlying hk w,h1],h2⟩
theorem zpo{kt:TypeId}{n:Int}{b:Bool}{m:Nat}(hk:P.underlying kt=some (.int .i64)):(Instr.checkKey b (m+1) kt (.int .i64 n)).run P w= .ok () w:=by
 simp[Instr.checkKey,run_underlying hk w]
theorem ze3{kt:TypeId}{n:Int}{b:Bool}(hk:P.underlying kt=some (.int .i64)):(Instr.checkKey b 10000 kt (.int .i64 n)).run P w= .ok () w:=zpo (m:=9999) hk
theorem zf5{t kt et:TypeId}{v:Value}{n:Int}{ok:Bool}{ents:List (Int×RV)}{z:Value}{zr:RV}(hu:P.underlying t=some (.map kt et))(hk:P.underlying kt=some (.int .i64))(hz:(P.info? et).bind (·.zero)=some z)(hzr:zr.at_ w k z)
  (hv:(mapS ents).at_ w k v): ∃u b,(Instr.lookup t v (.int .i64 n) ok).run P w= .ok (if ok then .tuple #[u, .bool b]else u) w/\match zb3 ents n with
   |some r=>r.at_ w k u/\b=true
   |none=>zr.at_ w k u/\b=false:=by
 obtain⟨i,hi,hz⟩:=Option.bind_eq_some_iff.1 hz
 have zv:(zeroValue et).run P w= .ok z w:=by simp[zeroValue,typeInfo,hi,hz]
 rcases hv with⟨rfl,rfl⟩ |⟨b,es,c,rfl,_,_,hh,he,_⟩
 ·refine⟨z,false,?_,hzr,rfl⟩
  obtain⟨res,h1,h2⟩:=zhh (n:=n) (k:=k) hk (show entsAt w k [] []from⟨rfl,λj x e h=>by simp at h⟩)
  simp only[zb3]at h2
  subst h2
  simp[Instr.lookup,run_underlying hu w,ze3 hk,h1,zv]
 ·obtain⟨res,h1,h2⟩:=zhh (n:=n) hk he
  cases hm:zb3 ents n with
  |none=>
   rw[hm]at h2
   simp only at h2
   subst h2
   exact⟨z,false,by simp[Instr.lookup,run_underlying hu w,ze3 hk,h1,zv,hh,getObj,Sem.run],hzr,rfl⟩
  |some r=>
   rw[hm]at h2
   obtain⟨j,u,rfl,hr⟩:=h2
   exact⟨u,true,by simp[Instr.lookup,run_underlying hu w,ze3 hk,h1,hh,getObj,Sem.run],hr,rfl⟩
theorem Vstep.look2{t kt et:TypeId}{x y:Operand}{n:Int}{ents:List (Int×RV)}{z:Value}{K:St->Prop}(zr:RV)(hop:o.op= .lookup t x y true)(hx:opr S x=some (.r (.s (mapS ents))))(hy:opr S y=some (.r (.i .i64 n)))
  (hu:P.underlying t=some (.map kt et)) (hk:P.underlying kt=some (.int .i64)) (hz:(P.info? et).bind (·.zero)=some z) (hzr: ∀w k,zr.at_ w k z)
  (h1: ∀r,zb3 ents n=some r->newK S o.dst (.r (.tu [r, .b true])) none K) (h0:zb3 ents n=none->newK S o.dst (.r (.tu [zr, .b false])) none K):Vstep P S o K:=by
 simp only[zaq]at h1 h0
 cases hm:zb3 ents n with
 |some r=>
  refine Vstep.one (λB N a w k Q ⟨g,hs⟩ hd=>?_) (h1 r hm)
  have hv:=(zaf hs hx).2
  have hn:=(zaf hs hy).2
  simp only[TF.at_,RV.at_]at hv hn
  obtain⟨u,b,hr,h2⟩:=zf5 (n:=n) (ok:=true) hu hk hz (hzr w k) hv
  rw[hm]at h2
  refine zan (v:= .tuple #[u, .bool b]) (w':=w) (by simp[execOp,hop,hn,hr]) ⟨k,g,hs.put hd trivial ?_⟩
  simp only[TF.at_,RV.at_]
  exact⟨_,rfl,by simp only[RV.partsAt];exact⟨_,_,rfl,h2.1,_,_,rfl,by simp[RV.at_,h2.2],rfl⟩⟩
 |none=>
  refine Vstep.one (λB N a w k Q ⟨g,hs⟩ hd=>?_) (h0 hm)
  have hv:=(zaf hs hx).2
  have hn:=(zaf hs hy).2
  simp only[TF.at_,RV.at_]at hv hn
  obtain⟨u,b,hr,h2⟩:=zf5 (n:=n) (ok:=true) hu hk hz (hzr w k) hv
  rw[hm]at h2
  refine zan (v:= .tuple #[u, .bool b]) (w':=w) (by simp[execOp,hop,hn,hr]) ⟨k,g,hs.put hd trivial ?_⟩
  simp only[TF.at_,RV.at_]
  exact⟨_,rfl,by simp only[RV.partsAt];exact⟨_,_,rfl,h2.1,_,_,rfl,by simp[RV.at_,h2.2],rfl⟩⟩
theorem Vstep.look1{t kt et:TypeId}{x y:Operand}{n:Int}{ents:List (Int×RV)}{z:Value}{K:St->Prop}(zr:RV)(hop:o.op= .lookup t x y false)(hx:opr S x=some (.r (.s (mapS ents))))(hy:opr S y=some (.r (.i .i64 n)))
  (hu:P.underlying t=some (.map kt et)) (hk:P.underlying kt=some (.int .i64)) (hz:(P.info? et).bind (·.zero)=some z) (hzr: ∀w k,zr.at_ w k z)
  (h1: ∀r,zb3 ents n=some r->newK S o.dst (.r r) none K) (h0:zb3 ents n=none->newK S o.dst (.r zr) none K):Vstep P S o K:=by
 simp only[zaq]at h1 h0
 cases hm:zb3 ents n with
 |some r=>
  refine Vstep.one (λB N a w k Q ⟨g,hs⟩ hd=>?_) (h1 r hm)
  have hv:=(zaf hs hx).2
  have hn:=(zaf hs hy).2
  simp only[TF.at_,RV.at_]at hv hn
  obtain⟨u,b,hr,h2⟩:=zf5 (n:=n) (ok:=false) hu hk hz (hzr w k) hv
  rw[hm]at h2
  exact zan (v:=u) (w':=w) (by simp[execOp,hop,hn,hr]) ⟨k,g,hs.put hd trivial h2.1⟩
 |none=>
  refine Vstep.one (λB N a w k Q ⟨g,hs⟩ hd=>?_) (h0 hm)
  have hv:=(zaf hs hx).2
  have hn:=(zaf hs hy).2
  simp only[TF.at_,RV.at_]at hv hn
  obtain⟨u,b,hr,h2⟩:=zf5 (n:=n) (ok:=false) hu hk hz (hzr w k) hv
  rw[hm]at h2
  exact zan (v:=u) (w':=w) (by simp[execOp,hop,hn,hr]) ⟨k,g,hs.put hd trivial h2.1⟩
end
end
section
section
variable {P:Program} {T:TT} {B:Bs} {N:Nat} {S:St} {a:Act} {w:World} {k:Kp} {g:Env} {o:Oper} {Q:Exit->Act->World->Prop}
theorem zmd{m n:Nat}(h:m≠n):Nat.beq m n=false:=by
 cases hb:Nat.beq m n
 ·rfl
 ·exact absurd (Nat.eq_of_beq_eq_true hb) h
end
end
section
section
variable {P:Program} {T:TT} {B:Bs} {N:Nat} {S:St} {a:Act} {w:World} {k:Kp} {g:Env} {o:Oper} {Q:Exit->Act->World->Prop}
theorem chAt.blk{e:TypeId}{sz n:Nat}{cells:List RV}{pub:Bool}{u:Value}{ob:Option Nat}(h:chAt w k e sz n cells pub u ob){b:Nat}(hb:ob=some b):k b=(if pub then n*sz else 0)/\(∃cur,w.heap[b]?=some (.cells cur e (0,0))):=by
 rcases h.2 with⟨h,_⟩ |⟨b',cap,cur,h,_,hh,_,_,_,h',_⟩
 ·rw[h]at hb;cases hb
 ·rw[h]at hb;cases hb;exact⟨h',cur,hh⟩
end
end
section
section
variable {P:Program} {T:TT} {B:Bs} {N:Nat} {S:St} {a:Act} {w:World} {k:Kp} {g:Env} {o:Oper} {Q:Exit->Act->World->Prop}
theorem SatE.reset(hs:SatE B N S a w k g){id:Nat}{ow:Ow}(ho:oget S.O id=some ow):SatE B N (S.set id (some ow)) a w k g:=by
 have up: ∀i o',oget (S.set id (some ow)).O i=some o'->oget S.O i=some o':=λi o' h=>by
  rcases zak h with⟨rfl,e⟩ |⟨_,h⟩
  ·cases e;exact ho
  ·exact h
 exact⟨hs.size,hs.defers,hs.keep,hs.kk,hs.facts,λi o' h=>hs.owns i o' (up i o' h),λi j o1 o2 b hi hj=>hs.apart i j o1 o2 b (up i o1 hi) (up j o2 hj)⟩
end
end
end Go.Proofs.YtlofklpckddkfaaGreat.Sx

namespace Go.Proofs.YtlofklpckddkfaaGreat
open Go.RowKit
set_option linter.unusedVariables false
section
def Ext(w w':World):Prop:=Below w.heap.size w w'
theorem Ext.refl(w:World):Ext w w:=Below.refl _ _
theorem Ext.trans{a b c:World}(h:Ext a b)(k:Ext b c):Ext a c:=Below.trans h (Below.mono k h.size)
theorem Ext.alloc{a w:World}(h:Ext a w)(o:Obj):Ext a (w.alloc o):=Below.alloc h h.size o
theorem Ext.drew{a w:World}(h:Ext a w):Ext a w.drew:=Below.drew h
theorem Ext.drewN{a w:World}(h:Ext a w)(n:Nat):Ext a (w.drewN n):=⟨h.os,h.tape,h.output,h.size,h.block⟩
theorem Ext.setCell{a w:World}(h:Ext a w){p:Addr}(hp:a.heap.size<=p.block)(u:Value):Ext a (w.setCell p u):=Below.setCell h hp u
theorem Ext.le{a w:World}(h:Ext a w):a.heap.size<=w.heap.size:=h.size
theorem Ext.grown{a w w':World}{g:Option Nat}(h:Ext a w)(hg:w.grownBy w' g)(hr: ∀k,g=some k->a.heap.size<=k):Ext a w':=Below.grown h hg h.size hr
theorem za0(w:World)(o:Obj):Ext w (w.alloc o):=(Ext.refl w).alloc o
theorem Ext.cells{W w1:World}(hb:Ext W w1):(∀b o,b<W.heap.size->w1.cell? ⟨b,o,none⟩=W.cell? ⟨b,o,none⟩)/\(∀b o,b<W.heap.size->w1.frozen? ⟨b,o,none⟩=W.frozen? ⟨b,o,none⟩):=
 ⟨λb o h=>Below.cell hb (p:=⟨b,o,none⟩) h,λb o h=>Below.frozen hb (p:=⟨b,o,none⟩) h⟩
def Same(S:Nat->Prop)(w w':World):Prop:=w.heap.size<=w'.heap.size/\∀b,S b->b<w.heap.size->w'.heap[b]?=w.heap[b]?
theorem Same.of_ext{S:Nat->Prop}{w w':World}(h:Ext w w'):Same S w w':=⟨h.size,λb _ hb=>h.block b hb⟩
theorem Same.of_grown{S:Nat->Prop}{w w':World}{g:Option Nat}(h:w.grownBy w' g)(hS: ∀b,S b->some b≠g):Same S w w':=⟨h.size,λb hs hb=>h.block b hb (hS b hs)⟩
structure AC where
 a:Option Addr
 c:Nat
def Sl(w:World)(S:Nat->Prop)(sz:Nat)(p:AC)(n:Nat)(xs:List Value):Prop:=
 xs.length=n*sz/\n<=p.c/\p.c<=maxLen/\
  (0<n->∃b o,p.a=some ⟨b,o,none⟩/\S b/\b<w.heap.size/\∀j u,xs[j]?=some u->w.cell? ⟨b,o+j,none⟩=some u)
section
variable {w w':World} {S S':Nat->Prop} {sz n:Nat} {p:AC} {xs:List Value}
theorem Sl.same(h:Sl w S sz p n xs)(k:Same S w w'):Sl w' S sz p n xs:=by
 obtain⟨h1,h2,h3,h4⟩:=h
 refine⟨h1,h2,h3,λhn=>?_⟩
 obtain⟨b,o,e,hs,hb,hc⟩:=h4 hn
 exact⟨b,o,e,hs,Nat.lt_of_lt_of_le hb k.1,λj u hu=>(World.cell?_of_block (a:=⟨b,o+j,none⟩) (k.2 b hs hb)).trans (hc j u hu)⟩
theorem Sl.ext(h:Sl w S sz p n xs)(k:Ext w w'):Sl w' S sz p n xs:=h.same (.of_ext k)
theorem Sl.mono(h:Sl w S sz p n xs)(k: ∀b,S b->b<w.heap.size->S' b):Sl w S' sz p n xs:=by
 obtain⟨h1,h2,h3,h4⟩:=h
 refine⟨h1,h2,h3,λhn=>?_⟩
 obtain⟨b,o,e,hs,hb,hc⟩:=h4 hn
 exact⟨b,o,e,k b hs hb,hb,hc⟩
theorem Sl.capLe(h:Sl w S sz p n xs):n<=p.c/\p.c<=maxLen:=⟨h.2.1,h.2.2.1⟩
theorem Sl.nil(w:World)(S:Nat->Prop)(sz:Nat):Sl w S sz ⟨none,0⟩ 0 []:=⟨by simp,Nat.le_refl _,Nat.zero_le _,λh=>absurd h (by omega)⟩
theorem Sl.at_(h:Sl w S sz p n xs)(hn:0<n): ∃b o,p.a=some ⟨b,o,none⟩/\S b/\b<w.heap.size/\∀j u,xs[j]?=some u->w.cell? ⟨b,o+j,none⟩=some u:=h.2.2.2 hn
theorem Sl.cut(h:Sl w S sz p n xs){i j:Nat}(hij:i<=j)(hj:j<=n){a:Option Addr}{c:Nat}(hc:j-i<=c/\c<=maxLen)
  (ha:i<j->∀b o,p.a=some ⟨b,o,none⟩->a=some ⟨b,o+i*sz,none⟩):Sl w S sz ⟨a,c⟩ (j-i) ((xs.drop (i*sz)).take ((j-i)*sz)):=by
 have hl:i*sz+(j-i)*sz<=xs.length:=by
  rw[h.1,<-Nat.add_mul]
  exact Nat.mul_le_mul_right _ (by omega)
 refine⟨by rw[List.length_take,List.length_drop];omega,hc.1,hc.2,λhn=>?_⟩
 obtain⟨b,o,e,hs,hb,hcell⟩:=h.at_ (by omega)
 refine⟨b,o+i*sz,ha (by omega) b o e,hs,hb,λk u hu=>?_⟩
 have:=hcell (i*sz+k) u (by
  rw[List.getElem?_take]at hu
  split at hu
  ·rw[List.getElem?_drop]at hu;exact hu
  ·cases hu)
 rw[Nat.add_assoc];exact this
end
abbrev bv(b:UInt8):Value:= .int .u8 (b.toNat:Int)
abbrev iv(n:Int):Value:= .int .i64 n
def I64(n:Int):Prop:= -9223372036854775808<=n/\n<=9223372036854775807
def By(w:World)(S:Nat->Prop)(p:AC)(l:List UInt8):Prop:=Sl w S 1 p l.length (l.map bv)
def Is(w:World)(S:Nat->Prop)(p:AC)(l:List Int):Prop:=Sl w S 1 p l.length (l.map iv)/\∀x∈l,I64 x
section
variable {w w':World} {S S':Nat->Prop} {p:AC} {l:List UInt8} {m:List Int}
theorem By.same(h:By w S p l)(k:Same S w w'):By w' S p l:=Sl.same h k
theorem By.ext(h:By w S p l)(k:Ext w w'):By w' S p l:=Sl.ext h k
theorem By.mono(h:By w S p l)(k: ∀b,S b->b<w.heap.size->S' b):By w S' p l:=Sl.mono h k
theorem By.lens(h:By w S p l):l.length<=p.c/\p.c<=maxLen:=Sl.capLe h
theorem Is.ext(h:Is w S p m)(k:Ext w w'):Is w' S p m:=⟨Sl.ext h.1 k,h.2⟩
theorem Is.lens(h:Is w S p m):m.length<=p.c/\p.c<=maxLen:=Sl.capLe h.1
theorem By.at_(h:By w S p l){k:Nat}(hk:k<l.length): ∃b o,p.a=some ⟨b,o,none⟩/\w.cell? ⟨b,o+k,none⟩=some (.int .u8 (l[k].toNat:Int)):=by
 obtain⟨b,o,e,_,_,hc⟩:=Sl.at_ h (by omega)
 exact⟨b,o,e,hc k _ (by simp[hk])⟩
theorem By.form(h:By w S p l)(hk:0<l.length): ∃b o,p.a=some ⟨b,o,none⟩/\∀(k:Nat) (h:k<l.length),w.cell? ⟨b,o+k,none⟩=some (.int .u8 (l[k].toNat:Int)):=by
 obtain⟨b,o,e,_,_,hc⟩:=Sl.at_ h hk
 exact⟨b,o,e,λk hk=>hc k _ (by simp[hk])⟩
theorem Is.at_(h:Is w S p m){k:Nat}(hk:k<m.length): ∃b o,p.a=some ⟨b,o,none⟩/\w.cell? ⟨b,o+k,none⟩=some (.int .i64 m[k]):=by
 obtain⟨b,o,e,_,_,hc⟩:=Sl.at_ h.1 (by omega)
 exact⟨b,o,e,hc k _ (by simp[hk])⟩
end
def Ow(w:World)(base:Nat)(e:TypeId)(sz:Nat)(v:Value)(n:Nat)(xs:List Value)(g:Option Nat):Prop:=
 xs.length=n*sz/\
 ((g=none/\∃a,v= .slice a n n/\Sl w (base<= ·) sz ⟨a,n⟩ n xs)\/
 (∃b cap cur,g=some b/\v= .slice (some ⟨b,0,none⟩) n cap/\base<=b/\w.heap[b]?=some (.cells cur e (0,0))/\n<=cap/\cap<=maxLen/\cur.size=cap*sz/\cur.toList.take (n*sz)=xs))
section
variable {w w':World} {base:Nat} {e:TypeId} {sz n:Nat} {v:Value} {xs:List Value} {g:Option Nat}
theorem Ow.nil(w:World)(base:Nat)(e:TypeId)(sz:Nat):Ow w base e sz (.slice none 0 0) 0 [] none:=
 ⟨by simp, .inl ⟨rfl,none,rfl,Sl.nil _ _ _⟩⟩
theorem Ow.made{w:World}{cs:Array Value}(hs:cs.size=n*sz)(hn:n<=maxLen)(hb:base<=w.heap.size):
  Ow (w.alloc (.cells cs e)) base e sz (.slice (some ⟨w.heap.size,0,none⟩) n n) n cs.toList (some w.heap.size):=
 ⟨by simpa using hs, .inr ⟨w.heap.size,n,cs,rfl,rfl,hb,heap_alloc_new w _,Nat.le_refl _,hn,hs,by rw[<-hs,<-Array.length_toList];exact List.take_length⟩⟩
theorem Ow.lt(h:Ow w base e sz v n xs g): ∀k,g=some k->base<=k/\k<w.heap.size:=by
 intro k hk
 rcases h.2 with⟨rfl,_⟩ |⟨b,cap,cur,rfl,_,hb,hh,_⟩
 ·cases hk
 ·cases hk
  exact⟨hb,(Array.getElem?_eq_some_iff.1 hh).1⟩
theorem Ow.sl(h:Ow w base e sz v n xs g): ∃p:AC,v= .slice p.a n p.c/\Sl w (base<= ·) sz p n xs:=by
 obtain⟨hl,h⟩:=h
 rcases h with⟨_,a,rfl,hs⟩ |⟨b,cap,cur,_,rfl,hb,hh,hnc,hcm,hcs,ht⟩
 ·exact⟨⟨a,n⟩,rfl,hs⟩
 ·refine⟨⟨some ⟨b,0,none⟩,cap⟩,rfl,hl,hnc,hcm,λ_=>⟨b,0,rfl,hb,(Array.getElem?_eq_some_iff.1 hh).1,λj u hu=>?_⟩⟩
  rw[Nat.zero_add,cell_of_row w b j cur e (0,0) hh]
  rw[<-ht,List.getElem?_take]at hu
  split at hu
  ·simpa using hu
  ·cases hu
theorem Ow.kept{g':Option Nat}(h:Ow w base e sz v n xs g)(k:Same (λb=>base<=b/\some b≠g') w w')(hg:g=none\/g≠g')(h0:g=none->n=0\/g'=none):Ow w' base e sz v n xs g:=by
 obtain⟨hl,h⟩:=h
 refine⟨hl,?_⟩
 rcases h with⟨hg0,a,rfl,hs⟩ |⟨b,cap,cur,hgb,rfl,hb,hh,r⟩
 ·refine .inl ⟨hg0,a,rfl,?_⟩
  rcases h0 hg0 with h1 |h1
  ·subst h1
   exact⟨hs.1,hs.2.1,hs.2.2.1,λh=>absurd h (by omega)⟩
  ·subst h1
   exact hs.same ⟨k.1,λb hb hlt=>k.2 b ⟨hb,by simp⟩ hlt⟩
 ·refine .inr ⟨b,cap,cur,hgb,rfl,hb,?_,r⟩
  refine(k.2 b ⟨hb,?_⟩ (Array.getElem?_eq_some_iff.1 hh).1).trans hh
  rcases hg with hg |hg
  ·rw[hg]at hgb;cases hgb
  ·rw[hgb]at hg;exact hg
theorem Ow.ext(h:Ow w base e sz v n xs g)(k:Ext w w'):Ow w' base e sz v n xs g:=by
 refine h.kept (g':=none) (Same.of_ext k) ?_ (λ_=> .inr rfl)
 cases g with
 |none=>exact .inl rfl
 |some _=>exact .inr (by simp)
theorem Ow.base_mono{base':Nat}(h:Ow w base e sz v n xs g)(hb:base'<=base):Ow w base' e sz v n xs g:=by
 obtain⟨hl,h⟩:=h
 refine⟨hl,?_⟩
 rcases h with⟨hg0,a,hv,hs⟩ |⟨b,cap,cur,hgb,hv,hbb,r⟩
 ·exact .inl ⟨hg0,a,hv,hs.mono λb hb' _=>Nat.le_trans hb hb'⟩
 ·exact .inr ⟨b,cap,cur,hgb,hv,Nat.le_trans hb hbb,r⟩
end
theorem zlk(b o j:Nat):(⟨b,o,none⟩:Addr).add j=⟨b,o+j,none⟩:=by unfold Addr.add;split<;>simp_all
section
variable {P:Program} (w:World)
theorem z5k(base:Nat)(t ty e:TypeId)(i:TypeInfo)(z:Value)(size bytes:Nat)(ht:P.underlying t=some (.slice e))(hi:P.info? e=some i)(hz:i.zero=some z)
  (hsize:i.size=size) (hby:i.bytes=bytes) (hzs:z.cells.size=size) (hsz:0<size)
  (v:Value) (n:Nat) (xs:List Value) (g:Option Nat) (hown:Ow w base e size v n xs g)
  (q:AC) (m:Nat) (news:List Value) {S:Nat->Prop} (hsrc:Sl w S size q m news) (h1: ∀u∈news,u.oneCell'=true)
  (h63:n+m<=maxLen) (hbytes:(n+m)*bytes<=140737488355328) (hbase:base<=w.heap.size):
  ∃a' c' g' w',(Builtin.append_ #[t,t] ty #[v, .slice q.a m q.c]).run P w= .ok (.slice a' (n+m) c') w'/\Ow w' base e size (.slice a' (n+m) c') (n+m) (xs++news) g'/\w.grownBy w' g/\(g'=g\/g'=some w.heap.size):=by
 obtain⟨p,rfl,hp⟩:=hown.sl
 rcases Nat.eq_zero_or_pos m with rfl |hm
 ·have hn:news=[]:=List.eq_nil_of_length_eq_zero (by simpa using hsrc.1)
  subst hn
  refine⟨p.a,p.c,g,w,?_,by simpa using hown,World.grownBy.refl _ _, .inl rfl⟩
  have hcap:=hp.2.1
  obtain⟨a,c⟩:=q
  cases a<;>cases hpa:p.a<;>simp[Builtin.append_,run_underlying ht,sizeOf,typeInfo,hi,Builtin.lenOf,Builtin.firstCells,loadCells,loadCellsFrom,hcap,storeCells]
 ·obtain⟨qb,qo,hqa,_,_,hqc⟩:=hsrc.at_ hm
  have hnews: ∀j u,news[j]?=some u->w.cell? ((⟨qb,qo,none⟩:Addr).add j)=some u:=λj u hu=>by rw[zlk];exact hqc j u hu
  rw[hqa]
  obtain⟨hlx,hd⟩:=id hown
  rcases hd with⟨rfl,a,hv,hs⟩ |⟨b,cap,cur,rfl,hv,hb,hh,hnc,hcm,hcs,htk⟩
  ·injection hv with e1 _ e3
   rw[e1,e3]
   have hnl:=h63
   simp only[maxLen]at hnl
   have olds: ∀(b:Addr),a=some b->∀j u,xs[j]?=some u->w.cell? (b.add j)=some u:=by
    intro b hb j u hu
    have hpos:0<n:=by
     rcases Nat.eq_zero_or_pos n with h0 |h0
     ·subst h0
      have:=List.eq_nil_of_length_eq_zero (by simpa using hlx)
      subst this
      cases hu
     ·exact h0
    obtain⟨b',o',hab,_,_,hc⟩:=hs.at_ hpos
    simp only at hab
    rw[hb]at hab
    obtain rfl:=Option.some.inj hab
    rw[zlk];exact hc j u hu
   have fin: ∀(c:Nat),n+m<=c->c<=maxLen->∀(cur:Array Value),cur.size=c*size->cur.toList.take ((n+m)*size)=xs++news->
     Ow (w.drew.alloc (.cells cur e)) base e size (.slice (some ⟨w.heap.size,0,none⟩) (n+m) c) (n+m) (xs++news) (some w.heap.size):=λc hc hcm cur hcs htk=>
    ⟨by rw[List.length_append,hlx,hsrc.1,Nat.add_mul], .inr ⟨w.heap.size,c,cur,rfl,rfl,hbase,heap_alloc_new w.drew _,hc,hcm,hcs,htk⟩⟩
   have gr: ∀(cur:Array Value),w.grownBy (w.drew.alloc (.cells cur e)) none:=λcur=>⟨rfl,rfl,rfl,by simp,λk hk _=>Below.heap_alloc w.drew _ k hk⟩
   cases a with
   |none=>
    have h0:n=0:=by
     rcases Nat.eq_zero_or_pos n with h0 |h0
     ·exact h0
     ·obtain⟨_,_,hab,_⟩:=hs.at_ h0;cases hab
    subst h0
    have hx:xs=[]:=List.eq_nil_of_length_eq_zero (by simpa using hlx)
    subst hx
    have hr:=run_append_nil (P:=P) w t ty e i z ht hi hz ⟨qb,qo,none⟩ m q.c news (by rw[hsize];exact hsrc.1) hnews hm (by omega) (by rw[hby];rw[Nat.zero_add]at hbytes;omega)
    have hge:=grownCap_ge w m 0 e
    have hcm:=grownCap_le_maxLen w m 0 e (by omega)
    refine⟨_,_,_,_,by rw[Nat.zero_add];exact hr,?_,gr _, .inr rfl⟩
    refine fin _ (by omega) hcm _ ?_ ?_
    ·simp only[Array.size_append,List.size_toArray,size_zeroCells,hzs,hsrc.1,<-Nat.add_mul]
     congr 1;omega
    ·simp only[Array.toList_append,Nat.zero_add,List.nil_append]
     rw[<-hsrc.1]
     exact List.take_left
   |some b=>
    have hr:=run_append_grow (P:=P) w t ty e i z ht hi hz b n n xs (by rw[hsize];exact hlx) (olds b rfl) ⟨qb,qo,none⟩ m q.c news (by rw[hsize];exact hsrc.1) hnews (by omega) (by omega) (growslice_fits (by omega) (by rw[hby];exact hbytes))
    have hge:=grownCap_ge w (n+m) n e
    have hcm:=grownCap_le_maxLen w (n+m) n e h63
    refine⟨_,_,_,_,hr,?_,gr _, .inr rfl⟩
    refine fin _ hge hcm _ ?_ ?_
    ·simp only[Array.size_append,List.size_toArray,size_zeroCells,hzs,hsrc.1,hlx,<-Nat.add_mul]
     congr 1;omega
    ·simp only[Array.toList_append,List.append_assoc]
     rw[<-List.append_assoc,show(n+m)*size=(xs++news).length by rw[List.length_append,hlx,hsrc.1,Nat.add_mul]]
     exact List.take_left
  ·have ho:w.ownsRow base e size (.slice (some ⟨b,0,none⟩) n cap) n xs:=⟨hlx, .inr ⟨b,cap,cur,rfl,hb,hh,hnc,hcm,hcs,htk⟩⟩
   obtain⟨g',cap',w',hr,ho',hgr,hat,_⟩:=run_append_lies (P:=P) w t ty base e i z size bytes ht hi hz hsize hby hzs hsz _ n xs ho ⟨qb,qo,none⟩ m q.c news hsrc.1 hnews h1 hm h63 hbytes hbase w.heap.size rfl
   rw[hv]
   refine⟨_,_,some g',w',hr,?_,hgr,?_⟩
   ·obtain⟨hl,h2⟩:=ho'
    refine⟨hl, .inr ?_⟩
    rcases h2 with⟨h2,_⟩ |⟨b2,cap2,cur2,hv2,r⟩
    ·cases h2
    ·injection hv2 with e1 _ e3
     injection e1 with e1
     injection e1 with e1
     subst e1;subst e3
     exact⟨g',cap',cur2,rfl,rfl,r⟩
   ·rcases hat with hat |hat
    ·left;simpa[Value.ownBlock]using hat.symm
    ·right;rw[hat]
theorem zno{ops:Array Oper}{rest:List Oper}{o:Oper}{a:Act}{Q:Exit->Act->World->Prop}(hgd:o.guard=none)(s x:Operand)(t:TypeId)
  (ho:o.op= .call {callee:= .builtin .append,args:= #[s,x],argTypes:= #[t,t]})
  (base:Nat) (e:TypeId) (i:TypeInfo) (z:Value) (size bytes:Nat) (ht:P.underlying t=some (.slice e)) (hi:P.info? e=some i) (hz:i.zero=some z)
  (hsize:i.size=size) (hby:i.bytes=bytes) (hzs:z.cells.size=size) (hsz:0<size)
  (v:Value) (n:Nat) (xs:List Value) (g:Option Nat) (hs:a.eval s=v) (hown:Ow w base e size v n xs g)
  (qa:Option Addr) (m qc:Nat) (news:List Value) {S:Nat->Prop} (hx:a.eval x= .slice qa m qc) (hsrc:Sl w S size ⟨qa,qc⟩ m news) (h1: ∀u∈news,u.oneCell'=true)
  (h63:n+m<=maxLen) (hbytes:(n+m)*bytes<=140737488355328) (hbase:base<=w.heap.size)
  (h: ∀a' c' g' w',Ow w' base e size (.slice a' (n+m) c') (n+m) (xs++news) g'->w.grownBy w' g->(g'=g\/g'=some w.heap.size)->wpList P ops Q rest (a.put o.dst (.slice a' (n+m) c')) w'):
  wpList P ops Q (o::rest) a w:=by
 obtain⟨a',c',g',w',hr,h2,h3,h4⟩:=z5k (P:=P) w base t o.type e i z size bytes ht hi hz hsize hby hzs hsz v n xs g hown ⟨qa,qc⟩ m news hsrc h1 h63 hbytes hbase
 refine wpList_plain hgd λK hK=>?_
 unfold Oper.wp execOp
 simp only[ho,resolve,invoke,builtin,Sem.run_bind,Sem.run_pure,Result.andThen_ok,List.map_toArray,List.map_cons,List.map_nil,hs,hx,hr]
 exact hK _ _ (h a' c' g' w' h2 h3 h4)
end
theorem z6n(l:List UInt8): ∀u∈l.map bv,u.oneCell'=true:=by
 intro u hu
 obtain⟨_,_,rfl⟩:=List.mem_map.1 hu
 rfl
theorem z7m(l:List Int): ∀u∈l.map iv,u.oneCell'=true:=by
 intro u hu
 obtain⟨_,_,rfl⟩:=List.mem_map.1 hu
 rfl
def Ret(w:World)(Post:World->Value->Prop)(e:Ending)(w':World):Prop:=∃v,e= .returned v/\Ext w w'/\Post w' v
def ztq(p:Prop):Prop:=p
theorem zfo{p:Prop}(h:ztq p):p:=h
theorem zfi{p:Prop}(h:p):ztq p:=h
end
end Go.Proofs.YtlofklpckddkfaaGreat

namespace Go.Proofs.YtlofklpckddkfaaGreat.Sx
open Go.RowKit
set_option linter.unusedVariables false
section
section
variable {P:Program} {w w':World} {k:Kp} {v:Value}
theorem zby{f:FuncId}{args:List RV}{res:Res}(hk:zkb P f)(h: ∀w k vs,RV.partsAt w k args vs->Calls P f vs.toArray w (Ret w λw' v=>∃k':Kp,(∀b,b<w.heap.size->k' b=k b)/\res.at_ w.heap.size w' k' v)):zab P f args res:=
 ⟨hk,λw k vs hp=>(h w k vs hp).mono λ_ _ ⟨v,he,hx,hr⟩=>⟨v,he,hx,hr⟩⟩
theorem zgp{f:FuncId}{args:List RV}{r:RV}{us:List Value}{u:Value}(hk:zkb P f)(ha: ∀w k vs,RV.partsAt w k args vs->vs=us)(hr: ∀w k,r.at_ w k u)(h: ∀w,Calls P f us.toArray w λe w'=>e= .returned u/\w=w'):zab P f args (.r r):=
 zby hk λw k vs hp=>by
  rw[ha w k vs hp]
  exact(h w).mono λ_ _ ⟨he,hw⟩=>⟨u,he,hw▸Below.refl _ _,k,λ_ _=>rfl,hr _ _⟩
section
variable {α:Type} {f:α->RV} {g:α->Value}
theorem z3d(hfg: ∀x w k v,(f x).at_ w k v↔v=g x){l:List α}(h:(RV.sl 1 l.length (l.map f)).at_ w k v): ∃p:AC,v= .slice p.a l.length p.c/\Sl w (λ_=>True) 1 p l.length (l.map g):=by
 simp only[RV.at_]at h
 obtain⟨a,c,rfl,h1,h2,h3,h4⟩:=h
 refine⟨⟨a,c⟩,rfl,by simp,h1,h2,λhn=>?_⟩
 obtain⟨b,o,e,hb,hc⟩:=h4 hn
 refine⟨b,o,e,trivial,hb,λj u hu=>?_⟩
 rw[RV.cellsAt_iff]at hc
 simp only[List.getElem?_map,Option.map_eq_some_iff]at hu
 obtain⟨x,hx,rfl⟩:=hu
 obtain⟨_,u,hu,_,hf⟩:=hc j (f x) (by simp[hx])
 rw[hu,(hfg x w k u).1 hf]
end
theorem zd7{l:List UInt8}(h:(bs l).at_ w k v): ∃p:AC,v= .slice p.a l.length p.c/\By w (λ_=>True) p l:=z3d (f:=U8) (g:=bv) (λx w k v=>by simp[RV.at_]) h
theorem zv7{l:List Int}(hl: ∀x∈l,i64 x)(h:(is l).at_ w k v): ∃p:AC,v= .slice p.a l.length p.c/\Is w (λ_=>True) p l:=by
 obtain⟨p,h1,h2⟩:=z3d (f:=I) (g:=iv) (λx w k v=>by simp[RV.at_]) h
 exact⟨p,h1,h2,hl⟩
def bch(l:List UInt8):Res:= .ch 5 1 l.length (l.map U8)
def ich(l:List Int):Res:= .ch 3 1 l.length (l.map I)
theorem zih{α:Type}{f:α->RV}{g:α->Value}(hfg: ∀x w k v,(f x).at_ w k v↔v=g x)(h1: ∀x,(g x).oneCell'=true): ∀l:List α,RV.listAt w k (l.map f) (l.map g)
 |[]=>by simp[RV.listAt]
 |x::r=>by
  simp only[List.map_cons,RV.listAt]
  exact⟨_,_,rfl,h1 x,(hfg _ _ _ _).2 rfl,zih hfg h1 r⟩
theorem z29{α:Type}{f:α->RV}{g:α->Value}(hfg: ∀x w k v,(f x).at_ w k v↔v=g x)(h1: ∀x,(g x).oneCell'=true){e:TypeId}{l:List α}{base:Nat}{o:Option Nat}(h:Go.Proofs.YtlofklpckddkfaaGreat.Ow w' base e 1 v l.length (l.map g) o):
  ∃k':Kp,(∀b,b<base->k' b=k b)/\(Res.ch e 1 l.length (l.map f)).at_ base w' k' v:=by
 obtain⟨_,h⟩:=h
 rcases h with⟨_,a,rfl,hs⟩ |⟨b,cap,cur,_,rfl,hb,hh,hnc,hcm,hcs,ht⟩
 ·rcases Nat.eq_zero_or_pos l.length with h0 |hpos
  ·refine⟨k,λ_ _=>rfl,none,⟨by simp, .inl ⟨rfl, .inl ⟨h0,a,by rw[h0]⟩⟩⟩,λb hb=>by cases hb⟩
  ·obtain⟨b,o',e',hb,hlt,hc⟩:=Sl.at_ hs hpos
   simp only at e'
   subst e'
   refine⟨λx=>if x<base then k x else o'+l.length,λx hx=>by simp[hx],none,⟨by simp, .inl ⟨rfl, .inr ⟨hpos,rfl,b,o',rfl,hs.2.2.1,hlt,?_⟩⟩⟩,λb hb=>by cases hb⟩
   rw[RV.cellsAt_iff]
   intro j q hq
   simp only[List.getElem?_map,Option.map_eq_some_iff]at hq
   obtain⟨x,hx,rfl⟩:=hq
   have hj:=(List.getElem?_eq_some_iff.1 hx).1
   exact⟨by rw[if_neg (by omega)];omega,g x,hc j (g x) (by simp[hx]),h1 x,(hfg _ _ _ _).2 rfl⟩
 ·refine⟨λx=>if x<base then k x else l.length,λx hx=>by simp[hx],some b,⟨by simp, .inr ⟨b,cap,cur,rfl,rfl,hh,hnc,hcm,Nat.le_of_eq hcs.symm,by simp only[if_neg (show¬b<base by omega)];simp,?_⟩⟩,λb' hb'=>by cases hb';exact hb⟩
  rw[ht]
  exact zih hfg h1 l
theorem zgh{l:List UInt8}{base:Nat}{o:Option Nat}(h:Go.Proofs.YtlofklpckddkfaaGreat.Ow w' base 5 1 v l.length (l.map bv) o): ∃k':Kp,(∀b,b<base->k' b=k b)/\(bch l).at_ base w' k' v:=
 z29 (f:=U8) (λx w k v=>by simp[RV.at_]) (λ_=>rfl) h
theorem z7l{l:List Int}{base:Nat}{o:Option Nat}(h:Go.Proofs.YtlofklpckddkfaaGreat.Ow w' base 3 1 v l.length (l.map iv) o): ∃k':Kp,(∀b,b<base->k' b=k b)/\(ich l).at_ base w' k' v:=
 z29 (f:=I) (λx w k v=>by simp[RV.at_]) (λ_=>rfl) h
theorem za2{f:FuncId}{fn:Func}{c:Code}(hf:P.funcs[f]?=some fn)(hb:fn.body=some c)(hn:(!(fn.name== "runtime.NumGoroutine"))=true):zkb P f:=
 ⟨fn,c,hf,hb,by simpa using hn⟩
theorem zey{x:RV}{vs:List Value}(h:RV.partsAt w k [x] vs): ∃a,vs=[a]/\x.at_ w k a:=by
 simp only[RV.partsAt]at h
 obtain⟨u,r,rfl,h1,rfl⟩:=h
 exact⟨u,rfl,h1⟩
theorem zez{x y:RV}{vs:List Value}(h:RV.partsAt w k [x,y] vs): ∃a b,vs=[a,b]/\x.at_ w k a/\y.at_ w k b:=by
 simp only[RV.partsAt]at h
 obtain⟨u,r,rfl,h1,u',r',rfl,h2,rfl⟩:=h
 exact⟨u,u',rfl,h1,h2⟩
theorem z8w{x y z:RV}{vs:List Value}(h:RV.partsAt w k [x,y,z] vs): ∃a b c,vs=[a,b,c]/\x.at_ w k a/\y.at_ w k b/\z.at_ w k c:=by
 simp only[RV.partsAt]at h
 obtain⟨u,r,rfl,h1,u',r',rfl,h2,u2,r2,rfl,h3,rfl⟩:=h
 exact⟨u,u',u2,rfl,h1,h2,h3⟩
theorem zpv{a:Int}{w:World}{k:Kp}{vs:List Value}(h:RV.partsAt w k [I a] vs):vs=[.int .i64 a]:=by
 obtain⟨u,rfl,h1⟩:=zey h
 simp only[RV.at_]at h1
 rw[h1]
theorem z9i{a b:Int}{w:World}{k:Kp}{vs:List Value}(h:RV.partsAt w k [I a,I b] vs):vs=[.int .i64 a, .int .i64 b]:=by
 obtain⟨u,u',rfl,h1,h2⟩:=zez h
 simp only[RV.at_]at h1 h2
 rw[h1,h2]
end
end
section
abbrev C2(a b:Int):RV:= .x (.complex .f64 (fl a) (fl b))
abbrev F1(a:Int):RV:= .x (.float .f64 (fl a))
end
end Go.Proofs.YtlofklpckddkfaaGreat.Sx
