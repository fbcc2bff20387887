import Derived.Test.YtddokcpcpoihmaaGreatZKi
import Derived.Test.YtddokcpcpoihmaaGreatZSha
import Derived.Test.YtddokcpcpoihmaaGreatZVb
import Derived.Lib.AppendStr
namespace Go.Proofs.YtddokcpcpoihmaaGreat.Sx
open Go.RowKit
section
abbrev U64(n:Nat):RV:= .i .u64 (n:Int)
def us(l:List Nat):RV:= .sl 1 l.length (l.map U64)
theorem z0o{x:Nat}(h:x<18446744073709551616):IntKind.u64.wrap (x:Int)=(x:Int):=by
 have:((x:Int)%18446744073709551616)=x:=by omega
 simp only[IntKind.wrap]
 simp[IntKind.bits,IntKind.signed]
 omega
theorem Vint.u64{e:Int}{K:Int->Prop}(n:Nat)(he:e=(n:Int))(h:n<18446744073709551616)(hK:K (n:Int)):Vint .u64 e K:=⟨n,by rw[he,z0o h],hK⟩
theorem Vrem.nat{a b:Int}{K:Int->Prop}(x y:Nat)(ha:a=(x:Int))(hb:b=(y:Int))(hy:0<y)(hK:K ((x%y:Nat):Int)):Vrem a b K:=by
 subst ha;subst hb
 refine⟨by omega,_,?_,hK⟩
 rw[Int.tmod_eq_emod_of_nonneg (by omega),<-Int.natCast_emod]
theorem Vint.u8{e:Int}{K:Int->Prop}(n:Nat)(he:e=(n:Int))(hK:K (((UInt8.ofNat n).toNat:Nat):Int)):Vint .u8 e K:=by
 refine⟨_,?_,hK⟩
 subst he
 simp only[IntKind.wrap]
 simp[IntKind.bits,IntKind.signed]
theorem Vadr.mk'{i:Int}{n:Nat}{K:Nat->Prop}(j:Nat)(h:i=(j:Int))(hj:j<n)(hK:K j):Vadr i n K:=by
 subst h
 exact⟨by omega,by omega,by rw[Int.toNat_natCast];exact hK⟩
end
section
section
variable {P:Program} {T:TT} {B:Bs} {N:Nat} {S:St} {a:Act} {w:World} {k:Kp} {g:Env} {o:Oper} {Q:Exit->Act->World->Prop}
def cloS{α:Type}(P:Program)(arg:α->RV)(D:α->Prop)(q:α->Bool):Stable where
 at_ w k v:=∃f rvs cap,v= .func (.func f) #[] cap/\RV.partsAt w k rvs cap.toList/\∀x,D x->zab P f (arg x::rvs) (.r (.b (q x)))
 mono:=λh ⟨f,rvs,cap,e,hp,hg⟩=>⟨f,rvs,cap,e,RV.parts_mono h rvs _ hp,hg⟩
 one:=by rintro w k v ⟨f,rvs,cap,rfl,_⟩;rfl
theorem Vstep.sub{S':St}{K:St->Prop}(hs:Sub S S')(h:Vstep P S' o K):Vstep P S o K:=by
 obtain⟨ι,S2,hy,hK⟩:=h
 refine⟨ι,S2,λB N a w k Q hs0 hd=>?_,hK⟩
 obtain⟨k',hs'⟩:=hs B N a w k hs0
 exact hy B N a w k' Q hs' hd
theorem Vstep.clo{α:Type}{arg:α->RV}{D:α->Prop}{q:α->Bool}{t:Nat}{x:Operand}{ts:Array TypeId}{f:TF}{v:RV}{K:St->Prop}(y:α)
  (hop:o.op= .call {callee:= .value (.tmp t),args:= #[x],argTypes:=ts}) (hf:fget S.F t=some (.r (.s (cloS P arg D q)))) (hx:opr S x=some f) (hv:S.rv f=some v) (hc:Cv v (arg y)) (hD:D y)
  (hK:newK S o.dst (.r (.b (q y))) none K):Vstep P S o K:=by
 rw[zas]at hK
 refine Vstep.one (λB N a w k Q ⟨g,hs⟩ hd=>?_) hK
 have hfv:=(hs.facts t _ hf).2
 simp only[TF.at_,RV.at_]at hfv
 obtain⟨fn,rvs,cap,e,hp,hg⟩:=hfv
 have hxv:=zdg hs hv (zad hs hx).2
 have hus:RV.partsAt w k (v::rvs) (a.eval x::cap.toList):=by simp only[RV.partsAt];exact⟨_,_,rfl,hxv,hp⟩
 have:=zhn (o:=o) (Q:=Q) (K:=λf ow=>f= .r (.b (q y))/\ow=none) hs hus (zj hc (zm rvs)) (hg y hD) (by
  have e2:a.eval (.tmp t)= .func (.func fn) #[] cap:=by
   have:a.eval (.tmp t)=a.tmps.getD t undef:=by simp[Act.eval]
   rw[this,e]
  have e3: #[a.eval x]++cap=(a.eval x::cap.toList).toArray:=by apply Array.ext';simp
  simp[execOp,hop,resolve,e2,Deferred.ofValue,invoke,e3]) ⟨rfl,rfl⟩
 refine Oper.wp_mono ?_ this
 rintro a' w' ⟨f',ow,u,k',⟨rfl,rfl⟩,rfl,hl⟩
 exact⟨k',hl.sat hs hd⟩
theorem Vstep.cloB{α:Type}{arg:α->RV}{D:α->Prop}{q:α->Bool}{t:Nat}{x:Operand}{ts:Array TypeId}{f:TF}{v:RV}{K:St->Prop}(y:α)
  (hop:o.op= .call {callee:= .value (.tmp t),args:= #[x],argTypes:=ts}) (hf:fget S.F t=some (.r (.s (cloS P arg D q)))) (hx:opr S x=some f) (hv:S.rv f=some v) (hc:Cv v (arg y)) (hD:D y)
  (h1:q y=true->newK S o.dst (.r (.b true)) none K) (h0:q y=false->newK S o.dst (.r (.b false)) none K):Vstep P S o K:=by
 refine Vstep.clo y hop hf hx hv hc hD ?_
 cases hq:q y
 ·exact h0 hq
 ·exact h1 hq
theorem SatE.pub(hs:SatE B N S a w k g){id:Nat}{vs:List RV}(ho:oget S.O id=some (.box (vs.map .r))):
  ∃b k',g id=(.pointer (some ⟨b,0,none⟩),some b)/\Le w k w k'/\b<w.heap.size/\RV.cellsAt w k' b 0 vs/\SatE B N (S.set id none) a w k' g:=by
 obtain⟨_,_,hat,_⟩:=hs.owns id _ ho
 simp only[Ow.at_]at hat
 obtain⟨b,cur,ty,e,hh,hk,hsz,hc⟩:=hat
 have hw:Wrote w k w (kset k b vs.length) (some b):=⟨rfl,rfl,rfl,Nat.le_refl _,λx _ hne=>⟨rfl,by simp[kset,show x≠b fromλh=>hne (by rw[h])]⟩,λx hx=>by
  cases hx
  exact⟨by omega,λ_ _=>rfl,λh=>by omega⟩⟩
 refine⟨b,kset k b vs.length,e,hw.le,(Array.getElem?_eq_some_iff.1 hh).1,?_,hs.wrote hw (id:=some id) ⟨⟨_,ho⟩,by rw[e]⟩⟩
 rw[RV.cellsAt_iff]
 intro j f hf
 have hj:=(List.getElem?_eq_some_iff.1 hf).1
 rw[List.length_map]at hsz
 have hcj:cur[j]?=some cur[j]:=Array.getElem?_eq_getElem (by omega)
 have h1:=hc j (.r f) cur[j] (by simp[hf]) hcj
 refine⟨by rw[zbp];omega,cur[j],?_,h1.1,RV.mono hw.le f _ h1.2⟩
 rw[Nat.zero_add,cell_of_row w b j cur ty (0,0) hh]
 exact hcj
theorem zhh{id t:Nat}(vs:List RV)(hf:fget S.F t=some (.own id))(ho:oget S.O id=some (.box (vs.map .r))):Sub S ⟨(t, .r (.ptr vs))::S.F,(id,none)::S.O,S.nx⟩:=by
 rintro B N a w k ⟨g,hs⟩
 obtain⟨b,k',hg,hle,hb,hc,h⟩:=hs.pub ho
 have hv:=(hs.facts t _ hf).2
 simp only[TF.at_]at hv
 refine⟨k',g,h.size,h.defers,h.keep,h.kk,λt' f hf'=>?_,h.owns,h.apart⟩
 rcases zav hf' with⟨rfl,rfl⟩ |⟨_,hf'⟩
 ·refine⟨trivial,?_⟩
  simp only[TF.at_,RV.at_]
  exact⟨b,0,by rw[hv,hg],hb,hc⟩
 ·exact h.facts t' f hf'
theorem zmc(hs:SatE B N S a w k g): ∀{xs:List Operand} {vs:List RV},oprs S xs=some vs->RV.partsAt w k vs (xs.map a.eval)
 |[],vs,h=>by simp only[oprs]at h;cases h;rfl
 |x::xs,vs,h=>by
  simp only[oprs]at h
  split at h
  ·rename_i f hf
   split at h
   ·rename_i v vs' hv hvs
    cases h
    simp only[List.map_cons,RV.partsAt]
    exact⟨_,_,rfl,zdg hs hv (zad hs hf).2,zmc hs hvs⟩
   ·cases h
  ·cases h
def entsAt(w:World)(k:Kp)(ents:List (Int×RV))(es:List MapEntry):Prop:=es.length=ents.length/\∀(j:Nat) (x:Int×RV) (e:MapEntry),ents[j]?=some x->es[j]?=some e->e.key= .int .i64 x.1/\x.2.at_ w k e.val
theorem entsAt.mono{w':World}{k':Kp}(h:Le w k w' k'){ents:List (Int×RV)}{es:List MapEntry}(he:entsAt w k ents es):entsAt w' k' ents es:=
 ⟨he.1,λj x e h1 h2=>⟨(he.2 j x e h1 h2).1,RV.mono h _ _ (he.2 j x e h1 h2).2⟩⟩
def stampE(es:Array MapEntry)(c:Nat):Prop:=(∀x∈es.toList,x.born<c)/\(es.toList.map (·.born)).Nodup/\(es.toList.map (·.key)).Nodup
theorem stampE.nil:stampE #[] 0:=⟨λx h=>by simp at h,by simp,by simp⟩
theorem stampE.push{es:Array MapEntry}{c:Nat}{key val:Value}(h:stampE es c)(hk: ∀x∈es.toList,x.key≠key):stampE (es.push {key:=key,val:=val,born:=c}) (c+1):=by
 refine⟨λx hx=>?_,?_,?_⟩
 ·rw[Array.toList_push]at hx
  rcases List.mem_append.1 hx with hx |hx
  ·have:=h.1 x hx;omega
  ·rw[List.mem_singleton.1 hx];exact Nat.lt_succ_self _
 ·rw[Array.toList_push,List.map_append,List.nodup_append]
  refine⟨h.2.1,by simp,λx hx y hy e=>?_⟩
  obtain⟨z,hz,rfl⟩:=List.mem_map.1 hx
  have:=h.1 z hz
  simp at hy
  omega
 ·rw[Array.toList_push,List.map_append,List.nodup_append]
  refine⟨h.2.2,by simp,λx hx y hy e=>?_⟩
  obtain⟨z,hz,rfl⟩:=List.mem_map.1 hx
  simp at hy
  exact hk z hz (e.trans hy)
def mapS(ents:List (Int×RV)):Stable where
 at_ w k v:=(v= .map none/\ents=[])\/∃b es c,v= .map (some b)/\b<w.heap.size/\0<k b/\w.heap[b]?=some (.map es c)/\entsAt w k ents es.toList/\stampE es c
 mono:=by
  rintro w k w' k' v h (h1 |⟨b,es,c,e,hb,hk,hh,he,hst⟩)
  ·exact .inl h1
  ·exact .inr ⟨b,es,c,e,Nat.lt_of_lt_of_le hb h.size,Nat.lt_of_lt_of_le hk (h.keep b hb),h.map b hb hk es c hh,he.mono h,hst⟩
 one:=by
  rintro w k v (⟨rfl,_⟩ |⟨b,es,c,rfl,_⟩)<;>rfl
def mapO(ents:List (Int×RV)):GOw where
 at_ w k vb:=∃b es c,vb=(.map (some b),some b)/\w.heap[b]?=some (.map es c)/\k b=0/\entsAt w k ents es.toList/\stampE es c
 mono:=by
  rintro w k w' k' vb h hb ⟨b,es,c,rfl,hh,hk,he,hst⟩
  have:=hb b rfl
  exact⟨b,es,c,rfl,this.1.trans hh,this.2.trans hk,he.mono h,hst⟩
 one:=by rintro w k vb ⟨b,es,c,rfl,_⟩;rfl
def zcy:List (Int×RV)->Int->Option RV
 |[],_=>none
 |(m,r)::l,n=>if m=n then some r else zcy l n
theorem zsr: ∀{ents:List (Int×RV)} {es:List MapEntry} {n:Int},entsAt w k ents es->zcy ents n=none->∀x∈es,x.key≠ .int .i64 n
 |[],[],n,_,_,x,hx=>by cases hx
 |[],e::es,n,h,_,x,hx=>by have:=h.1;simp at this
 |x::ents,[],n,h,_,y,hy=>by cases hy
 |(m,r)::ents,e::es,n,h,hm,x,hx=>by
  obtain⟨h1,h2⟩:=h.2 0 (m,r) e (by simp) (by simp)
  simp only[zcy]at hm
  split at hm
  ·cases hm
  ·rename_i hne
   rcases List.mem_cons.1 hx with rfl |hx
   ·rw[h1]
    intro e'
    simp at e'
    exact hne e'
   ·exact zsr ⟨by have:=h.1;simpa using this,λj x e h1 h2=>h.2 (j+1) x e (by simpa using h1) (by simpa using h2)⟩ hm x hx
theorem zil{kd:IntKind}{n:Int}: ∀{ents:List (Int×RV)} {es:List MapEntry} (i:Nat),entsAt w k ents es->
  ∃res,Instr.findNow (.int kd) (.int .i64 n) es i=some res/\match zcy ents n with
   |some r=>∃j v,res=some (j,v)/\r.at_ w k v
   |none=>res=none
 |[],[],i,_=>⟨none,rfl,rfl⟩
 |[],e::es,i,h=>by have:=h.1;simp at this
 |x::ents,[],i,h=>by have:=h.1;simp at this
 |(m,r)::ents,e::es,i,h=>by
  obtain⟨h1,h2⟩:=h.2 0 (m,r) e (by simp) (by simp)
  simp only[Instr.findNow,h1,Instr.sameNow,if_true,zcy]
  by_cases hm:m=n
  ·rw[if_pos hm]
   subst hm
   exact⟨some (i,e.val),by simp,i,e.val,rfl,h2⟩
  ·rw[if_neg hm]
   have:(n==m)=false:=by simp;omega
   rw[this]
   simp only
   exact zil (i+1) ⟨by have:=h.1;simpa using this,λj x e h1 h2=>h.2 (j+1) x e (by simpa using h1) (by simpa using h2)⟩
theorem zgu{kt:TypeId}{n:Int}{ents:List (Int×RV)}{es:List MapEntry}(hk:P.underlying kt=some (.int .i64))(he:entsAt w k ents es):
  ∃res,(Instr.findKey kt (.int .i64 n) es).run P w= .ok res w/\match zcy ents n with
   |some r=>∃j v,res=some (j,v)/\r.at_ w k v
   |none=>res=none:=by
 obtain⟨res,h1,h2⟩:=zil (kd:= .i64) (n:=n) 0 he
 exact⟨res,by simp[Instr.findKey,run_underlying hk w,h1],h2⟩
theorem zoz{kt:TypeId}{n:Int}{b:Bool}{m:Nat}(hk:P.underlying kt=some (.int .i64)):(Instr.checkKey b (m+1) kt (.int .i64 n)).run P w= .ok () w:=by
 simp[Instr.checkKey,run_underlying hk w]
theorem zeq{kt:TypeId}{n:Int}{b:Bool}(hk:P.underlying kt=some (.int .i64)):(Instr.checkKey b 10000 kt (.int .i64 n)).run P w= .ok () w:=zoz (m:=9999) hk
theorem zml{t kt et:TypeId}{v:Value}{n:Int}{ok:Bool}{ents:List (Int×RV)}{z:Value}{zr:RV}(hu:P.underlying t=some (.map kt et))(hk:P.underlying kt=some (.int .i64))(hz:(P.info? et).bind (·.zero)=some z)(hzr:zr.at_ w k z)
  (hv:(mapS ents).at_ w k v): ∃u b,(Instr.lookup t v (.int .i64 n) ok).run P w= .ok (if ok then .tuple #[u, .bool b]else u) w/\match zcy ents n with
   |some r=>r.at_ w k u/\b=true
   |none=>zr.at_ w k u/\b=false:=by
 obtain⟨i,hi,hz⟩:=Option.bind_eq_some_iff.1 hz
 have zv:(zeroValue et).run P w= .ok z w:=by simp[zeroValue,typeInfo,hi,hz]
 rcases hv with⟨rfl,rfl⟩ |⟨b,es,c,rfl,_,_,hh,he,_⟩
 ·refine⟨z,false,?_,hzr,rfl⟩
  obtain⟨res,h1,h2⟩:=zgu (n:=n) (k:=k) hk (show entsAt w k [] []from⟨rfl,λj x e h=>by simp at h⟩)
  simp only[zcy]at h2
  subst h2
  simp[Instr.lookup,run_underlying hu w,zeq hk,h1,zv]
 ·obtain⟨res,h1,h2⟩:=zgu (n:=n) hk he
  cases hm:zcy ents n with
  |none=>
   rw[hm]at h2
   simp only at h2
   subst h2
   exact⟨z,false,by simp[Instr.lookup,run_underlying hu w,zeq hk,h1,zv,hh,getObj,Sem.run],hzr,rfl⟩
  |some r=>
   rw[hm]at h2
   obtain⟨j,u,rfl,hr⟩:=h2
   exact⟨u,true,by simp[Instr.lookup,run_underlying hu w,zeq hk,h1,hh,getObj,Sem.run],hr,rfl⟩
theorem Vstep.look2{t kt et:TypeId}{x y:Operand}{n:Int}{ents:List (Int×RV)}{z:Value}{K:St->Prop}(zr:RV)(hop:o.op= .lookup t x y true)(hx:opr S x=some (.r (.s (mapS ents))))(hy:opr S y=some (.r (.i .i64 n)))
  (hu:P.underlying t=some (.map kt et)) (hk:P.underlying kt=some (.int .i64)) (hz:(P.info? et).bind (·.zero)=some z) (hzr: ∀w k,zr.at_ w k z)
  (h1: ∀r,zcy ents n=some r->newK S o.dst (.r (.tu [r, .b true])) none K) (h0:zcy ents n=none->newK S o.dst (.r (.tu [zr, .b false])) none K):Vstep P S o K:=by
 simp only[zas]at h1 h0
 cases hm:zcy ents n with
 |some r=>
  refine Vstep.one (λB N a w k Q ⟨g,hs⟩ hd=>?_) (h1 r hm)
  have hv:=(zad hs hx).2
  have hn:=(zad hs hy).2
  simp only[TF.at_,RV.at_]at hv hn
  obtain⟨u,b,hr,h2⟩:=zml (n:=n) (ok:=true) hu hk hz (hzr w k) hv
  rw[hm]at h2
  refine zau (v:= .tuple #[u, .bool b]) (w':=w) (by simp[execOp,hop,hn,hr]) ⟨k,g,hs.put hd trivial ?_⟩
  simp only[TF.at_,RV.at_]
  exact⟨_,rfl,by simp only[RV.partsAt];exact⟨_,_,rfl,h2.1,_,_,rfl,by simp[RV.at_,h2.2],rfl⟩⟩
 |none=>
  refine Vstep.one (λB N a w k Q ⟨g,hs⟩ hd=>?_) (h0 hm)
  have hv:=(zad hs hx).2
  have hn:=(zad hs hy).2
  simp only[TF.at_,RV.at_]at hv hn
  obtain⟨u,b,hr,h2⟩:=zml (n:=n) (ok:=true) hu hk hz (hzr w k) hv
  rw[hm]at h2
  refine zau (v:= .tuple #[u, .bool b]) (w':=w) (by simp[execOp,hop,hn,hr]) ⟨k,g,hs.put hd trivial ?_⟩
  simp only[TF.at_,RV.at_]
  exact⟨_,rfl,by simp only[RV.partsAt];exact⟨_,_,rfl,h2.1,_,_,rfl,by simp[RV.at_,h2.2],rfl⟩⟩
end
end
section
section
variable {P:Program} {T:TT} {B:Bs} {N:Nat} {S:St} {a:Act} {w:World} {k:Kp} {g:Env} {o:Oper} {Q:Exit->Act->World->Prop}
theorem zlk{m n:Nat}(h:m≠n):Nat.beq m n=false:=by
 cases hb:Nat.beq m n
 ·rfl
 ·exact absurd (Nat.eq_of_beq_eq_true hb) h
end
end
section
section
variable {P:Program} {T:TT} {B:Bs} {N:Nat} {S:St} {a:Act} {w:World} {k:Kp} {g:Env} {o:Oper} {Q:Exit->Act->World->Prop}
theorem chAt.blk{e:TypeId}{sz n:Nat}{cells:List RV}{pub:Bool}{u:Value}{ob:Option Nat}(h:chAt w k e sz n cells pub u ob){b:Nat}(hb:ob=some b):k b=(if pub then n*sz else 0)/\(∃cur,w.heap[b]?=some (.cells cur e (0,0))):=by
 rcases h.2 with⟨h,_⟩ |⟨b',cap,cur,h,_,hh,_,_,_,h',_⟩
 ·rw[h]at hb;cases hb
 ·rw[h]at hb;cases hb;exact⟨h',cur,hh⟩
end
end
section
section
variable {P:Program} {T:TT} {B:Bs} {N:Nat} {S:St} {a:Act} {w:World} {k:Kp} {g:Env} {o:Oper} {Q:Exit->Act->World->Prop}
theorem SatE.reset(hs:SatE B N S a w k g){id:Nat}{ow:Ow}(ho:oget S.O id=some ow):SatE B N (S.set id (some ow)) a w k g:=by
 have up: ∀i o',oget (S.set id (some ow)).O i=some o'->oget S.O i=some o':=λi o' h=>by
  rcases zak h with⟨rfl,e⟩ |⟨_,h⟩
  ·cases e;exact ho
  ·exact h
 exact⟨hs.size,hs.defers,hs.keep,hs.kk,hs.facts,λi o' h=>hs.owns i o' (up i o' h),λi j o1 o2 b hi hj=>hs.apart i j o1 o2 b (up i o1 hi) (up j o2 hj)⟩
end
end
section
section
variable {P:Program} {T:TT} {B:Bs} {N:Nat} {S:St} {a:Act} {w:World} {k:Kp} {g:Env} {o:Oper} {Q:Exit->Act->World->Prop}
abbrev strR(s:ByteArray):List RV:=s.data.toList.map λc=> .i .u8 (c.toNat:Int)
theorem z3e(w:World)(k:Kp)(s:ByteArray):RV.listAt w k (strR s) (Lib.strCells s):=by
 rw[RV.listAt_iff]
 refine⟨by simp[Lib.strCells],λj f u hf hu=>?_⟩
 rw[List.getElem?_map]at hf
 obtain⟨c,hc,rfl⟩:=Option.map_eq_some_iff.1 hf
 simp only[Lib.strCells,List.getElem?_map,hc,Option.map_some,Option.some.injEq]at hu
 subst hu
 exact⟨rfl,by simp[RV.at_]⟩
theorem zrw{t t' ty e:TypeId}{i:TypeInfo}{z:Value}(ht:P.underlying t=some (.slice e))(hu:P.underlying t'=some .string)(hi:P.info? e=some i)(hz:i.zero=some z)
  (hsize:i.size=1) (hby:i.bytes=1) (hzs:z.cells.size=1)
  {n:Nat} {cells:List RV} {pub:Bool} {u:Value} {ob:Option Nat} (hch:chAt w k e 1 n cells pub u ob) (s:ByteArray) (hm:0<s.size) (hbytes:n+s.size<=140737488355328):
  ∃xs b cap cur w',(Builtin.append_ #[t,t'] ty #[u, .string s]).run P w= .ok (.slice (some ⟨b,0,none⟩) (n+s.size) cap) w'/\RV.listAt w k cells xs/\
   w'.heap[b]?=some (.cells cur e (0,0))/\n+s.size<=cap/\cap<=maxLen/\cap*1<=cur.size/\cur.toList.take ((n+s.size)*1)=xs++Lib.strCells s/\w.grownBy w' ob/\(ob=some b\/b=w.heap.size)/\
   (∀b0,ob=some b0->(∃cur0,w.heap[b0]?=some (.cells cur0 e (0,0))/\cur0.toList.take (n*1)=xs)/\(b=b0\/b=w.heap.size/\w'.heap[b0]?=w.heap[b0]?)):=by
 obtain⟨hcl,hch⟩:=hch
 have hl:(Lib.strCells s).length=s.size:=Lib.strCells_length s
 have h63:n+s.size<=maxLen:=by simp only[maxLen];omega
 have fin: ∀(xs:List Value) (old:Nat),xs.length=n->
   (w.drew.alloc (.cells (xs.toArray++(Lib.strCells s).toArray++Builtin.zeroCells z.cells (grownCap w (n+s.size) old e-(n+s.size))) e)).heap[w.heap.size]?=some (.cells (xs.toArray++(Lib.strCells s).toArray++Builtin.zeroCells z.cells (grownCap w (n+s.size) old e-(n+s.size))) e (0,0))/\
   n+s.size<=grownCap w (n+s.size) old e/\grownCap w (n+s.size) old e<=maxLen/\(xs.toArray++(Lib.strCells s).toArray++Builtin.zeroCells z.cells (grownCap w (n+s.size) old e-(n+s.size))).size=grownCap w (n+s.size) old e*1/\
   (xs.toArray++(Lib.strCells s).toArray++Builtin.zeroCells z.cells (grownCap w (n+s.size) old e-(n+s.size))).toList.take ((n+s.size)*1)=xs++Lib.strCells s/\
   ∀row,w.grownBy (w.drew.alloc (.cells (xs.toArray++(Lib.strCells s).toArray++Builtin.zeroCells z.cells (grownCap w (n+s.size) old e-(n+s.size))) e)) row:=λxs old hx=>by
  have hge:=grownCap_ge w (n+s.size) old e
  refine⟨heap_alloc_new w.drew _,hge,grownCap_le_maxLen w (n+s.size) old e h63,?_,?_,λrow=>⟨rfl,rfl,rfl,by simp,λk hk _=>Below.heap_alloc w.drew _ k hk⟩⟩
  ·simp only[Array.size_append,List.size_toArray,size_zeroCells,hzs,hl,hx]
   omega
  ·simp only[Array.toList_append]
   rw[show(n+s.size)*1=(xs++Lib.strCells s).length by rw[List.length_append,hl,hx,Nat.mul_one]]
   exact List.take_left
 rcases hch with⟨rfl,⟨rfl,p,rfl⟩ |⟨hn0,_,b,o,rfl,hnm,hbl,hcell⟩⟩ |⟨b,cap,cur,rfl,rfl,hh,hnc,hcm,hcs,hkb,hlist⟩
 ·have hc0:cells=[]:=List.eq_nil_of_length_eq_zero (by simpa using hcl)
  subst hc0
  cases p with
  |none=>
   have hr:=run_append_nil_string (P:=P) w t t' ty e i z ht hu hi hz s hm (by omega) (by rw[hby];omega)
   have e1:(s.data.map λb=>Value.int .u8 b.toNat)=(Lib.strCells s).toArray:=by
    apply Array.ext'
    simp[Lib.strCells]
   rw[e1]at hr
   obtain⟨f1,f2,f3,f4,f5,f6⟩:=fin [] 0 rfl
   simp only[Nat.zero_add,List.nil_append,Array.empty_append]at f1 f2 f3 f4 f5 f6⊢
   exact⟨[],w.heap.size,_,_,_,hr,by simp[RV.listAt],f1,f2,f3,Nat.le_of_eq f4.symm,f5,f6 _, .inr rfl,λb0 h=>by cases h⟩
  |some p=>
   have hr:=Lib.run_append_grow_string (P:=P) w t t' ty e i z ht hu hi hz p 0 0 [] (by simp) (by simp) s (by omega) (by omega) (growslice_fits (by omega) (by rw[hby];omega))
   obtain⟨f1,f2,f3,f4,f5,f6⟩:=fin [] 0 rfl
   exact⟨[],w.heap.size,_,_,_,hr,by simp[RV.listAt],f1,f2,f3,Nat.le_of_eq f4.symm,f5,f6 _, .inr rfl,λb0 h=>by cases h⟩
 ·obtain⟨xs,hlist,hxl,hcell⟩:=RV.cells_list cells o hcell
  have hr:=Lib.run_append_grow_string (P:=P) w t t' ty e i z ht hu hi hz ⟨b,o,none⟩ n n xs (by rw[hsize,hxl,hcl]) (λj v hj=>by rw[Addr.add_mid];exact hcell j v hj) s (by omega) (by omega) (growslice_fits (by omega) (by rw[hby];omega))
  obtain⟨f1,f2,f3,f4,f5,f6⟩:=fin xs n (by rw[hxl,hcl,Nat.mul_one])
  exact⟨xs,w.heap.size,_,_,_,hr,hlist,f1,f2,f3,Nat.le_of_eq f4.symm,f5,f6 _, .inr rfl,λb0 hb0=>by cases hb0⟩
 ·have hxl:(cur.toList.take (n*1)).length=n:=by rw[zao hlist,hcl,Nat.mul_one]
  have hlt:b<w.heap.size:=(Array.getElem?_eq_some_iff.1 hh).1
  by_cases hfit:n+s.size<=cap
  ·have hr:=Lib.run_append_room_string (P:=P) w t t' ty e i ht hu hi hsize b n cap cur hh s hfit (by omega)
   refine⟨_,b,cap,_,_,hr,hlist,setRow_heap w b cur _ e (0,0) hh,hfit,hcm,?_,?_,⟨rfl,rfl,rfl,by simp[World.setRow],λx hx hne=>setRow_other w b x _ (λh=>hne (by rw[h]))⟩, .inl rfl,λb0 hb0=>?_⟩
   ·simp only[List.size_toArray,List.length_append,List.length_take,hl,List.length_drop,Array.length_toList]
    omega
   ·rw[Nat.mul_one]at hxl⊢
    rw[Nat.mul_one]
    rw[show n+s.size=(cur.toList.take n++Lib.strCells s).length by rw[List.length_append,hxl,hl],List.toList_toArray]
    exact List.take_left
   ·cases hb0
    exact⟨⟨cur,hh,rfl⟩, .inl rfl⟩
  ·have hr:=Lib.run_append_grow_string (P:=P) w t t' ty e i z ht hu hi hz ⟨b,0,none⟩ n cap (cur.toList.take (n*1)) (by rw[hsize,hxl,Nat.mul_one]) (λj v hj=>by
    rw[Addr.add_mid,Nat.zero_add,cell_of_row w b j cur e (0,0) hh]
    rw[List.getElem?_take]at hj
    split at hj
    ·simpa using hj
    ·cases hj) s (by omega) (by omega) (growslice_fits (by omega) (by rw[hby];omega))
   obtain⟨f1,f2,f3,f4,f5,f6⟩:=fin (cur.toList.take (n*1)) cap hxl
   refine⟨_,w.heap.size,_,_,_,hr,hlist,f1,f2,f3,Nat.le_of_eq f4.symm,f5,f6 _, .inr rfl,λb0 hb0=>?_⟩
   cases hb0
   exact⟨⟨cur,hh,rfl⟩, .inr ⟨rfl,Below.heap_alloc w.drew _ b hlt⟩⟩
theorem Vstep.appS{x y:Operand}{t t' e:TypeId}{ti te ts:TI}{f:TF}{id:Option Nat}{n:Nat}{cells:List RV}{pub:Bool}{s:ByteArray}{K:St->Prop}(hT:TOk P T)
  (hop:o.op= .call {callee:= .builtin .append,args:= #[x,y],argTypes:= #[t,t']}) (hti:tget T t=some ti) (hk:ti.k= .slice e) (hte:tget T e=some te) (hke:te.sz=1/\te.bytes=1) (hts:tget T t'=some ts) (hks:ts.k= .str)
  (hx:opr S x=some f) (hl:lhsv S e 1 f=some (id,e,1,n,cells,pub)) (hy:opr S y=some (.r (.x (.string s)))) (hlen:n+s.size<=140737488355328)
  (hK:newK (S.strike id) o.dst (.r .any) (some (.ch e 1 (n+s.size) (cells++strR s) pub)) K):Vstep P S o K:=by
 rw[zas]at hK
 refine Vstep.one (S':=(S.strike id).mk_ o.dst (.ch e 1 (n+s.size) (cells++strR s) pub)) ?_ hK
 rintro B N a w k Q ⟨g,hs⟩ hd
 obtain⟨q,hq⟩:=hT.get hti
 obtain⟨d,hdd,hko,_⟩:=q.desc
 rw[hq,hk]at*
 simp only[KOk]at hko
 subst hko
 obtain⟨qe,hqe⟩:=hT.get hte
 obtain⟨i,hi,hsz,hby,z,hz,hzc⟩:=qe.info
 rw[hqe]at hi
 obtain⟨qs,hqs⟩:=hT.get hts
 obtain⟨ds,hds,hkos,_⟩:=qs.desc
 rw[hqs,hks]at*
 simp only[KOk]at hkos
 subst hkos
 have hy':=(zad hs hy).2
 simp only[TF.at_,RV.at_]at hy'
 obtain⟨ob,hch,hid⟩:=zqn hs hl (zad hs hx).2
 have run: ∀{v:Value} {w':World},(Builtin.append_ #[t,t'] o.type #[a.eval x, .string s]).run P w= .ok v w'->(execOp a.eval o).run P w= .ok (.value v) w':=λ{v w'} hr=>by
  simp[execOp,hop,resolve,invoke,builtin,hy',hr]
 rcases Nat.eq_zero_or_pos s.size with h0 |hm
 ·have hn:strR s=[]:=List.eq_nil_of_length_eq_zero (by rw[List.length_map,Array.length_toList];exact h0)
  have hform: ∃p c,a.eval x= .slice p n c/\n<=c:=by
   rcases hch.2 with⟨_,⟨rfl,p,e⟩ |⟨_,_,b,o',e,_⟩⟩ |⟨b,cap,cur,_,e,_,h1,_⟩
   ·exact⟨p,0,e,Nat.le_refl _⟩
   ·exact⟨_,n,e,Nat.le_refl _⟩
   ·exact⟨_,cap,e,h1⟩
  obtain⟨p,c,hu,hnc⟩:=hform
  rw[hu]at hch run
  have hw:Wrote w k w k ob:=⟨rfl,rfl,rfl,Nat.le_refl _,λ_ _ _=>⟨rfl,rfl⟩,λ_ _=>⟨Nat.le_refl _,λ_ _=>rfl,λ_ _ _ h=>h⟩⟩
  have h1:=hs.wrote hw hid
  have h2:Ow.at_ w k g (.slice p n c,ob) (.ch e 1 (n+s.size) (cells++strR s) pub):=by rw[hn,h0];simpa[Ow.at_]using hch
  have hobs: ∀b,ob=some b->(B.w.heap.size<=b\/b∈B.X)/\b<w.heap.size:=λb hb=>zix hs hid hb
  refine zau (run ?_) ⟨_,_,h1.adopt hd (o:= .ch e 1 (n+s.size) (cells++strR s) pub) (vb:=(.slice p n c,ob)) trivial h2 hobs (λi o' b ho hb=>ziw hs hid ho hb)⟩
  have hf:=Lib.run_firstCells_string (P:=P) w 1 s
  rw[h0]at hf
  have hs0:Lib.strCells s=[]:=List.eq_nil_of_length_eq_zero (by rw[Lib.strCells_length];exact h0)
  rw[hs0]at hf
  cases p<;>simp[Builtin.append_,run_underlying hdd,run_underlying hds,sizeOf,typeInfo,hi,hsz,hke.1,Builtin.lenOf,h0,hf,hnc,storeCells]
 ·obtain⟨xs,b,cap,cur,w',hrun,hxs,hh,h1,h2,h3,h4,hgr,hbb,hb0⟩:=zrw (ty:=o.type) hdd hds hi hz (hsz.trans hke.1) (hby.trans hke.2) (by rw[<-Array.length_toList,hzc,qe.zsz,hke.1]) hch s hm hlen
  obtain⟨k',hsat⟩:=zmy (o:=o) hs hd hch hid (z3e w k s) (by rw[Lib.strCells_length,Nat.mul_one]) hxs hh h1 h2 h3 h4 hgr hbb hb0
  exact zau (run hrun) ⟨k',hsat⟩
theorem zi2(w:World)(dT sT ty elem:TypeId)(sz g o dLen dCap:Nat)(a:Addr)(sLen sCap m:Nat)(cur:Array Value)(t:TypeId)(cs:List Value)
  (hu:P.underlying dT=some (.slice elem)) {i:TypeInfo} (hi:P.info? elem=some i) (hs:i.size=sz)
  (hg:w.heap[g]?=some (.cells cur t (0,0))) (hm:Nat.min sLen dLen=m) (hn:cs.length=m*sz)
  (hsrc: ∀j v,cs[j]?=some v->w.cell? (a.add j)=some v) (hfit:o+cs.length<=cur.size) (h1: ∀v∈cs,v.oneCell'=true):
  (Builtin.copy_ #[dT,sT] ty #[.slice (some ⟨g,o,none⟩) dLen dCap, .slice (some a) sLen sCap]).run P w=
   .ok (goInt (m:Int)) (w.setRow g (cur.toList.take o++cs++cur.toList.drop (o+cs.length)).toArray):=by
 subst hm
 have hl:=run_loadCells_list (P:=P) w a cs hsrc
 have hst:=run_storeCells_at P g o t cs 0 cur w hg (by simpa using hfit) h1
 simp[Builtin.copy_,run_underlying hu,Builtin.lenOf,Builtin.firstCells,sizeOf,typeInfo,hi,hs,<-hn,hl,hst]
theorem zi1(w:World)(dT sT ty elem:TypeId)(p a:Option Addr)(dLen dCap sLen sCap:Nat)(hu:P.underlying dT=some (.slice elem)){i:TypeInfo}(hi:P.info? elem=some i)(hm:Nat.min sLen dLen=0):
  (Builtin.copy_ #[dT,sT] ty #[.slice p dLen dCap, .slice a sLen sCap]).run P w= .ok (goInt ((0:Nat):Int)) w:=by
 have h:min sLen dLen=0:=hm
 cases p<;>cases a<;>simp[Builtin.copy_,run_underlying hu,Builtin.lenOf,Builtin.firstCells,sizeOf,typeInfo,hi,h,loadCells,loadCellsFrom,storeCells]
theorem Vstep.copy{x y:Operand}{t t' e:TypeId}{ti te:TI}{id n m:Nat}{cells ys:List RV}{f:TF}{K:St->Prop}(hT:TOk P T)
  (hop:o.op= .call {callee:= .builtin .copy,args:= #[x,y],argTypes:= #[t,t']}) (hti:tget T t=some ti) (hk:ti.k= .slice e) (hte:tget T e=some te)
  (hx:opr S x=some (.own id)) (ho:oget S.O id=some (.ch e te.sz n cells false)) (hy:opr S y=some f) (hr:rhsv S te.sz f=some (te.sz,m,ys)) {zs:List RV} (hz:ys.take (Nat.min m n*te.sz)++cells.drop (Nat.min m n*te.sz)=zs)
  (hK:newK (S.set id (some (.ch e te.sz n zs false))) o.dst (.r (.i .i64 (Nat.min m n:Nat))) none K):Vstep P S o K:=by
 subst hz
 rw[zas]at hK
 refine Vstep.one (S':=(S.set id (some (.ch e te.sz n (ys.take (Nat.min m n*te.sz)++cells.drop (Nat.min m n*te.sz)) false))).put o.dst (.r (.i .i64 (Nat.min m n:Nat)))) ?_ hK
 rintro B N a w k Q ⟨g,hs⟩ hd
 obtain⟨q,hq⟩:=hT.get hti
 obtain⟨d,hdd,hko,_⟩:=q.desc
 rw[hq,hk]at*
 simp only[KOk]at hko
 subst hko
 obtain⟨qe,hqe⟩:=hT.get hte
 obtain⟨i,hi,hsz,hby,z,hz,hzc⟩:=qe.info
 rw[hqe]at hi
 obtain⟨hid,hlo,hat,_⟩:=hs.owns id _ ho
 have hx':=(zad hs hx).2
 simp only[TF.at_]at hx'
 obtain⟨qa,qc,us,hu2,hus,husl,hsrc⟩:=zmf hs hr (zad hs hy).2
 have hmn:Nat.min m n<=n:=Nat.min_le_right _ _
 have hmm:Nat.min m n<=m:=Nat.min_le_left _ _
 simp only[Ow.at_]at hat
 have run: ∀{v:Value} {w':World},(Builtin.copy_ #[t,t'] o.type #[(g id).1, .slice qa m qc]).run P w= .ok v w'->(execOp a.eval o).run P w= .ok (.value v) w':=λ{v w'} hr=>by
  simp[execOp,hop,resolve,invoke,builtin,hx',hu2,hr]
 have fin: ∀{w':World},SatE B N (S.set id (some (.ch e te.sz n (ys.take (Nat.min m n*te.sz)++cells.drop (Nat.min m n*te.sz)) false))) a w' k g->
   SatE B N ((S.set id (some (.ch e te.sz n (ys.take (Nat.min m n*te.sz)++cells.drop (Nat.min m n*te.sz)) false))).put o.dst (.r (.i .i64 (Nat.min m n:Nat)))) (a.put o.dst (goInt ((Nat.min m n:Nat):Int))) w' k g:=λ{w'} h=>
  h.put hd trivial (by simp[TF.at_,RV.at_,goInt])
 rcases Nat.eq_zero_or_pos (Nat.min m n)with h0 |hpos
 ·have hform: ∃p nn c,(g id).1= .slice p nn c/\nn=n:=by
   rcases hat.2 with⟨_,⟨rfl,p,e⟩ |⟨_,h,_⟩⟩ |⟨b,cap,cur,_,e,_⟩
   ·exact⟨p,0,0,e,rfl⟩
   ·cases h
   ·exact⟨_,n,cap,e,rfl⟩
  obtain⟨p,nn,c,hu,rfl⟩:=hform
  rw[hu]at run
  have hrun:=zi1 (P:=P) w t t' o.type e p qa nn c m qc hdd hi h0
  refine zau (run hrun) ⟨k,g,?_⟩
  have hz:ys.take (Nat.min m nn*te.sz)++cells.drop (Nat.min m nn*te.sz)=cells:=by rw[h0];simp
  rw[hz]at fin⊢
  have:=fin (hs.reset ho)
  rw[h0]at this⊢
  exact this
 ·rcases hat.2 with⟨_,⟨rfl,_⟩ |⟨_,h,_⟩⟩ |⟨b,cap,cur,e1,e2,hh,h1,h2,h3,h4,h5⟩
  ·exact absurd hpos (by simp)
  ·cases h
  ·obtain⟨sb,so,rfl,hcells⟩:=hsrc (by omega)
   have hle:Nat.min m n*te.sz<=m*te.sz:=Nat.mul_le_mul_right _ hmm
   have hle2:Nat.min m n*te.sz<=n*te.sz:=Nat.mul_le_mul_right _ hmn
   have hcc:n*te.sz<=cap*te.sz:=Nat.mul_le_mul_right _ h1
   have hk:k b=0:=by simpa using h4
   have hcl:(us.take (Nat.min m n*te.sz)).length=Nat.min m n*te.sz:=by rw[List.length_take,husl];omega
   have hsub: ∀(j:Nat) (v:Value),(us.take (Nat.min m n*te.sz))[j]?=some v->us[j]?=some v:=λj v hj=>by
    rw[List.getElem?_take]at hj
    split at hj
    ·exact hj
    ·cases hj
   have hnew:RV.listAt w k (ys.take (Nat.min m n*te.sz)) (us.take (Nat.min m n*te.sz)):=zbt hus _
   have hr:=zi2 (P:=P) w t t' o.type e te.sz b 0 n cap ⟨sb,so,none⟩ m qc _ cur e (us.take (Nat.min m n*te.sz)) hdd hi hsz hh rfl hcl (λj v hj=>by rw[Addr.add_mid];exact hcells j v (hsub j v hj)) (by rw[hcl];omega) (λv hv=>by
    obtain⟨j,hj⟩:=List.getElem?_of_mem hv
    have hjl:j< (ys.take (Nat.min m n*te.sz)).length:=by rw[<-zao hnew];exact(List.getElem?_eq_some_iff.1 hj).1
    exact(((RV.listAt_iff _ _).1 hnew).2 j _ v (List.getElem?_eq_getElem hjl) hj).1)
   rw[e2]at run
   have hw:=zfj (k:=k) (cs:=(cur.toList.take 0++us.take (Nat.min m n*te.sz)++cur.toList.drop (0+(us.take (Nat.min m n*te.sz)).length)).toArray) hh hk
   refine zau (run hr) ⟨k,g,fin (hs.redo ho e1 hw trivial ?_)⟩
   simp only[Ow.at_]
   have hyl:ys.length=m*te.sz:=by rw[<-zao hus,husl]
   refine⟨by have:=hat.1;simp only[List.length_append,List.length_take,List.length_drop];omega, .inr ⟨b,cap,_,e1,e2,setRow_heap w b cur _ e (0,0) hh,h1,h2,?_,by simpa using hk,?_⟩⟩
   ·simp only[List.size_toArray,List.length_append,List.length_take,List.length_drop,Array.length_toList,husl];omega
   ·have hnew':=RV.list_mono hw.le _ _ hnew
    have hhi:=zcj (RV.list_mono hw.le _ _ h5) (Nat.min m n*te.sz)
    have hall:=za3 hnew' hhi
    have e:(List.take 0 cur.toList++us.take (Nat.min m n*te.sz)++List.drop (0+(us.take (Nat.min m n*te.sz)).length) cur.toList).take (n*te.sz)=us.take (Nat.min m n*te.sz)++(cur.toList.take (n*te.sz)).drop (Nat.min m n*te.sz):=by
     rw[List.take_zero,List.nil_append,Nat.zero_add,List.take_append,hcl,List.drop_take]
     congr 1
     exact List.take_of_length_le (by rw[hcl];exact hle2)
    rw[List.toList_toArray,e]
    exact hall
end
theorem zbe{S:St}{id:Nat}{e:TypeId}{sz n:Nat}{cells:List RV}(ho:oget S.O id=some (.ch e sz n cells false)):Sub S ⟨S.F,(id,some (.ch e sz n cells true))::S.O,S.nx⟩:=by
 rintro B N a w k ⟨g,hs⟩
 obtain⟨q1,q2,q3,q4⟩:=hs.owns id _ ho
 simp only[Ow.at_]at q3
 let k1:Kp:=match(g id).2 with
  |some b=>kset k b (n*sz)
  |none=>k
 have hw:Wrote w k w k1 (g id).2:=by
  refine⟨rfl,rfl,rfl,Nat.le_refl _,λb hb hne=>⟨rfl,?_⟩,λb hb=>?_⟩
  ·simp only[k1]
   cases hob:(g id).2 with
   |none=>rfl
   |some b'=>simp only[kset];rw[if_neg (λh=>hne (by rw[hob,h]))]
  ·have hkb:=(q3.blk hb.symm).1
   simp only[Bool.false_eq_true,if_false]at hkb
   exact⟨by omega,λ_ _=>rfl,λh=>by omega⟩
 have hle:=hw.le
 have h2:chAt w k1 e sz n cells true (g id).1 (g id).2:=by
  refine⟨q3.1,?_⟩
  rcases q3.2 with⟨h,h' |⟨_,h',_⟩⟩ |⟨b,cap,cur,h1,h2,h3,h4,h5,h6,h7,h8⟩
  ·exact .inl ⟨h, .inl h'⟩
  ·cases h'
  ·refine .inr ⟨b,cap,cur,h1,h2,h3,h4,h5,h6,?_,RV.list_mono hle _ _ h8⟩
   simp only[k1,h1,zbp,if_true]
 have h1:=hs.wrote hw (id:=some id) ⟨⟨_,ho⟩,rfl⟩
 have up: ∀i o',oget ((id,some (Ow.ch e sz n cells true))::S.O) i=some o'->(i=id/\o'= .ch e sz n cells true)\/(id≠i/\oget (S.strike (some id)).O i=some o'):=λi o' h=>by
  rcases zak h with⟨rfl,e'⟩ |⟨hne,h⟩
  ·cases e';exact .inl ⟨rfl,rfl⟩
  ·refine .inr ⟨hne,?_⟩
   simp only[St.strike,St.set,oget]
   split
   ·rename_i hb;exact absurd (Nat.eq_of_beq_eq_true hb) hne
   ·exact h
 refine⟨k1,g,h1.size,h1.defers,h1.keep,h1.kk,h1.facts,λi o' h=>?_,λi j o1 o2 b' hi hj hne hbi=>?_⟩
 ·rcases up i o' h with⟨rfl,rfl⟩ |⟨hne,h⟩
  ·exact⟨q1,trivial,h2,q4⟩
  ·exact h1.owns i o' h
 ·have old: ∀x ox,oget ((id,some (Ow.ch e sz n cells true))::S.O) x=some ox->∃ox',oget S.O x=some ox':=λx ox hx=>by
   rcases zak hx with⟨rfl,_⟩ |⟨_,hx⟩
   ·exact⟨_,ho⟩
   ·exact⟨ox,hx⟩
  obtain⟨p1,hp1⟩:=old i o1 hi
  obtain⟨p2,hp2⟩:=old j o2 hj
  exact hs.apart i j p1 p2 b' hp1 hp2 hne hbi
end
section
abbrev Str(s:ByteArray):RV:= .x (.string s)
abbrev sB(s:ByteArray):List UInt8:=s.data.toList
def keyB(k:List UInt8):List UInt8:=if 64<k.length then shaB k else k
def zcx(k:List UInt8)(w:UInt8):List UInt8:=(List.range 64).map λi=>(keyB k).getD i 0^^^w
def macB(k t:List UInt8):List UInt8:=shaB (zcx k 92++shaB (zcx k 54++t))
theorem zgh(k:List UInt8)(w:UInt8):(zcx k w).length=64:=by simp[zcx]
theorem zey(k t:List UInt8):(macB k t).length=32:=zd7 _
theorem z2p(k:List UInt8):(keyB k).length<=64:=by
 unfold keyB
 split
 ·rw[zd7];omega
 ·omega
theorem z5x(x y:UInt8):IntKind.u8.wrap (((BitVec.ofInt 8 (x.toNat:Int)^^^BitVec.ofInt 8 (y.toNat:Int)).toNat:Nat):Int)=(((x^^^y).toNat:Nat):Int):=by
 have e: ∀z:UInt8,BitVec.ofInt 8 (z.toNat:Int)=z.toBitVec:=λz=>by
  rw[BitVec.ofInt_natCast]
  simp
 rw[e,e]
 have h:=(x^^^y).toNat_lt
 have e2:(x.toBitVec^^^y.toBitVec).toNat=(x^^^y).toNat:=by simp
 rw[e2]
 generalize (x^^^y).toNat=z at h
 simp only[IntKind.wrap]
 simp[IntKind.bits,IntKind.signed]
 omega
theorem Vbits.xor8{a b:Int}{K:Int->Prop}(x y:UInt8)(ha:a=(x.toNat:Int))(hb:b=(y.toNat:Int))(hK:K (((x^^^y).toNat:Nat):Int)):Vbits .u8 .xor a b K:=by
 subst ha;subst hb
 exact⟨_,(z5x x y).symm,hK⟩
def zcf(k:List UInt8)(w:UInt8)(i:Nat):List UInt8:=(List.range 64).map λj=>if j<i then k.getD j 0^^^w else k.getD j 0
theorem zhv(k:List UInt8)(w:UInt8)(i:Nat):(zcf k w i).length=64:=by simp[zcf]
theorem zzh(k:List UInt8)(w:UInt8):zcf (keyB k) w 64=zcx k w:=by
 unfold zcf zcx
 exact List.map_congr_left λj hj=>by rw[if_pos (List.mem_range.1 hj)]
theorem zzj(k:List UInt8)(w:UInt8){i:Nat}(hi:i<64):(zcf k w i)[i]'(by rw[zhv];exact hi)=k.getD i 0:=by simp[zcf]
theorem zzk(k:List UInt8)(w:UInt8){i:Nat}(hi:i<64):(zcf k w i).set i (k.getD i 0^^^w)=zcf k w (i+1):=by
 apply List.ext_getElem
 ·simp[zcf]
 ·intro j h1 h2
  simp only[zcf,List.getElem_set,List.getElem_map,List.getElem_range]
  by_cases h:i=j
  ·subst h;simp
  ·rw[if_neg h]
   by_cases h3:j<i
   ·rw[if_pos h3,if_pos (by omega)]
   ·rw[if_neg h3,if_neg (by omega)]
theorem zn6(k:List UInt8)(w:UInt8)(hk:k.length<=64):(k.map U8).take (Nat.min k.length 64*1)++(List.replicate 64 (RV.i .u8 0)).drop (Nat.min k.length 64*1)=(zcf k w 0).map U8:=by
 have e:Nat.min k.length 64*1=k.length:=by rw[Nat.mul_one];exact Nat.min_eq_left hk
 rw[e]
 apply List.ext_getElem
 ·simp[zcf];omega
 ·intro j h1 h2
  simp only[List.getElem_append,List.length_take,List.length_map,Nat.min_self,List.getElem_take,List.getElem_map,List.getElem_drop,List.getElem_replicate,zcf,List.getElem_range]
  split
  ·rename_i h;simp[List.getD,h]
  ·rename_i h;simp[List.getD,List.getElem?_eq_none (Nat.le_of_not_lt h)]
theorem zbj{α:Type}{f:α->RV}{l:List α}{i:Nat}{x:α}(hi:i<l.length):zej (l.map f) i [f x]=(l.set i x).map f:=by
 unfold zej
 simp only[List.length_cons,List.length_nil,Nat.zero_add]
 rw[<-List.map_take,<-List.map_drop]
 have:l.set i x=l.take i++[x]++l.drop (i+1):=by rw[List.set_eq_take_append_cons_drop,if_pos hi];simp
 rw[this]
 simp
def zs0(k:List UInt8)(w:UInt8)(i:Nat):St:={F:=[(1, .r (U8 w)),(5, .own 0),(18, .r (I 64)),(19, .r (I i))],O:=[(0,some (.ch 5 1 64 ((zcf k w i).map U8) false))],nx:=1}
theorem zzi(k:List UInt8)(w:UInt8):some (Ow.ch 5 1 64 ((zcf (keyB k) w 64).map U8) true)=some (Ow.ch 5 1 (zcx k w).length ((zcx k w).map U8) true):=by rw[zzh,zgh]
theorem zs64:(List.replicate ((64:Int).toNat) ([Value.int .u8 0].map ofC)).flatten=List.replicate 64 (RV.i .u8 0):=by simp[ofC]
theorem zvx(k:List UInt8)(w:UInt8)(hk:k.length<=1000000000):zab Tryz.prog 269 [bs k,U8 w] (bch (zcx k w)):=by
 refine zba (T:=Tab) mixed Tab_ok Tryz.func269 rfl (by kernel_rfl) ?_
 have hkey:=z2p k
 refine zg (λh=>zo ?a) (λh=>zp ?b)
 case' a=>
  simp only[zb]at h
  have hx:shaB ([k].flatMap id)=keyB k:=by unfold keyB;rw[if_pos (by omega)];simp
  refine zu ?_
  refine zd (zt9 [k] (by simp;omega)) ?_
  rw[hx]
  refine⟨rfl,by decide,by decide,by decide,_,_,rfl,zs64,Vpub.own ?_⟩
  refine Vstep.copy (id:=2) Tab_ok rfl rfl rfl rfl rfl rfl rfl rfl (zn6 (keyB k) w hkey) ?_
  refine zw (zs0 (keyB k) w) (λi=>i<=64) (λi=>64-i) 0 (by omega) (zac [(0,2)] rfl ⟨cr,rfl,cr,cr,trivial⟩ ⟨⟨rfl,rfl,rfl,rfl,zm _⟩,trivial⟩) ?_
 case' b=>
  simp only[zb]at h
  have hx:k=keyB k:=by unfold keyB;rw[if_neg (by omega)]
  refine⟨rfl,by decide,by decide,by decide,_,_,rfl,zs64,Vpub.own ?_⟩
  refine Vstep.copy (id:=0) (zs:=(zcf (keyB k) w 0).map U8) Tab_ok rfl rfl rfl rfl rfl rfl rfl rfl (by rw[<-hx];exact zn6 k w (by omega)) ?_
  refine zw (zs0 (keyB k) w) (λi=>i<=64) (λi=>64-i) 0 (by omega) (zac [(0,0)] rfl ⟨cr,rfl,cr,cr,trivial⟩ ⟨⟨rfl,rfl,rfl,rfl,zm _⟩,trivial⟩) ?_
 all_goals
  intro i hi
  refine zg (λh=>zo ?_) (λh=>zp ?_)
  ·simp only[zb]at h
   have hi':i<64:=by omega
   refine Vadr.mk' i rfl hi' ?_
   refine zf (f:=U8 ((keyB k).getD i 0)) (by rw[Nat.mul_one,List.getElem?_map,List.getElem?_eq_getElem (by rw[zhv];exact hi'),zzj _ _ hi'];rfl) ?_
   refine Vbits.xor8 _ _ rfl rfl ?_
   refine Vadr.mk' i rfl hi' ?_
   refine⟨by simp[zhv];omega,(zcf (keyB k) w (i+1)).map U8,?_,?_⟩
   ·rw[<-zzk _ _ hi',Nat.mul_one]
    exact zbj (by rw[zhv];exact hi')
   refine zc (m:=((i+1:Nat):Int)) (by omega) (by omega) ?_
   exact⟨i+1,by omega,by omega,zac [(0,0)] rfl ⟨cr,rfl,cr,cr,trivial⟩ ⟨⟨rfl,rfl,rfl,rfl,zm _⟩,trivial⟩⟩
  ·simp only[zb]at h
   obtain rfl:i=64:=by omega
   refine⟨_,zbe (id:=0) rfl,?_⟩
   exact zzi k w
theorem z0u(key:List UInt8)(parts:List (List UInt8))(hk:key.length<=1000000000)(hp:(parts.flatMap id).length<=10000000000):zab Tryz.prog 225 [bs key,bss parts] (bch (macB key (parts.flatMap id))):=by
 refine zaa (T:=Tab) mixed Tab_ok Tryz.func225 rfl (by kernel_rfl) ?_
 have e1: ∀l:List UInt8,[l].flatMap id=l:=λl=>by simp
 have e2:[zcx key 54,parts.flatMap id].flatMap id=zcx key 54++parts.flatMap id:=by simp
 refine zd (zvx key 54 hk) ?_
 refine zd (zf6 parts (by omega)) ?_
 refine zu ?_
 refine zd (zf6 [zcx key 54,parts.flatMap id] (by rw[e2,List.length_append,zgh];omega)) ?_
 refine zu ?_
 refine zd (zt9 [[zcx key 54,parts.flatMap id].flatMap id] (by rw[e2,e1,List.length_append,zgh];omega)) ?_
 refine zd (zvx key 92 hk) ?_
 refine zu ?_
 refine zd (zt9 [zcx key 92,shaB ([[zcx key 54,parts.flatMap id].flatMap id].flatMap id)] (by simp[zgh,zd7])) ?_
 exact zef (by simp[macB])
end
end Go.Proofs.YtddokcpcpoihmaaGreat.Sx
