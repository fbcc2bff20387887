import Derived.Test.YtkegaaonpekkgaaGreatZSxU
import Derived.Test.YtkegaaonpekkgaaGreatZIb
import Derived.Test.YtkegaaonpekkgaaGreatZEt
import Derived.Test.YtkegaaonpekkgaaGreatZSxV
namespace Go.Proofs.YtkegaaonpekkgaaGreat.Sx
open Go.RowKit
structure Keys (P:Program) (kt:TypeId) {α:Type} (q:α->Value):Prop where
 desc: ∃kd,P.underlying kt=some kd/\∀a b,Instr.sameNow kd (q a) (q b)=some true/\a=b\/Instr.sameNow kd (q a) (q b)=some false/\a≠b
 bits: ∀a,Instr.sameBits 10000 (q a) (q a)=true
 chk: ∀(w:World) (e:Bool) a,(Instr.checkKey e 10000 kt (q a)).run P w= .ok () w
abbrev qI(n:Int):Value:= .int .i64 n
abbrev qS(l:List UInt8):Value:= .string ⟨l.toArray⟩
section
variable {P:Program} {T:TT} {B:Bs} {N:Nat} {S:St} {a:Act} {w:World} {k:Kp} {g:Env} {o:Oper} {Q:Exit->Act->World->Prop}
theorem beqB(x y:List UInt8):((⟨x.toArray⟩:ByteArray)==⟨y.toArray⟩)=decide (x=y):=by
 show((x.toArray:Array UInt8)==y.toArray)=_
 by_cases h:x=y
 ·subst h;simp
 ·simp[h]
theorem zv6{m:Nat}(l:List UInt8):Instr.sameBits m (qS l) (qS l)=true:=by simp[Instr.sameBits,beqB]
theorem z04{kt:TypeId}{v:Value}{b:Bool}{m:Nat}(hk:P.underlying kt=some .string):(Instr.checkKey b (m+1) kt v).run P w= .ok () w:=by
 simp[Instr.checkKey,run_underlying hk w]
theorem zl1{kt:TypeId}(hk:P.underlying kt=some .string):Keys P kt qS:=by
 refine⟨⟨_,hk,λx y=>?_⟩,λx=>zv6 x,λw e x=>z04 (m:=9999) hk⟩
 simp only[Instr.sameNow]
 by_cases h:x=y
 ·exact .inl ⟨by simp[h,beqB],h⟩
 ·exact .inr ⟨by simp[h,beqB],h⟩
section
variable {α:Type} {q:α->Value}
def entsG(q:α->Value)(w:World)(k:Kp):List (α×RV)->List MapEntry->Prop
 |[],es=>es=[]
 |(n,r)::l,es=>∃e t,es=e::t/\e.key=q n/\r.at_ w k e.val/\entsG q w k l t
theorem entsG.mono{w':World}{k':Kp}(h:Le w k w' k'): ∀{l:List (α×RV)} {es:List MapEntry},entsG q w k l es->entsG q w' k' l es
 |[],_,he=>he
 |(n,r)::l,_,⟨e,t,he,h1,h2,h3⟩=>⟨e,t,he,h1,RV.mono h _ _ h2,entsG.mono h h3⟩
theorem entsG.len: ∀{l:List (α×RV)} {es:List MapEntry},entsG q w k l es->es.length=l.length
 |[],_,he=>by simp only[entsG]at he;subst he;rfl
 |(n,r)::l,_,⟨e,t,he,h1,h2,h3⟩=>by subst he;simp[entsG.len h3]
def mapG(q:α->Value)(ents:List (α×RV)):GOw where
 at_ w k vb:=∃b es c,vb=(.map (some b),some b)/\w.heap[b]?=some (.map es c)/\k b=0/\entsG q w k ents es.toList
 mono:=by
  rintro w k w' k' vb h hb ⟨b,es,c,rfl,hh,hk,he⟩
  have:=hb b rfl
  exact⟨b,es,c,rfl,this.1.trans hh,this.2.trans hk,he.mono h⟩
 len:=some ents.length
 lenOk:=by
  rintro w k vb n h ⟨b,es,c,rfl,hh,_,he⟩
  cases h
  exact⟨b,es,c,rfl,hh,by rw[<-Array.length_toList];exact he.len⟩
 one:=by rintro w k vb ⟨b,es,c,rfl,_⟩;rfl
theorem Yld.mapGMk(q:α->Value){t:TypeId}(hop:o.op= .makeMap t none):Yld P S o (S.new o.dst (.own S.nx) (some (.gen (mapG q [])))):=by
 intro B N a w k Q ⟨g,hs⟩ hd
 refine zau (v:= .map (some w.heap.size)) (w':=w.alloc (.map #[] 0)) (by simp[execOp,hop,Instr.makeMap,newObj];rfl) ⟨kset k w.heap.size 0,_,hs.make hd (zcm w _) (λb hb=>zcc b hb) (vb:=(.map (some w.heap.size),some w.heap.size)) (o:= .gen (mapG q [])) trivial ?_ λb hb=>?_⟩
 ·simp only[Ow.at_]
  exact⟨w.heap.size, #[],0,rfl,heap_alloc_new w _,zby,rfl⟩
 ·cases hb
  exact⟨Nat.le_refl _,by simp⟩
theorem Vstep.mapGMk(q:α->Value){t:TypeId}{K:St->Prop}(hop:o.op= .makeMap t none)(hK:newK S o.dst (.own S.nx) (some (.gen (mapG q []))) K):Vstep P S o K:=by
 rw[zaw]at hK
 exact Vstep.one (Yld.mapGMk q hop) hK
end
variable {α:Type} [DecidableEq α] {q:α->Value}
def aget:List (α×RV)->α->Option RV
 |[],_=>none
 |(m,r)::l,n=>if m=n then some r else aget l n
def aput:List (α×RV)->α->RV->List (α×RV)
 |[],n,r=>[(n,r)]
 |(m,s)::l,n,r=>if m=n then(m,r)::l else(m,s)::aput l n r
theorem z3z{kt:TypeId}(hK:Keys P kt q){kd:TypeDesc}(hd: ∀a b,Instr.sameNow kd (q a) (q b)=some true/\a=b\/Instr.sameNow kd (q a) (q b)=some false/\a≠b){n:α}{r:RV}{u:Value}(hr:r.at_ w k u):
  ∀{ents:List (α×RV)} {es:List MapEntry} (i:Nat),entsG q w k ents es->
  (aget ents n=none/\Instr.findNow kd (q n) es i=some none/\∀c:Nat,entsG q w k (aput ents n r) (es++[{key:=q n,val:=u,born:=c}]))\/
  (∃s j v,aget ents n=some s/\Instr.findNow kd (q n) es i=some (some (i+j,v))/\s.at_ w k v/\(es[j]?.map (·.key))=some (q n)/\entsG q w k (aput ents n r) (es.modify j λe=>{e with key:=q n,val:=u}))
 |[],es,i,he=>by
  simp only[entsG]at he
  subst he
  exact .inl ⟨rfl,rfl,λc=>⟨_,[],rfl,rfl,hr,rfl⟩⟩
 |(m,s)::l,es,i,he=>by
  obtain⟨e,t,rfl,h1,h2,h3⟩:=he
  rcases hd n m with⟨hs,rfl⟩ |⟨hs,hne⟩
  ·refine .inr ⟨s,0,e.val,by simp[aget],by simp[Instr.findNow,h1,hs],h2,by simp[h1],?_⟩
   simp only[aput,if_true,List.modify_zero_cons]
   exact⟨_,t,rfl,rfl,hr,h3⟩
  ·have hne': ¬m=n:=λe=>hne e.symm
   simp only[aget,aput,if_neg hne',Instr.findNow,h1,hs]
   rcases z3z hK hd hr (i+1) h3 with⟨g1,g2,g3⟩ |⟨s',j,v,g1,g2,g3,g4,g5⟩
   ·exact .inl ⟨g1,g2,λc=>⟨e,_,rfl,h1,h2,g3 c⟩⟩
   ·refine .inr ⟨s',j+1,v,g1,by rw[g2,Nat.add_right_comm,Nat.add_assoc],g3,by simpa using g4,?_⟩
    rw[List.modify_succ_cons]
    exact⟨e,_,rfl,h1,h2,g5⟩
theorem Vstep.lookG{t kt et:TypeId}{x y:Operand}{id:Nat}{n:α}{ents:List (α×RV)}{z:Value}{f:TF}{K:St->Prop}(zr:RV)(hop:o.op= .lookup t x y false)(hx:opr S x=some (.own id))(ho:oget S.O id=some (.gen (mapG q ents)))(hy:opr S y=some f)(hf:S.rv f=some (ofC (q n)))(hq: ∀w k v,(ofC (q n)).at_ w k v->v=q n)
  (hu:P.underlying t=some (.map kt et)) (hk:Keys P kt q) (hz:(P.info? et).bind (·.zero)=some z) (hzr: ∀w k,zr.at_ w k z)
  (hK:newK S o.dst (.r ((aget ents n).getD zr)) none K):Vstep P S o K:=by
 rw[zaw]at hK
 refine Vstep.one (λB N a w k Q ⟨g,hs⟩ hd=>?_) hK
 have hv:=(zaf hs hx).2
 have hn:=hq _ _ _ (zed hs hf (zaf hs hy).2)
 simp only[TF.at_]at hv
 obtain⟨_,_,hat,_⟩:=hs.owns id _ ho
 simp only[Ow.at_]at hat
 obtain⟨b,es,c,e,hh,hkb,he⟩:=hat
 rw[e]at hv
 obtain⟨i,hi,hz⟩:=Option.bind_eq_some_iff.1 hz
 have zv:(zeroValue et).run P w= .ok z w:=by simp[zeroValue,typeInfo,hi,hz]
 obtain⟨kd,hkd,hd'⟩:=hk.desc
 rcases z3z hk hd' (n:=n) (hzr w k) 0 he with⟨g1,g2,_⟩ |⟨s,j,v,g1,g2,g3,_,_⟩
 ·have hfk:(Instr.findKey kt (q n) es.toList).run P w= .ok none w:=by simp[Instr.findKey,run_underlying hkd w,g2]
  have hrun:(Instr.lookup t (.map (some b)) (q n) false).run P w= .ok z w:=by
   simp[Instr.lookup,run_underlying hu w,hk.chk,hfk,zv,hh,getObj,Sem.run]
  exact zau (v:=z) (w':=w) (by simp[execOp,hop,hv,hn,hrun]) ⟨k,g,hs.put hd trivial (by rw[g1];exact hzr w k)⟩
 ·have hfk:(Instr.findKey kt (q n) es.toList).run P w= .ok (some (0+j,v)) w:=by simp[Instr.findKey,run_underlying hkd w,g2]
  have hrun:(Instr.lookup t (.map (some b)) (q n) false).run P w= .ok v w:=by
   simp[Instr.lookup,run_underlying hu w,hk.chk,hfk,hh,getObj,Sem.run]
  exact zau (v:=v) (w':=w) (by simp[execOp,hop,hv,hn,hrun]) ⟨k,g,hs.put hd trivial (by rw[g1];exact g3)⟩
theorem Vstep.putG{t kt et:TypeId}{x y z:Operand}{id:Nat}{n:α}{ents:List (α×RV)}{f fy:TF}{r:RV}{K:St->Prop}(hop:o.op= .mapUpdate t x y z)(hx:opr S x=some (.own id))(ho:oget S.O id=some (.gen (mapG q ents)))(hy:opr S y=some fy)(hf:S.rv fy=some (ofC (q n)))(hq: ∀w k v,(ofC (q n)).at_ w k v->v=q n)(hz:opr S z=some f)(hr:S.rv f=some r)
  (hu:P.underlying t=some (.map kt et)) (hk:Keys P kt q) (hK:setK S id (some (.gen (mapG q (aput ents n r)))) o.dst K):Vstep P S o K:=by
 rw[zc0]at hK
 refine Vstep.one (λB N a w k Q ⟨g,hs⟩ hd=>?_) hK
 have hv:=(zaf hs hx).2
 have hn:=hq _ _ _ (zed hs hf (zaf hs hy).2)
 have hzv:=zed hs hr (zaf hs hz).2
 simp only[TF.at_]at hv
 obtain⟨_,_,hat,_⟩:=hs.owns id _ ho
 simp only[Ow.at_]at hat
 obtain⟨b,es,c,e,hh,hkb,he⟩:=hat
 rw[e]at hv
 have hb:b<w.heap.size:=(Array.getElem?_eq_some_iff.1 hh).1
 obtain⟨kd,hkd,hd'⟩:=hk.desc
 have fin: ∀(es':Array MapEntry) (c':Nat),entsG q w k (aput ents n r) es'.toList->(Instr.mapUpdate t (.map (some b)) (q n) (a.eval z)).run P w= .ok () {w with heap:=w.heap.setIfInBounds b (.map es' c')}->o.wp P a w (λa' w'=>∃k',Sat B N ((S.set id (some (.gen (mapG q (aput ents n r))))).put o.dst (.r .any)) a' w' k') Q:=λes' c' hen hrun=>by
  let w':World:={w with heap:=w.heap.setIfInBounds b (.map es' c')}
  have hw:Wrote w k w' k (some b):=⟨rfl,rfl,rfl,by simp[w'],λx _ hne=>⟨by simp only[w'];rw[Array.getElem?_setIfInBounds_ne (λh=>hne (by rw[h]))],rfl⟩,λx hx=>by
   cases hx
   exact⟨Nat.le_refl _,λo ho=>by omega,λh=>by omega⟩⟩
  have hnew:(Ow.gen (mapG q (aput ents n r))).at_ w' k g (g id):=by
   simp only[Ow.at_]
   exact⟨b,es',c',e,by simp only[w'];rw[Array.getElem?_setIfInBounds_self_of_lt hb],hkb,hen.mono hw.le⟩
  exact zq1 (w':=w') (by simp[execOp,hop,hv,hn,hrun,w']) ⟨k,g,(hs.redo (ow':= .gen (mapG q (aput ents n r))) ho (by rw[e]) hw trivial hnew).drop⟩
 rcases z3z hk hd' (n:=n) hzv 0 he with⟨g1,g2,g3⟩ |⟨s,j,v,g1,g2,_,g4,g5⟩
 ·have hfk:(Instr.findKey kt (q n) es.toList).run P w= .ok none w:=by simp[Instr.findKey,run_underlying hkd w,g2]
  refine fin (es.push {key:=q n,val:=a.eval z,born:=c}) (c+1) (by rw[Array.toList_push];exact g3 c) ?_
  simp[Instr.mapUpdate,run_underlying hu w,hk.chk,hfk,hh,getObj,setObj,Sem.run]
 ·have hfk:(Instr.findKey kt (q n) es.toList).run P w= .ok (some (0+j,v)) w:=by simp[Instr.findKey,run_underlying hkd w,g2]
  refine fin (es.modify j λe=>{e with key:=q n,val:=a.eval z}) c (by rw[Array.toList_modify];exact g5) ?_
  have hkey:((es[j]?).map (·.key))=some (q n):=by rw[<-Array.getElem?_toList];exact g4
  have hst:(Instr.keyThatStays (q n) (q n)).run P w= .ok (q n) w:=by simp[Instr.keyThatStays,hk.bits]
  simp[Instr.mapUpdate,run_underlying hu w,hk.chk,hfk,hh,getObj,setObj,Sem.run,hkey,hst]
end
theorem z09{S:St}{t im gh:Nat}{m:Value}{ents:List (Int×RV)}(ho:oget S.O im=some (.gen (mapO ents)))(hgh:fget S.F gh=some (.nm im m))(ht:fget S.F t=some (.r (.x m))):Sub S ⟨(t, .r (.s (mapS ents)))::S.F,(im,none)::S.O,S.nx⟩:=by
 rintro B N a w k ⟨g0,h0⟩
 have hv:=(h0.facts t _ ht).2
 simp only[TF.at_,RV.at_]at hv
 obtain⟨k',⟨g,hs⟩,hat,_⟩:=zpv ho hgh ⟨g0,h0⟩
 refine⟨k',g,hs.size,hs.defers,hs.keep,hs.kk,λt' f hf=>?_,hs.owns,hs.apart⟩
 rcases zay hf with⟨rfl,rfl⟩ |⟨_,hf⟩
 ·exact⟨trivial,by simp only[TF.at_,RV.at_];rw[hv];exact hat⟩
 ·exact hs.facts t' f hf
theorem zpu{S:St}{j i id gh:Nat}{m:Value}{ow:Ow}{cells:List TF}(ho:oget S.O id=some ow)(hgh:fget S.F gh=some (.nm id m))(hj:oget S.O j=some (.box cells))(hi:cells[i]?=some (.r (.x m))):Sub S ⟨S.F,(j,some (.box (cells.set i (.own id))))::S.O,S.nx⟩:=by
 rintro B N a w k ⟨g,hs⟩
 have hnm:=(hs.facts gh _ hgh).2
 simp only[TF.at_]at hnm
 obtain⟨q1,q2,q3,q4⟩:=hs.owns j _ hj
 have hlo:=(hs.owns id _ ho).1
 have hnew:(Ow.box (cells.set i (.own id))).at_ w k g (g j):=by
  simp only[Ow.at_]at q3⊢
  obtain⟨b,cur,t,e1,e2,e3,e4,e5⟩:=q3
  refine⟨b,cur,t,e1,e2,e3,by rw[List.length_set];exact e4,λx f u hf hu=>?_⟩
  by_cases hx:i=x
  ·subst hx
   have hil:=(List.getElem?_eq_some_iff.1 hi).1
   rw[List.getElem?_set_self hil]at hf
   cases hf
   have h0:=e5 i _ u hi hu
   refine⟨h0.1,?_⟩
   have h1:=h0.2
   simp only[TF.at_,RV.at_]at h1⊢
   rw[h1,hnm]
  ·rw[List.getElem?_set_ne hx]at hf
   exact e5 x f u hf hu
 have hlt:(Ow.box (cells.set i (.own id))).lt S.nx:=λf hf=>by
  rcases List.mem_or_eq_of_mem_set hf with hf |rfl
  ·exact q2 f hf
  ·exact hlo
 have up: ∀x o',oget ((j,some (Ow.box (cells.set i (.own id))))::S.O) x=some o'->(x=j/\o'= .box (cells.set i (.own id)))\/(j≠x/\oget S.O x=some o'):=λx o' h=>by
  rcases zas h with⟨rfl,e⟩ |⟨hne,h⟩
  ·cases e;exact .inl ⟨rfl,rfl⟩
  ·exact .inr ⟨hne,h⟩
 have old: ∀x ox,oget ((j,some (Ow.box (cells.set i (.own id))))::S.O) x=some ox->∃ox',oget S.O x=some ox':=λx ox hx=>by
  rcases up x ox hx with⟨rfl,_⟩ |⟨_,hx⟩
  ·exact⟨_,hj⟩
  ·exact⟨ox,hx⟩
 refine⟨k,g,hs.size,hs.defers,hs.keep,hs.kk,hs.facts,λx o' hx=>?_,λx y o1 o2 b' hx hy hne hbx=>?_⟩
 ·rcases up x o' hx with⟨rfl,rfl⟩ |⟨_,hx⟩
  ·exact⟨q1,hlt,hnew,q4⟩
  ·exact hs.owns x o' hx
 ·obtain⟨p1,hp1⟩:=old x o1 hx
  obtain⟨p2,hp2⟩:=old y o2 hy
  exact hs.apart x y p1 p2 b' hp1 hp2 hne hbx
theorem Vstep.mapGMkN{P:Program}{S:St}{o:Oper}{α:Type}(q:α->Value){t:TypeId}{K:St->Prop}(gh:Nat)(hop:o.op= .makeMap t none)(hK: ∀b:Nat,newK ⟨(gh, .nm S.nx (.map (some b)))::S.F,(S.nx,some (.gen (mapG q [])))::S.O,S.nx+1⟩ o.dst (.r (.x (.map (some b)))) none K):Vstep P S o K:=by
 simp only[zaw]at hK
 refine⟨Nat,_,λB N a w k Q hs0 hd=>Oper.wp_mono ?_ (show o.wp P a w (λa' w'=>∃b k',Sat B N (St.put ⟨(gh, .nm S.nx (.map (some b)))::S.F,(S.nx,some (.gen (mapG q [])))::S.O,S.nx+1⟩ o.dst (.r (.x (.map (some b))))) a' w' k') Q from ?_),hK⟩
 ·rintro a' w' ⟨b,k',h⟩;exact⟨b,k',h⟩
 obtain⟨g,hs⟩:=hs0
 refine zau (v:= .map (some w.heap.size)) (w':=w.alloc (.map #[] 0)) (by simp[execOp,hop,Instr.makeMap,newObj];rfl) ⟨w.heap.size,kset k w.heap.size 0,?_⟩
 have hat:Ow.at_ (w.alloc (.map #[] 0)) (kset k w.heap.size 0) g (.map (some w.heap.size),some w.heap.size) (.gen (mapG q [])):=by
  simp only[Ow.at_]
  exact⟨w.heap.size, #[],0,rfl,heap_alloc_new w _,zby,rfl⟩
 have h:=hs.make (dst:=none) (λd e=>by cases e) (zcm w (.map #[] 0)) (λb hb=>zcc b hb) (vb:=(.map (some w.heap.size),some w.heap.size)) (o:= .gen (mapG q [])) trivial hat (λb hb=>by
  cases hb
  exact⟨Nat.le_refl _,by simp⟩)
 have h2:SatE B N ⟨(gh, .nm S.nx (.map (some w.heap.size)))::S.F,(S.nx,some (.gen (mapG q [])))::S.O,S.nx+1⟩ a (w.alloc (.map #[] 0)) (kset k w.heap.size 0) (g.set S.nx (.map (some w.heap.size),some w.heap.size)):=by
  refine⟨h.size,h.defers,h.keep,h.kk,λt' f hf=>?_,h.owns,h.apart⟩
  rcases zay hf with⟨rfl,rfl⟩ |⟨_,hf⟩
  ·exact⟨Nat.lt_succ_self _,by simp only[TF.at_,Env.set_eq]⟩
  ·exact h.facts t' f hf
 exact⟨_,h2.put hd trivial (by simp only[TF.at_,RV.at_])⟩
theorem zk8:Tryz.prog.underlying 325=some (.map 9 3):=by kernel_rfl
theorem zsj:Tryz.prog.underlying 9=some .string:=by kernel_rfl
theorem za1b:(Tryz.prog.info? 3).bind (·.zero)=some (.int .i64 0):=by kernel_rfl
theorem zsa(n:List UInt8): ∀(w:World) (k:Kp) (v:Value),(ofC (qS n)).at_ w k v->v=qS n:=λw k v h=>by simpa[ofC,RV.at_]using h
abbrev az1(lf:Leaf)(i:Bool):St:=⟨[(0, .r (nods [L1 lf])),(3, .own 2),(4, .r (cond i (I 1) (I 0))),(10, .r (nods [L1 lf])),(11, .r (I 1)),(12, .r (cond i (I 1) (I 0)))],[(0,some (.gen (mapG qS (cond i [(lf.ident,I 1)] [])))),(1,some (.gen (mapG qS (cond i [(lf.sign,I 1)] [])))),(2,some (.box [.own 0, .own 1]))],3⟩
abbrev azF(lf:Leaf)(b1 b2:Nat):List (Nat×TF):=[(0, .r (nods [L1 lf])),(3, .own 2),(4, .r (I 0)),(10, .r (nods [L1 lf])),(11, .r (I 1)),(12, .r (I 0)),(1000001, .nm 0 (.map (some b1))),(1000002, .nm 1 (.map (some b2)))]
abbrev azG:List (Nat×Option Ow):=[(0,some (.gen (mapG (α:=List UInt8) qS []))),(1,some (.gen (mapG (α:=List UInt8) qS [])))]
abbrev azS(lf:Leaf)(b1 b2:Nat):St:=⟨azF lf b1 b2,azG++[(2,some (.box [.r (.x (.map (some b1))), .r (.x (.map (some b2)))]))],3⟩
theorem zm3b(lf:Leaf)(b1 b2:Nat):Sub (azS lf b1 b2) (az1 lf false):=
 (zpu (S:=azS lf b1 b2) (j:=2) (i:=0) (id:=0) (gh:=1000001) (cells:=[.r (.x (.map (some b1))), .r (.x (.map (some b2)))]) rfl rfl rfl rfl).trans
  ((zpu (S:=⟨azF lf b1 b2,(2,some (.box [.own 0, .r (.x (.map (some b2)))]))::(azS lf b1 b2).O,3⟩) (j:=2) (i:=1) (id:=1) (gh:=1000002) (cells:=[.own 0, .r (.x (.map (some b2)))]) rfl rfl rfl rfl).trans
  (zac (S:=⟨azF lf b1 b2,(2,some (.box [.own 0, .own 1]))::(2,some (.box [.own 0, .r (.x (.map (some b2)))]))::(azS lf b1 b2).O,3⟩) [(0,0),(1,1),(2,2)] rfl ⟨cr,rfl,cr,cr,cr,cr,trivial⟩ ⟨λ_ _ _ hh=>hh,λ_ _ _ hh=>hh,⟨_,_,rfl,rfl,_,_,rfl,rfl,rfl⟩,trivial⟩))
set_option maxHeartbeats 1000000 in
theorem zbyb(lf:Leaf):aG 180 [nods [L1 lf]] (.r (.b true)):=by
 refine aT Tryz.func180 rfl ?_
 refine Vcode.run Tab_ok ?_
 refine Vstep.mapGMkN qS 1000001 rfl λb1=>?_
 refine Vstep.mapGMkN qS 1000002 rfl λb2=>?_
 refine zy (az1 lf) (λ_=>True) (λi=>cond i 0 1) false trivial (Sub.trans (zac (S':=azS lf b1 b2) [(0,0),(1,1),(2,2)] rfl ⟨cr,rfl,cr,cr,cr,cr,⟨rfl,rfl⟩,⟨rfl,rfl⟩,trivial⟩ ⟨λ_ _ _ hh=>hh,λ_ _ _ hh=>hh,(aB aZ),trivial⟩) (zm3b lf b1 b2)) ?_
 rintro(_ |_) _
 ·refine zt rfl (zp ?_)
  refine zm i00 i01 (idx0 lf) ?_
  refine za rfl rfl ?_
  refine zu rfl (zq ?_)
  refine zd (m:=1) rfl (by decide) ?_
  refine Vadr.mk' 0 rfl (by decide) ?_
  refine Vfun.str rfl rfl ?_
  refine Vstep.lookG (q:=qS) (n:=lf.ident) (I 0) rfl rfl rfl rfl rfl (zsa _) zk8 (zl1 zsj) za1b (λ_ _=>by simp[RV.at_]) ?_
  refine zd (m:=1) rfl (by decide) ?_
  refine Vstep.putG (q:=qS) (n:=lf.ident) rfl rfl rfl rfl rfl (zsa _) rfl rfl zk8 (zl1 zsj) ?_
  refine Vadr.mk' 1 rfl (by decide) ?_
  refine Vfun.str rfl rfl ?_
  refine Vstep.lookG (q:=qS) (n:=lf.sign) (I 0) rfl rfl rfl rfl rfl (zsa _) zk8 (zl1 zsj) za1b (λ_ _=>by simp[RV.at_]) ?_
  refine zd (m:=1) rfl (by decide) ?_
  refine Vstep.putG (q:=qS) (n:=lf.sign) rfl rfl rfl rfl rfl (zsa _) rfl rfl zk8 (zl1 zsj) ?_
  refine zd (m:=1) rfl (by decide) ?_
  exact⟨true,trivial,by decide,zac [(0,0),(1,1),(2,2)] rfl ⟨cr,rfl,cr,cr,cr,cr,trivial⟩ ⟨λ_ _ _ hh=>hh,λ_ _ _ hh=>hh,⟨_,_,rfl,rfl,_,_,rfl,rfl,rfl⟩,trivial⟩⟩
 ·refine zu rfl (zq ?_)
  refine Vadr.mk' 0 rfl (by decide) ?_
  refine⟨⟨_,_,zk8⟩,?_⟩
  refine zt rfl ?_
  refine Vadr.mk' 1 rfl (by decide) ?_
  refine⟨⟨_,_,zk8⟩,?_⟩
  refine zt rfl ?_
  exact cr
section
variable {P:Program} {T:TT} {B:Bs} {N:Nat} {S0:St} {a:Act} {w:World} {k:Kp} {g:Env} {Q:Exit->Act->World->Prop} {res:RS}
def shE(n:Nat)(e:Edge):Edge:={e with on:=e.on-n}
def shG(n:Nat):Option (Nat×Bool)->Option (Nat×Bool)
 |none=>none
 |some (j,w)=>some (j-n,w)
def shO(n:Nat)(o:Oper):Oper:={o with after:=((o.after.toList.filter λe=>Nat.ble n e.on).map (shE n)).toArray,guard:=shG n o.guard}
theorem zmjb(n:Nat)(o:Oper)(K:Act->World->Prop):(shO n o).wp P a w K Q=o.wp P a w K Q:=rfl
theorem zdtb(n:Nat)(o:Oper):(shO n o).asks P a w=o.asks P a w:=rfl
theorem zwv(n:Nat)(e:Edge):Region.binds .any (shE n e)=Region.binds .any e:=rfl
theorem zd0{l:Array Bool}{j:Nat}(h:j<l.size):(l.getD j true=false↔¬l.getD j false=true):=by simp[h]
theorem zg5{l:Array Bool}{i j:Nat}(h:i<l.size):(l.setIfInBounds i true).getD j false=true↔(l.getD j false=true\/j=i):=by
 by_cases hji:j=i
 ·subst hji;simp[h]
 ·have:i≠j:=λe=>hji e.symm
  simp[Array.getElem?_setIfInBounds_ne this,hji]
theorem zaeb{l:Array Bool}{i fuel:Nat}(h:i<l.size)(hn: ¬l.getD i false=true)(hc:l.toList.count false=fuel+1):(l.setIfInBounds i true).toList.count false=fuel:=by
 have hlt:i<l.toList.length:=by rw[Array.length_toList];exact h
 have hv:l.toList[i]=false:=by
  have:l[i]?=some l[i]:=Array.getElem?_eq_getElem h
  simp[h]at hn
  simpa using hn
 rw[Array.toList_setIfInBounds,List.count_set hlt,hc,hv]
 simp
theorem zpx{big:List Oper}{n:Nat}(hg: ∀i o j want,n<=i->big[i]?=some o->o.guard=some (j,want)->n<=j):
  ∀(fuel:Nat) (listed listed':Array Bool) (a:Act) (w:World),listed.size=big.length->listed'.size=big.length-n->n<=big.length->(∀j,j<n->listed.getD j false=true)->(∀i,listed.getD (n+i) false=listed'.getD i false)->
   wpAny P .any ((big.drop n).map (shO n)).toArray Q fuel listed' a w->wpAny P .any big.toArray Q fuel listed a w:=by
 intro fuel
 have hop: ∀i o,big[n+i]?=some o->((big.drop n).map (shO n)).toArray[i]?=some (shO n o):=λi o h=>by simp[h]
 have down: ∀(listed listed':Array Bool),listed.size=big.length->listed'.size=big.length-n->n<=big.length->(∀j,j<n->listed.getD j false=true)->(∀i,listed.getD (n+i) false=listed'.getD i false)->∀x,x∈Region.ready .any big.toArray listed↔∃i,x=n+i/\i∈Region.ready .any ((big.drop n).map (shO n)).toArray listed':=by
  intro listed listed' h1 h2 h3 h4 h5 x
  rw[mem_ready]
  constructor
  ·rintro⟨hx,o,ho,he⟩
   have hxl:x<big.length:=by have:=(Array.getElem?_eq_some_iff.1 ho).1;simpa using this
   have hxn:n<=x:=Nat.le_of_not_lt λhlt=>(zd0 (by omega)).1 hx (h4 x hlt)
   obtain⟨i,rfl⟩:=Nat.exists_eq_add_of_le hxn
   refine⟨i,rfl,mem_ready.2 ⟨?_,shO n o,hop i o (by simpa using ho),λe' he' hb=>?_⟩⟩
   ·rw[zd0 (by omega)]
    rw[<-h5 i]
    exact(zd0 (by omega)).1 hx
   ·simp only[shO,List.mem_toArray,List.mem_map,List.mem_filter]at he'
    obtain⟨e,⟨hea,hen⟩,rfl⟩:=he'
    have hne:n<=e.on:=Nat.le_of_ble_eq_true hen
    have:=he e (by simpa using hea) (by rw[<-zwv n e];exact hb)
    show listed'.getD (e.on-n) false=true
    rw[<-h5,show n+(e.on-n)=e.on by omega]
    exact this
  ·rintro⟨i,rfl,hi⟩
   obtain⟨hx,o',ho',he'⟩:=mem_ready.1 hi
   have hil:i<big.length-n:=by have:=(Array.getElem?_eq_some_iff.1 ho').1;simpa using this
   have hb:big[n+i]?=some big[n+i]:=List.getElem?_eq_getElem (by omega)
   have:=hop i _ hb
   rw[this]at ho'
   cases ho'
   refine⟨?_,big[n+i],by simp,λe he hbd=>?_⟩
   ·rw[zd0 (by omega),h5 i]
    exact(zd0 (by omega)).1 hx
   ·rcases Nat.lt_or_ge e.on n with hlt |hge
    ·exact h4 _ hlt
    ·have:=he' (shE n e) (by simp only[shO,List.mem_toArray,List.mem_map,List.mem_filter];exact⟨e,⟨by simpa using he,Nat.ble_eq_true_of_le hge⟩,rfl⟩) (by rw[zwv];exact hbd)
     have e2:(shE n e).on=e.on-n:=rfl
     rw[e2,<-h5,show n+(e.on-n)=e.on by omega]at this
     exact this
 have emp: ∀(listed listed':Array Bool),listed.size=big.length->listed'.size=big.length-n->n<=big.length->(∀j,j<n->listed.getD j false=true)->(∀i,listed.getD (n+i) false=listed'.getD i false)->(Region.ready .any big.toArray listed=[]↔Region.ready .any ((big.drop n).map (shO n)).toArray listed'=[]):=by
  intro listed listed' h1 h2 h3 h4 h5
  constructor
  ·intro h
   refine List.eq_nil_iff_forall_not_mem.2 λi hi=>?_
   have:=(down listed listed' h1 h2 h3 h4 h5 (n+i)).2 ⟨i,rfl,hi⟩
   rw[h]at this
   cases this
  ·intro h
   refine List.eq_nil_iff_forall_not_mem.2 λx hx=>?_
   obtain⟨i,_,hi⟩:=(down listed listed' h1 h2 h3 h4 h5 x).1 hx
   rw[h]at hi
   cases hi
 induction fuel with
 |zero=>
  intro listed listed' a w h1 h2 h3 h4 h5 h
  exact⟨(emp listed listed' h1 h2 h3 h4 h5).2 h.1,h.2⟩
 |succ fuel ih=>
  intro listed listed' a w h1 h2 h3 h4 h5 h
  refine⟨λhe=>h.1 ((emp listed listed' h1 h2 h3 h4 h5).1 he),λx hx=>?_⟩
  obtain⟨i,rfl,hi⟩:=(down listed listed' h1 h2 h3 h4 h5 x).1 hx
  have hw:=h.2 i hi
  obtain⟨_,o',ho',_⟩:=mem_ready.1 hi
  have hil:i<big.length-n:=by have:=(Array.getElem?_eq_some_iff.1 ho').1;simpa using this
  have hb:big[n+i]?=some big[n+i]:=List.getElem?_eq_getElem (by omega)
  have ho:=hop i _ hb
  have next: ∀a' w',wpAny P .any ((big.drop n).map (shO n)).toArray Q fuel (listed'.setIfInBounds i true) a' w'->wpAny P .any big.toArray Q fuel (listed.setIfInBounds (n+i) true) a' w':=λa' w' hh=>by
   refine ih _ _ a' w' (by simpa using h1) (by simpa using h2) h3 (λj hj=>(zg5 (by omega)).2 (.inl (h4 j hj))) (λi'=>?_) hh
   rw[Bool.eq_iff_iff,zg5 (by omega),zg5 (by omega),h5 i']
   constructor
   ·rintro(h |h)
    ·exact .inl h
    ·exact .inr (by omega)
   ·rintro(h |h)
    ·exact .inl h
    ·exact .inr (by omega)
  unfold wpOp at hw⊢
  rw[ho]at hw
  have hba:big.toArray[n+i]?=some big[n+i]:=by simp
  rw[hba]
  simp only at hw⊢
  have hwant:Region.wanted (shO n big[n+i]) (yielded ((big.drop n).map (shO n)).toArray a.tmps)=Region.wanted big[n+i] (yielded big.toArray a.tmps):=by
   unfold Region.wanted
   have e:(shO n big[n+i]).guard=shG n big[n+i].guard:=rfl
   rw[e]
   cases hgd:big[n+i].guard with
   |none=>rfl
   |some q=>
    obtain⟨j,want⟩:=q
    have hnj:=hg (n+i) _ j want (by omega) hb hgd
    simp only[shG]
    have:yielded ((big.drop n).map (shO n)).toArray a.tmps (j-n)=yielded big.toArray a.tmps j:=by
     unfold yielded
     have e1:(((big.drop n).map (shO n)).toArray[j-n]?).bind (·.dst)=(big.toArray[j]?).bind (·.dst):=by
      simp only[List.getElem?_toArray,List.getElem?_map,List.getElem?_drop,show n+(j-n)=j by omega]
      cases big[j]?<;>rfl
     rw[e1]
    rw[this]
  rw[hwant]at hw
  split
  ·rename_i hw1
   rw[if_pos hw1]at hw
   rw[zmjb,zdtb]at hw
   exact hw.imp (Oper.wp_mono next) id
  ·rename_i hw1
   rw[if_neg hw1]at hw
   exact next _ _ hw
theorem z0h(hm:P.follows .mixedOrders=true)(hT:TOk P T){ops:List Oper}{S:St}(hN: ∀o∈ops,∀d,o.dst=some d->d<N){K:St->Prop}(hs:Sat B N S a w k)(hok:zga ops=true)
  (h:rund P T ops (zam [] ops) S.nx 0 ops S [] [] K) (hQ: ∀S' a' w' k',K S'->Sat B N S' a' w' k'->Q .normal a' w'):wpAny P .any ops.toArray Q ops.length (Array.replicate ops.length false) a w:=by
 obtain⟨res,_,hstp,hend,hrun⟩:=zmi (l:=ops) (S0:=S) (K:=K) ops 0 (λ_=>(.r .any,none)) rfl h
 simp only[Nat.zero_add]at hstp hrun hend
 have hL:=zyf hok
 obtain⟨g,hs⟩:=hs
 have h0: ∀i o,oget S.O i=some o->i<S.nx:=λi o ho=>(hs.owns i o ho).1
 have hnx:S.nx<=idAt ops S res (zbr ops):=by
  have:=zei (l:=ops) (S0:=S) (res:=res) (Nat.zero_le (zbr ops)) hL.le
  simpa only[idAt,Ls]using this
 have hf: ∀j,¬(Array.replicate ops.length false).getD j false=true:=λj=>by by_cases hlt:j<ops.length<;>simp[hlt]
 refine zw1 (Q:=Q) (B:=B) (N:=N) hm hT hN hL (λj hj=>hstp j (Nat.zero_le _) hj) h0 hend hrun hQ ops.length (Array.replicate ops.length false) a w (by simp) (by simp) (λi o hi=>absurd hi (hf i)) (.inl ⟨k,g,fget S.F,oget S.O,?_⟩)
 refine⟨hs.toF hnx,⟨λj t hj=>absurd hj (hf j),λt _=>rfl,λj o hj=>absurd hj (hf j),λi _=>rfl⟩,λt f hf' i hi=> .inl ?_,λi o ho j hj=> .inl ?_,λx o e=>(by cases e),λi _ hh=>absurd hh (hf i)⟩
 ·have:=(hs.facts t f hf').1
  cases f<;>simp[zaj]at hi<;>subst hi<;>exact this
 ·have:=(hs.owns i o ho).2.1
  cases o with
  |ch=>simp[zbs]at hj
  |gen=>simp[zbs]at hj
  |box cells=>
   obtain⟨f,hf,hid⟩:=List.mem_flatMap.1 hj
   have:=this f hf
   cases f<;>simp[zaj]at hid<;>subst hid<;>exact this
def idxB:List Nat->Nat->Nat
 |[],_=>0
 |x::r,i=>match Nat.beq x i with
  |true=>0
  |false=>idxB r i+1
def perE(p:List Nat)(e:Edge):Edge:={e with on:=idxB p e.on}
def perG(p:List Nat):Option (Nat×Bool)->Option (Nat×Bool)
 |none=>none
 |some (j,w)=>some (idxB p j,w)
def perO(p:List Nat)(k:Nat)(o:Oper):Oper:={o with after:=((o.after.toList.map (perE p)).filter λe=>Nat.blt e.on k).toArray,guard:=perG p o.guard}
def zen(p:List Nat)(ops:List Oper):Nat->List Nat->List Oper
 |_,[]=>[]
 |k,i::r=>(match lget ops i with
  |some o=>perO p k o
  |none=>default)::zen p ops (k+1) r
def perB(p:List Nat)(ops:List Oper):Bool:=
 Nat.beq p.length ops.length&&(zey p&&(allB (λi=>Nat.blt i ops.length) p&&(allB (λi=>memB i p) (List.range ops.length)&&
 allB (λi=>match lget ops i with
  |none=>false
  |some o=>allB (λe=>Nat.blt e i) (zao o)&&(match o.guard with |none=>true |some (j,_)=>Nat.blt j ops.length)) (List.range ops.length))))
theorem zx4: ∀{p:List Nat} {i:Nat},i∈p->p[idxB p i]?=some i
 |[],i,h=>by cases h
 |x::r,i,h=>by
  simp only[idxB]
  split
  ·rename_i hb
   rw[Nat.eq_of_beq_eq_true hb]
   rfl
  ·rename_i hb
   have hne:x≠i:=λe=>by rw[e]at hb;simp at hb
   rw[List.getElem?_cons_succ]
   exact zx4 ((List.mem_cons.1 h).resolve_left λe=>hne e.symm)
theorem zks: ∀{p:List Nat} {k i:Nat},p.Nodup->p[k]?=some i->idxB p i=k
 |[],k,i,_,h=>by simp at h
 |x::r,0,i,_,h=>by
  simp at h
  subst h
  simp[idxB]
 |x::r,k+1,i,hn,h=>by
  rw[List.getElem?_cons_succ]at h
  have hm:=List.mem_of_getElem? h
  have hne:x≠i:=λe=>(List.nodup_cons.1 hn).1 (e▸hm)
  have hb:Nat.beq x i=false:=by
   cases hb:Nat.beq x i with
   |false=>rfl
   |true=>exact absurd (Nat.eq_of_beq_eq_true hb) hne
  simp only[idxB,hb]
  rw[zks (List.nodup_cons.1 hn).2 h]
theorem zn2{p:List Nat}{ops:List Oper}: ∀{q:List Nat} {k0 k i:Nat} {o:Oper},q[k]?=some i->ops[i]?=some o->(zen p ops k0 q)[k]?=some (perO p (k0+k) o)
 |[],k0,k,i,o,h,_=>by simp at h
 |x::r,k0,0,i,o,h,ho=>by
  simp at h
  subst h
  simp only[zen,zat,ho]
  rfl
 |x::r,k0,k+1,i,o,h,ho=>by
  rw[List.getElem?_cons_succ]at h
  simp only[zen,List.getElem?_cons_succ]
  rw[zn2 h ho,show k0+1+k=k0+(k+1)by omega]
theorem zf3{p:List Nat}{ops:List Oper}: ∀{q:List Nat} {k0:Nat},(zen p ops k0 q).length=q.length
 |[],_=>rfl
 |x::r,k0=>by simp[zen,zf3]
theorem zhqb(p:List Nat)(k':Nat)(o:Oper)(K:Act->World->Prop):(perO p k' o).wp P a w K Q=o.wp P a w K Q:=rfl
theorem z9x(p:List Nat)(k':Nat)(o:Oper):(perO p k' o).asks P a w=o.asks P a w:=rfl
theorem zmq{big:List Oper}{p:List Nat}(hlen:p.length=big.length)(hnd:p.Nodup)(hlt: ∀i∈p,i<big.length)(hall: ∀i,i<big.length->i∈p)(hE: ∀i o,big[i]?=some o->∀e∈zao o,e<i)(hg: ∀(i:Nat) (o:Oper) (j:Nat) (want:Bool),big[i]?=some o->o.guard=some (j,want)->j<big.length):
  ∀(fuel:Nat) (listed listed':Array Bool) (a:Act) (w:World),listed.size=big.length->listed'.size=big.length->(∀k i,p[k]?=some i->listed'.getD k false=listed.getD i false)->
   wpAny P .any (zen p big 0 p).toArray Q fuel listed' a w->wpAny P .any big.toArray Q fuel listed a w:=by
 have hidx: ∀i,i<big.length->p[idxB p i]?=some i:=λi hi=>zx4 (hall i hi)
 have hidl: ∀i,i<big.length->idxB p i<big.length:=λi hi=>by
  have:=(List.getElem?_eq_some_iff.1 (hidx i hi)).1
  omega
 have hnew: ∀i o,big[i]?=some o->(zen p big 0 p).toArray[idxB p i]?=some (perO p (idxB p i) o):=λi o ho=>by
  have hi:=(List.getElem?_eq_some_iff.1 ho).1
  have:=zn2 (p:=p) (k0:=0) (hidx i hi) ho
  rw[Nat.zero_add]at this
  simpa using this
 have up: ∀(listed listed':Array Bool),listed.size=big.length->listed'.size=big.length->(∀k i,p[k]?=some i->listed'.getD k false=listed.getD i false)->∀x,x∈Region.ready .any big.toArray listed->x<big.length/\idxB p x∈Region.ready .any (zen p big 0 p).toArray listed':=by
  intro listed listed' h1 h2 h3 x hx
  obtain⟨hxl,o,ho,he⟩:=mem_ready.1 hx
  have hxb:x<big.length:=by have:=(Array.getElem?_eq_some_iff.1 ho).1;simpa using this
  have hob:big[x]?=some o:=by simpa using ho
  refine⟨hxb,mem_ready.2 ⟨?_,_,hnew x o hob,λe' he' hb=>?_⟩⟩
  ·rw[zd0 (by have:=hidl x hxb;omega),h3 _ _ (hidx x hxb)]
   exact(zd0 (by omega)).1 hxl
  ·simp only[perO,List.mem_toArray,List.mem_filter,List.mem_map]at he'
   obtain⟨⟨e,hea,rfl⟩,_⟩:=he'
   have hbe:Region.binds .any e=true:=hb
   have hle:e.on<x:=hE x o hob _ (List.mem_filterMap.2 ⟨e,hea,by simp[hbe]⟩)
   show listed'.getD (idxB p e.on) false=true
   rw[h3 _ _ (hidx e.on (by omega))]
   exact he e (by simpa using hea) hbe
 intro fuel
 induction fuel with
 |zero=>
  intro listed listed' a w h1 h2 h3 h
  refine⟨List.eq_nil_iff_forall_not_mem.2 λx hx=>?_,h.2⟩
  have:=(up listed listed' h1 h2 h3 x hx).2
  rw[h.1]at this
  cases this
 |succ fuel ih=>
  intro listed listed' a w h1 h2 h3 h
  refine⟨λhe=>h.1 (List.eq_nil_iff_forall_not_mem.2 λk hk=>?_),λx hx=>?_⟩
  ·obtain⟨hkl,o',ho',_⟩:=mem_ready.1 hk
   have hkb:k<p.length:=by have:=(Array.getElem?_eq_some_iff.1 ho').1;simpa[zf3]using this
   have hpk:p[k]?=some p[k]:=List.getElem?_eq_getElem hkb
   have hun: ¬listed.getD p[k] false=true:=by
    rw[<-h3 k _ hpk]
    exact(zd0 (by omega)).1 hkl
   obtain⟨i,⟨hil,hin⟩,hleast⟩:=zfp (p:=λi=>i<big.length/\¬listed.getD i false=true) ⟨p[k],hlt _ (List.mem_of_getElem? hpk),hun⟩
   have hrd:i∈Region.ready .any big.toArray listed:=by
    refine mem_ready.2 ⟨(zd0 (by omega)).2 hin,big[i],by simp[hil],λe he hb=>?_⟩
    have hee:e.on∈zao big[i]:=List.mem_filterMap.2 ⟨e,by simpa using he,by simp[hb]⟩
    have hlt:=hE i _ (List.getElem?_eq_getElem hil) _ hee
    exact Classical.byContradiction λhn=>by
     have:=hleast e.on ⟨by omega,hn⟩
     omega
   rw[he]at hrd
   cases hrd
  ·obtain⟨hxb,hxr⟩:=up listed listed' h1 h2 h3 x hx
   have hw:=h.2 _ hxr
   have hob:big[x]?=some big[x]:=List.getElem?_eq_getElem hxb
   have hil:=hidl x hxb
   have next: ∀a' w',wpAny P .any (zen p big 0 p).toArray Q fuel (listed'.setIfInBounds (idxB p x) true) a' w'->wpAny P .any big.toArray Q fuel (listed.setIfInBounds x true) a' w':=λa' w' hh=>by
    refine ih _ _ a' w' (by simpa using h1) (by simpa using h2) (λk i hk=>?_) hh
    rw[Bool.eq_iff_iff,zg5 (by omega),zg5 (by omega),h3 k i hk]
    refine or_congr Iff.rfl ⟨λe=>?_,λe=>?_⟩
    ·rw[e,hidx x hxb]at hk
     cases hk;rfl
    ·rw[e]at hk
     exact(zks hnd hk).symm
   unfold wpOp at hw⊢
   rw[hnew x _ hob]at hw
   have hba:big.toArray[x]?=some big[x]:=by simp
   rw[hba]
   simp only at hw⊢
   have hwant:Region.wanted (perO p (idxB p x) big[x]) (yielded (zen p big 0 p).toArray a.tmps)=Region.wanted big[x] (yielded big.toArray a.tmps):=by
    unfold Region.wanted
    have e:(perO p (idxB p x) big[x]).guard=perG p big[x].guard:=rfl
    rw[e]
    cases hgd:big[x].guard with
    |none=>rfl
    |some q=>
     obtain⟨j,want⟩:=q
     have hj:=hg x _ j want hob hgd
     simp only[perG]
     have:yielded (zen p big 0 p).toArray a.tmps (idxB p j)=yielded big.toArray a.tmps j:=by
      unfold yielded
      rw[hnew j _ (List.getElem?_eq_getElem hj)]
      simp[hj,perO]
     rw[this]
   rw[hwant]at hw
   split
   ·rename_i hw1
    rw[if_pos hw1]at hw
    rw[zhqb,z9x]at hw
    exact hw.imp (Oper.wp_mono next) id
   ·rename_i hw1
    rw[if_neg hw1]at hw
    exact next _ _ hw
theorem zo2{p:List Nat}{big:List Oper}(h:perB p big=true):p.length=big.length/\p.Nodup/\(∀i∈p,i<big.length)/\(∀i,i<big.length->i∈p)/\(∀i o,big[i]?=some o->∀e∈zao o,e<i)/\(∀(i:Nat) (o:Oper) (j:Nat) (want:Bool),big[i]?=some o->o.guard=some (j,want)->j<big.length):=by
 simp only[perB,Bool.and_eq_true]at h
 obtain⟨k1,k2,k3,k4,k5⟩:=h
 have key: ∀i o,big[i]?=some o->allB (λe=>Nat.blt e i) (zao o)=true/\(match o.guard with |none=>true |some (j,_)=>Nat.blt j big.length)=true:=λi o ho=>by
  have:=(zar.1 k5) i (List.mem_range.2 (List.getElem?_eq_some_iff.1 ho).1)
  rw[zat,ho]at this
  simpa only[Bool.and_eq_true]using this
 refine⟨Nat.eq_of_beq_eq_true k1,zb5 k2,λi hi=>Nat.le_of_ble_eq_true (zar.1 k3 i hi),λi hi=>za4.1 (zar.1 k4 i (List.mem_range.2 hi)),λi o ho e he=>Nat.le_of_ble_eq_true (zar.1 (key i o ho).1 e he),λi o j want ho hg=>?_⟩
 have:=(key i o ho).2
 rw[hg]at this
 exact Nat.le_of_ble_eq_true this
def zcb(p:List Nat)(ops:List Oper):List Oper:=zen p ops 0 p
def z51(P:Program)(T:TT)(p:List Nat)(ops:List Oper)(S:St)(K:St->Prop):Prop:=rund P T (zcb p ops) (zam [] (zcb p ops)) S.nx 0 (zcb p ops) S [] [] K
def zwk(p:List Nat)(ops:List Oper):Bool:=perB p ops&&zga (zcb p ops)
theorem zn1{p:List Nat}{ops:List Oper}(hb:perB p ops=true){N:Nat}(hN: ∀o∈ops,∀d,o.dst=some d->d<N): ∀o∈zcb p ops,∀d,o.dst=some d->d<N:=λo ho d hod=>by
 obtain⟨k1,k2,k3,_⟩:=zo2 hb
 obtain⟨k,hk⟩:=List.getElem?_of_mem ho
 have hkl:k<p.length:=by have:=(List.getElem?_eq_some_iff.1 hk).1;simpa[zcb,zf3]using this
 have hpk:p[k]?=some p[k]:=List.getElem?_eq_getElem hkl
 have hi:=k3 _ (List.mem_of_getElem? hpk)
 have:=zn2 (p:=p) (k0:=0) hpk (List.getElem?_eq_getElem hi)
 rw[show zen p ops 0 p=zcb p ops from rfl,hk]at this
 cases this
 exact hN _ (List.getElem_mem hi) d hod
theorem zpo(hm:P.follows .mixedOrders=true)(hT:TOk P T){ops:List Oper}{S:St}{p:List Nat}(hN: ∀o∈ops,∀d,o.dst=some d->d<N){K:St->Prop}(hs:Sat B N S a w k)(hok:zwk p ops=true)
  (h:z51 P T p ops S K) (hQ: ∀S' a' w' k',K S'->Sat B N S' a' w' k'->Q .normal a' w'):wpAny P .any ops.toArray Q ops.length (Array.replicate ops.length false) a w:=by
 simp only[zwk,Bool.and_eq_true]at hok
 obtain⟨k1,k2,k3,k4,k5,k6⟩:=zo2 hok.1
 have hl:(zcb p ops).length=ops.length:=by rw[zcb,zf3,k1]
 have:=z0h (Q:=Q) hm hT (zn1 hok.1 hN) hs hok.2 h hQ
 rw[hl]at this
 exact zmq k1 k2 k3 k4 k5 k6 _ _ _ a w (by simp) (by simp) (λx i hx=>by
  have h1:x<ops.length:=by have:=(List.getElem?_eq_some_iff.1 hx).1;omega
  have h2:=k3 i (List.mem_of_getElem? hx)
  simp[h1,h2]) this
end
end Go.Proofs.YtkegaaonpekkgaaGreat.Sx
