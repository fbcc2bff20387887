import Derived.Test.YtddokcpcpoihmaaGreatZFb
import Derived.Test.YtddokcpcpoihmaaGreatZHb
namespace Go.Proofs.YtddokcpcpoihmaaGreat.Sx
open Go.RowKit
set_option linter.unusedVariables false
section
structure Keys (P:Program) (kt:TypeId) {α:Type} (q:α->Value):Prop where
 desc: ∃kd,P.underlying kt=some kd/\∀a b,Instr.sameNow kd (q a) (q b)=some true/\a=b\/Instr.sameNow kd (q a) (q b)=some false/\a≠b
 bits: ∀a,Instr.sameBits 10000 (q a) (q a)=true
 chk: ∀(w:World) (e:Bool) a,(Instr.checkKey e 10000 kt (q a)).run P w= .ok () w
abbrev qI(n:Int):Value:= .int .i64 n
abbrev qS(l:List UInt8):Value:= .string ⟨l.toArray⟩
section
variable {P:Program} {T:TT} {B:Bs} {N:Nat} {S:St} {a:Act} {w:World} {k:Kp} {g:Env} {o:Oper} {Q:Exit->Act->World->Prop}
theorem beqB(x y:List UInt8):((⟨x.toArray⟩:ByteArray)==⟨y.toArray⟩)=decide (x=y):=by
 show((x.toArray:Array UInt8)==y.toArray)=_
 by_cases h:x=y
 ·subst h;simp
 ·simp[h]
theorem zop{m:Nat}(l:List UInt8):Instr.sameBits m (qS l) (qS l)=true:=by simp[Instr.sameBits,beqB]
theorem zrt{kt:TypeId}{v:Value}{b:Bool}{m:Nat}(hk:P.underlying kt=some .string):(Instr.checkKey b (m+1) kt v).run P w= .ok () w:=by
 simp[Instr.checkKey,run_underlying hk w]
theorem zho{kt:TypeId}(hk:P.underlying kt=some .string):Keys P kt qS:=by
 refine⟨⟨_,hk,λx y=>?_⟩,λx=>zop x,λw e x=>zrt (m:=9999) hk⟩
 simp only[Instr.sameNow]
 by_cases h:x=y
 ·exact .inl ⟨by simp[h,beqB],h⟩
 ·exact .inr ⟨by simp[h,beqB],h⟩
section
variable {α:Type} {q:α->Value}
def entsG(q:α->Value)(w:World)(k:Kp):List (α×RV)->List MapEntry->Prop
 |[],es=>es=[]
 |(n,r)::l,es=>∃e t,es=e::t/\e.key=q n/\r.at_ w k e.val/\entsG q w k l t
theorem entsG.mono{w':World}{k':Kp}(h:Le w k w' k'): ∀{l:List (α×RV)} {es:List MapEntry},entsG q w k l es->entsG q w' k' l es
 |[],_,he=>he
 |(n,r)::l,_,⟨e,t,he,h1,h2,h3⟩=>⟨e,t,he,h1,RV.mono h _ _ h2,entsG.mono h h3⟩
theorem entsG.len: ∀{l:List (α×RV)} {es:List MapEntry},entsG q w k l es->es.length=l.length
 |[],_,he=>by simp only[entsG]at he;subst he;rfl
 |(n,r)::l,_,⟨e,t,he,h1,h2,h3⟩=>by subst he;simp[entsG.len h3]
def mapG(q:α->Value)(ents:List (α×RV)):GOw where
 at_ w k vb:=∃b es c,vb=(.map (some b),some b)/\w.heap[b]?=some (.map es c)/\k b=0/\entsG q w k ents es.toList
 mono:=by
  rintro w k w' k' vb h hb ⟨b,es,c,rfl,hh,hk,he⟩
  have:=hb b rfl
  exact⟨b,es,c,rfl,this.1.trans hh,this.2.trans hk,he.mono h⟩
 len:=some ents.length
 lenOk:=by
  rintro w k vb n h ⟨b,es,c,rfl,hh,_,he⟩
  cases h
  exact⟨b,es,c,rfl,hh,by rw[<-Array.length_toList];exact he.len⟩
 one:=by rintro w k vb ⟨b,es,c,rfl,_⟩;rfl
theorem Yld.mapGMk(q:α->Value){t:TypeId}(hop:o.op= .makeMap t none):Yld P S o (S.new o.dst (.own S.nx) (some (.gen (mapG q [])))):=by
 intro B N a w k Q ⟨g,hs⟩ hd
 refine zas (v:= .map (some w.heap.size)) (w':=w.alloc (.map #[] 0)) (by simp[execOp,hop,Instr.makeMap,newObj];rfl) ⟨kset k w.heap.size 0,_,hs.make hd (za9 w _) (λb hb=>zca b hb) (vb:=(.map (some w.heap.size),some w.heap.size)) (o:= .gen (mapG q [])) trivial ?_ λb hb=>?_⟩
 ·simp only[Ow.at_]
  exact⟨w.heap.size, #[],0,rfl,heap_alloc_new w _,zbh,rfl⟩
 ·cases hb
  exact⟨Nat.le_refl _,by simp⟩
theorem Vstep.mapGMk(q:α->Value){t:TypeId}{K:St->Prop}(hop:o.op= .makeMap t none)(hK:newK S o.dst (.own S.nx) (some (.gen (mapG q []))) K):Vstep P S o K:=by
 rw[zaq]at hK
 exact Vstep.one (Yld.mapGMk q hop) hK
end
variable {α:Type} [DecidableEq α] {q:α->Value}
def aget:List (α×RV)->α->Option RV
 |[],_=>none
 |(m,r)::l,n=>if m=n then some r else aget l n
def aput:List (α×RV)->α->RV->List (α×RV)
 |[],n,r=>[(n,r)]
 |(m,s)::l,n,r=>if m=n then(m,r)::l else(m,s)::aput l n r
theorem ztl{kt:TypeId}(hK:Keys P kt q){kd:TypeDesc}(hd: ∀a b,Instr.sameNow kd (q a) (q b)=some true/\a=b\/Instr.sameNow kd (q a) (q b)=some false/\a≠b){n:α}{r:RV}{u:Value}(hr:r.at_ w k u):
  ∀{ents:List (α×RV)} {es:List MapEntry} (i:Nat),entsG q w k ents es->
  (aget ents n=none/\Instr.findNow kd (q n) es i=some none/\∀c:Nat,entsG q w k (aput ents n r) (es++[{key:=q n,val:=u,born:=c}]))\/
  (∃s j v,aget ents n=some s/\Instr.findNow kd (q n) es i=some (some (i+j,v))/\s.at_ w k v/\(es[j]?.map (·.key))=some (q n)/\entsG q w k (aput ents n r) (es.modify j λe=>{e with key:=q n,val:=u}))
 |[],es,i,he=>by
  simp only[entsG]at he
  subst he
  exact .inl ⟨rfl,rfl,λc=>⟨_,[],rfl,rfl,hr,rfl⟩⟩
 |(m,s)::l,es,i,he=>by
  obtain⟨e,t,rfl,h1,h2,h3⟩:=he
  rcases hd n m with⟨hs,rfl⟩ |⟨hs,hne⟩
  ·refine .inr ⟨s,0,e.val,by simp[aget],by simp[Instr.findNow,h1,hs],h2,by simp[h1],?_⟩
   simp only[aput,if_true,List.modify_zero_cons]
   exact⟨_,t,rfl,rfl,hr,h3⟩
  ·have hne': ¬m=n:=λe=>hne e.symm
   simp only[aget,aput,if_neg hne',Instr.findNow,h1,hs]
   rcases ztl hK hd hr (i+1) h3 with⟨g1,g2,g3⟩ |⟨s',j,v,g1,g2,g3,g4,g5⟩
   ·exact .inl ⟨g1,g2,λc=>⟨e,_,rfl,h1,h2,g3 c⟩⟩
   ·refine .inr ⟨s',j+1,v,g1,by rw[g2,Nat.add_right_comm,Nat.add_assoc],g3,by simpa using g4,?_⟩
    rw[List.modify_succ_cons]
    exact⟨e,_,rfl,h1,h2,g5⟩
theorem Vstep.lookG{t kt et:TypeId}{x y:Operand}{id:Nat}{n:α}{ents:List (α×RV)}{z:Value}{f:TF}{K:St->Prop}(zr:RV)(hop:o.op= .lookup t x y false)(hx:opr S x=some (.own id))(ho:oget S.O id=some (.gen (mapG q ents)))(hy:opr S y=some f)(hf:S.rv f=some (ofC (q n)))(hq: ∀w k v,(ofC (q n)).at_ w k v->v=q n)
  (hu:P.underlying t=some (.map kt et)) (hk:Keys P kt q) (hz:(P.info? et).bind (·.zero)=some z) (hzr: ∀w k,zr.at_ w k z)
  (hK:newK S o.dst (.r ((aget ents n).getD zr)) none K):Vstep P S o K:=by
 rw[zaq]at hK
 refine Vstep.one (λB N a w k Q ⟨g,hs⟩ hd=>?_) hK
 have hv:=(zad hs hx).2
 have hn:=hq _ _ _ (zda hs hf (zad hs hy).2)
 simp only[TF.at_]at hv
 obtain⟨_,_,hat,_⟩:=hs.owns id _ ho
 simp only[Ow.at_]at hat
 obtain⟨b,es,c,e,hh,hkb,he⟩:=hat
 rw[e]at hv
 obtain⟨i,hi,hz⟩:=Option.bind_eq_some_iff.1 hz
 have zv:(zeroValue et).run P w= .ok z w:=by simp[zeroValue,typeInfo,hi,hz]
 obtain⟨kd,hkd,hd'⟩:=hk.desc
 rcases ztl hk hd' (n:=n) (hzr w k) 0 he with⟨g1,g2,_⟩ |⟨s,j,v,g1,g2,g3,_,_⟩
 ·have hfk:(Instr.findKey kt (q n) es.toList).run P w= .ok none w:=by simp[Instr.findKey,run_underlying hkd w,g2]
  have hrun:(Instr.lookup t (.map (some b)) (q n) false).run P w= .ok z w:=by
   simp[Instr.lookup,run_underlying hu w,hk.chk,hfk,zv,hh,getObj,Sem.run]
  exact zas (v:=z) (w':=w) (by simp[execOp,hop,hv,hn,hrun]) ⟨k,g,hs.put hd trivial (by rw[g1];exact hzr w k)⟩
 ·have hfk:(Instr.findKey kt (q n) es.toList).run P w= .ok (some (0+j,v)) w:=by simp[Instr.findKey,run_underlying hkd w,g2]
  have hrun:(Instr.lookup t (.map (some b)) (q n) false).run P w= .ok v w:=by
   simp[Instr.lookup,run_underlying hu w,hk.chk,hfk,hh,getObj,Sem.run]
  exact zas (v:=v) (w':=w) (by simp[execOp,hop,hv,hn,hrun]) ⟨k,g,hs.put hd trivial (by rw[g1];exact g3)⟩
theorem Vstep.putG{t kt et:TypeId}{x y z:Operand}{id:Nat}{n:α}{ents:List (α×RV)}{f fy:TF}{r:RV}{K:St->Prop}(hop:o.op= .mapUpdate t x y z)(hx:opr S x=some (.own id))(ho:oget S.O id=some (.gen (mapG q ents)))(hy:opr S y=some fy)(hf:S.rv fy=some (ofC (q n)))(hq: ∀w k v,(ofC (q n)).at_ w k v->v=q n)(hz:opr S z=some f)(hr:S.rv f=some r)
  (hu:P.underlying t=some (.map kt et)) (hk:Keys P kt q) (hK:setK S id (some (.gen (mapG q (aput ents n r)))) o.dst K):Vstep P S o K:=by
 rw[zb0]at hK
 refine Vstep.one (λB N a w k Q ⟨g,hs⟩ hd=>?_) hK
 have hv:=(zad hs hx).2
 have hn:=hq _ _ _ (zda hs hf (zad hs hy).2)
 have hzv:=zda hs hr (zad hs hz).2
 simp only[TF.at_]at hv
 obtain⟨_,_,hat,_⟩:=hs.owns id _ ho
 simp only[Ow.at_]at hat
 obtain⟨b,es,c,e,hh,hkb,he⟩:=hat
 rw[e]at hv
 have hb:b<w.heap.size:=(Array.getElem?_eq_some_iff.1 hh).1
 obtain⟨kd,hkd,hd'⟩:=hk.desc
 have fin: ∀(es':Array MapEntry) (c':Nat),entsG q w k (aput ents n r) es'.toList->(Instr.mapUpdate t (.map (some b)) (q n) (a.eval z)).run P w= .ok () {w with heap:=w.heap.setIfInBounds b (.map es' c')}->o.wp P a w (λa' w'=>∃k',Sat B N ((S.set id (some (.gen (mapG q (aput ents n r))))).put o.dst (.r .any)) a' w' k') Q:=λes' c' hen hrun=>by
  let w':World:={w with heap:=w.heap.setIfInBounds b (.map es' c')}
  have hw:Wrote w k w' k (some b):=⟨rfl,rfl,rfl,by simp[w'],λx _ hne=>⟨by simp only[w'];rw[Array.getElem?_setIfInBounds_ne (λh=>hne (by rw[h]))],rfl⟩,λx hx=>by
   cases hx
   exact⟨Nat.le_refl _,λo ho=>by omega,λh=>by omega⟩⟩
  have hnew:(Ow.gen (mapG q (aput ents n r))).at_ w' k g (g id):=by
   simp only[Ow.at_]
   exact⟨b,es',c',e,by simp only[w'];rw[Array.getElem?_setIfInBounds_self_of_lt hb],hkb,hen.mono hw.le⟩
  exact zk4 (w':=w') (by simp[execOp,hop,hv,hn,hrun,w']) ⟨k,g,(hs.redo (ow':= .gen (mapG q (aput ents n r))) ho (by rw[e]) hw trivial hnew).drop⟩
 rcases ztl hk hd' (n:=n) hzv 0 he with⟨g1,g2,g3⟩ |⟨s,j,v,g1,g2,_,g4,g5⟩
 ·have hfk:(Instr.findKey kt (q n) es.toList).run P w= .ok none w:=by simp[Instr.findKey,run_underlying hkd w,g2]
  refine fin (es.push {key:=q n,val:=a.eval z,born:=c}) (c+1) (by rw[Array.toList_push];exact g3 c) ?_
  simp[Instr.mapUpdate,run_underlying hu w,hk.chk,hfk,hh,getObj,setObj,Sem.run]
 ·have hfk:(Instr.findKey kt (q n) es.toList).run P w= .ok (some (0+j,v)) w:=by simp[Instr.findKey,run_underlying hkd w,g2]
  refine fin (es.modify j λe=>{e with key:=q n,val:=a.eval z}) c (by rw[Array.toList_modify];exact g5) ?_
  have hkey:((es[j]?).map (·.key))=some (q n):=by rw[<-Array.getElem?_toList];exact g4
  have hst:(Instr.keyThatStays (q n) (q n)).run P w= .ok (q n) w:=by simp[Instr.keyThatStays,hk.bits]
  simp[Instr.mapUpdate,run_underlying hu w,hk.chk,hfk,hh,getObj,setObj,Sem.run,hkey,hst]
end
theorem zrx{S:St}{t im gh:Nat}{m:Value}{ents:List (Int×RV)}(ho:oget S.O im=some (.gen (mapO ents)))(hgh:fget S.F gh=some (.nm im m))(ht:fget S.F t=some (.r (.x m))):Sub S ⟨(t, .r (.s (mapS ents)))::S.F,(im,none)::S.O,S.nx⟩:=by
 rintro B N a w k ⟨g0,h0⟩
 have hv:=(h0.facts t _ ht).2
 simp only[TF.at_,RV.at_]at hv
 obtain⟨k',⟨g,hs⟩,hat,_⟩:=zrw ho hgh ⟨g0,h0⟩
 refine⟨k',g,hs.size,hs.defers,hs.keep,hs.kk,λt' f hf=>?_,hs.owns,hs.apart⟩
 rcases zau hf with⟨rfl,rfl⟩ |⟨_,hf⟩
 ·exact⟨trivial,by simp only[TF.at_,RV.at_];rw[hv];exact hat⟩
 ·exact hs.facts t' f hf
theorem zka{S:St}{j i id gh:Nat}{m:Value}{ow:Ow}{cells:List TF}(ho:oget S.O id=some ow)(hgh:fget S.F gh=some (.nm id m))(hj:oget S.O j=some (.box cells))(hi:cells[i]?=some (.r (.x m))):Sub S ⟨S.F,(j,some (.box (cells.set i (.own id))))::S.O,S.nx⟩:=by
 rintro B N a w k ⟨g,hs⟩
 have hnm:=(hs.facts gh _ hgh).2
 simp only[TF.at_]at hnm
 obtain⟨q1,q2,q3,q4⟩:=hs.owns j _ hj
 have hlo:=(hs.owns id _ ho).1
 have hnew:(Ow.box (cells.set i (.own id))).at_ w k g (g j):=by
  simp only[Ow.at_]at q3⊢
  obtain⟨b,cur,t,e1,e2,e3,e4,e5⟩:=q3
  refine⟨b,cur,t,e1,e2,e3,by rw[List.length_set];exact e4,λx f u hf hu=>?_⟩
  by_cases hx:i=x
  ·subst hx
   have hil:=(List.getElem?_eq_some_iff.1 hi).1
   rw[List.getElem?_set_self hil]at hf
   cases hf
   have h0:=e5 i _ u hi hu
   refine⟨h0.1,?_⟩
   have h1:=h0.2
   simp only[TF.at_,RV.at_]at h1⊢
   rw[h1,hnm]
  ·rw[List.getElem?_set_ne hx]at hf
   exact e5 x f u hf hu
 have hlt:(Ow.box (cells.set i (.own id))).lt S.nx:=λf hf=>by
  rcases List.mem_or_eq_of_mem_set hf with hf |rfl
  ·exact q2 f hf
  ·exact hlo
 have up: ∀x o',oget ((j,some (Ow.box (cells.set i (.own id))))::S.O) x=some o'->(x=j/\o'= .box (cells.set i (.own id)))\/(j≠x/\oget S.O x=some o'):=λx o' h=>by
  rcases zak h with⟨rfl,e⟩ |⟨hne,h⟩
  ·cases e;exact .inl ⟨rfl,rfl⟩
  ·exact .inr ⟨hne,h⟩
 have old: ∀x ox,oget ((j,some (Ow.box (cells.set i (.own id))))::S.O) x=some ox->∃ox',oget S.O x=some ox':=λx ox hx=>by
  rcases up x ox hx with⟨rfl,_⟩ |⟨_,hx⟩
  ·exact⟨_,hj⟩
  ·exact⟨ox,hx⟩
 refine⟨k,g,hs.size,hs.defers,hs.keep,hs.kk,hs.facts,λx o' hx=>?_,λx y o1 o2 b' hx hy hne hbx=>?_⟩
 ·rcases up x o' hx with⟨rfl,rfl⟩ |⟨_,hx⟩
  ·exact⟨q1,hlt,hnew,q4⟩
  ·exact hs.owns x o' hx
 ·obtain⟨p1,hp1⟩:=old x o1 hx
  obtain⟨p2,hp2⟩:=old y o2 hy
  exact hs.apart x y p1 p2 b' hp1 hp2 hne hbx
theorem Vstep.mapGMkN{P:Program}{S:St}{o:Oper}{α:Type}(q:α->Value){t:TypeId}{K:St->Prop}(gh:Nat)(hop:o.op= .makeMap t none)(hK: ∀b:Nat,newK ⟨(gh, .nm S.nx (.map (some b)))::S.F,(S.nx,some (.gen (mapG q [])))::S.O,S.nx+1⟩ o.dst (.r (.x (.map (some b)))) none K):Vstep P S o K:=by
 simp only[zaq]at hK
 refine⟨Nat,_,λB N a w k Q hs0 hd=>Oper.wp_mono ?_ (show o.wp P a w (λa' w'=>∃b k',Sat B N (St.put ⟨(gh, .nm S.nx (.map (some b)))::S.F,(S.nx,some (.gen (mapG q [])))::S.O,S.nx+1⟩ o.dst (.r (.x (.map (some b))))) a' w' k') Q from ?_),hK⟩
 ·rintro a' w' ⟨b,k',h⟩;exact⟨b,k',h⟩
 obtain⟨g,hs⟩:=hs0
 refine zas (v:= .map (some w.heap.size)) (w':=w.alloc (.map #[] 0)) (by simp[execOp,hop,Instr.makeMap,newObj];rfl) ⟨w.heap.size,kset k w.heap.size 0,?_⟩
 have hat:Ow.at_ (w.alloc (.map #[] 0)) (kset k w.heap.size 0) g (.map (some w.heap.size),some w.heap.size) (.gen (mapG q [])):=by
  simp only[Ow.at_]
  exact⟨w.heap.size, #[],0,rfl,heap_alloc_new w _,zbh,rfl⟩
 have h:=hs.make (dst:=none) (λd e=>by cases e) (za9 w (.map #[] 0)) (λb hb=>zca b hb) (vb:=(.map (some w.heap.size),some w.heap.size)) (o:= .gen (mapG q [])) trivial hat (λb hb=>by
  cases hb
  exact⟨Nat.le_refl _,by simp⟩)
 have h2:SatE B N ⟨(gh, .nm S.nx (.map (some w.heap.size)))::S.F,(S.nx,some (.gen (mapG q [])))::S.O,S.nx+1⟩ a (w.alloc (.map #[] 0)) (kset k w.heap.size 0) (g.set S.nx (.map (some w.heap.size),some w.heap.size)):=by
  refine⟨h.size,h.defers,h.keep,h.kk,λt' f hf=>?_,h.owns,h.apart⟩
  rcases zau hf with⟨rfl,rfl⟩ |⟨_,hf⟩
  ·exact⟨Nat.lt_succ_self _,by simp only[TF.at_,Env.set_eq]⟩
  ·exact h.facts t' f hf
 exact⟨_,h2.put hd trivial (by simp only[TF.at_,RV.at_])⟩
end
section
def iget:List (List UInt8×Int)->List UInt8->Int
 |[],_=>0
 |(m,c)::l,n=>if m=n then c else iget l n
def iput:List (List UInt8×Int)->List UInt8->Int->List (List UInt8×Int)
 |[],n,c=>[(n,c)]
 |(m,d)::l,n,c=>if m=n then(m,c)::l else(m,d)::iput l n c
abbrev embI(e:List (List UInt8×Int)):List (List UInt8×RV):=e.map λp=>(p.1,I p.2)
theorem zkf: ∀(e:List (List UInt8×Int)) (n:List UInt8),(aget (embI e) n).getD (I 0)=I (iget e n)
 |[],n=>rfl
 |(m,c)::l,n=>by
  simp only[embI,List.map_cons,aget,iget]
  by_cases h:m=n
  ·simp[h]
  ·rw[if_neg h,if_neg h];exact zkf l n
theorem zkh: ∀(e:List (List UInt8×Int)) (n:List UInt8) (c:Int),aput (embI e) n (I c)=embI (iput e n c)
 |[],n,c=>rfl
 |(m,d)::l,n,c=>by
  simp only[embI,List.map_cons,aput,iput]
  by_cases h:m=n
  ·simp[h]
  ·rw[if_neg h,if_neg h,List.map_cons];exact congrArg _ (zkh l n c)
theorem zpu: ∀(e:List (List UInt8×Int)) (n:List UInt8) (c:Int),(iput e n c).length=if n∈e.map (·.1)then e.length else e.length+1
 |[],n,c=>by simp[iput]
 |(m,d)::l,n,c=>by
  simp only[iput]
  by_cases h:m=n
  ·simp[h]
  ·rw[if_neg h,List.length_cons,zpu l n c]
   simp only[List.map_cons,List.mem_cons,List.length_cons]
   have h': ¬n=m:=λe=>h e.symm
   simp only[h',false_or]
   split<;>rfl
theorem zpv: ∀(e:List (List UInt8×Int)) (n:List UInt8) (c:Int) (x:List UInt8),x∈(iput e n c).map (·.1)↔x=n\/x∈e.map (·.1)
 |[],n,c,x=>by simp[iput]
 |(m,d)::l,n,c,x=>by
  simp only[iput]
  by_cases h:m=n
  ·subst h;simp
  ·rw[if_neg h]
   simp only[List.map_cons,List.mem_cons,zpv l n c x]
   constructor
   ·rintro(h1 |h1 |h1)<;>simp[h1]
   ·rintro(h1 |h1 |h1)<;>simp[h1]
theorem zjg{N:Int}: ∀(e:List (List UInt8×Int)) (n:List UInt8),(∀p∈e,0<=p.2/\p.2<=N)->0<=N->0<=iget e n/\iget e n<=N
 |[],n,_,h0=>by simp[iget];exact h0
 |(m,c)::l,n,h,h0=>by
  simp only[iget]
  split
  ·exact h _ List.mem_cons_self
  ·exact zjg l n (λp hp=>h p (List.mem_cons_of_mem _ hp)) h0
theorem zsn{N:Int}: ∀(e:List (List UInt8×Int)) (n:List UInt8) (c:Int),(∀p∈e,0<=p.2/\p.2<=N)->0<=c/\c<=N->∀p∈iput e n c,0<=p.2/\p.2<=N
 |[],n,c,_,hc=>by simpa[iput]using hc
 |(m,d)::l,n,c,h,hc=>by
  simp only[iput]
  split
  ·intro p hp
   rcases List.mem_cons.1 hp with rfl |hp
   ·exact hc
   ·exact h p (List.mem_cons_of_mem _ hp)
  ·intro p hp
   rcases List.mem_cons.1 hp with rfl |hp
   ·exact h _ List.mem_cons_self
   ·exact zsn l n c (λq hq=>h q (List.mem_cons_of_mem _ hq)) hc p hp
def cntS(l:List (List UInt8)):List (List UInt8×Int):=l.foldl (λe x=>iput e x (iget e x+1)) []
theorem zfa(l:List (List UInt8))(x:List UInt8):cntS (l++[x])=iput (cntS l) x (iget (cntS l) x+1):=by simp[cntS]
theorem zk0{α:Type}{p:List α->Prop}(h0:p [])(hs: ∀l x,p l->p (l++[x]))(l:List α):p l:=by
 have: ∀l:List α,p l.reverse:=λl=>by
  induction l with
  |nil=>exact h0
  |cons x l ih=>rw[List.reverse_cons];exact hs _ _ ih
 have:=this l.reverse
 rwa[List.reverse_reverse]at this
theorem zxr(l:List (List UInt8)): ∀x,x∈(cntS l).map (·.1)↔x∈l:=by
 refine zk0 (p:=λl=>∀x,x∈(cntS l).map (·.1)↔x∈l) (by simp[cntS]) (λl y ih x=>?_) l
 rw[zfa,zpv,ih,List.mem_append,List.mem_singleton]
 exact Or.comm
theorem zr5(l:List (List UInt8)): ∀p∈cntS l,0<=p.2/\p.2<=(l.length:Int):=by
 refine zk0 (p:=λl=>∀p∈cntS l,0<=p.2/\p.2<=(l.length:Int)) (by simp[cntS]) (λl y ih=>?_) l
 rw[zfa]
 have h:=zjg (cntS l) y ih (by omega)
 refine zsn _ _ _ (λp hp=>?_) ?_
 ·have:=ih p hp
  simp only[List.length_append,List.length_cons,List.length_nil]
  omega
 ·simp only[List.length_append,List.length_cons,List.length_nil]
  omega
theorem zo7(l:List (List UInt8)):(cntS l).length<=l.length/\((cntS l).length=l.length↔l.Nodup):=by
 refine zk0 (p:=λl=>(cntS l).length<=l.length/\((cntS l).length=l.length↔l.Nodup)) (by simp[cntS]) (λl x ih=>?_) l
 rw[zfa,zpu,List.nodup_append]
 have hm:=zxr l x
 obtain⟨h1,h2⟩:=ih
 simp only[List.length_append,List.length_cons,List.length_nil]
 split
 ·rename_i h
  refine⟨by omega,?_⟩
  constructor
  ·intro e;omega
  ·rintro⟨_,_,h3⟩
   exact absurd rfl (h3 x (hm.1 h) x (by simp))
 ·rename_i h
  refine⟨by omega,?_⟩
  constructor
  ·intro e
   refine⟨h2.1 (by omega),by simp,λa ha b hb=>?_⟩
   rw[List.mem_singleton.1 hb]
   rintro rfl
   exact h (hm.2 ha)
  ·rintro⟨h3,_,_⟩
   have:=h2.2 h3
   omega
def lvs(t:List Node):List Node:=t.filter isLf
theorem zp2{t:List Node}{j:Nat}(hj:j<t.length):lvs (t.take (j+1))=if isLf (nT t j)=true then lvs (t.take j)++[nT t j]else lvs (t.take j):=by
 unfold lvs
 rw[List.take_succ_eq_append_getElem hj,List.filter_append,z0f hj]
 by_cases h:isLf (nT t j)=true
 ·rw[if_pos h];simp[h]
 ·rw[if_neg h];simp[h]
theorem z11(t:List Node)(j:Nat):(lvs (t.take j)).length<=j:=Nat.le_trans (List.length_filter_le _ _) (by rw[List.length_take];omega)
abbrev idsL(t:List Node):List (List UInt8):=(lvs t).map λn=>n.leaf.ident
abbrev sgnL(t:List Node):List (List UInt8):=(lvs t).map λn=>n.leaf.sign
def zgp(t:List Node):Bool:=decide ((idsL t).Nodup/\(sgnL t).Nodup)
theorem zjw:Tryz.prog.underlying 146=some (.map 9 3):=by kernel_rfl
theorem zo0:Tryz.prog.underlying 9=some .string:=by kernel_rfl
theorem z0p:(Tryz.prog.info? 3).bind (·.zero)=some (.int .i64 0):=by kernel_rfl
def apI(t:List Node)(j:Nat):St:=⟨[(0, .r (nods t)),(3, .own 2),(4, .r (I ((lvs (t.take j)).length:Nat))),(10, .r (nods t)),(11, .r (I t.length)),(12, .r (I j))],[(0,some (.gen (mapG qS (embI (cntS (idsL (t.take j))))))),(1,some (.gen (mapG qS (embI (cntS (sgnL (t.take j))))))),(2,some (.box [.own 0, .own 1]))],3⟩
abbrev apF(t:List Node)(b1 b2:Nat):List (Nat×TF):=[(0, .r (nods t)),(3, .own 2),(4, .r (I 0)),(10, .r (nods t)),(11, .r (I t.length)),(12, .r (I 0)),(1000001, .nm 0 (.map (some b1))),(1000002, .nm 1 (.map (some b2)))]
abbrev apG:List (Nat×Option Ow):=[(0,some (.gen (mapG qS []))),(1,some (.gen (mapG qS [])))]
def apS0(t:List Node)(b1 b2:Nat):St:=⟨apF t b1 b2,apG++[(2,some (.box [.r (.x (.map (some b1))), .r (.x (.map (some b2)))]))],3⟩
theorem z5q(t:List Node)(b1 b2:Nat):Sub (apS0 t b1 b2) (apI t 0):=
 (zka (S:=apS0 t b1 b2) (j:=2) (i:=0) (id:=0) (gh:=1000001) (cells:=[.r (.x (.map (some b1))), .r (.x (.map (some b2)))]) rfl rfl rfl rfl).trans
  ((zka (S:=⟨apF t b1 b2,(2,some (.box [.own 0, .r (.x (.map (some b2)))]))::(apS0 t b1 b2).O,3⟩) (j:=2) (i:=1) (id:=1) (gh:=1000002) (cells:=[.own 0, .r (.x (.map (some b2)))]) rfl rfl rfl rfl).trans
  (zac (S:=⟨apF t b1 b2,(2,some (.box [.own 0, .own 1]))::(2,some (.box [.own 0, .r (.x (.map (some b2)))]))::(apS0 t b1 b2).O,3⟩) [(0,0),(1,1),(2,2)] rfl ⟨cr,rfl,cr,cr,cr,cr,trivial⟩ ⟨λ_ _ _ hh=>hh,λ_ _ _ hh=>hh,⟨_,_,rfl,rfl,_,_,rfl,rfl,rfl⟩,trivial⟩))
theorem zoy(n:List UInt8): ∀(w:World) (k:Kp) (v:Value),(ofC (qS n)).at_ w k v->v=qS n:=λw k v h=>by simpa[ofC,RV.at_]using h
set_option maxHeartbeats 1000000 in
theorem z1c(t:List Node)(h1:t.length<=1000000):zab Tryz.prog 38 [nods t] (.r (.b (zgp t))):=by
 refine zaa (T:=Tab) mixed Tab_ok Tryz.func38 rfl (by kernel_rfl) ?_
 refine Vcode.run Tab_ok ?_
 refine Vstep.mapGMkN qS 1000001 rfl λb1=>?_
 refine Vstep.mapGMkN qS 1000002 rfl λb2=>?_
 refine zw (apI t) (λj=>j<=t.length) (λj=>t.length-j) 0 (by omega) (Sub.trans (zac (S':=apS0 t b1 b2) [(0,0),(1,1),(2,2)] rfl ⟨cr,rfl,cr,cr,cr,cr,⟨rfl,rfl⟩,⟨rfl,rfl⟩,trivial⟩ ⟨λ_ _ _ hh=>hh,λ_ _ _ hh=>hh,⟨_,_,rfl,cr,_,_,rfl,cr,rfl⟩,trivial⟩) (z5q t b1 b2)) ?_
 intro j hj
 have hl:=z11 t j
 refine zg (λh=>zo ?_) (λh=>zp ?_)
 ·simp only[zb]at h
  have hj':j<t.length:=by omega
  refine zk (by omega) (by omega) (z35 rfl hj') ?_
  refine za rfl rfl ?_
  refine zg (λh2=>zo ?_) (λh2=>zp ?_)
  ·simp only[zb]at h2
   have e:lvs (t.take (j+1))=lvs (t.take j):=by rw[zp2 hj',if_neg];unfold isLf;simp only[zb];omega
   have ei:idsL (t.take (j+1))=idsL (t.take j):=by unfold idsL;rw[e]
   have es:sgnL (t.take (j+1))=sgnL (t.take j):=by unfold sgnL;rw[e]
   refine zc (m:=((j+1:Nat):Int)) (by omega) (by omega) ?_
   exact⟨j+1,by omega,by omega,zac [(0,0),(1,1),(2,2)] rfl ⟨cr,rfl,ze (by rw[e]),cr,cr,cr,trivial⟩ ⟨λ_ _ _ hh=>by rw[ei];exact hh,λ_ _ _ hh=>by rw[es];exact hh,⟨_,_,rfl,rfl,_,_,rfl,rfl,rfl⟩,trivial⟩⟩
  ·simp only[zb]at h2
   have e:lvs (t.take (j+1))=lvs (t.take j)++[nT t j]:=by rw[zp2 hj',if_pos];unfold isLf;simp only[zb];omega
   have ei:idsL (t.take (j+1))=idsL (t.take j)++[(nT t j).leaf.ident]:=by unfold idsL;rw[e,List.map_append];rfl
   have es:sgnL (t.take (j+1))=sgnL (t.take j)++[(nT t j).leaf.sign]:=by unfold sgnL;rw[e,List.map_append];rfl
   have li:(idsL (t.take j)).length=(lvs (t.take j)).length:=by simp
   have ls:(sgnL (t.take j)).length=(lvs (t.take j)).length:=by simp
   have bi:=zjg (cntS (idsL (t.take j))) (nT t j).leaf.ident (zr5 _) (by omega)
   have b2:=zjg (cntS (sgnL (t.take j))) (nT t j).leaf.sign (zr5 _) (by omega)
   refine zc (m:=(((lvs (t.take (j+1))).length:Nat):Int)) (by rw[e];simp) (by omega) ?_
   refine Vadr.mk' 0 rfl (by decide) ?_
   refine Vfun.str rfl rfl ?_
   refine Vstep.lookG (q:=qS) (n:=(nT t j).leaf.ident) (I 0) rfl rfl rfl rfl rfl (zoy _) zjw (zho zo0) z0p (λ_ _=>by simp[RV.at_]) ?_
   rw[zkf]
   refine zc (m:=iget (cntS (idsL (t.take j))) (nT t j).leaf.ident+1) rfl (by omega) ?_
   refine Vstep.putG (q:=qS) (n:=(nT t j).leaf.ident) rfl rfl rfl rfl rfl (zoy _) rfl rfl zjw (zho zo0) ?_
   rw[zkh,<-zfa,<-ei]
   refine Vadr.mk' 1 rfl (by decide) ?_
   refine Vfun.str rfl rfl ?_
   refine Vstep.lookG (q:=qS) (n:=(nT t j).leaf.sign) (I 0) rfl rfl rfl rfl rfl (zoy _) zjw (zho zo0) z0p (λ_ _=>by simp[RV.at_]) ?_
   rw[zkf]
   refine zc (m:=iget (cntS (sgnL (t.take j))) (nT t j).leaf.sign+1) rfl (by omega) ?_
   refine Vstep.putG (q:=qS) (n:=(nT t j).leaf.sign) rfl rfl rfl rfl rfl (zoy _) rfl rfl zjw (zho zo0) ?_
   rw[zkh,<-zfa,<-es]
   refine zc (m:=((j+1:Nat):Int)) (by omega) (by omega) ?_
   exact⟨j+1,by omega,by omega,zac [(0,0),(1,1),(2,2)] rfl ⟨cr,rfl,cr,cr,cr,cr,trivial⟩ ⟨λ_ _ _ hh=>hh,λ_ _ _ hh=>hh,⟨_,_,rfl,rfl,_,_,rfl,rfl,rfl⟩,trivial⟩⟩
 ·simp only[zb]at h
  have ht:t.take j=t:=List.take_of_length_le (by omega)
  have ci:=(zo7 (idsL t)).2
  have cs:=(zo7 (sgnL t)).2
  have li:(idsL t).length=(lvs t).length:=by simp
  have ls:(sgnL t).length=(lvs t).length:=by simp
  rw[li]at ci
  rw[ls]at cs
  unfold apI
  rw[ht]
  refine Vadr.mk' 0 rfl (by decide) ?_
  refine⟨⟨_,_,zjw⟩,?_⟩
  refine zg (λk1=>?_) (λk1=>?_)
  ·simp only[zb,embI,List.length_map]at k1
   refine Vadr.mk' 1 rfl (by decide) ?_
   refine⟨⟨_,_,zjw⟩,?_⟩
   refine Vcmp.mk' (m:=zgp t) ?_ (cr)
   unfold zgp
   rw[Bool.eq_iff_iff]
   simp only[zb,embI,List.length_map]
   have k2:=ci.1 (by omega)
   constructor
   ·rintro⟨_,h2⟩
    have:=cs.2 h2
    omega
   ·intro h2
    exact⟨k2,cs.1 (by omega)⟩
  ·simp only[zb,embI,List.length_map]at k1
   refine ze (congrArg RV.b (Eq.symm ?_))
   unfold zgp
   simp only[zb]
   rintro⟨h2,_⟩
   have:=ci.2 h2
   omega
end
end Go.Proofs.YtddokcpcpoihmaaGreat.Sx
