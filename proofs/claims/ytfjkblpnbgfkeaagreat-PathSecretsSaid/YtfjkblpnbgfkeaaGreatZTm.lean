import Derived.Test.YtfjkblpnbgfkeaaGreatZGj
import Derived.Shelf.SlicesG.Cmp
import Derived.Ground.SlgcProg
import Derived.Test.YtfjkblpnbgfkeaaGreatZEs
import Derived.Maps.RangeRun
import Derived.Test.YtfjkblpnbgfkeaaGreatZKo
import Derived.Shelf.SlIterI.Nil
import Derived.Shelf.SortM.Plain
import Derived.Shelf.SortM.SortNone
import Derived.Ground.GgzProg
import Derived.Ground.SlgmProg
import Derived.WideShapes
namespace Go.Proofs.YtfjkblpnbgfkeaaGreat.Sx
open Go.RowKit
set_option linter.unusedVariables false
section
open Go.RowKit Go.Shelf Go.Sort Go.Lib
def zxu:Go.Shelf.Ren:=⟨λ |5=>71 |7=>127 |n=>n,λ |22=>3 |3=>3 |4=>4 |n=>n,λ |n=>n⟩
theorem zagb:Go.Proofs.SlLaysC2.n5 Tryz.prog zxu:={
 mixed:=by kernel_rfl
 f5:=⟨Tryz.f71.name,by decide,Tryz.func71.trans (congrArg some (by kernel_rfl))⟩
 f7:=⟨Tryz.f127.name,by decide,Tryz.func127.trans (congrArg some (by kernel_rfl))⟩
 t3:=Tryz.underlying3
 a3:=Tryz.isAgg3
 z3:=Tryz.sizeOf3
 v3:=Tryz.zeroValue3
 t4:=Tryz.underlying4
 a4:=Tryz.isAgg4
 z4:=Tryz.sizeOf4
 v4:=Tryz.zeroValue4
 t22:=Tryz.underlying3
 a22:=Tryz.isAgg3
 z22:=Tryz.sizeOf3
 v22:=Tryz.zeroValue3}
def cmpK(x y:KeyV):Int:=Lib.compareInt x.1 y.1
theorem ltK(x y:KeyV):ltOf cmpK x y=decide (x.1<y.1):=by
 unfold ltOf cmpK Lib.compareInt
 by_cases h1:x.1<y.1
 ·simp[h1]
 ·by_cases h2:y.1<x.1<;>simp[h1,h2]
theorem swoK:SWO (ltOf cmpK)where
 irrefl x:=by rw[ltK];simp
 trans x y z h1 h2:=by rw[ltK]at*;simp at*;omega
 ntrans x y z h1 h2:=by rw[ltK]at*;simp at*;omega
set_option maxHeartbeats 1000000 in
theorem z2u(x y:KeyV)(W:World):Calls Tryz.prog 70 #[.agg (zb7 x).toArray, .agg (zb7 y).toArray] W λe w'=>e= .returned (.int .i64 (cmpK x y))/\∃q os',w'=grow (W.drewN q) os':=by
 have hcon:=λW'=>AnyG.cmp_Compare_int zagb x.1 y.1 W'
 change∀W',Calls Tryz.prog 71 _ _ _ at hcon
 change Calls _ _ _ _ λe w'=>e= .returned (.int .i64 (Lib.compareInt x.1 y.1))/\_
 generalize Lib.compareInt x.1 y.1=r at hcon⊢
 obtain⟨a,u⟩:=x
 obtain⟨b,v⟩:=y
 change∀W',Calls _ _ #[.int .i64 a, .int .i64 b] _ _ at hcon
 change Calls _ _ #[.agg #[.int .i64 a,u.1], .agg #[.int .i64 b,v.1]] _ _
 go_enter Tryz.func70,Tryz.ntmps70
 go_wp2_with (go_at_call 71;refine(hcon _).mono ?_;rintro e w' ⟨rfl,rfl⟩)
 go_ret
 exact⟨rfl,0,_,by rw[alloc_eq_grow,alloc_eq_grow,grow_grow];rfl⟩
end
section
open Go.RowKit Go.Shelf Go.Sort
def Inpl(P:Program)(f:FuncId)(e:TypeId)(sz n:Nat)(cells cells':List RV)(fv:Value):Prop:=
 zi5 P f/\∀w k u ob,chAt w k e sz n cells false u ob->(∀b,ob=some b->b<w.heap.size)->Calls P f #[u,fv] w λen w'=>en= .returned (.tuple #[])/\Keep ob.toList w w'/\chAt w' k e sz n cells' false u ob
section
variable {P:Program} {T:TT} {S:St} {o:Oper}
theorem Vstep.inpl{x y:Operand}{ts:Array TypeId}{f:FuncId}{fv:Value}{id:Nat}{e:TypeId}{sz n:Nat}{cells cells':List RV}{K:St->Prop}(hI:Inpl P f e sz n cells cells' fv)(hn:0<n)
  (hop:o.op= .call {callee:= .value (.func f),args:= #[x,y],argTypes:=ts}) (hx:opr S x=some (.own id)) (ho:oget S.O id=some (.ch e sz n cells false)) (hy:opr S y=some (.r (.x fv)))
  (hK:newK (S.set id (some (.ch e sz n cells' false))) o.dst (.r (.tu [])) none K):Vstep P S o K:=by
 rw[zau]at hK
 refine Vstep.one (λB N a w k Q ⟨g,hs⟩ hd=>?_) hK
 obtain⟨⟨fn,c,hf,hb,hnm⟩,hA⟩:=hI
 have hxv:=(zaf hs hx).2
 have hyv:=(zaf hs hy).2
 simp only[TF.at_,RV.at_]at hxv hyv
 obtain⟨hid,hlo,hat,hblk⟩:=hs.owns id _ ho
 have hat':=hat
 simp only[Ow.at_]at hat
 have hbl: ∀b,(g id).2=some b->b<w.heap.size:=λb hb=>(hblk b hb).2
 unfold Oper.wp
 have hrun:(execOp a.eval o).run P w=(callFunc f #[(g id).1,fv]).run P w:=by
  have e2:a.eval (.func f)= .func (.func f) #[] #[]:=rfl
  simp[execOp,hop,resolve,Deferred.ofValue,invoke,hxv,hyv,e2]
 rw[hrun,zgh hf hb hnm]
 simp only[Oper.upon]
 refine(hA w k _ _ hat hbl).mono ?_
 rintro en w' ⟨rfl,hkeep,hch⟩
 simp only
 obtain⟨hcl,hc⟩:=hat
 rcases hc with⟨hno,h0 |⟨_,hp,_⟩⟩ |⟨b,cap,cur,e1,e2,hh,h1,h2,h3,h4,h5⟩
 ·omega
 ·cases hp
 have hk0:k b=0:=by simpa using h4
 have hw:Wrote w k w' k (some b):=by
  refine⟨hkeep.os,hkeep.tape,hkeep.output,hkeep.size,λx hx hne=>⟨hkeep.block x hx (by rw[e1];simp only[Option.toList,List.mem_singleton];exactλh=>hne (by rw[h])),rfl⟩,λx hx=>?_⟩
  cases hx
  exact⟨Nat.le_refl _,λo' ho'=>by omega,λh=>by omega⟩
 refine⟨k,g,(hs.redo (ow':= .ch e sz n cells' false) ho e1 hw trivial ?_).put hd trivial ?_⟩
 ·simp only[Ow.at_]
  exact hch
 ·simp only[TF.at_,RV.at_]
  exact⟨#[],rfl,rfl⟩
end
theorem zot: ∀(ds:List KeyV) (t:Nat),t<ds.length*2->(ds.flatMap zb7)[t]?=some ((zb7 (ds.toArray[t/2]!))[t%2]!)
 |[],t,h=>by simp at h
 |x::ds,0,_=>by simp[zb7]
 |x::ds,1,_=>by simp[zb7]
 |x::ds,t+2,h=>by
  have ih:=zot ds t (by simp only[List.length_cons]at h;omega)
  have e1:(t+2)/2=t/2+1:=by omega
  have e2:(t+2)%2=t%2:=by omega
  have e3:(x::ds).toArray[t/2+1]! =ds.toArray[t/2]! :=by simp
  rw[e1,e2,e3,<-ih]
  simp[zb7]
theorem z0i(ds:List KeyV):(flatK zb7 2 ds.toArray).toList=ds.flatMap zb7:=by
 apply List.ext_getElem?
 intro t
 have hlen:(ds.flatMap zb7).length=ds.length*2:=by
  induction ds with
  |nil=>rfl
  |cons x r ih=>rw[List.flatMap_cons,List.length_append,ih,zs0,List.length_cons];omega
 rcases Nat.lt_or_ge t (ds.length*2)with h |h
 ·rw[zot ds t h]
  have h1:t< (flatK zb7 2 ds.toArray).size:=by rw[size_flatK];simpa using h
  rw[Array.getElem?_toList,Array.getElem?_eq_getElem h1,<-getElem!_pos _ t h1,get_flatK _ _ _ _ (by simpa using h)]
 ·rw[List.getElem?_eq_none (by rw[Array.length_toList,size_flatK];simpa using h),List.getElem?_eq_none (by omega)]
theorem z8u{w:World}{k:Kp}{b m:Nat}{e:TypeId}{cur:Array Value}{os:Array Obj}{d':Array KeyV}(hh:w.heap[b]?=some (.cells cur e (0,0)))(hsz:d'.size*2<=cur.size):
  ∃cur',(sortWorldK zb7 2 w b 0 m d' os).heap[b]?=some (.cells cur' e (0,0))/\cur'.size=cur.size/\cur'.toList.take (d'.size*2)=d'.toList.flatMap zb7/\Keep [b] w (sortWorldK zb7 2 w b 0 m d' os):=by
 have hb:b<w.heap.size:=(Array.getElem?_eq_some_iff.1 hh).1
 have hhp:(sortWorldK zb7 2 w b 0 m d' os).heap=(w.heap.modify b (onCells (putCells id 0 (flatK zb7 2 d'))))++os:=rfl
 refine⟨putCells id 0 (flatK zb7 2 d') cur,?_,by simp[putCells],?_,rfl,rfl,rfl,by rw[hhp];simp,λx hx hne=>?_⟩
 ·rw[hhp,Array.getElem?_append_left (by simpa using hb),Array.getElem?_modify,if_pos rfl,hh]
  rfl
 ·rw[<-z0i d'.toList]
  apply List.ext_getElem?
  intro t
  rw[List.getElem?_take]
  by_cases h:t<d'.size*2
  ·have h1:t< (flatK zb7 2 d').size:=by rw[size_flatK];exact h
   rw[if_pos h]
   simp only[putCells,Array.getElem?_toList,Array.getElem?_mapIdx]
   rw[Array.getElem?_eq_getElem (show t<cur.size by omega)]
   simp only[Option.map_some,Nat.zero_le,true_and,Nat.zero_add,id,Nat.sub_zero]
   rw[if_pos h1,Array.getElem?_eq_getElem h1,<-getElem!_pos _ t h1]
  ·rw[if_neg h]
   symm
   rw[List.getElem?_eq_none (by rw[Array.length_toList,size_flatK];simpa using h)]
 ·rw[hhp,Array.getElem?_append_left (by simpa using hx),Array.getElem?_modify,if_neg (λh=>hne (by rw[h];simp))]
theorem zmb: ∀l:List KeyP,(l.flatMap KeyP.c).length=l.length*2
 |[]=>rfl
 |x::r=>by rw[List.flatMap_cons,List.length_append,zmb r,List.length_cons];show 2+r.length*2=(r.length+1)*2;omega
abbrev keyT:TypeId:=74
abbrev zfkb:Value:= .func (.func 70) #[] #[]
set_option maxHeartbeats 1000000 in
theorem z02(l:List KeyP)(hl:l.length<=1000000)(hn:0<l.length)(hd:(l.map (·.at_)).Nodup):Inpl Tryz.prog 69 keyT 2 l.length (l.flatMap KeyP.c) ((zd5 l).flatMap KeyP.c) zfkb:=by
 refine⟨zaw Tryz.func69 rfl (by kernel_rfl),λw k u ob hch hob=>?_⟩
 obtain⟨hcl,hc⟩:=hch
 rcases hc with⟨hno,h0 |⟨_,hp,_⟩⟩ |⟨b,cap,cur,rfl,rfl,hh,h1,h2,h3,h4,h5⟩
 ·omega
 ·cases hp
 have hk0:k b=0:=by simpa using h4
 have hb:=hob b rfl
 obtain⟨ds,hus,hds⟩:=zw1 l _ h5
 have hdl:=hds.len
 have hcs:l.length*2<=cur.size:=Nat.le_trans (Nat.mul_le_mul_right _ h1) h3
 have eg: ∀args w,(callFunc 70 args).run Tryz.prog w= .ok (.enter 70 args) w:=enters_of Tryz.func70 (by kernel_rfl) rfl
 have hH:HoldsK zb7 2 w b 0 ds.toArray:=λj hj=>by
  rw[size_flatK]at hj
  have hj':j<ds.length*2:=by simpa using hj
  refine⟨?_,by simp[World.frozen?,hh]⟩
  rw[Nat.zero_add,cell_of_row w b j cur _ (0,0) hh,get_flatK _ _ _ _ hj]
  have:=zot ds j hj'
  rw[<-hus,List.getElem?_take,if_pos (by omega),Array.getElem?_toList]at this
  exact this
 have hsz:ds.toArray.size=l.length:=by simpa using hdl
 have hcon:=AnyQ.slices_SortFunc z8t 2 (Tryz.isAgg74) (Tryz.sizeOf74) zb7 zs0 z29 cmpK swoK 70 #[] b 0 cap ds.toArray w eg (λ_ _ _ _ x y=>z2u x y _) hH hb (by rw[hsz];omega)
 rw[hsz]at hcon
 refine hcon.mono ?_
 rintro en w' ⟨rfl,d',m,os,hP,hS,rfl⟩
 have hds':d'.size=l.length:=hP.1.trans hsz
 obtain⟨cur',q1,q2,q3,q4⟩:=z8u (w:=w) (k:=k) (b:=b) (m:=m) (e:=keyT) (os:=os) (d':=d') hh (by rw[hds'];exact hcs)
 refine⟨rfl,q4,?_⟩
 have hperm:ds.Perm d'.toList:=by
  have:=hP.2.2
  rw[Array.extract_eq_self_of_le (by rw[hds'];exact Nat.le_refl _),Array.extract_eq_self_of_le (by rw[hsz];exact Nat.le_refl _)]at this
  exact this.symm
 obtain⟨l',hpl,hall⟩:=All2.perm hperm hds
 have hsrt:l'.Pairwise λa b=>a.at_<=b.at_:=by
  rw[List.pairwise_iff_getElem]
  intro i j hi hj hij
  have hl':l'.length=d'.size:=by rw[<-hall.len,Array.length_toList]
  have s:=hS i j (Nat.zero_le _) hij (by omega)
  rw[ltK,decide_eq_false_iff_not]at s
  have g1: ∀(t:Nat) (ht:t<l'.length),(d'[t]!).1=l'[t].at_:=λt ht=>by
   have hget: ∀{xs:List KeyV} {ys:List KeyP},All2 (z07 w k) xs ys->∀(t:Nat) (hx:t<xs.length) (hy:t<ys.length),xs[t].1=ys[t].at_:=by
    intro xs ys h
    induction h with
    |nil=>intro t hx;simp at hx
    |cons h1 _ ih=>
     intro t hx hy
     cases t with
     |zero=>exact h1.1
     |succ t=>exact ih t (by simpa using hx) (by simpa using hy)
   have:=hget hall t (by rw[Array.length_toList];omega) ht
   rw[getElem!_pos _ t (by omega)]
   simpa using this
  rw[g1 i hi,g1 j hj]at s
  omega
 have hl':l'=zd5 l:=zcbb hd hpl.symm hsrt
 subst hl'
 have hle:Le w k (sortWorldK zb7 2 w b 0 m d' os) k:=by
  refine⟨q4.size,λ_ _=>Nat.le_refl _,λx o hx ho=>?_,λx hx hk es c he=>?_⟩
  ·by_cases hxb:x=b
   ·subst hxb;omega
   ·exact World.cell?_of_block (a:=⟨x,o,none⟩) (q4.block x hx (by simpa using hxb))
  ·by_cases hxb:x=b
   ·subst hxb;omega
   ·exact(q4.block x hx (by simpa using hxb)).trans he
 have hrow:=zvw (hall.mono λa c h=>⟨h.1,RV.mono hle _ _ h.2⟩)
 rw[<-q3,hds']at hrow
 have hlen2:(zd5 l).length=l.length:=(zfv l).length_eq
 refine⟨by rw[<-hcl,zmb,zmb,hlen2], .inr ⟨b,cap,cur',rfl,rfl,q1,h1,h2,by rw[q2];exact h3,by simpa using hk0,hrow⟩⟩
end
section
def itO(ents:List (Int×RV))(dn:List Nat)(last:Option Nat):GOw where
 at_ w k vb:=∃r,vb=(.pointer (some ⟨r,0,none⟩),some r)/\k r=0/\((ents=[]/\last=none/\w.heap[r]?=some (.mapIter none 0 #[] 0))\/
  ∃b es c since seen c0,b<w.heap.size/\0<k b/\w.heap[b]?=some (.map es c)/\entsAt w k ents es.toList/\stampE es c/\w.heap[r]?=some (.mapIter (some b) since seen c0)/\(∀x∈es.toList,x.born<since)/\since<=c0/\since<=c/\
   (∀j e,es.toList[j]?=some e->(seen.contains e.born=true↔j∈dn))/\(∀j,last=some j->∃e s,es.toList[j]?=some e/\seen=Array.push s e.born/\c0=c))
 mono:=by
  rintro w k w' k' vb h hb ⟨r,rfl,hk,hr⟩
  obtain⟨h1,h2⟩:=hb r rfl
  refine⟨r,rfl,h2.trans hk,?_⟩
  rcases hr with⟨e1,e2,hr⟩ |⟨b,es,c,since,seen,c0,q1,q2,q3,q4,q5,q6,q7,q8,q9,q10,q11⟩
  ·exact .inl ⟨e1,e2,h1.trans hr⟩
  ·exact .inr ⟨b,es,c,since,seen,c0,Nat.lt_of_lt_of_le q1 h.size,Nat.lt_of_lt_of_le q2 (h.keep b q1),h.map b q1 q2 es c q3,q4.mono h,q5,h1.trans q6,q7,q8,q9,q10,q11⟩
 one:=by rintro w k vb ⟨r,rfl,_⟩;rfl
theorem zqf{ents:List (Int×RV)}{dn:List Nat}{last:Option Nat}(w:World)(k:Kp)(vb:Value×Option Nat)(h:(itO ents dn last).at_ w k vb):(itO ents dn none).at_ w k vb:=by
 obtain⟨r,e,hk,hr⟩:=h
 refine⟨r,e,hk,?_⟩
 rcases hr with⟨e1,_,hr⟩ |⟨b,es,c,since,seen,c0,q1,q2,q3,q4,q5,q6,q7,q8,q9,q10,_⟩
 ·exact .inl ⟨e1,rfl,hr⟩
 ·exact .inr ⟨b,es,c,since,seen,c0,q1,q2,q3,q4,q5,q6,q7,q8,q9,q10,λj h=>by cases h⟩
theorem z40{l:List Nat}(h:l.Nodup){i j x:Nat}(hi:l[i]?=some x)(hj:l[j]?=some x):i=j:=by
 obtain⟨h1,e1⟩:=List.getElem?_eq_some_iff.1 hi
 obtain⟨h2,e2⟩:=List.getElem?_eq_some_iff.1 hj
 rcases Nat.lt_trichotomy i j with hlt |e |hlt
 ·exact absurd (e1.trans e2.symm) ((List.pairwise_iff_getElem.1 h) i j h1 h2 hlt)
 ·exact e
 ·exact absurd (e2.trans e1.symm) ((List.pairwise_iff_getElem.1 h) j i h2 h1 hlt)
theorem zjd: ∀(n:Nat) {l:List Nat},l.Nodup->(∀x∈l,x<n)->l.length<=n
 |0,l,_,h=>by
  cases l with
  |nil=>simp
  |cons x r=>have:=h x (by simp);omega
 |n+1,l,hn,h=>by
  by_cases hm:n∈l
  ·have h1:=zjd n (hn.erase n) λx hx=>by
    have:=(hn.mem_erase_iff).1 hx
    have:=h x this.2
    omega
   rw[List.length_erase_of_mem hm]at h1
   omega
  ·have:=zjd n hn λx hx=>by
    have h1:=h x hx
    have:x≠n:=λe=>hm (e▸hx)
    omega
   omega
section
variable {P:Program} {T:TT} {B:Bs} {N:Nat} {S:St} {a:Act} {w:World} {k:Kp} {g:Env} {o:Oper} {Q:Exit->Act->World->Prop}
theorem Vstep.range{t kt et:TypeId}{x:Operand}{ents:List (Int×RV)}{K:St->Prop}(hop:o.op= .range t x)(hx:opr S x=some (.r (.s (mapS ents))))(hu:P.underlying t=some (.map kt et))
  (hK:newK S o.dst (.own S.nx) (some (.gen (itO ents [] none))) K):Vstep P S o K:=by
 rw[zau]at hK
 refine Vstep.one (λB N a w k Q ⟨g,hs⟩ hd=>?_) hK
 have hv:=(zaf hs hx).2
 simp only[TF.at_,RV.at_]at hv
 rcases hv with⟨hv,rfl⟩ |⟨b,es,c,hv,hb,hk,hh,he,hst⟩
 ·refine zas (v:= .pointer (some ⟨w.heap.size,0,none⟩)) (w':=w.alloc (.mapIter none 0 #[] 0)) (by simp[execOp,hop,hv,run_range_nilMap w t kt et hu]) ⟨kset k w.heap.size 0,_,hs.make hd (zar w _) (λb hb=>zci b hb) (vb:=(.pointer (some ⟨w.heap.size,0,none⟩),some w.heap.size)) (o:= .gen (itO [] [] none)) trivial ?_ λb hb=>?_⟩
  ·exact⟨w.heap.size,rfl,zb8, .inl ⟨rfl,rfl,heap_alloc_new w _⟩⟩
  ·cases hb
   exact⟨Nat.le_refl _,by simp⟩
 ·refine zas (v:= .pointer (some ⟨w.heap.size,0,none⟩)) (w':=w.alloc (.mapIter (some b) c #[] c)) (by simp[execOp,hop,hv,run_range_map w t kt et b es c hu hh]) ⟨kset k w.heap.size 0,_,hs.make hd (zar w _) (λb hb=>zci b hb) (vb:=(.pointer (some ⟨w.heap.size,0,none⟩),some w.heap.size)) (o:= .gen (itO ents [] none)) trivial ?_ λb hb=>?_⟩
  ·have hle:=Ext.le (zar w (.mapIter (some b) c #[] c)) (k:=k) (k':=kset k w.heap.size 0) λb hb=>zci b hb
   exact⟨w.heap.size,rfl,zb8, .inr ⟨b,es,c,c, #[],c,by simp;omega,by show 0<kset k w.heap.size 0 b;rw[zci b hb];exact hk,hle.map b hb hk es c hh,he.mono hle,hst,heap_alloc_new w _,hst.1,Nat.le_refl _,Nat.le_refl _,λj e _=>by simp,λj h=>by cases h⟩⟩
  ·cases hb
   exact⟨Nat.le_refl _,by simp⟩
theorem Vstep.next{x:Operand}{id:Nat}{ents:List (Int×RV)}{dn:List Nat}{last:Option Nat}{K:St->Prop}(hop:o.op= .next x false)(hx:opr S x=some (.own id))(ho:oget S.O id=some (.gen (itO ents dn last)))
  (h0:(∀j,j<ents.length->j∈dn)->newK S o.dst (.r (.tu [.b false])) none K)
  (h1: ∀(j:Nat) (x:Int×RV),ents[j]?=some x->j∉dn->newK ⟨S.F,(id,some (.gen (itO ents (dn++[j]) (some j))))::S.O,S.nx⟩ o.dst (.r (.tu [.b true, .i .i64 x.1,x.2])) none K):Vstep P S o K:=by
 simp only[zau]at h0 h1
 let ι:={y:Option Nat//match y with
  |none=>∀j,j<ents.length->j∈dn
  |some j=>j<ents.length/\j∉dn}
 refine⟨ι,λy=>match y with
  |⟨none,_⟩=>S.new o.dst (.r (.tu [.b false])) none
  |⟨some j,h⟩=>St.new ⟨S.F,(id,some (.gen (itO ents (dn++[j]) (some j))))::S.O,S.nx⟩ o.dst (.r (.tu [.b true, .i .i64 (ents[j]'h.1).1,(ents[j]'h.1).2])) none,λB N a w k Q ⟨g,hs⟩ hd=>?_,λy=>?_⟩
 ·have hv:=(zaf hs hx).2
  simp only[TF.at_]at hv
  obtain⟨_,_,hat,_⟩:=hs.owns id _ ho
  simp only[Ow.at_]at hat
  obtain⟨r,e,hkr,hr⟩:=hat
  rw[e]at hv
  rcases hr with⟨rfl,rfl,hr⟩ |⟨b,es,c,since,seen,c0,q1,q2,q3,q4,q5,q6,q7,q8,q9,q10,q11⟩
  ·refine zas (v:= .tuple #[.bool false]) (w':=w) ?_ ⟨⟨none,λj hj=>by simp at hj⟩,k,g,hs.put hd trivial ?_⟩
   ·simp only[execOp,hop,hv,Sem.run_bind]
    simp[Instr.next,getObj,Sem.run,hr]
   ·simp only[TF.at_,RV.at_]
    exact⟨_,rfl,by simp only[RV.partsAt,RV.at_];exact⟨_,_,rfl,rfl,rfl⟩⟩
  ·rcases run_next_at (P:=P) w o.type r b since c0 seen es c q6 q3 q7 q8 with⟨hz,hrun⟩ |⟨en,hen,w1,hw1,hrun⟩
   ·have hall: ∀j,j<ents.length->j∈dn:=λj hj=>by
     have hjl:j<es.toList.length:=by rw[q4.1];exact hj
     have hjs:=List.getElem?_eq_getElem hjl
     refine(q10 j _ hjs).1 ?_
     refine Classical.byContradiction λhn=>?_
     have hm:es.toList[j]∈(leftOf es seen).toList:=by
      unfold leftOf
      rw[Array.toList_filter,List.mem_filter]
      exact⟨List.getElem_mem hjl,by simpa using hn⟩
     have:(leftOf es seen).toList=[]:=List.eq_nil_of_length_eq_zero (by rw[Array.length_toList];exact hz)
     rw[this]at hm
     cases hm
    refine zas (v:= .tuple #[.bool false]) (w':=w) (by simp[execOp,hop,hv,hrun]) ⟨⟨none,hall⟩,k,g,hs.put hd trivial ?_⟩
    simp only[TF.at_,RV.at_]
    exact⟨_,rfl,by simp only[RV.partsAt,RV.at_];exact⟨_,_,rfl,rfl,rfl⟩⟩
   ·unfold leftOf at hen
    rw[Array.toList_filter,List.mem_filter]at hen
    obtain⟨hmem,hns⟩:=hen
    obtain⟨j,hjl,hj⟩:=List.getElem_of_mem hmem
    have hjs:es.toList[j]?=some en:=by rw[List.getElem?_eq_getElem hjl,hj]
    have hje:j<ents.length:=by rw[<-q4.1];exact hjl
    have hjn:j∉dn:=λh=>by
     have:=(q10 j en hjs).2 h
     rw[this]at hns
     cases hns
    have hx1:=q4.2 j _ en (List.getElem?_eq_getElem hje) hjs
    have hheap:w1.heap=w.heap:=by rcases hw1 with rfl |rfl<;>rfl
    have hrl:r<w.heap.size:=(Array.getElem?_eq_some_iff.1 q6).1
    have hbr:b≠r:=λe=>by rw[e,q6]at q3;cases q3
    obtain⟨w2,hw2⟩: ∃w2,w2=ChangeMaps.setBlock w1 r (.mapIter (some b) since (seen.push en.born) c):=⟨_,rfl⟩
    have e2:w2.heap=w.heap.setIfInBounds r (.mapIter (some b) since (seen.push en.born) c):=by rw[hw2];simp only[ChangeMaps.setBlock];rw[hheap]
    have eos:w2.os=w.os/\w2.tape=w.tape/\w2.output=w.output:=by rw[hw2];rcases hw1 with rfl |rfl<;>exact⟨rfl,rfl,rfl⟩
    have hw:Wrote w k w2 k (some r):=⟨eos.1,eos.2.1,eos.2.2,by rw[e2];simp,λx _ hne=>⟨by rw[e2,Array.getElem?_setIfInBounds_ne (λh=>hne (by rw[h]))],rfl⟩,λx hx=>by
     cases hx
     exact⟨Nat.le_refl _,λo' ho'=>by omega,λh=>by omega⟩⟩
    have hnew:(Ow.gen (itO ents (dn++[j]) (some j))).at_ w2 k g (g id):=by
     simp only[Ow.at_]
     refine⟨r,e,hkr, .inr ⟨b,es,c,since,seen.push en.born,c,Nat.lt_of_lt_of_le q1 hw.size,q2,hw.le.map b q1 q2 es c q3,q4.mono hw.le,q5,by rw[e2,Array.getElem?_setIfInBounds_self_of_lt hrl],q7,q9,q9,λi ei hi=>?_,λi hi=>?_⟩⟩
     ·rw[Array.contains_push]
      simp only[Bool.or_eq_true,beq_iff_eq,List.mem_append,List.mem_singleton]
      constructor
      ·rintro(h |h)
       ·exact .inl ((q10 i ei hi).1 h)
       ·refine .inr (z40 q5.2.1 (x:=en.born) ?_ ?_)
        ·rw[List.getElem?_map,hi];exact congrArg some h
        ·rw[List.getElem?_map,hjs];rfl
      ·rintro(h |rfl)
       ·exact .inl ((q10 i ei hi).2 h)
       ·rw[hjs]at hi;cases hi;exact .inr rfl
     ·cases hi
      exact⟨en,seen,hjs,rfl,rfl⟩
    have hs2:=hs.redo (ow':= .gen (itO ents (dn++[j]) (some j))) ho (by rw[e]) hw trivial hnew
    refine zas (v:= .tuple #[.bool true,en.key,en.val]) (w':=w2) (by simp[execOp,hop,hv,hrun,hw2]) ⟨⟨some j,hje,hjn⟩,k,g,hs2.put hd trivial ?_⟩
    simp only[TF.at_,RV.at_]
    refine⟨_,rfl,?_⟩
    simp only[RV.partsAt,RV.at_]
    exact⟨_,_,rfl,rfl,_,_,rfl,hx1.1,_,_,rfl,RV.mono hw.le _ _ hx1.2,rfl⟩
 ·obtain⟨y,hy⟩:=y
  cases y with
  |none=>exact h0 hy
  |some j=>exact h1 j _ (List.getElem?_eq_getElem hy.1) hy.2
theorem Vstep.entry{x:Operand}{id:Nat}{ents:List (Int×RV)}{dn:List Nat}{j:Nat}{y:Int×RV}{K:St->Prop}(hop:o.op= .entry x)(hx:opr S x=some (.own id))(ho:oget S.O id=some (.gen (itO ents dn (some j))))(hy:ents[j]?=some y)
  (hK:newK S o.dst (.r (.tu [.i .i64 y.1,y.2])) none K):Vstep P S o K:=by
 rw[zau]at hK
 refine Vstep.one (λB N a w k Q ⟨g,hs⟩ hd=>?_) hK
 have hv:=(zaf hs hx).2
 simp only[TF.at_]at hv
 obtain⟨_,_,hat,_⟩:=hs.owns id _ ho
 simp only[Ow.at_]at hat
 obtain⟨r,e,hkr,hr⟩:=hat
 rw[e]at hv
 rcases hr with⟨_,h,_⟩ |⟨b,es,c,since,seen,c0,q1,q2,q3,q4,q5,q6,q7,q8,q9,q10,q11⟩
 ·cases h
 ·obtain⟨en,s,hjs,rfl,rfl⟩:=q11 j rfl
  have hx1:=q4.2 j _ en hy hjs
  have hrun:=run_entry_at (P:=P) w r b since s es c0 en q6 q3 (List.mem_of_getElem? hjs) q5.2.1
  refine zas (v:= .tuple #[en.key,en.val]) (w':=w) (by simp[execOp,hop,hv,hrun]) ⟨k,g,hs.put hd trivial ?_⟩
  simp only[TF.at_,RV.at_]
  refine⟨_,rfl,?_⟩
  simp only[RV.partsAt,RV.at_]
  exact⟨_,_,rfl,hx1.1,_,_,rfl,hx1.2,rfl⟩
end
end
section
open Go.Shelf
def zmk:Go.Shelf.Ren:=⟨λ |7=>176 |10=>253 |n=>n,λ |23=>125 |26=>3 |3=>84 |28=>240 |0=>0 |27=>239 |33=>124 |4=>4 |n=>n,λ |n=>n⟩
theorem z09:Go.Proofs.SlLaysZI.n7 Tryz.prog zmk:={
 mixed:=by kernel_rfl
 f7:=⟨Tryz.f176.name,by decide,Tryz.func176.trans (congrArg some (by kernel_rfl))⟩
 f10:=⟨Tryz.f253.name,by decide,Tryz.func253.trans (congrArg some (by kernel_rfl))⟩
 t0:=Tryz.underlying0
 a0:=Tryz.isAgg0
 z0:=Tryz.sizeOf0
 v0:=Tryz.zeroValue0
 t4:=Tryz.underlying4
 a4:=Tryz.isAgg4
 z4:=Tryz.sizeOf4
 v4:=Tryz.zeroValue4
 t23:=Tryz.underlying125
 a23:=Tryz.isAgg125
 z23:=Tryz.sizeOf125
 v23:=Tryz.zeroValue125
 t26:=Tryz.underlying3
 a26:=Tryz.isAgg3
 z26:=Tryz.sizeOf3
 v26:=Tryz.zeroValue3
 t27:=Tryz.underlying239
 a27:=Tryz.isAgg239
 z27:=Tryz.sizeOf239
 v27:=Tryz.zeroValue239
 t28:=Tryz.underlying240
 a28:=Tryz.isAgg240
 z28:=Tryz.sizeOf240
 v28:=Tryz.zeroValue240
 t33:=Tryz.underlying124
 a33:=Tryz.isAgg124
 z33:=Tryz.sizeOf124
 v33:=Tryz.zeroValue124}
def zml:Go.Shelf.Ren:=⟨λ |7=>177 |10=>254 |n=>n,λ |23=>126 |26=>3 |3=>22 |28=>240 |0=>0 |27=>239 |33=>124 |4=>4 |n=>n,λ |n=>n⟩
theorem z1a:Go.Proofs.SlLaysZI.n7 Tryz.prog zml:={
 mixed:=by kernel_rfl
 f7:=⟨Tryz.f177.name,by decide,Tryz.func177.trans (congrArg some (by kernel_rfl))⟩
 f10:=⟨Tryz.f254.name,by decide,Tryz.func254.trans (congrArg some (by kernel_rfl))⟩
 t0:=Tryz.underlying0
 a0:=Tryz.isAgg0
 z0:=Tryz.sizeOf0
 v0:=Tryz.zeroValue0
 t4:=Tryz.underlying4
 a4:=Tryz.isAgg4
 z4:=Tryz.sizeOf4
 v4:=Tryz.zeroValue4
 t23:=Tryz.underlying126
 a23:=Tryz.isAgg126
 z23:=Tryz.sizeOf126
 v23:=Tryz.zeroValue126
 t26:=Tryz.underlying3
 a26:=Tryz.isAgg3
 z26:=Tryz.sizeOf3
 v26:=Tryz.zeroValue3
 t27:=Tryz.underlying239
 a27:=Tryz.isAgg239
 z27:=Tryz.sizeOf239
 v27:=Tryz.zeroValue239
 t28:=Tryz.underlying240
 a28:=Tryz.isAgg240
 z28:=Tryz.sizeOf240
 v28:=Tryz.zeroValue240
 t33:=Tryz.underlying124
 a33:=Tryz.isAgg124
 z33:=Tryz.sizeOf124
 v33:=Tryz.zeroValue124}
def zoi:Go.Shelf.Ren:=⟨λ |6=>175 |8=>251 |9=>252 |11=>292 |13=>126 |12=>293 |23=>202 |24=>203 |14=>317 |15=>318 |16=>319 |17=>320 |18=>321 |19=>322 |20=>155 |21=>323 |22=>324 |25=>339 |26=>266 |27=>267 |28=>340 |29=>341 |30=>127 |31=>352 |n=>n,λ |26=>3 |28=>240 |24=>70 |0=>0 |3=>3 |37=>159 |48=>245 |50=>107 |4=>4 |40=>255 |39=>254 |45=>62 |5=>5 |9=>9 |51=>312 |55=>316 |57=>340 |58=>151 |33=>124 |n=>n,λ |n=>n⟩
theorem zzw:Go.Proofs.SlLaysZI.n6 Tryz.prog zoi:={
 mixed:=by kernel_rfl
 f6:=⟨Tryz.f175.name,by decide,Tryz.func175.trans (congrArg some (by kernel_rfl))⟩
 f8:=⟨Tryz.f251.name,by decide,Tryz.func251.trans (congrArg some (by kernel_rfl))⟩
 f11:=⟨Tryz.f292.name,by decide,Tryz.func292.trans (congrArg some (by kernel_rfl))⟩
 t0:=Tryz.underlying0
 a0:=Tryz.isAgg0
 z0:=Tryz.sizeOf0
 v0:=Tryz.zeroValue0
 t24:=Tryz.underlying70
 a24:=Tryz.isAgg70
 z24:=Tryz.sizeOf70
 v24:=Tryz.zeroValue70
 t26:=Tryz.underlying3
 a26:=Tryz.isAgg3
 z26:=Tryz.sizeOf3
 v26:=Tryz.zeroValue3
 t28:=Tryz.underlying240
 a28:=Tryz.isAgg240
 z28:=Tryz.sizeOf240
 v28:=Tryz.zeroValue240
 i26:=by kernel_rfl}
def z5t:Go.Shelf.Ren:=⟨λ |5=>252 |8=>126 |7=>293 |19=>202 |20=>203 |10=>317 |11=>318 |12=>319 |13=>320 |14=>321 |15=>322 |16=>155 |17=>323 |18=>324 |30=>339 |31=>266 |32=>267 |33=>340 |34=>341 |35=>127 |40=>352 |n=>n,λ |23=>70 |25=>3 |3=>3 |32=>159 |22=>70 |0=>0 |44=>245 |46=>107 |4=>4 |36=>255 |35=>254 |41=>62 |5=>5 |9=>9 |53=>312 |57=>316 |63=>340 |64=>151 |n=>n,λ |n=>n⟩
theorem z9x:Go.Proofs.SlLaysM.n5 Tryz.prog z5t:={
 mixed:=by kernel_rfl
 f5:=⟨Tryz.f252.name,by decide,Tryz.func252.trans (congrArg some (by kernel_rfl))⟩
 f7:=⟨Tryz.f293.name,by decide,Tryz.func293.trans (congrArg some (by kernel_rfl))⟩
 f8:=Tryz.func126.trans (congrArg some (by kernel_rfl))
 f10:=⟨Tryz.f317.name,by decide,Tryz.func317.trans (congrArg some (by kernel_rfl))⟩
 f11:=⟨Tryz.f318.name,by decide,Tryz.func318.trans (congrArg some (by kernel_rfl))⟩
 f12:=⟨Tryz.f319.name,by decide,Tryz.func319.trans (congrArg some (by kernel_rfl))⟩
 f13:=⟨Tryz.f320.name,by decide,Tryz.func320.trans (congrArg some (by kernel_rfl))⟩
 f14:=⟨Tryz.f321.name,by decide,Tryz.func321.trans (congrArg some (by kernel_rfl))⟩
 f15:=⟨Tryz.f322.name,by decide,Tryz.func322.trans (congrArg some (by kernel_rfl))⟩
 f16:=⟨Tryz.f155.name,by decide,Tryz.func155.trans (congrArg some (by kernel_rfl))⟩
 f17:=⟨Tryz.f323.name,by decide,Tryz.func323.trans (congrArg some (by kernel_rfl))⟩
 f18:=⟨Tryz.f324.name,by decide,Tryz.func324.trans (congrArg some (by kernel_rfl))⟩
 f19:=Tryz.func202.trans (congrArg some (by kernel_rfl))
 f20:=Tryz.func203.trans (congrArg some (by kernel_rfl))
 f30:=⟨Tryz.f339.name,by decide,Tryz.func339.trans (congrArg some (by kernel_rfl))⟩
 f31:=Tryz.func266.trans (congrArg some (by kernel_rfl))
 f32:=Tryz.func267.trans (congrArg some (by kernel_rfl))
 f33:=⟨Tryz.f340.name,by decide,Tryz.func340.trans (congrArg some (by kernel_rfl))⟩
 f34:=⟨Tryz.f341.name,by decide,Tryz.func341.trans (congrArg some (by kernel_rfl))⟩
 f35:=⟨Tryz.f127.name,by decide,Tryz.func127.trans (congrArg some (by kernel_rfl))⟩
 f40:=⟨Tryz.f352.name,by decide,Tryz.func352.trans (congrArg some (by kernel_rfl))⟩
 t0:=Tryz.underlying0
 a0:=Tryz.isAgg0
 z0:=Tryz.sizeOf0
 v0:=Tryz.zeroValue0
 t3:=Tryz.underlying3
 a3:=Tryz.isAgg3
 z3:=Tryz.sizeOf3
 v3:=Tryz.zeroValue3
 t4:=Tryz.underlying4
 a4:=Tryz.isAgg4
 z4:=Tryz.sizeOf4
 v4:=Tryz.zeroValue4
 t5:=Tryz.underlying5
 a5:=Tryz.isAgg5
 z5:=Tryz.sizeOf5
 v5:=Tryz.zeroValue5
 t9:=Tryz.underlying9
 a9:=Tryz.isAgg9
 z9:=Tryz.sizeOf9
 v9:=Tryz.zeroValue9
 t22:=Tryz.underlying70
 a22:=Tryz.isAgg70
 z22:=Tryz.sizeOf70
 v22:=Tryz.zeroValue70
 t23:=Tryz.underlying70
 a23:=Tryz.isAgg70
 z23:=Tryz.sizeOf70
 v23:=Tryz.zeroValue70
 t25:=Tryz.underlying3
 a25:=Tryz.isAgg3
 z25:=Tryz.sizeOf3
 v25:=Tryz.zeroValue3
 t32:=Tryz.underlying159
 a32:=Tryz.isAgg159
 z32:=Tryz.sizeOf159
 v32:=Tryz.zeroValue159
 t35:=Tryz.underlying254
 a35:=Tryz.isAgg254
 z35:=Tryz.sizeOf254
 v35:=Tryz.zeroValue254
 t36:=Tryz.underlying255
 a36:=Tryz.isAgg255
 z36:=Tryz.sizeOf255
 v36:=Tryz.zeroValue255
 t41:=Tryz.underlying62
 a41:=Tryz.isAgg62
 z41:=Tryz.sizeOf62
 v41:=Tryz.zeroValue62
 t44:=Tryz.underlying245
 a44:=Tryz.isAgg245
 z44:=Tryz.sizeOf245
 v44:=Tryz.zeroValue245
 t46:=Tryz.underlying107
 a46:=Tryz.isAgg107
 z46:=Tryz.sizeOf107
 v46:=Tryz.zeroValue107
 t53:=Tryz.underlying312
 a53:=Tryz.isAgg312
 z53:=Tryz.sizeOf312
 v53:=Tryz.zeroValue312
 t57:=Tryz.underlying316
 a57:=Tryz.isAgg316
 z57:=Tryz.sizeOf316
 v57:=Tryz.zeroValue316
 t63:=Tryz.underlying340
 a63:=Tryz.isAgg340
 z63:=Tryz.sizeOf340
 v63:=Tryz.zeroValue340
 t64:=Tryz.underlying151
 a64:=Tryz.isAgg151
 z64:=Tryz.sizeOf151
 v64:=Tryz.zeroValue151}
end
section
open Go.RowKit Go.Maps Go.Sort Go.Shelf
def znk(f:FuncId)(ents:List (Int×RV)):Stable where
 at_ w k v:=∃b m,v= .func (.func f) #[] #[.pointer (some ⟨b,0,none⟩)]/\b<w.heap.size/\0<k b/\w.cell? ⟨b,0,none⟩=some m/\(mapS ents).at_ w k m
 mono:=λh ⟨b,m,e,hb,hk,hc,hm⟩=>⟨b,m,e,Nat.lt_of_lt_of_le hb h.size,Nat.lt_of_lt_of_le hk (h.keep b hb),(h.cell b 0 hb hk).trans hc,(mapS ents).mono h hm⟩
 one:=by rintro w k v ⟨b,m,rfl,_⟩;rfl
def zcw(l:List Int):List Int:=l.mergeSort leI
theorem ztb{ents:List (Int×RV)}{P:Program}{f fi:FuncId}{t:TypeId}(hk:zi5 P f)(hc: ∀mb w,Calls P f #[.map mb] w λe w'=>e= .returned (.func (.func fi) #[] #[.pointer (some ⟨w.heap.size,0,none⟩)])/\w'=w.alloc (.cells #[.map mb] t)):zab P f [.s (mapS ents)] (.r (.s (znk fi ents))):=by
 refine⟨hk,λw k vs hp=>?_⟩
 obtain⟨a,rfl,h1⟩:=zfo hp
 simp only[RV.at_]at h1
 have hmb: ∃mb,a= .map mb:=by
  rcases h1 with⟨rfl,_⟩ |⟨b,_,_,rfl,_⟩
  ·exact⟨none,rfl⟩
  ·exact⟨some b,rfl⟩
 obtain⟨mb,rfl⟩:=hmb
 refine(hc mb w).mono ?_
 rintro e w' ⟨rfl,rfl⟩
 have hle:=Ext.le (zar w (.cells #[.map mb] t)) (k:=k) (k':=kset k w.heap.size 1) λb hb=>zci b hb
 refine⟨_,rfl,zar w _,kset k w.heap.size 1,λb hb=>zci b hb,?_⟩
 simp only[Res.at_,RV.at_]
 refine⟨w.heap.size, .map mb,rfl,by simp,by rw[zb8];omega,?_,(mapS ents).mono hle h1⟩
 rw[cell_of_row (w.alloc (.cells #[.map mb] t)) w.heap.size 0 #[.map mb] t (0,0) (heap_alloc_new w _)]
 rfl
theorem zarb(ents:List (Int×RV)):zab Tryz.prog 176 [.s (mapS ents)] (.r (.s (znk 253 ents))):=
 ztb (zaw Tryz.func176 rfl (by kernel_rfl)) λmb w=>(callsIn_wide (n:=5)).1 (AnyZI.keys_in z09 Fence.wide 5 trivial rfl mb w)
theorem zaqb(ents:List (Int×RV)):zab Tryz.prog 177 [.s (mapS ents)] (.r (.s (znk 254 ents))):=
 ztb (zaw Tryz.func177 rfl (by kernel_rfl)) λmb w=>(callsIn_wide (n:=5)).1 (AnyZI.keys_in z1a Fence.wide 5 trivial rfl mb w)
theorem zxa(m:Nat):AnyZI.SortsIn Tryz.prog zoi Fence.wide m:=
 ⟨λblk off cap ss W hH hblk hsz=>callsIn_wide.2 (AnyM.slices_Sort_int z9x blk off cap ss W hH hblk hsz),
 λp cap W=>callsIn_wide.2 (AnyM.slices_Sort_int_none z9x p cap W)⟩
abbrev rdN:Value->Option (DataW Unit×List MemPlace):=λ_=>some (.nil,[])
theorem zb1b{P:Program}{ti:TypeId}(hu:P.underlying ti=some (.int .i64)){ents:List (Int×RV)}{w:World}{k:Kp}{b:Nat}{es:Array MapEntry}{c:Nat}(hl:ents.length<=1000000)(hi: ∀x∈ents,i64 x.1)(hh:w.heap[b]?=some (.map es c))(he:entsAt w k ents es.toList)(hst:stampE es c):
  ∃D0:DataW Unit,w.ownsMap P ti rdN b es.size D0/\(intKeys D0).Perm (ents.map (·.1))/\Maps.size D0=ents.length:=by
 have hkey: ∀(j:Nat) (x:MapEntry),es.toList[j]?=some x->∃y,ents[j]?=some y/\Go.WideElems.rd P ti rdN x=some (.int .i64 y.1, .nil):=λj x hx=>by
  have hj:=(List.getElem?_eq_some_iff.1 hx).1
  have hj2:j<ents.length:=by rw[<-he.1];exact hj
  have h1:=he.2 j _ x (List.getElem?_eq_getElem hj2) hx
  refine⟨_,List.getElem?_eq_getElem hj2,?_⟩
  have hb:=hi _ (List.getElem_mem hj2)
  have hwf:(Lit.int .i64 ents[j].1).wf=true:=by
   unfold i64 at hb
   simp[Lit.wf,IntKind.min,IntKind.max,IntKind.signed,IntKind.bits]
   omega
  unfold Go.WideElems.rd
  simp[keyOf,hu,mapKey,h1.1,hwf]
 have hmap:es.toList.map (Go.WideElems.rg P ti rdN)=ents.map λy=>((.int .i64 y.1:Lit),(.nil:DataW Unit)):=by
  apply List.ext_getElem?
  intro j
  rw[List.getElem?_map,List.getElem?_map]
  cases hx:es.toList[j]? with
  |none=>
   have:ents[j]?=none:=by rw[List.getElem?_eq_none_iff]at hx⊢;rw[<-he.1];exact hx
   rw[this];rfl
  |some x=>
   obtain⟨y,hy,hr⟩:=hkey j x hx
   rw[hy]
   simp only[Option.map_some]
   congr 1
   unfold Go.WideElems.rg
   rw[hr]
   rfl
 refine⟨_,⟨es,c,hh,⟨?_,hst,λx hx=>?_⟩,Nat.le_refl _,rfl⟩,?_,?_⟩
 ·have:es.size=ents.length:=by rw[<-Array.length_toList];exact he.1
  simp only[maxLen]
  omega
 ·obtain⟨j,hj⟩:=List.getElem?_of_mem hx
  obtain⟨y,_,hr⟩:=hkey j x hj
  exact⟨_,hr⟩
 ·rw[hmap]
  simp only[intKeys]
  refine((Go.WideShapes.sorted_perm _).map _).trans ?_
  rw[List.map_map]
  exact List.Perm.of_eq (List.map_congr_left λy _=>rfl)
 ·simp only[Maps.size]
  rw[(Go.WideShapes.sorted_perm _).length_eq,hmap,List.length_map]
theorem zrb{w w':World}{k:Kp}{l ss:List Int}{v:Value}(hp:ss.Perm l)(hrow:w'.ownsRow w.heap.size 3 1 v ss.length ((ss.mergeSort (λx y=>decide (x<=y))).map encZ))(hb:Below w.heap.size w w'):
  ∃v',Ending.returned v= .returned v'/\Ext w w'/\∃k':Kp,(∀b,b<w.heap.size->k' b=k b)/\(ich (zcw l)).at_ w.heap.size w' k' v':=by
 have hs:ss.mergeSort (λx y=>decide (x<=y))=zcw l:=mergeSort_of_perm_i hp
 rw[hs]at hrow
 have hlen:ss.length=(zcw l).length:=by unfold zcw;rw[List.length_mergeSort,hp.length_eq]
 rw[hlen]at hrow
 refine⟨v,rfl,hb,?_⟩
 obtain⟨_,h⟩:=hrow
 rcases h with⟨rfl,h0⟩ |⟨g,cap,cur,rfl,hbase,hh,r1,r2,r3,r4⟩
 ·refine⟨k,λ_ _=>rfl,none,⟨by simp, .inl ⟨rfl, .inl ⟨h0,none,rfl⟩⟩⟩,λb hb=>by cases hb⟩
 ·refine⟨kset k g (zcw l).length,λb hb=>by simp only[kset];rw[if_neg (by omega)],some g,⟨by simp, .inr ⟨g,cap,cur,rfl,rfl,hh,r1,r2,Nat.le_of_eq r3.symm,by simp[kset],?_⟩⟩,λb hb=>by cases hb;exact hbase⟩
  rw[Nat.mul_one]at r4⊢
  rw[r4]
  exact zk8 (λx w k v=>by simp[RV.at_]) (λ_=>rfl) _
set_option maxRecDepth 100000 in
theorem zoj(ents:List (Int×RV))(hl:ents.length<=1000000)(hi: ∀x∈ents,i64 x.1)(fi:FuncId)(eg: ∀args w,(callFunc fi args).run Tryz.prog w= .ok (.enter fi args) w)
  (hnil: ∀(b:Nat) (w:World),b<w.heap.size->w.cell? ⟨b,0,none⟩=some (.map none)->SeqGives Fence.wide 2 Tryz.prog fi #[.pointer (some ⟨b,0,none⟩)] encZ (λss:List Int=>ss=[]) 0 w)
  (hsome: ∀(b bm nn:Nat) (D0:DataW Unit) (w:World),b<w.heap.size->w.cell? ⟨b,0,none⟩=some (.map (some bm))->w.ownsMap Tryz.prog 3 rdN bm nn D0->SeqGives Fence.wide 2 Tryz.prog fi #[.pointer (some ⟨b,0,none⟩)] encZ (λss:List Int=>ss.Perm (intKeys D0)) (Maps.size D0) w):
  zab Tryz.prog 175 [.s (znk fi ents)] (ich (zcw (ents.map (·.1)))):=by
 refine⟨zaw Tryz.func175 rfl (by kernel_rfl),λw k vs hp=>?_⟩
 obtain⟨a,rfl,h1⟩:=zfo hp
 simp only[RV.at_]at h1
 obtain⟨b,m,rfl,hb,hkb,hc,hm⟩:=h1
 rcases hm with⟨rfl,rfl⟩ |⟨bm,es,c,rfl,hbm,hkm,hh,he,hst⟩
 ·have cS:=AnyZI.sorted_in zzw Fence.wide 5 trivial trivial trivial trivial rfl (by omega) (zxa _) (enters_of Tryz.func252 (by kernel_rfl) rfl) fi #[.pointer (some ⟨b,0,none⟩)] trivial eg _ 0 (Nat.zero_le _) (by omega) w (hnil b w hb hc)
  refine(callsIn_wide.1 cS).mono ?_
  rintro e w' ⟨v,ss,rfl,rfl,hrow,_,hbl⟩
  exact zrb (List.Perm.refl _) hrow hbl
 ·obtain⟨D0,hown,hperm,hsz⟩:=zb1b zrg hl hi hh he hst
  have cS:=AnyZI.sorted_in zzw Fence.wide 5 trivial trivial trivial trivial rfl (by omega) (zxa _) (enters_of Tryz.func252 (by kernel_rfl) rfl) fi #[.pointer (some ⟨b,0,none⟩)] trivial eg _ (Maps.size D0) (by rw[hsz];simp only[maxLen];omega) (by rw[hsz];omega) w (hsome b bm _ D0 w hb hc hown)
  refine(callsIn_wide.1 cS).mono ?_
  rintro e w' ⟨v,ss,rfl,hS,hrow,_,hbl⟩
  exact zrb (hS.trans hperm) hrow hbl
theorem z3s(ents:List (Int×RV))(hl:ents.length<=1000000)(hi: ∀x∈ents,i64 x.1):zab Tryz.prog 175 [.s (znk 253 ents)] (ich (zcw (ents.map (·.1)))):=
 zoj ents hl hi _ (enters_of Tryz.func253 (by kernel_rfl) rfl)
  (λb w hb hc=>AnyZI.keys_gives_nil (ρ:=zmk) {z09 with} Fence.wide _ trivial rfl b w hb hc)
  (λb bm nn D0 w hb hc hown=>AnyZI.keys_gives (ρ:=zmk) {z09 with} Fence.wide _ trivial rfl (by omega) b bm nn D0 w hb hc hown)
theorem z3r(ents:List (Int×RV))(hl:ents.length<=1000000)(hi: ∀x∈ents,i64 x.1):zab Tryz.prog 175 [.s (znk 254 ents)] (ich (zcw (ents.map (·.1)))):=
 zoj ents hl hi _ (enters_of Tryz.func254 (by kernel_rfl) rfl)
  (λb w hb hc=>AnyZI.keys_gives_nil (ρ:=zml) {z1a with} Fence.wide _ trivial rfl b w hb hc)
  (λb bm nn D0 w hb hc hown=>AnyZI.keys_gives (ρ:=zml) {z1a with} Fence.wide _ trivial rfl (by omega) b bm nn D0 w hb hc hown)
end
end Go.Proofs.YtfjkblpnbgfkeaaGreat.Sx
