import Derived.Test.YtkegaaonpekkgaaGreatZTj
import Derived.Maps.RangeRun
import Derived.Test.YtkegaaonpekkgaaGreatZSxPt
import Derived.Shelf.SlIterI.Nil
import Derived.Shelf.SortM.Plain
import Derived.Shelf.SortM.SortNone
import Derived.Ground.GgzProg
import Derived.Ground.SlgmProg
import Derived.WideShapes
import Derived.Test.YtkegaaonpekkgaaGreatZSha
namespace Go.Proofs.YtkegaaonpekkgaaGreat.Sx
open Go.RowKit
def itO(ents:List (Int×RV))(dn:List Nat)(last:Option Nat):GOw where
 at_ w k vb:=∃r,vb=(.pointer (some ⟨r,0,none⟩),some r)/\k r=0/\((ents=[]/\last=none/\w.heap[r]?=some (.mapIter none 0 #[] 0))\/
  ∃b es c since seen c0,b<w.heap.size/\0<k b/\w.heap[b]?=some (.map es c)/\entsAt w k ents es.toList/\stampE es c/\w.heap[r]?=some (.mapIter (some b) since seen c0)/\(∀x∈es.toList,x.born<since)/\since<=c0/\since<=c/\
   (∀j e,es.toList[j]?=some e->(seen.contains e.born=true↔j∈dn))/\(∀j,last=some j->∃e s,es.toList[j]?=some e/\seen=Array.push s e.born/\c0=c))
 mono:=by
  rintro w k w' k' vb h hb ⟨r,rfl,hk,hr⟩
  obtain⟨h1,h2⟩:=hb r rfl
  refine⟨r,rfl,h2.trans hk,?_⟩
  rcases hr with⟨e1,e2,hr⟩ |⟨b,es,c,since,seen,c0,q1,q2,q3,q4,q5,q6,q7,q8,q9,q10,q11⟩
  ·exact .inl ⟨e1,e2,h1.trans hr⟩
  ·exact .inr ⟨b,es,c,since,seen,c0,Nat.lt_of_lt_of_le q1 h.size,Nat.lt_of_lt_of_le q2 (h.keep b q1),h.map b q1 q2 es c q3,q4.mono h,q5,h1.trans q6,q7,q8,q9,q10,q11⟩
 one:=by rintro w k vb ⟨r,rfl,_⟩;rfl
theorem zqn{ents:List (Int×RV)}{dn:List Nat}{last:Option Nat}(w:World)(k:Kp)(vb:Value×Option Nat)(h:(itO ents dn last).at_ w k vb):(itO ents dn none).at_ w k vb:=by
 obtain⟨r,e,hk,hr⟩:=h
 refine⟨r,e,hk,?_⟩
 rcases hr with⟨e1,_,hr⟩ |⟨b,es,c,since,seen,c0,q1,q2,q3,q4,q5,q6,q7,q8,q9,q10,_⟩
 ·exact .inl ⟨e1,rfl,hr⟩
 ·exact .inr ⟨b,es,c,since,seen,c0,q1,q2,q3,q4,q5,q6,q7,q8,q9,q10,λj h=>by cases h⟩
theorem z7b{l:List Nat}(h:l.Nodup){i j x:Nat}(hi:l[i]?=some x)(hj:l[j]?=some x):i=j:=by
 obtain⟨h1,e1⟩:=List.getElem?_eq_some_iff.1 hi
 obtain⟨h2,e2⟩:=List.getElem?_eq_some_iff.1 hj
 rcases Nat.lt_trichotomy i j with hlt |e |hlt
 ·exact absurd (e1.trans e2.symm) ((List.pairwise_iff_getElem.1 h) i j h1 h2 hlt)
 ·exact e
 ·exact absurd (e2.trans e1.symm) ((List.pairwise_iff_getElem.1 h) j i h2 h1 hlt)
theorem zi3: ∀(n:Nat) {l:List Nat},l.Nodup->(∀x∈l,x<n)->l.length<=n
 |0,l,_,h=>by
  cases l with
  |nil=>simp
  |cons x r=>have:=h x (by simp);omega
 |n+1,l,hn,h=>by
  by_cases hm:n∈l
  ·have h1:=zi3 n (hn.erase n) λx hx=>by
    have:=(hn.mem_erase_iff).1 hx
    have:=h x this.2
    omega
   rw[List.length_erase_of_mem hm]at h1
   omega
  ·have:=zi3 n hn λx hx=>by
    have h1:=h x hx
    have:x≠n:=λe=>hm (e▸hx)
    omega
   omega
section
variable {P:Program} {T:TT} {B:Bs} {N:Nat} {S:St} {a:Act} {w:World} {k:Kp} {g:Env} {o:Oper} {Q:Exit->Act->World->Prop}
theorem Vstep.range{t kt et:TypeId}{x:Operand}{ents:List (Int×RV)}{K:St->Prop}(hop:o.op= .range t x)(hx:opr S x=some (.r (.s (mapS ents))))(hu:P.underlying t=some (.map kt et))
  (hK:newK S o.dst (.own S.nx) (some (.gen (itO ents [] none))) K):Vstep P S o K:=by
 rw[zav]at hK
 refine Vstep.one (λB N a w k Q ⟨g,hs⟩ hd=>?_) hK
 have hv:=(zaf hs hx).2
 simp only[TF.at_,RV.at_]at hv
 rcases hv with⟨hv,rfl⟩ |⟨b,es,c,hv,hb,hk,hh,he,hst⟩
 ·refine zat (v:= .pointer (some ⟨w.heap.size,0,none⟩)) (w':=w.alloc (.mapIter none 0 #[] 0)) (by simp[execOp,hop,hv,run_range_nilMap w t kt et hu]) ⟨kset k w.heap.size 0,_,hs.make hd (zce w _) (λb hb=>zb6 b hb) (vb:=(.pointer (some ⟨w.heap.size,0,none⟩),some w.heap.size)) (o:= .gen (itO [] [] none)) trivial ?_ λb hb=>?_⟩
  ·exact⟨w.heap.size,rfl,zbv, .inl ⟨rfl,rfl,heap_alloc_new w _⟩⟩
  ·cases hb
   exact⟨Nat.le_refl _,by simp⟩
 ·refine zat (v:= .pointer (some ⟨w.heap.size,0,none⟩)) (w':=w.alloc (.mapIter (some b) c #[] c)) (by simp[execOp,hop,hv,run_range_map w t kt et b es c hu hh]) ⟨kset k w.heap.size 0,_,hs.make hd (zce w _) (λb hb=>zb6 b hb) (vb:=(.pointer (some ⟨w.heap.size,0,none⟩),some w.heap.size)) (o:= .gen (itO ents [] none)) trivial ?_ λb hb=>?_⟩
  ·have hle:=Ext.le (zce w (.mapIter (some b) c #[] c)) (k:=k) (k':=kset k w.heap.size 0) λb hb=>zb6 b hb
   exact⟨w.heap.size,rfl,zbv, .inr ⟨b,es,c,c, #[],c,by simp;omega,by show 0<kset k w.heap.size 0 b;rw[zb6 b hb];exact hk,hle.map b hb hk es c hh,he.mono hle,hst,heap_alloc_new w _,hst.1,Nat.le_refl _,Nat.le_refl _,λj e _=>by simp,λj h=>by cases h⟩⟩
  ·cases hb
   exact⟨Nat.le_refl _,by simp⟩
theorem Vstep.next{x:Operand}{id:Nat}{ents:List (Int×RV)}{dn:List Nat}{last:Option Nat}{K:St->Prop}(hop:o.op= .next x false)(hx:opr S x=some (.own id))(ho:oget S.O id=some (.gen (itO ents dn last)))
  (h0:(∀j,j<ents.length->j∈dn)->newK S o.dst (.r (.tu [.b false])) none K)
  (h1: ∀(j:Nat) (x:Int×RV),ents[j]?=some x->j∉dn->newK ⟨S.F,(id,some (.gen (itO ents (dn++[j]) (some j))))::S.O,S.nx⟩ o.dst (.r (.tu [.b true, .i .i64 x.1,x.2])) none K):Vstep P S o K:=by
 simp only[zav]at h0 h1
 let ι:={y:Option Nat//match y with
  |none=>∀j,j<ents.length->j∈dn
  |some j=>j<ents.length/\j∉dn}
 refine⟨ι,λy=>match y with
  |⟨none,_⟩=>S.new o.dst (.r (.tu [.b false])) none
  |⟨some j,h⟩=>St.new ⟨S.F,(id,some (.gen (itO ents (dn++[j]) (some j))))::S.O,S.nx⟩ o.dst (.r (.tu [.b true, .i .i64 (ents[j]'h.1).1,(ents[j]'h.1).2])) none,λB N a w k Q ⟨g,hs⟩ hd=>?_,λy=>?_⟩
 ·have hv:=(zaf hs hx).2
  simp only[TF.at_]at hv
  obtain⟨_,_,hat,_⟩:=hs.owns id _ ho
  simp only[Ow.at_]at hat
  obtain⟨r,e,hkr,hr⟩:=hat
  rw[e]at hv
  rcases hr with⟨rfl,rfl,hr⟩ |⟨b,es,c,since,seen,c0,q1,q2,q3,q4,q5,q6,q7,q8,q9,q10,q11⟩
  ·refine zat (v:= .tuple #[.bool false]) (w':=w) ?_ ⟨⟨none,λj hj=>by simp at hj⟩,k,g,hs.put hd trivial ?_⟩
   ·simp only[execOp,hop,hv,Sem.run_bind]
    simp[Instr.next,getObj,Sem.run,hr]
   ·simp only[TF.at_,RV.at_]
    exact⟨_,rfl,by simp only[RV.partsAt,RV.at_];exact⟨_,_,rfl,rfl,rfl⟩⟩
  ·rcases run_next_at (P:=P) w o.type r b since c0 seen es c q6 q3 q7 q8 with⟨hz,hrun⟩ |⟨en,hen,w1,hw1,hrun⟩
   ·have hall: ∀j,j<ents.length->j∈dn:=λj hj=>by
     have hjl:j<es.toList.length:=by rw[q4.1];exact hj
     have hjs:=List.getElem?_eq_getElem hjl
     refine(q10 j _ hjs).1 ?_
     refine Classical.byContradiction λhn=>?_
     have hm:es.toList[j]∈(leftOf es seen).toList:=by
      unfold leftOf
      rw[Array.toList_filter,List.mem_filter]
      exact⟨List.getElem_mem hjl,by simpa using hn⟩
     have:(leftOf es seen).toList=[]:=List.eq_nil_of_length_eq_zero (by rw[Array.length_toList];exact hz)
     rw[this]at hm
     cases hm
    refine zat (v:= .tuple #[.bool false]) (w':=w) (by simp[execOp,hop,hv,hrun]) ⟨⟨none,hall⟩,k,g,hs.put hd trivial ?_⟩
    simp only[TF.at_,RV.at_]
    exact⟨_,rfl,by simp only[RV.partsAt,RV.at_];exact⟨_,_,rfl,rfl,rfl⟩⟩
   ·unfold leftOf at hen
    rw[Array.toList_filter,List.mem_filter]at hen
    obtain⟨hmem,hns⟩:=hen
    obtain⟨j,hjl,hj⟩:=List.getElem_of_mem hmem
    have hjs:es.toList[j]?=some en:=by rw[List.getElem?_eq_getElem hjl,hj]
    have hje:j<ents.length:=by rw[<-q4.1];exact hjl
    have hjn:j∉dn:=λh=>by
     have:=(q10 j en hjs).2 h
     rw[this]at hns
     cases hns
    have hx1:=q4.2 j _ en (List.getElem?_eq_getElem hje) hjs
    have hheap:w1.heap=w.heap:=by rcases hw1 with rfl |rfl<;>rfl
    have hrl:r<w.heap.size:=(Array.getElem?_eq_some_iff.1 q6).1
    have hbr:b≠r:=λe=>by rw[e,q6]at q3;cases q3
    obtain⟨w2,hw2⟩: ∃w2,w2=ChangeMaps.setBlock w1 r (.mapIter (some b) since (seen.push en.born) c):=⟨_,rfl⟩
    have e2:w2.heap=w.heap.setIfInBounds r (.mapIter (some b) since (seen.push en.born) c):=by rw[hw2];simp only[ChangeMaps.setBlock];rw[hheap]
    have eos:w2.os=w.os/\w2.tape=w.tape/\w2.output=w.output:=by rw[hw2];rcases hw1 with rfl |rfl<;>exact⟨rfl,rfl,rfl⟩
    have hw:Wrote w k w2 k (some r):=⟨eos.1,eos.2.1,eos.2.2,by rw[e2];simp,λx _ hne=>⟨by rw[e2,Array.getElem?_setIfInBounds_ne (λh=>hne (by rw[h]))],rfl⟩,λx hx=>by
     cases hx
     exact⟨Nat.le_refl _,λo' ho'=>by omega,λh=>by omega⟩⟩
    have hnew:(Ow.gen (itO ents (dn++[j]) (some j))).at_ w2 k g (g id):=by
     simp only[Ow.at_]
     refine⟨r,e,hkr, .inr ⟨b,es,c,since,seen.push en.born,c,Nat.lt_of_lt_of_le q1 hw.size,q2,hw.le.map b q1 q2 es c q3,q4.mono hw.le,q5,by rw[e2,Array.getElem?_setIfInBounds_self_of_lt hrl],q7,q9,q9,λi ei hi=>?_,λi hi=>?_⟩⟩
     ·rw[Array.contains_push]
      simp only[Bool.or_eq_true,beq_iff_eq,List.mem_append,List.mem_singleton]
      constructor
      ·rintro(h |h)
       ·exact .inl ((q10 i ei hi).1 h)
       ·refine .inr (z7b q5.2.1 (x:=en.born) ?_ ?_)
        ·rw[List.getElem?_map,hi];exact congrArg some h
        ·rw[List.getElem?_map,hjs];rfl
      ·rintro(h |rfl)
       ·exact .inl ((q10 i ei hi).2 h)
       ·rw[hjs]at hi;cases hi;exact .inr rfl
     ·cases hi
      exact⟨en,seen,hjs,rfl,rfl⟩
    have hs2:=hs.redo (ow':= .gen (itO ents (dn++[j]) (some j))) ho (by rw[e]) hw trivial hnew
    refine zat (v:= .tuple #[.bool true,en.key,en.val]) (w':=w2) (by simp[execOp,hop,hv,hrun,hw2]) ⟨⟨some j,hje,hjn⟩,k,g,hs2.put hd trivial ?_⟩
    simp only[TF.at_,RV.at_]
    refine⟨_,rfl,?_⟩
    simp only[RV.partsAt,RV.at_]
    exact⟨_,_,rfl,rfl,_,_,rfl,hx1.1,_,_,rfl,RV.mono hw.le _ _ hx1.2,rfl⟩
 ·obtain⟨y,hy⟩:=y
  cases y with
  |none=>exact h0 hy
  |some j=>exact h1 j _ (List.getElem?_eq_getElem hy.1) hy.2
theorem Vstep.entry{x:Operand}{id:Nat}{ents:List (Int×RV)}{dn:List Nat}{j:Nat}{y:Int×RV}{K:St->Prop}(hop:o.op= .entry x)(hx:opr S x=some (.own id))(ho:oget S.O id=some (.gen (itO ents dn (some j))))(hy:ents[j]?=some y)
  (hK:newK S o.dst (.r (.tu [.i .i64 y.1,y.2])) none K):Vstep P S o K:=by
 rw[zav]at hK
 refine Vstep.one (λB N a w k Q ⟨g,hs⟩ hd=>?_) hK
 have hv:=(zaf hs hx).2
 simp only[TF.at_]at hv
 obtain⟨_,_,hat,_⟩:=hs.owns id _ ho
 simp only[Ow.at_]at hat
 obtain⟨r,e,hkr,hr⟩:=hat
 rw[e]at hv
 rcases hr with⟨_,h,_⟩ |⟨b,es,c,since,seen,c0,q1,q2,q3,q4,q5,q6,q7,q8,q9,q10,q11⟩
 ·cases h
 ·obtain⟨en,s,hjs,rfl,rfl⟩:=q11 j rfl
  have hx1:=q4.2 j _ en hy hjs
  have hrun:=run_entry_at (P:=P) w r b since s es c0 en q6 q3 (List.mem_of_getElem? hjs) q5.2.1
  refine zat (v:= .tuple #[en.key,en.val]) (w':=w) (by simp[execOp,hop,hv,hrun]) ⟨k,g,hs.put hd trivial ?_⟩
  simp only[TF.at_,RV.at_]
  refine⟨_,rfl,?_⟩
  simp only[RV.partsAt,RV.at_]
  exact⟨_,_,rfl,hx1.1,_,_,rfl,hx1.2,rfl⟩
end
section
open Go.Shelf
def zmn:Go.Shelf.Ren:=⟨λ |7=>375 |10=>454 |n=>n,λ |23=>330 |26=>3 |3=>40 |28=>428 |0=>0 |27=>427 |33=>308 |4=>4 |n=>n,λ |n=>n⟩
theorem z3i:Go.Proofs.SlLaysZI.n7 aP zmn:={
 mixed:=by kernel_rfl
 f7:=⟨Tryz.f375.name,by decide,Tryz.func375.trans (congrArg some (by kernel_rfl))⟩
 f10:=⟨Tryz.f454.name,by decide,Tryz.func454.trans (congrArg some (by kernel_rfl))⟩
 t0:=Tryz.underlying0
 a0:=Tryz.isAgg0
 z0:=Tryz.sizeOf0
 v0:=Tryz.zeroValue0
 t4:=Tryz.underlying4
 a4:=Tryz.isAgg4
 z4:=Tryz.sizeOf4
 v4:=Tryz.zeroValue4
 t23:=Tryz.underlying330
 a23:=Tryz.isAgg330
 z23:=Tryz.sizeOf330
 v23:=Tryz.zeroValue330
 t26:=Tryz.underlying3
 a26:=Tryz.isAgg3
 z26:=Tryz.sizeOf3
 v26:=Tryz.zeroValue3
 t27:=Tryz.underlying427
 a27:=Tryz.isAgg427
 z27:=Tryz.sizeOf427
 v27:=Tryz.zeroValue427
 t28:=Tryz.underlying428
 a28:=Tryz.isAgg428
 z28:=Tryz.sizeOf428
 v28:=Tryz.zeroValue428
 t33:=Tryz.underlying308
 a33:=Tryz.isAgg308
 z33:=Tryz.sizeOf308
 v33:=Tryz.zeroValue308}
def zmo:Go.Shelf.Ren:=⟨λ |7=>376 |10=>455 |n=>n,λ |23=>331 |26=>3 |3=>22 |28=>428 |0=>0 |27=>427 |33=>308 |4=>4 |n=>n,λ |n=>n⟩
theorem z3j:Go.Proofs.SlLaysZI.n7 aP zmo:={
 mixed:=by kernel_rfl
 f7:=⟨Tryz.f376.name,by decide,Tryz.func376.trans (congrArg some (by kernel_rfl))⟩
 f10:=⟨Tryz.f455.name,by decide,Tryz.func455.trans (congrArg some (by kernel_rfl))⟩
 t0:=Tryz.underlying0
 a0:=Tryz.isAgg0
 z0:=Tryz.sizeOf0
 v0:=Tryz.zeroValue0
 t4:=Tryz.underlying4
 a4:=Tryz.isAgg4
 z4:=Tryz.sizeOf4
 v4:=Tryz.zeroValue4
 t23:=Tryz.underlying331
 a23:=Tryz.isAgg331
 z23:=Tryz.sizeOf331
 v23:=Tryz.zeroValue331
 t26:=Tryz.underlying3
 a26:=Tryz.isAgg3
 z26:=Tryz.sizeOf3
 v26:=Tryz.zeroValue3
 t27:=Tryz.underlying427
 a27:=Tryz.isAgg427
 z27:=Tryz.sizeOf427
 v27:=Tryz.zeroValue427
 t28:=Tryz.underlying428
 a28:=Tryz.isAgg428
 z28:=Tryz.sizeOf428
 v28:=Tryz.zeroValue428
 t33:=Tryz.underlying308
 a33:=Tryz.isAgg308
 z33:=Tryz.sizeOf308
 v33:=Tryz.zeroValue308}
def zoo:Go.Shelf.Ren:=⟨λ |6=>374 |8=>452 |9=>453 |11=>505 |13=>461 |12=>506 |23=>517 |24=>518 |14=>530 |15=>531 |16=>532 |17=>533 |18=>534 |19=>535 |20=>444 |21=>536 |22=>537 |25=>550 |26=>540 |27=>541 |28=>551 |29=>552 |30=>462 |31=>555 |n=>n,λ |26=>3 |28=>428 |24=>36 |0=>0 |3=>3 |37=>303 |48=>298 |50=>43 |4=>4 |40=>534 |39=>533 |45=>417 |5=>5 |9=>9 |51=>552 |55=>556 |57=>564 |58=>296 |33=>308 |n=>n,λ |n=>n⟩
theorem z1c:Go.Proofs.SlLaysZI.n6 aP zoo:={
 mixed:=by kernel_rfl
 f6:=⟨Tryz.f374.name,by decide,Tryz.func374.trans (congrArg some (by kernel_rfl))⟩
 f8:=⟨Tryz.f452.name,by decide,Tryz.func452.trans (congrArg some (by kernel_rfl))⟩
 f11:=⟨Tryz.f505.name,by decide,Tryz.func505.trans (congrArg some (by kernel_rfl))⟩
 t0:=Tryz.underlying0
 a0:=Tryz.isAgg0
 z0:=Tryz.sizeOf0
 v0:=Tryz.zeroValue0
 t24:=Tryz.underlying36
 a24:=Tryz.isAgg36
 z24:=Tryz.sizeOf36
 v24:=Tryz.zeroValue36
 t26:=Tryz.underlying3
 a26:=Tryz.isAgg3
 z26:=Tryz.sizeOf3
 v26:=Tryz.zeroValue3
 t28:=Tryz.underlying428
 a28:=Tryz.isAgg428
 z28:=Tryz.sizeOf428
 v28:=Tryz.zeroValue428
 i26:=by kernel_rfl}
def z78:Go.Shelf.Ren:=⟨λ |5=>453 |8=>461 |7=>506 |19=>517 |20=>518 |10=>530 |11=>531 |12=>532 |13=>533 |14=>534 |15=>535 |16=>444 |17=>536 |18=>537 |30=>550 |31=>540 |32=>541 |33=>551 |34=>552 |35=>462 |40=>555 |n=>n,λ |23=>36 |25=>3 |3=>3 |32=>303 |22=>36 |0=>0 |44=>298 |46=>43 |4=>4 |36=>534 |35=>533 |41=>417 |5=>5 |9=>9 |53=>552 |57=>556 |63=>564 |64=>296 |n=>n,λ |n=>n⟩
theorem zcgb:Go.Proofs.SlLaysM.n5 aP z78:={
 mixed:=by kernel_rfl
 f5:=⟨Tryz.f453.name,by decide,Tryz.func453.trans (congrArg some (by kernel_rfl))⟩
 f7:=⟨Tryz.f506.name,by decide,Tryz.func506.trans (congrArg some (by kernel_rfl))⟩
 f8:=Tryz.func461.trans (congrArg some (by kernel_rfl))
 f10:=⟨Tryz.f530.name,by decide,Tryz.func530.trans (congrArg some (by kernel_rfl))⟩
 f11:=⟨Tryz.f531.name,by decide,Tryz.func531.trans (congrArg some (by kernel_rfl))⟩
 f12:=⟨Tryz.f532.name,by decide,Tryz.func532.trans (congrArg some (by kernel_rfl))⟩
 f13:=⟨Tryz.f533.name,by decide,Tryz.func533.trans (congrArg some (by kernel_rfl))⟩
 f14:=⟨Tryz.f534.name,by decide,Tryz.func534.trans (congrArg some (by kernel_rfl))⟩
 f15:=⟨Tryz.f535.name,by decide,Tryz.func535.trans (congrArg some (by kernel_rfl))⟩
 f16:=⟨Tryz.f444.name,by decide,Tryz.func444.trans (congrArg some (by kernel_rfl))⟩
 f17:=⟨Tryz.f536.name,by decide,Tryz.func536.trans (congrArg some (by kernel_rfl))⟩
 f18:=⟨Tryz.f537.name,by decide,Tryz.func537.trans (congrArg some (by kernel_rfl))⟩
 f19:=Tryz.func517.trans (congrArg some (by kernel_rfl))
 f20:=Tryz.func518.trans (congrArg some (by kernel_rfl))
 f30:=⟨Tryz.f550.name,by decide,Tryz.func550.trans (congrArg some (by kernel_rfl))⟩
 f31:=Tryz.func540.trans (congrArg some (by kernel_rfl))
 f32:=Tryz.func541.trans (congrArg some (by kernel_rfl))
 f33:=⟨Tryz.f551.name,by decide,Tryz.func551.trans (congrArg some (by kernel_rfl))⟩
 f34:=⟨Tryz.f552.name,by decide,Tryz.func552.trans (congrArg some (by kernel_rfl))⟩
 f35:=⟨Tryz.f462.name,by decide,Tryz.func462.trans (congrArg some (by kernel_rfl))⟩
 f40:=⟨Tryz.f555.name,by decide,Tryz.func555.trans (congrArg some (by kernel_rfl))⟩
 t0:=Tryz.underlying0
 a0:=Tryz.isAgg0
 z0:=Tryz.sizeOf0
 v0:=Tryz.zeroValue0
 t3:=Tryz.underlying3
 a3:=Tryz.isAgg3
 z3:=Tryz.sizeOf3
 v3:=Tryz.zeroValue3
 t4:=Tryz.underlying4
 a4:=Tryz.isAgg4
 z4:=Tryz.sizeOf4
 v4:=Tryz.zeroValue4
 t5:=Tryz.underlying5
 a5:=Tryz.isAgg5
 z5:=Tryz.sizeOf5
 v5:=Tryz.zeroValue5
 t9:=Tryz.underlying9
 a9:=Tryz.isAgg9
 z9:=Tryz.sizeOf9
 v9:=Tryz.zeroValue9
 t22:=Tryz.underlying36
 a22:=Tryz.isAgg36
 z22:=Tryz.sizeOf36
 v22:=Tryz.zeroValue36
 t23:=Tryz.underlying36
 a23:=Tryz.isAgg36
 z23:=Tryz.sizeOf36
 v23:=Tryz.zeroValue36
 t25:=Tryz.underlying3
 a25:=Tryz.isAgg3
 z25:=Tryz.sizeOf3
 v25:=Tryz.zeroValue3
 t32:=Tryz.underlying303
 a32:=Tryz.isAgg303
 z32:=Tryz.sizeOf303
 v32:=Tryz.zeroValue303
 t35:=Tryz.underlying533
 a35:=Tryz.isAgg533
 z35:=Tryz.sizeOf533
 v35:=Tryz.zeroValue533
 t36:=Tryz.underlying534
 a36:=Tryz.isAgg534
 z36:=Tryz.sizeOf534
 v36:=Tryz.zeroValue534
 t41:=Tryz.underlying417
 a41:=Tryz.isAgg417
 z41:=Tryz.sizeOf417
 v41:=Tryz.zeroValue417
 t44:=Tryz.underlying298
 a44:=Tryz.isAgg298
 z44:=Tryz.sizeOf298
 v44:=Tryz.zeroValue298
 t46:=Tryz.underlying43
 a46:=Tryz.isAgg43
 z46:=Tryz.sizeOf43
 v46:=Tryz.zeroValue43
 t53:=Tryz.underlying552
 a53:=Tryz.isAgg552
 z53:=Tryz.sizeOf552
 v53:=Tryz.zeroValue552
 t57:=Tryz.underlying556
 a57:=Tryz.isAgg556
 z57:=Tryz.sizeOf556
 v57:=Tryz.zeroValue556
 t63:=Tryz.underlying564
 a63:=Tryz.isAgg564
 z63:=Tryz.sizeOf564
 v63:=Tryz.zeroValue564
 t64:=Tryz.underlying296
 a64:=Tryz.isAgg296
 z64:=Tryz.sizeOf296
 v64:=Tryz.zeroValue296}
end
section
open Go.RowKit Go.Maps Go.Sort Go.Shelf
def zns(f:FuncId)(ents:List (Int×RV)):Stable where
 at_ w k v:=∃b m,v= .func (.func f) #[] #[.pointer (some ⟨b,0,none⟩)]/\b<w.heap.size/\0<k b/\w.cell? ⟨b,0,none⟩=some m/\(mapS ents).at_ w k m
 mono:=λh ⟨b,m,e,hb,hk,hc,hm⟩=>⟨b,m,e,Nat.lt_of_lt_of_le hb h.size,Nat.lt_of_lt_of_le hk (h.keep b hb),(h.cell b 0 hb hk).trans hc,(mapS ents).mono h hm⟩
 one:=by rintro w k v ⟨b,m,rfl,_⟩;rfl
def zbl(l:List Int):List Int:=l.mergeSort leI
theorem zs7{ents:List (Int×RV)}{P:Program}{f fi:FuncId}{t:TypeId}(hk:zin P f)(hc: ∀mb w,Calls P f #[.map mb] w λe w'=>e= .returned (.func (.func fi) #[] #[.pointer (some ⟨w.heap.size,0,none⟩)])/\w'=w.alloc (.cells #[.map mb] t)):zab P f [.s (mapS ents)] (.r (.s (zns fi ents))):=by
 refine⟨hk,λw k vs hp=>?_⟩
 obtain⟨a,rfl,h1⟩:=zxh hp
 simp only[RV.at_]at h1
 have hmb: ∃mb,a= .map mb:=by
  rcases h1 with⟨rfl,_⟩ |⟨b,_,_,rfl,_⟩
  ·exact⟨none,rfl⟩
  ·exact⟨some b,rfl⟩
 obtain⟨mb,rfl⟩:=hmb
 refine(hc mb w).mono ?_
 rintro e w' ⟨rfl,rfl⟩
 have hle:=Ext.le (zce w (.cells #[.map mb] t)) (k:=k) (k':=kset k w.heap.size 1) λb hb=>zb6 b hb
 refine⟨_,rfl,zce w _,kset k w.heap.size 1,λb hb=>zb6 b hb,?_⟩
 simp only[Res.at_,RV.at_]
 refine⟨w.heap.size, .map mb,rfl,by simp,by rw[zbv];omega,?_,(mapS ents).mono hle h1⟩
 rw[cell_of_row (w.alloc (.cells #[.map mb] t)) w.heap.size 0 #[.map mb] t (0,0) (heap_alloc_new w _)]
 rfl
theorem z0a(ents:List (Int×RV)):aG 375 [.s (mapS ents)] (.r (.s (zns 454 ents))):=
 zs7 (zdu Tryz.func375 rfl (by kernel_rfl)) λmb w=>(callsIn_wide (n:=5)).1 (AnyZI.keys_in z3i Fence.wide 5 trivial rfl mb w)
theorem zz9(ents:List (Int×RV)):aG 376 [.s (mapS ents)] (.r (.s (zns 455 ents))):=
 zs7 (zdu Tryz.func376 rfl (by kernel_rfl)) λmb w=>(callsIn_wide (n:=5)).1 (AnyZI.keys_in z3j Fence.wide 5 trivial rfl mb w)
theorem zya(m:Nat):AnyZI.SortsIn aP zoo Fence.wide m:=
 ⟨λblk off cap ss W hH hblk hsz=>callsIn_wide.2 (AnyM.slices_Sort_int zcgb blk off cap ss W hH hblk hsz),
 λp cap W=>callsIn_wide.2 (AnyM.slices_Sort_int_none zcgb p cap W)⟩
abbrev rdN:Value->Option (DataW Unit×List MemPlace):=λ_=>some (.nil,[])
theorem zewb{P:Program}{ti:TypeId}(hu:P.underlying ti=some (.int .i64)){ents:List (Int×RV)}{w:World}{k:Kp}{b:Nat}{es:Array MapEntry}{c:Nat}(hl:ents.length<=1000000)(hi: ∀x∈ents,i64 x.1)(hh:w.heap[b]?=some (.map es c))(he:entsAt w k ents es.toList)(hst:stampE es c):
  ∃D0:DataW Unit,w.ownsMap P ti rdN b es.size D0/\(intKeys D0).Perm (ents.map (·.1))/\Maps.size D0=ents.length:=by
 have hkey: ∀(j:Nat) (x:MapEntry),es.toList[j]?=some x->∃y,ents[j]?=some y/\Go.WideElems.rd P ti rdN x=some (.int .i64 y.1, .nil):=λj x hx=>by
  have hj:=(List.getElem?_eq_some_iff.1 hx).1
  have hj2:j<ents.length:=by rw[<-he.1];exact hj
  have h1:=he.2 j _ x (List.getElem?_eq_getElem hj2) hx
  refine⟨_,List.getElem?_eq_getElem hj2,?_⟩
  have hb:=hi _ (List.getElem_mem hj2)
  have hwf:(Lit.int .i64 ents[j].1).wf=true:=by
   unfold i64 at hb
   simp[Lit.wf,IntKind.min,IntKind.max,IntKind.signed,IntKind.bits]
   omega
  unfold Go.WideElems.rd
  simp[keyOf,hu,mapKey,h1.1,hwf]
 have hmap:es.toList.map (Go.WideElems.rg P ti rdN)=ents.map λy=>((.int .i64 y.1:Lit),(.nil:DataW Unit)):=by
  apply List.ext_getElem?
  intro j
  rw[List.getElem?_map,List.getElem?_map]
  cases hx:es.toList[j]? with
  |none=>
   have:ents[j]?=none:=by rw[List.getElem?_eq_none_iff]at hx⊢;rw[<-he.1];exact hx
   rw[this];rfl
  |some x=>
   obtain⟨y,hy,hr⟩:=hkey j x hx
   rw[hy]
   simp only[Option.map_some]
   congr 1
   unfold Go.WideElems.rg
   rw[hr]
   rfl
 refine⟨_,⟨es,c,hh,⟨?_,hst,λx hx=>?_⟩,Nat.le_refl _,rfl⟩,?_,?_⟩
 ·have:es.size=ents.length:=by rw[<-Array.length_toList];exact he.1
  simp only[maxLen]
  omega
 ·obtain⟨j,hj⟩:=List.getElem?_of_mem hx
  obtain⟨y,_,hr⟩:=hkey j x hj
  exact⟨_,hr⟩
 ·rw[hmap]
  simp only[intKeys]
  refine((Go.WideShapes.sorted_perm _).map _).trans ?_
  rw[List.map_map]
  exact List.Perm.of_eq (List.map_congr_left λy _=>rfl)
 ·simp only[Maps.size]
  rw[(Go.WideShapes.sorted_perm _).length_eq,hmap,List.length_map]
theorem zq5{w w':World}{k:Kp}{l ss:List Int}{v:Value}(hp:ss.Perm l)(hrow:w'.ownsRow w.heap.size 3 1 v ss.length ((ss.mergeSort (λx y=>decide (x<=y))).map encZ))(hb:Below w.heap.size w w'):
  ∃v',Ending.returned v= .returned v'/\Ext w w'/\∃k':Kp,(∀b,b<w.heap.size->k' b=k b)/\(ich (zbl l)).at_ w.heap.size w' k' v':=by
 have hs:ss.mergeSort (λx y=>decide (x<=y))=zbl l:=mergeSort_of_perm_i hp
 rw[hs]at hrow
 have hlen:ss.length=(zbl l).length:=by unfold zbl;rw[List.length_mergeSort,hp.length_eq]
 rw[hlen]at hrow
 refine⟨v,rfl,hb,?_⟩
 obtain⟨_,h⟩:=hrow
 rcases h with⟨rfl,h0⟩ |⟨g,cap,cur,rfl,hbase,hh,r1,r2,r3,r4⟩
 ·refine⟨k,λ_ _=>rfl,none,⟨by simp, .inl ⟨rfl, .inl ⟨h0,none,rfl⟩⟩⟩,λb hb=>by cases hb⟩
 ·refine⟨kset k g (zbl l).length,λb hb=>by simp only[kset];rw[if_neg (by omega)],some g,⟨by simp, .inr ⟨g,cap,cur,rfl,rfl,hh,r1,r2,Nat.le_of_eq r3.symm,by simp[kset],?_⟩⟩,λb hb=>by cases hb;exact hbase⟩
  rw[Nat.mul_one]at r4⊢
  rw[r4]
  exact zqr (λx w k v=>by simp[RV.at_]) (λ_=>rfl) _
set_option maxRecDepth 100000 in
theorem zop(ents:List (Int×RV))(hl:ents.length<=1000000)(hi: ∀x∈ents,i64 x.1)(fi:FuncId)(eg: ∀args w,(callFunc fi args).run aP w= .ok (.enter fi args) w)
  (hnil: ∀(b:Nat) (w:World),b<w.heap.size->w.cell? ⟨b,0,none⟩=some (.map none)->SeqGives Fence.wide 2 aP fi #[.pointer (some ⟨b,0,none⟩)] encZ (λss:List Int=>ss=[]) 0 w)
  (hsome: ∀(b bm nn:Nat) (D0:DataW Unit) (w:World),b<w.heap.size->w.cell? ⟨b,0,none⟩=some (.map (some bm))->w.ownsMap aP 3 rdN bm nn D0->SeqGives Fence.wide 2 aP fi #[.pointer (some ⟨b,0,none⟩)] encZ (λss:List Int=>ss.Perm (intKeys D0)) (Maps.size D0) w):
  aG 374 [.s (zns fi ents)] (ich (zbl (ents.map (·.1)))):=by
 refine⟨zdu Tryz.func374 rfl (by kernel_rfl),λw k vs hp=>?_⟩
 obtain⟨a,rfl,h1⟩:=zxh hp
 simp only[RV.at_]at h1
 obtain⟨b,m,rfl,hb,hkb,hc,hm⟩:=h1
 rcases hm with⟨rfl,rfl⟩ |⟨bm,es,c,rfl,hbm,hkm,hh,he,hst⟩
 ·have cS:=AnyZI.sorted_in z1c Fence.wide 5 trivial trivial trivial trivial rfl (by omega) (zya _) (enters_of Tryz.func453 (by kernel_rfl) rfl) fi #[.pointer (some ⟨b,0,none⟩)] trivial eg _ 0 (Nat.zero_le _) (by omega) w (hnil b w hb hc)
  refine(callsIn_wide.1 cS).mono ?_
  rintro e w' ⟨v,ss,rfl,rfl,hrow,_,hbl⟩
  exact zq5 (List.Perm.refl _) hrow hbl
 ·obtain⟨D0,hown,hperm,hsz⟩:=zewb zho hl hi hh he hst
  have cS:=AnyZI.sorted_in z1c Fence.wide 5 trivial trivial trivial trivial rfl (by omega) (zya _) (enters_of Tryz.func453 (by kernel_rfl) rfl) fi #[.pointer (some ⟨b,0,none⟩)] trivial eg _ (Maps.size D0) (by rw[hsz];simp only[maxLen];omega) (by rw[hsz];omega) w (hsome b bm _ D0 w hb hc hown)
  refine(callsIn_wide.1 cS).mono ?_
  rintro e w' ⟨v,ss,rfl,hS,hrow,_,hbl⟩
  exact zq5 (hS.trans hperm) hrow hbl
theorem zsv(ents:List (Int×RV))(hl:ents.length<=1000000)(hi: ∀x∈ents,i64 x.1):aG 374 [.s (zns 454 ents)] (ich (zbl (ents.map (·.1)))):=
 zop ents hl hi _ (enters_of Tryz.func454 (by kernel_rfl) rfl)
  (λb w hb hc=>AnyZI.keys_gives_nil (ρ:=zmn) {z3i with} Fence.wide _ trivial rfl b w hb hc)
  (λb bm nn D0 w hb hc hown=>AnyZI.keys_gives (ρ:=zmn) {z3i with} Fence.wide _ trivial rfl (by omega) b bm nn D0 w hb hc hown)
theorem zsu(ents:List (Int×RV))(hl:ents.length<=1000000)(hi: ∀x∈ents,i64 x.1):aG 374 [.s (zns 455 ents)] (ich (zbl (ents.map (·.1)))):=
 zop ents hl hi _ (enters_of Tryz.func455 (by kernel_rfl) rfl)
  (λb w hb hc=>AnyZI.keys_gives_nil (ρ:=zmo) {z3j with} Fence.wide _ trivial rfl b w hb hc)
  (λb bm nn D0 w hb hc hown=>AnyZI.keys_gives (ρ:=zmo) {z3j with} Fence.wide _ trivial rfl (by omega) b bm nn D0 w hb hc hown)
end
theorem zo3(l m:List Int)(hl:l.length<=1000000000)(hm:m.length<=1000000000):aG 494 [is l,is m] (.r (.b (decide (l=m)))):=by
 refine aT Tryz.func494 rfl ?_
 by_cases hlen:l.length=m.length
 ·refine zu (by simp only[zb];omega) (zq ?_)
  refine zy (λi:Nat=>⟨[(0, .r (is l)),(1, .r (is m)),(12, .r (I l.length)),(13, .r (I i))],[],0⟩) (λi=>i<=l.length/\l.take i=m.take i) (λi=>l.length-i) 0 ⟨by omega,by simp⟩ (zad [] rfl ⟨cr,cr,cr,cr,trivial⟩ trivial) ?_
  rintro i ⟨hi,he⟩
  refine zh (λh=>zp ?_) (λh=>zq ?_)
  ·simp only[zb]at h
   have h1:i<l.length:=by omega
   have h2:i<m.length:=by omega
   refine aV ?_
   refine zm (by omega) (by omega) (zbh rfl h1) (zg rfl ?_)
   refine zm (by omega) (by omega) (zbh rfl h2) (zg rfl ?_)
   refine zh (λh3=>zp ?_) (λh3=>zq ?_)
   ·simp only[zb]at h3
    refine zf (congrArg RV.b (Eq.symm ?_))
    rw[decide_eq_false_iff_not]
    intro e
    subst e
    exact h3 rfl
   ·simp only[zb]at h3
    refine zd (m:=((i+1:Nat):Int)) (by omega) (by omega) ?_
    refine⟨i+1,⟨h1,?_⟩,by omega,zad [] rfl ⟨cr,cr,cr,cr,trivial⟩ trivial⟩
    rw[List.take_succ_eq_append_getElem h1,List.take_succ_eq_append_getElem h2,he,h3]
  ·simp only[zb]at h
   refine zf (congrArg RV.b (Eq.symm ?_))
   rw[decide_eq_true_eq,<-List.take_of_length_le (show l.length<=i by omega),he,List.take_of_length_le (by omega)]
 ·refine zt (by simp only[zb];omega) (zp ?_)
  refine zf (congrArg RV.b (Eq.symm ?_))
  rw[decide_eq_false_iff_not]
  exactλe=>hlen (by rw[e])
def zia(O:List Spot)(x:Int):Bool:=match zbi O x with
 |some n=>decide (n.kind.toNat=1)
 |none=>false
def zdm(leaves own:Int)(O:List Spot)(H:List Stub)(only:Bool):Bool:=
 zeo leaves&&(decide (0<=own)&&(decide (own<leaves)&&(zia O (2*own)&&(O.all (λs=>zen s.at_ s.node)&&(H.all (λs=>decide (s.hash.length=32))&&
  ((visV O own only leaves.toNat.log2 0 0 []).2.2&&(decide ((visV O own only leaves.toNat.log2 0 0 []).1=zbl (O.map (·.at_)))&&decide ((visV O own only leaves.toNat.log2 0 0 []).2.1=zbl (H.map (·.at_))))))))))
abbrev zxi(leaves own:Int)(O:List Spot)(H:List Stub):RV:= .ag [I leaves,I own, .s (mapS (zbt O)), .s (mapS (zby H))]
theorem zlf(O:List Spot):(zbt O).map (·.1)=O.map (·.at_):=by simp[zbt]
theorem zk4(H:List Stub):(zby H).map (·.1)=H.map (·.at_):=by simp[zby]
theorem zzw{α:Type}{p:α->Bool}{l:List α}(h: ∀j,j<l.length->∀x,l[j]?=some x->p x=true):l.all p=true:=by
 rw[List.all_eq_true]
 intro x hx
 obtain⟨j,hj⟩:=List.getElem?_of_mem hx
 exact h j (List.getElem?_eq_some_iff.1 hj).1 x hj
end Go.Proofs.YtkegaaonpekkgaaGreat.Sx
