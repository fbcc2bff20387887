import Derived.Test.YtoegdgbghdnnfaaGreatZTj
import Derived.Test.YtoegdgbghdnnfaaGreatZSxNm
import Derived.Test.YtoegdgbghdnnfaaGreatZEq
import Derived.Maps.RangeRun
import Derived.Test.YtoegdgbghdnnfaaGreatZKq
import Derived.Shelf.SlIterI.Nil
import Derived.Shelf.SortM.Plain
import Derived.Shelf.SortM.SortNone
import Derived.Ground.GgzProg
import Derived.Ground.SlgmProg
import Derived.WideShapes
namespace Go.Proofs.YtoegdgbghdnnfaaGreat.Sx
open Go.RowKit
set_option maxHeartbeats 4000000 in
theorem z97(leaves own:Int)(O:List Spot)(H:List Stub)(p0:Value)(hO: ∀x n,zaf O x=some n->n.par.late.length<=100000000/\∀u∈n.par.late,za6 u)(d:Nat)(hd:d<=16)(n i:Int)(hn:n=((2^d:Nat):Int))(hi0:0<=i/\i<65536)(only:Bool)(r:V3)(hr:r=visV O i only d 0 0 []):
  Acts bP 111 1 [(0,pbox leaves own O H)] [.r (I n), .r (I i), .r (.b only), .r (.x (.func (.func 167) #[] #[p0]))] [(0,p0)] 11 [(0,pbox leaves own O H)] (.r (.tu [is r.1,is r.2.1, .b r.2.2])):=by
 refine zaz (T:=Tab) mixed Tab_ok Tryz.func111 rfl (by kernel_rfl) rfl ⟨⟨_,_,rfl,rfl,zai,zai⟩,trivial⟩ ?_
 have hroot:zi8 n=(nd d 0:Int):=by
  have hfit:zck n=true:=by rw[hn];exact zce d hd
  unfold zi8
  rw[if_pos hfit,zhu,hn]
 have hp:2^(d+1)<=131072:=Nat.pow_le_pow_right (n:=2) (by omega) (show d+1<=17 by omega)
 refine Vstep.nm 1 1000001 rfl λp1=>Vstep.nm 7 1000007 rfl λp7=>Vstep.nm 2 1000002 rfl λp2=>Vstep.nm 5 1000005 rfl λp5=>Vstep.mkfunX [p1,p7,p2,p5] rfl ⟨_,_,rfl,⟨1,1000001,rfl,rfl⟩,_,_,rfl,⟨7,1000007,rfl,rfl⟩,_,_,rfl,⟨2,1000002,rfl,rfl⟩,_,_,rfl,⟨5,1000005,rfl,rfl⟩,rfl⟩ ?_
 refine Vstep.nm 3 1000003 rfl λp3=>Vstep.nm 6 1000006 rfl λp6=>Vstep.nm 8 1000008 rfl λp8=>Vstep.nm 4 1000004 rfl λp4=>Vstep.mkfunX [p3,p6,p8,p4] rfl ⟨_,_,rfl,⟨3,1000003,rfl,rfl⟩,_,_,rfl,⟨6,1000006,rfl,rfl⟩,_,_,rfl,⟨8,1000008,rfl,rfl⟩,_,_,rfl,⟨4,1000004,rfl,rfl⟩,rfl⟩ ?_
 obtain⟨c,hc⟩: ∃c:VC,c=⟨leaves,own,O,H,i,only,p0,p1,p2,p3,p4,p5,p6,p7,p8⟩:=⟨_,rfl⟩
 refine Vdraw.cut 3 (by kernel_rfl) ?_
 refine ze (znl n) ?_
 rw[hroot]
 have hvis:=(VC.visit ⟨leaves,own,O,H,i,only,p0,p1,p2,p3,p4,p5,p6,p7,p8⟩ hO hi0 d hd) 0 0 [] [] [] true (Nat.pow_pos (by omega)) (by simp) (by simp) (by simp only[List.length_nil];omega) (by simp only[List.length_nil];omega)
 simp only at hvis
 rw[<-hr,List.nil_append,List.nil_append,Bool.true_and]at hvis
 refine Vstep.sub (Sub.trans (zb1 false 4 0 3 1 rfl rfl) (zb1 false 5 0 3 1 rfl rfl)) ?_
 refine zj [(0,0),(1,1),(2,2),(3,3),(4,4),(5,5),(6,6),(7,7),(8,8),(9,9),(10,10)] [0,1,2,3,4,5,6,7,8] (λvs hv=>za9 (by simp only[List.map];rw[hv 0 0 1000000 _ rfl rfl,hv 1 1 1000001 _ rfl rfl,hv 2 2 1000002 _ rfl rfl,hv 3 3 1000003 _ rfl rfl,hv 4 4 1000004 _ rfl rfl,hv 5 5 1000005 _ rfl rfl,hv 6 6 1000006 _ rfl rfl,hv 7 7 1000007 _ rfl rfl,hv 8 8 1000008 _ rfl rfl];rfl) hvis) (Handed.clo (fs:=[.r (I _), .r (I _), .r (is [])]) (cs:=[.own 3, .own 6, .own 8, .own 4]) rfl rfl ⟨_,_,rfl,cr,_,_,rfl,cr,_,_,rfl,Cv.nil 1,rfl⟩ ⟨_,_,rfl,⟨3,1000003,rfl,rfl⟩,_,_,rfl,⟨6,1000006,rfl,rfl⟩,_,_,rfl,⟨8,1000008,rfl,rfl⟩,_,_,rfl,⟨4,1000004,rfl,rfl⟩,rfl⟩) rfl ⟨(bC bZ),(bA bZ),(bA bZ),(bA bZ),⟨_,_,rfl,rfl,rfl⟩,⟨_,_,rfl,rfl,rfl⟩,(bA bZ),(bA bZ),(bA bZ),⟨rfl,rfl,rfl,rfl,zn _⟩,⟨rfl,rfl,rfl,rfl,zn _⟩,trivial⟩ ⟨zad,zad,zad,zad,zad,zad,zad,zad,zad,zaq,zaq,trivial⟩ ?_
 refine Vdraw.code (Vcode.float mixed Tab_ok 5 [⟨0,19, .own 9,[]⟩,⟨1,20, .own 10,[]⟩,⟨2,21, .r (.b r.2.2),[]⟩] [(3,[0]),(4,[1])] (by kernel_rfl) (F:=[(8, .own 4),(9, .own 5),(10, .own 6),(1000000, .nm 0 p0)]) (O:=[(0,some (pbox leaves own O H)),(4,some (.box [.own 9])),(5,some (.box [.own 10])),(6,some (.box [.r (.b r.2.2)])),(9,some (.ch 3 1 r.1.length (r.1.map I) false)),(10,some (.ch 3 1 r.2.1.length (r.2.1.map I) false))]) (nx:=11) (zac [(0,0),(4,4),(5,5),(6,6),(9,20),(10,21)] rfl ⟨rfl,rfl,rfl,⟨rfl,rfl⟩,trivial⟩ ⟨(bC bZ),⟨_,_,rfl,rfl,rfl⟩,⟨_,_,rfl,rfl,rfl⟩,(bA bZ),⟨rfl,rfl,rfl,rfl,zn _⟩,⟨rfl,rfl,rfl,rfl,zn _⟩,trivial⟩) ?_)
 refine⟨rfl,⟨λY=>zo _,λY=>zo _,λY=>zo _,trivial⟩,[(8, .own 4),(9, .own 5),(10, .own 6),(1000000, .nm 0 p0)],(4,some (.box [.own 9]))::[(0,some (pbox leaves own O H)),(4,some (.box [.own 9])),(5,some (.box [.own 10])),(6,some (.box [.r (.b r.2.2)])),(9,some (.ch 3 1 r.1.length (r.1.map I) false)),(10,some (.ch 3 1 r.2.1.length (r.2.1.map I) false))],11,λY=>zo _,?_⟩
 refine⟨rfl,⟨λY=>zo _,λY=>zo _,λY=>zo _,trivial⟩,[(8, .own 4),(9, .own 5),(10, .own 6),(1000000, .nm 0 p0)],(5,some (.box [.own 10]))::(4,some (.box [.own 9]))::[(0,some (pbox leaves own O H)),(4,some (.box [.own 9])),(5,some (.box [.own 10])),(6,some (.box [.r (.b r.2.2)])),(9,some (.ch 3 1 r.1.length (r.1.map I) false)),(10,some (.ch 3 1 r.2.1.length (r.2.1.map I) false))],11,λY=>zo _,?_⟩
 refine⟨rfl,⟨λY=>zo _,λY=>zo _,λY=>zo _,trivial⟩,?_⟩
 refine zto (Sub.trans (zbr (id:=9) rfl) (zbr (id:=10) rfl)) ?_
 exact zaw (.inl rfl) [(0,0),(4,4),(5,5),(6,6),(9,9),(10,10)] [(8, .own 4),(9, .own 5),(10, .own 6)] [(4,some (.box [.own 9])),(5,some (.box [.own 10])),(6,some (.box [.r (.b r.2.2)])),(9,some (.ch 3 1 r.1.length (r.1.map I) true)),(10,some (.ch 3 1 r.2.1.length (r.2.1.map I) true))] rfl ⟨rfl,rfl,rfl,⟨rfl,rfl⟩,trivial⟩ ⟨(bC bZ),⟨_,_,rfl,rfl,rfl⟩,⟨_,_,rfl,rfl,rfl⟩,(bA bZ),⟨rfl,rfl,rfl,rfl,zn _⟩,⟨rfl,rfl,rfl,rfl,zn _⟩,trivial⟩ ⟨⟨1000000,rfl⟩,trivial⟩ ⟨_,rfl,cr⟩
def itO(ents:List (Int×RV))(dn:List Nat)(last:Option Nat):GOw where
 at_ w k vb:=∃r,vb=(.pointer (some ⟨r,0,none⟩),some r)/\k r=0/\((ents=[]/\last=none/\w.heap[r]?=some (.mapIter none 0 #[] 0))\/
  ∃b es c since seen c0,b<w.heap.size/\0<k b/\w.heap[b]?=some (.map es c)/\entsAt w k ents es.toList/\stampE es c/\w.heap[r]?=some (.mapIter (some b) since seen c0)/\(∀x∈es.toList,x.born<since)/\since<=c0/\since<=c/\
   (∀j e,es.toList[j]?=some e->(seen.contains e.born=true↔j∈dn))/\(∀j,last=some j->∃e s,es.toList[j]?=some e/\seen=Array.push s e.born/\c0=c))
 mono:=by
  rintro w k w' k' vb h hb ⟨r,rfl,hk,hr⟩
  obtain⟨h1,h2⟩:=hb r rfl
  refine⟨r,rfl,h2.trans hk,?_⟩
  rcases hr with⟨e1,e2,hr⟩ |⟨b,es,c,since,seen,c0,q1,q2,q3,q4,q5,q6,q7,q8,q9,q10,q11⟩
  ·exact .inl ⟨e1,e2,h1.trans hr⟩
  ·exact .inr ⟨b,es,c,since,seen,c0,Nat.lt_of_lt_of_le q1 h.size,Nat.lt_of_lt_of_le q2 (h.keep b q1),h.map b q1 q2 es c q3,q4.mono h,q5,h1.trans q6,q7,q8,q9,q10,q11⟩
 one:=by rintro w k vb ⟨r,rfl,_⟩;rfl
theorem zr9{ents:List (Int×RV)}{dn:List Nat}{last:Option Nat}(w:World)(k:Kp)(vb:Value×Option Nat)(h:(itO ents dn last).at_ w k vb):(itO ents dn none).at_ w k vb:=by
 obtain⟨r,e,hk,hr⟩:=h
 refine⟨r,e,hk,?_⟩
 rcases hr with⟨e1,_,hr⟩ |⟨b,es,c,since,seen,c0,q1,q2,q3,q4,q5,q6,q7,q8,q9,q10,_⟩
 ·exact .inl ⟨e1,rfl,hr⟩
 ·exact .inr ⟨b,es,c,since,seen,c0,q1,q2,q3,q4,q5,q6,q7,q8,q9,q10,λj h=>by cases h⟩
theorem z8b{l:List Nat}(h:l.Nodup){i j x:Nat}(hi:l[i]?=some x)(hj:l[j]?=some x):i=j:=by
 obtain⟨h1,e1⟩:=List.getElem?_eq_some_iff.1 hi
 obtain⟨h2,e2⟩:=List.getElem?_eq_some_iff.1 hj
 rcases Nat.lt_trichotomy i j with hlt |e |hlt
 ·exact absurd (e1.trans e2.symm) ((List.pairwise_iff_getElem.1 h) i j h1 h2 hlt)
 ·exact e
 ·exact absurd (e2.trans e1.symm) ((List.pairwise_iff_getElem.1 h) j i h2 h1 hlt)
theorem zke: ∀(n:Nat) {l:List Nat},l.Nodup->(∀x∈l,x<n)->l.length<=n
 |0,l,_,h=>by
  cases l with
  |nil=>simp
  |cons x r=>have:=h x (by simp);omega
 |n+1,l,hn,h=>by
  by_cases hm:n∈l
  ·have h1:=zke n (hn.erase n) λx hx=>by
    have:=(hn.mem_erase_iff).1 hx
    have:=h x this.2
    omega
   rw[List.length_erase_of_mem hm]at h1
   omega
  ·have:=zke n hn λx hx=>by
    have h1:=h x hx
    have:x≠n:=λe=>hm (e▸hx)
    omega
   omega
section
variable {P:Program} {T:TT} {B:Bs} {N:Nat} {S:St} {a:Act} {w:World} {k:Kp} {g:Env} {o:Oper} {Q:Exit->Act->World->Prop}
theorem Vstep.range{t kt et:TypeId}{x:Operand}{ents:List (Int×RV)}{K:St->Prop}(hop:o.op= .range t x)(hx:opr S x=some (.r (.s (mapS ents))))(hu:P.underlying t=some (.map kt et))
  (hK:newK S o.dst (.own S.nx) (some (.gen (itO ents [] none))) K):Vstep P S o K:=by
 rw[za4]at hK
 refine Vstep.one (λB N a w k Q ⟨g,hs⟩ hd=>?_) hK
 have hv:=(zah hs hx).2
 simp only[TF.at_,RV.at_]at hv
 rcases hv with⟨hv,rfl⟩ |⟨b,es,c,hv,hb,hk,hh,he,hst⟩
 ·refine za0 (v:= .pointer (some ⟨w.heap.size,0,none⟩)) (w':=w.alloc (.mapIter none 0 #[] 0)) (by simp[execOp,hop,hv,run_range_nilMap w t kt et hu]) ⟨kset k w.heap.size 0,_,hs.make hd (zdz w _) (λb hb=>zdd b hb) (vb:=(.pointer (some ⟨w.heap.size,0,none⟩),some w.heap.size)) (o:= .gen (itO [] [] none)) trivial ?_ λb hb=>?_⟩
  ·exact⟨w.heap.size,rfl,zcu, .inl ⟨rfl,rfl,heap_alloc_new w _⟩⟩
  ·cases hb
   exact⟨Nat.le_refl _,by simp⟩
 ·refine za0 (v:= .pointer (some ⟨w.heap.size,0,none⟩)) (w':=w.alloc (.mapIter (some b) c #[] c)) (by simp[execOp,hop,hv,run_range_map w t kt et b es c hu hh]) ⟨kset k w.heap.size 0,_,hs.make hd (zdz w _) (λb hb=>zdd b hb) (vb:=(.pointer (some ⟨w.heap.size,0,none⟩),some w.heap.size)) (o:= .gen (itO ents [] none)) trivial ?_ λb hb=>?_⟩
  ·have hle:=Ext.le (zdz w (.mapIter (some b) c #[] c)) (k:=k) (k':=kset k w.heap.size 0) λb hb=>zdd b hb
   exact⟨w.heap.size,rfl,zcu, .inr ⟨b,es,c,c, #[],c,by simp;omega,by show 0<kset k w.heap.size 0 b;rw[zdd b hb];exact hk,hle.map b hb hk es c hh,he.mono hle,hst,heap_alloc_new w _,hst.1,Nat.le_refl _,Nat.le_refl _,λj e _=>by simp,λj h=>by cases h⟩⟩
  ·cases hb
   exact⟨Nat.le_refl _,by simp⟩
theorem Vstep.next{x:Operand}{id:Nat}{ents:List (Int×RV)}{dn:List Nat}{last:Option Nat}{K:St->Prop}(hop:o.op= .next x false)(hx:opr S x=some (.own id))(ho:oget S.O id=some (.gen (itO ents dn last)))
  (h0:(∀j,j<ents.length->j∈dn)->newK S o.dst (.r (.tu [.b false])) none K)
  (h1: ∀(j:Nat) (x:Int×RV),ents[j]?=some x->j∉dn->newK ⟨S.F,(id,some (.gen (itO ents (dn++[j]) (some j))))::S.O,S.nx⟩ o.dst (.r (.tu [.b true, .i .i64 x.1,x.2])) none K):Vstep P S o K:=by
 simp only[za4]at h0 h1
 let ι:={y:Option Nat//match y with
  |none=>∀j,j<ents.length->j∈dn
  |some j=>j<ents.length/\j∉dn}
 refine⟨ι,λy=>match y with
  |⟨none,_⟩=>S.new o.dst (.r (.tu [.b false])) none
  |⟨some j,h⟩=>St.new ⟨S.F,(id,some (.gen (itO ents (dn++[j]) (some j))))::S.O,S.nx⟩ o.dst (.r (.tu [.b true, .i .i64 (ents[j]'h.1).1,(ents[j]'h.1).2])) none,λB N a w k Q ⟨g,hs⟩ hd=>?_,λy=>?_⟩
 ·have hv:=(zah hs hx).2
  simp only[TF.at_]at hv
  obtain⟨_,_,hat,_⟩:=hs.owns id _ ho
  simp only[Ow.at_]at hat
  obtain⟨r,e,hkr,hr⟩:=hat
  rw[e]at hv
  rcases hr with⟨rfl,rfl,hr⟩ |⟨b,es,c,since,seen,c0,q1,q2,q3,q4,q5,q6,q7,q8,q9,q10,q11⟩
  ·refine za0 (v:= .tuple #[.bool false]) (w':=w) ?_ ⟨⟨none,λj hj=>by simp at hj⟩,k,g,hs.put hd trivial ?_⟩
   ·simp only[execOp,hop,hv,Sem.run_bind]
    simp[Instr.next,getObj,Sem.run,hr]
   ·simp only[TF.at_,RV.at_]
    exact⟨_,rfl,by simp only[RV.partsAt,RV.at_];exact⟨_,_,rfl,rfl,rfl⟩⟩
  ·rcases run_next_at (P:=P) w o.type r b since c0 seen es c q6 q3 q7 q8 with⟨hz,hrun⟩ |⟨en,hen,w1,hw1,hrun⟩
   ·have hall: ∀j,j<ents.length->j∈dn:=λj hj=>by
     have hjl:j<es.toList.length:=by rw[q4.1];exact hj
     have hjs:=List.getElem?_eq_getElem hjl
     refine(q10 j _ hjs).1 ?_
     refine Classical.byContradiction λhn=>?_
     have hm:es.toList[j]∈(leftOf es seen).toList:=by
      unfold leftOf
      rw[Array.toList_filter,List.mem_filter]
      exact⟨List.getElem_mem hjl,by simpa using hn⟩
     have:(leftOf es seen).toList=[]:=List.eq_nil_of_length_eq_zero (by rw[Array.length_toList];exact hz)
     rw[this]at hm
     cases hm
    refine za0 (v:= .tuple #[.bool false]) (w':=w) (by simp[execOp,hop,hv,hrun]) ⟨⟨none,hall⟩,k,g,hs.put hd trivial ?_⟩
    simp only[TF.at_,RV.at_]
    exact⟨_,rfl,by simp only[RV.partsAt,RV.at_];exact⟨_,_,rfl,rfl,rfl⟩⟩
   ·unfold leftOf at hen
    rw[Array.toList_filter,List.mem_filter]at hen
    obtain⟨hmem,hns⟩:=hen
    obtain⟨j,hjl,hj⟩:=List.getElem_of_mem hmem
    have hjs:es.toList[j]?=some en:=by rw[List.getElem?_eq_getElem hjl,hj]
    have hje:j<ents.length:=by rw[<-q4.1];exact hjl
    have hjn:j∉dn:=λh=>by
     have:=(q10 j en hjs).2 h
     rw[this]at hns
     cases hns
    have hx1:=q4.2 j _ en (List.getElem?_eq_getElem hje) hjs
    have hheap:w1.heap=w.heap:=by rcases hw1 with rfl |rfl<;>rfl
    have hrl:r<w.heap.size:=(Array.getElem?_eq_some_iff.1 q6).1
    have hbr:b≠r:=λe=>by rw[e,q6]at q3;cases q3
    obtain⟨w2,hw2⟩: ∃w2,w2=ChangeMaps.setBlock w1 r (.mapIter (some b) since (seen.push en.born) c):=⟨_,rfl⟩
    have e2:w2.heap=w.heap.setIfInBounds r (.mapIter (some b) since (seen.push en.born) c):=by rw[hw2];simp only[ChangeMaps.setBlock];rw[hheap]
    have eos:w2.os=w.os/\w2.tape=w.tape/\w2.output=w.output:=by rw[hw2];rcases hw1 with rfl |rfl<;>exact⟨rfl,rfl,rfl⟩
    have hw:Wrote w k w2 k (some r):=⟨eos.1,eos.2.1,eos.2.2,by rw[e2];simp,λx _ hne=>⟨by rw[e2,Array.getElem?_setIfInBounds_ne (λh=>hne (by rw[h]))],rfl⟩,λx hx=>by
     cases hx
     exact⟨Nat.le_refl _,λo' ho'=>by omega,λh=>by omega⟩⟩
    have hnew:(Ow.gen (itO ents (dn++[j]) (some j))).at_ w2 k g (g id):=by
     simp only[Ow.at_]
     refine⟨r,e,hkr, .inr ⟨b,es,c,since,seen.push en.born,c,Nat.lt_of_lt_of_le q1 hw.size,q2,hw.le.map b q1 q2 es c q3,q4.mono hw.le,q5,by rw[e2,Array.getElem?_setIfInBounds_self_of_lt hrl],q7,q9,q9,λi ei hi=>?_,λi hi=>?_⟩⟩
     ·rw[Array.contains_push]
      simp only[Bool.or_eq_true,beq_iff_eq,List.mem_append,List.mem_singleton]
      constructor
      ·rintro(h |h)
       ·exact .inl ((q10 i ei hi).1 h)
       ·refine .inr (z8b q5.2.1 (x:=en.born) ?_ ?_)
        ·rw[List.getElem?_map,hi];exact congrArg some h
        ·rw[List.getElem?_map,hjs];rfl
      ·rintro(h |rfl)
       ·exact .inl ((q10 i ei hi).2 h)
       ·rw[hjs]at hi;cases hi;exact .inr rfl
     ·cases hi
      exact⟨en,seen,hjs,rfl,rfl⟩
    have hs2:=hs.redo (ow':= .gen (itO ents (dn++[j]) (some j))) ho (by rw[e]) hw trivial hnew
    refine za0 (v:= .tuple #[.bool true,en.key,en.val]) (w':=w2) (by simp[execOp,hop,hv,hrun,hw2]) ⟨⟨some j,hje,hjn⟩,k,g,hs2.put hd trivial ?_⟩
    simp only[TF.at_,RV.at_]
    refine⟨_,rfl,?_⟩
    simp only[RV.partsAt,RV.at_]
    exact⟨_,_,rfl,rfl,_,_,rfl,hx1.1,_,_,rfl,RV.mono hw.le _ _ hx1.2,rfl⟩
 ·obtain⟨y,hy⟩:=y
  cases y with
  |none=>exact h0 hy
  |some j=>exact h1 j _ (List.getElem?_eq_getElem hy.1) hy.2
theorem Vstep.entry{x:Operand}{id:Nat}{ents:List (Int×RV)}{dn:List Nat}{j:Nat}{y:Int×RV}{K:St->Prop}(hop:o.op= .entry x)(hx:opr S x=some (.own id))(ho:oget S.O id=some (.gen (itO ents dn (some j))))(hy:ents[j]?=some y)
  (hK:newK S o.dst (.r (.tu [.i .i64 y.1,y.2])) none K):Vstep P S o K:=by
 rw[za4]at hK
 refine Vstep.one (λB N a w k Q ⟨g,hs⟩ hd=>?_) hK
 have hv:=(zah hs hx).2
 simp only[TF.at_]at hv
 obtain⟨_,_,hat,_⟩:=hs.owns id _ ho
 simp only[Ow.at_]at hat
 obtain⟨r,e,hkr,hr⟩:=hat
 rw[e]at hv
 rcases hr with⟨_,h,_⟩ |⟨b,es,c,since,seen,c0,q1,q2,q3,q4,q5,q6,q7,q8,q9,q10,q11⟩
 ·cases h
 ·obtain⟨en,s,hjs,rfl,rfl⟩:=q11 j rfl
  have hx1:=q4.2 j _ en hy hjs
  have hrun:=run_entry_at (P:=P) w r b since s es c0 en q6 q3 (List.mem_of_getElem? hjs) q5.2.1
  refine za0 (v:= .tuple #[en.key,en.val]) (w':=w) (by simp[execOp,hop,hv,hrun]) ⟨k,g,hs.put hd trivial ?_⟩
  simp only[TF.at_,RV.at_]
  refine⟨_,rfl,?_⟩
  simp only[RV.partsAt,RV.at_]
  exact⟨_,_,rfl,hx1.1,_,_,rfl,hx1.2,rfl⟩
end
section
open Go.Shelf
def znx:Go.Shelf.Ren:=⟨λ |7=>114 |10=>164 |n=>n,λ |23=>136 |26=>3 |3=>61 |28=>194 |0=>0 |27=>193 |33=>203 |4=>4 |n=>n,λ |n=>n⟩
theorem z4g:Go.Proofs.SlLaysZI.n7 bP znx:={
 mixed:=by kernel_rfl
 f7:=⟨Tryz.f114.name,by decide,Tryz.func114.trans (congrArg some (by kernel_rfl))⟩
 f10:=⟨Tryz.f164.name,by decide,Tryz.func164.trans (congrArg some (by kernel_rfl))⟩
 t0:=Tryz.underlying0
 a0:=Tryz.isAgg0
 z0:=Tryz.sizeOf0
 v0:=Tryz.zeroValue0
 t4:=Tryz.underlying4
 a4:=Tryz.isAgg4
 z4:=Tryz.sizeOf4
 v4:=Tryz.zeroValue4
 t23:=Tryz.underlying136
 a23:=Tryz.isAgg136
 z23:=Tryz.sizeOf136
 v23:=Tryz.zeroValue136
 t26:=Tryz.underlying3
 a26:=Tryz.isAgg3
 z26:=Tryz.sizeOf3
 v26:=Tryz.zeroValue3
 t27:=Tryz.underlying193
 a27:=Tryz.isAgg193
 z27:=Tryz.sizeOf193
 v27:=Tryz.zeroValue193
 t28:=Tryz.underlying194
 a28:=Tryz.isAgg194
 z28:=Tryz.sizeOf194
 v28:=Tryz.zeroValue194
 t33:=Tryz.underlying203
 a33:=Tryz.isAgg203
 z33:=Tryz.sizeOf203
 v33:=Tryz.zeroValue203}
def zny:Go.Shelf.Ren:=⟨λ |7=>115 |10=>165 |n=>n,λ |23=>137 |26=>3 |3=>22 |28=>194 |0=>0 |27=>193 |33=>203 |4=>4 |n=>n,λ |n=>n⟩
theorem z4h:Go.Proofs.SlLaysZI.n7 bP zny:={
 mixed:=by kernel_rfl
 f7:=⟨Tryz.f115.name,by decide,Tryz.func115.trans (congrArg some (by kernel_rfl))⟩
 f10:=⟨Tryz.f165.name,by decide,Tryz.func165.trans (congrArg some (by kernel_rfl))⟩
 t0:=Tryz.underlying0
 a0:=Tryz.isAgg0
 z0:=Tryz.sizeOf0
 v0:=Tryz.zeroValue0
 t4:=Tryz.underlying4
 a4:=Tryz.isAgg4
 z4:=Tryz.sizeOf4
 v4:=Tryz.zeroValue4
 t23:=Tryz.underlying137
 a23:=Tryz.isAgg137
 z23:=Tryz.sizeOf137
 v23:=Tryz.zeroValue137
 t26:=Tryz.underlying3
 a26:=Tryz.isAgg3
 z26:=Tryz.sizeOf3
 v26:=Tryz.zeroValue3
 t27:=Tryz.underlying193
 a27:=Tryz.isAgg193
 z27:=Tryz.sizeOf193
 v27:=Tryz.zeroValue193
 t28:=Tryz.underlying194
 a28:=Tryz.isAgg194
 z28:=Tryz.sizeOf194
 v28:=Tryz.zeroValue194
 t33:=Tryz.underlying203
 a33:=Tryz.isAgg203
 z33:=Tryz.sizeOf203
 v33:=Tryz.zeroValue203}
def zqc:Go.Shelf.Ren:=⟨λ |6=>113 |8=>162 |9=>163 |11=>219 |13=>221 |12=>220 |23=>281 |24=>282 |14=>273 |15=>274 |16=>275 |17=>276 |18=>277 |19=>278 |20=>225 |21=>279 |22=>280 |25=>321 |26=>322 |27=>323 |28=>324 |29=>325 |30=>232 |31=>357 |n=>n,λ |26=>3 |28=>194 |24=>57 |0=>0 |3=>3 |37=>252 |48=>298 |50=>23 |4=>4 |40=>326 |39=>325 |45=>245 |5=>5 |9=>9 |51=>367 |55=>371 |57=>404 |58=>174 |33=>203 |n=>n,λ |n=>n⟩
theorem z2h:Go.Proofs.SlLaysZI.n6 bP zqc:={
 mixed:=by kernel_rfl
 f6:=⟨Tryz.f113.name,by decide,Tryz.func113.trans (congrArg some (by kernel_rfl))⟩
 f8:=⟨Tryz.f162.name,by decide,Tryz.func162.trans (congrArg some (by kernel_rfl))⟩
 f11:=⟨Tryz.f219.name,by decide,Tryz.func219.trans (congrArg some (by kernel_rfl))⟩
 t0:=Tryz.underlying0
 a0:=Tryz.isAgg0
 z0:=Tryz.sizeOf0
 v0:=Tryz.zeroValue0
 t24:=Tryz.underlying57
 a24:=Tryz.isAgg57
 z24:=Tryz.sizeOf57
 v24:=Tryz.zeroValue57
 t26:=Tryz.underlying3
 a26:=Tryz.isAgg3
 z26:=Tryz.sizeOf3
 v26:=Tryz.zeroValue3
 t28:=Tryz.underlying194
 a28:=Tryz.isAgg194
 z28:=Tryz.sizeOf194
 v28:=Tryz.zeroValue194
 i26:=by kernel_rfl}
def z8x:Go.Shelf.Ren:=⟨λ |5=>163 |8=>221 |7=>220 |19=>281 |20=>282 |10=>273 |11=>274 |12=>275 |13=>276 |14=>277 |15=>278 |16=>225 |17=>279 |18=>280 |30=>321 |31=>322 |32=>323 |33=>324 |34=>325 |35=>232 |40=>357 |n=>n,λ |23=>57 |25=>3 |3=>3 |32=>252 |22=>57 |0=>0 |44=>298 |46=>23 |4=>4 |36=>326 |35=>325 |41=>245 |5=>5 |9=>9 |53=>367 |57=>371 |63=>404 |64=>174 |n=>n,λ |n=>n⟩
theorem zcvb:Go.Proofs.SlLaysM.n5 bP z8x:={
 mixed:=by kernel_rfl
 f5:=⟨Tryz.f163.name,by decide,Tryz.func163.trans (congrArg some (by kernel_rfl))⟩
 f7:=⟨Tryz.f220.name,by decide,Tryz.func220.trans (congrArg some (by kernel_rfl))⟩
 f8:=Tryz.func221.trans (congrArg some (by kernel_rfl))
 f10:=⟨Tryz.f273.name,by decide,Tryz.func273.trans (congrArg some (by kernel_rfl))⟩
 f11:=⟨Tryz.f274.name,by decide,Tryz.func274.trans (congrArg some (by kernel_rfl))⟩
 f12:=⟨Tryz.f275.name,by decide,Tryz.func275.trans (congrArg some (by kernel_rfl))⟩
 f13:=⟨Tryz.f276.name,by decide,Tryz.func276.trans (congrArg some (by kernel_rfl))⟩
 f14:=⟨Tryz.f277.name,by decide,Tryz.func277.trans (congrArg some (by kernel_rfl))⟩
 f15:=⟨Tryz.f278.name,by decide,Tryz.func278.trans (congrArg some (by kernel_rfl))⟩
 f16:=⟨Tryz.f225.name,by decide,Tryz.func225.trans (congrArg some (by kernel_rfl))⟩
 f17:=⟨Tryz.f279.name,by decide,Tryz.func279.trans (congrArg some (by kernel_rfl))⟩
 f18:=⟨Tryz.f280.name,by decide,Tryz.func280.trans (congrArg some (by kernel_rfl))⟩
 f19:=Tryz.func281.trans (congrArg some (by kernel_rfl))
 f20:=Tryz.func282.trans (congrArg some (by kernel_rfl))
 f30:=⟨Tryz.f321.name,by decide,Tryz.func321.trans (congrArg some (by kernel_rfl))⟩
 f31:=Tryz.func322.trans (congrArg some (by kernel_rfl))
 f32:=Tryz.func323.trans (congrArg some (by kernel_rfl))
 f33:=⟨Tryz.f324.name,by decide,Tryz.func324.trans (congrArg some (by kernel_rfl))⟩
 f34:=⟨Tryz.f325.name,by decide,Tryz.func325.trans (congrArg some (by kernel_rfl))⟩
 f35:=⟨Tryz.f232.name,by decide,Tryz.func232.trans (congrArg some (by kernel_rfl))⟩
 f40:=⟨Tryz.f357.name,by decide,Tryz.func357.trans (congrArg some (by kernel_rfl))⟩
 t0:=Tryz.underlying0
 a0:=Tryz.isAgg0
 z0:=Tryz.sizeOf0
 v0:=Tryz.zeroValue0
 t3:=Tryz.underlying3
 a3:=Tryz.isAgg3
 z3:=Tryz.sizeOf3
 v3:=Tryz.zeroValue3
 t4:=Tryz.underlying4
 a4:=Tryz.isAgg4
 z4:=Tryz.sizeOf4
 v4:=Tryz.zeroValue4
 t5:=Tryz.underlying5
 a5:=Tryz.isAgg5
 z5:=Tryz.sizeOf5
 v5:=Tryz.zeroValue5
 t9:=Tryz.underlying9
 a9:=Tryz.isAgg9
 z9:=Tryz.sizeOf9
 v9:=Tryz.zeroValue9
 t22:=Tryz.underlying57
 a22:=Tryz.isAgg57
 z22:=Tryz.sizeOf57
 v22:=Tryz.zeroValue57
 t23:=Tryz.underlying57
 a23:=Tryz.isAgg57
 z23:=Tryz.sizeOf57
 v23:=Tryz.zeroValue57
 t25:=Tryz.underlying3
 a25:=Tryz.isAgg3
 z25:=Tryz.sizeOf3
 v25:=Tryz.zeroValue3
 t32:=Tryz.underlying252
 a32:=Tryz.isAgg252
 z32:=Tryz.sizeOf252
 v32:=Tryz.zeroValue252
 t35:=Tryz.underlying325
 a35:=Tryz.isAgg325
 z35:=Tryz.sizeOf325
 v35:=Tryz.zeroValue325
 t36:=Tryz.underlying326
 a36:=Tryz.isAgg326
 z36:=Tryz.sizeOf326
 v36:=Tryz.zeroValue326
 t41:=Tryz.underlying245
 a41:=Tryz.isAgg245
 z41:=Tryz.sizeOf245
 v41:=Tryz.zeroValue245
 t44:=Tryz.underlying298
 a44:=Tryz.isAgg298
 z44:=Tryz.sizeOf298
 v44:=Tryz.zeroValue298
 t46:=Tryz.underlying23
 a46:=Tryz.isAgg23
 z46:=Tryz.sizeOf23
 v46:=Tryz.zeroValue23
 t53:=Tryz.underlying367
 a53:=Tryz.isAgg367
 z53:=Tryz.sizeOf367
 v53:=Tryz.zeroValue367
 t57:=Tryz.underlying371
 a57:=Tryz.isAgg371
 z57:=Tryz.sizeOf371
 v57:=Tryz.zeroValue371
 t63:=Tryz.underlying404
 a63:=Tryz.isAgg404
 z63:=Tryz.sizeOf404
 v63:=Tryz.zeroValue404
 t64:=Tryz.underlying174
 a64:=Tryz.isAgg174
 z64:=Tryz.sizeOf174
 v64:=Tryz.zeroValue174}
end
section
open Go.RowKit Go.Maps Go.Sort Go.Shelf
def zo8(f:FuncId)(ents:List (Int×RV)):Stable where
 at_ w k v:=∃b m,v= .func (.func f) #[] #[.pointer (some ⟨b,0,none⟩)]/\b<w.heap.size/\0<k b/\w.cell? ⟨b,0,none⟩=some m/\(mapS ents).at_ w k m
 mono:=λh ⟨b,m,e,hb,hk,hc,hm⟩=>⟨b,m,e,Nat.lt_of_lt_of_le hb h.size,Nat.lt_of_lt_of_le hk (h.keep b hb),(h.cell b 0 hb hk).trans hc,(mapS ents).mono h hm⟩
 one:=by rintro w k v ⟨b,m,rfl,_⟩;rfl
def zbu(l:List Int):List Int:=l.mergeSort leI
theorem zvd{ents:List (Int×RV)}{P:Program}{f fi:FuncId}{t:TypeId}(hk:zlj P f)(hc: ∀mb w,Calls P f #[.map mb] w λe w'=>e= .returned (.func (.func fi) #[] #[.pointer (some ⟨w.heap.size,0,none⟩)])/\w'=w.alloc (.cells #[.map mb] t)):zab P f [.s (mapS ents)] (.r (.s (zo8 fi ents))):=by
 refine⟨hk,λw k vs hp=>?_⟩
 obtain⟨a,rfl,h1⟩:=z8i hp
 simp only[RV.at_]at h1
 have hmb: ∃mb,a= .map mb:=by
  rcases h1 with⟨rfl,_⟩ |⟨b,_,_,rfl,_⟩
  ·exact⟨none,rfl⟩
  ·exact⟨some b,rfl⟩
 obtain⟨mb,rfl⟩:=hmb
 refine(hc mb w).mono ?_
 rintro e w' ⟨rfl,rfl⟩
 have hle:=Ext.le (zdz w (.cells #[.map mb] t)) (k:=k) (k':=kset k w.heap.size 1) λb hb=>zdd b hb
 refine⟨_,rfl,zdz w _,kset k w.heap.size 1,λb hb=>zdd b hb,?_⟩
 simp only[Res.at_,RV.at_]
 refine⟨w.heap.size, .map mb,rfl,by simp,by rw[zcu];omega,?_,(mapS ents).mono hle h1⟩
 rw[cell_of_row (w.alloc (.cells #[.map mb] t)) w.heap.size 0 #[.map mb] t (0,0) (heap_alloc_new w _)]
 rfl
theorem z1b(ents:List (Int×RV)):bG 114 [.s (mapS ents)] (.r (.s (zo8 164 ents))):=
 zvd (zfe Tryz.func114 rfl (by kernel_rfl)) λmb w=>(callsIn_wide (n:=5)).1 (AnyZI.keys_in z4g Fence.wide 5 trivial rfl mb w)
theorem z1a(ents:List (Int×RV)):bG 115 [.s (mapS ents)] (.r (.s (zo8 165 ents))):=
 zvd (zfe Tryz.func115 rfl (by kernel_rfl)) λmb w=>(callsIn_wide (n:=5)).1 (AnyZI.keys_in z4h Fence.wide 5 trivial rfl mb w)
theorem zzn(m:Nat):AnyZI.SortsIn bP zqc Fence.wide m:=
 ⟨λblk off cap ss W hH hblk hsz=>callsIn_wide.2 (AnyM.slices_Sort_int zcvb blk off cap ss W hH hblk hsz),
 λp cap W=>callsIn_wide.2 (AnyM.slices_Sort_int_none zcvb p cap W)⟩
abbrev rdN:Value->Option (DataW Unit×List MemPlace):=λ_=>some (.nil,[])
theorem ze4b{P:Program}{ti:TypeId}(hu:P.underlying ti=some (.int .i64)){ents:List (Int×RV)}{w:World}{k:Kp}{b:Nat}{es:Array MapEntry}{c:Nat}(hl:ents.length<=1000000)(hi: ∀x∈ents,i64 x.1)(hh:w.heap[b]?=some (.map es c))(he:entsAt w k ents es.toList)(hst:stampE es c):
  ∃D0:DataW Unit,w.ownsMap P ti rdN b es.size D0/\(intKeys D0).Perm (ents.map (·.1))/\Maps.size D0=ents.length:=by
 have hkey: ∀(j:Nat) (x:MapEntry),es.toList[j]?=some x->∃y,ents[j]?=some y/\Go.WideElems.rd P ti rdN x=some (.int .i64 y.1, .nil):=λj x hx=>by
  have hj:=(List.getElem?_eq_some_iff.1 hx).1
  have hj2:j<ents.length:=by rw[<-he.1];exact hj
  have h1:=he.2 j _ x (List.getElem?_eq_getElem hj2) hx
  refine⟨_,List.getElem?_eq_getElem hj2,?_⟩
  have hb:=hi _ (List.getElem_mem hj2)
  have hwf:(Lit.int .i64 ents[j].1).wf=true:=by
   unfold i64 at hb
   simp[Lit.wf,IntKind.min,IntKind.max,IntKind.signed,IntKind.bits]
   omega
  unfold Go.WideElems.rd
  simp[keyOf,hu,mapKey,h1.1,hwf]
 have hmap:es.toList.map (Go.WideElems.rg P ti rdN)=ents.map λy=>((.int .i64 y.1:Lit),(.nil:DataW Unit)):=by
  apply List.ext_getElem?
  intro j
  rw[List.getElem?_map,List.getElem?_map]
  cases hx:es.toList[j]? with
  |none=>
   have:ents[j]?=none:=by rw[List.getElem?_eq_none_iff]at hx⊢;rw[<-he.1];exact hx
   rw[this];rfl
  |some x=>
   obtain⟨y,hy,hr⟩:=hkey j x hx
   rw[hy]
   simp only[Option.map_some]
   congr 1
   unfold Go.WideElems.rg
   rw[hr]
   rfl
 refine⟨_,⟨es,c,hh,⟨?_,hst,λx hx=>?_⟩,Nat.le_refl _,rfl⟩,?_,?_⟩
 ·have:es.size=ents.length:=by rw[<-Array.length_toList];exact he.1
  simp only[maxLen]
  omega
 ·obtain⟨j,hj⟩:=List.getElem?_of_mem hx
  obtain⟨y,_,hr⟩:=hkey j x hj
  exact⟨_,hr⟩
 ·rw[hmap]
  simp only[intKeys]
  refine((Go.WideShapes.sorted_perm _).map _).trans ?_
  rw[List.map_map]
  exact List.Perm.of_eq (List.map_congr_left λy _=>rfl)
 ·simp only[Maps.size]
  rw[(Go.WideShapes.sorted_perm _).length_eq,hmap,List.length_map]
theorem zs0{w w':World}{k:Kp}{l ss:List Int}{v:Value}(hp:ss.Perm l)(hrow:w'.ownsRow w.heap.size 3 1 v ss.length ((ss.mergeSort (λx y=>decide (x<=y))).map encZ))(hb:Below w.heap.size w w'):
  ∃v',Ending.returned v= .returned v'/\Ext w w'/\∃k':Kp,(∀b,b<w.heap.size->k' b=k b)/\(ich (zbu l)).at_ w.heap.size w' k' v':=by
 have hs:ss.mergeSort (λx y=>decide (x<=y))=zbu l:=mergeSort_of_perm_i hp
 rw[hs]at hrow
 have hlen:ss.length=(zbu l).length:=by unfold zbu;rw[List.length_mergeSort,hp.length_eq]
 rw[hlen]at hrow
 refine⟨v,rfl,hb,?_⟩
 obtain⟨_,h⟩:=hrow
 rcases h with⟨rfl,h0⟩ |⟨g,cap,cur,rfl,hbase,hh,r1,r2,r3,r4⟩
 ·refine⟨k,λ_ _=>rfl,none,⟨by simp, .inl ⟨rfl, .inl ⟨h0,none,rfl⟩⟩⟩,λb hb=>by cases hb⟩
 ·refine⟨kset k g (zbu l).length,λb hb=>by simp only[kset];rw[if_neg (by omega)],some g,⟨by simp, .inr ⟨g,cap,cur,rfl,rfl,hh,r1,r2,Nat.le_of_eq r3.symm,by simp[kset],?_⟩⟩,λb hb=>by cases hb;exact hbase⟩
  rw[Nat.mul_one]at r4⊢
  rw[r4]
  exact zsi (λx w k v=>by simp[RV.at_]) (λ_=>rfl) _
set_option maxRecDepth 100000 in
theorem zqd(ents:List (Int×RV))(hl:ents.length<=1000000)(hi: ∀x∈ents,i64 x.1)(fi:FuncId)(eg: ∀args w,(callFunc fi args).run bP w= .ok (.enter fi args) w)
  (hnil: ∀(b:Nat) (w:World),b<w.heap.size->w.cell? ⟨b,0,none⟩=some (.map none)->SeqGives Fence.wide 2 bP fi #[.pointer (some ⟨b,0,none⟩)] encZ (λss:List Int=>ss=[]) 0 w)
  (hsome: ∀(b bm nn:Nat) (D0:DataW Unit) (w:World),b<w.heap.size->w.cell? ⟨b,0,none⟩=some (.map (some bm))->w.ownsMap bP 3 rdN bm nn D0->SeqGives Fence.wide 2 bP fi #[.pointer (some ⟨b,0,none⟩)] encZ (λss:List Int=>ss.Perm (intKeys D0)) (Maps.size D0) w):
  bG 113 [.s (zo8 fi ents)] (ich (zbu (ents.map (·.1)))):=by
 refine⟨zfe Tryz.func113 rfl (by kernel_rfl),λw k vs hp=>?_⟩
 obtain⟨a,rfl,h1⟩:=z8i hp
 simp only[RV.at_]at h1
 obtain⟨b,m,rfl,hb,hkb,hc,hm⟩:=h1
 rcases hm with⟨rfl,rfl⟩ |⟨bm,es,c,rfl,hbm,hkm,hh,he,hst⟩
 ·have cS:=AnyZI.sorted_in z2h Fence.wide 5 trivial trivial trivial trivial rfl (by omega) (zzn _) (enters_of Tryz.func163 (by kernel_rfl) rfl) fi #[.pointer (some ⟨b,0,none⟩)] trivial eg _ 0 (Nat.zero_le _) (by omega) w (hnil b w hb hc)
  refine(callsIn_wide.1 cS).mono ?_
  rintro e w' ⟨v,ss,rfl,rfl,hrow,_,hbl⟩
  exact zs0 (List.Perm.refl _) hrow hbl
 ·obtain⟨D0,hown,hperm,hsz⟩:=ze4b zje hl hi hh he hst
  have cS:=AnyZI.sorted_in z2h Fence.wide 5 trivial trivial trivial trivial rfl (by omega) (zzn _) (enters_of Tryz.func163 (by kernel_rfl) rfl) fi #[.pointer (some ⟨b,0,none⟩)] trivial eg _ (Maps.size D0) (by rw[hsz];simp only[maxLen];omega) (by rw[hsz];omega) w (hsome b bm _ D0 w hb hc hown)
  refine(callsIn_wide.1 cS).mono ?_
  rintro e w' ⟨v,ss,rfl,hS,hrow,_,hbl⟩
  exact zs0 (hS.trans hperm) hrow hbl
theorem zu2(ents:List (Int×RV))(hl:ents.length<=1000000)(hi: ∀x∈ents,i64 x.1):bG 113 [.s (zo8 164 ents)] (ich (zbu (ents.map (·.1)))):=
 zqd ents hl hi _ (enters_of Tryz.func164 (by kernel_rfl) rfl)
  (λb w hb hc=>AnyZI.keys_gives_nil (ρ:=znx) {z4g with} Fence.wide _ trivial rfl b w hb hc)
  (λb bm nn D0 w hb hc hown=>AnyZI.keys_gives (ρ:=znx) {z4g with} Fence.wide _ trivial rfl (by omega) b bm nn D0 w hb hc hown)
theorem zu1(ents:List (Int×RV))(hl:ents.length<=1000000)(hi: ∀x∈ents,i64 x.1):bG 113 [.s (zo8 165 ents)] (ich (zbu (ents.map (·.1)))):=
 zqd ents hl hi _ (enters_of Tryz.func165 (by kernel_rfl) rfl)
  (λb w hb hc=>AnyZI.keys_gives_nil (ρ:=zny) {z4h with} Fence.wide _ trivial rfl b w hb hc)
  (λb bm nn D0 w hb hc hown=>AnyZI.keys_gives (ρ:=zny) {z4h with} Fence.wide _ trivial rfl (by omega) b bm nn D0 w hb hc hown)
end
end Go.Proofs.YtoegdgbghdnnfaaGreat.Sx
