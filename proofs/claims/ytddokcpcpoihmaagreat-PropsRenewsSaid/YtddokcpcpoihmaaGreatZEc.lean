import Derived.Test.YtddokcpcpoihmaaGreatZRefC
import Derived.Test.YtddokcpcpoihmaaGreatZEa
import Derived.Shelf.RegionOpenPlain
import Derived.Lib.Walk
import Derived.Lib.SliceRun
import Derived.Lib.Overlaps
import Derived.Laws.Externs
import Derived.Laws.IdiomCopy
import Derived.Lib.AppendZerosOnto
import Derived.Laws.NewBlocks
import Derived.Test.YtddokcpcpoihmaaGreatZMe
import Derived.Laws.ComplexArith
import Derived.Test.YtddokcpcpoihmaaGreatZWire
import Derived.Laws.Cover3
import Derived.Test.YtddokcpcpoihmaaGreatZFw
namespace Go.Proofs.YtddokcpcpoihmaaGreat.Sx
open Go.RowKit
set_option linter.unusedVariables false
section
def lOff:Nat->Nat
 |0=>0 |1=>1 |2=>2 |3=>4 |_=>5
def zot(b:Nat):Array Value:= #[.pointer (some ⟨b,0,none⟩), .pointer (some ⟨b,1,none⟩), .pointer (some ⟨b,2,none⟩), .pointer (some ⟨b,4,none⟩), .pointer (some ⟨b,5,none⟩)]
def z5p(l:Leaf)(w:World)(k:Kp)(t:Value)(wr:World):Prop:=
 ∃(j:Nat) (k':Kp) (cur z:Array Value) (e e2 e3:TypeId),t= .int .i64 j/\j<=5/\Go.Proofs.YtddokcpcpoihmaaGreat.Ext w wr/\(∀b,b<w.heap.size->k' b=k b)/\wr.heap[w.heap.size]?=some (.cells cur e (0,0))/\k' w.heap.size=0/\k' (w.heap.size+1)=0/\
  RV.listAt wr k' l.c cur.toList/\wr.heap[w.heap.size+1]?=some (.cells z e2 (0,0))/\z.size=6/\wr.heap[w.heap.size+2]?=some (.cells (zot w.heap.size) e3 (0,0))
theorem zo8(l:Leaf)(hl:l.fit)(w:World)(k:Kp)(us:Array Value)(hus:RV.listAt w k l.c us.toList):
  Calls Tryz.prog 51 #[.agg us] w (Ret w λw' v=>∃k':Kp,(∀b,b<w.heap.size->k' b=k b)/\(RV.ag l.c).at_ w' k' v):=by
 have hz:us.size=6:=by rw[<-Array.length_toList];exact zan hus
 go_enter Tryz.func51,Tryz.ntmps51
 go_wp2_with fail
 go_loopw [12] (λt wr=>z5p l w k t wr) (λt _=>(5-intOf t).toNat)
 case atStart=>
  have f1: ∀o1 o2 o3:Obj,(((w.alloc o1).alloc o2).alloc o3).heap[w.heap.size]?=some o1:=λo1 o2 o3=>by
   rw[Below.heap_alloc _ _ _ (by simp;omega),Below.heap_alloc _ _ _ (by simp),heap_alloc_new]
  have f2: ∀o1 o2 o3:Obj,(((w.alloc o1).alloc o2).alloc o3).heap[w.heap.size+1]?=some o2:=λo1 o2 o3=>by
   rw[Below.heap_alloc _ _ _ (by simp)]
   have:=heap_alloc_new (w.alloc o1) o2
   rwa[zh4]at this
  have f3: ∀o1 o2 o3:Obj,(((w.alloc o1).alloc o2).alloc o3).heap[w.heap.size+2]?=some o3:=λo1 o2 o3=>by
   have:=heap_alloc_new ((w.alloc o1).alloc o2) o3
   rwa[zh4,zh4]at this
  have hx:Go.Proofs.YtddokcpcpoihmaaGreat.Ext w (((w.alloc (.cells us 31)).alloc (.cells #[.slice none 0 0, .slice none 0 0, .slice none 0 0, .int .u8 0, .slice none 0 0, .slice none 0 0] 31)).alloc (.cells (zot w.heap.size) 157)):=(by(repeat (first |exact Ext.refl _ |refine Ext.drew ?_ |refine Ext.drewN ?_ _ |refine Ext.alloc ?_ _ |(refine Ext.setCell ?_ (by first |omega |(simp;done) |(simp;omega)) _) |refine Ext.trans ?_ (by assumption))))
  have ko: ∀b,b<w.heap.size->kset (kset k w.heap.size 0) (w.heap.size+1) 0 b=k b:=λb hb=>by rw[zca b (by omega),zca b hb]
  exact⟨0,kset (kset k w.heap.size 0) (w.heap.size+1) 0,us,_,_,_,_,rfl,by omega,hx,ko,f1 _ _ _,by rw[zca _ (by omega),zbh],zbh,RV.list_mono (Ext.le hx ko) _ _ hus,f2 _ _ _,rfl,f3 _ _ _⟩
 case round=>
  obtain⟨j,k',cur,z,e,e2,e3,rfl,hj,hx,hk,hc,hk0,hk1,hlist,hz2,hzs,hp⟩:=hrel
  have hcs:cur.size=6:=by rw[<-Array.length_toList];exact zan hlist
  by_cases h5:j=5
  ·subst h5
   simp only[RV.listAt]at hlist
   obtain⟨x0,r0,q0,y0,z0,x1,r1,rfl,y1,z1,x2,r2,rfl,y2,z2,x3,r3,rfl,y3,z3,x4,r4,rfl,y4,z4,x5,r5,rfl,y5,z5,rfl⟩:=hlist
   have hcur:cur= #[x0,x1,x2,x3,x4,x5]:=by apply Array.ext';exact q0
   have c0:wr.cell? ⟨w.heap.size,0,none⟩=some x0:=by rw[cell_of_row wr _ 0 cur e (0,0) hc,hcur];rfl
   have c1:wr.cell? ⟨w.heap.size,1,none⟩=some x1:=by rw[cell_of_row wr _ 1 cur e (0,0) hc,hcur];rfl
   have c2:wr.cell? ⟨w.heap.size,2,none⟩=some x2:=by rw[cell_of_row wr _ 2 cur e (0,0) hc,hcur];rfl
   have c3:wr.cell? ⟨w.heap.size,3,none⟩=some x3:=by rw[cell_of_row wr _ 3 cur e (0,0) hc,hcur];rfl
   have c4:wr.cell? ⟨w.heap.size,4,none⟩=some x4:=by rw[cell_of_row wr _ 4 cur e (0,0) hc,hcur];rfl
   have c5:wr.cell? ⟨w.heap.size,5,none⟩=some x5:=by rw[cell_of_row wr _ 5 cur e (0,0) hc,hcur];rfl
   obtain⟨v0,v1,v2,v3,v4,v5,hzz⟩: ∃v0 v1 v2 v3 v4 v5,z= #[v0,v1,v2,v3,v4,v5]:=by
    obtain⟨L⟩:=z
    match L,hzs with
    |[a,b,c,d,e,f],_=>exact⟨a,b,c,d,e,f,rfl⟩
   have d0:wr.cell? ⟨w.heap.size+1,0,none⟩=some v0:=by rw[cell_of_row wr _ 0 z e2 (0,0) hz2,hzz];rfl
   have d1:wr.cell? ⟨w.heap.size+1,1,none⟩=some v1:=by rw[cell_of_row wr _ 1 z e2 (0,0) hz2,hzz];rfl
   have d2:wr.cell? ⟨w.heap.size+1,2,none⟩=some v2:=by rw[cell_of_row wr _ 2 z e2 (0,0) hz2,hzz];rfl
   have d3:wr.cell? ⟨w.heap.size+1,3,none⟩=some v3:=by rw[cell_of_row wr _ 3 z e2 (0,0) hz2,hzz];rfl
   have d4:wr.cell? ⟨w.heap.size+1,4,none⟩=some v4:=by rw[cell_of_row wr _ 4 z e2 (0,0) hz2,hzz];rfl
   have d5:wr.cell? ⟨w.heap.size+1,5,none⟩=some v5:=by rw[cell_of_row wr _ 5 z e2 (0,0) hz2,hzz];rfl
   have st: ∀(W:World) (i:Nat) (x old:Value),x.oneCell'=true->W.cell? ⟨w.heap.size+1,i,none⟩=some old->W.frozen? ⟨w.heap.size+1,i,none⟩=false->(store ⟨w.heap.size+1,i,none⟩ x).run Tryz.prog W= .ok () (W.setCell ⟨w.heap.size+1,i,none⟩ x):=λW i x old hx hc hf=>by
    rw[run_store Tryz.prog W _ x _ hx]
    simp[hc,hf]
   have fz: ∀j,wr.frozen? ⟨w.heap.size+1,j,none⟩=false:=λj=>by simp[World.frozen?,hz2]
   have s0:=st wr 0 x0 v0 y0 d0 (fz 0)
   have s1:=st (wr.setCell ⟨w.heap.size+1,0,none⟩ x0) 1 x1 v1 y1 (by rw[World.cell?_setCell_other _ _ _ _ (by simp)];exact d1) (by simp only[World.frozen?_setCell];exact fz 1)
   have s2:=st ((wr.setCell ⟨w.heap.size+1,0,none⟩ x0).setCell ⟨w.heap.size+1,1,none⟩ x1) 2 x2 v2 y2 (by rw[World.cell?_setCell_other _ _ _ _ (by simp),World.cell?_setCell_other _ _ _ _ (by simp)];exact d2) (by simp only[World.frozen?_setCell];exact fz 2)
   have s3:=st (((wr.setCell ⟨w.heap.size+1,0,none⟩ x0).setCell ⟨w.heap.size+1,1,none⟩ x1).setCell ⟨w.heap.size+1,2,none⟩ x2) 3 x3 v3 y3 (by rw[World.cell?_setCell_other _ _ _ _ (by simp),World.cell?_setCell_other _ _ _ _ (by simp),World.cell?_setCell_other _ _ _ _ (by simp)];exact d3) (by simp only[World.frozen?_setCell];exact fz 3)
   have s4:=st ((((wr.setCell ⟨w.heap.size+1,0,none⟩ x0).setCell ⟨w.heap.size+1,1,none⟩ x1).setCell ⟨w.heap.size+1,2,none⟩ x2).setCell ⟨w.heap.size+1,3,none⟩ x3) 4 x4 v4 y4 (by rw[World.cell?_setCell_other _ _ _ _ (by simp),World.cell?_setCell_other _ _ _ _ (by simp),World.cell?_setCell_other _ _ _ _ (by simp),World.cell?_setCell_other _ _ _ _ (by simp)];exact d4) (by simp only[World.frozen?_setCell];exact fz 4)
   have s5:=st (((((wr.setCell ⟨w.heap.size+1,0,none⟩ x0).setCell ⟨w.heap.size+1,1,none⟩ x1).setCell ⟨w.heap.size+1,2,none⟩ x2).setCell ⟨w.heap.size+1,3,none⟩ x3).setCell ⟨w.heap.size+1,4,none⟩ x4) 5 x5 v5 y5 (by rw[World.cell?_setCell_other _ _ _ _ (by simp),World.cell?_setCell_other _ _ _ _ (by simp),World.cell?_setCell_other _ _ _ _ (by simp),World.cell?_setCell_other _ _ _ _ (by simp),World.cell?_setCell_other _ _ _ _ (by simp)];exact d5) (by simp only[World.frozen?_setCell];exact fz 5)
   clear st
   obtain⟨Wf,hWf⟩: ∃Wf,Wf=wr.setRow (w.heap.size+1) #[x0,x1,x2,x3,x4,x5]:=⟨_,rfl⟩
   have hfe:(((((wr.setCell ⟨w.heap.size+1,0,none⟩ x0).setCell ⟨w.heap.size+1,1,none⟩ x1).setCell ⟨w.heap.size+1,2,none⟩ x2).setCell ⟨w.heap.size+1,3,none⟩ x3).setCell ⟨w.heap.size+1,4,none⟩ x4).setCell ⟨w.heap.size+1,5,none⟩ x5=Wf:=by
    rw[hWf,setCell_eq_setRow wr (w.heap.size+1) 0 z e2 (0,0) x0 hz2,setCell_eq_setRow _ (w.heap.size+1) 1 _ e2 (0,0) x1 (setRow_heap wr _ z _ e2 (0,0) hz2),setRow_setRow,
     setCell_eq_setRow _ (w.heap.size+1) 2 _ e2 (0,0) x2 (setRow_heap wr _ z _ e2 (0,0) hz2),setRow_setRow,setCell_eq_setRow _ (w.heap.size+1) 3 _ e2 (0,0) x3 (setRow_heap wr _ z _ e2 (0,0) hz2),setRow_setRow,
     setCell_eq_setRow _ (w.heap.size+1) 4 _ e2 (0,0) x4 (setRow_heap wr _ z _ e2 (0,0) hz2),setRow_setRow,setCell_eq_setRow _ (w.heap.size+1) 5 _ e2 (0,0) x5 (setRow_heap wr _ z _ e2 (0,0) hz2),setRow_setRow,hzz]
    rfl
   have hfh:Wf.heap[w.heap.size+1]?=some (.cells #[x0,x1,x2,x3,x4,x5] e2 (0,0)):=by rw[hWf];exact setRow_heap wr _ z _ e2 (0,0) hz2
   have e0:Wf.cell? ⟨w.heap.size+1,0,none⟩=some x0:=by rw[cell_of_row Wf _ 0 _ e2 (0,0) hfh];rfl
   have e1':Wf.cell? ⟨w.heap.size+1,1,none⟩=some x1:=by rw[cell_of_row Wf _ 1 _ e2 (0,0) hfh];rfl
   have e2':Wf.cell? ⟨w.heap.size+1,2,none⟩=some x2:=by rw[cell_of_row Wf _ 2 _ e2 (0,0) hfh];rfl
   have e3':Wf.cell? ⟨w.heap.size+1,3,none⟩=some x3:=by rw[cell_of_row Wf _ 3 _ e2 (0,0) hfh];rfl
   have e4':Wf.cell? ⟨w.heap.size+1,4,none⟩=some x4:=by rw[cell_of_row Wf _ 4 _ e2 (0,0) hfh];rfl
   have e5':Wf.cell? ⟨w.heap.size+1,5,none⟩=some x5:=by rw[cell_of_row Wf _ 5 _ e2 (0,0) hfh];rfl
   have hle:Le wr k' Wf k':=by
    refine(Wrote.le (ob:=some (w.heap.size+1)) ⟨by rw[hWf];rfl,by rw[hWf];rfl,by rw[hWf];rfl,by rw[hWf];simp[World.setRow],λx hx hne=>⟨?_,rfl⟩,λx hx=>?_⟩)
    ·rw[hWf];exact setRow_other wr _ x _ λe=>hne (by rw[e])
    ·cases hx
     exact⟨Nat.le_refl _,λo ho=>by omega,λh=>by omega⟩
   have hxf:Go.Proofs.YtddokcpcpoihmaaGreat.Ext w Wf:=by
    refine⟨by rw[hWf];exact hx.os,by rw[hWf];exact hx.tape,by rw[hWf];exact hx.output,Nat.le_trans hx.size hle.size,λx hxx=>?_⟩
    rw[hWf,setRow_other wr _ x _ (by omega)]
    exact hx.block x hxx
   have hres:(RV.ag l.c).at_ Wf k' (.agg #[x0,x1,x2,x3,x4,x5]):=by
    simp only[RV.at_]
    refine⟨_,rfl,RV.list_mono hle _ _ ?_⟩
    simp only[RV.listAt]
    exact⟨x0,_,rfl,y0,z0,x1,_,rfl,y1,z1,x2,_,rfl,y2,z2,x3,_,rfl,y3,z3,x4,_,rfl,y4,z4,x5,_,rfl,y5,z5,rfl⟩
   clear hWf
   go_wp2_with fail
   refine⟨rfl, .agg #[x0,x1,x2,x3,x4,x5],?_,_,rfl,hxf,k',hk,hres⟩
   have hr:=zdn (P:=Tryz.prog) (w:=Wf) (b:=w.heap.size+1) (off:=0) (us:=[x0,x1,x2,x3,x4,x5]) (Tab_ok.get (t:=31) rfl).1 rfl rfl rfl (λj u hu=>by
    rw[Nat.zero_add,cell_of_row Wf _ j _ e2 (0,0) hfh]
    simpa using hu)
   rw[zem,Array.mapM_eq_mapM_toList]
   simp only[Instr.loadAt,Instr.sureAddr,Sem.run_bind,Sem.run_pure,Result.andThen_ok]at hr
   show(do
    let vs<-List.toArray<$>List.mapM (zjo _) [ResultVar.cell 2 31]
    pure (if h:vs.size=1 then vs[0]else .tuple vs)).run Tryz.prog Wf=_
   simp[zjo,asAddr]
   exact hr
  ·have hj5:j<5:=by omega
   have hll:l.box.length<=1000000000000/\l.sign.length<=1000000000000/\l.ident.length<=1000000000000/\l.parent.length<=1000000000000/\l.sig.length<=1000000000000:=by
    obtain⟨h1,h2,h3,h4,h5⟩:=hl
    omega
   obtain⟨lj,hlj,hll,ho,hpt⟩: ∃lj:List UInt8,l.c[lOff j]?=some (bs lj)/\lj.length<=1000000000000/\lOff j<6/\(zot w.heap.size)[j]?=some (.pointer (some ⟨w.heap.size,lOff j,none⟩)):=by
    match j,hj5 with
    |0,_=>exact⟨l.box,rfl,hll.1,by decide,rfl⟩
    |1,_=>exact⟨l.sign,rfl,hll.2.1,by decide,rfl⟩
    |2,_=>exact⟨l.ident,rfl,hll.2.2.1,by decide,rfl⟩
    |3,_=>exact⟨l.parent,rfl,hll.2.2.2.1,by decide,rfl⟩
    |4,_=>exact⟨l.sig,rfl,hll.2.2.2.2,by decide,rfl⟩
   obtain⟨o,hoo⟩: ∃o,o=lOff j:=⟨_,rfl⟩
   rw[<-hoo]at hlj ho hpt
   clear hoo
   obtain⟨u,hu,hu1,hcu⟩: ∃u,(bs lj).at_ wr k' u/\u.oneCell'=true/\wr.cell? ⟨w.heap.size,o,none⟩=some u:=by
    have hoc:o<cur.toList.length:=by rw[Array.length_toList];omega
    have:=(RV.listAt_iff _ _).1 hlist |>.2 o _ cur.toList[o] hlj (List.getElem?_eq_getElem hoc)
    exact⟨_,this.2,this.1,by rw[cell_of_row wr _ o cur e (0,0) hc,<-Array.getElem?_toList];exact List.getElem?_eq_getElem hoc⟩
   have hcp:wr.cell? ⟨w.heap.size+1+1,j,none⟩=some (.pointer (some ⟨w.heap.size,o,none⟩)):=by
    rw[cell_of_row wr _ j _ e3 (0,0) hp];exact hpt
   obtain⟨p,rfl,hby⟩:=zed hu
   clear h5 hpt
   go_wp2_with fail
   refine(zlb p lj _ hby (by omega)).mono ?_
   rintro e' w1 ⟨v,rfl,hb,g1,hov⟩
   obtain⟨k1,hk1',hch⟩:=zee (k:=k') hov
   have hvat:(bs lj).at_ w1 k1 v:=by
    obtain⟨_,h,_⟩:=hch
    exact h.sl
   have hv1:v.oneCell'=true:=by
    obtain⟨_,h,_⟩:=hch
    exact h.one
   have hsw:w.heap.size+2<wr.heap.size:=(Array.getElem?_eq_some_iff.1 hp).1
   have hle1:Le wr k' w1 k1:=Ext.le hb hk1'
   have hc1:w1.heap[w.heap.size]?=some (.cells cur e (0,0)):=(hb.block _ (by omega)).trans hc
   obtain⟨cur2,hcur2⟩: ∃cur2,cur2=(cur.toList.take o++[v]++cur.toList.drop (o+1)).toArray:=⟨_,rfl⟩
   obtain⟨W2,hW2⟩: ∃W2,W2=w1.setRow w.heap.size cur2:=⟨_,rfl⟩
   have hst:(storeCells ⟨w.heap.size,o,none⟩ [v]).run Tryz.prog w1= .ok () W2:=by
    rw[hW2,hcur2]
    exact run_storeCells_at Tryz.prog w.heap.size o e [v] 0 cur w1 hc1 (by simp;omega) (by simpa using hv1)
   have hc2:W2.heap[w.heap.size]?=some (.cells cur2 e (0,0)):=by rw[hW2];exact setRow_heap w1 _ cur _ e (0,0) hc1
   have hrest: ∀x,x≠w.heap.size->W2.heap[x]?=w1.heap[x]?:=λx hx=>by rw[hW2];exact setRow_other w1 _ x _ hx
   have hle2:Le w1 k1 W2 k1:=by
    refine(Wrote.le (ob:=some w.heap.size) ⟨by rw[hW2];rfl,by rw[hW2];rfl,by rw[hW2];rfl,by rw[hW2];simp[World.setRow],λx hx hne=>⟨hrest x λe=>hne (by rw[e]),rfl⟩,λx hx=>?_⟩)
    cases hx
    have:k1 w.heap.size=0:=(hk1' _ (by omega)).trans hk0
    exact⟨Nat.le_refl _,λo ho=>by omega,λh=>by omega⟩
   have hxf:Go.Proofs.YtddokcpcpoihmaaGreat.Ext w W2:=by
    refine⟨by rw[hW2];exact hb.os.trans hx.os,by rw[hW2];exact hb.tape.trans hx.tape,by rw[hW2];exact hb.output.trans hx.output,Nat.le_trans hx.size (Nat.le_trans hb.size hle2.size),λx hxx=>?_⟩
    rw[hrest x (by omega),hb.block x (by omega)]
    exact hx.block x hxx
   have hlist2:RV.listAt W2 k1 l.c cur2.toList:=by
    have h1:=RV.list_mono (hle1.trans hle2) _ _ hlist
    have h2:RV.listAt W2 k1 [bs lj] [v]:=by
     simp only[RV.listAt]
     exact⟨v,_,rfl,hv1,RV.mono hle2 _ _ hvat,rfl⟩
    have h3:l.c=l.c.take o++[bs lj]++l.c.drop (o+1):=by
     have hoc:o<l.c.length:=ho
     have h4:l.c[o]=bs lj:=by rw[List.getElem?_eq_getElem hoc]at hlj;exact Option.some.inj hlj
     rw[<-h4,List.append_assoc,List.singleton_append,<-List.drop_eq_getElem_cons hoc,List.take_append_drop]
    rw[h3,hcur2,List.toList_toArray]
    exact za3 (za3 (zbv h1 o) h2) (zck h1 (o+1))
   have hz2':W2.heap[w.heap.size+1]?=some (.cells z e2 (0,0)):=by rw[hrest _ (by omega),hb.block _ (by omega)];exact hz2
   have hp':W2.heap[w.heap.size+2]?=some (.cells (zot w.heap.size) e3 (0,0)):=by rw[hrest _ (by omega),hb.block _ (by omega)];exact hp
   clear hW2 hrest
   go_wp2_with fail
   rw[hst]
   go_wp2_with fail
   go_roundw
   case rel=>exact⟨j+1,k1,cur2,z,e,e2,e3,rfl,by omega,hxf,λb hb=>(hk1' b (by omega)).trans (hk b hb),hc2,(hk1' _ (by omega)).trans hk0,(hk1' _ (by omega)).trans hk1,hlist2,hz2',hzs,hp'⟩
   case measure=>(first |omega |(simp[intOf];done) |(simp[intOf];omega))
theorem zei(l:Leaf)(hl:l.fit):zab Tryz.prog 51 [.ag l.c] (.r (.ag l.c)):=
 zbj (zbm Tryz.func51 rfl (by kernel_rfl)) λw k vs hp=>by
  obtain⟨a,rfl,h1⟩:=zfc hp
  simp only[RV.at_]at h1
  obtain⟨us,rfl,h2⟩:=h1
  exact zo8 l hl w k us h2
end
section
def zjr(label text:List UInt8):List UInt8:=vecB (mlsB++label)++vecB text
theorem zlv(label:ByteArray)(text:List UInt8)(hl:label.size<=1048576)(ht:text.length<=1000000000):zab Tryz.prog 62 [Str label,bs text] (bch (zjr (sB label) text)):=by
 refine zaa (T:=Tab) mixed Tab_ok Tryz.func62 rfl (by kernel_rfl) ?_
 have hd:=zkr label
 have hsz:label.data.toList.length=label.size:=rfl
 have hml:mlsB.length=8:=rfl
 refine⟨by show 8+label.size<=_;omega,?_⟩
 refine⟨by rw[zm1];show 8+label.size<=_;omega,?_⟩
 refine Vcall.mk' (zbd [] ((⟨#[77,76,83,32,49,46,48,32]⟩:ByteArray)++label).data.toList (by simp) (by rw[hd,List.length_append];omega)) (zj (Cv.nil _) (zm _)) ?_
 rw[hd]
 have hv:=zav (mlsB++label.data.toList)
 rw[List.length_append]at hv
 refine zd (zbd ([]++vecB (mlsB++label.data.toList)) text (by simp only[List.length_append,List.length_nil];omega) (by omega)) ?_
 exact zdw (by simp[zjr,sB])
def zuc(seed label text:List UInt8):List UInt8:=sigB seed (zjr label text)
theorem z1j(seed:List UInt8)(label:ByteArray)(text:List UInt8)(hs:seed.length=32)(hl:label.size<=1048576)(ht:text.length<=500000000):zab Tryz.prog 23 [bs seed,Str label,bs text] (.r (.tu [bs (zuc seed (sB label) text),Er 0])):=by
 refine zaa (T:=Tab) mixed Tab_ok Tryz.func23 rfl (by kernel_rfl) ?_
 have hsz:(sB label).length=label.size:=rfl
 have hml:mlsB.length=8:=rfl
 have hv:=zav (mlsB++sB label)
 have hv2:=zav text
 rw[List.length_append]at hv
 refine zd (zlv label text hl (by omega)) ?_
 refine zd (z30 seed (zjr (sB label) text) hs (by rw[zjr,List.length_append];omega)) ?_
 exact⟨_,rfl,cr⟩
theorem zrg(seed:List UInt8)(label:ByteArray)(text:List UInt8)(hs:seed.length≠32)(hl:label.size<=1048576)(ht:text.length<=500000000):zab Tryz.prog 23 [bs seed,Str label,bs text] (.r (.tu [bs [],Er 1])):=by
 refine zaa (T:=Tab) mixed Tab_ok Tryz.func23 rfl (by kernel_rfl) ?_
 have hsz:(sB label).length=label.size:=rfl
 have hml:mlsB.length=8:=rfl
 have hv:=zav (mlsB++sB label)
 have hv2:=zav text
 rw[List.length_append]at hv
 refine zd (zlv label text hl (by omega)) ?_
 refine zd (zt5 seed (zjr (sB label) text) hs) ?_
 exact⟨_,rfl,cr⟩
end
section
theorem Cvs.app: ∀{a b c d:List RV},Cvs a b->Cvs c d->Cvs (a++c) (b++d)
 |[],b,c,d,h,h'=>by simp only[Cvs]at h;subst h;exact h'
 |x::a,b,c,d,h,h'=>by
  simp only[Cvs]at h
  obtain⟨g,r,rfl,h1,h2⟩:=h
  exact zj h1 (Cvs.app h2 h')
def u64N(n:Int):Nat:=(n%18446744073709551616).toNat
theorem zw9(x:Int)(h:i64 x):IntKind.u64.wrap x=((u64N x:Nat):Int):=by
 unfold i64 at h
 unfold IntKind.wrap u64N
 simp only[IntKind.bits,IntKind.signed]
 simp
 omega
def zfo(l:Leaf)(group:List UInt8)(at_:Int):List UInt8:=if l.src.toNat=1 then zbw l else zbw l++vecB group++beB 4 (u64N at_)
def zes(l:Leaf)(at_:Int):Bool:=decide (l.src.toNat=1)||(decide (0<=at_)&&decide (at_<65536))
theorem znk(l:Leaf):(zbw l).length<=l.box.length+l.sign.length+l.ident.length+l.parent.length+17:=by
 have v1:=zav l.box
 have v2:=zav l.sign
 have v3:=zav l.ident
 have v4:=zav l.parent
 unfold zbw
 split<;>simp only[List.length_append,List.length_cons,List.length_nil]<;>omega
theorem zzp(l:Leaf)(group:List UInt8)(at_:Int):(zfo l group at_).length<=l.box.length+l.sign.length+l.ident.length+l.parent.length+group.length+25:=by
 have h:=znk l
 have v:=zav group
 have b:=zat 4 (u64N at_)
 unfold zfo
 split
 ·omega
 ·simp only[List.length_append]
  omega
theorem z32(l:Leaf)(group:List UInt8)(at_:Int)(hl:l.fit)(hg:group.length<=1000000000)(ha:i64 at_):zab Tryz.prog 53 [.ag l.c,bs group,I at_] (.r (.tu [bs (zfo l group at_), .b (zes l at_)])):=by
 refine zaa (T:=Tab) mixed Tab_ok Tryz.func53 rfl (by kernel_rfl) ?_
 obtain⟨h1,h2,h3,h4,h5⟩:=hl
 have hA:=znk l
 have hv:=zav group
 refine za rfl rfl ?_
 refine Vcall.mk' (zlt [] l (by simp) ⟨h1,h2,h3,h4,h5⟩) (zj (Cv.nil _) (zm _)) ?_
 rw[List.nil_append]
 refine zg (λh=>zo ?_) (λh=>zp ?_)
 ·simp only[zb]at h
  have h':l.src.toNat=1:=by omega
  have e1:zfo l group at_=zbw l:=if_pos h'
  have e2:zes l at_=true:=by simp[zes,h']
  rw[e1,e2]
  exact⟨_,rfl,cr⟩
 ·simp only[zb]at h
  have h':l.src.toNat≠1:=by omega
  have e1:zfo l group at_=zbw l++vecB group++beB 4 (u64N at_):=if_neg h'
  have e2:zes l at_=(decide (0<=at_)&&decide (at_<65536)):=by simp[zes,h']
  refine zd (zbd (zbw l) group (by omega) (by omega)) ?_
  refine Vint.n ((u64N at_:Nat):Int) (zw9 at_ ha).symm ?_
  refine zd (zfz (zbw l++vecB group) 4 (u64N at_) (by rw[List.length_append];omega) (.inr (.inr (.inl rfl)))) ?_
  rw[e1,e2]
  refine zg (λh0=>?_) (λh0=>?_)
  ·simp only[zb]at h0
   have h0':0<=at_:=h0
   refine Vcmp.mk' (m:=decide (at_<65536)) rfl ?_
   exact⟨_,rfl,ze (by rw[decide_eq_true h0'];rfl)⟩
  ·simp only[zb]at h0
   have h0': ¬0<=at_:=h0
   exact⟨_,rfl,ze (by rw[decide_eq_false h0'];rfl)⟩
def zS64:List UInt8:=List.replicate 64 0
def z5z:List UInt8:=[76,101,97,102,78,111,100,101,84,66,83]
def Leaf.with(l:Leaf)(s:List UInt8):Leaf:={l with sig:=s}
def zdb(l:Leaf)(seed:List UInt8)(at_:Int):Nat:=if(l.with zS64).right=true then if zes l at_=true then if seed.length=32 then 0 else 1 else 1 else 3
def slOk(l:Leaf)(seed group:List UInt8)(at_:Int):Leaf:=l.with (zuc seed z5z (zfo l group at_))
def zfn(l:Leaf)(seed group:List UInt8)(at_:Int):RV:=if zdb l seed at_=0 then .tu [.ag (slOk l seed group at_).c,Er 0]else .tu [.ag zl.c,Er (zdb l seed at_)]
theorem zey:Cv (.ag [.x (.slice none 0 0), .x (.slice none 0 0), .x (.slice none 0 0), .i .u8 0, .x (.slice none 0 0), .x (.slice none 0 0)]) (.ag zl.c):=Cv.ag (zj (Cv.nil 1) (zj (Cv.nil 1) (zj (Cv.nil 1) (zj (cr) (zj (Cv.nil 1) (zj (Cv.nil 1) Cvs.nil))))))
theorem zh7:(List.replicate ((64:Int).toNat) ([Value.int .u8 0].map ofC)).flatten=zS64.map U8:=by simp[ofC,zS64]
abbrev lsS:ByteArray:=⟨#[76,101,97,102,78,111,100,101,84,66,83]⟩
section
variable (l:Leaf) (z seed group:List UInt8) (at_:Int) (hl:l.fit) (hz:zS64=z)
include hl hz
set_option maxRecDepth 100000 in
theorem zv6(hr:(l.with z).right=false):zab Tryz.prog 17 [.ag l.c,bs seed,bs group,I at_] (.r (.tu [.ag zl.c,Er 3])):=by
 refine zaa (T:=Tab) mixed Tab_ok Tryz.func17 rfl (by kernel_rfl) ?_
 have hzl:64=z.length:=by rw[<-hz];decide
 refine za rfl rfl ?_
 refine zd (zei l hl) ?_
 refine⟨rfl,by decide,by decide,by decide,z.length,z.map U8,hzl,by rw[zh7,hz],zu ?_⟩
 refine za rfl rfl ?_
 refine zx (zgx (l.with z)) (λhr'=>absurd hr' (by rw[hr];simp)) (λ_=>zq rfl (zo ?_))
 refine za rfl rfl ?_
 exact⟨_,rfl,Cv.tu (zj zey (zm _))⟩
variable (T:List UInt8) (β:Bool) (hr:(l.with z).right=true) (hT:zab Tryz.prog 53 [.ag (l.with z).c,bs group,I at_] (.r (.tu [bs T, .b β])))
include hr hT
set_option maxRecDepth 100000 in
theorem zyk(hβ:β=false):zab Tryz.prog 17 [.ag l.c,bs seed,bs group,I at_] (.r (.tu [.ag zl.c,Er 1])):=by
 subst hβ
 refine zaa (T:=Tab) mixed Tab_ok Tryz.func17 rfl (by kernel_rfl) ?_
 have hzl:64=z.length:=by rw[<-hz];decide
 refine za rfl rfl ?_
 refine zd (zei l hl) ?_
 refine⟨rfl,by decide,by decide,by decide,z.length,z.map U8,hzl,by rw[zh7,hz],zu ?_⟩
 refine za rfl rfl ?_
 refine zx (zgx (l.with z)) (λ_=>zt rfl (zp ?_)) (λhr'=>absurd hr' (by rw[hr];simp))
 refine za rfl rfl ?_
 refine zd hT ?_
 refine zq rfl (zo ?_)
 refine za rfl rfl ?_
 exact⟨_,rfl,Cv.tu (zj zey (zm _))⟩
set_option maxRecDepth 100000 in
theorem zyl(q:List UInt8)(e:Nat)(hβ:β=true)(hq:zab Tryz.prog 23 [bs seed,Str lsS,bs T] (.r (.tu [bs q,Er e])))(he:e=1):zab Tryz.prog 17 [.ag l.c,bs seed,bs group,I at_] (.r (.tu [.ag zl.c,Er 1])):=by
 subst hβ;subst he
 refine zaa (T:=Tab) mixed Tab_ok Tryz.func17 rfl (by kernel_rfl) ?_
 have hzl:64=z.length:=by rw[<-hz];decide
 refine za rfl rfl ?_
 refine zd (zei l hl) ?_
 refine⟨rfl,by decide,by decide,by decide,z.length,z.map U8,hzl,by rw[zh7,hz],zu ?_⟩
 refine za rfl rfl ?_
 refine zx (zgx (l.with z)) (λ_=>zt rfl (zp ?_)) (λhr'=>absurd hr' (by rw[hr];simp))
 refine za rfl rfl ?_
 refine zd hT ?_
 refine zt rfl (zp ?_)
 refine zd hq ?_
 refine zq rfl (zo ?_)
 refine za rfl rfl ?_
 exact⟨_,rfl,Cv.tu (zj zey (zm _))⟩
set_option maxRecDepth 100000 in
theorem z1r(q:List UInt8)(hβ:β=true)(hq:zab Tryz.prog 23 [bs seed,Str lsS,bs T] (.r (.tu [bs q,Er 0]))):zab Tryz.prog 17 [.ag l.c,bs seed,bs group,I at_] (.r (.tu [.ag (l.with q).c,Er 0])):=by
 subst hβ
 refine zaa (T:=Tab) mixed Tab_ok Tryz.func17 rfl (by kernel_rfl) ?_
 have hzl:64=z.length:=by rw[<-hz];decide
 refine za rfl rfl ?_
 refine zd (zei l hl) ?_
 refine⟨rfl,by decide,by decide,by decide,z.length,z.map U8,hzl,by rw[zh7,hz],zu ?_⟩
 refine za rfl rfl ?_
 refine zx (zgx (l.with z)) (λ_=>zt rfl (zp ?_)) (λhr'=>absurd hr' (by rw[hr];simp))
 refine za rfl rfl ?_
 refine zd hT ?_
 refine zt rfl (zp ?_)
 refine zd hq ?_
 refine zt rfl (zp ?_)
 refine za rfl rfl ?_
 refine za rfl rfl ?_
 exact⟨_,rfl,cr⟩
end
theorem zlw(l:Leaf)(seed group:List UInt8)(at_:Int)(hl:l.fit)(hg:group.length<=100000000)(hb:l.box.length+l.sign.length+l.ident.length+l.parent.length<=100000000)(ha:i64 at_):
  zab Tryz.prog 17 [.ag l.c,bs seed,bs group,I at_] (.r (zfn l seed group at_)):=by
 have hl':=hl
 obtain⟨h1,h2,h3,h4,h5⟩:=hl'
 have hf:(l.with zS64).fit:=⟨h1,h2,h3,h4,by show zS64.length<=_;decide⟩
 have ht:=zzp l group at_
 have hT:zab Tryz.prog 53 [.ag (l.with zS64).c,bs group,I at_] (.r (.tu [bs (zfo l group at_), .b (zes l at_)])):=z32 (l.with zS64) group at_ hf (by omega) ha
 have herr: ∀e:Nat,zdb l seed at_=e->e≠0->zfn l seed group at_= .tu [.ag zl.c,Er e]:=λe h h0=>by rw[zfn,h,if_neg h0]
 cases hr:(l.with zS64).right with
 |false=>
  rw[herr 3 (by unfold zdb;rw[if_neg (by rw[hr];simp)]) (by decide)]
  exact zv6 l zS64 seed group at_ hl rfl hr
 |true=>
  cases ho:zes l at_ with
  |false=>
   rw[herr 1 (by unfold zdb;rw[if_pos hr,if_neg (by rw[ho];simp)]) (by decide)]
   exact zyk l zS64 seed group at_ hl rfl _ _ hr hT ho
  |true=>
   by_cases hs:seed.length=32
   ·have hS:zfn l seed group at_= .tu [.ag (slOk l seed group at_).c,Er 0]:=by
     have:zdb l seed at_=0:=by unfold zdb;rw[if_pos hr,if_pos ho,if_pos hs]
     rw[zfn,if_pos this]
    rw[hS]
    exact z1r l zS64 seed group at_ hl rfl _ _ hr hT _ ho (z1j seed lsS (zfo l group at_) hs (by decide) (by omega))
   ·rw[herr 1 (by unfold zdb;rw[if_pos hr,if_pos ho,if_neg hs]) (by decide)]
    exact zyl l zS64 seed group at_ hl rfl _ _ hr hT _ _ ho (zrg seed lsS (zfo l group at_) hs (by decide) (by omega)) rfl
end
section
open Ieee
def fw(s:Bool)(n:Nat):Nat:=double.nearest s n 0
def fl(n:Int):Nat:=fw (decide (n<0)) n.natAbs
end
section
abbrev C2(a b:Int):RV:= .x (.complex .f64 (fl a) (fl b))
abbrev F1(a:Int):RV:= .x (.float .f64 (fl a))
end
section
instance {h k:Nat}{x:Int}:Decidable (inR h k x):=by unfold inR;infer_instance
end
section
abbrev d3r(t:D3):List RV:=[I t.at_,I t.lo,I t.hi]
def ds(l:List D3):RV:= .sl 3 l.length (l.flatMap d3r)
end
section
def nods(l:List Node):RV:= .sl 10 l.length (l.flatMap Node.c)
theorem zg1{l:List Node}{i:Int}{j:Nat}(h:i=j)(hj:j<l.length):((l.flatMap Node.c).drop (i.toNat*10)).take 10=l[j].c:=zyr (f:=Node.c) (sz:=10) (λ_=>rfl) h hj
def nT(t:List Node)(j:Nat):Node:=t.getD j Node.zero
theorem z0f{t:List Node}{j:Nat}(hj:j<t.length):t[j]=nT t j:=by simp[nT,hj]
theorem z35{l:List Node}{i:Int}{j:Nat}(h:i=j)(hj:j<l.length):((l.flatMap Node.c).drop (i.toNat*10)).take 10=(nT l j).c:=by rw[<-z0f hj];exact zg1 h hj
end
section
abbrev z5:Fe:=⟨0,0,0,0,0⟩
structure Lad where
 px:Fe
 pz:Fe
 qx:Fe
 qz:Fe
def Lad.next(b:Bool)(u:Fe)(s:Lad):Lad:=
 match b with
 |true=>⟨(zcc s.qx s.qz s.px s.pz u).2.1,(zcc s.qx s.qz s.px s.pz u).2.2,(zcc s.qx s.qz s.px s.pz u).1.1,(zcc s.qx s.qz s.px s.pz u).1.2⟩
 |false=>⟨(zcc s.px s.pz s.qx s.qz u).1.1,(zcc s.px s.pz s.qx s.qz u).1.2,(zcc s.px s.pz s.qx s.qz u).2.1,(zcc s.px s.pz s.qx s.qz u).2.2⟩
def ladN(k:List UInt8)(u:Fe):Nat->Lad
 |0=>⟨one,z5,u,one⟩
 |j+1=>(ladN k u j).next (bitE k (254-j)==1) u
theorem zwd(k:List UInt8)(u:Fe):ladN k u 0=⟨one,z5,u,one⟩:=rfl
theorem zn0(k:List UInt8)(u:Fe)(j:Nat):ladN k u (j+1)=(ladN k u j).next (bitE k (254-j)==1) u:=rfl
attribute [irreducible] ladN
def zjk(k:List UInt8)(u:Fe):List UInt8:=((ladN k u 255).px.mul (ladN k u 255).pz.inv).bytes
abbrev pbx(x z:Fe):Ow:= .box [.r (W x.a), .r (W x.b), .r (W x.c), .r (W x.d), .r (W x.e), .r (W z.a), .r (W z.b), .r (W z.c), .r (W z.d), .r (W z.e)]
def ladI(k:List UInt8)(u:Fe)(j:Nat):St:={F:=[(0, .r (bs k)),(3, .own 0),(5, .own 1),(6, .own 2),(7, .r (I ((254-j:Nat):Int)))],O:=[(0,some u.bx),(1,some (pbx (ladN k u j).px (ladN k u j).pz)),(2,some (pbx (ladN k u j).qx (ladN k u j).qz))],nx:=3}
theorem zqh(k:List UInt8)(u:Fe){b:Bool}(h:ladN k u (254+1)=(ladN k u 254).next b u){e:TypeId}:some (Ow.ch e 1 (((((ladN k u 254).next b u).px).mul (((ladN k u 254).next b u).pz).inv).bytes).length ((((((ladN k u 254).next b u).px).mul (((ladN k u 254).next b u).pz).inv).bytes).map U8) true)=some (Ow.ch e 1 (zjk k u).length ((zjk k u).map U8) true):=by
 rw[<-h]
 rfl
set_option maxHeartbeats 4000000 in
theorem zv2(k:List UInt8)(u:Fe)(hk:k.length=32):zab Tryz.prog 172 [bs k, .ag u.v] (bch (zjk k u)):=by
 refine zaa (T:=Tab) mixed Tab_ok Tryz.func172 rfl (by kernel_rfl) ?_
 refine Vcode.scope mixed Tab_ok 0 (ladI k u) (λj=>j<=254) (λj=>254-j) rfl ?_ ?_
 ·refine Vdraw.mk' (by kernel_rfl) ?_
  refine zd zhl ?_
  refine za rfl rfl ?_
  refine zd zhl ?_
  repeat' ((conv=>whnf);first |refine za rfl rfl ?_)
  refine Vquo.i64 254 8 rfl rfl (by omega) (by omega) ?_
  refine zk (by omega) (by omega) rfl (zf (f:=U8 (k.getD (254/8) 0)) (zje (by omega)) ?_)
  refine Vrem.nat 254 8 rfl rfl (by omega) ?_
  refine Vshr.b _ (254%8) rfl rfl (by omega) ?_
  refine Vbits.and8 _ 1 rfl rfl ?_
  have hs:=zn0 k u 0
  rw[zwd]at hs
  refine zg (λh=>zo ?_) (λh=>zp ?_)
  ·have hb:(bitE k (254-0)==1)=true:=by rw[beq_iff_eq];exact zjb h
   rw[hb]at hs
   refine za rfl rfl ?_
   refine za rfl rfl ?_
   refine za rfl rfl ?_
   refine zd (zlx u one one z5 u) ?_
   refine zc (m:=253) rfl (by decide) ?_
   refine zq rfl (zo ?_)
   exact⟨1,by decide,zac [(0,0),(1,1),(2,2)] rfl ⟨cr,rfl,rfl,rfl,cr,trivial⟩ ⟨⟨_,_,rfl,cr,_,_,rfl,cr,_,_,rfl,cr,_,_,rfl,cr,_,_,rfl,cr,rfl⟩,by rw[hs];exact⟨_,_,rfl,cr,_,_,rfl,cr,_,_,rfl,cr,_,_,rfl,cr,_,_,rfl,cr,_,_,rfl,cr,_,_,rfl,cr,_,_,rfl,cr,_,_,rfl,cr,_,_,rfl,cr,rfl⟩,by rw[hs];exact⟨_,_,rfl,cr,_,_,rfl,cr,_,_,rfl,cr,_,_,rfl,cr,_,_,rfl,cr,_,_,rfl,cr,_,_,rfl,cr,_,_,rfl,cr,_,_,rfl,cr,_,_,rfl,cr,rfl⟩,trivial⟩⟩
  ·have hb:(bitE k (254-0)==1)=false:=by rw[beq_eq_false_iff_ne];exact zhe h
   rw[hb]at hs
   refine za rfl rfl ?_
   refine za rfl rfl ?_
   refine za rfl rfl ?_
   refine zd (zlx one z5 u one u) ?_
   refine zc (m:=253) rfl (by decide) ?_
   refine zq rfl (zo ?_)
   exact⟨1,by decide,zac [(0,0),(1,1),(2,2)] rfl ⟨cr,rfl,rfl,rfl,cr,trivial⟩ ⟨⟨_,_,rfl,cr,_,_,rfl,cr,_,_,rfl,cr,_,_,rfl,cr,_,_,rfl,cr,rfl⟩,by rw[hs];exact⟨_,_,rfl,cr,_,_,rfl,cr,_,_,rfl,cr,_,_,rfl,cr,_,_,rfl,cr,_,_,rfl,cr,_,_,rfl,cr,_,_,rfl,cr,_,_,rfl,cr,_,_,rfl,cr,rfl⟩,by rw[hs];exact⟨_,_,rfl,cr,_,_,rfl,cr,_,_,rfl,cr,_,_,rfl,cr,_,_,rfl,cr,_,_,rfl,cr,_,_,rfl,cr,_,_,rfl,cr,_,_,rfl,cr,_,_,rfl,cr,rfl⟩,trivial⟩⟩
 ·intro J hj
  refine Vquo.i64 (254-J) 8 rfl rfl (by omega) (by omega) ?_
  refine zk (by omega) (by omega) rfl (zf (f:=U8 (k.getD ((254-J)/8) 0)) (zje (by omega)) ?_)
  refine Vrem.nat (254-J) 8 rfl rfl (by omega) ?_
  refine Vshr.b _ ((254-J)%8) rfl rfl (by omega) ?_
  refine Vbits.and8 _ 1 rfl rfl ?_
  have hs:=zn0 k u J
  refine zg (λh=>zo ?_) (λh=>zp ?_)
  ·have hb:(bitE k (254-J)==1)=true:=by rw[beq_iff_eq];exact zjb h
   rw[hb]at hs
   refine za rfl rfl ?_
   refine za rfl rfl ?_
   refine za rfl rfl ?_
   refine zd (zlx (ladN k u J).qx (ladN k u J).qz (ladN k u J).px (ladN k u J).pz u) ?_
   refine zc (m:=((254-J:Nat):Int)-1) rfl (by omega) ?_
   refine zg (λh=>zo ?_) (λh=>zp ?_)
   ·simp only[zb]at h
    exact⟨J+1,by omega,by omega,zac [(0,0),(1,1),(2,2)] rfl ⟨cr,rfl,rfl,rfl,ze (by congr 1;omega),trivial⟩ ⟨⟨_,_,rfl,cr,_,_,rfl,cr,_,_,rfl,cr,_,_,rfl,cr,_,_,rfl,cr,rfl⟩,by rw[hs];exact⟨_,_,rfl,cr,_,_,rfl,cr,_,_,rfl,cr,_,_,rfl,cr,_,_,rfl,cr,_,_,rfl,cr,_,_,rfl,cr,_,_,rfl,cr,_,_,rfl,cr,_,_,rfl,cr,rfl⟩,by rw[hs];exact⟨_,_,rfl,cr,_,_,rfl,cr,_,_,rfl,cr,_,_,rfl,cr,_,_,rfl,cr,_,_,rfl,cr,_,_,rfl,cr,_,_,rfl,cr,_,_,rfl,cr,_,_,rfl,cr,rfl⟩,trivial⟩⟩
   ·simp only[zb]at h
    obtain rfl:J=254:=by omega
    refine Vdraw.mk' (by kernel_rfl) ?_
    refine za rfl rfl ?_
    refine za rfl rfl ?_
    refine zd (zjf (zcc (ladN k u 254).qx (ladN k u 254).qz (ladN k u 254).px (ladN k u 254).pz u).2.2) ?_
    refine zd (zba (zcc (ladN k u 254).qx (ladN k u 254).qz (ladN k u 254).px (ladN k u 254).pz u).2.1 (zcc (ladN k u 254).qx (ladN k u 254).qz (ladN k u 254).px (ladN k u 254).pz u).2.2.inv) ?_
    refine zd (zm8 _) ?_
    exact zqh k u hs
  ·have hb:(bitE k (254-J)==1)=false:=by rw[beq_eq_false_iff_ne];exact zhe h
   rw[hb]at hs
   refine za rfl rfl ?_
   refine za rfl rfl ?_
   refine za rfl rfl ?_
   refine zd (zlx (ladN k u J).px (ladN k u J).pz (ladN k u J).qx (ladN k u J).qz u) ?_
   refine zc (m:=((254-J:Nat):Int)-1) rfl (by omega) ?_
   refine zg (λh=>zo ?_) (λh=>zp ?_)
   ·simp only[zb]at h
    exact⟨J+1,by omega,by omega,zac [(0,0),(1,1),(2,2)] rfl ⟨cr,rfl,rfl,rfl,ze (by congr 1;omega),trivial⟩ ⟨⟨_,_,rfl,cr,_,_,rfl,cr,_,_,rfl,cr,_,_,rfl,cr,_,_,rfl,cr,rfl⟩,by rw[hs];exact⟨_,_,rfl,cr,_,_,rfl,cr,_,_,rfl,cr,_,_,rfl,cr,_,_,rfl,cr,_,_,rfl,cr,_,_,rfl,cr,_,_,rfl,cr,_,_,rfl,cr,_,_,rfl,cr,rfl⟩,by rw[hs];exact⟨_,_,rfl,cr,_,_,rfl,cr,_,_,rfl,cr,_,_,rfl,cr,_,_,rfl,cr,_,_,rfl,cr,_,_,rfl,cr,_,_,rfl,cr,_,_,rfl,cr,_,_,rfl,cr,rfl⟩,trivial⟩⟩
   ·simp only[zb]at h
    obtain rfl:J=254:=by omega
    refine Vdraw.mk' (by kernel_rfl) ?_
    refine za rfl rfl ?_
    refine za rfl rfl ?_
    refine zd (zjf (zcc (ladN k u 254).px (ladN k u 254).pz (ladN k u 254).qx (ladN k u 254).qz u).1.2) ?_
    refine zd (zba (zcc (ladN k u 254).px (ladN k u 254).pz (ladN k u 254).qx (ladN k u 254).qz u).1.1 (zcc (ladN k u 254).px (ladN k u 254).pz (ladN k u 254).qx (ladN k u 254).qz u).1.2.inv) ?_
    refine zd (zm8 _) ?_
    exact zqh k u hs
attribute [irreducible] zjk
end
section
def inB(k:List UInt8)(w:UInt8)(i:Nat):List UInt8:=(List.range i).map λj=>k.getD j 0^^^w
theorem zhn(k:List UInt8)(w:UInt8)(i:Nat):inB k w (i+1)=inB k w i++[k.getD i 0^^^w]:=by simp[inB,List.range_succ]
theorem zsm(k:List UInt8)(w:UInt8)(i:Nat):(inB k w i).length=i:=by simp[inB]
def z5f(k text:List UInt8):Nat->St
 |0=>{F:=[(0, .r (bs k)),(1, .r (bs text)),(5, .r (.x (.slice none 0 0))),(6, .r (.x (.slice none 0 0))),(7, .r (I ((0:Nat):Int)))],O:=[],nx:=0}
 |i+1=>{F:=[(0, .r (bs k)),(1, .r (bs text)),(5, .own 0),(6, .own 1),(7, .r (I ((i+1:Nat):Int)))],O:=[(0,some (.ch 5 1 (i+1) ((inB k 54 (i+1)).map U8) true)),(1,some (.ch 5 1 (i+1) ((inB k 92 (i+1)).map U8) true))],nx:=2}
theorem zsa(key text:List UInt8)(hk:key.length<=1000000000)(ht:text.length<=10000000000):zab Tryz.prog 171 [bs key,bs text] (bch (macB key text)):=by
 refine zaa (T:=Tab) mixed Tab_ok Tryz.func171 rfl (by kernel_rfl) ?_
 refine zg (λh=>zo ?a) (λh=>zp ?b)
 case' a=>
  simp only[zb]at h
  have hx:shaB key=keyB key:=by unfold keyB;rw[if_pos (by omega)]
  refine zd (zkm key (by omega)) ?_
  rw[hx]
 case' b=>
  simp only[zb]at h
  have hx:key=keyB key:=by unfold keyB;rw[if_neg (by omega)]
 all_goals
  have hkl:=zsp key
  refine zw (z5f (keyB key) text) (λi=>i<=64) (λi=>64-i) 0 (by omega) (zac [] rfl ⟨(by first |exact cr |exact ze (by rw[<-hx])),cr,cr,cr,cr,trivial⟩ trivial) ?_
  have hmac:macB key text=shaB (inB (keyB key) 92 64++shaB (inB (keyB key) 54 64++text)):=rfl
  generalize keyB key=kk at*
  intro i hi
  rcases i with _ |i
  ·refine zq rfl (zo ?_)
   refine zg (λh2=>zo ?_) (λh2=>zp ?_)
   all_goals
    simp only[zb]at h2
    obtain⟨x,hx2⟩: ∃x,kk.getD 0 0=x:=⟨_,rfl⟩
    first
    |(
      have hl:0<kk.length:=by omega
      have hx3:kk[0]=x:=by rw[<-hx2];simp[List.getD,hl]
      refine zk (by omega) (by omega) (zcs (j:=0) rfl hl) (zf rfl ?_)
      rw[hx3]
      refine Vbits.xor8 x 54 rfl rfl (zu ?_))
    |(
      have hx3:x=0:=by rw[<-hx2];simp[List.getD,List.getElem?_eq_none (show kk.length<=0 by omega)]
      refine Vbits.xor8 x 54 (by rw[hx3];rfl) rfl (zu ?_))
    refine zy (j:=0+1) (zs:=(inB kk 54 (0+1)).map U8) (by decide) (by decide) rfl (by rw[zhn kk 54 0,hx2];rfl) ?_
    refine Vbits.xor8 x 92 (by first |rfl |(rw[hx3];rfl)) rfl (zu ?_)
    refine zy (j:=0+1) (zs:=(inB kk 92 (0+1)).map U8) (by decide) (by decide) rfl (by rw[zhn kk 92 0,hx2];rfl) ?_
    refine zc (m:=((0+1:Nat):Int)) (by omega) (by omega) ?_
    exact⟨0+1,by omega,by omega,zac [(0,1),(1,3)] rfl ⟨cr,cr,rfl,rfl,cr,trivial⟩ ⟨⟨rfl,rfl,rfl,rfl,zm _⟩,⟨rfl,rfl,rfl,rfl,zm _⟩,trivial⟩⟩
  ·refine zg (λh=>zo ?_) (λh=>zp ?_)
   ·simp only[zb]at h
    refine zg (λh2=>zo ?_) (λh2=>zp ?_)
    all_goals
     simp only[zb]at h2
     obtain⟨x,hx2⟩: ∃x,kk.getD (i+1) 0=x:=⟨_,rfl⟩
     first
     |(
       have hl:i+1<kk.length:=by omega
       have hx3:kk[i+1]=x:=by rw[<-hx2];simp[List.getD,hl]
       refine zk (by omega) (by omega) (zcs (j:=i+1) rfl hl) (zf rfl ?_)
       rw[hx3]
       refine Vbits.xor8 x 54 rfl rfl (zu ?_))
     |(
       have hx3:x=0:=by rw[<-hx2];simp[List.getD,List.getElem?_eq_none (show kk.length<=i+1 by omega)]
       refine Vbits.xor8 x 54 (by rw[hx3];rfl) rfl (zu ?_))
     refine zy (j:=i+1+1) (zs:=(inB kk 54 (i+1+1)).map U8) (by simp[maxLen];omega) (by simp;omega) rfl (by rw[zhn kk 54 (i+1),hx2,List.map_append];rfl) ?_
     refine Vbits.xor8 x 92 (by first |rfl |(rw[hx3];rfl)) rfl (zu ?_)
     refine zy (j:=i+1+1) (zs:=(inB kk 92 (i+1+1)).map U8) (by simp[maxLen];omega) (by simp;omega) rfl (by rw[zhn kk 92 (i+1),hx2,List.map_append];rfl) ?_
     refine zc (m:=((i+1+1:Nat):Int)) (by omega) (by omega) ?_
     exact⟨i+1+1,by omega,by omega,zac [(0,3),(1,5)] rfl ⟨cr,cr,rfl,rfl,cr,trivial⟩ ⟨⟨rfl,rfl,rfl,rfl,zm _⟩,⟨rfl,rfl,rfl,rfl,zm _⟩,trivial⟩⟩
   ·simp only[zb]at h
    obtain rfl:i=63:=by omega
    have h5:=zsm kk 54 64
    have h9:=zsm kk 92 64
    refine zy (j:=(inB kk 54 64++text).length) (zs:=(inB kk 54 64++text).map U8) (by simp[maxLen];omega) (by simp;omega) (by simp[h5]) (by simp) ?_
    refine zd (zkm (inB kk 54 64++text) (by simp[h5];omega)) ?_
    refine zy (j:=(inB kk 92 64++shaB (inB kk 54 64++text)).length) (zs:=(inB kk 92 64++shaB (inB kk 54 64++text)).map U8) (by simp[maxLen,zcl]) (by simp[zcl]) (by simp[h9]) (by simp) ?_
    refine zd (zkm (inB kk 92 64++shaB (inB kk 54 64++text)) (by simp[h9,zcl])) ?_
    exact zdw (by rw[hmac])
end
end Go.Proofs.YtddokcpcpoihmaaGreat.Sx
