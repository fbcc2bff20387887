import Derived.Test.YtddokcpcpoihmaaGreatZKi
import Derived.Test.YtddokcpcpoihmaaGreatZEa
import Derived.Shelf.RegionOpenPlain
import Derived.Lib.Walk
import Derived.Lib.SliceRun
import Derived.Lib.Overlaps
import Derived.Laws.Externs
import Derived.Laws.IdiomCopy
import Derived.Lib.AppendZerosOnto
import Derived.Laws.NewBlocks
import Derived.Test.YtddokcpcpoihmaaGreatZMe
import Derived.Laws.BytesArg
import Derived.Lib.Bytes
namespace Go.Proofs.YtddokcpcpoihmaaGreat.Sx
open Go.RowKit
set_option linter.unusedVariables false
section
def lOff:Nat->Nat
 |0=>0 |1=>1 |2=>2 |3=>4 |_=>5
def zo7(b:Nat):Array Value:= #[.pointer (some ⟨b,0,none⟩), .pointer (some ⟨b,1,none⟩), .pointer (some ⟨b,2,none⟩), .pointer (some ⟨b,4,none⟩), .pointer (some ⟨b,5,none⟩)]
def z56(l:Leaf)(w:World)(k:Kp)(t:Value)(wr:World):Prop:=
 ∃(j:Nat) (k':Kp) (cur z:Array Value) (e e2 e3:TypeId),t= .int .i64 j/\j<=5/\Go.Proofs.YtddokcpcpoihmaaGreat.Ext w wr/\(∀b,b<w.heap.size->k' b=k b)/\wr.heap[w.heap.size]?=some (.cells cur e (0,0))/\k' w.heap.size=0/\k' (w.heap.size+1)=0/\
  RV.listAt wr k' l.c cur.toList/\wr.heap[w.heap.size+1]?=some (.cells z e2 (0,0))/\z.size=6/\wr.heap[w.heap.size+2]?=some (.cells (zo7 w.heap.size) e3 (0,0))
theorem zpq(l:Leaf)(hl:l.fit)(w:World)(k:Kp)(us:Array Value)(hus:RV.listAt w k l.c us.toList):
  Calls Tryz.prog 51 #[.agg us] w (Ret w λw' v=>∃k':Kp,(∀b,b<w.heap.size->k' b=k b)/\(RV.ag l.c).at_ w' k' v):=by
 have hz:us.size=6:=by rw[<-Array.length_toList];exact zao hus
 go_enter Tryz.func51,Tryz.ntmps51
 go_wp2_with fail
 go_loopw [12] (λt wr=>z56 l w k t wr) (λt _=>(5-intOf t).toNat)
 case atStart=>
  have f1: ∀o1 o2 o3:Obj,(((w.alloc o1).alloc o2).alloc o3).heap[w.heap.size]?=some o1:=λo1 o2 o3=>by
   rw[Below.heap_alloc _ _ _ (by simp;omega),Below.heap_alloc _ _ _ (by simp),heap_alloc_new]
  have f2: ∀o1 o2 o3:Obj,(((w.alloc o1).alloc o2).alloc o3).heap[w.heap.size+1]?=some o2:=λo1 o2 o3=>by
   rw[Below.heap_alloc _ _ _ (by simp)]
   have:=heap_alloc_new (w.alloc o1) o2
   rwa[zh8]at this
  have f3: ∀o1 o2 o3:Obj,(((w.alloc o1).alloc o2).alloc o3).heap[w.heap.size+2]?=some o3:=λo1 o2 o3=>by
   have:=heap_alloc_new ((w.alloc o1).alloc o2) o3
   rwa[zh8,zh8]at this
  have hx:Go.Proofs.YtddokcpcpoihmaaGreat.Ext w (((w.alloc (.cells us 31)).alloc (.cells #[.slice none 0 0, .slice none 0 0, .slice none 0 0, .int .u8 0, .slice none 0 0, .slice none 0 0] 31)).alloc (.cells (zo7 w.heap.size) 157)):=(by(repeat (first |exact Ext.refl _ |refine Ext.drew ?_ |refine Ext.drewN ?_ _ |refine Ext.alloc ?_ _ |(refine Ext.setCell ?_ (by first |omega |(simp;done) |(simp;omega)) _) |refine Ext.trans ?_ (by assumption))))
  have ko: ∀b,b<w.heap.size->kset (kset k w.heap.size 0) (w.heap.size+1) 0 b=k b:=λb hb=>by rw[zb7 b (by omega),zb7 b hb]
  exact⟨0,kset (kset k w.heap.size 0) (w.heap.size+1) 0,us,_,_,_,_,rfl,by omega,hx,ko,f1 _ _ _,by rw[zb7 _ (by omega),zbp],zbp,RV.list_mono (Ext.le hx ko) _ _ hus,f2 _ _ _,rfl,f3 _ _ _⟩
 case round=>
  obtain⟨j,k',cur,z,e,e2,e3,rfl,hj,hx,hk,hc,hk0,hk1,hlist,hz2,hzs,hp⟩:=hrel
  have hcs:cur.size=6:=by rw[<-Array.length_toList];exact zao hlist
  by_cases h5:j=5
  ·subst h5
   simp only[RV.listAt]at hlist
   obtain⟨x0,r0,q0,y0,z0,x1,r1,rfl,y1,z1,x2,r2,rfl,y2,z2,x3,r3,rfl,y3,z3,x4,r4,rfl,y4,z4,x5,r5,rfl,y5,z5,rfl⟩:=hlist
   have hcur:cur= #[x0,x1,x2,x3,x4,x5]:=by apply Array.ext';exact q0
   have c0:wr.cell? ⟨w.heap.size,0,none⟩=some x0:=by rw[cell_of_row wr _ 0 cur e (0,0) hc,hcur];rfl
   have c1:wr.cell? ⟨w.heap.size,1,none⟩=some x1:=by rw[cell_of_row wr _ 1 cur e (0,0) hc,hcur];rfl
   have c2:wr.cell? ⟨w.heap.size,2,none⟩=some x2:=by rw[cell_of_row wr _ 2 cur e (0,0) hc,hcur];rfl
   have c3:wr.cell? ⟨w.heap.size,3,none⟩=some x3:=by rw[cell_of_row wr _ 3 cur e (0,0) hc,hcur];rfl
   have c4:wr.cell? ⟨w.heap.size,4,none⟩=some x4:=by rw[cell_of_row wr _ 4 cur e (0,0) hc,hcur];rfl
   have c5:wr.cell? ⟨w.heap.size,5,none⟩=some x5:=by rw[cell_of_row wr _ 5 cur e (0,0) hc,hcur];rfl
   obtain⟨v0,v1,v2,v3,v4,v5,hzz⟩: ∃v0 v1 v2 v3 v4 v5,z= #[v0,v1,v2,v3,v4,v5]:=by
    obtain⟨L⟩:=z
    match L,hzs with
    |[a,b,c,d,e,f],_=>exact⟨a,b,c,d,e,f,rfl⟩
   have d0:wr.cell? ⟨w.heap.size+1,0,none⟩=some v0:=by rw[cell_of_row wr _ 0 z e2 (0,0) hz2,hzz];rfl
   have d1:wr.cell? ⟨w.heap.size+1,1,none⟩=some v1:=by rw[cell_of_row wr _ 1 z e2 (0,0) hz2,hzz];rfl
   have d2:wr.cell? ⟨w.heap.size+1,2,none⟩=some v2:=by rw[cell_of_row wr _ 2 z e2 (0,0) hz2,hzz];rfl
   have d3:wr.cell? ⟨w.heap.size+1,3,none⟩=some v3:=by rw[cell_of_row wr _ 3 z e2 (0,0) hz2,hzz];rfl
   have d4:wr.cell? ⟨w.heap.size+1,4,none⟩=some v4:=by rw[cell_of_row wr _ 4 z e2 (0,0) hz2,hzz];rfl
   have d5:wr.cell? ⟨w.heap.size+1,5,none⟩=some v5:=by rw[cell_of_row wr _ 5 z e2 (0,0) hz2,hzz];rfl
   have st: ∀(W:World) (i:Nat) (x old:Value),x.oneCell'=true->W.cell? ⟨w.heap.size+1,i,none⟩=some old->W.frozen? ⟨w.heap.size+1,i,none⟩=false->(store ⟨w.heap.size+1,i,none⟩ x).run Tryz.prog W= .ok () (W.setCell ⟨w.heap.size+1,i,none⟩ x):=λW i x old hx hc hf=>by
    rw[run_store Tryz.prog W _ x _ hx]
    simp[hc,hf]
   have fz: ∀j,wr.frozen? ⟨w.heap.size+1,j,none⟩=false:=λj=>by simp[World.frozen?,hz2]
   have s0:=st wr 0 x0 v0 y0 d0 (fz 0)
   have s1:=st (wr.setCell ⟨w.heap.size+1,0,none⟩ x0) 1 x1 v1 y1 (by rw[World.cell?_setCell_other _ _ _ _ (by simp)];exact d1) (by simp only[World.frozen?_setCell];exact fz 1)
   have s2:=st ((wr.setCell ⟨w.heap.size+1,0,none⟩ x0).setCell ⟨w.heap.size+1,1,none⟩ x1) 2 x2 v2 y2 (by rw[World.cell?_setCell_other _ _ _ _ (by simp),World.cell?_setCell_other _ _ _ _ (by simp)];exact d2) (by simp only[World.frozen?_setCell];exact fz 2)
   have s3:=st (((wr.setCell ⟨w.heap.size+1,0,none⟩ x0).setCell ⟨w.heap.size+1,1,none⟩ x1).setCell ⟨w.heap.size+1,2,none⟩ x2) 3 x3 v3 y3 (by rw[World.cell?_setCell_other _ _ _ _ (by simp),World.cell?_setCell_other _ _ _ _ (by simp),World.cell?_setCell_other _ _ _ _ (by simp)];exact d3) (by simp only[World.frozen?_setCell];exact fz 3)
   have s4:=st ((((wr.setCell ⟨w.heap.size+1,0,none⟩ x0).setCell ⟨w.heap.size+1,1,none⟩ x1).setCell ⟨w.heap.size+1,2,none⟩ x2).setCell ⟨w.heap.size+1,3,none⟩ x3) 4 x4 v4 y4 (by rw[World.cell?_setCell_other _ _ _ _ (by simp),World.cell?_setCell_other _ _ _ _ (by simp),World.cell?_setCell_other _ _ _ _ (by simp),World.cell?_setCell_other _ _ _ _ (by simp)];exact d4) (by simp only[World.frozen?_setCell];exact fz 4)
   have s5:=st (((((wr.setCell ⟨w.heap.size+1,0,none⟩ x0).setCell ⟨w.heap.size+1,1,none⟩ x1).setCell ⟨w.heap.size+1,2,none⟩ x2).setCell ⟨w.heap.size+1,3,none⟩ x3).setCell ⟨w.heap.size+1,4,none⟩ x4) 5 x5 v5 y5 (by rw[World.cell?_setCell_other _ _ _ _ (by simp),World.cell?_setCell_other _ _ _ _ (by simp),World.cell?_setCell_other _ _ _ _ (by simp),World.cell?_setCell_other _ _ _ _ (by simp),World.cell?_setCell_other _ _ _ _ (by simp)];exact d5) (by simp only[World.frozen?_setCell];exact fz 5)
   clear st
   obtain⟨Wf,hWf⟩: ∃Wf,Wf=wr.setRow (w.heap.size+1) #[x0,x1,x2,x3,x4,x5]:=⟨_,rfl⟩
   have hfe:(((((wr.setCell ⟨w.heap.size+1,0,none⟩ x0).setCell ⟨w.heap.size+1,1,none⟩ x1).setCell ⟨w.heap.size+1,2,none⟩ x2).setCell ⟨w.heap.size+1,3,none⟩ x3).setCell ⟨w.heap.size+1,4,none⟩ x4).setCell ⟨w.heap.size+1,5,none⟩ x5=Wf:=by
    rw[hWf,setCell_eq_setRow wr (w.heap.size+1) 0 z e2 (0,0) x0 hz2,setCell_eq_setRow _ (w.heap.size+1) 1 _ e2 (0,0) x1 (setRow_heap wr _ z _ e2 (0,0) hz2),setRow_setRow,
     setCell_eq_setRow _ (w.heap.size+1) 2 _ e2 (0,0) x2 (setRow_heap wr _ z _ e2 (0,0) hz2),setRow_setRow,setCell_eq_setRow _ (w.heap.size+1) 3 _ e2 (0,0) x3 (setRow_heap wr _ z _ e2 (0,0) hz2),setRow_setRow,
     setCell_eq_setRow _ (w.heap.size+1) 4 _ e2 (0,0) x4 (setRow_heap wr _ z _ e2 (0,0) hz2),setRow_setRow,setCell_eq_setRow _ (w.heap.size+1) 5 _ e2 (0,0) x5 (setRow_heap wr _ z _ e2 (0,0) hz2),setRow_setRow,hzz]
    rfl
   have hfh:Wf.heap[w.heap.size+1]?=some (.cells #[x0,x1,x2,x3,x4,x5] e2 (0,0)):=by rw[hWf];exact setRow_heap wr _ z _ e2 (0,0) hz2
   have e0:Wf.cell? ⟨w.heap.size+1,0,none⟩=some x0:=by rw[cell_of_row Wf _ 0 _ e2 (0,0) hfh];rfl
   have e1':Wf.cell? ⟨w.heap.size+1,1,none⟩=some x1:=by rw[cell_of_row Wf _ 1 _ e2 (0,0) hfh];rfl
   have e2':Wf.cell? ⟨w.heap.size+1,2,none⟩=some x2:=by rw[cell_of_row Wf _ 2 _ e2 (0,0) hfh];rfl
   have e3':Wf.cell? ⟨w.heap.size+1,3,none⟩=some x3:=by rw[cell_of_row Wf _ 3 _ e2 (0,0) hfh];rfl
   have e4':Wf.cell? ⟨w.heap.size+1,4,none⟩=some x4:=by rw[cell_of_row Wf _ 4 _ e2 (0,0) hfh];rfl
   have e5':Wf.cell? ⟨w.heap.size+1,5,none⟩=some x5:=by rw[cell_of_row Wf _ 5 _ e2 (0,0) hfh];rfl
   have hle:Le wr k' Wf k':=by
    refine(Wrote.le (ob:=some (w.heap.size+1)) ⟨by rw[hWf];rfl,by rw[hWf];rfl,by rw[hWf];rfl,by rw[hWf];simp[World.setRow],λx hx hne=>⟨?_,rfl⟩,λx hx=>?_⟩)
    ·rw[hWf];exact setRow_other wr _ x _ λe=>hne (by rw[e])
    ·cases hx
     exact⟨Nat.le_refl _,λo ho=>by omega,λh=>by omega⟩
   have hxf:Go.Proofs.YtddokcpcpoihmaaGreat.Ext w Wf:=by
    refine⟨by rw[hWf];exact hx.os,by rw[hWf];exact hx.tape,by rw[hWf];exact hx.output,Nat.le_trans hx.size hle.size,λx hxx=>?_⟩
    rw[hWf,setRow_other wr _ x _ (by omega)]
    exact hx.block x hxx
   have hres:(RV.ag l.c).at_ Wf k' (.agg #[x0,x1,x2,x3,x4,x5]):=by
    simp only[RV.at_]
    refine⟨_,rfl,RV.list_mono hle _ _ ?_⟩
    simp only[RV.listAt]
    exact⟨x0,_,rfl,y0,z0,x1,_,rfl,y1,z1,x2,_,rfl,y2,z2,x3,_,rfl,y3,z3,x4,_,rfl,y4,z4,x5,_,rfl,y5,z5,rfl⟩
   clear hWf
   go_wp2_with fail
   refine⟨rfl, .agg #[x0,x1,x2,x3,x4,x5],?_,_,rfl,hxf,k',hk,hres⟩
   have hr:=zds (P:=Tryz.prog) (w:=Wf) (b:=w.heap.size+1) (off:=0) (us:=[x0,x1,x2,x3,x4,x5]) (Tab_ok.get (t:=31) rfl).1 rfl rfl rfl (λj u hu=>by
    rw[Nat.zero_add,cell_of_row Wf _ j _ e2 (0,0) hfh]
    simpa using hu)
   rw[zeo,Array.mapM_eq_mapM_toList]
   simp only[Instr.loadAt,Instr.sureAddr,Sem.run_bind,Sem.run_pure,Result.andThen_ok]at hr
   show(do
    let vs<-List.toArray<$>List.mapM (zju _) [ResultVar.cell 2 31]
    pure (if h:vs.size=1 then vs[0]else .tuple vs)).run Tryz.prog Wf=_
   simp[zju,asAddr]
   exact hr
  ·have hj5:j<5:=by omega
   have hll:l.box.length<=1000000000000/\l.sign.length<=1000000000000/\l.ident.length<=1000000000000/\l.parent.length<=1000000000000/\l.sig.length<=1000000000000:=by
    obtain⟨h1,h2,h3,h4,h5⟩:=hl
    omega
   obtain⟨lj,hlj,hll,ho,hpt⟩: ∃lj:List UInt8,l.c[lOff j]?=some (bs lj)/\lj.length<=1000000000000/\lOff j<6/\(zo7 w.heap.size)[j]?=some (.pointer (some ⟨w.heap.size,lOff j,none⟩)):=by
    match j,hj5 with
    |0,_=>exact⟨l.box,rfl,hll.1,by decide,rfl⟩
    |1,_=>exact⟨l.sign,rfl,hll.2.1,by decide,rfl⟩
    |2,_=>exact⟨l.ident,rfl,hll.2.2.1,by decide,rfl⟩
    |3,_=>exact⟨l.parent,rfl,hll.2.2.2.1,by decide,rfl⟩
    |4,_=>exact⟨l.sig,rfl,hll.2.2.2.2,by decide,rfl⟩
   obtain⟨o,hoo⟩: ∃o,o=lOff j:=⟨_,rfl⟩
   rw[<-hoo]at hlj ho hpt
   clear hoo
   obtain⟨u,hu,hu1,hcu⟩: ∃u,(bs lj).at_ wr k' u/\u.oneCell'=true/\wr.cell? ⟨w.heap.size,o,none⟩=some u:=by
    have hoc:o<cur.toList.length:=by rw[Array.length_toList];omega
    have:=(RV.listAt_iff _ _).1 hlist |>.2 o _ cur.toList[o] hlj (List.getElem?_eq_getElem hoc)
    exact⟨_,this.2,this.1,by rw[cell_of_row wr _ o cur e (0,0) hc,<-Array.getElem?_toList];exact List.getElem?_eq_getElem hoc⟩
   have hcp:wr.cell? ⟨w.heap.size+1+1,j,none⟩=some (.pointer (some ⟨w.heap.size,o,none⟩)):=by
    rw[cell_of_row wr _ j _ e3 (0,0) hp];exact hpt
   obtain⟨p,rfl,hby⟩:=zcv hu
   clear h5 hpt
   go_wp2_with fail
   refine(zlj p lj _ hby (by omega)).mono ?_
   rintro e' w1 ⟨v,rfl,hb,g1,hov⟩
   obtain⟨k1,hk1',hch⟩:=zdw (k:=k') hov
   have hvat:(bs lj).at_ w1 k1 v:=by
    obtain⟨_,h,_⟩:=hch
    exact h.sl
   have hv1:v.oneCell'=true:=by
    obtain⟨_,h,_⟩:=hch
    exact h.one
   have hsw:w.heap.size+2<wr.heap.size:=(Array.getElem?_eq_some_iff.1 hp).1
   have hle1:Le wr k' w1 k1:=Ext.le hb hk1'
   have hc1:w1.heap[w.heap.size]?=some (.cells cur e (0,0)):=(hb.block _ (by omega)).trans hc
   obtain⟨cur2,hcur2⟩: ∃cur2,cur2=(cur.toList.take o++[v]++cur.toList.drop (o+1)).toArray:=⟨_,rfl⟩
   obtain⟨W2,hW2⟩: ∃W2,W2=w1.setRow w.heap.size cur2:=⟨_,rfl⟩
   have hst:(storeCells ⟨w.heap.size,o,none⟩ [v]).run Tryz.prog w1= .ok () W2:=by
    rw[hW2,hcur2]
    exact run_storeCells_at Tryz.prog w.heap.size o e [v] 0 cur w1 hc1 (by simp;omega) (by simpa using hv1)
   have hc2:W2.heap[w.heap.size]?=some (.cells cur2 e (0,0)):=by rw[hW2];exact setRow_heap w1 _ cur _ e (0,0) hc1
   have hrest: ∀x,x≠w.heap.size->W2.heap[x]?=w1.heap[x]?:=λx hx=>by rw[hW2];exact setRow_other w1 _ x _ hx
   have hle2:Le w1 k1 W2 k1:=by
    refine(Wrote.le (ob:=some w.heap.size) ⟨by rw[hW2];rfl,by rw[hW2];rfl,by rw[hW2];rfl,by rw[hW2];simp[World.setRow],λx hx hne=>⟨hrest x λe=>hne (by rw[e]),rfl⟩,λx hx=>?_⟩)
    cases hx
    have:k1 w.heap.size=0:=(hk1' _ (by omega)).trans hk0
    exact⟨Nat.le_refl _,λo ho=>by omega,λh=>by omega⟩
   have hxf:Go.Proofs.YtddokcpcpoihmaaGreat.Ext w W2:=by
    refine⟨by rw[hW2];exact hb.os.trans hx.os,by rw[hW2];exact hb.tape.trans hx.tape,by rw[hW2];exact hb.output.trans hx.output,Nat.le_trans hx.size (Nat.le_trans hb.size hle2.size),λx hxx=>?_⟩
    rw[hrest x (by omega),hb.block x (by omega)]
    exact hx.block x hxx
   have hlist2:RV.listAt W2 k1 l.c cur2.toList:=by
    have h1:=RV.list_mono (hle1.trans hle2) _ _ hlist
    have h2:RV.listAt W2 k1 [bs lj] [v]:=by
     simp only[RV.listAt]
     exact⟨v,_,rfl,hv1,RV.mono hle2 _ _ hvat,rfl⟩
    have h3:l.c=l.c.take o++[bs lj]++l.c.drop (o+1):=by
     have hoc:o<l.c.length:=ho
     have h4:l.c[o]=bs lj:=by rw[List.getElem?_eq_getElem hoc]at hlj;exact Option.some.inj hlj
     rw[<-h4,List.append_assoc,List.singleton_append,<-List.drop_eq_getElem_cons hoc,List.take_append_drop]
    rw[h3,hcur2,List.toList_toArray]
    exact za3 (za3 (zbt h1 o) h2) (zcj h1 (o+1))
   have hz2':W2.heap[w.heap.size+1]?=some (.cells z e2 (0,0)):=by rw[hrest _ (by omega),hb.block _ (by omega)];exact hz2
   have hp':W2.heap[w.heap.size+2]?=some (.cells (zo7 w.heap.size) e3 (0,0)):=by rw[hrest _ (by omega),hb.block _ (by omega)];exact hp
   clear hW2 hrest
   go_wp2_with fail
   rw[hst]
   go_wp2_with fail
   go_roundw
   case rel=>exact⟨j+1,k1,cur2,z,e,e2,e3,rfl,by omega,hxf,λb hb=>(hk1' b (by omega)).trans (hk b hb),hc2,(hk1' _ (by omega)).trans hk0,(hk1' _ (by omega)).trans hk1,hlist2,hz2',hzs,hp'⟩
   case measure=>(first |omega |(simp[intOf];done) |(simp[intOf];omega))
theorem zel(l:Leaf)(hl:l.fit):zab Tryz.prog 51 [.ag l.c] (.r (.ag l.c)):=
 za9 (zbc Tryz.func51 rfl (by kernel_rfl)) λw k vs hp=>by
  obtain⟨a,rfl,h1⟩:=zfh hp
  simp only[RV.at_]at h1
  obtain⟨us,rfl,h2⟩:=h1
  exact zpq l hl w k us h2
end
section
def zd4(label text:List UInt8):List UInt8:=vecB (mlsB++label)++vecB text
theorem zht(label:ByteArray)(text:List UInt8)(hl:label.size<=1048576)(ht:text.length<=1000000000):zab Tryz.prog 62 [Str label,bs text] (bch (zd4 (sB label) text)):=by
 refine zaa (T:=Tab) mixed Tab_ok Tryz.func62 rfl (by kernel_rfl) ?_
 have hd:=zqv label
 have hsz:label.data.toList.length=label.size:=rfl
 have hml:mlsB.length=8:=rfl
 refine⟨by show 8+label.size<=_;omega,?_⟩
 refine⟨by rw[zsm];show 8+label.size<=_;omega,?_⟩
 refine Vcall.mk' (za8 [] ((⟨#[77,76,83,32,49,46,48,32]⟩:ByteArray)++label).data.toList (by simp) (by rw[hd,List.length_append];omega)) (zj (Cv.nil _) (zm _)) ?_
 rw[hd]
 have hv:=zam (mlsB++label.data.toList)
 rw[List.length_append]at hv
 refine zd (za8 ([]++vecB (mlsB++label.data.toList)) text (by simp only[List.length_append,List.length_nil];omega) (by omega)) ?_
 exact zef (by simp[zd4,sB])
def zo8(seed label text:List UInt8):List UInt8:=sigB seed (zd4 label text)
theorem zm8(seed:List UInt8)(label:ByteArray)(text:List UInt8)(hs:seed.length=32)(hl:label.size<=1048576)(ht:text.length<=500000000):zab Tryz.prog 23 [bs seed,Str label,bs text] (.r (.tu [bs (zo8 seed (sB label) text),Er 0])):=by
 refine zaa (T:=Tab) mixed Tab_ok Tryz.func23 rfl (by kernel_rfl) ?_
 have hsz:(sB label).length=label.size:=rfl
 have hml:mlsB.length=8:=rfl
 have hv:=zam (mlsB++sB label)
 have hv2:=zam text
 rw[List.length_append]at hv
 refine zd (zht label text hl (by omega)) ?_
 refine zd (z4n seed (zd4 (sB label) text) hs (by rw[zd4,List.length_append];omega)) ?_
 exact⟨_,rfl,cr⟩
theorem zr2(seed:List UInt8)(label:ByteArray)(text:List UInt8)(hs:seed.length≠32)(hl:label.size<=1048576)(ht:text.length<=500000000):zab Tryz.prog 23 [bs seed,Str label,bs text] (.r (.tu [bs [],Er 1])):=by
 refine zaa (T:=Tab) mixed Tab_ok Tryz.func23 rfl (by kernel_rfl) ?_
 have hsz:(sB label).length=label.size:=rfl
 have hml:mlsB.length=8:=rfl
 have hv:=zam (mlsB++sB label)
 have hv2:=zam text
 rw[List.length_append]at hv
 refine zd (zht label text hl (by omega)) ?_
 refine zd (zuh seed (zd4 (sB label) text) hs) ?_
 exact⟨_,rfl,cr⟩
end
section
def nums(l:List UInt8):List Int:=l.map λb=>(b.toNat:Int)
theorem zm0{S:Nat->Prop}(p:AC)(l:List UInt8)(w:World)(hp:By w S p l):(convert 25 9 (.slice p.a l.length p.c)).run Tryz.prog w= .ok (.string (strOfNums (nums l))) w:=by
 rcases Nat.eq_zero_or_pos l.length with hn |hn
 ·have hl:l=[]:=List.eq_nil_of_length_eq_zero hn
  subst hl
  rw[run_convert_bytes_string w _ _ _ _ _ _ Tryz.underlying25 Tryz.underlying5 Tryz.underlying9]
  simp only[List.length_nil]
  cases p.a<;>simp[Conv.bytesToString,loadCells]
  all_goals rfl
 ·obtain⟨b,o,e,hc⟩:=hp.form hn
  rw[e]
  exact run_convert_bytes_arg w _ _ Tryz.underlying25 Tryz.underlying5 b o l.length p.c (nums l) (by simp[nums]) (λi hi=>by
   rw[hc i hi]
   simp[nums,hi]) _ Tryz.underlying9
theorem z2v(l m:List UInt8):((strOfNums (nums l)).toList==(strOfNums (nums m)).toList)=decide (l=m):=by
 have h: ∀l:List UInt8,(strOfNums (nums l)).toList=l:=λl=>by
  rw[Lib.strOfNums_toList]
  simp[Lib.bytesOf,nums,Function.comp_def]
 rw[h,h]
 by_cases e:l=m
 ·subst e
  simp
 ·simp[e]
theorem ztq(p q:AC)(l m:List UInt8){S:Nat->Prop}(w:World)(hp:By w S p l)(hq:By w S q m):
  Calls Tryz.prog 69 #[.slice p.a l.length p.c, .slice q.a m.length q.c] w λe w'=>e= .returned (.bool (decide (l=m)))/\w'=w:=by
 have g1:=zm0 p l w hp
 have g2:=zm0 q m w hq
 rw[<-z2v]
 generalize strOfNums (nums l)=s1 at*
 generalize strOfNums (nums m)=s2 at*
 obtain⟨a,c⟩:=p
 obtain⟨a',c'⟩:=q
 go_enter Tryz.func69,Tryz.ntmps69
 go_wp2_with fail
 go_ret
 exact⟨rfl,rfl⟩
theorem zpy(l m:List UInt8):zab Tryz.prog 69 [bs l,bs m] (.r (.b (decide (l=m)))):=
 za9 (zbc Tryz.func69 rfl (by kernel_rfl)) λw k vs hp=>by
  obtain⟨a,b,rfl,h1,h2⟩:=zen hp
  obtain⟨p,rfl,hp1⟩:=zcv h1
  obtain⟨q,rfl,hq1⟩:=zcv h2
  exact(ztq p q l m w hp1 hq1).mono λ_ _ ⟨e,hw⟩=>⟨_,e,hw▸Ext.refl _,k,λ_ _=>rfl,by simp[Res.at_,RV.at_]⟩
end
section
theorem Vfun.slnil{S:St}{o:Oper}{x y:Operand}{t2:TypeId}{sz n:Nat}{cells:List RV}{K:RV->Prop}(hop:o.op= .binOp .eql 25 x y t2)(hx:opr S x=some (.r (.sl sz n cells)))(hy:opr S y=some (.r (.x (.slice none 0 0))))(hn:0<n)(hK:K (.b false)):Vfun Tryz.prog S o [x,y] K:=by
 refine⟨[.sl sz n cells, .x (.slice none 0 0)],by simp only[oprs,hx,hy,St.rv], .b false,λa w k h=>?_,hK⟩
 obtain⟨u,v,e1,h1,h2⟩:=zen h
 simp only[RV.at_]at h1 h2
 obtain⟨p,c,rfl,_,_,_,h4⟩:=h1
 obtain⟨b,o',rfl,_⟩:=h4 hn
 subst h2
 simp only[List.map_cons,List.map_nil,List.cons.injEq,and_true]at e1
 refine⟨.bool false,?_,by simp only[RV.at_]⟩
 have hq:=Go.Lib.run_eql_slice_nil (P:=Tryz.prog) w _ _ (some ⟨b,o',none⟩) n c 0 0 Tryz.underlying25
 simp[execOp,hop,e1.1,e1.2,eqGuard,hq]
theorem zv6(l:List UInt8)(h0:0<l.length)(hl:l.length<=1000000000):zab Tryz.prog 105 [bs l] (.own 5 1 l.length (l.map U8)):=by
 refine zaa (T:=Tab) mixed Tab_ok Tryz.func105 rfl (by kernel_rfl) ?_
 refine Vfun.slnil rfl rfl rfl h0 (zp ?_)
 refine Vpub.own ?_
 refine Vapp.mk' (j:=l.length) (zs:=l.map U8) (by simp only[maxLen];omega) (by show(0+l.length)*1<=_;omega) (by omega) rfl ?_
 exact rfl
theorem z18(x:Fe):zab Tryz.prog 239 [.ag x.v] (.r (.b (zbo x fz))):=by
 refine zaa (T:=Tab) mixed Tab_ok Tryz.func239 rfl (by kernel_rfl) ?_
 refine za rfl rfl ?_
 refine zd (zg6 x fz) ?_
 exact cr
def Pt.same(p q:Pt):Bool:=cond (zbo (p.x.mul q.z) (q.x.mul p.z)) (zbo (p.y.mul q.z) (q.y.mul p.z)) false
set_option maxHeartbeats 1000000 in
theorem z2d(p q:Pt):zab Tryz.prog 202 [.ag p.v, .ag q.v] (.r (.b (p.same q))):=by
 refine zaa (T:=Tab) mixed Tab_ok Tryz.func202 rfl (by kernel_rfl) ?_
 refine Vdraw.mk' (by kernel_rfl) ?_
 refine za rfl rfl ?_
 refine zd (zfw p) ?_
 refine za rfl rfl ?_
 refine zd (zfw q) ?_
 refine Vdraw.mk' (by kernel_rfl) ?_
 refine za rfl rfl ?_
 refine za rfl rfl ?_
 refine zd (zaz p.x q.z) ?_
 refine za rfl rfl ?_
 refine za rfl rfl ?_
 refine zd (zaz q.x p.z) ?_
 have e1:zbo (p.x.mul q.z) (q.x.mul p.z)=true->p.same q=zbo (p.y.mul q.z) (q.y.mul p.z):=λh=>by unfold Pt.same;rw[h];rfl
 have e0:zbo (p.x.mul q.z) (q.x.mul p.z)=false->p.same q=false:=λh=>by unfold Pt.same;rw[h];rfl
 generalize p.x.mul q.z=A at*
 generalize q.x.mul p.z=B at*
 refine zy (zg6 A B) (λh=>?_) (λh=>?_)
 ·rw[e1 h]
  refine za rfl rfl ?_
  refine za rfl rfl ?_
  refine zd (zaz p.y q.z) ?_
  refine za rfl rfl ?_
  refine za rfl rfl ?_
  refine zd (zaz q.y p.z) ?_
  generalize p.y.mul q.z=C
  generalize q.y.mul p.z=D
  refine zd (zg6 C D) ?_
  exact cr
 ·rw[e0 h]
  exact cr
set_option maxHeartbeats 1000000 in
theorem z4k(p q:Pt):zab Tryz.prog 203 [.ag p.v, .ag q.v] (.r (.ag (p.sum q dD).v)):=by
 refine zaa (T:=Tab) mixed Tab_ok Tryz.func203 rfl (by kernel_rfl) ?_
 refine Vdraw.mk' (by kernel_rfl) ?_
 refine za rfl rfl ?_
 refine zd (zfw p) ?_
 refine za rfl rfl ?_
 refine zd (zfw q) ?_
 have hd:=h_d
 have e:dD=dC.add dC:=by rw[dD]
 rw[e]
 generalize dC=d at hd⊢
 refine zd hd ?_
 refine zd hd ?_
 refine zd (zd1 d d) ?_
 refine zd (zp8 p q (d.add d)) ?_
 refine za rfl rfl ?_
 exact cr
def oddB(b:List UInt8):Bool:=(((b.getD 31 0).toNat:Int).fdiv (2^(min (7:Int).toNat 8))==1)
def lowB(b:List UInt8):List UInt8:=b.set 31 (b.getD 31 0&&&127)
def negF(odd:Bool)(x:Fe):Fe:=cond odd (Fe.sub ⟨0,0,0,0,0⟩ x) x
def decP(b:List UInt8):Option Pt:=
 if b.length=32 then
  if(Fe.of b).bytes=lowB b then
   if(zbd (zda (Fe.of b))).2=true/\¬(zbo (zbd (zda (Fe.of b))).1 fz=true/\oddB b=true)then some (Pt.of (negF (oddB b) (zbd (zda (Fe.of b))).1) (Fe.of b))else none
  else none
 else none
abbrev zP:List RV:=[W 0,W 0,W 0,W 0,W 0,W 0,W 0,W 0,W 0,W 0,W 0,W 0,W 0,W 0,W 0,W 0,W 0,W 0,W 0,W 0, .b false]
def resP:Option Pt->RV
 |some p=> .tu [.ag p.v, .b true]
 |none=> .tu [.ag zP, .b false]
theorem zwf(b:List UInt8)(h:b.length≠32):zab Tryz.prog 200 [bs b] (.r (resP none)):=by
 refine zaa (T:=Tab) mixed Tab_ok Tryz.func200 rfl (by kernel_rfl) ?_
 refine zq (by simp only[zb];omega) (zo ?_)
 refine za rfl rfl ?_
 exact⟨_,rfl,cr⟩
section
variable (b yb:List UInt8) (y x:Fe) (ok zx:Bool) (hb:b.length=32)
 (c1:zab Tryz.prog 174 [bs b] (.r (.ag y.v)))
 (c2:zab Tryz.prog 104 [.ag y.v] (bch yb))
include hb c1 c2
set_option maxHeartbeats 1000000 in
theorem zza(res:Option Pt)
  (c3:yb=lowB b->zab Tryz.prog 118 [.ag y.v] (.r (.tu [.ag x.v, .b ok])))
  (c4:zab Tryz.prog 239 [.ag x.v] (.r (.b zx)))
  (c5: ∀u:Fe,u=negF (oddB b) x->∀P:Pt,some P=res->zab Tryz.prog 119 [.ag u.v, .ag y.v] (.r (.ag P.v)))
  (r0:yb≠lowB b->res=none) (r1:yb=lowB b->(ok=false\/zx=true/\oddB b=true)->res=none) (r2:yb=lowB b->ok=true->¬(zx=true/\oddB b=true)->∃P,some P=res):
  zab Tryz.prog 200 [bs b] (.r (resP res)):=by
 refine zaa (T:=Tab) mixed Tab_ok Tryz.func200 rfl (by kernel_rfl) ?_
 have hg:b[31]?=some (b.getD 31 0):=by rw[List.getD_eq_getElem?_getD,List.getElem?_eq_getElem (by omega)];rfl
 have hi:((b.map U8).drop ((31:Int).toNat*1)).take 1=[U8 (b.getD 31 0)]:=by
  have h31:31<b.length:=by omega
  have:=zcc (f:=U8) (l:=b) (i:=31) (j:=31) rfl h31
  rw[List.getElem?_eq_getElem h31]at hg
  rwa[Option.some.inj hg]at this
 refine zt (by simp only[zb];omega) (zp ?_)
 refine zd c1 ?_
 refine zk (by decide) (by omega) hi (zf rfl ?_)
 refine⟨by decide,_,rfl,?_⟩
 refine Vcmp.mk' (m:=oddB b) rfl ?_
 refine zd (zv6 b (by omega) (by omega)) ?_
 refine Vadr.mk' 31 rfl (by omega) ?_
 refine zf (zcw (j:=31) (by omega)) ?_
 refine Vbits.and8 (b.getD 31 0) 127 rfl rfl ?_
 refine Vadr.mk' 31 rfl (by omega) ?_
 refine⟨by show 31*1+1<=(b.map U8).length;rw[List.length_map];omega,(lowB b).map U8,zbj (show 31<b.length by omega),?_⟩
 refine za rfl rfl ?_
 refine zd c2 ?_
 have hlow:(lowB b).length=b.length:=by simp[lowB]
 have hbe:zab Tryz.prog 69 [bs yb, .sl 1 b.length ((lowB b).map U8)] (.r (.b (decide (yb=lowB b)))):=by
  have:=zpy yb (lowB b)
  rwa[<-zgd (lowB b) b.length hlow]at this
 refine Vstep.sub (zbe (id:=2) rfl) (Vstep.val Tab_ok ?_)
 refine zy hbe (λh=>zt rfl (zp ?_)) (λh=>zq rfl (zo ?_))
 rotate_left
 ·simp only[decide_eq_false_iff_not]at h
  refine za rfl rfl ?_
  exact⟨_,rfl,ze (by rw[r0 h];rfl)⟩
 simp only[decide_eq_true_eq]at h
 refine za rfl rfl ?_
 refine zd (c3 h) ?_
 have r1':=r1 h
 have r2':=r2 h
 cases ok with
 |false=>
  refine zq rfl (zo ?_)
  refine za rfl rfl ?_
  exact⟨_,rfl,ze (by rw[r1' (.inl rfl)];rfl)⟩
 |true=>
  refine zt rfl ?_
  refine za rfl rfl ?_
  refine zd c4 ?_
  obtain⟨β,hβ⟩: ∃β,β=oddB b:=⟨_,rfl⟩
  rw[<-hβ]at r1' r2' c5⊢
  cases zx with
  |true=>
   cases β with
   |true=>
    refine zo ?_
    refine za rfl rfl ?_
    exact⟨_,rfl,ze (by rw[r1' (.inr ⟨rfl,rfl⟩)];rfl)⟩
   |false=>
    obtain⟨P,hP⟩:=r2' rfl (by simp)
    refine zp (zp ?_)
    refine za rfl rfl ?_
    refine za rfl rfl ?_
    refine zd (c5 x rfl P hP) ?_
    refine za rfl rfl ?_
    exact⟨_,rfl,ze (by rw[<-hP];rfl)⟩
  |false=>
   obtain⟨P,hP⟩:=r2' rfl (by simp)
   cases β with
   |true=>
    refine zp (zo ?_)
    refine za rfl rfl ?_
    refine zd (zo5 x) ?_
    refine za rfl rfl ?_
    refine za rfl rfl ?_
    refine zd (c5 _ rfl P hP) ?_
    refine za rfl rfl ?_
    exact⟨_,rfl,ze (by rw[<-hP];rfl)⟩
   |false=>
    refine zp (zp ?_)
    refine za rfl rfl ?_
    refine za rfl rfl ?_
    refine zd (c5 x rfl P hP) ?_
    refine za rfl rfl ?_
    exact⟨_,rfl,ze (by rw[<-hP];rfl)⟩
end
theorem zwe(b:List UInt8):zab Tryz.prog 200 [bs b] (.r (resP (decP b))):=by
 by_cases hb:b.length=32
 ·have c1:=h_of b hb
  have hD:decP b=if(Fe.of b).bytes=lowB b then if(zbd (zda (Fe.of b))).2=true/\¬(zbo (zbd (zda (Fe.of b))).1 fz=true/\oddB b=true)then some (Pt.of (negF (oddB b) (zbd (zda (Fe.of b))).1) (Fe.of b))else none else none:=by unfold decP;rw[if_pos hb]
  generalize decP b=res at hD⊢
  generalize Fe.of b=y at c1 hD
  have c2:=zjk y
  have c3:=zv7 y
  generalize y.bytes=yb at c2 hD
  generalize zbd (zda y)=q at c3 hD
  obtain⟨x,ok⟩:=q
  dsimp only at c3 hD
  have c4:=z18 x
  generalize zbo x fz=zx at c4 hD
  refine zza b yb y x ok zx hb c1 c2 res (λ_=>c3) c4 (λu hu P hP=>?_) (λh=>?_) (λh h2=>?_) (λh h2 h3=>?_)
  ·have h1:yb=lowB b:=Decidable.byContradiction λh=>by rw[hD,if_neg h]at hP;cases hP
   rw[hD,if_pos h1]at hP
   split at hP
   ·cases hP
    rw[<-hu]
    exact zuf u y
   ·cases hP
  ·rw[hD,if_neg h]
  ·rw[hD,if_pos h,if_neg]
   rintro⟨k1,k2⟩
   rcases h2 with h2 |h2
   ·rw[h2]at k1;cases k1
   ·exact k2 h2
  ·exact⟨_,by rw[hD,if_pos h,if_pos ⟨h2,h3⟩]⟩
 ·have:decP b=none:=by unfold decP;rw[if_neg hb]
  rw[this]
  exact zwf b hb
def s4Of(b:List UInt8):S4:=⟨zbi b 0 8,zbi b 8 8,zbi b 16 8,zbi b 24 8⟩
def zfe(b:List UInt8):Option S4:=if b.length=32 then if(s4Of b).bor ord4=0 then none else some (s4Of b)else none
def resS:Option S4->RV
 |some s=> .tu [.ag s.v, .b true]
 |none=> .tu [.ag [W 0,W 0,W 0,W 0], .b false]
theorem zr0(b:List UInt8)(h:b.length≠32):zab Tryz.prog 201 [bs b] (.r (resS none)):=by
 refine zaa (T:=Tab) mixed Tab_ok Tryz.func201 rfl (by kernel_rfl) ?_
 refine zq (by simp only[zb];omega) (zo ?_)
 refine za rfl rfl ?_
 exact⟨_,rfl,cr⟩
set_option maxHeartbeats 1000000 in
theorem zua(b:List UInt8)(w0 w1 w2 w3 bo:UInt64)(df:S4)(hb:b.length=32)(c0:zab Tryz.prog 193 [bs b,I 0] (.r (W w0)))(c1:zab Tryz.prog 193 [bs b,I 8] (.r (W w1)))(c2:zab Tryz.prog 193 [bs b,I 16] (.r (W w2)))(c3:zab Tryz.prog 193 [bs b,I 24] (.r (W w3)))
  (c4: ∀o:S4,o=ord4->zab Tryz.prog 237 [.ag (S4.v ⟨w0,w1,w2,w3⟩), .ag o.v] (.r (.tu [.ag df.v,W bo]))):
  zab Tryz.prog 201 [bs b] (.r (resS (if bo=0 then none else some ⟨w0,w1,w2,w3⟩))):=by
 refine zaa (T:=Tab) mixed Tab_ok Tryz.func201 rfl (by kernel_rfl) ?_
 have ho:=zsu
 obtain⟨o,hoe⟩: ∃o,o=ord4:=⟨_,rfl⟩
 rw[<-hoe]at ho
 refine zt (by simp only[zb];omega) (zp ?_)
 refine Vloop.rounds 5 ?_
 refine Vrounds.step mixed Tab_ok ?_
 refine zq rfl (zo ?_)
 refine zc (m:=0) rfl (by decide) ?_
 refine zd c0 ?_
 refine Vadr.mk' 0 rfl (by decide) ?_
 refine zc (m:=1) rfl (by decide) ?_
 refine Vrounds.step mixed Tab_ok ?_
 refine zq rfl (zo ?_)
 refine zc (m:=8) rfl (by decide) ?_
 refine zd c1 ?_
 refine Vadr.mk' 1 rfl (by decide) ?_
 refine zc (m:=2) rfl (by decide) ?_
 refine Vrounds.step mixed Tab_ok ?_
 refine zq rfl (zo ?_)
 refine zc (m:=16) rfl (by decide) ?_
 refine zd c2 ?_
 refine Vadr.mk' 2 rfl (by decide) ?_
 refine zc (m:=3) rfl (by decide) ?_
 refine Vrounds.step mixed Tab_ok ?_
 refine zq rfl (zo ?_)
 refine zc (m:=24) rfl (by decide) ?_
 refine zd c3 ?_
 refine Vadr.mk' 3 rfl (by decide) ?_
 refine zc (m:=4) rfl (by decide) ?_
 refine Vrounds.step mixed Tab_ok ?_
 refine zt rfl (zp ?_)
 refine Vdraw.mk' (by kernel_rfl) ?_
 refine za rfl rfl ?_
 refine zd ho ?_
 refine zd (c4 o hoe) ?_
 refine zg (λh=>zo ?_) (λh=>zp ?_)
 ·simp only[zb]at h
  have hz:bo=0:=by
   have:bo.toNat=0:=by omega
   exact UInt64.toNat_inj.1 (by rw[this];rfl)
  rw[if_pos hz]
  refine za rfl rfl ?_
  exact⟨_,rfl,cr⟩
 ·simp only[zb]at h
  have hz:bo≠0:=λe=>h (by rw[e];rfl)
  rw[if_neg hz]
  refine za rfl rfl ?_
  refine za rfl rfl ?_
  exact⟨_,rfl,cr⟩
theorem z17(b:List UInt8):zab Tryz.prog 201 [bs b] (.r (resS (zfe b))):=by
 by_cases hb:b.length=32
 ·have:=zua b (zbi b 0 8) (zbi b 8 8) (zbi b 16 8) (zbi b 24 8) ((s4Of b).bor ord4) ((s4Of b).dif ord4) hb (zg7 b 0 (by omega) (by omega)) (zg7 b 8 (by omega) (by omega)) (zg7 b 16 (by omega) (by omega)) (zg7 b 24 (by omega) (by omega)) (λo ho=>by rw[ho];exact zwu (s4Of b) ord4)
  have e:zfe b=if(s4Of b).bor ord4=0 then none else some (s4Of b):=by unfold zfe;rw[if_pos hb]
  rw[e]
  exact this
 ·have:zfe b=none:=by unfold zfe;rw[if_neg hb]
  rw[this]
  exact zr0 b hb
end
section
def zis(r a:Pt)(s k:S4):Bool:=(mulP baseP s 253).same (r.sum (mulP a k 253) dD)
def zfg(pub text sig:List UInt8):Bool:=
 if sig.length=64 then
  match decP (sig.take 32),zfe (sig.drop 32),decP pub with
  |some r,some s,some a=>zis r a s (scOf (zbu [sig.take 32,pub,text]))
  |_,_,_=>false
 else false
theorem zr1(pub text sig:List UInt8)(h:sig.length≠64):zab Tryz.prog 136 [bs pub,bs text,bs sig] (.r (.b false)):=by
 refine zaa (T:=Tab) mixed Tab_ok Tryz.func136 rfl (by kernel_rfl) ?_
 refine zq (by simp only[zb];omega) (zo ?_)
 exact cr
section
variable (pub text sig q1 q2:List UInt8) (hl:sig.length=64) (h1:sig.take 32=q1) (h2:sig.drop 32=q2)
 (R A:Option Pt) (Z:Option S4)
 (c1:zab Tryz.prog 200 [bs q1] (.r (resP R))) (c2:zab Tryz.prog 201 [bs q2] (.r (resS Z))) (c3:zab Tryz.prog 200 [bs pub] (.r (resP A)))
include hl h1 h2 c1 c2 c3
set_option maxHeartbeats 1000000 in
theorem zgq(hb:R=none\/Z=none\/A=none):zab Tryz.prog 136 [bs pub,bs text,bs sig] (.r (.b false)):=by
 have l1:q1.length=32:=by rw[<-h1,List.length_take];omega
 have l2:q2.length=32:=by rw[<-h2,List.length_drop];omega
 rw[<-zgd q1 32 l1]at c1
 rw[<-zgd q2 32 l2]at c2
 have k1:((sig.map U8).drop ((0:Int).toNat*1)).take (32*1)=q1.map U8:=by rw[<-h1,List.map_take];rfl
 have k2:((sig.map U8).drop ((32:Int).toNat*1)).take (32*1)=q2.map U8:=by rw[<-h2,List.map_drop,List.take_of_length_le (by simp;omega)];rfl
 refine zaa (T:=Tab) mixed Tab_ok Tryz.func136 rfl (by kernel_rfl) ?_
 refine zt (by simp only[zb];omega) (zp ?_)
 refine⟨by decide,by decide,by omega,32,q1.map U8,rfl,k1,?_⟩
 cases R with
 |none=>
  refine zd c1 ?_
  refine⟨by decide,by omega,by omega,32,q2.map U8,by omega,k2,?_⟩
  cases Z<;>cases A<;>refine zd c2 (zd c3 (zq rfl (zo (cr))))
 |some r=>
  refine zd c1 ?_
  refine⟨by decide,by omega,by omega,32,q2.map U8,by omega,k2,?_⟩
  cases Z with
  |none=>cases A<;>refine zd c2 (zd c3 (zt rfl (zq rfl (zo (cr)))))
  |some s=>cases A with
   |none=>refine zd c2 (zd c3 (zt rfl (zt rfl (zq rfl (zo (cr))))))
   |some a=>rcases hb with h |h |h<;>cases h
end
set_option maxHeartbeats 1000000 in
theorem zub(pub text sig q1 q2 L:List UInt8)(hl:sig.length=64)(hp:pub.length<=1000000000)(ht:text.length<=1000000000)(h1:sig.take 32=q1)(h2:sig.drop 32=q2)(r a M N Y:Pt)(s k:S4)(β:Bool)
  (c1:zab Tryz.prog 200 [bs q1] (.r (.tu [.ag r.v, .b true]))) (c2:zab Tryz.prog 201 [bs q2] (.r (.tu [.ag s.v, .b true]))) (c3:zab Tryz.prog 200 [bs pub] (.r (.tu [.ag a.v, .b true])))
  (c4:zab Tryz.prog 129 [bss [q1,pub,text]] (.r (bs L))) (c5:zab Tryz.prog 128 [bs L] (.r (.ag k.v)))
  (c6: ∀b:Pt,b=baseP->zab Tryz.prog 58 [.ag b.v, .ag s.v] (.r (.ag M.v)))
  (c7:zab Tryz.prog 58 [.ag a.v, .ag k.v] (.r (.ag N.v))) (c8:zab Tryz.prog 203 [.ag r.v, .ag N.v] (.r (.ag Y.v))) (c9:zab Tryz.prog 202 [.ag M.v, .ag Y.v] (.r (.b β))):
  zab Tryz.prog 136 [bs pub,bs text,bs sig] (.r (.b β)):=by
 have l1:q1.length=32:=by rw[<-h1,List.length_take];omega
 have l2:q2.length=32:=by rw[<-h2,List.length_drop];omega
 have e4:bss [q1,pub,text]= .sl 1 3 [.sl 1 32 (q1.map U8),bs pub,bs text]:=by rw[zgd q1 32 l1];rfl
 rw[e4]at c4
 rw[<-zgd q1 32 l1]at c1
 rw[<-zgd q2 32 l2]at c2
 have k1:((sig.map U8).drop ((0:Int).toNat*1)).take (32*1)=q1.map U8:=by rw[<-h1,List.map_take];rfl
 have k2:((sig.map U8).drop ((32:Int).toNat*1)).take (32*1)=q2.map U8:=by rw[<-h2,List.map_drop,List.take_of_length_le (by simp;omega)];rfl
 refine zaa (T:=Tab) mixed Tab_ok Tryz.func136 rfl (by kernel_rfl) ?_
 obtain⟨b,hb⟩: ∃b,b=baseP:=⟨_,rfl⟩
 have c0:=zna
 rw[<-hb]at c0
 refine zt (by simp only[zb];omega) (zp ?_)
 refine⟨by decide,by decide,by omega,32,q1.map U8,rfl,k1,?_⟩
 refine zd c1 ?_
 refine⟨by decide,by omega,by omega,32,q2.map U8,by omega,k2,?_⟩
 refine zd c2 ?_
 refine zd c3 ?_
 refine zt rfl ?_
 refine zt rfl ?_
 refine zt rfl (zp ?_)
 refine⟨by decide,by decide,by omega,32,q1.map U8,rfl,k1,?_⟩
 refine zu ?_
 refine zd c4 ?_
 refine zd c5 ?_
 refine Vdraw.mk' (by kernel_rfl) ?_
 refine zd c0 ?_
 refine za rfl rfl ?_
 refine zd (c6 b hb) ?_
 refine za rfl rfl ?_
 refine za rfl rfl ?_
 refine za rfl rfl ?_
 refine zd c7 ?_
 refine zd c8 ?_
 refine zd c9 ?_
 exact cr
theorem h_holds(pub text sig:List UInt8)(hp:pub.length<=1000000000)(ht:text.length<=1000000000):zab Tryz.prog 136 [bs pub,bs text,bs sig] (.r (.b (zfg pub text sig))):=by
 by_cases hl:sig.length=64
 rotate_left
 ·have:zfg pub text sig=false:=by unfold zfg;rw[if_neg hl]
  rw[this]
  exact zr1 pub text sig hl
 have hB:zfg pub text sig=match decP (sig.take 32),zfe (sig.drop 32),decP pub with
  |some r,some s,some a=>zis r a s (scOf (zbu [sig.take 32,pub,text]))
  |_,_,_=>false:=by unfold zfg;rw[if_pos hl]
 have c1:=zwe (sig.take 32)
 have c2:=z17 (sig.drop 32)
 have c3:=zwe pub
 have l1:(sig.take 32).length=32:=by rw[List.length_take];omega
 have c4:=zp4 [sig.take 32,pub,text] (by rw[z0t,List.length_append,List.length_append];omega)
 have c5:=zl2 (zbu [sig.take 32,pub,text]) (by rw[zbl];omega)
 generalize zbu [sig.take 32,pub,text]=L at c4 c5 hB
 generalize scOf L=k at c5 hB
 generalize hR:decP (sig.take 32)=R at c1 hB
 generalize hZ:zfe (sig.drop 32)=Z at c2 hB
 generalize hA:decP pub=A at c3 hB
 cases R with
 |none=>
  rw[hB]
  exact zgq pub text sig _ _ hl rfl rfl none A Z c1 c2 c3 (.inl rfl)
 |some r=>
  cases Z with
  |none=>
   rw[hB]
   exact zgq pub text sig _ _ hl rfl rfl (some r) A none c1 c2 c3 (.inr (.inl rfl))
  |some s=>
   cases A with
   |none=>
    rw[hB]
    exact zgq pub text sig _ _ hl rfl rfl (some r) none (some s) c1 c2 c3 (.inr (.inr rfl))
   |some a=>
    rw[hB]
    have c7:=zl1 a k
    generalize hN:mulP a k 253=N at c7
    have c8:=z4k r N
    generalize hY:r.sum N dD=Y at c8
    have c6: ∀b:Pt,b=baseP->zab Tryz.prog 58 [.ag b.v, .ag s.v] (.r (.ag (mulP baseP s 253).v)):=λb hb=>by rw[hb];exact zl1 baseP s
    have e:zis r a s k=(mulP baseP s 253).same Y:=by unfold zis;rw[hN,hY]
    show zab _ _ _ (.r (.b (zis r a s k)))
    rw[e]
    generalize mulP baseP s 253=M at c6
    exact zub pub text sig _ _ L hl hp ht rfl rfl r a M N Y s k _ c1 c2 c3 c4 c5 c6 c7 c8 (z2d M Y)
theorem z0c(label:ByteArray)(text:List UInt8)(hl:label.size<=1048576)(ht:text.length<=500000000):(zd4 (sB label) text).length<=1000000000:=by
 have hml:mlsB.length=8:=rfl
 have hsz:(sB label).length=label.size:=rfl
 have hv:=zam (mlsB++sB label)
 have hv2:=zam text
 rw[List.length_append]at hv
 rw[zd4,List.length_append]
 omega
theorem zm6(pub:List UInt8)(label:ByteArray)(text sig:List UInt8)(hp:pub.length<=1000000000)(hl:label.size<=1048576)(ht:text.length<=500000000):zab Tryz.prog 70 [bs pub,Str label,bs text,bs sig] (.r (.b (zfg pub (zd4 (sB label) text) sig))):=by
 refine zaa (T:=Tab) mixed Tab_ok Tryz.func70 rfl (by kernel_rfl) ?_
 refine zd (zht label text hl (by omega)) ?_
 refine zd (h_holds pub (zd4 (sB label) text) sig hp (z0c label text hl ht)) ?_
 exact cr
end
end Go.Proofs.YtddokcpcpoihmaaGreat.Sx
