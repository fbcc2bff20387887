import Derived.Test.YtfjkblpnbgfkeaaGreatZKe
import Derived.Test.YtfjkblpnbgfkeaaGreatZSxSt
import Derived.Shelf.RegionOpenPlain
import Derived.Lib.Walk
import Derived.Lib.SliceRun
import Derived.Lib.Overlaps
import Derived.Laws.Externs
import Derived.Laws.IdiomCopy
import Derived.Lib.AppendZerosOnto
import Derived.Laws.NewBlocks
import Derived.Test.YtfjkblpnbgfkeaaGreatZMk
import Derived.Test.YtfjkblpnbgfkeaaGreatZKo
import Derived.Laws.ComplexArith
import Derived.Test.YtfjkblpnbgfkeaaGreatZWireB
import Derived.Laws.Cover3
import Derived.Test.YtfjkblpnbgfkeaaGreatZEs
namespace Go.Proofs.YtfjkblpnbgfkeaaGreat.Sx
open Go.RowKit
set_option linter.unusedVariables false
section
def lOff:Nat->Nat
 |0=>0 |1=>1 |2=>2 |3=>4 |_=>5
def zuk(b:Nat):Array Value:= #[.pointer (some ⟨b,0,none⟩), .pointer (some ⟨b,1,none⟩), .pointer (some ⟨b,2,none⟩), .pointer (some ⟨b,4,none⟩), .pointer (some ⟨b,5,none⟩)]
def zfab(l:Leaf)(w:World)(k:Kp)(t:Value)(wr:World):Prop:=
 ∃(j:Nat) (k':Kp) (cur z:Array Value) (e e2 e3:TypeId),t= .int .i64 j/\j<=5/\Go.Proofs.YtfjkblpnbgfkeaaGreat.Ext w wr/\(∀b,b<w.heap.size->k' b=k b)/\wr.heap[w.heap.size]?=some (.cells cur e (0,0))/\k' w.heap.size=0/\k' (w.heap.size+1)=0/\
  RV.listAt wr k' l.c cur.toList/\wr.heap[w.heap.size+1]?=some (.cells z e2 (0,0))/\z.size=6/\wr.heap[w.heap.size+2]?=some (.cells (zuk w.heap.size) e3 (0,0))
theorem zu8(l:Leaf)(hl:l.fit)(w:World)(k:Kp)(us:Array Value)(hus:RV.listAt w k l.c us.toList):
  Calls Tryz.prog 65 #[.agg us] w (Ret w λw' v=>∃k':Kp,(∀b,b<w.heap.size->k' b=k b)/\(RV.ag l.c).at_ w' k' v):=by
 have hz:us.size=6:=by rw[<-Array.length_toList];exact zat hus
 go_enter Tryz.func65,Tryz.ntmps65
 go_wp2_with fail
 go_loopw [12] (λt wr=>zfab l w k t wr) (λt _=>(5-intOf t).toNat)
 case atStart=>
  have f1: ∀o1 o2 o3:Obj,(((w.alloc o1).alloc o2).alloc o3).heap[w.heap.size]?=some o1:=λo1 o2 o3=>by
   rw[Below.heap_alloc _ _ _ (by simp;omega),Below.heap_alloc _ _ _ (by simp),heap_alloc_new]
  have f2: ∀o1 o2 o3:Obj,(((w.alloc o1).alloc o2).alloc o3).heap[w.heap.size+1]?=some o2:=λo1 o2 o3=>by
   rw[Below.heap_alloc _ _ _ (by simp)]
   have:=heap_alloc_new (w.alloc o1) o2
   rwa[zlt]at this
  have f3: ∀o1 o2 o3:Obj,(((w.alloc o1).alloc o2).alloc o3).heap[w.heap.size+2]?=some o3:=λo1 o2 o3=>by
   have:=heap_alloc_new ((w.alloc o1).alloc o2) o3
   rwa[zlt,zlt]at this
  have hx:Go.Proofs.YtfjkblpnbgfkeaaGreat.Ext w (((w.alloc (.cells us 40)).alloc (.cells #[.slice none 0 0, .slice none 0 0, .slice none 0 0, .int .u8 0, .slice none 0 0, .slice none 0 0] 40)).alloc (.cells (zuk w.heap.size) 180)):=(by(repeat (first |exact Ext.refl _ |refine Ext.drew ?_ |refine Ext.drewN ?_ _ |refine Ext.alloc ?_ _ |(refine Ext.setCell ?_ (by first |omega |(simp;done) |(simp;omega)) _) |refine Ext.trans ?_ (by assumption))))
  have ko: ∀b,b<w.heap.size->kset (kset k w.heap.size 0) (w.heap.size+1) 0 b=k b:=λb hb=>by rw[zci b (by omega),zci b hb]
  exact⟨0,kset (kset k w.heap.size 0) (w.heap.size+1) 0,us,_,_,_,_,rfl,by omega,hx,ko,f1 _ _ _,by rw[zci _ (by omega),zb8],zb8,RV.list_mono (Ext.le hx ko) _ _ hus,f2 _ _ _,rfl,f3 _ _ _⟩
 case round=>
  obtain⟨j,k',cur,z,e,e2,e3,rfl,hj,hx,hk,hc,hk0,hk1,hlist,hz2,hzs,hp⟩:=hrel
  have hcs:cur.size=6:=by rw[<-Array.length_toList];exact zat hlist
  by_cases h5:j=5
  ·subst h5
   simp only[RV.listAt]at hlist
   obtain⟨x0,r0,q0,y0,z0,x1,r1,rfl,y1,z1,x2,r2,rfl,y2,z2,x3,r3,rfl,y3,z3,x4,r4,rfl,y4,z4,x5,r5,rfl,y5,z5,rfl⟩:=hlist
   have hcur:cur= #[x0,x1,x2,x3,x4,x5]:=by apply Array.ext';exact q0
   have c0:wr.cell? ⟨w.heap.size,0,none⟩=some x0:=by rw[cell_of_row wr _ 0 cur e (0,0) hc,hcur];rfl
   have c1:wr.cell? ⟨w.heap.size,1,none⟩=some x1:=by rw[cell_of_row wr _ 1 cur e (0,0) hc,hcur];rfl
   have c2:wr.cell? ⟨w.heap.size,2,none⟩=some x2:=by rw[cell_of_row wr _ 2 cur e (0,0) hc,hcur];rfl
   have c3:wr.cell? ⟨w.heap.size,3,none⟩=some x3:=by rw[cell_of_row wr _ 3 cur e (0,0) hc,hcur];rfl
   have c4:wr.cell? ⟨w.heap.size,4,none⟩=some x4:=by rw[cell_of_row wr _ 4 cur e (0,0) hc,hcur];rfl
   have c5:wr.cell? ⟨w.heap.size,5,none⟩=some x5:=by rw[cell_of_row wr _ 5 cur e (0,0) hc,hcur];rfl
   obtain⟨v0,v1,v2,v3,v4,v5,hzz⟩: ∃v0 v1 v2 v3 v4 v5,z= #[v0,v1,v2,v3,v4,v5]:=by
    obtain⟨L⟩:=z
    match L,hzs with
    |[a,b,c,d,e,f],_=>exact⟨a,b,c,d,e,f,rfl⟩
   have d0:wr.cell? ⟨w.heap.size+1,0,none⟩=some v0:=by rw[cell_of_row wr _ 0 z e2 (0,0) hz2,hzz];rfl
   have d1:wr.cell? ⟨w.heap.size+1,1,none⟩=some v1:=by rw[cell_of_row wr _ 1 z e2 (0,0) hz2,hzz];rfl
   have d2:wr.cell? ⟨w.heap.size+1,2,none⟩=some v2:=by rw[cell_of_row wr _ 2 z e2 (0,0) hz2,hzz];rfl
   have d3:wr.cell? ⟨w.heap.size+1,3,none⟩=some v3:=by rw[cell_of_row wr _ 3 z e2 (0,0) hz2,hzz];rfl
   have d4:wr.cell? ⟨w.heap.size+1,4,none⟩=some v4:=by rw[cell_of_row wr _ 4 z e2 (0,0) hz2,hzz];rfl
   have d5:wr.cell? ⟨w.heap.size+1,5,none⟩=some v5:=by rw[cell_of_row wr _ 5 z e2 (0,0) hz2,hzz];rfl
   have st: ∀(W:World) (i:Nat) (x old:Value),x.oneCell'=true->W.cell? ⟨w.heap.size+1,i,none⟩=some old->W.frozen? ⟨w.heap.size+1,i,none⟩=false->(store ⟨w.heap.size+1,i,none⟩ x).run Tryz.prog W= .ok () (W.setCell ⟨w.heap.size+1,i,none⟩ x):=λW i x old hx hc hf=>by
    rw[run_store Tryz.prog W _ x _ hx]
    simp[hc,hf]
   have fz: ∀j,wr.frozen? ⟨w.heap.size+1,j,none⟩=false:=λj=>by simp[World.frozen?,hz2]
   have s0:=st wr 0 x0 v0 y0 d0 (fz 0)
   have s1:=st (wr.setCell ⟨w.heap.size+1,0,none⟩ x0) 1 x1 v1 y1 (by rw[World.cell?_setCell_other _ _ _ _ (by simp)];exact d1) (by simp only[World.frozen?_setCell];exact fz 1)
   have s2:=st ((wr.setCell ⟨w.heap.size+1,0,none⟩ x0).setCell ⟨w.heap.size+1,1,none⟩ x1) 2 x2 v2 y2 (by rw[World.cell?_setCell_other _ _ _ _ (by simp),World.cell?_setCell_other _ _ _ _ (by simp)];exact d2) (by simp only[World.frozen?_setCell];exact fz 2)
   have s3:=st (((wr.setCell ⟨w.heap.size+1,0,none⟩ x0).setCell ⟨w.heap.size+1,1,none⟩ x1).setCell ⟨w.heap.size+1,2,none⟩ x2) 3 x3 v3 y3 (by rw[World.cell?_setCell_other _ _ _ _ (by simp),World.cell?_setCell_other _ _ _ _ (by simp),World.cell?_setCell_other _ _ _ _ (by simp)];exact d3) (by simp only[World.frozen?_setCell];exact fz 3)
   have s4:=st ((((wr.setCell ⟨w.heap.size+1,0,none⟩ x0).setCell ⟨w.heap.size+1,1,none⟩ x1).setCell ⟨w.heap.size+1,2,none⟩ x2).setCell ⟨w.heap.size+1,3,none⟩ x3) 4 x4 v4 y4 (by rw[World.cell?_setCell_other _ _ _ _ (by simp),World.cell?_setCell_other _ _ _ _ (by simp),World.cell?_setCell_other _ _ _ _ (by simp),World.cell?_setCell_other _ _ _ _ (by simp)];exact d4) (by simp only[World.frozen?_setCell];exact fz 4)
   have s5:=st (((((wr.setCell ⟨w.heap.size+1,0,none⟩ x0).setCell ⟨w.heap.size+1,1,none⟩ x1).setCell ⟨w.heap.size+1,2,none⟩ x2).setCell ⟨w.heap.size+1,3,none⟩ x3).setCell ⟨w.heap.size+1,4,none⟩ x4) 5 x5 v5 y5 (by rw[World.cell?_setCell_other _ _ _ _ (by simp),World.cell?_setCell_other _ _ _ _ (by simp),World.cell?_setCell_other _ _ _ _ (by simp),World.cell?_setCell_other _ _ _ _ (by simp),World.cell?_setCell_other _ _ _ _ (by simp)];exact d5) (by simp only[World.frozen?_setCell];exact fz 5)
   clear st
   obtain⟨Wf,hWf⟩: ∃Wf,Wf=wr.setRow (w.heap.size+1) #[x0,x1,x2,x3,x4,x5]:=⟨_,rfl⟩
   have hfe:(((((wr.setCell ⟨w.heap.size+1,0,none⟩ x0).setCell ⟨w.heap.size+1,1,none⟩ x1).setCell ⟨w.heap.size+1,2,none⟩ x2).setCell ⟨w.heap.size+1,3,none⟩ x3).setCell ⟨w.heap.size+1,4,none⟩ x4).setCell ⟨w.heap.size+1,5,none⟩ x5=Wf:=by
    rw[hWf,setCell_eq_setRow wr (w.heap.size+1) 0 z e2 (0,0) x0 hz2,setCell_eq_setRow _ (w.heap.size+1) 1 _ e2 (0,0) x1 (setRow_heap wr _ z _ e2 (0,0) hz2),setRow_setRow,
     setCell_eq_setRow _ (w.heap.size+1) 2 _ e2 (0,0) x2 (setRow_heap wr _ z _ e2 (0,0) hz2),setRow_setRow,setCell_eq_setRow _ (w.heap.size+1) 3 _ e2 (0,0) x3 (setRow_heap wr _ z _ e2 (0,0) hz2),setRow_setRow,
     setCell_eq_setRow _ (w.heap.size+1) 4 _ e2 (0,0) x4 (setRow_heap wr _ z _ e2 (0,0) hz2),setRow_setRow,setCell_eq_setRow _ (w.heap.size+1) 5 _ e2 (0,0) x5 (setRow_heap wr _ z _ e2 (0,0) hz2),setRow_setRow,hzz]
    rfl
   have hfh:Wf.heap[w.heap.size+1]?=some (.cells #[x0,x1,x2,x3,x4,x5] e2 (0,0)):=by rw[hWf];exact setRow_heap wr _ z _ e2 (0,0) hz2
   have e0:Wf.cell? ⟨w.heap.size+1,0,none⟩=some x0:=by rw[cell_of_row Wf _ 0 _ e2 (0,0) hfh];rfl
   have e1':Wf.cell? ⟨w.heap.size+1,1,none⟩=some x1:=by rw[cell_of_row Wf _ 1 _ e2 (0,0) hfh];rfl
   have e2':Wf.cell? ⟨w.heap.size+1,2,none⟩=some x2:=by rw[cell_of_row Wf _ 2 _ e2 (0,0) hfh];rfl
   have e3':Wf.cell? ⟨w.heap.size+1,3,none⟩=some x3:=by rw[cell_of_row Wf _ 3 _ e2 (0,0) hfh];rfl
   have e4':Wf.cell? ⟨w.heap.size+1,4,none⟩=some x4:=by rw[cell_of_row Wf _ 4 _ e2 (0,0) hfh];rfl
   have e5':Wf.cell? ⟨w.heap.size+1,5,none⟩=some x5:=by rw[cell_of_row Wf _ 5 _ e2 (0,0) hfh];rfl
   have hle:Le wr k' Wf k':=by
    refine(Wrote.le (ob:=some (w.heap.size+1)) ⟨by rw[hWf];rfl,by rw[hWf];rfl,by rw[hWf];rfl,by rw[hWf];simp[World.setRow],λx hx hne=>⟨?_,rfl⟩,λx hx=>?_⟩)
    ·rw[hWf];exact setRow_other wr _ x _ λe=>hne (by rw[e])
    ·cases hx
     exact⟨Nat.le_refl _,λo ho=>by omega,λh=>by omega⟩
   have hxf:Go.Proofs.YtfjkblpnbgfkeaaGreat.Ext w Wf:=by
    refine⟨by rw[hWf];exact hx.os,by rw[hWf];exact hx.tape,by rw[hWf];exact hx.output,Nat.le_trans hx.size hle.size,λx hxx=>?_⟩
    rw[hWf,setRow_other wr _ x _ (by omega)]
    exact hx.block x hxx
   have hres:(RV.ag l.c).at_ Wf k' (.agg #[x0,x1,x2,x3,x4,x5]):=by
    simp only[RV.at_]
    refine⟨_,rfl,RV.list_mono hle _ _ ?_⟩
    simp only[RV.listAt]
    exact⟨x0,_,rfl,y0,z0,x1,_,rfl,y1,z1,x2,_,rfl,y2,z2,x3,_,rfl,y3,z3,x4,_,rfl,y4,z4,x5,_,rfl,y5,z5,rfl⟩
   clear hWf
   go_wp2_with fail
   refine⟨rfl, .agg #[x0,x1,x2,x3,x4,x5],?_,_,rfl,hxf,k',hk,hres⟩
   have hr:=zfe (P:=Tryz.prog) (w:=Wf) (b:=w.heap.size+1) (off:=0) (us:=[x0,x1,x2,x3,x4,x5]) (Tab_ok.get (t:=40) rfl).1 rfl rfl rfl (λj u hu=>by
    rw[Nat.zero_add,cell_of_row Wf _ j _ e2 (0,0) hfh]
    simpa using hu)
   rw[zgt,Array.mapM_eq_mapM_toList]
   simp only[Instr.loadAt,Instr.sureAddr,Sem.run_bind,Sem.run_pure,Result.andThen_ok]at hr
   show(do
    let vs<-List.toArray<$>List.mapM (zns _) [ResultVar.cell 2 40]
    pure (if h:vs.size=1 then vs[0]else .tuple vs)).run Tryz.prog Wf=_
   simp[zns,asAddr]
   exact hr
  ·have hj5:j<5:=by omega
   have hll:l.box.length<=1000000000000/\l.sign.length<=1000000000000/\l.ident.length<=1000000000000/\l.parent.length<=1000000000000/\l.sig.length<=1000000000000:=by
    obtain⟨h1,h2,h3,h4,h5⟩:=hl
    omega
   obtain⟨lj,hlj,hll,ho,hpt⟩: ∃lj:List UInt8,l.c[lOff j]?=some (bs lj)/\lj.length<=1000000000000/\lOff j<6/\(zuk w.heap.size)[j]?=some (.pointer (some ⟨w.heap.size,lOff j,none⟩)):=by
    match j,hj5 with
    |0,_=>exact⟨l.box,rfl,hll.1,by decide,rfl⟩
    |1,_=>exact⟨l.sign,rfl,hll.2.1,by decide,rfl⟩
    |2,_=>exact⟨l.ident,rfl,hll.2.2.1,by decide,rfl⟩
    |3,_=>exact⟨l.parent,rfl,hll.2.2.2.1,by decide,rfl⟩
    |4,_=>exact⟨l.sig,rfl,hll.2.2.2.2,by decide,rfl⟩
   obtain⟨o,hoo⟩: ∃o,o=lOff j:=⟨_,rfl⟩
   rw[<-hoo]at hlj ho hpt
   clear hoo
   obtain⟨u,hu,hu1,hcu⟩: ∃u,(bs lj).at_ wr k' u/\u.oneCell'=true/\wr.cell? ⟨w.heap.size,o,none⟩=some u:=by
    have hoc:o<cur.toList.length:=by rw[Array.length_toList];omega
    have:=(RV.listAt_iff _ _).1 hlist |>.2 o _ cur.toList[o] hlj (List.getElem?_eq_getElem hoc)
    exact⟨_,this.2,this.1,by rw[cell_of_row wr _ o cur e (0,0) hc,<-Array.getElem?_toList];exact List.getElem?_eq_getElem hoc⟩
   have hcp:wr.cell? ⟨w.heap.size+1+1,j,none⟩=some (.pointer (some ⟨w.heap.size,o,none⟩)):=by
    rw[cell_of_row wr _ j _ e3 (0,0) hp];exact hpt
   obtain⟨p,rfl,hby⟩:=ze6 hu
   clear h5 hpt
   go_wp2_with fail
   refine(zpn p lj _ hby (by omega)).mono ?_
   rintro e' w1 ⟨v,rfl,hb,g1,hov⟩
   obtain⟨k1,hk1',hch⟩:=zfi (k:=k') hov
   have hvat:(bs lj).at_ w1 k1 v:=by
    obtain⟨_,h,_⟩:=hch
    exact h.sl
   have hv1:v.oneCell'=true:=by
    obtain⟨_,h,_⟩:=hch
    exact h.one
   have hsw:w.heap.size+2<wr.heap.size:=(Array.getElem?_eq_some_iff.1 hp).1
   have hle1:Le wr k' w1 k1:=Ext.le hb hk1'
   have hc1:w1.heap[w.heap.size]?=some (.cells cur e (0,0)):=(hb.block _ (by omega)).trans hc
   obtain⟨cur2,hcur2⟩: ∃cur2,cur2=(cur.toList.take o++[v]++cur.toList.drop (o+1)).toArray:=⟨_,rfl⟩
   obtain⟨W2,hW2⟩: ∃W2,W2=w1.setRow w.heap.size cur2:=⟨_,rfl⟩
   have hst:(storeCells ⟨w.heap.size,o,none⟩ [v]).run Tryz.prog w1= .ok () W2:=by
    rw[hW2,hcur2]
    exact run_storeCells_at Tryz.prog w.heap.size o e [v] 0 cur w1 hc1 (by simp;omega) (by simpa using hv1)
   have hc2:W2.heap[w.heap.size]?=some (.cells cur2 e (0,0)):=by rw[hW2];exact setRow_heap w1 _ cur _ e (0,0) hc1
   have hrest: ∀x,x≠w.heap.size->W2.heap[x]?=w1.heap[x]?:=λx hx=>by rw[hW2];exact setRow_other w1 _ x _ hx
   have hle2:Le w1 k1 W2 k1:=by
    refine(Wrote.le (ob:=some w.heap.size) ⟨by rw[hW2];rfl,by rw[hW2];rfl,by rw[hW2];rfl,by rw[hW2];simp[World.setRow],λx hx hne=>⟨hrest x λe=>hne (by rw[e]),rfl⟩,λx hx=>?_⟩)
    cases hx
    have:k1 w.heap.size=0:=(hk1' _ (by omega)).trans hk0
    exact⟨Nat.le_refl _,λo ho=>by omega,λh=>by omega⟩
   have hxf:Go.Proofs.YtfjkblpnbgfkeaaGreat.Ext w W2:=by
    refine⟨by rw[hW2];exact hb.os.trans hx.os,by rw[hW2];exact hb.tape.trans hx.tape,by rw[hW2];exact hb.output.trans hx.output,Nat.le_trans hx.size (Nat.le_trans hb.size hle2.size),λx hxx=>?_⟩
    rw[hrest x (by omega),hb.block x (by omega)]
    exact hx.block x hxx
   have hlist2:RV.listAt W2 k1 l.c cur2.toList:=by
    have h1:=RV.list_mono (hle1.trans hle2) _ _ hlist
    have h2:RV.listAt W2 k1 [bs lj] [v]:=by
     simp only[RV.listAt]
     exact⟨v,_,rfl,hv1,RV.mono hle2 _ _ hvat,rfl⟩
    have h3:l.c=l.c.take o++[bs lj]++l.c.drop (o+1):=by
     have hoc:o<l.c.length:=ho
     have h4:l.c[o]=bs lj:=by rw[List.getElem?_eq_getElem hoc]at hlj;exact Option.some.inj hlj
     rw[<-h4,List.append_assoc,List.singleton_append,<-List.drop_eq_getElem_cons hoc,List.take_append_drop]
    rw[h3,hcur2,List.toList_toArray]
    exact zbp (zbp (zcm h1 o) h2) (zdn h1 (o+1))
   have hz2':W2.heap[w.heap.size+1]?=some (.cells z e2 (0,0)):=by rw[hrest _ (by omega),hb.block _ (by omega)];exact hz2
   have hp':W2.heap[w.heap.size+2]?=some (.cells (zuk w.heap.size) e3 (0,0)):=by rw[hrest _ (by omega),hb.block _ (by omega)];exact hp
   clear hW2 hrest
   go_wp2_with fail
   rw[hst]
   go_wp2_with fail
   go_roundw
   case rel=>exact⟨j+1,k1,cur2,z,e,e2,e3,rfl,by omega,hxf,λb hb=>(hk1' b (by omega)).trans (hk b hb),hc2,(hk1' _ (by omega)).trans hk0,(hk1' _ (by omega)).trans hk1,hlist2,hz2',hzs,hp'⟩
   case measure=>(first |omega |(simp[intOf];done) |(simp[intOf];omega))
theorem zdf(l:Leaf)(hl:l.fit):zab Tryz.prog 65 [.ag l.c] (.r (.ag l.c)):=
 za7 (zaw Tryz.func65 rfl (by kernel_rfl)) λw k vs hp=>by
  obtain⟨a,rfl,h1⟩:=zfo hp
  simp only[RV.at_]at h1
  obtain⟨us,rfl,h2⟩:=h1
  exact zu8 l hl w k us h2
end
section
def znv(label text:List UInt8):List UInt8:=vecB (mlsB++label)++vecB text
theorem zp8(label:ByteArray)(text:List UInt8)(hl:label.size<=1048576)(ht:text.length<=1000000000):zab Tryz.prog 124 [Str label,bs text] (bch (znv (sB label) text)):=by
 refine zaa (T:=Tab) mixed Tab_ok Tryz.func124 rfl (by kernel_rfl) ?_
 have hd:=zo3 label
 have hsz:label.data.toList.length=label.size:=rfl
 have hml:mlsB.length=8:=rfl
 refine⟨by show 8+label.size<=_;omega,?_⟩
 refine⟨by rw[zrs];show 8+label.size<=_;omega,?_⟩
 refine Vcall.mk' (zbk [] ((⟨#[77,76,83,32,49,46,48,32]⟩:ByteArray)++label).data.toList (by simp) (by rw[hd,List.length_append];omega)) (zk (Cv.nil _) (zn _)) ?_
 rw[hd]
 have hv:=zal (mlsB++label.data.toList)
 rw[List.length_append]at hv
 refine ze (zbk ([]++vecB (mlsB++label.data.toList)) text (by simp only[List.length_append,List.length_nil];omega) (by omega)) ?_
 exact zdu (by simp[znv,sB])
def zul(seed label text:List UInt8):List UInt8:=sigB seed (znv label text)
theorem za4b(seed:List UInt8)(label:ByteArray)(text:List UInt8)(hs:seed.length=32)(hl:label.size<=1048576)(ht:text.length<=500000000):zab Tryz.prog 68 [bs seed,Str label,bs text] (.r (.tu [bs (zul seed (sB label) text),Er 0])):=by
 refine zaa (T:=Tab) mixed Tab_ok Tryz.func68 rfl (by kernel_rfl) ?_
 have hsz:(sB label).length=label.size:=rfl
 have hml:mlsB.length=8:=rfl
 have hv:=zal (mlsB++sB label)
 have hv2:=zal text
 rw[List.length_append]at hv
 refine ze (zp8 label text hl (by omega)) ?_
 refine ze (zdtb seed (znv (sB label) text) hs (by rw[znv,List.length_append];omega)) ?_
 exact⟨_,rfl,cr⟩
theorem zx1(seed:List UInt8)(label:ByteArray)(text:List UInt8)(hs:seed.length≠32)(hl:label.size<=1048576)(ht:text.length<=500000000):zab Tryz.prog 68 [bs seed,Str label,bs text] (.r (.tu [bs [],Er 1])):=by
 refine zaa (T:=Tab) mixed Tab_ok Tryz.func68 rfl (by kernel_rfl) ?_
 have hsz:(sB label).length=label.size:=rfl
 have hml:mlsB.length=8:=rfl
 have hv:=zal (mlsB++sB label)
 have hv2:=zal text
 rw[List.length_append]at hv
 refine ze (zp8 label text hl (by omega)) ?_
 refine ze (z01 seed (znv (sB label) text) hs) ?_
 exact⟨_,rfl,cr⟩
end
section
theorem Cvs.app: ∀{a b c d:List RV},Cvs a b->Cvs c d->Cvs (a++c) (b++d)
 |[],b,c,d,h,h'=>by simp only[Cvs]at h;subst h;exact h'
 |x::a,b,c,d,h,h'=>by
  simp only[Cvs]at h
  obtain⟨g,r,rfl,h1,h2⟩:=h
  exact zk h1 (Cvs.app h2 h')
def u64N(n:Int):Nat:=(n%18446744073709551616).toNat
theorem z52(x:Int)(h:i64 x):IntKind.u64.wrap x=((u64N x:Nat):Int):=by
 unfold i64 at h
 unfold IntKind.wrap u64N
 simp only[IntKind.bits,IntKind.signed]
 simp
 omega
def zib(l:Leaf)(group:List UInt8)(at_:Int):List UInt8:=if l.src.toNat=1 then zbn l else zbn l++vecB group++beB 4 (u64N at_)
def zfq(l:Leaf)(at_:Int):Bool:=decide (l.src.toNat=1)||(decide (0<=at_)&&decide (at_<65536))
theorem zso(l:Leaf):(zbn l).length<=l.box.length+l.sign.length+l.ident.length+l.parent.length+17:=by
 have v1:=zal l.box
 have v2:=zal l.sign
 have v3:=zal l.ident
 have v4:=zal l.parent
 unfold zbn
 split<;>simp only[List.length_append,List.length_cons,List.length_nil]<;>omega
theorem z83(l:Leaf)(group:List UInt8)(at_:Int):(zib l group at_).length<=l.box.length+l.sign.length+l.ident.length+l.parent.length+group.length+25:=by
 have h:=zso l
 have v:=zal group
 have b:=za0 4 (u64N at_)
 unfold zib
 split
 ·omega
 ·simp only[List.length_append]
  omega
theorem zdvb(l:Leaf)(group:List UInt8)(at_:Int)(hl:l.fit)(hg:group.length<=1000000000)(ha:i64 at_):zab Tryz.prog 67 [.ag l.c,bs group,I at_] (.r (.tu [bs (zib l group at_), .b (zfq l at_)])):=by
 refine zaa (T:=Tab) mixed Tab_ok Tryz.func67 rfl (by kernel_rfl) ?_
 obtain⟨h1,h2,h3,h4,h5⟩:=hl
 have hA:=zso l
 have hv:=zal group
 refine za rfl rfl ?_
 refine Vcall.mk' (zp6 [] l (by simp) ⟨h1,h2,h3,h4,h5⟩) (zk (Cv.nil _) (zn _)) ?_
 rw[List.nil_append]
 refine zh (λh=>zp ?_) (λh=>zq ?_)
 ·simp only[zb]at h
  have h':l.src.toNat=1:=by omega
  have e1:zib l group at_=zbn l:=if_pos h'
  have e2:zfq l at_=true:=by simp[zfq,h']
  rw[e1,e2]
  exact⟨_,rfl,cr⟩
 ·simp only[zb]at h
  have h':l.src.toNat≠1:=by omega
  have e1:zib l group at_=zbn l++vecB group++beB 4 (u64N at_):=if_neg h'
  have e2:zfq l at_=(decide (0<=at_)&&decide (at_<65536)):=by simp[zfq,h']
  refine ze (zbk (zbn l) group (by omega) (by omega)) ?_
  refine Vint.n ((u64N at_:Nat):Int) (z52 at_ ha).symm ?_
  refine ze (ziq (zbn l++vecB group) 4 (u64N at_) (by rw[List.length_append];omega) (.inr (.inr (.inl rfl)))) ?_
  rw[e1,e2]
  refine zh (λh0=>?_) (λh0=>?_)
  ·simp only[zb]at h0
   have h0':0<=at_:=h0
   refine Vcmp.mk' (m:=decide (at_<65536)) rfl ?_
   exact⟨_,rfl,zf (by rw[decide_eq_true h0'];rfl)⟩
  ·simp only[zb]at h0
   have h0': ¬0<=at_:=h0
   exact⟨_,rfl,zf (by rw[decide_eq_false h0'];rfl)⟩
def zS64:List UInt8:=List.replicate 64 0
def zflb:List UInt8:=[76,101,97,102,78,111,100,101,84,66,83]
def Leaf.with(l:Leaf)(s:List UInt8):Leaf:={l with sig:=s}
def zfu(l:Leaf)(seed:List UInt8)(at_:Int):Nat:=if(l.with zS64).right=true then if zfq l at_=true then if seed.length=32 then 0 else 1 else 1 else 3
def slOk(l:Leaf)(seed group:List UInt8)(at_:Int):Leaf:=l.with (zul seed zflb (zib l group at_))
def zjl(l:Leaf)(seed group:List UInt8)(at_:Int):RV:=if zfu l seed at_=0 then .tu [.ag (slOk l seed group at_).c,Er 0]else .tu [.ag zl.c,Er (zfu l seed at_)]
theorem zsk:Cv (.ag [.x (.slice none 0 0), .x (.slice none 0 0), .x (.slice none 0 0), .i .u8 0, .x (.slice none 0 0), .x (.slice none 0 0)]) (.ag zl.c):=Cv.ag (zk (Cv.nil 1) (zk (Cv.nil 1) (zk (Cv.nil 1) (zk (cr) (zk (Cv.nil 1) (zk (Cv.nil 1) Cvs.nil))))))
theorem zly:(List.replicate ((64:Int).toNat) ([Value.int .u8 0].map ofC)).flatten=zS64.map U8:=by simp[ofC,zS64]
abbrev lsS:ByteArray:=⟨#[76,101,97,102,78,111,100,101,84,66,83]⟩
section
variable (l:Leaf) (z seed group:List UInt8) (at_:Int) (hl:l.fit) (hz:zS64=z)
include hl hz
set_option maxRecDepth 100000 in
theorem z4i(hr:(l.with z).right=false):zab Tryz.prog 28 [.ag l.c,bs seed,bs group,I at_] (.r (.tu [.ag zl.c,Er 3])):=by
 refine zaa (T:=Tab) mixed Tab_ok Tryz.func28 rfl (by kernel_rfl) ?_
 have hzl:64=z.length:=by rw[<-hz];decide
 refine za rfl rfl ?_
 refine ze (zdf l hl) ?_
 refine⟨rfl,by decide,by decide,by decide,z.length,z.map U8,hzl,by rw[zly,hz],zw ?_⟩
 refine za rfl rfl ?_
 refine zy (zj9 (l.with z)) (λhr'=>absurd hr' (by rw[hr];simp)) (λ_=>zt rfl (zp ?_))
 refine za rfl rfl ?_
 exact⟨_,rfl,Cv.tu (zk zsk (zn _))⟩
variable (T:List UInt8) (β:Bool) (hr:(l.with z).right=true) (hT:zab Tryz.prog 67 [.ag (l.with z).c,bs group,I at_] (.r (.tu [bs T, .b β])))
include hr hT
set_option maxRecDepth 100000 in
theorem z7j(hβ:β=false):zab Tryz.prog 28 [.ag l.c,bs seed,bs group,I at_] (.r (.tu [.ag zl.c,Er 1])):=by
 subst hβ
 refine zaa (T:=Tab) mixed Tab_ok Tryz.func28 rfl (by kernel_rfl) ?_
 have hzl:64=z.length:=by rw[<-hz];decide
 refine za rfl rfl ?_
 refine ze (zdf l hl) ?_
 refine⟨rfl,by decide,by decide,by decide,z.length,z.map U8,hzl,by rw[zly,hz],zw ?_⟩
 refine za rfl rfl ?_
 refine zy (zj9 (l.with z)) (λ_=>zu rfl (zq ?_)) (λhr'=>absurd hr' (by rw[hr];simp))
 refine za rfl rfl ?_
 refine ze hT ?_
 refine zt rfl (zp ?_)
 refine za rfl rfl ?_
 exact⟨_,rfl,Cv.tu (zk zsk (zn _))⟩
set_option maxRecDepth 100000 in
theorem z7k(q:List UInt8)(e:Nat)(hβ:β=true)(hq:zab Tryz.prog 68 [bs seed,Str lsS,bs T] (.r (.tu [bs q,Er e])))(he:e=1):zab Tryz.prog 28 [.ag l.c,bs seed,bs group,I at_] (.r (.tu [.ag zl.c,Er 1])):=by
 subst hβ;subst he
 refine zaa (T:=Tab) mixed Tab_ok Tryz.func28 rfl (by kernel_rfl) ?_
 have hzl:64=z.length:=by rw[<-hz];decide
 refine za rfl rfl ?_
 refine ze (zdf l hl) ?_
 refine⟨rfl,by decide,by decide,by decide,z.length,z.map U8,hzl,by rw[zly,hz],zw ?_⟩
 refine za rfl rfl ?_
 refine zy (zj9 (l.with z)) (λ_=>zu rfl (zq ?_)) (λhr'=>absurd hr' (by rw[hr];simp))
 refine za rfl rfl ?_
 refine ze hT ?_
 refine zu rfl (zq ?_)
 refine ze hq ?_
 refine zt rfl (zp ?_)
 refine za rfl rfl ?_
 exact⟨_,rfl,Cv.tu (zk zsk (zn _))⟩
set_option maxRecDepth 100000 in
theorem zbdb(q:List UInt8)(hβ:β=true)(hq:zab Tryz.prog 68 [bs seed,Str lsS,bs T] (.r (.tu [bs q,Er 0]))):zab Tryz.prog 28 [.ag l.c,bs seed,bs group,I at_] (.r (.tu [.ag (l.with q).c,Er 0])):=by
 subst hβ
 refine zaa (T:=Tab) mixed Tab_ok Tryz.func28 rfl (by kernel_rfl) ?_
 have hzl:64=z.length:=by rw[<-hz];decide
 refine za rfl rfl ?_
 refine ze (zdf l hl) ?_
 refine⟨rfl,by decide,by decide,by decide,z.length,z.map U8,hzl,by rw[zly,hz],zw ?_⟩
 refine za rfl rfl ?_
 refine zy (zj9 (l.with z)) (λ_=>zu rfl (zq ?_)) (λhr'=>absurd hr' (by rw[hr];simp))
 refine za rfl rfl ?_
 refine ze hT ?_
 refine zu rfl (zq ?_)
 refine ze hq ?_
 refine zu rfl (zq ?_)
 refine za rfl rfl ?_
 refine za rfl rfl ?_
 exact⟨_,rfl,cr⟩
end
theorem zp9(l:Leaf)(seed group:List UInt8)(at_:Int)(hl:l.fit)(hg:group.length<=100000000)(hb:l.box.length+l.sign.length+l.ident.length+l.parent.length<=100000000)(ha:i64 at_):
  zab Tryz.prog 28 [.ag l.c,bs seed,bs group,I at_] (.r (zjl l seed group at_)):=by
 have hl':=hl
 obtain⟨h1,h2,h3,h4,h5⟩:=hl'
 have hf:(l.with zS64).fit:=⟨h1,h2,h3,h4,by show zS64.length<=_;decide⟩
 have ht:=z83 l group at_
 have hT:zab Tryz.prog 67 [.ag (l.with zS64).c,bs group,I at_] (.r (.tu [bs (zib l group at_), .b (zfq l at_)])):=zdvb (l.with zS64) group at_ hf (by omega) ha
 have herr: ∀e:Nat,zfu l seed at_=e->e≠0->zjl l seed group at_= .tu [.ag zl.c,Er e]:=λe h h0=>by rw[zjl,h,if_neg h0]
 cases hr:(l.with zS64).right with
 |false=>
  rw[herr 3 (by unfold zfu;rw[if_neg (by rw[hr];simp)]) (by decide)]
  exact z4i l zS64 seed group at_ hl rfl hr
 |true=>
  cases ho:zfq l at_ with
  |false=>
   rw[herr 1 (by unfold zfu;rw[if_pos hr,if_neg (by rw[ho];simp)]) (by decide)]
   exact z7j l zS64 seed group at_ hl rfl _ _ hr hT ho
  |true=>
   by_cases hs:seed.length=32
   ·have hS:zjl l seed group at_= .tu [.ag (slOk l seed group at_).c,Er 0]:=by
     have:zfu l seed at_=0:=by unfold zfu;rw[if_pos hr,if_pos ho,if_pos hs]
     rw[zjl,if_pos this]
    rw[hS]
    exact zbdb l zS64 seed group at_ hl rfl _ _ hr hT _ ho (za4b seed lsS (zib l group at_) hs (by decide) (by omega))
   ·rw[herr 1 (by unfold zfu;rw[if_pos hr,if_pos ho,if_neg hs]) (by decide)]
    exact z7k l zS64 seed group at_ hl rfl _ _ hr hT _ _ ho (zx1 seed lsS (zib l group at_) hs (by decide) (by omega)) rfl
end
section
open Ieee
def fw(s:Bool)(n:Nat):Nat:=double.nearest s n 0
def fl(n:Int):Nat:=fw (decide (n<0)) n.natAbs
end
section
abbrev C2(a b:Int):RV:= .x (.complex .f64 (fl a) (fl b))
abbrev F1(a:Int):RV:= .x (.float .f64 (fl a))
section
variable {P:Program} {T:TT} {S:St} {o:Oper} {K:RV->Prop}
end
end
section
instance {h k:Nat}{x:Int}:Decidable (inR h k x):=by unfold inR;infer_instance
section
variable {s:Lean_} {d o i:Nat} {h0:List UInt8}
end
end
section
abbrev d3r(t:D3):List RV:=[I t.at_,I t.lo,I t.hi]
def ds(l:List D3):RV:= .sl 3 l.length (l.flatMap d3r)
end
section
theorem zhw{α:Type}{l:List α}{j:Nat}(hj:j<l.length):l.take (j+1)=l.take j++[l[j]]:=by
 rw[List.take_add_one,List.getElem?_eq_getElem hj];rfl
end
section
def nods(l:List Node):RV:= .sl 10 l.length (l.flatMap Node.c)
theorem zbgb{l:List Node}{i:Int}{j:Nat}(h:i=j)(hj:j<l.length):((l.flatMap Node.c).drop (i.toNat*10)).take 10=l[j].c:=zd4 (f:=Node.c) (sz:=10) (λ_=>rfl) h hj
def nT(t:List Node)(j:Nat):Node:=t.getD j Node.zero
theorem z9p{t:List Node}{j:Nat}(hj:j<t.length):t[j]=nT t j:=by simp[nT,hj]
theorem zkg{t:List Node}{j:Nat}(hj:j<t.length):nT t j∈t:=z9p hj▸List.getElem_mem hj
theorem zqd{l:List Node}{i:Int}{j:Nat}(h:i=j)(hj:j<l.length):((l.flatMap Node.c).drop (i.toNat*10)).take 10=(nT l j).c:=by rw[<-z9p hj];exact zbgb h hj
end
section
abbrev z5:Fe:=⟨0,0,0,0,0⟩
structure Lad where
 px:Fe
 pz:Fe
 qx:Fe
 qz:Fe
def Lad.next(b:Bool)(u:Fe)(s:Lad):Lad:=
 match b with
 |true=>⟨(zdw s.qx s.qz s.px s.pz u).2.1,(zdw s.qx s.qz s.px s.pz u).2.2,(zdw s.qx s.qz s.px s.pz u).1.1,(zdw s.qx s.qz s.px s.pz u).1.2⟩
 |false=>⟨(zdw s.px s.pz s.qx s.qz u).1.1,(zdw s.px s.pz s.qx s.qz u).1.2,(zdw s.px s.pz s.qx s.qz u).2.1,(zdw s.px s.pz s.qx s.qz u).2.2⟩
def ladN(k:List UInt8)(u:Fe):Nat->Lad
 |0=>⟨one,z5,u,one⟩
 |j+1=>(ladN k u j).next (bitE k (254-j)==1) u
theorem z4p(k:List UInt8)(u:Fe):ladN k u 0=⟨one,z5,u,one⟩:=rfl
theorem ztc(k:List UInt8)(u:Fe)(j:Nat):ladN k u (j+1)=(ladN k u j).next (bitE k (254-j)==1) u:=rfl
attribute [irreducible] ladN
def znp(k:List UInt8)(u:Fe):List UInt8:=((ladN k u 255).px.mul (ladN k u 255).pz.inv).bytes
abbrev pbx(x z:Fe):Ow:= .box [.r (W x.a), .r (W x.b), .r (W x.c), .r (W x.d), .r (W x.e), .r (W z.a), .r (W z.b), .r (W z.c), .r (W z.d), .r (W z.e)]
def ladI(k:List UInt8)(u:Fe)(j:Nat):St:={F:=[(0, .r (bs k)),(3, .own 0),(5, .own 1),(6, .own 2),(7, .r (I ((254-j:Nat):Int)))],O:=[(0,some u.bx),(1,some (pbx (ladN k u j).px (ladN k u j).pz)),(2,some (pbx (ladN k u j).qx (ladN k u j).qz))],nx:=3}
theorem zwr(k:List UInt8)(u:Fe){b:Bool}(h:ladN k u (254+1)=(ladN k u 254).next b u){e:TypeId}:some (Ow.ch e 1 (((((ladN k u 254).next b u).px).mul (((ladN k u 254).next b u).pz).inv).bytes).length ((((((ladN k u 254).next b u).px).mul (((ladN k u 254).next b u).pz).inv).bytes).map U8) true)=some (Ow.ch e 1 (znp k u).length ((znp k u).map U8) true):=by
 rw[<-h]
 rfl
set_option maxHeartbeats 4000000 in
theorem z4d(k:List UInt8)(u:Fe)(hk:k.length=32):zab Tryz.prog 92 [bs k, .ag u.v] (bch (znp k u)):=by
 refine zaa (T:=Tab) mixed Tab_ok Tryz.func92 rfl (by kernel_rfl) ?_
 refine Vcode.scope mixed Tab_ok 0 (ladI k u) (λj=>j<=254) (λj=>254-j) rfl ?_ ?_
 ·refine Vdraw.mk' (by kernel_rfl) ?_
  refine ze zk2 ?_
  refine za rfl rfl ?_
  refine ze zk2 ?_
  repeat' ((conv=>whnf);first |refine za rfl rfl ?_)
  refine Vquo.i64 254 8 rfl rfl (by omega) (by omega) ?_
  refine zm (by omega) (by omega) rfl (zg (f:=U8 (k.getD (254/8) 0)) (znh (by omega)) ?_)
  refine Vrem.nat 254 8 rfl rfl (by omega) ?_
  refine Vshr.b _ (254%8) rfl rfl (by omega) ?_
  refine Vbits.and8 _ 1 rfl rfl ?_
  have hs:=ztc k u 0
  rw[z4p]at hs
  refine zh (λh=>zp ?_) (λh=>zq ?_)
  ·have hb:(bitE k (254-0)==1)=true:=by rw[beq_iff_eq];exact znd h
   rw[hb]at hs
   refine za rfl rfl ?_
   refine za rfl rfl ?_
   refine za rfl rfl ?_
   refine ze (zqa u one one z5 u) ?_
   refine zd (m:=253) rfl (by decide) ?_
   refine zt rfl (zp ?_)
   exact⟨1,by decide,zac [(0,0),(1,1),(2,2)] rfl ⟨cr,rfl,rfl,rfl,cr,trivial⟩ ⟨⟨_,_,rfl,cr,_,_,rfl,cr,_,_,rfl,cr,_,_,rfl,cr,_,_,rfl,cr,rfl⟩,by rw[hs];exact⟨_,_,rfl,cr,_,_,rfl,cr,_,_,rfl,cr,_,_,rfl,cr,_,_,rfl,cr,_,_,rfl,cr,_,_,rfl,cr,_,_,rfl,cr,_,_,rfl,cr,_,_,rfl,cr,rfl⟩,by rw[hs];exact⟨_,_,rfl,cr,_,_,rfl,cr,_,_,rfl,cr,_,_,rfl,cr,_,_,rfl,cr,_,_,rfl,cr,_,_,rfl,cr,_,_,rfl,cr,_,_,rfl,cr,_,_,rfl,cr,rfl⟩,trivial⟩⟩
  ·have hb:(bitE k (254-0)==1)=false:=by rw[beq_eq_false_iff_ne];exact zkr h
   rw[hb]at hs
   refine za rfl rfl ?_
   refine za rfl rfl ?_
   refine za rfl rfl ?_
   refine ze (zqa one z5 u one u) ?_
   refine zd (m:=253) rfl (by decide) ?_
   refine zt rfl (zp ?_)
   exact⟨1,by decide,zac [(0,0),(1,1),(2,2)] rfl ⟨cr,rfl,rfl,rfl,cr,trivial⟩ ⟨⟨_,_,rfl,cr,_,_,rfl,cr,_,_,rfl,cr,_,_,rfl,cr,_,_,rfl,cr,rfl⟩,by rw[hs];exact⟨_,_,rfl,cr,_,_,rfl,cr,_,_,rfl,cr,_,_,rfl,cr,_,_,rfl,cr,_,_,rfl,cr,_,_,rfl,cr,_,_,rfl,cr,_,_,rfl,cr,_,_,rfl,cr,rfl⟩,by rw[hs];exact⟨_,_,rfl,cr,_,_,rfl,cr,_,_,rfl,cr,_,_,rfl,cr,_,_,rfl,cr,_,_,rfl,cr,_,_,rfl,cr,_,_,rfl,cr,_,_,rfl,cr,_,_,rfl,cr,rfl⟩,trivial⟩⟩
 ·intro J hj
  refine Vquo.i64 (254-J) 8 rfl rfl (by omega) (by omega) ?_
  refine zm (by omega) (by omega) rfl (zg (f:=U8 (k.getD ((254-J)/8) 0)) (znh (by omega)) ?_)
  refine Vrem.nat (254-J) 8 rfl rfl (by omega) ?_
  refine Vshr.b _ ((254-J)%8) rfl rfl (by omega) ?_
  refine Vbits.and8 _ 1 rfl rfl ?_
  have hs:=ztc k u J
  refine zh (λh=>zp ?_) (λh=>zq ?_)
  ·have hb:(bitE k (254-J)==1)=true:=by rw[beq_iff_eq];exact znd h
   rw[hb]at hs
   refine za rfl rfl ?_
   refine za rfl rfl ?_
   refine za rfl rfl ?_
   refine ze (zqa (ladN k u J).qx (ladN k u J).qz (ladN k u J).px (ladN k u J).pz u) ?_
   refine zd (m:=((254-J:Nat):Int)-1) rfl (by omega) ?_
   refine zh (λh=>zp ?_) (λh=>zq ?_)
   ·simp only[zb]at h
    exact⟨J+1,by omega,by omega,zac [(0,0),(1,1),(2,2)] rfl ⟨cr,rfl,rfl,rfl,zf (by congr 1;omega),trivial⟩ ⟨⟨_,_,rfl,cr,_,_,rfl,cr,_,_,rfl,cr,_,_,rfl,cr,_,_,rfl,cr,rfl⟩,by rw[hs];exact⟨_,_,rfl,cr,_,_,rfl,cr,_,_,rfl,cr,_,_,rfl,cr,_,_,rfl,cr,_,_,rfl,cr,_,_,rfl,cr,_,_,rfl,cr,_,_,rfl,cr,_,_,rfl,cr,rfl⟩,by rw[hs];exact⟨_,_,rfl,cr,_,_,rfl,cr,_,_,rfl,cr,_,_,rfl,cr,_,_,rfl,cr,_,_,rfl,cr,_,_,rfl,cr,_,_,rfl,cr,_,_,rfl,cr,_,_,rfl,cr,rfl⟩,trivial⟩⟩
   ·simp only[zb]at h
    obtain rfl:J=254:=by omega
    refine Vdraw.mk' (by kernel_rfl) ?_
    refine za rfl rfl ?_
    refine za rfl rfl ?_
    refine ze (zni (zdw (ladN k u 254).qx (ladN k u 254).qz (ladN k u 254).px (ladN k u 254).pz u).2.2) ?_
    refine ze (zb1 (zdw (ladN k u 254).qx (ladN k u 254).qz (ladN k u 254).px (ladN k u 254).pz u).2.1 (zdw (ladN k u 254).qx (ladN k u 254).qz (ladN k u 254).px (ladN k u 254).pz u).2.2.inv) ?_
    refine ze (zry _) ?_
    exact zwr k u hs
  ·have hb:(bitE k (254-J)==1)=false:=by rw[beq_eq_false_iff_ne];exact zkr h
   rw[hb]at hs
   refine za rfl rfl ?_
   refine za rfl rfl ?_
   refine za rfl rfl ?_
   refine ze (zqa (ladN k u J).px (ladN k u J).pz (ladN k u J).qx (ladN k u J).qz u) ?_
   refine zd (m:=((254-J:Nat):Int)-1) rfl (by omega) ?_
   refine zh (λh=>zp ?_) (λh=>zq ?_)
   ·simp only[zb]at h
    exact⟨J+1,by omega,by omega,zac [(0,0),(1,1),(2,2)] rfl ⟨cr,rfl,rfl,rfl,zf (by congr 1;omega),trivial⟩ ⟨⟨_,_,rfl,cr,_,_,rfl,cr,_,_,rfl,cr,_,_,rfl,cr,_,_,rfl,cr,rfl⟩,by rw[hs];exact⟨_,_,rfl,cr,_,_,rfl,cr,_,_,rfl,cr,_,_,rfl,cr,_,_,rfl,cr,_,_,rfl,cr,_,_,rfl,cr,_,_,rfl,cr,_,_,rfl,cr,_,_,rfl,cr,rfl⟩,by rw[hs];exact⟨_,_,rfl,cr,_,_,rfl,cr,_,_,rfl,cr,_,_,rfl,cr,_,_,rfl,cr,_,_,rfl,cr,_,_,rfl,cr,_,_,rfl,cr,_,_,rfl,cr,_,_,rfl,cr,rfl⟩,trivial⟩⟩
   ·simp only[zb]at h
    obtain rfl:J=254:=by omega
    refine Vdraw.mk' (by kernel_rfl) ?_
    refine za rfl rfl ?_
    refine za rfl rfl ?_
    refine ze (zni (zdw (ladN k u 254).px (ladN k u 254).pz (ladN k u 254).qx (ladN k u 254).qz u).1.2) ?_
    refine ze (zb1 (zdw (ladN k u 254).px (ladN k u 254).pz (ladN k u 254).qx (ladN k u 254).qz u).1.1 (zdw (ladN k u 254).px (ladN k u 254).pz (ladN k u 254).qx (ladN k u 254).qz u).1.2.inv) ?_
    refine ze (zry _) ?_
    exact zwr k u hs
attribute [irreducible] znp
end
section
def inB(k:List UInt8)(w:UInt8)(i:Nat):List UInt8:=(List.range i).map λj=>k.getD j 0^^^w
theorem zk5(k:List UInt8)(w:UInt8)(i:Nat):inB k w (i+1)=inB k w i++[k.getD i 0^^^w]:=by simp[inB,List.range_succ]
theorem zy8(k:List UInt8)(w:UInt8)(i:Nat):(inB k w i).length=i:=by simp[inB]
def ze1b(k text:List UInt8):Nat->St
 |0=>{F:=[(0, .r (bs k)),(1, .r (bs text)),(5, .r (.x (.slice none 0 0))),(6, .r (.x (.slice none 0 0))),(7, .r (I ((0:Nat):Int)))],O:=[],nx:=0}
 |i+1=>{F:=[(0, .r (bs k)),(1, .r (bs text)),(5, .own 0),(6, .own 1),(7, .r (I ((i+1:Nat):Int)))],O:=[(0,some (.ch 5 1 (i+1) ((inB k 54 (i+1)).map U8) true)),(1,some (.ch 5 1 (i+1) ((inB k 92 (i+1)).map U8) true))],nx:=2}
theorem zyx(key text:List UInt8)(hk:key.length<=1000000000)(ht:text.length<=10000000000):zab Tryz.prog 90 [bs key,bs text] (bch (macB key text)):=by
 refine zaa (T:=Tab) mixed Tab_ok Tryz.func90 rfl (by kernel_rfl) ?_
 refine zh (λh=>zp ?a) (λh=>zq ?b)
 case' a=>
  simp only[zb]at h
  have hx:shaB key=keyB key:=by unfold keyB;rw[if_pos (by omega)]
  refine ze (zk0 key (by omega)) ?_
  rw[hx]
 case' b=>
  simp only[zb]at h
  have hx:key=keyB key:=by unfold keyB;rw[if_neg (by omega)]
 all_goals
  have hkl:=zzb key
  refine zx (ze1b (keyB key) text) (λi=>i<=64) (λi=>64-i) 0 (by omega) (zac [] rfl ⟨(by first |exact cr |exact zf (by rw[<-hx])),cr,cr,cr,cr,trivial⟩ trivial) ?_
  have hmac:macB key text=shaB (inB (keyB key) 92 64++shaB (inB (keyB key) 54 64++text)):=rfl
  generalize keyB key=kk at*
  intro i hi
  rcases i with _ |i
  ·refine zt rfl (zp ?_)
   refine zh (λh2=>zp ?_) (λh2=>zq ?_)
   all_goals
    simp only[zb]at h2
    obtain⟨x,hx2⟩: ∃x,kk.getD 0 0=x:=⟨_,rfl⟩
    first
    |(
      have hl:0<kk.length:=by omega
      have hx3:kk[0]=x:=by rw[<-hx2];simp[List.getD,hl]
      refine zm (by omega) (by omega) (zak (j:=0) rfl hl) (zg rfl ?_)
      rw[hx3]
      refine Vbits.xor8 x 54 rfl rfl (zw ?_))
    |(
      have hx3:x=0:=by rw[<-hx2];simp[List.getD,List.getElem?_eq_none (show kk.length<=0 by omega)]
      refine Vbits.xor8 x 54 (by rw[hx3];rfl) rfl (zw ?_))
    refine Vapp.mk' (j:=0+1) (zs:=(inB kk 54 (0+1)).map U8) (by decide) (by decide) rfl (by rw[zk5 kk 54 0,hx2];rfl) ?_
    refine Vbits.xor8 x 92 (by first |rfl |(rw[hx3];rfl)) rfl (zw ?_)
    refine Vapp.mk' (j:=0+1) (zs:=(inB kk 92 (0+1)).map U8) (by decide) (by decide) rfl (by rw[zk5 kk 92 0,hx2];rfl) ?_
    refine zd (m:=((0+1:Nat):Int)) (by omega) (by omega) ?_
    exact⟨0+1,by omega,by omega,zac [(0,1),(1,3)] rfl ⟨cr,cr,rfl,rfl,cr,trivial⟩ ⟨⟨rfl,rfl,rfl,rfl,zn _⟩,⟨rfl,rfl,rfl,rfl,zn _⟩,trivial⟩⟩
  ·refine zh (λh=>zp ?_) (λh=>zq ?_)
   ·simp only[zb]at h
    refine zh (λh2=>zp ?_) (λh2=>zq ?_)
    all_goals
     simp only[zb]at h2
     obtain⟨x,hx2⟩: ∃x,kk.getD (i+1) 0=x:=⟨_,rfl⟩
     first
     |(
       have hl:i+1<kk.length:=by omega
       have hx3:kk[i+1]=x:=by rw[<-hx2];simp[List.getD,hl]
       refine zm (by omega) (by omega) (zak (j:=i+1) rfl hl) (zg rfl ?_)
       rw[hx3]
       refine Vbits.xor8 x 54 rfl rfl (zw ?_))
     |(
       have hx3:x=0:=by rw[<-hx2];simp[List.getD,List.getElem?_eq_none (show kk.length<=i+1 by omega)]
       refine Vbits.xor8 x 54 (by rw[hx3];rfl) rfl (zw ?_))
     refine Vapp.mk' (j:=i+1+1) (zs:=(inB kk 54 (i+1+1)).map U8) (by simp[maxLen];omega) (by simp;omega) rfl (by rw[zk5 kk 54 (i+1),hx2,List.map_append];rfl) ?_
     refine Vbits.xor8 x 92 (by first |rfl |(rw[hx3];rfl)) rfl (zw ?_)
     refine Vapp.mk' (j:=i+1+1) (zs:=(inB kk 92 (i+1+1)).map U8) (by simp[maxLen];omega) (by simp;omega) rfl (by rw[zk5 kk 92 (i+1),hx2,List.map_append];rfl) ?_
     refine zd (m:=((i+1+1:Nat):Int)) (by omega) (by omega) ?_
     exact⟨i+1+1,by omega,by omega,zac [(0,3),(1,5)] rfl ⟨cr,cr,rfl,rfl,cr,trivial⟩ ⟨⟨rfl,rfl,rfl,rfl,zn _⟩,⟨rfl,rfl,rfl,rfl,zn _⟩,trivial⟩⟩
   ·simp only[zb]at h
    obtain rfl:i=63:=by omega
    have h5:=zy8 kk 54 64
    have h9:=zy8 kk 92 64
    refine Vapp.mk' (j:=(inB kk 54 64++text).length) (zs:=(inB kk 54 64++text).map U8) (by simp[maxLen];omega) (by simp;omega) (by simp[h5]) (by simp) ?_
    refine ze (zk0 (inB kk 54 64++text) (by simp[h5];omega)) ?_
    refine Vapp.mk' (j:=(inB kk 92 64++shaB (inB kk 54 64++text)).length) (zs:=(inB kk 92 64++shaB (inB kk 54 64++text)).map U8) (by simp[maxLen,zc2]) (by simp[zc2]) (by simp[h9]) (by simp) ?_
    refine ze (zk0 (inB kk 92 64++shaB (inB kk 54 64++text)) (by simp[h9,zc2])) ?_
    exact zdu (by rw[hmac])
end
end Go.Proofs.YtfjkblpnbgfkeaaGreat.Sx
