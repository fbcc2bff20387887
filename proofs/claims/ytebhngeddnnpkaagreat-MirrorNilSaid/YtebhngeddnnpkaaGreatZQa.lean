import Derived.Test.YtebhngeddnnpkaaGreatZKg
import Derived.Test.YtebhngeddnnpkaaGreatZWire
import Derived.Shelf.RegionOpenPlain
import Derived.Lib.Walk
import Derived.Lib.SliceRun
import Derived.Lib.Overlaps
import Derived.Laws.Externs
import Derived.Laws.IdiomCopy
import Derived.Lib.AppendZerosOnto
import Derived.Laws.NewBlocks
import Derived.Test.YtebhngeddnnpkaaGreatZMe
namespace Go.Proofs.YtebhngeddnnpkaaGreat.Sx
open Go.RowKit
set_option linter.unusedVariables false
section
def lOff:Nat->Nat
 |0=>0 |1=>1 |2=>2 |3=>4 |_=>5
def zqa(b:Nat):Array Value:= #[.pointer (some ⟨b,0,none⟩), .pointer (some ⟨b,1,none⟩), .pointer (some ⟨b,2,none⟩), .pointer (some ⟨b,4,none⟩), .pointer (some ⟨b,5,none⟩)]
def z9g(l:Leaf)(w:World)(k:Kp)(t:Value)(wr:World):Prop:=
 ∃(j:Nat) (k':Kp) (cur z:Array Value) (e e2 e3:TypeId),t= .int .i64 j/\j<=5/\Go.Proofs.YtebhngeddnnpkaaGreat.Ext w wr/\(∀b,b<w.heap.size->k' b=k b)/\wr.heap[w.heap.size]?=some (.cells cur e (0,0))/\k' w.heap.size=0/\k' (w.heap.size+1)=0/\
  RV.listAt wr k' l.c cur.toList/\wr.heap[w.heap.size+1]?=some (.cells z e2 (0,0))/\z.size=6/\wr.heap[w.heap.size+2]?=some (.cells (zqa w.heap.size) e3 (0,0))
theorem zqp(l:Leaf)(hl:l.fit)(w:World)(k:Kp)(us:Array Value)(hus:RV.listAt w k l.c us.toList):
  Calls Tryz.prog 140 #[.agg us] w (Ret w λw' v=>∃k':Kp,(∀b,b<w.heap.size->k' b=k b)/\(RV.ag l.c).at_ w' k' v):=by
 have hz:us.size=6:=by rw[<-Array.length_toList];exact zaq hus
 go_enter Tryz.func140,Tryz.ntmps140
 go_wp2_with fail
 go_loopw [12] (λt wr=>z9g l w k t wr) (λt _=>(5-intOf t).toNat)
 case atStart=>
  have f1: ∀o1 o2 o3:Obj,(((w.alloc o1).alloc o2).alloc o3).heap[w.heap.size]?=some o1:=λo1 o2 o3=>by
   rw[Below.heap_alloc _ _ _ (by simp;omega),Below.heap_alloc _ _ _ (by simp),heap_alloc_new]
  have f2: ∀o1 o2 o3:Obj,(((w.alloc o1).alloc o2).alloc o3).heap[w.heap.size+1]?=some o2:=λo1 o2 o3=>by
   rw[Below.heap_alloc _ _ _ (by simp)]
   have:=heap_alloc_new (w.alloc o1) o2
   rwa[zix]at this
  have f3: ∀o1 o2 o3:Obj,(((w.alloc o1).alloc o2).alloc o3).heap[w.heap.size+2]?=some o3:=λo1 o2 o3=>by
   have:=heap_alloc_new ((w.alloc o1).alloc o2) o3
   rwa[zix,zix]at this
  have hx:Go.Proofs.YtebhngeddnnpkaaGreat.Ext w (((w.alloc (.cells us 42)).alloc (.cells #[.slice none 0 0, .slice none 0 0, .slice none 0 0, .int .u8 0, .slice none 0 0, .slice none 0 0] 42)).alloc (.cells (zqa w.heap.size) 346)):=(by(repeat (first |exact Ext.refl _ |refine Ext.drew ?_ |refine Ext.drewN ?_ _ |refine Ext.alloc ?_ _ |(refine Ext.setCell ?_ (by first |omega |(simp;done) |(simp;omega)) _) |refine Ext.trans ?_ (by assumption))))
  have ko: ∀b,b<w.heap.size->kset (kset k w.heap.size 0) (w.heap.size+1) 0 b=k b:=λb hb=>by rw[zbo b (by omega),zbo b hb]
  exact⟨0,kset (kset k w.heap.size 0) (w.heap.size+1) 0,us,_,_,_,_,rfl,by omega,hx,ko,f1 _ _ _,by rw[zbo _ (by omega),zbn],zbn,RV.list_mono (Ext.le hx ko) _ _ hus,f2 _ _ _,rfl,f3 _ _ _⟩
 case round=>
  obtain⟨j,k',cur,z,e,e2,e3,rfl,hj,hx,hk,hc,hk0,hk1,hlist,hz2,hzs,hp⟩:=hrel
  have hcs:cur.size=6:=by rw[<-Array.length_toList];exact zaq hlist
  by_cases h5:j=5
  ·subst h5
   simp only[RV.listAt]at hlist
   obtain⟨x0,r0,q0,y0,z0,x1,r1,rfl,y1,z1,x2,r2,rfl,y2,z2,x3,r3,rfl,y3,z3,x4,r4,rfl,y4,z4,x5,r5,rfl,y5,z5,rfl⟩:=hlist
   have hcur:cur= #[x0,x1,x2,x3,x4,x5]:=by apply Array.ext';exact q0
   have c0:wr.cell? ⟨w.heap.size,0,none⟩=some x0:=by rw[cell_of_row wr _ 0 cur e (0,0) hc,hcur];rfl
   have c1:wr.cell? ⟨w.heap.size,1,none⟩=some x1:=by rw[cell_of_row wr _ 1 cur e (0,0) hc,hcur];rfl
   have c2:wr.cell? ⟨w.heap.size,2,none⟩=some x2:=by rw[cell_of_row wr _ 2 cur e (0,0) hc,hcur];rfl
   have c3:wr.cell? ⟨w.heap.size,3,none⟩=some x3:=by rw[cell_of_row wr _ 3 cur e (0,0) hc,hcur];rfl
   have c4:wr.cell? ⟨w.heap.size,4,none⟩=some x4:=by rw[cell_of_row wr _ 4 cur e (0,0) hc,hcur];rfl
   have c5:wr.cell? ⟨w.heap.size,5,none⟩=some x5:=by rw[cell_of_row wr _ 5 cur e (0,0) hc,hcur];rfl
   obtain⟨v0,v1,v2,v3,v4,v5,hzz⟩: ∃v0 v1 v2 v3 v4 v5,z= #[v0,v1,v2,v3,v4,v5]:=by
    obtain⟨L⟩:=z
    match L,hzs with
    |[a,b,c,d,e,f],_=>exact⟨a,b,c,d,e,f,rfl⟩
   have d0:wr.cell? ⟨w.heap.size+1,0,none⟩=some v0:=by rw[cell_of_row wr _ 0 z e2 (0,0) hz2,hzz];rfl
   have d1:wr.cell? ⟨w.heap.size+1,1,none⟩=some v1:=by rw[cell_of_row wr _ 1 z e2 (0,0) hz2,hzz];rfl
   have d2:wr.cell? ⟨w.heap.size+1,2,none⟩=some v2:=by rw[cell_of_row wr _ 2 z e2 (0,0) hz2,hzz];rfl
   have d3:wr.cell? ⟨w.heap.size+1,3,none⟩=some v3:=by rw[cell_of_row wr _ 3 z e2 (0,0) hz2,hzz];rfl
   have d4:wr.cell? ⟨w.heap.size+1,4,none⟩=some v4:=by rw[cell_of_row wr _ 4 z e2 (0,0) hz2,hzz];rfl
   have d5:wr.cell? ⟨w.heap.size+1,5,none⟩=some v5:=by rw[cell_of_row wr _ 5 z e2 (0,0) hz2,hzz];rfl
   have st: ∀(W:World) (i:Nat) (x old:Value),x.oneCell'=true->W.cell? ⟨w.heap.size+1,i,none⟩=some old->W.frozen? ⟨w.heap.size+1,i,none⟩=false->(store ⟨w.heap.size+1,i,none⟩ x).run Tryz.prog W= .ok () (W.setCell ⟨w.heap.size+1,i,none⟩ x):=λW i x old hx hc hf=>by
    rw[run_store Tryz.prog W _ x _ hx]
    simp[hc,hf]
   have fz: ∀j,wr.frozen? ⟨w.heap.size+1,j,none⟩=false:=λj=>by simp[World.frozen?,hz2]
   have s0:=st wr 0 x0 v0 y0 d0 (fz 0)
   have s1:=st (wr.setCell ⟨w.heap.size+1,0,none⟩ x0) 1 x1 v1 y1 (by rw[World.cell?_setCell_other _ _ _ _ (by simp)];exact d1) (by simp only[World.frozen?_setCell];exact fz 1)
   have s2:=st ((wr.setCell ⟨w.heap.size+1,0,none⟩ x0).setCell ⟨w.heap.size+1,1,none⟩ x1) 2 x2 v2 y2 (by rw[World.cell?_setCell_other _ _ _ _ (by simp),World.cell?_setCell_other _ _ _ _ (by simp)];exact d2) (by simp only[World.frozen?_setCell];exact fz 2)
   have s3:=st (((wr.setCell ⟨w.heap.size+1,0,none⟩ x0).setCell ⟨w.heap.size+1,1,none⟩ x1).setCell ⟨w.heap.size+1,2,none⟩ x2) 3 x3 v3 y3 (by rw[World.cell?_setCell_other _ _ _ _ (by simp),World.cell?_setCell_other _ _ _ _ (by simp),World.cell?_setCell_other _ _ _ _ (by simp)];exact d3) (by simp only[World.frozen?_setCell];exact fz 3)
   have s4:=st ((((wr.setCell ⟨w.heap.size+1,0,none⟩ x0).setCell ⟨w.heap.size+1,1,none⟩ x1).setCell ⟨w.heap.size+1,2,none⟩ x2).setCell ⟨w.heap.size+1,3,none⟩ x3) 4 x4 v4 y4 (by rw[World.cell?_setCell_other _ _ _ _ (by simp),World.cell?_setCell_other _ _ _ _ (by simp),World.cell?_setCell_other _ _ _ _ (by simp),World.cell?_setCell_other _ _ _ _ (by simp)];exact d4) (by simp only[World.frozen?_setCell];exact fz 4)
   have s5:=st (((((wr.setCell ⟨w.heap.size+1,0,none⟩ x0).setCell ⟨w.heap.size+1,1,none⟩ x1).setCell ⟨w.heap.size+1,2,none⟩ x2).setCell ⟨w.heap.size+1,3,none⟩ x3).setCell ⟨w.heap.size+1,4,none⟩ x4) 5 x5 v5 y5 (by rw[World.cell?_setCell_other _ _ _ _ (by simp),World.cell?_setCell_other _ _ _ _ (by simp),World.cell?_setCell_other _ _ _ _ (by simp),World.cell?_setCell_other _ _ _ _ (by simp),World.cell?_setCell_other _ _ _ _ (by simp)];exact d5) (by simp only[World.frozen?_setCell];exact fz 5)
   clear st
   obtain⟨Wf,hWf⟩: ∃Wf,Wf=wr.setRow (w.heap.size+1) #[x0,x1,x2,x3,x4,x5]:=⟨_,rfl⟩
   have hfe:(((((wr.setCell ⟨w.heap.size+1,0,none⟩ x0).setCell ⟨w.heap.size+1,1,none⟩ x1).setCell ⟨w.heap.size+1,2,none⟩ x2).setCell ⟨w.heap.size+1,3,none⟩ x3).setCell ⟨w.heap.size+1,4,none⟩ x4).setCell ⟨w.heap.size+1,5,none⟩ x5=Wf:=by
    rw[hWf,setCell_eq_setRow wr (w.heap.size+1) 0 z e2 (0,0) x0 hz2,setCell_eq_setRow _ (w.heap.size+1) 1 _ e2 (0,0) x1 (setRow_heap wr _ z _ e2 (0,0) hz2),setRow_setRow,
     setCell_eq_setRow _ (w.heap.size+1) 2 _ e2 (0,0) x2 (setRow_heap wr _ z _ e2 (0,0) hz2),setRow_setRow,setCell_eq_setRow _ (w.heap.size+1) 3 _ e2 (0,0) x3 (setRow_heap wr _ z _ e2 (0,0) hz2),setRow_setRow,
     setCell_eq_setRow _ (w.heap.size+1) 4 _ e2 (0,0) x4 (setRow_heap wr _ z _ e2 (0,0) hz2),setRow_setRow,setCell_eq_setRow _ (w.heap.size+1) 5 _ e2 (0,0) x5 (setRow_heap wr _ z _ e2 (0,0) hz2),setRow_setRow,hzz]
    rfl
   have hfh:Wf.heap[w.heap.size+1]?=some (.cells #[x0,x1,x2,x3,x4,x5] e2 (0,0)):=by rw[hWf];exact setRow_heap wr _ z _ e2 (0,0) hz2
   have e0:Wf.cell? ⟨w.heap.size+1,0,none⟩=some x0:=by rw[cell_of_row Wf _ 0 _ e2 (0,0) hfh];rfl
   have e1':Wf.cell? ⟨w.heap.size+1,1,none⟩=some x1:=by rw[cell_of_row Wf _ 1 _ e2 (0,0) hfh];rfl
   have e2':Wf.cell? ⟨w.heap.size+1,2,none⟩=some x2:=by rw[cell_of_row Wf _ 2 _ e2 (0,0) hfh];rfl
   have e3':Wf.cell? ⟨w.heap.size+1,3,none⟩=some x3:=by rw[cell_of_row Wf _ 3 _ e2 (0,0) hfh];rfl
   have e4':Wf.cell? ⟨w.heap.size+1,4,none⟩=some x4:=by rw[cell_of_row Wf _ 4 _ e2 (0,0) hfh];rfl
   have e5':Wf.cell? ⟨w.heap.size+1,5,none⟩=some x5:=by rw[cell_of_row Wf _ 5 _ e2 (0,0) hfh];rfl
   have hle:Le wr k' Wf k':=by
    refine(Wrote.le (ob:=some (w.heap.size+1)) ⟨by rw[hWf];rfl,by rw[hWf];rfl,by rw[hWf];rfl,by rw[hWf];simp[World.setRow],λx hx hne=>⟨?_,rfl⟩,λx hx=>?_⟩)
    ·rw[hWf];exact setRow_other wr _ x _ λe=>hne (by rw[e])
    ·cases hx
     exact⟨Nat.le_refl _,λo ho=>by omega,λh=>by omega⟩
   have hxf:Go.Proofs.YtebhngeddnnpkaaGreat.Ext w Wf:=by
    refine⟨by rw[hWf];exact hx.os,by rw[hWf];exact hx.tape,by rw[hWf];exact hx.output,Nat.le_trans hx.size hle.size,λx hxx=>?_⟩
    rw[hWf,setRow_other wr _ x _ (by omega)]
    exact hx.block x hxx
   have hres:(RV.ag l.c).at_ Wf k' (.agg #[x0,x1,x2,x3,x4,x5]):=by
    simp only[RV.at_]
    refine⟨_,rfl,RV.list_mono hle _ _ ?_⟩
    simp only[RV.listAt]
    exact⟨x0,_,rfl,y0,z0,x1,_,rfl,y1,z1,x2,_,rfl,y2,z2,x3,_,rfl,y3,z3,x4,_,rfl,y4,z4,x5,_,rfl,y5,z5,rfl⟩
   clear hWf
   go_wp2_with fail
   refine⟨rfl, .agg #[x0,x1,x2,x3,x4,x5],?_,_,rfl,hxf,k',hk,hres⟩
   have hr:=zd5 (P:=Tryz.prog) (w:=Wf) (b:=w.heap.size+1) (off:=0) (us:=[x0,x1,x2,x3,x4,x5]) (Tab_ok.get (t:=42) rfl).1 rfl rfl rfl (λj u hu=>by
    rw[Nat.zero_add,cell_of_row Wf _ j _ e2 (0,0) hfh]
    simpa using hu)
   rw[zd4,Array.mapM_eq_mapM_toList]
   simp only[Instr.loadAt,Instr.sureAddr,Sem.run_bind,Sem.run_pure,Result.andThen_ok]at hr
   show(do
    let vs<-List.toArray<$>List.mapM (zha _) [ResultVar.cell 2 42]
    pure (if h:vs.size=1 then vs[0]else .tuple vs)).run Tryz.prog Wf=_
   simp[zha,asAddr]
   exact hr
  ·have hj5:j<5:=by omega
   have hll:l.box.length<=1000000000000/\l.sign.length<=1000000000000/\l.ident.length<=1000000000000/\l.parent.length<=1000000000000/\l.sig.length<=1000000000000:=by
    obtain⟨h1,h2,h3,h4,h5⟩:=hl
    omega
   obtain⟨lj,hlj,hll,ho,hpt⟩: ∃lj:List UInt8,l.c[lOff j]?=some (bs lj)/\lj.length<=1000000000000/\lOff j<6/\(zqa w.heap.size)[j]?=some (.pointer (some ⟨w.heap.size,lOff j,none⟩)):=by
    match j,hj5 with
    |0,_=>exact⟨l.box,rfl,hll.1,by decide,rfl⟩
    |1,_=>exact⟨l.sign,rfl,hll.2.1,by decide,rfl⟩
    |2,_=>exact⟨l.ident,rfl,hll.2.2.1,by decide,rfl⟩
    |3,_=>exact⟨l.parent,rfl,hll.2.2.2.1,by decide,rfl⟩
    |4,_=>exact⟨l.sig,rfl,hll.2.2.2.2,by decide,rfl⟩
   obtain⟨o,hoo⟩: ∃o,o=lOff j:=⟨_,rfl⟩
   rw[<-hoo]at hlj ho hpt
   clear hoo
   obtain⟨u,hu,hu1,hcu⟩: ∃u,(bs lj).at_ wr k' u/\u.oneCell'=true/\wr.cell? ⟨w.heap.size,o,none⟩=some u:=by
    have hoc:o<cur.toList.length:=by rw[Array.length_toList];omega
    have:=(RV.listAt_iff _ _).1 hlist |>.2 o _ cur.toList[o] hlj (List.getElem?_eq_getElem hoc)
    exact⟨_,this.2,this.1,by rw[cell_of_row wr _ o cur e (0,0) hc,<-Array.getElem?_toList];exact List.getElem?_eq_getElem hoc⟩
   have hcp:wr.cell? ⟨w.heap.size+1+1,j,none⟩=some (.pointer (some ⟨w.heap.size,o,none⟩)):=by
    rw[cell_of_row wr _ j _ e3 (0,0) hp];exact hpt
   obtain⟨p,rfl,hby⟩:=zc5 hu
   clear h5 hpt
   go_wp2_with fail
   refine(zmc p lj _ hby (by omega)).mono ?_
   rintro e' w1 ⟨v,rfl,hb,g1,hov⟩
   obtain⟨k1,hk1',hch⟩:=zd9 (k:=k') hov
   have hvat:(bs lj).at_ w1 k1 v:=by
    obtain⟨_,h,_⟩:=hch
    exact h.sl
   have hv1:v.oneCell'=true:=by
    obtain⟨_,h,_⟩:=hch
    exact h.one
   have hsw:w.heap.size+2<wr.heap.size:=(Array.getElem?_eq_some_iff.1 hp).1
   have hle1:Le wr k' w1 k1:=Ext.le hb hk1'
   have hc1:w1.heap[w.heap.size]?=some (.cells cur e (0,0)):=(hb.block _ (by omega)).trans hc
   obtain⟨cur2,hcur2⟩: ∃cur2,cur2=(cur.toList.take o++[v]++cur.toList.drop (o+1)).toArray:=⟨_,rfl⟩
   obtain⟨W2,hW2⟩: ∃W2,W2=w1.setRow w.heap.size cur2:=⟨_,rfl⟩
   have hst:(storeCells ⟨w.heap.size,o,none⟩ [v]).run Tryz.prog w1= .ok () W2:=by
    rw[hW2,hcur2]
    exact run_storeCells_at Tryz.prog w.heap.size o e [v] 0 cur w1 hc1 (by simp;omega) (by simpa using hv1)
   have hc2:W2.heap[w.heap.size]?=some (.cells cur2 e (0,0)):=by rw[hW2];exact setRow_heap w1 _ cur _ e (0,0) hc1
   have hrest: ∀x,x≠w.heap.size->W2.heap[x]?=w1.heap[x]?:=λx hx=>by rw[hW2];exact setRow_other w1 _ x _ hx
   have hle2:Le w1 k1 W2 k1:=by
    refine(Wrote.le (ob:=some w.heap.size) ⟨by rw[hW2];rfl,by rw[hW2];rfl,by rw[hW2];rfl,by rw[hW2];simp[World.setRow],λx hx hne=>⟨hrest x λe=>hne (by rw[e]),rfl⟩,λx hx=>?_⟩)
    cases hx
    have:k1 w.heap.size=0:=(hk1' _ (by omega)).trans hk0
    exact⟨Nat.le_refl _,λo ho=>by omega,λh=>by omega⟩
   have hxf:Go.Proofs.YtebhngeddnnpkaaGreat.Ext w W2:=by
    refine⟨by rw[hW2];exact hb.os.trans hx.os,by rw[hW2];exact hb.tape.trans hx.tape,by rw[hW2];exact hb.output.trans hx.output,Nat.le_trans hx.size (Nat.le_trans hb.size hle2.size),λx hxx=>?_⟩
    rw[hrest x (by omega),hb.block x (by omega)]
    exact hx.block x hxx
   have hlist2:RV.listAt W2 k1 l.c cur2.toList:=by
    have h1:=RV.list_mono (hle1.trans hle2) _ _ hlist
    have h2:RV.listAt W2 k1 [bs lj] [v]:=by
     simp only[RV.listAt]
     exact⟨v,_,rfl,hv1,RV.mono hle2 _ _ hvat,rfl⟩
    have h3:l.c=l.c.take o++[bs lj]++l.c.drop (o+1):=by
     have hoc:o<l.c.length:=ho
     have h4:l.c[o]=bs lj:=by rw[List.getElem?_eq_getElem hoc]at hlj;exact Option.some.inj hlj
     rw[<-h4,List.append_assoc,List.singleton_append,<-List.drop_eq_getElem_cons hoc,List.take_append_drop]
    rw[h3,hcur2,List.toList_toArray]
    exact zba (zba (zbv h1 o) h2) (zco h1 (o+1))
   have hz2':W2.heap[w.heap.size+1]?=some (.cells z e2 (0,0)):=by rw[hrest _ (by omega),hb.block _ (by omega)];exact hz2
   have hp':W2.heap[w.heap.size+2]?=some (.cells (zqa w.heap.size) e3 (0,0)):=by rw[hrest _ (by omega),hb.block _ (by omega)];exact hp
   clear hW2 hrest
   go_wp2_with fail
   rw[hst]
   go_wp2_with fail
   go_roundw
   case rel=>exact⟨j+1,k1,cur2,z,e,e2,e3,rfl,by omega,hxf,λb hb=>(hk1' b (by omega)).trans (hk b hb),hc2,(hk1' _ (by omega)).trans hk0,(hk1' _ (by omega)).trans hk1,hlist2,hz2',hzs,hp'⟩
   case measure=>(first |omega |(simp[intOf];done) |(simp[intOf];omega))
theorem zdf(l:Leaf)(hl:l.fit):zab Tryz.prog 140 [.ag l.c] (.r (.ag l.c)):=
 zbh (za0 Tryz.func140 rfl (by kernel_rfl)) λw k vs hp=>by
  obtain⟨a,rfl,h1⟩:=zef hp
  simp only[RV.at_]at h1
  obtain⟨us,rfl,h2⟩:=h1
  exact zqp l hl w k us h2
end
section
instance {h k:Nat}{x:Int}:Decidable (inR h k x):=by unfold inR;infer_instance
end
section
abbrev d3r(t:D3):List RV:=[I t.at_,I t.lo,I t.hi]
def ds(l:List D3):RV:= .sl 3 l.length (l.flatMap d3r)
end
section
def nods(l:List Node):RV:= .sl 10 l.length (l.flatMap Node.c)
theorem zue{l:List Node}{i:Int}{j:Nat}(h:i=j)(hj:j<l.length):((l.flatMap Node.c).drop (i.toNat*10)).take 10=l[j].c:=zlp (f:=Node.c) (sz:=10) (λ_=>rfl) h hj
end
end Go.Proofs.YtebhngeddnnpkaaGreat.Sx
