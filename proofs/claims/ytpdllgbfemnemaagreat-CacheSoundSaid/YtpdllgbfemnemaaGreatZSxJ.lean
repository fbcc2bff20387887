import Derived.Test.YtpdllgbfemnemaaGreatZSxG
namespace Go.Proofs.YtpdllgbfemnemaaGreat.Sx
open Go.RowKit
section
section
variable {P:Program} {T:TT} {B:Bs} {N:Nat} {S:St} {a:Act} {w:World} {k:Kp} {g:Env} {o:Oper} {Q:Exit->Act->World->Prop}
theorem SatE.redo(hs:SatE B N S a w k g){id b:Nat}{ow ow':Ow}{w':World}(ho:oget S.O id=some ow)(hb:(g id).2=some b)(hw:Wrote w k w' k (some b))(hl:ow'.lt S.nx)(hat:ow'.at_ w' k g (g id)):
  SatE B N (S.set id (some ow')) a w' k g:=by
 have g1:=hs.wrote hw (id:=some id) ⟨⟨ow,ho⟩,hb⟩
 have hid:=hs.owns id ow ho
 have up: ∀i o',oget (S.set id (some ow')).O i=some o'->(i=id/\o'=ow')\/(id≠i/\oget (S.set id none).O i=some o'):=λi o' h=>by
  rcases zav h with⟨rfl,e⟩ |⟨hne,h⟩
  ·cases e;exact .inl ⟨rfl,rfl⟩
  ·refine .inr ⟨hne,?_⟩
   simp only[St.set,oget]
   split
   ·rename_i hb;exact absurd (Nat.eq_of_beq_eq_true hb) hne
   ·exact h
 refine⟨g1.size,g1.defers,g1.keep,g1.kk,g1.facts,λi o' h=>?_,λi j o1 o2 b' hi hj hne hbi=>?_⟩
 ·rcases up i o' h with⟨rfl,rfl⟩ |⟨hne,h⟩
  ·exact⟨hid.1,hl,hat,λb' hb'=>⟨(hid.2.2.2 b' hb').1,Nat.lt_of_lt_of_le (hid.2.2.2 b' hb').2 hw.size⟩⟩
  ·exact g1.owns i o' h
 ·have old: ∀x ox,oget (S.set id (some ow')).O x=some ox->∃ox',oget S.O x=some ox':=λx ox hx=>by
   rcases zav hx with⟨rfl,_⟩ |⟨_,hx⟩
   ·exact⟨ow,ho⟩
   ·exact⟨ox,hx⟩
  obtain⟨p1,hp1⟩:=old i o1 hi
  obtain⟨p2,hp2⟩:=old j o2 hj
  exact hs.apart i j p1 p2 b' hp1 hp2 hne hbi
def AllAt(p:TF->Value->Prop)(cells:List TF)(us:List Value):Prop:=us.length=cells.length/\∀(j:Nat) (f:TF) (u:Value),cells[j]?=some f->us[j]?=some u->p f u
theorem AllAt.append{p:TF->Value->Prop}{c d:List TF}{us vs:List Value}(h:AllAt p c us)(h':AllAt p d vs):AllAt p (c++d) (us++vs):=by
 refine⟨by simp[h.1,h'.1],λj f u hf hu=>?_⟩
 rw[List.getElem?_append]at hf hu
 rw[h.1]at hu
 split at hf
 ·rename_i hj;rw[if_pos hj]at hu;exact h.2 j f u hf hu
 ·rename_i hj;rw[if_neg hj]at hu;exact h'.2 _ f u hf hu
theorem AllAt.take{p:TF->Value->Prop}{c:List TF}{us:List Value}(h:AllAt p c us)(n:Nat):AllAt p (c.take n) (us.take n):=by
 refine⟨by simp[h.1],λj f u hf hu=>?_⟩
 rw[List.getElem?_take]at hf hu
 split at hf
 ·rename_i hj;rw[if_pos hj]at hu;exact h.2 j f u hf hu
 ·cases hf
theorem AllAt.drop{p:TF->Value->Prop}{c:List TF}{us:List Value}(h:AllAt p c us)(n:Nat):AllAt p (c.drop n) (us.drop n):=by
 refine⟨by simp[h.1],λj f u hf hu=>?_⟩
 rw[List.getElem?_drop]at hf hu
 exact h.2 _ f u hf hu
theorem AllAt.mono{p q:TF->Value->Prop}{c:List TF}{us:List Value}(h:AllAt p c us)(hpq: ∀f u,p f u->q f u):AllAt q c us:=⟨h.1,λj f u hf hu=>hpq f u (h.2 j f u hf hu)⟩
theorem zpp{t:TypeId}{ti:TI}{b off:Nat}{cur:Array Value}{ty:TypeId}{v:Value}(hti:TIOk P ti)(ht:ti.id=t)(hh:w.heap[b]?=some (.cells cur ty (0,0)))(hsz:v.cells.size=ti.sz)(hfit:off+ti.sz<=cur.size)(h1: ∀x∈v.cells.toList,x.oneCell'=true):
  (Instr.storeAt t (.pointer (some ⟨b,off,none⟩)) v).run P w= .ok () (w.setRow b (cur.toList.take off++v.cells.toList++cur.toList.drop (off+ti.sz)).toArray):=by
 have hs:=zel (w:=w) hti ht
 have hst:=run_storeCells_at P b off ty v.cells.toList 0 cur w hh (by rw[Nat.add_zero,Array.length_toList,hsz];exact hfit) h1
 simp only[Nat.add_zero]at hst
 rw[Array.length_toList,hsz]at hst
 simp only[Instr.storeAt,Instr.sureAddr,storeVar,Sem.run_bind,Sem.run_pure,Result.andThen_ok,hs,Sem.run_ite,hsz]
 simp[hst]
theorem zpv{b:Nat}{cur cs:Array Value}{ty:TypeId}(_hh:w.heap[b]?=some (.cells cur ty (0,0)))(hk:k b=0):Wrote w k (w.setRow b cs) k (some b):=
 ⟨rfl,rfl,rfl,by simp[World.setRow],λx _ hne=>⟨setRow_other w b x cs (λh=>hne (by rw[h])),rfl⟩,λx hx=>by
  cases hx
  exact⟨Nat.le_refl _,λo ho=>by omega,λh=>by omega⟩⟩
theorem zp1(hs:SatE B N S a w k g){t:TypeId}{ti:TI}{id b off:Nat}{cells new:List TF}{v:Value}(hti:TIOk P ti)(ht:ti.id=t)(ho:oget S.O id=some (.box cells))(hb:(g id).2=some b)
  (hfit:off+ti.sz<=cells.length) (hlen:new.length=ti.sz) (hlt: ∀f∈new,f.lt S.nx) (hnew:AllAt (λf u=>u.oneCell'=true/\f.at_ w k g u) new v.cells.toList):
  ∃w',(Instr.storeAt t (.pointer (some ⟨b,off,none⟩)) v).run P w= .ok () w'/\SatE B N (S.set id (some (.box (cells.take off++new++cells.drop (off+ti.sz))))) a w' k g:=by
 obtain⟨hid,hlo,hat,_⟩:=hs.owns id _ ho
 simp only[Ow.at_]at hat
 obtain⟨b',cur,ty,e,hh,hk,hsz,hc⟩:=hat
 rw[e]at hb
 cases hb
 have hvs:v.cells.size=ti.sz:=by rw[<-Array.length_toList,hnew.1,hlen]
 have hr:=zpp hti ht hh hvs (by rw[hsz];exact hfit) (λx hx=>by
  obtain⟨j,hj⟩:=List.getElem?_of_mem hx
  have hjl:j<new.length:=by rw[<-hnew.1];exact(List.getElem?_eq_some_iff.1 hj).1
  exact(hnew.2 j _ x (List.getElem?_eq_getElem hjl) hj).1)
 have hw:=zpv (k:=k) (cs:=(cur.toList.take off++v.cells.toList++cur.toList.drop (off+ti.sz)).toArray) hh hk
 refine⟨_,hr,hs.redo ho (by rw[e]) hw ?_ ?_⟩
 ·intro f hf
  rcases List.mem_append.1 hf with hf |hf
  ·rcases List.mem_append.1 hf with hf |hf
   ·exact hlo f (List.mem_of_mem_take hf)
   ·exact hlt f hf
  ·exact hlo f (List.mem_of_mem_drop hf)
 ·have hold:AllAt (λf u=>u.oneCell'=true/\f.at_ w k g u) cells cur.toList:=⟨by rw[Array.length_toList,hsz],λj f u hf hu=>hc j f u hf (by simpa using hu)⟩
  have hall:=(((hold.take off).append hnew).append (hold.drop (off+ti.sz))).mono (q:=λf u=>u.oneCell'=true/\f.at_ (w.setRow b (cur.toList.take off++v.cells.toList++cur.toList.drop (off+ti.sz)).toArray) k g u) λf u h=>⟨h.1,TF.mono hw.le h.2⟩
  simp only[Ow.at_]
  refine⟨b,_,ty,e,setRow_heap w b cur _ ty (0,0) hh,hk,by have:=hall.1;simpa using this,λj f u hf hu=>hall.2 j f u hf (by simpa using hu)⟩
theorem zbyb(hs:SatE B N S a w k g){t e:TypeId}{ti:TI}{id b off sz n:Nat}{cells:List RV}{v:Value}{r:RV}(hti:TIOk P ti)(ht:ti.id=t)(ho:oget S.O id=some (.ch e sz n cells false))(hb:(g id).2=some b)
  (hfit:off+ti.sz<=cells.length) (hlen:(cellsOf r).length=ti.sz) (hnew:RV.listAt w k (cellsOf r) v.cells.toList):
  ∃w',(Instr.storeAt t (.pointer (some ⟨b,off,none⟩)) v).run P w= .ok () w'/\SatE B N (S.set id (some (.ch e sz n (zb8 cells off (cellsOf r)) false))) a w' k g:=by
 obtain⟨hid,hlo,hat,_⟩:=hs.owns id _ ho
 simp only[Ow.at_]at hat
 obtain⟨hcl,hat⟩:=hat
 rcases hat with⟨hno,_⟩ |⟨b',cap,cur,e1,e2,hh,h1,h2,h3,h4,h5⟩
 ·rw[hno]at hb;cases hb
 rw[e1]at hb
 cases hb
 have hk:k b=0:=by simpa using h4
 have hcc:n*sz<=cap*sz:=Nat.mul_le_mul_right _ h1
 have hvs:v.cells.size=ti.sz:=by rw[<-Array.length_toList,zcd hnew,hlen]
 have hr:=zpp hti ht hh hvs (off:=off) (by omega) (λx hx=>by
  obtain⟨j,hj⟩:=List.getElem?_of_mem hx
  have hjl:j< (cellsOf r).length:=by rw[<-zcd hnew];exact(List.getElem?_eq_some_iff.1 hj).1
  exact(((RV.listAt_iff _ _).1 hnew).2 j _ x (List.getElem?_eq_getElem hjl) hj).1)
 have hw:=zpv (k:=k) (cs:=(cur.toList.take off++v.cells.toList++cur.toList.drop (off+ti.sz)).toArray) hh hk
 refine⟨_,hr,hs.redo ho e1 hw trivial ?_⟩
 simp only[Ow.at_]
 have hvl:v.cells.toList.length=ti.sz:=by rw[Array.length_toList,hvs]
 refine⟨by simp[zb8];omega, .inr ⟨b,cap,_,e1,e2,setRow_heap w b cur _ e (0,0) hh,h1,h2,?_,by simpa using hk,?_⟩⟩
 ·simp only[List.size_toArray,List.length_append,List.length_take,List.length_drop,Array.length_toList,hvs];omega
 ·have hnew':=RV.list_mono hw.le _ _ hnew
  have h5':=RV.list_mono hw.le _ _ h5
  have hlo2:=zf3 h5' off
  have hhi:=zjl h5' (off+ti.sz)
  have hall:=zcf (zcf hlo2 hnew') hhi
  unfold zb8
  rw[hlen]
  rw[List.take_take,Nat.min_eq_left (by omega)]at hall
  have hA:(List.take off cur.toList++v.cells.toList).length=off+ti.sz:=by rw[List.length_append,List.length_take,hvl,Array.length_toList];omega
  have e:(List.take off cur.toList++v.cells.toList++List.drop (off+ti.sz) cur.toList).take (n*sz)=List.take off cur.toList++v.cells.toList++(cur.toList.take (n*sz)).drop (off+ti.sz):=by
   rw[List.take_append,hA,List.drop_take]
   congr 1
   exact List.take_of_length_le (by omega)
  rw[List.toList_toArray,e]
  exact hall
theorem zw8(hT:TOk P T)(hs:SatE B N S a w k g){t:TypeId}{x y:Operand}{K:St->Prop}(hop:o.op= .store t x y)(h:sto T S o.dst t x y K):
  o.wp P a w (λa' w'=>∃S' k',K S'/\Sat B N S' a' w' k') Q:=by
 have fin: ∀{S':St} {w':World},K (S'.put o.dst (.r .any))->(Instr.storeAt t (a.eval x) (a.eval y)).run P w= .ok () w'->SatE B N S' a w' k g->
   o.wp P a w (λa' w'=>∃S' k',K S'/\Sat B N S' a' w' k') Q:=λ{S' w'} hK hr h1=>
  zn9 (by simp[execOp,hop,hr]) ⟨_,k,hK,g,h1.drop⟩
 unfold sto at h
 split at h
 ·rename_i f g' hf hg'
  have hx:=(zak hs hf).2
  have hy:=zak hs hg'
  split at h
  ·rename_i id2
   have go2: ∀{ow2:Ow} {j off b:Nat} {cells:List TF} {ti:TI},oget S.O id2=some ow2->oget S.O j=some (.box cells)->(g j).2=some b->a.eval x= .pointer (some ⟨b,off,none⟩)->tget T t=some ti->ti.sz=1->off+1<=cells.length->
     K ((S.set j (some (.box (cells.take off++[.own id2]++cells.drop (off+1))))).put o.dst (.r .any))->o.wp P a w (λa' w'=>∃S' k',K S'/\Sat B N S' a' w' k') Q:=by
    intro ow2 j off b cells ti h2 ho hb he hti h1 hfit hK
    obtain⟨q,hq⟩:=hT.get hti
    have hone:(a.eval y).oneCell'=true:=by have:=hy.2;simp only[TF.at_]at this;rw[this];exact z20 hs h2
    obtain⟨w',hr,h3⟩:=zp1 hs q hq ho hb (off:=off) (new:=[.own id2]) (v:=a.eval y) (by omega) (by simp[h1]) (by simpa using hy.1) ⟨by simp[zh1 hone],λj f u hf hu=>by
     cases j with
     |zero=>simp[zh1 hone]at hf hu;subst hf;subst hu;exact⟨hone,hy.2⟩
     |succ j=>simp at hf⟩
    rw[<-he]at hr
    rw[h1]at h3
    exact fin hK hr h3
   split at h
   ·rename_i ow2 j off h2
    split at h
    ·rename_i cells ho
     split at h
     ·exact h.elim
     ·rename_i hfit
      simp only[Nat.ble_eq]at hfit
      split at h
      ·rename_i ti hti
       split at h
       ·rename_i h1
        simp only[TF.at_]at hx
        obtain⟨b,hb,e⟩:=hx
        rw[zei]at h
        exact go2 h2 ho hb e hti (Nat.eq_of_beq_eq_true h1) hfit h
       ·exact h.elim
      ·exact h.elim
    ·exact h.elim
   ·rename_i ow2 j h2
    split at h
    ·rename_i cells ho
     split at h
     ·exact h.elim
     ·rename_i hfit
      simp only[Nat.ble_eq]at hfit
      split at h
      ·rename_i ti hti
       split at h
       ·rename_i h1
        simp only[TF.at_]at hx
        have hat:=(hs.owns _ _ ho).2.2.1
        simp only[Ow.at_]at hat
        obtain⟨b,cur,ty,e,_⟩:=hat
        rw[zei]at h
        exact go2 (off:=0) (b:=b) h2 ho (by rw[e]) (by rw[hx,e]) hti (Nat.eq_of_beq_eq_true h1) (by simpa using hfit) (by simpa using h)
       ·exact h.elim
      ·exact h.elim
    ·exact h.elim
   ·exact h.elim
  ·rename_i v
   unfold stv at h
   split at h
   ·rename_i ti hti
    obtain⟨q,hq⟩:=hT.get hti
    have go: ∀(id off b:Nat),(g id).2=some b->a.eval x= .pointer (some ⟨b,off,none⟩)->
      stAt S ti v (λS'=>newK S' o.dst (.r .any) none K) id off->o.wp P a w (λa' w'=>∃S' k',K S'/\Sat B N S' a' w' k') Q:=by
     intro id off b hb he h
     unfold stAt at h
     split at h
     ·rename_i cells ho
      split at h
      ·exact h.elim
      ·rename_i hc
       simp only[Bool.and_eq_true,Nat.beq_eq,Nat.ble_eq]at hc
       obtain⟨hok,hlen,hfit⟩:=hc
       have hcells:=zss hy.2 hok
       have hall:AllAt (λf u=>u.oneCell'=true/\f.at_ w k g u) ((cellsOf v).map .r) (a.eval y).cells.toList:=by
        refine⟨by rw[List.length_map,zcd hcells],λj f u hf hu=>?_⟩
        rw[List.getElem?_map]at hf
        cases hv:(cellsOf v)[j]? with
        |none=>simp[hv]at hf
        |some rv=>
         simp only[hv,Option.map_some,Option.some.injEq]at hf
         subst hf
         exact((RV.listAt_iff _ _).1 hcells).2 j rv u hv hu
       obtain⟨w',hr,h1⟩:=zp1 hs q hq ho hb hfit (by rw[List.length_map,hlen]) (by simp[TF.lt]) hall
       rw[<-he]at hr
       rw[zei,zci]at h
       exact fin h hr h1
     ·rename_i e sz n cells ho
      split at h
      ·exact h.elim
      ·rename_i hc
       simp only[Bool.and_eq_true,Nat.beq_eq]at hc
       obtain⟨hok,hlen⟩:=hc
       obtain⟨hfit,zs,rfl,hK⟩:=h
       obtain⟨w',hr,h1⟩:=zbyb hs q hq ho hb hfit hlen (zss hy.2 hok)
       rw[<-he]at hr
       rw[zei,zci]at hK
       exact fin hK hr h1
     ·exact h.elim
    split at h
    ·rename_i id
     simp only[TF.at_]at hx
     split at h
     ·rename_i cells ho
      have hat:=(hs.owns _ _ ho).2.2.1
      simp only[Ow.at_]at hat
      obtain⟨b,cur,ty,e,_⟩:=hat
      exact go id 0 b (by rw[e]) (by rw[hx,e]) h
     ·exact h.elim
    ·rename_i id off
     simp only[TF.at_]at hx
     obtain⟨b,hb,e⟩:=hx
     exact go id off b hb e h
    ·exact h.elim
   ·exact h.elim
  ·exact h.elim
 ·exact h.elim
end
end
section
section
variable {P:Program} {T:TT} {B:Bs} {N:Nat} {S:St} {a:Act} {w:World} {k:Kp} {g:Env} {o:Oper} {Q:Exit->Act->World->Prop}
theorem zm5(hT:TOk P T)(hs:Sat B N S a w k)(hd: ∀d,o.dst=some d->d<N){K:St->Prop}(h:zju P T S o K):
  o.wp P a w (λa' w'=>∃S' k',K S'/\Sat B N S' a' w' k') Q:=by
 obtain⟨g,hs⟩:=hs
 have val:(valv P T S o λf ow=>K (S.new o.dst f ow))->o.wp P a w (λa' w'=>∃S' k',K S'/\Sat B N S' a' w' k') Q:=λh=>
  Oper.wp_mono (λa' w' ⟨f,ow,k',hK,hs'⟩=>⟨_,k',hK,hs'⟩) (z7b hT hs hd h)
 unfold zju at h
 have val2:(valv P T S o λf ow=>newK S o.dst f ow K)->o.wp P a w (λa' w'=>∃S' k',K S'/\Sat B N S' a' w' k') Q:=λh=>val (by simpa only[zci]using h)
 have step:Vstep P S o K->o.wp P a w (λa' w'=>∃S' k',K S'/\Sat B N S' a' w' k') Q:=λ⟨ι,S',hy,hK⟩=>
  Oper.wp_mono (λa' w' ⟨i,k',hs'⟩=>⟨S' i,k',hK i,hs'⟩) (hy B N a w k Q ⟨g,hs⟩ hd)
 cases hop:o.op with
 |store t x y=>rw[hop]at h;exact zw8 hT hs hop h
 |call c=>
  rw[hop]at h
  simp only[zy0]at h
  split at h
  ·rename_i b hcal
   split at h
   ·unfold appo at h
    split at h
    ·rename_i x y t t' hxs hts
     split at h
     ·rename_i htt
      obtain rfl:=Nat.eq_of_beq_eq_true htt
      split at h
      ·rename_i f f2 hf hf2
       simp only[zci]at h
       obtain⟨id,ow,v,w',k',hK,hr,hs'⟩:=z5v (o:=o) (ty:=o.type) hT hs hd (zak hs hf).2 (zak hs hf2).2 h
       have hxs':c.args= #[x,y]:=by apply Array.ext';simpa using hxs
       have hts':c.argTypes= #[t',t']:=by apply Array.ext';simpa using hts
       exact zbr (by simp[execOp,hop,resolve,hcal,hxs',hts',invoke,builtin,hr]) ⟨_,k',hK,hs'⟩
      ·exact h.elim
     ·exact h.elim
    ·exact h.elim
   ·exact val2 h
   ·exact val2 h
   ·exact val2 h
   ·exact val2 h
   ·exact step h
  ·split at h
   ·split at h
    ·exact val2 h
    ·exact step h
   ·exact step h
  ·exact val2 h
 |makeFunc _ _ _=>rw[hop]at h;exact step h
 |makeMap _ _=>rw[hop]at h;exact step h
 |slice _ _ _ _ _=>
  rw[hop]at h
  simp only[zy0]at h
  split at h
  ·exact val2 h
  ·exact step h
 |mapUpdate _ _ _ _=>rw[hop]at h;exact step h
 |lookup _ _ _ _=>rw[hop]at h;exact step h
 |range _ _=>rw[hop]at h;exact step h
 |next _ _=>rw[hop]at h;exact step h
 |entry _=>rw[hop]at h;exact step h
 |_=>rw[hop]at h;exact val2 h
theorem zcab(hs:SatE B N S a w k g){ops:Array Oper}{j d:Nat}{oj:Oper}{β:Bool}(hj:ops[j]?=some oj)(hd:oj.dst=some d)(hf:fget S.F d=some (.r (.b β))):yielded ops a.tmps j=some β:=by
 have:=(hs.facts d _ hf).2
 simp only[TF.at_,RV.at_]at this
 unfold yielded
 simp only[hj,Option.bind_some,hd]
 cases ht:a.tmps[d]? with
 |none=>simp[ht,undef]at this
 |some v=>simp[ht]at this;subst this;rfl
theorem zcib(hs:SatE B N S a w k g){ops:Array Oper}{j d:Nat}{oj:Oper}{l:List RV}(hj:ops[j]?=some oj)(hd:oj.dst=some d)(hf:fget S.F d=some (.r (.tu l))):yielded ops a.tmps j=none:=by
 have:=(hs.facts d _ hf).2
 simp only[TF.at_,RV.at_]at this
 obtain⟨us,hu,_⟩:=this
 unfold yielded
 simp only[hj,Option.bind_some,hd]
 cases ht:a.tmps[d]? with
 |none=>rfl
 |some v=>simp[ht]at hu;subst hu;rfl
theorem zpj(hT:TOk P T){l:List Oper}(hd: ∀d,o.dst=some d->d<N){r:List Oper}{K:St->Prop}(hs:Sat B N S a w k)(h:runv P T l (o::r) S K):
  if Region.wanted o (yielded l.toArray a.tmps)then o.wp P a w (λa' w'=>∃S' k',runv P T l r S' K/\Sat B N S' a' w' k') Q
  else∃S' k',runv P T l r S' K/\Sat B N S' (a.put o.dst undef) w k':=by
 have go:zju P T S o (λS'=>runv P T l r S' K)->o.wp P a w (λa' w'=>∃S' k',runv P T l r S' K/\Sat B N S' a' w' k') Q:=λh=>zm5 hT hs hd h
 have skip:runv P T l r (S.put o.dst (.r (.tu []))) K->∃S' k',runv P T l r S' K/\Sat B N S' (a.put o.dst undef) w k':=λh=>by
  obtain⟨g,hs⟩:=hs
  exact⟨_,k,h,g,hs.skipped⟩
 simp only[runv,zci]at h
 cases hg:o.guard with
 |none=>
  simp only[hg]at h
  rw[if_pos (by simp[Region.wanted,hg])]
  exact go h
 |some jw=>
  obtain⟨j,want⟩:=jw
  simp only[hg,zb0]at h
  split at h
  ·rename_i oj hj
   split at h
   ·rename_i d hod
    split at h
    ·rename_i β hf
     obtain⟨g,hs'⟩:=hs
     have hy:=zcab hs' (ops:=l.toArray) (j:=j) (by simpa using hj) hod hf
     have hw:Region.wanted o (yielded l.toArray a.tmps)=(β==want):=by simp[Region.wanted,hg,hy]
     rw[hw]
     cases β<;>cases want<;>simp only at h
     ·exact go h
     ·exact skip h
     ·exact skip h
     ·exact go h
    ·rename_i lu hf
     obtain⟨g,hs'⟩:=hs
     have hy:=zcib hs' (ops:=l.toArray) (j:=j) (by simpa using hj) hod hf
     rw[if_neg (by simp[Region.wanted,hg,hy])]
     exact skip h
    ·exact h.elim
   ·exact h.elim
  ·exact h.elim
theorem zku(hT:TOk P T){l:List Oper}(hN: ∀o∈l,∀d,o.dst=some d->d<N): ∀{rest:List Oper} {S:St} {a:Act} {w:World} {k:Kp} {K:St->Prop},(∀o∈rest,o∈l)->Sat B N S a w k->runv P T l rest S K->
  (∀S' a' w' k',K S'->Sat B N S' a' w' k'->Q .normal a' w')->wpList P l.toArray Q rest a w
 |[],S,a,w,k,K,_,hs,h,hQ=>wpList_nil (hQ S a w k h hs)
 |o::r,S,a,w,k,K,hin,hs,h,hQ=>by
  have hr: ∀o'∈r,o'∈l:=λo' ho=>hin o' (by simp[ho])
  have:=zpj (Q:=Q) hT (hN o (hin o (by simp))) hs h
  unfold wpList
  split at this
  ·rename_i hw
   rw[if_pos hw]
   exact .inl (Oper.wp_mono (λa' w' ⟨S',k',h',hs'⟩=>zku hT hN hr hs' h' hQ) this)
  ·rename_i hw
   rw[if_neg hw]
   obtain⟨S',k',h',hs'⟩:=this
   exact zku hT hN hr hs' h' hQ
end
end
section
section
variable {P:Program} {T:TT} {S S':St} {o:Oper}
structure Agree (S S':St) (o:Oper):Prop where
 nx:S'.nx=S.nx
 op: ∀x∈o.op.operands.toList,opr S' x=opr S x
 one: ∀id∈ids1 S o,oget S'.O id=oget S.O id
 two: ∀id∈ids2 S (ids1 S o),∀e sz n cells,oget S.O id=some (.ch e sz n cells true)↔oget S'.O id=some (.ch e sz n cells true)
theorem Vint.pick{k:IntKind}{e:Int}{K:Int->Prop}(h:Vint k e K): ∃m,K m/\∀K':Int->Prop,K' m->Vint k e K':=by
 obtain⟨m,e,h⟩:=h;exact⟨m,h,λK' h'=>⟨m,e,h'⟩⟩
theorem Vquo.pick{k:IntKind}{a b:Int}{K:Int->Prop}(h:Vquo k a b K): ∃m,K m/\∀K':Int->Prop,K' m->Vquo k a b K':=by
 obtain⟨h0,m,e,h⟩:=h;exact⟨m,h,λK' h'=>⟨h0,m,e,h'⟩⟩
theorem Vrem.pick{a b:Int}{K:Int->Prop}(h:Vrem a b K): ∃m,K m/\∀K':Int->Prop,K' m->Vrem a b K':=by
 obtain⟨h0,m,e,h⟩:=h;exact⟨m,h,λK' h'=>⟨h0,m,e,h'⟩⟩
theorem Vbits.pick{k:IntKind}{op:BinOp}{a b:Int}{K:Int->Prop}(h:Vbits k op a b K): ∃m,K m/\∀K':Int->Prop,K' m->Vbits k op a b K':=by
 obtain⟨m,e,h⟩:=h;exact⟨m,h,λK' h'=>⟨m,e,h'⟩⟩
theorem Vshl.pick{k:IntKind}{a b:Int}{K:Int->Prop}(h:Vshl k a b K): ∃m,K m/\∀K':Int->Prop,K' m->Vshl k a b K':=by
 obtain⟨h0,m,e,h⟩:=h;exact⟨m,h,λK' h'=>⟨h0,m,e,h'⟩⟩
theorem Vshr.pick{k:IntKind}{a b:Int}{K:Int->Prop}(h:Vshr k a b K): ∃m,K m/\∀K':Int->Prop,K' m->Vshr k a b K':=by
 obtain⟨h0,m,e,h⟩:=h;exact⟨m,h,λK' h'=>⟨h0,m,e,h'⟩⟩
theorem Vcmp.pick{e:Bool}{K:Bool->Prop}(h:Vcmp e K): ∃m,K m/\∀K':Bool->Prop,K' m->Vcmp e K':=by
 obtain⟨m,e,h⟩:=h;exact⟨m,h,λK' h'=>⟨m,e,h'⟩⟩
theorem Vidx.pick{i:Int}{sz n:Nat}{cells:List RV}{K:List RV->Prop}(h:Vidx i sz n cells K): ∃m,K m/\∀K':List RV->Prop,K' m->Vidx i sz n cells K':=by
 obtain⟨h0,h1,m,e,h⟩:=h;exact⟨m,h,λK' h'=>⟨h0,h1,m,e,h'⟩⟩
theorem Vadr.pick{i:Int}{n:Nat}{K:Nat->Prop}(h:Vadr i n K): ∃m,K m/\∀K':Nat->Prop,K' m->Vadr i n K':=by
 obtain⟨h0,h1,h⟩:=h;exact⟨_,h,λK' h'=>⟨h0,h1,h'⟩⟩
theorem Vload1.pick{α:Type}{cells:List α}{off:Nat}{K:α->Prop}(h:Vload1 cells off K): ∃m,K m/\∀K':α->Prop,K' m->Vload1 cells off K':=by
 obtain⟨m,e,h⟩:=h;exact⟨m,h,λK' h'=>⟨m,e,h'⟩⟩
theorem VloadN.pick{α:Type}{cells:List α}{off sz:Nat}{K:List α->Prop}(h:VloadN cells off sz K): ∃m,(cells.drop off).take sz=m/\K m/\∀K':List α->Prop,K' m->VloadN cells off sz K':=by
 obtain⟨m,e,h0,h⟩:=h;exact⟨m,e,h,λK' h'=>⟨m,e,h0,h'⟩⟩
theorem Vcut.pick{lo hi:Int}{sz n:Nat}{cells:List RV}{K:Nat->List RV->Prop}(h:Vcut lo hi sz n cells K): ∃m cs,K m cs/\∀K':Nat->List RV->Prop,K' m cs->Vcut lo hi sz n cells K':=by
 obtain⟨h0,h1,h2,m,cs,e,e',h⟩:=h;exact⟨m,cs,h,λK' h'=>⟨h0,h1,h2,m,cs,e,e',h'⟩⟩
theorem Vpub.pick{K:Bool->Prop}(h:Vpub K): ∃m,K m/\∀K':Bool->Prop,K' m->Vpub K':=by
 obtain⟨m,h⟩:=h;exact⟨m,h,λK' h'=>⟨m,h'⟩⟩
theorem Vmake.pick{n n':Int}{bytes:Nat}{zero:List Value}{K:Nat->List RV->Prop}(h:Vmake n n' bytes zero K): ∃m cs,K m cs/\∀K':Nat->List RV->Prop,K' m cs->Vmake n n' bytes zero K':=by
 obtain⟨h0,h1,h2,h3,m,cs,e,e',h⟩:=h;exact⟨m,cs,h,λK' h'=>⟨h0,h1,h2,h3,m,cs,e,e',h'⟩⟩
theorem Vcall.pick{f:FuncId}{vs:List RV}{K:Res->Prop}(h:Vcall P f vs K): ∃m,K m/\∀K':Res->Prop,K' m->Vcall P f vs K':=by
 obtain⟨ps,hc,m,hg,h⟩:=h;exact⟨m,h,λK' h'=>⟨ps,hc,m,hg,h'⟩⟩
theorem z83{op:BinOp}{k:IntKind}{a b:Int}{K:RV->Prop}(h:binv op k a b K): ∃v,K v/\∀K':RV->Prop,K' v->binv op k a b K':=by
 cases op<;>simp only[binv]at h⊢ <;>
  first
   |exact h.elim
   |(obtain⟨m,hm,hp⟩:=h.pick;exact⟨_,hm,λK' h'=>hp _ h'⟩)
theorem zti{f:TF}(h1: ∀id∈zao f,oget S'.O id=oget S.O id):S'.rv f=S.rv f:=by
 cases f with
 |r v=>rfl
 |own id=>simp only[St.rv];rw[h1 id (by simp[zao])]
 |adr id off=>rfl
 |nm id v=>rfl
theorem zffb{f:TF}(h2: ∀id∈zao f,∀e sz n cells,oget S.O id=some (.ch e sz n cells true)↔oget S'.O id=some (.ch e sz n cells true)):S'.rv f=S.rv f:=by
 cases f with
 |r v=>rfl
 |adr id off=>rfl
 |nm id v=>rfl
 |own id=>
  simp only[St.rv]
  have h:=h2 id (by simp[zao])
  split
  ·rename_i e sz n cells ho
   rw[(h e sz n cells).2 ho]
  ·rename_i hno
   split
   ·rename_i e sz n cells ho
    exact absurd ((h e sz n cells).1 ho) (hno e sz n cells)
   ·rfl
theorem z4c: ∀{fs:List TF},(∀f∈fs,∀id∈zao f,∀e sz n cells,oget S.O id=some (.ch e sz n cells true)↔oget S'.O id=some (.ch e sz n cells true))->S'.rvs fs=S.rvs fs
 |[],_=>rfl
 |f::fs,h=>by
  simp only[St.rvs]
  rw[zffb (h f (by simp)),z4c λf' hf=>h f' (by simp[hf])]
theorem zn6{x:Operand}{f:TF}(hx:x∈o.op.operands.toList)(hf:opr S x=some f){id:Nat}(hid:id∈zao f):id∈ids1 S o:=
 List.mem_flatMap.2 ⟨x,hx,by rw[hf];exact hid⟩
theorem zz0{l:List Nat}{id:Nat}{cells:List TF}(hid:id∈l)(ho:oget S.O id=some (.box cells)){f:TF}(hf:f∈cells){j:Nat}(hj:j∈zao f):j∈ids2 S l:=
 List.mem_flatMap.2 ⟨id,hid,by rw[ho];exact List.mem_flatMap.2 ⟨f,hf,hj⟩⟩
theorem zxw{ow:Option Ow}{off:Nat}{ti:TI}{K:TF->Prop}(hc: ∀cells,ow=some (.box cells)->∀f∈cells,∀id∈zao f,∀e sz n cells,oget S.O id=some (.ch e sz n cells true)↔oget S'.O id=some (.ch e sz n cells true))
  (h:ldOw S ow off ti K): ∃f,K f/\∀K':TF->Prop,K' f->ldOw S' ow off ti K':=by
 unfold ldOw at h⊢
 split at h
 ·rename_i cells
  split at h
  ·obtain⟨l,hl,h,hp⟩:=h.pick
   split at h
   ·rename_i vs hvs
    refine⟨_,h,λK' h'=>hp _ ?_⟩
    rw[z4c λf hf=>hc cells rfl f (List.mem_of_mem_drop (List.mem_of_mem_take (hl▸hf))),hvs]
    exact h'
   ·exact h.elim
  ·split at h
   ·exact⟨_,h,λK' h'=>h'⟩
   ·exact h.elim
 ·split at h
  ·obtain⟨l,_,h,hp⟩:=h.pick
   exact⟨_,h,λK' h'=>hp _ h'⟩
  ·obtain⟨l,h,hp⟩:=h.pick
   exact⟨_,h,λK' h'=>hp _ h'⟩
 ·exact h.elim
 ·exact h.elim
theorem zccb{f:TF}{ti:TI}{K:TF->Prop}(h1: ∀id∈zao f,oget S'.O id=oget S.O id)
  (h2: ∀id∈zao f,∀cells,oget S.O id=some (.box cells)->∀f∈cells,∀id∈zao f,∀e sz n cells,oget S.O id=some (.ch e sz n cells true)↔oget S'.O id=some (.ch e sz n cells true))
  (h:ldv S ti f K): ∃f',K f'/\∀K':TF->Prop,K' f'->ldv S' ti f K':=by
 unfold ldv at h⊢
 split at h
 ·rename_i id
  rw[h1 id (by simp[zao])]
  split at h
  ·rename_i cells ho
   exact zxw (λcs hcs=>h2 id (by simp[zao]) cs (ho.trans hcs)) h
  ·exact h.elim
 ·rename_i id off
  rw[h1 id (by simp[zao])]
  exact zxw (λcs hcs=>h2 id (by simp[zao]) cs hcs) h
 ·split at h
  ·obtain⟨l,_,h,hp⟩:=h.pick
   exact⟨_,h,λK' h'=>hp _ h'⟩
  ·obtain⟨l,h,hp⟩:=h.pick
   exact⟨_,h,λK' h'=>hp _ h'⟩
 ·exact h.elim
theorem z9v{t:TypeId}{f:TF}{i:Int}{K:TF->Prop}(h1: ∀id∈zao f,oget S'.O id=oget S.O id)(h:idxv S T t f i K): ∃f',K f'/\∀K':TF->Prop,K' f'->idxv S' T t f i K':=by
 unfold idxv at h⊢
 split at h
 ·split at h
  ·split at h
   ·split at h
    ·obtain⟨l,h,hp⟩:=h.pick
     exact⟨_,h,λK' h'=>hp _ h'⟩
    ·rename_i id
     rw[h1 id (by simp[zao])]
     split at h
     ·split at h
      ·obtain⟨l,h,hp⟩:=h.pick
       exact⟨_,h,λK' h'=>hp _ h'⟩
      ·obtain⟨l,h,hp⟩:=h.pick
       exact⟨_,h,λK' h'=>hp _ h'⟩
     ·exact h.elim
    ·exact h.elim
   ·exact h.elim
  ·split at h
   ·split at h
    ·rename_i id
     rw[h1 id (by simp[zao])]
     split at h
     ·obtain⟨l,h,hp⟩:=h.pick
      exact⟨_,h,λK' h'=>hp _ h'⟩
     ·exact h.elim
    ·obtain⟨l,h,hp⟩:=h.pick
     exact⟨_,h,λK' h'=>hp _ h'⟩
    ·obtain⟨l,h,hp⟩:=h.pick
     exact⟨_,h,λK' h'=>hp _ h'⟩
    ·exact h.elim
   ·exact h.elim
  ·exact h.elim
 ·exact h.elim
theorem zoy: ∀{xs:List Operand},(∀x∈xs,opr S' x=opr S x)->(∀x∈xs,∀f,opr S x=some f->∀id∈zao f,oget S'.O id=oget S.O id)->oprs S' xs=oprs S xs
 |[],_,_=>rfl
 |x::xs,h,h1=>by
  simp only[oprs]
  rw[h x (by simp)]
  split
  ·rename_i f hf
   rw[zti (h1 x (by simp) f hf),zoy (λy hy=>h y (by simp[hy])) λy hy=>h1 y (by simp[hy])]
  ·rfl
theorem znw{place:Nat->Option (Nat×Nat)}: ∀{parts:List (Nat×Operand)} {cells:List RV} {K:List RV->Prop},(∀p∈parts,opr S' p.2=opr S p.2)->(∀p∈parts,∀f,opr S p.2=some f->∀id∈zao f,oget S'.O id=oget S.O id)->
  zl4 S place cells parts K->∃c,K c/\∀K':List RV->Prop,K' c->zl4 S' place cells parts K'
 |[],cells,K,_,_,h=>⟨cells,h,λK' h'=>h'⟩
 |(i,x)::r,cells,K,ha,h1,h=>by
  simp only[zl4]at h⊢
  rw[ha (i,x) (by simp)]
  split at h
  ·rename_i off sz f hp hf
   simp only[hp,hf]
   rw[zti (h1 (i,x) (by simp) f hf)]
   split at h
   ·split at h
    ·rename_i v hv hok
     obtain⟨c,hK,hp⟩:=znw (λp hp=>ha p (by simp[hp])) (λp hp=>h1 p (by simp[hp])) h
     exact⟨c,hK,λK' h'=>hp K' h'⟩
    ·exact h.elim
   ·exact h.elim
  ·exact h.elim
theorem Vfun.pick{xs:List Operand}{K:RV->Prop}(h0: ∀x∈xs,opr S' x=opr S x)(h1: ∀x∈xs,∀f,opr S x=some f->∀id∈zao f,oget S'.O id=oget S.O id)(h:Vfun P S o xs K): ∃r,K r/\∀K':RV->Prop,K' r->Vfun P S' o xs K':=by
 obtain⟨rs,hrs,r,hf,hK⟩:=h
 exact⟨r,hK,λK' h'=>⟨rs,(zoy h0 h1).trans hrs,r,hf,h'⟩⟩
theorem zpk(hrd:zd4 o.op=true)(hA:Agree S S' o){K:TF->Option Ow->Prop}(h:valv P T S o K): ∃f ow,K f ow/\∀K':TF->Option Ow->Prop,K' f ow->valv P T S' o K':=by
 have one: ∀{x:Operand} {f:TF},x∈o.op.operands.toList->opr S x=some f->∀id∈zao f,oget S'.O id=oget S.O id:=λhx hf id hid=>hA.one id (zn6 hx hf hid)
 have two: ∀{x:Operand} {f:TF},x∈o.op.operands.toList->opr S x=some f->∀id∈zao f,∀cells,oget S.O id=some (.box cells)->∀f∈cells,∀id∈zao f,∀e sz n cells,oget S.O id=some (.ch e sz n cells true)↔oget S'.O id=some (.ch e sz n cells true):=
  λhx hf id hid cells ho f' hf' j hj=>hA.two j (zz0 (zn6 hx hf hid) ho hf' hj)
 have hop':=hA.op
 unfold valv at h⊢
 cases hop:o.op<;>rw[hop]at h hop' one two hrd<;>simp only[zyw]at h⊢
 case move x=>
  rw[hop' x (by simp[Op.operands])]
  split at h
  ·rename_i f hf;exact⟨f,none,h,λK' h'=>h'⟩
  ·exact h.elim
 case assign x=>
  rw[hop' x (by simp[Op.operands])]
  split at h
  ·rename_i f hf;exact⟨f,none,h,λK' h'=>h'⟩
  ·exact h.elim
 case pick c x y=>
  rw[hop' c (by simp[Op.operands]),hop' x (by simp[Op.operands]),hop' y (by simp[Op.operands])]
  split at h
  ·split at h
   ·split at h
    ·rename_i f hf;exact⟨f,none,h,λK' h'=>h'⟩
    ·exact h.elim
   ·split at h
    ·rename_i f hf;exact⟨f,none,h,λK' h'=>h'⟩
    ·exact h.elim
  ·exact h.elim
 case nilCheck x=>
  rw[hop' x (by simp[Op.operands])]
  split at h
  ·rename_i id hx
   rw[one (x:=x) (by simp[Op.operands]) hx id (by simp[zao])]
   split at h
   ·exact⟨_,none,h,λK' h'=>h'⟩
   ·exact h.elim
  ·exact⟨_,none,h,λK' h'=>h'⟩
  ·exact⟨_,none,h,λK' h'=>h'⟩
  ·exact h.elim
 case alloc t=>
  rw[hA.nx]
  split at h
  ·exact⟨_,_,h,λK' h'=>h'⟩
  ·exact h.elim
 case box t x=>
  rw[hop' x (by simp[Op.operands]),hA.nx]
  split at h
  ·exact⟨_,_,h,λK' h'=>h'⟩
  ·split at h
   ·exact⟨_,_,h,λK' h'=>h'⟩
   ·exact h.elim
  ·rename_i id hx
   rw[one (x:=x) (by simp[Op.operands]) hx id (by simp[zao])]
   split at h
   ·exact⟨_,_,h,λK' h'=>h'⟩
   ·exact h.elim
  ·exact⟨_,_,h,λK' h'=>h'⟩
  ·exact h.elim
  ·exact h.elim
 case load t x=>
  rw[hop' x (by simp[Op.operands])]
  split at h
  ·rename_i ti f hti hx
   obtain⟨f',hK,hp⟩:=zccb (one (x:=x) (by simp[Op.operands]) hx) (two (x:=x) (by simp[Op.operands]) hx) h
   exact⟨f',none,hK,λK' h'=>hp _ h'⟩
  ·exact h.elim
 case fieldAddr t x i=>
  rw[hop' x (by simp[Op.operands])]
  split at h
  ·rename_i ti f hti hx
   split at h
   ·split at h
    ·split at h
     ·exact h.elim
     ·split at h
      ·rename_i id
       rw[one (x:=x) (by simp[Op.operands]) hx id (by simp[zao])]
       split at h
       ·exact⟨_,none,h,λK' h'=>h'⟩
       ·exact h.elim
      ·exact⟨_,none,h,λK' h'=>h'⟩
      ·exact⟨_,none,h,λK' h'=>h'⟩
      ·exact h.elim
    ·exact h.elim
   ·exact h.elim
  ·exact h.elim
 case indexAddr t x i=>
  rw[hop' x (by simp[Op.operands]),hop' i (by simp[Op.operands])]
  split at h
  ·rename_i f kd n hx hi
   obtain⟨f',hK,hp⟩:=z9v (one (x:=x) (by simp[Op.operands]) hx) h
   exact⟨f',none,hK,λK' h'=>hp _ h'⟩
  ·exact h.elim
 case binOp op t x y t2=>
  rw[hop' x (by simp[Op.operands]),hop' y (by simp[Op.operands])]
  split at h
  ·split at h
   ·obtain⟨m,hm,hp⟩:=h.pick;exact⟨_,none,hm,λK' h'=>hp _ h'⟩
   ·obtain⟨m,hm,hp⟩:=h.pick;exact⟨_,none,hm,λK' h'=>hp _ h'⟩
   ·split at h
    ·obtain⟨m,hm,hp⟩:=z83 h;exact⟨_,none,hm,λK' h'=>hp _ h'⟩
    ·exact h.elim
  ·split at h
   ·exact⟨_,none,h.2,λK' h'=>⟨h.1,h'⟩⟩
   ·obtain⟨m,hm,hp⟩:=h.pick;exact⟨_,none,hm,λK' h'=>hp _ h'⟩
   ·obtain⟨m,hm,hp⟩:=h.pick;exact⟨_,none,hm,λK' h'=>hp _ h'⟩
   ·exact h.elim
  ·split at h
   ·split at h
    ·split at h
     ·obtain⟨m,hm,hp⟩:=h.pick;exact⟨_,none,hm,λK' h'=>hp _ h'⟩
     ·obtain⟨m,hm,hp⟩:=h.pick;exact⟨_,none,hm,λK' h'=>hp _ h'⟩
     ·exact h.elim
    ·exact h.elim
   ·exact h.elim
  ·rename_i id hx hy
   rw[one (x:=x) (by simp[Op.operands]) hx id (by simp[zao])]
   split at h
   ·split at h
    ·exact⟨_,none,h.out.2,λK' h'=>⟨h.out.1,h'⟩⟩
    ·exact⟨_,none,h.out.2,λK' h'=>⟨h.out.1,h'⟩⟩
    ·exact h.elim
   ·exact h.elim
  ·obtain⟨r,hK,hp⟩:=Vfun.pick (S':=S') (λz hz=>hop' z (by simpa[Op.operands]using hz)) (λz hz f hf=>one (x:=z) (by simpa[Op.operands]using hz) hf) h
   exact⟨_,none,hK,λK' h'=>hp _ h'⟩
 case unOp op t x=>
  rw[hop' x (by simp[Op.operands])]
  split at h
  ·split at h
   ·obtain⟨m,hm,hp⟩:=h.pick;exact⟨_,none,hm,λK' h'=>hp _ h'⟩
   ·exact h.elim
  ·split at h
   ·obtain⟨m,hm,hp⟩:=h.pick;exact⟨_,none,hm,λK' h'=>hp _ h'⟩
   ·obtain⟨m,hm,hp⟩:=h.pick;exact⟨_,none,hm,λK' h'=>hp _ h'⟩
   ·exact h.elim
  ·obtain⟨r,hK,hp⟩:=Vfun.pick (S':=S') (λz hz=>hop' z (by simpa[Op.operands]using hz)) (λz hz f hf=>one (x:=z) (by simpa[Op.operands]using hz) hf) h
   exact⟨_,none,hK,λK' h'=>hp _ h'⟩
 case convert t0 t x=>
  rw[hop' x (by simp[Op.operands])]
  split at h
  ·split at h
   ·obtain⟨m,hm,hp⟩:=h.pick;exact⟨_,none,hm,λK' h'=>hp _ h'⟩
   ·obtain⟨r,hK,hp⟩:=Vfun.pick (S':=S') (λz hz=>hop' z (by simpa[Op.operands]using hz)) (λz hz f hf=>one (x:=z) (by simpa[Op.operands]using hz) hf) h
    exact⟨_,none,hK,λK' h'=>hp _ h'⟩
  ·obtain⟨r,hK,hp⟩:=Vfun.pick (S':=S') (λz hz=>hop' z (by simpa[Op.operands]using hz)) (λz hz f hf=>one (x:=z) (by simpa[Op.operands]using hz) hf) h
   exact⟨_,none,hK,λK' h'=>hp _ h'⟩
 case extract x i=>
  rw[hop' x (by simp[Op.operands])]
  split at h
  ·split at h
   ·exact⟨_,none,h,λK' h'=>h'⟩
   ·exact h.elim
  ·exact h.elim
 case build t parts=>
  split at h
  ·split at h
   ·obtain⟨c,hK,hp⟩:=znw (S':=S') (λp hp=>hop' p.2 (by simp[Op.operands];exact⟨p.1,by simpa using hp⟩)) (λp hp f hf=>one (x:=p.2) (by simp[Op.operands];exact⟨p.1,by simpa using hp⟩) hf) h
    exact⟨_,none,hK,λK' h'=>hp _ h'⟩
   ·exact h.elim
  ·exact h.elim
 case buildSlice t n parts=>
  rw[hA.nx]
  split at h
  ·split at h
   ·split at h
    ·split at h
     ·obtain⟨c,hK,hp⟩:=znw (S':=S') (λp hp=>hop' p.2 (by simp[Op.operands];exact⟨p.1,by simpa using hp⟩)) (λp hp f hf=>one (x:=p.2) (by simp[Op.operands];exact⟨p.1,by simpa using hp⟩) hf) h
      obtain⟨pub,hK,hp2⟩:=hK.pick
      exact⟨_,_,hK,λK' h'=>hp _ (hp2 _ h')⟩
     ·exact h.elim
    ·exact h.elim
   ·exact h.elim
  ·exact h.elim
 case slice t x lo hi mx=>
  rw[hop' x (by simp[Op.operands])]
  split at h
  ·rename_i ti f hti hx
   rw[zti (one (x:=x) (by simp[Op.operands]) hx)]
   split at h
   ·split at h
    ·exact h.elim
    ·have hlo: ∀d,optv S' lo d=optv S lo d:=λd=>by
      cases lo with
      |none=>rfl
      |some l=>exact hop' l (by simp[Op.operands])
     have hhi: ∀d,optv S' hi d=optv S hi d:=λd=>by
      cases hi with
      |none=>rfl
      |some l=>exact hop' l (by simp[Op.operands])
     rw[hlo,hhi]
     split at h
     ·obtain⟨m,cs,hK,hp⟩:=h.pick
      exact⟨_,none,hK,λK' h'=>hp _ h'⟩
     ·exact h.elim
   ·exact h.elim
  ·exact h.elim
 case makeSlice t l c=>
  rw[hop' l (by simp[Op.operands]),hop' c (by simp[Op.operands]),hA.nx]
  split at h
  ·split at h
   ·split at h
    ·obtain⟨j,zs,h,hp⟩:=h.pick
     obtain⟨pub,hK,hp2⟩:=h.pick
     exact⟨_,_,hK,λK' h'=>hp _ (hp2 _ h')⟩
    ·exact h.elim
   ·exact h.elim
  ·exact h.elim
 case call c=>
  have hargs: ∀x∈c.args.toList,x∈(Op.call c).operands.toList:=λx hx=>by simp only[Op.operands,Call.operands,Array.toList_append];exact List.mem_append_right _ hx
  split at h
  ·split at h
   ·unfold lenv at h⊢
    split at h
    ·rename_i x t hxs hts
     rw[hop' x (hargs x (by rw[hxs];simp))]
     split at h
     ·rename_i ti f hti hx
      split at h
      ·split at h
       ·exact⟨_,none,h,λK' h'=>h'⟩
       ·exact⟨_,none,h,λK' h'=>h'⟩
       ·rename_i id
        rw[one (x:=x) (hargs x (by rw[hxs];simp)) hx id (by simp[zao])]
        split at h
        ·exact⟨_,none,h,λK' h'=>h'⟩
        ·exact h.elim
       ·exact h.elim
      ·split at h
       ·exact⟨_,none,h,λK' h'=>h'⟩
       ·exact h.elim
      ·exact h.elim
     ·exact h.elim
    ·exact h.elim
   ·obtain⟨r,hK,hp⟩:=Vfun.pick (S':=S') (λz hz=>hop' z (hargs z hz)) (λz hz f hf=>one (x:=z) (hargs z hz) hf) h
    exact⟨_,none,hK,λK' h'=>hp _ h'⟩
   ·obtain⟨r,hK,hp⟩:=Vfun.pick (S':=S') (λz hz=>hop' z (hargs z hz)) (λz hz f hf=>one (x:=z) (hargs z hz) hf) h
    exact⟨_,none,hK,λK' h'=>hp _ h'⟩
   ·obtain⟨r,hK,hp⟩:=Vfun.pick (S':=S') (λz hz=>hop' z (hargs z hz)) (λz hz f hf=>one (x:=z) (hargs z hz) hf) h
    exact⟨_,none,hK,λK' h'=>hp _ h'⟩
   ·exfalso
    simp_all [zd4]
  ·split at h
   ·unfold z66 at h⊢
    rw[zoy (λx hx=>hop' x (hargs x hx)) λx hx f hf=>one (hargs x hx) hf]
    split at h
    ·obtain⟨res,hK,hp⟩:=h.pick
     cases res with
     |r v=>exact⟨_,_,hK,λK' h'=>hp _ h'⟩
     |ch e sz n cells=>exact⟨_,_,hK,λK' h'=>hp _ (by simp only[resK];rw[hA.nx];exact h')⟩
     |own e sz n cells=>exact⟨_,_,hK,λK' h'=>hp _ (by simp only[resK];rw[hA.nx];exact h')⟩
     |bx cells=>exact⟨_,_,hK,λK' h'=>hp _ (by simp only[resK];rw[hA.nx];exact h')⟩
    ·exact h.elim
   ·exfalso
    simp only[zd4]at hrd
    split at hrd<;>simp_all
    rename_i he hne _
    exact hne _ he.symm
  ·exact h.elim
 all_goals simp[zd4]at hrd
end
end
end Go.Proofs.YtpdllgbfemnemaaGreat.Sx
