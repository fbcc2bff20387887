import Derived.Test.YtoegdgbghdnnfaaGreatZSxF
namespace Go.Proofs.YtoegdgbghdnnfaaGreat.Sx
open Go.RowKit
section
variable {P:Program} {T:TT} {B:Bs} {N:Nat} {S:St} {a:Act} {w:World} {k:Kp} {g:Env} {o:Oper} {Q:Exit->Act->World->Prop}
structure Wrote (w:World) (k:Kp) (w':World) (k':Kp) (ob:Option Nat):Prop where
 os:w'.os=w.os
 tape:w'.tape=w.tape
 output:w'.output=w.output
 size:w.heap.size<=w'.heap.size
 block: ∀b,b<w.heap.size->some b≠ob->w'.heap[b]?=w.heap[b]?/\k' b=k b
 part: ∀b,some b=ob->k b<=k' b/\(∀o,o<k b->w'.cell? ⟨b,o,none⟩=w.cell? ⟨b,o,none⟩)/\(0<k b->∀es c,w.heap[b]?=some (.map es c)->w'.heap[b]?=some (.map es c))
theorem Wrote.le{w':World}{k':Kp}{ob:Option Nat}(h:Wrote w k w' k' ob):Le w k w' k':=by
 refine⟨h.size,λb hb=>?_,λb o hb ho=>?_,λb hb hk es c e=>?_⟩
 ·by_cases e:some b=ob
  ·exact(h.part b e).1
  ·exact Nat.le_of_eq (h.block b hb e).2.symm
 ·by_cases e:some b=ob
  ·exact(h.part b e).2.1 o ho
  ·exact World.cell?_of_block (a:=⟨b,o,none⟩) (h.block b hb e).1
 ·by_cases e':some b=ob
  ·exact(h.part b e').2.2 hk es c e
  ·exact(h.block b hb e').1.trans e
def idOk(S:St)(g:Env)(ob:Option Nat):Option Nat->Prop
 |some i=>(∃o,oget S.O i=some o)/\(g i).2=ob
 |none=>ob=none
theorem SatE.wrote(hs:SatE B N S a w k g){w':World}{k':Kp}{ob:Option Nat}(h:Wrote w k w' k' ob){id:Option Nat}
  (hid:idOk S g ob id):
  SatE B N (S.strike id) a w' k' g:=by
 have hle:=h.le
 have hold: ∀b,b<B.w.heap.size->b∉B.X->some b≠ob:=λb hb hx e=>by
  cases id with
  |none=>simp only[idOk]at hid;rw[hid]at e;cases e
  |some i=>
   obtain⟨⟨o,ho⟩,hg⟩:=hid
   rcases((hs.owns i o ho).2.2.2 b (hg.trans e.symm)).1 with h1 |h1
   ·omega
   ·exact hx h1
 have hkeep:Keep B.X B.w w':=⟨h.os.trans hs.keep.os,h.tape.trans hs.keep.tape,h.output.trans hs.keep.output,Nat.le_trans hs.keep.size h.size,
  λb hb hx=>(h.block b (Nat.lt_of_lt_of_le hb hs.keep.size) (hold b hb hx)).1.trans (hs.keep.block b hb hx)⟩
 have hkk: ∀b,b<B.w.heap.size->b∉B.X->k' b=B.k b:=λb hb hx=>(h.block b (Nat.lt_of_lt_of_le hb hs.keep.size) (hold b hb hx)).2.trans (hs.kk b hb hx)
 have own: ∀i' o',oget S.O i'=some o'->(∀i,id=some i->i≠i')->i'<S.nx/\o'.lt S.nx/\o'.at_ w' k' g (g i')/\∀b,(g i').2=some b->(B.w.heap.size<=b\/b∈B.X)/\b<w'.heap.size:=λi' o' ho' hne=>by
  obtain⟨h1,h2,h3,h4⟩:=hs.owns i' o' ho'
  refine⟨h1,h2,Ow.mono hle (λb hb=>h.block b (h4 b hb).2 λe=>?_) h3,λb hb=>⟨(h4 b hb).1,Nat.lt_of_lt_of_le (h4 b hb).2 h.size⟩⟩
  cases id with
  |none=>simp only[idOk]at hid;rw[hid]at e;cases e
  |some i=>
   obtain⟨⟨o,ho⟩,hg⟩:=hid
   exact hs.apart i i' o o' b ho ho' (hne i rfl) (hg.trans e.symm) hb
 cases id with
 |none=>exact⟨hs.size,hs.defers,hkeep,hkk,λt f hf=>⟨(hs.facts t f hf).1,TF.mono hle (hs.facts t f hf).2⟩,λi' o' ho'=>own i' o' ho' (λ_ h=>by cases h),hs.apart⟩
 |some i=>
  refine⟨hs.size,hs.defers,hkeep,hkk,λt f hf=>⟨(hs.facts t f hf).1,TF.mono hle (hs.facts t f hf).2⟩,λi' o' ho'=>?_,λx y o1 o2 b hx hy hne=>?_⟩
  ·rcases zav ho' with⟨_,e⟩ |⟨hne,ho'⟩
   ·cases e
   ·exact own i' o' ho' λj hj=>by cases hj;exact hne
  ·rcases zav hx with⟨_,e⟩ |⟨_,hx⟩
   ·cases e
   rcases zav hy with⟨_,e⟩ |⟨_,hy⟩
   ·cases e
   exact hs.apart x y o1 o2 b hx hy hne
theorem SatE.adopt(hs:SatE B N S a w k g){dst:Option Nat}(hd: ∀d,dst=some d->d<N){o:Ow}{vb:Value×Option Nat}(hl:o.lt S.nx)(ho:o.at_ w k g vb)
  (hb: ∀b,vb.2=some b->(B.w.heap.size<=b\/b∈B.X)/\b<w.heap.size) (hap: ∀i o' b,oget S.O i=some o'->vb.2=some b->(g i).2≠some b):
  SatE B N (S.mk_ dst o) (a.put dst vb.1) w k (g.set S.nx vb):=by
 have hlt:S.nx<=S.nx+1:=Nat.le_succ _
 have hset: ∀i,i<S.nx->g.set S.nx vb i=g i:=Env.set_lt
 have h2:SatE B N {F:=S.F,O:=(S.nx,some o)::S.O,nx:=S.nx+1} a w k (g.set S.nx vb):=by
  refine⟨hs.size,hs.defers,hs.keep,hs.kk,λt f hf=>?_,λid o' ho'=>?_,λi j oi oj b hi hj hne hbi=>?_⟩
  ·have:=hs.facts t f hf
   exact⟨TF.lt_mono hlt this.1,TF.env hset this.1 this.2⟩
  ·rcases zav ho' with⟨rfl,e⟩ |⟨hne,h⟩
   ·cases e
    exact⟨Nat.lt_succ_self _,Ow.lt_mono hlt hl,by rw[Env.set_eq];exact Ow.env hset hl ho,λb hbb=>by rw[Env.set_eq]at hbb;exact hb b hbb⟩
   ·obtain⟨q1,q2,q3,q4⟩:=hs.owns id o' h
    refine⟨Nat.lt_succ_of_lt q1,Ow.lt_mono hlt q2,?_,?_⟩
    ·rw[hset id q1];exact Ow.env hset q2 q3
    ·rw[hset id q1];exact q4
  ·rcases zav hi with⟨rfl,e⟩ |⟨hni,hi⟩
   ·rw[Env.set_eq]at hbi
    rcases zav hj with⟨rfl,_⟩ |⟨hnj,hj⟩
    ·exact absurd rfl hne
    ·rw[hset j (hs.owns j oj hj).1];exact hap j oj b hj hbi
   ·rw[hset i (hs.owns i oi hi).1]at hbi
    rcases zav hj with⟨rfl,_⟩ |⟨hnj,hj⟩
    ·rw[Env.set_eq];intro hbj;exact hap i oi b hi hbj hbi
    ·rw[hset j (hs.owns j oj hj).1];exact hs.apart i j oi oj b hi hj hne hbi
 cases dst with
 |none=>exact h2
 |some d=>exact h2.put (dst:=some d) hd (f:= .own S.nx) (v:=vb.1) (Nat.lt_succ_self _) (by simp[TF.at_,Env.set_eq])
theorem zc3b{t ty e:TypeId}{i:TypeInfo}{z:Value}{size bytes:Nat}(ht:P.underlying t=some (.slice e))(hi:P.info? e=some i)(hz:i.zero=some z)
  (hsize:i.size=size) (hby:i.bytes=bytes) (hzs:z.cells.size=size)
  {n:Nat} {cells:List RV} {pub:Bool} {u:Value} {ob:Option Nat} (hch:chAt w k e size n cells pub u ob)
  {qb qo m c:Nat} {news:List Value} (hl:news.length=m*size) (hnews: ∀j u,news[j]?=some u->w.cell? ⟨qb,qo+j,none⟩=some u) (h1: ∀u∈news,u.oneCell'=true)
  (hm:0<m) (h63:n+m<=maxLen) (hbytes:(n+m)*bytes<=140737488355328):
  ∃xs b cap cur w',(Builtin.append_ #[t,t] ty #[u, .slice (some ⟨qb,qo,none⟩) m c]).run P w= .ok (.slice (some ⟨b,0,none⟩) (n+m) cap) w'/\RV.listAt w k cells xs/\
   w'.heap[b]?=some (.cells cur e (0,0))/\n+m<=cap/\cap<=maxLen/\cap*size<=cur.size/\cur.toList.take ((n+m)*size)=xs++news/\w.grownBy w' ob/\(ob=some b\/b=w.heap.size)/\
   (∀b0,ob=some b0->(∃cur0,w.heap[b0]?=some (.cells cur0 e (0,0))/\cur0.toList.take (n*size)=xs)/\(b=b0\/b=w.heap.size/\w'.heap[b0]?=w.heap[b0]?)):=by
 obtain⟨hcl,hch⟩:=hch
 have hnews': ∀j u,news[j]?=some u->w.cell? ((⟨qb,qo,none⟩:Addr).add j)=some u:=λj u hu=>by rw[Addr.add_mid];exact hnews j u hu
 rcases hch with⟨rfl,⟨rfl,p,rfl⟩ |⟨hn0,_,b,o,rfl,hnm,hbl,hcell⟩⟩ |⟨b,cap,cur,rfl,rfl,hh,hnc,hcm,hcs,hkb,hlist⟩
 ·have hc0:cells=[]:=List.eq_nil_of_length_eq_zero (by simpa using hcl)
  subst hc0
  have hnl:=h63
  simp only[maxLen]at hnl
  have fin: ∀(c:Nat),0+m<=c->c<=maxLen->∀(cur:Array Value),cur.size=c*size->cur.toList.take ((0+m)*size)=news->
    (w.drew.alloc (.cells cur e)).heap[w.heap.size]?=some (.cells cur e (0,0))/\0+m<=c/\c<=maxLen/\c*size<=cur.size/\cur.toList.take ((0+m)*size)=[]++news/\w.grownBy (w.drew.alloc (.cells cur e)) none:=λc hc hcm cur hcs htk=>
   ⟨heap_alloc_new w.drew _,hc,hcm,Nat.le_of_eq hcs.symm,htk,⟨rfl,rfl,rfl,by simp,λk hk _=>Below.heap_alloc w.drew _ k hk⟩⟩
  cases p with
  |none=>
   have hr:=run_append_nil (P:=P) w t ty e i z ht hi hz ⟨qb,qo,none⟩ m c news (by rw[hsize];exact hl) hnews' hm (by omega) (by rw[hby];rw[Nat.zero_add]at hbytes;omega)
   have hge:=grownCap_ge w m 0 e
   have hcm:=grownCap_le_maxLen w m 0 e (by omega)
   obtain⟨f1,f2,f3,f4,f5,f6⟩:=fin (grownCap w m 0 e) (by omega) hcm (news.toArray++Builtin.zeroCells z.cells (grownCap w m 0 e-m)) (by
    simp only[Array.size_append,List.size_toArray,size_zeroCells,hzs,hl,<-Nat.add_mul]
    congr 1;omega) (by
    simp only[Array.toList_append,Nat.zero_add]
    rw[<-hl]
    exact List.take_left)
   exact⟨[],w.heap.size,_,_,_,by rw[Nat.zero_add];exact hr,by simp[RV.listAt],f1,f2,f3,f4,f5,f6, .inr rfl,λb0 h=>by cases h⟩
  |some p=>
   have hr:=run_append_grow (P:=P) w t ty e i z ht hi hz p 0 0 [] (by simp) (by simp) ⟨qb,qo,none⟩ m c news (by rw[hsize];exact hl) hnews' (by omega) (by omega) (growslice_fits (by omega) (by rw[hby];exact hbytes))
   have hge:=grownCap_ge w (0+m) 0 e
   have hcm:=grownCap_le_maxLen w (0+m) 0 e h63
   obtain⟨f1,f2,f3,f4,f5,f6⟩:=fin (grownCap w (0+m) 0 e) hge hcm (([]:List Value).toArray++news.toArray++Builtin.zeroCells z.cells (grownCap w (0+m) 0 e-(0+m))) (by
    simp only[Array.size_append,List.size_toArray,List.length_nil,Nat.zero_add,size_zeroCells,hzs,hl,<-Nat.add_mul]
    congr 1;rw[Nat.zero_add]at hge;omega) (by
    simp only[Array.toList_append,Nat.zero_add,List.nil_append]
    rw[<-hl]
    exact List.take_left)
   exact⟨[],w.heap.size,_,_,_,hr,by simp[RV.listAt],f1,f2,f3,f4,f5,f6, .inr rfl,λb0 h=>by cases h⟩
 ·obtain⟨xs,hlist,hxl,hcell⟩:=RV.cells_list cells o hcell
  have hnl:=h63
  simp only[maxLen]at hnl
  have hr:=run_append_grow (P:=P) w t ty e i z ht hi hz ⟨b,o,none⟩ n n xs (by rw[hsize,hxl,hcl]) (λj v hj=>by rw[Addr.add_mid];exact hcell j v hj) ⟨qb,qo,none⟩ m c news (by rw[hsize];exact hl) hnews' (by omega) (by omega) (growslice_fits (by omega) (by rw[hby];exact hbytes))
  have hge:=grownCap_ge w (n+m) n e
  have hcm':=grownCap_le_maxLen w (n+m) n e h63
  refine⟨xs,w.heap.size,_,_,_,hr,hlist,heap_alloc_new w.drew _,hge,hcm',?_,?_,⟨rfl,rfl,rfl,by simp,λk hk _=>Below.heap_alloc w.drew _ k hk⟩, .inr rfl,λb0 hb0=>by cases hb0⟩
  ·simp only[Array.size_append,List.size_toArray,size_zeroCells,hzs,hl,hxl,hcl,<-Nat.add_mul]
   refine Nat.le_of_eq ?_
   congr 1;omega
  ·simp only[Array.toList_append]
   rw[show(n+m)*size=(xs++news).length by rw[bL,hxl,hcl,hl,Nat.add_mul]]
   exact List.take_left
 ·have hxl:(cur.toList.take (n*size)).length=n*size:=by rw[za7 hlist,hcl]
  have hlt:b<w.heap.size:=(Array.getElem?_eq_some_iff.1 hh).1
  have hnl:=h63
  simp only[maxLen]at hnl
  by_cases hfit:n+m<=cap
  ·have hmul:(n+m)*size<=cap*size:=Nat.mul_le_mul_right _ hfit
   rw[Nat.add_mul]at hmul
   have hr:=run_append_room (P:=P) w t ty e i ht hi b n cap cur hh ⟨qb,qo,none⟩ m c news (by rw[hsize];exact hl) hnews' h1 hfit (by rw[hsize,hl];omega)
   rw[hsize,hl]at hr
   refine⟨_,b,cap,_,_,hr,hlist,setRow_heap w b cur _ e (0,0) hh,hfit,hcm,?_,?_,⟨rfl,rfl,rfl,by simp[World.setRow],λx hx hne=>setRow_other w b x _ (λh=>hne (by rw[h]))⟩, .inl rfl,λb0 hb0=>?_⟩
   ·simp only[List.size_toArray,bL,hxl,hl,List.length_drop,Array.length_toList]
    omega
   ·rw[show(n+m)*size=(cur.toList.take (n*size)++news).length by rw[bL,hxl,hl,Nat.add_mul],List.toList_toArray]
    exact List.take_left
   ·cases hb0
    exact⟨⟨cur,hh,rfl⟩, .inl rfl⟩
  ·have hr:=run_append_grow (P:=P) w t ty e i z ht hi hz ⟨b,0,none⟩ n cap (cur.toList.take (n*size)) (by rw[hsize];exact hxl) (λj v hj=>by
    rw[Addr.add_mid,Nat.zero_add,cell_of_row w b j cur e (0,0) hh]
    rw[List.getElem?_take]at hj
    split at hj
    ·simpa using hj
    ·cases hj) ⟨qb,qo,none⟩ m c news (by rw[hsize];exact hl) hnews' (by omega) (by omega) (growslice_fits (by omega) (by rw[hby];exact hbytes))
   have hge:=grownCap_ge w (n+m) cap e
   have hcm':=grownCap_le_maxLen w (n+m) cap e h63
   refine⟨_,w.heap.size,_,_,_,hr,hlist,heap_alloc_new w.drew _,hge,hcm',?_,?_,⟨rfl,rfl,rfl,by simp,λk hk _=>Below.heap_alloc w.drew _ k hk⟩, .inr rfl,λb0 hb0=>?_⟩
   ·simp only[Array.size_append,List.size_toArray,size_zeroCells,hzs,hl,hxl,<-Nat.add_mul]
    refine Nat.le_of_eq ?_
    congr 1;omega
   ·simp only[Array.toList_append]
    rw[show(n+m)*size=(cur.toList.take (n*size)++news).length by rw[bL,hxl,hl,Nat.add_mul]]
    exact List.take_left
   ·cases hb0
    exact⟨⟨cur,hh,rfl⟩, .inr ⟨rfl,Below.heap_alloc w.drew _ b hlt⟩⟩
theorem zye(hs:SatE B N S a w k g){e:TypeId}{sz:Nat}{f:TF}{u:Value}{id:Option Nat}{e':TypeId}{sz' n:Nat}{cells:List RV}{pub:Bool}(h:lhsv S e sz f=some (id,e',sz',n,cells,pub))(hu:f.at_ w k g u):
  ∃ob,chAt w k e' sz' n cells pub u ob/\idOk S g ob id:=by
 unfold lhsv at h
 split at h
 ·split at h
  ·rename_i hoo
   simp only[Option.some.injEq,Prod.mk.injEq]at h
   obtain⟨rfl,rfl,rfl,rfl,rfl,rfl⟩:=h
   have hat:=(hs.owns _ _ hoo).2.2.1
   simp only[Ow.at_]at hat
   simp only[TF.at_]at hu
   rw[hu]
   exact⟨_,hat,⟨_,hoo⟩,rfl⟩
  ·cases h
 ·simp only[Option.some.injEq,Prod.mk.injEq]at h
  obtain⟨rfl,rfl,rfl,rfl,rfl,rfl⟩:=h
  simp only[TF.at_,RV.at_]at hu
  exact⟨none,⟨by simp, .inl ⟨rfl, .inl ⟨rfl,none,hu⟩⟩⟩,rfl⟩
 ·cases h
theorem zss(hs:SatE B N S a w k g){sz:Nat}{f:TF}{u:Value}{sz' m:Nat}{ys:List RV}(h:rhsv S sz f=some (sz',m,ys))(hu:f.at_ w k g u):
  ∃qa qc us,u= .slice qa m qc/\RV.listAt w k ys us/\us.length=m*sz'/\(0<m->∃b o,qa=some ⟨b,o,none⟩/\∀j v,us[j]?=some v->w.cell? ⟨b,o+j,none⟩=some v):=by
 unfold rhsv at h
 split at h
 ·split at h
  ·rename_i e sz2 m2 ys2 pub hoo
   simp only[Option.some.injEq,Prod.mk.injEq]at h
   obtain⟨rfl,rfl,rfl⟩:=h
   have hat:=(hs.owns _ _ hoo).2.2.1
   simp only[Ow.at_]at hat
   simp only[TF.at_]at hu
   obtain⟨hl,hat⟩:=hat
   rcases hat with⟨_,⟨rfl,p,e⟩ |⟨hn,_,b,o,e,hm,hb,hc⟩⟩ |⟨b,cap,cur,_,e,hh,h1,h2,h3,h4,h5⟩
   ·have:ys2=[]:=List.eq_nil_of_length_eq_zero (by simpa using hl)
    subst this
    exact⟨p,0,[],hu.trans e,by simp[RV.listAt],by simp,λh=>absurd h (by omega)⟩
   ·obtain⟨us,q1,q2,q3⟩:=RV.cells_list ys2 o hc
    exact⟨_,m2,us,hu.trans e,q1,q2.trans hl,λ_=>⟨b,o,rfl,q3⟩⟩
   ·refine⟨_,cap,_,hu.trans e,h5,(za7 h5).trans hl,λ_=>⟨b,0,rfl,λj v hj=>?_⟩⟩
    rw[Nat.zero_add,cell_of_row w b j cur _ (0,0) hh]
    rw[List.getElem?_take]at hj
    split at hj
    ·simpa using hj
    ·cases hj
  ·cases h
 ·rename_i sz2 m ys
  simp only[Option.some.injEq,Prod.mk.injEq]at h
  obtain⟨rfl,rfl,rfl⟩:=h
  simp only[TF.at_,RV.at_]at hu
  obtain⟨p,c,e,h1,h2,h3,h4⟩:=hu
  by_cases hm:0<m
  ·obtain⟨b,o,rfl,hb,hc⟩:=h4 hm
   obtain⟨us,q1,q2,q3⟩:=RV.cells_list ys o hc
   exact⟨_,c,us,e,q1,q2.trans h3,λ_=>⟨b,o,rfl,q3⟩⟩
  ·obtain rfl:m=0:=by omega
   have:ys=[]:=List.eq_nil_of_length_eq_zero (by simpa using h3)
   subst this
   exact⟨p,c,[],e,by simp[RV.listAt],by simp,λh=>absurd h (by omega)⟩
 ·simp only[Option.some.injEq,Prod.mk.injEq]at h
  obtain⟨rfl,rfl,rfl⟩:=h
  simp only[TF.at_,RV.at_]at hu
  exact⟨none,0,[],hu,by simp[RV.listAt],by simp,λh=>absurd h (by omega)⟩
 ·rename_i j off m
  split at h
  ·rename_i e sz2 n ys2 pub hoo
   split at h
   ·rename_i hle
    have hle:=Nat.le_of_ble_eq_true hle
    simp only[Option.some.injEq,Prod.mk.injEq]at h
    obtain⟨rfl,rfl,rfl⟩:=h
    have hat:=(hs.owns _ _ hoo).2.2.1
    simp only[Ow.at_]at hat
    simp only[TF.at_]at hu
    obtain⟨b,c,hb,rfl,hnc⟩:=hu
    obtain⟨hl,hat⟩:=hat
    rcases hat with⟨hno,_⟩ |⟨b',cap,cur,e1,e2,hh,h1,h2,h3,h4,h5⟩
    ·rw[hno]at hb;cases hb
    rw[e1]at hb
    obtain rfl:b'=b:=by injection hb
    have h6:=zdg (zew h5 off) (m*sz2)
    refine⟨_,c,_,rfl,h6,?_,λ_=>⟨b',off,rfl,λi v hi=>?_⟩⟩
    ·rw[za7 h6,List.length_take,List.length_drop]
     omega
    ·rw[List.getElem?_take]at hi
     split at hi
     ·rw[List.getElem?_drop,List.getElem?_take]at hi
      split at hi
      ·rw[cell_of_row w b' (off+i) cur _ (0,0) hh]
       simpa using hi
      ·cases hi
     ·cases hi
   ·cases h
  ·cases h
 ·cases h
theorem zn7(hs:SatE B N S a w k g){ob:Option Nat}{id:Option Nat}(hid:idOk S g ob id){b:Nat}(hb:ob=some b):(B.w.heap.size<=b\/b∈B.X)/\b<w.heap.size:=by
 cases id with
 |none=>simp only[idOk]at hid;rw[hid]at hb;cases hb
 |some i=>
  obtain⟨⟨o,ho⟩,hg⟩:=hid
  exact(hs.owns i o ho).2.2.2 b (hg.trans hb)
theorem zn6(hs:SatE B N S a w k g){ob:Option Nat}{id:Option Nat}(hid:idOk S g ob id){i:Nat}{o':Ow}{b:Nat}(ho:oget (S.strike id).O i=some o')(hb:ob=some b):(g i).2≠some b:=by
 cases id with
 |none=>simp only[idOk]at hid;rw[hid]at hb;cases hb
 |some j=>
  obtain⟨⟨o,hj⟩,hg⟩:=hid
  rcases zav ho with⟨_,e⟩ |⟨hne,ho⟩
  ·cases e
  ·exact hs.apart j i o o' b hj ho hne (hg.trans hb)
theorem ztg(hs:SatE B N S a w k g)(hd: ∀d,o.dst=some d->d<N){e':TypeId}{sz n m:Nat}{cells ys:List RV}{pub:Bool}{u:Value}{ob:Option Nat}{id:Option Nat}(hch:chAt w k e' sz n cells pub u ob)(hid:idOk S g ob id)
  {us xs:List Value} (hus:RV.listAt w k ys us) (husl:us.length=m*sz) {b cap:Nat} {cur:Array Value} {w':World} (hxs:RV.listAt w k cells xs)
  (hh:w'.heap[b]?=some (.cells cur e' (0,0))) (h1:n+m<=cap) (h2:cap<=maxLen) (h3:cap*sz<=cur.size) (h4:cur.toList.take ((n+m)*sz)=xs++us) (hgr:w.grownBy w' ob) (hbb:ob=some b\/b=w.heap.size)
  (hb0: ∀b0,ob=some b0->(∃cur0,w.heap[b0]?=some (.cells cur0 e' (0,0))/\cur0.toList.take (n*sz)=xs)/\(b=b0\/b=w.heap.size/\w'.heap[b0]?=w.heap[b0]?)):
  ∃k',Sat B N ((S.strike id).mk_ o.dst (.ch e' sz (n+m) (cells++ys) pub)) (a.put o.dst (.slice (some ⟨b,0,none⟩) (n+m) cap)) w' k':=by
 have hkb0: ∀b0,ob=some b0->k b0=(if pub then n*sz else 0):=λb0 hb0=>by
  rcases hch.2 with⟨h,_⟩ |⟨b',cap',cur',h,_,_,_,_,_,h',_⟩
  ·rw[h]at hb0;cases hb0
  ·rw[h]at hb0;cases hb0;exact h'
 have hbs:b<w'.heap.size:=(Array.getElem?_eq_some_iff.1 hh).1
 have hw:Wrote w k w' (kset k b (if pub then(n+m)*sz else 0)) ob:=by
  refine⟨hgr.os,hgr.tape,hgr.output,hgr.size,λx hx hne=>⟨hgr.block x hx hne,?_⟩,λx hx=>?_⟩
  ·rcases hbb with h |h
   ·have:x≠b:=λe=>hne (by rw[h,e])
    simp[kset,this]
   ·have:x≠b:=by omega
    simp[kset,this]
  ·obtain⟨⟨cur0,hc0,hx0⟩,hsame⟩:=hb0 x hx.symm
   have hkx:=hkb0 x hx.symm
   have hle:n*sz<=(n+m)*sz:=Nat.mul_le_mul_right _ (by omega)
   rcases hsame with rfl |⟨hbn,hsame⟩
   ·refine⟨by rw[zcu,hkx];split<;>omega,λo' ho'=>?_,λ_ es c e=>by rw[hc0]at e;cases e⟩
    have ho2:o'<n*sz:=by rw[hkx]at ho';split at ho'<;>omega
    rw[cell_of_row w' b o' cur e' (0,0) hh,cell_of_row w b o' cur0 e' (0,0) hc0]
    have e1:cur.toList[o']?=(cur.toList.take ((n+m)*sz))[o']?:=by rw[List.getElem?_take,if_pos (by omega)]
    have e2:cur0.toList[o']?=(cur0.toList.take (n*sz))[o']?:=by rw[List.getElem?_take,if_pos ho2]
    have hxl:xs.length=n*sz:=by rw[za7 hxs,hch.1]
    rw[<-Array.getElem?_toList,<-Array.getElem?_toList,e1,e2,h4,hx0,List.getElem?_append_left (by omega)]
   ·have hne:x≠b:=by
     have:x<w.heap.size:=(Array.getElem?_eq_some_iff.1 hc0).1
     omega
    exact⟨by simp[kset,hne],λo' _=>World.cell?_of_block (a:=⟨x,o',none⟩) hsame,λ_ es c e=>hsame.trans e⟩
 have g1:=hs.wrote hw hid
 have hle:=hw.le
 have hown:Ow.at_ w' (kset k b (if pub then(n+m)*sz else 0)) g (.slice (some ⟨b,0,none⟩) (n+m) cap,some b) (.ch e' sz (n+m) (cells++ys) pub):=by
  simp only[Ow.at_]
  refine⟨by rw[bL,hch.1,<-za7 hus,husl,Nat.add_mul], .inr ⟨b,cap,cur,rfl,rfl,hh,h1,h2,h3,zcu,?_⟩⟩
  rw[h4]
  exact zct (RV.list_mono hle _ _ hxs) (RV.list_mono hle _ _ hus)
 refine⟨_,_,g1.adopt hd (vb:=(.slice (some ⟨b,0,none⟩) (n+m) cap,some b)) trivial hown (λb' hb'=>?_) λi' o' b' ho' hb'=>?_⟩
 ·cases hb'
  refine⟨?_,hbs⟩
  rcases hbb with h |h
  ·exact(zn7 hs hid h).1
  ·left;have:=hs.keep.size;omega
 ·cases hb'
  rcases hbb with h |h
  ·exact zn6 hs hid ho' h
  ·intro hgi
   have hold:(g i').2=some b->b<w.heap.size:=by
    cases id with
    |none=>exactλhgi=>((hs.owns i' o' ho').2.2.2 b hgi).2
    |some j=>
     rcases zav ho' with⟨_,e⟩ |⟨_,ho'⟩
     ·cases e
     ·exactλhgi=>((hs.owns i' o' ho').2.2.2 b hgi).2
   have:=hold hgi
   omega
theorem z2r(hT:TOk P T)(hs:SatE B N S a w k g)(hd: ∀d,o.dst=some d->d<N){t ty:TypeId}{f f2:TF}{u u2:Value}(hu:f.at_ w k g u)(hu2:f2.at_ w k g u2){K:Option Nat->Ow->Prop}(h:appv S T t f f2 K):
  ∃id ow v w' k',K id ow/\(Builtin.append_ #[t,t] ty #[u,u2]).run P w= .ok v w'/\Sat B N ((S.strike id).mk_ o.dst ow) (a.put o.dst v) w' k':=by
 unfold appv at h
 split at h
 ·rename_i ti hti
  obtain⟨q,hq⟩:=hT.get hti
  obtain⟨d,hdd,hko,_⟩:=q.desc
  rw[hq]at hdd
  split at h
  ·rename_i e hk
   rw[hk]at hko
   simp only[KOk]at hko
   subst hko
   split at h
   ·rename_i te hte
    obtain⟨qe,hqe⟩:=hT.get hte
    obtain⟨i,hi,hsz,hby,z,hz,hzc⟩:=qe.info
    rw[hqe]at hi
    split at h
    ·rename_i id e' sz n cells pub hl
     split at h
     ·exact h.elim
     ·rename_i hcond
      simp only[Bool.and_eq_true,Nat.beq_eq]at hcond
      obtain⟨rfl,rfl,hpos⟩:=hcond
      have hpos:0<te.sz:=by simp[Nat.blt]at hpos;omega
      split at h
      ·rename_i sz' m ys hr
       split at h
       ·rename_i hsz'
        obtain rfl:=Nat.eq_of_beq_eq_true hsz'
        obtain⟨h63,hbytes,j,zs,rfl,rfl,hK⟩:=h
        obtain⟨ob,hch,hid⟩:=zye hs hl hu
        obtain⟨qa,qc,us,rfl,hus,husl,hsrc⟩:=zss hs hr hu2
        rcases Nat.eq_zero_or_pos m with rfl |hm
        ·have hys:ys=[]:=List.eq_nil_of_length_eq_zero (by rw[<-za7 hus,husl];simp)
         subst hys
         have hform: ∃p c,u= .slice p n c/\n<=c:=by
          rcases hch.2 with⟨_,⟨rfl,p,e⟩ |⟨_,_,b,o',e,_⟩⟩ |⟨b,cap,cur,_,e,_,h1,_⟩
          ·exact⟨p,0,e,Nat.le_refl _⟩
          ·exact⟨_,n,e,Nat.le_refl _⟩
          ·exact⟨_,cap,e,h1⟩
         obtain⟨p,c,rfl,hnc⟩:=hform
         have hw:Wrote w k w k ob:=⟨rfl,rfl,rfl,Nat.le_refl _,λ_ _ _=>⟨rfl,rfl⟩,λ_ _=>⟨Nat.le_refl _,λ_ _=>rfl,λ_ _ _ h=>h⟩⟩
         refine⟨id,_, .slice p n c,w,k,hK,?_,?_⟩
         ·cases p<;>cases qa<;>simp[Builtin.append_,run_underlying hdd,sizeOf,typeInfo,hi,Builtin.lenOf,Builtin.firstCells,loadCells,loadCellsFrom,hnc,storeCells]
         ·have h1:=hs.wrote hw hid
          have h2:Ow.at_ w k g (.slice p n c,ob) (.ch e' te.sz (n+0) (cells++[]) pub):=by simpa[Ow.at_]using hch
          have hobs: ∀b,ob=some b->(B.w.heap.size<=b\/b∈B.X)/\b<w.heap.size:=λb hb=>zn7 hs hid hb
          exact⟨_,h1.adopt hd (o:= .ch e' te.sz (n+0) (cells++[]) pub) (vb:=(.slice p n c,ob)) trivial h2 hobs (λi o' b ho hb=>zn6 hs hid ho hb)⟩
        ·obtain⟨qb,qo,rfl,hcells⟩:=hsrc hm
         obtain⟨xs,b,cap,cur,w',hrun,hxs,hh,h1,h2,h3,h4,hgr,hbb,hb0⟩:=zc3b (ty:=ty) hdd hi hz hsz hby (by rw[<-Array.length_toList,hzc,qe.zsz]) hch (c:=qc) husl hcells (λv hv=>by
          obtain⟨j,hj⟩:=List.getElem?_of_mem hv
          have hjl:j<ys.length:=by rw[<-za7 hus];exact(List.getElem?_eq_some_iff.1 hj).1
          exact((RV.listAt_iff _ _).1 hus |>.2 j _ v (List.getElem?_eq_getElem hjl) hj).1) hm h63 hbytes
         obtain⟨k',hsat⟩:=ztg (o:=o) hs hd hch hid hus husl hxs hh h1 h2 h3 h4 hgr hbb hb0
         exact⟨id,_,_,w',k',hK,hrun,hsat⟩
       ·exact h.elim
      ·exact h.elim
    ·exact h.elim
   ·exact h.elim
  ·exact h.elim
 ·exact h.elim
end
section
variable {P:Program} {T:TT} {B:Bs} {N:Nat} {S:St} {a:Act} {w:World} {k:Kp} {g:Env} {o:Oper} {Q:Exit->Act->World->Prop}
theorem SatE.redo(hs:SatE B N S a w k g){id b:Nat}{ow ow':Ow}{w':World}{k':Kp}(ho:oget S.O id=some ow)(hb:(g id).2=some b)(hw:Wrote w k w' k' (some b))(hl:ow'.lt S.nx)(hat:ow'.at_ w' k' g (g id)):
  SatE B N (S.set id (some ow')) a w' k' g:=by
 have g1:=hs.wrote hw (id:=some id) ⟨⟨ow,ho⟩,hb⟩
 have hid:=hs.owns id ow ho
 have up: ∀i o',oget (S.set id (some ow')).O i=some o'->(i=id/\o'=ow')\/(id≠i/\oget (S.set id none).O i=some o'):=λi o' h=>by
  rcases zav h with⟨rfl,e⟩ |⟨hne,h⟩
  ·cases e;exact .inl ⟨rfl,rfl⟩
  ·refine .inr ⟨hne,?_⟩
   simp only[St.set,oget]
   split
   ·rename_i hb;exact absurd (Nat.eq_of_beq_eq_true hb) hne
   ·exact h
 refine⟨g1.size,g1.defers,g1.keep,g1.kk,g1.facts,λi o' h=>?_,λi j o1 o2 b' hi hj hne hbi=>?_⟩
 ·rcases up i o' h with⟨rfl,rfl⟩ |⟨hne,h⟩
  ·exact⟨hid.1,hl,hat,λb' hb'=>⟨(hid.2.2.2 b' hb').1,Nat.lt_of_lt_of_le (hid.2.2.2 b' hb').2 hw.size⟩⟩
  ·exact g1.owns i o' h
 ·have old: ∀x ox,oget (S.set id (some ow')).O x=some ox->∃ox',oget S.O x=some ox':=λx ox hx=>by
   rcases zav hx with⟨rfl,_⟩ |⟨_,hx⟩
   ·exact⟨ow,ho⟩
   ·exact⟨ox,hx⟩
  obtain⟨p1,hp1⟩:=old i o1 hi
  obtain⟨p2,hp2⟩:=old j o2 hj
  exact hs.apart i j p1 p2 b' hp1 hp2 hne hbi
def AllAt(p:TF->Value->Prop)(cells:List TF)(us:List Value):Prop:=us.length=cells.length/\∀(j:Nat) (f:TF) (u:Value),cells[j]?=some f->us[j]?=some u->p f u
theorem AllAt.append{p:TF->Value->Prop}{c d:List TF}{us vs:List Value}(h:AllAt p c us)(h':AllAt p d vs):AllAt p (c++d) (us++vs):=by
 refine⟨by simp[h.1,h'.1],λj f u hf hu=>?_⟩
 rw[List.getElem?_append]at hf hu
 rw[h.1]at hu
 split at hf
 ·rename_i hj;rw[if_pos hj]at hu;exact h.2 j f u hf hu
 ·rename_i hj;rw[if_neg hj]at hu;exact h'.2 _ f u hf hu
theorem AllAt.take{p:TF->Value->Prop}{c:List TF}{us:List Value}(h:AllAt p c us)(n:Nat):AllAt p (c.take n) (us.take n):=by
 refine⟨by simp[h.1],λj f u hf hu=>?_⟩
 rw[List.getElem?_take]at hf hu
 split at hf
 ·rename_i hj;rw[if_pos hj]at hu;exact h.2 j f u hf hu
 ·cases hf
theorem AllAt.drop{p:TF->Value->Prop}{c:List TF}{us:List Value}(h:AllAt p c us)(n:Nat):AllAt p (c.drop n) (us.drop n):=by
 refine⟨by simp[h.1],λj f u hf hu=>?_⟩
 rw[List.getElem?_drop]at hf hu
 exact h.2 _ f u hf hu
theorem AllAt.mono{p q:TF->Value->Prop}{c:List TF}{us:List Value}(h:AllAt p c us)(hpq: ∀f u,p f u->q f u):AllAt q c us:=⟨h.1,λj f u hf hu=>hpq f u (h.2 j f u hf hu)⟩
theorem zoi{t:TypeId}{ti:TI}{b off:Nat}{cur:Array Value}{ty:TypeId}{v:Value}(hti:TIOk P ti)(ht:ti.id=t)(hh:w.heap[b]?=some (.cells cur ty (0,0)))(hsz:v.cells.size=ti.sz)(hfit:off+ti.sz<=cur.size)(h1: ∀x∈v.cells.toList,x.oneCell'=true):
  (Instr.storeAt t (.pointer (some ⟨b,off,none⟩)) v).run P w= .ok () (w.setRow b (cur.toList.take off++v.cells.toList++cur.toList.drop (off+ti.sz)).toArray):=by
 have hs:=zbm (w:=w) hti ht
 have hst:=run_storeCells_at P b off ty v.cells.toList 0 cur w hh (by rw[Nat.add_zero,Array.length_toList,hsz];exact hfit) h1
 simp only[Nat.add_zero]at hst
 rw[Array.length_toList,hsz]at hst
 simp only[Instr.storeAt,Instr.sureAddr,storeVar,Sem.run_bind,Sem.run_pure,Result.andThen_ok,hs,Sem.run_ite,hsz]
 simp[hst]
theorem ziu{b:Nat}{cur cs:Array Value}{ty:TypeId}(_hh:w.heap[b]?=some (.cells cur ty (0,0)))(hk:k b=0):Wrote w k (w.setRow b cs) k (some b):=
 ⟨rfl,rfl,rfl,by simp[World.setRow],λx _ hne=>⟨setRow_other w b x cs (λh=>hne (by rw[h])),rfl⟩,λx hx=>by
  cases hx
  exact⟨Nat.le_refl _,λo ho=>by omega,λh=>by omega⟩⟩
theorem zv3(hs:SatE B N S a w k g){t:TypeId}{ti:TI}{id b off:Nat}{cells new:List TF}{v:Value}(hti:TIOk P ti)(ht:ti.id=t)(ho:oget S.O id=some (.box cells))(hb:(g id).2=some b)
  (hfit:off+ti.sz<=cells.length) (hlen:new.length=ti.sz) (hlt: ∀f∈new,f.lt S.nx) (hnew:AllAt (λf u=>u.oneCell'=true/\f.at_ w k g u) new v.cells.toList):
  ∃w',(Instr.storeAt t (.pointer (some ⟨b,off,none⟩)) v).run P w= .ok () w'/\SatE B N (S.set id (some (.box (cells.take off++new++cells.drop (off+ti.sz))))) a w' k g:=by
 obtain⟨hid,hlo,hat,_⟩:=hs.owns id _ ho
 simp only[Ow.at_]at hat
 obtain⟨b',cur,ty,e,hh,hk,hsz,hc⟩:=hat
 rw[e]at hb
 cases hb
 have hvs:v.cells.size=ti.sz:=by rw[<-Array.length_toList,hnew.1,hlen]
 have hr:=zoi hti ht hh hvs (by rw[hsz];exact hfit) (λx hx=>by
  obtain⟨j,hj⟩:=List.getElem?_of_mem hx
  have hjl:j<new.length:=by rw[<-hnew.1];exact(List.getElem?_eq_some_iff.1 hj).1
  exact(hnew.2 j _ x (List.getElem?_eq_getElem hjl) hj).1)
 have hw:=ziu (k:=k) (cs:=(cur.toList.take off++v.cells.toList++cur.toList.drop (off+ti.sz)).toArray) hh hk
 refine⟨_,hr,hs.redo ho (by rw[e]) hw ?_ ?_⟩
 ·intro f hf
  rcases List.mem_append.1 hf with hf |hf
  ·rcases List.mem_append.1 hf with hf |hf
   ·exact hlo f (List.mem_of_mem_take hf)
   ·exact hlt f hf
  ·exact hlo f (List.mem_of_mem_drop hf)
 ·have hold:AllAt (λf u=>u.oneCell'=true/\f.at_ w k g u) cells cur.toList:=⟨by rw[Array.length_toList,hsz],λj f u hf hu=>hc j f u hf (by simpa using hu)⟩
  have hall:=(((hold.take off).append hnew).append (hold.drop (off+ti.sz))).mono (q:=λf u=>u.oneCell'=true/\f.at_ (w.setRow b (cur.toList.take off++v.cells.toList++cur.toList.drop (off+ti.sz)).toArray) k g u) λf u h=>⟨h.1,TF.mono hw.le h.2⟩
  simp only[Ow.at_]
  refine⟨b,_,ty,e,setRow_heap w b cur _ ty (0,0) hh,hk,by have:=hall.1;simpa using this,λj f u hf hu=>hall.2 j f u hf (by simpa using hu)⟩
theorem zbzb(hs:SatE B N S a w k g){t e:TypeId}{ti:TI}{id b off sz n:Nat}{cells:List RV}{v:Value}{r:RV}(hti:TIOk P ti)(ht:ti.id=t)(ho:oget S.O id=some (.ch e sz n cells false))(hb:(g id).2=some b)
  (hfit:off+ti.sz<=cells.length) (hlen:(cellsOf r).length=ti.sz) (hnew:RV.listAt w k (cellsOf r) v.cells.toList):
  ∃w',(Instr.storeAt t (.pointer (some ⟨b,off,none⟩)) v).run P w= .ok () w'/\SatE B N (S.set id (some (.ch e sz n (zbl cells off (cellsOf r)) false))) a w' k g:=by
 obtain⟨hid,hlo,hat,_⟩:=hs.owns id _ ho
 simp only[Ow.at_]at hat
 obtain⟨hcl,hat⟩:=hat
 rcases hat with⟨hno,_⟩ |⟨b',cap,cur,e1,e2,hh,h1,h2,h3,h4,h5⟩
 ·rw[hno]at hb;cases hb
 rw[e1]at hb
 cases hb
 have hk:k b=0:=by simpa using h4
 have hcc:n*sz<=cap*sz:=Nat.mul_le_mul_right _ h1
 have hvs:v.cells.size=ti.sz:=by rw[<-Array.length_toList,za7 hnew,hlen]
 have hr:=zoi hti ht hh hvs (off:=off) (by omega) (λx hx=>by
  obtain⟨j,hj⟩:=List.getElem?_of_mem hx
  have hjl:j< (cellsOf r).length:=by rw[<-za7 hnew];exact(List.getElem?_eq_some_iff.1 hj).1
  exact(((RV.listAt_iff _ _).1 hnew).2 j _ x (List.getElem?_eq_getElem hjl) hj).1)
 have hw:=ziu (k:=k) (cs:=(cur.toList.take off++v.cells.toList++cur.toList.drop (off+ti.sz)).toArray) hh hk
 refine⟨_,hr,hs.redo ho e1 hw trivial ?_⟩
 simp only[Ow.at_]
 have hvl:v.cells.toList.length=ti.sz:=by rw[Array.length_toList,hvs]
 refine⟨by simp[zbl];omega, .inr ⟨b,cap,_,e1,e2,setRow_heap w b cur _ e (0,0) hh,h1,h2,?_,by simpa using hk,?_⟩⟩
 ·simp only[List.size_toArray,bL,List.length_take,List.length_drop,Array.length_toList,hvs];omega
 ·have hnew':=RV.list_mono hw.le _ _ hnew
  have h5':=RV.list_mono hw.le _ _ h5
  have hlo2:=zdg h5' off
  have hhi:=zew h5' (off+ti.sz)
  have hall:=zct (zct hlo2 hnew') hhi
  unfold zbl
  rw[hlen]
  rw[List.take_take,Nat.min_eq_left (by omega)]at hall
  have hA:(List.take off cur.toList++v.cells.toList).length=off+ti.sz:=by rw[bL,List.length_take,hvl,Array.length_toList];omega
  have e:(List.take off cur.toList++v.cells.toList++List.drop (off+ti.sz) cur.toList).take (n*sz)=List.take off cur.toList++v.cells.toList++(cur.toList.take (n*sz)).drop (off+ti.sz):=by
   rw[List.take_append,hA,List.drop_take]
   congr 1
   exact List.take_of_length_le (by omega)
  rw[List.toList_toArray,e]
  exact hall
theorem zop(hT:TOk P T)(hs:SatE B N S a w k g){t:TypeId}{x y:Operand}{K:St->Prop}(hop:o.op= .store t x y)(h:sto T S o.dst t x y K):
  o.wp P a w (λa' w'=>∃S' k',K S'/\Sat B N S' a' w' k') Q:=by
 have fin: ∀{S':St} {w':World},K (S'.put o.dst (.r .any))->(Instr.storeAt t (a.eval x) (a.eval y)).run P w= .ok () w'->SatE B N S' a w' k g->
   o.wp P a w (λa' w'=>∃S' k',K S'/\Sat B N S' a' w' k') Q:=λ{S' w'} hK hr h1=>
  zz0 (by simp[execOp,hop,hr]) ⟨_,k,hK,g,h1.drop⟩
 unfold sto at h
 split at h
 ·rename_i f g' hf hg'
  have hx:=(zah hs hf).2
  have hy:=zah hs hg'
  split at h
  ·rename_i id2
   have go2: ∀{ow2:Ow} {j off b:Nat} {cells:List TF} {ti:TI},oget S.O id2=some ow2->oget S.O j=some (.box cells)->(g j).2=some b->a.eval x= .pointer (some ⟨b,off,none⟩)->tget T t=some ti->ti.sz=1->off+1<=cells.length->
     K ((S.set j (some (.box (cells.take off++[.own id2]++cells.drop (off+1))))).put o.dst (.r .any))->o.wp P a w (λa' w'=>∃S' k',K S'/\Sat B N S' a' w' k') Q:=by
    intro ow2 j off b cells ti h2 ho hb he hti h1 hfit hK
    obtain⟨q,hq⟩:=hT.get hti
    have hone:(a.eval y).oneCell'=true:=by have:=hy.2;simp only[TF.at_]at this;rw[this];exact z18 hs h2
    obtain⟨w',hr,h3⟩:=zv3 hs q hq ho hb (off:=off) (new:=[.own id2]) (v:=a.eval y) (by omega) (by simp[h1]) (by simpa using hy.1) ⟨by simp[zgu hone],λj f u hf hu=>by
     cases j with
     |zero=>simp[zgu hone]at hf hu;subst hf;subst hu;exact⟨hone,hy.2⟩
     |succ j=>simp at hf⟩
    rw[<-he]at hr
    rw[h1]at h3
    exact fin hK hr h3
   split at h
   ·rename_i ow2 j off h2
    split at h
    ·rename_i cells ho
     split at h
     ·exact h.elim
     ·rename_i hfit
      simp only[Nat.ble_eq]at hfit
      split at h
      ·rename_i ti hti
       split at h
       ·rename_i h1
        simp only[TF.at_]at hx
        obtain⟨b,hb,e⟩:=hx
        rw[zd6]at h
        exact go2 h2 ho hb e hti (Nat.eq_of_beq_eq_true h1) hfit h
       ·exact h.elim
      ·exact h.elim
    ·exact h.elim
   ·rename_i ow2 j h2
    split at h
    ·rename_i cells ho
     split at h
     ·exact h.elim
     ·rename_i hfit
      simp only[Nat.ble_eq]at hfit
      split at h
      ·rename_i ti hti
       split at h
       ·rename_i h1
        simp only[TF.at_]at hx
        have hat:=(hs.owns _ _ ho).2.2.1
        simp only[Ow.at_]at hat
        obtain⟨b,cur,ty,e,_⟩:=hat
        rw[zd6]at h
        exact go2 (off:=0) (b:=b) h2 ho (by rw[e]) (by rw[hx,e]) hti (Nat.eq_of_beq_eq_true h1) (by simpa using hfit) (by simpa using h)
       ·exact h.elim
      ·exact h.elim
    ·exact h.elim
   ·exact h.elim
  ·rename_i v
   unfold stv at h
   split at h
   ·rename_i ti hti
    obtain⟨q,hq⟩:=hT.get hti
    have go: ∀(id off b:Nat),(g id).2=some b->a.eval x= .pointer (some ⟨b,off,none⟩)->
      stAt S ti v (λS'=>newK S' o.dst (.r .any) none K) id off->o.wp P a w (λa' w'=>∃S' k',K S'/\Sat B N S' a' w' k') Q:=by
     intro id off b hb he h
     unfold stAt at h
     split at h
     ·rename_i cells ho
      split at h
      ·exact h.elim
      ·rename_i hc
       simp only[Bool.and_eq_true,Nat.beq_eq,Nat.ble_eq]at hc
       obtain⟨hok,hlen,hfit⟩:=hc
       have hcells:=zql hy.2 hok
       have hall:AllAt (λf u=>u.oneCell'=true/\f.at_ w k g u) ((cellsOf v).map .r) (a.eval y).cells.toList:=by
        refine⟨by rw[List.length_map,za7 hcells],λj f u hf hu=>?_⟩
        rw[List.getElem?_map]at hf
        cases hv:(cellsOf v)[j]? with
        |none=>simp[hv]at hf
        |some rv=>
         simp only[hv,Option.map_some,Option.some.injEq]at hf
         subst hf
         exact((RV.listAt_iff _ _).1 hcells).2 j rv u hv hu
       obtain⟨w',hr,h1⟩:=zv3 hs q hq ho hb hfit (by rw[List.length_map,hlen]) (by simp[TF.lt]) hall
       rw[<-he]at hr
       rw[zfq _ _ _ _ (by rw[List.length_map,hlen];exact hfit),List.length_map,hlen,zd6,za4]at h
       exact fin h hr h1
     ·rename_i e sz n cells ho
      split at h
      ·exact h.elim
      ·rename_i hc
       simp only[Bool.and_eq_true,Nat.beq_eq]at hc
       obtain⟨hok,hlen⟩:=hc
       obtain⟨hfit,zs,rfl,hK⟩:=h
       obtain⟨w',hr,h1⟩:=zbzb hs q hq ho hb hfit hlen (zql hy.2 hok)
       rw[<-he]at hr
       rw[zd6,za4]at hK
       exact fin hK hr h1
     ·exact h.elim
    split at h
    ·rename_i id
     simp only[TF.at_]at hx
     split at h
     ·rename_i cells ho
      have hat:=(hs.owns _ _ ho).2.2.1
      simp only[Ow.at_]at hat
      obtain⟨b,cur,ty,e,_⟩:=hat
      exact go id 0 b (by rw[e]) (by rw[hx,e]) h
     ·exact h.elim
    ·rename_i id off
     simp only[TF.at_]at hx
     obtain⟨b,hb,e⟩:=hx
     exact go id off b hb e h
    ·exact h.elim
   ·exact h.elim
  ·exact h.elim
 ·exact h.elim
end
end Go.Proofs.YtoegdgbghdnnfaaGreat.Sx
