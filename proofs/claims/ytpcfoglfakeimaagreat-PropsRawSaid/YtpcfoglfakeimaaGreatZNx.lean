import Derived.Test.YtpcfoglfakeimaaGreatZSxY
import Derived.Lib.AppendStr
import Derived.Test.YtpcfoglfakeimaaGreatZSxU
import Derived.Test.YtpcfoglfakeimaaGreatZKf
namespace Go.Proofs.YtpcfoglfakeimaaGreat.Sx
open Go.RowKit
section
variable {P:Program} {T:TT} {B:Bs} {N:Nat} {S:St} {a:Act} {w:World} {k:Kp} {g:Env} {o:Oper} {Q:Exit->Act->World->Prop}
abbrev strR(s:ByteArray):List RV:=s.data.toList.map λc=> .i .u8 (c.toNat:Int)
theorem zcdb(w:World)(k:Kp)(s:ByteArray):RV.listAt w k (strR s) (Lib.strCells s):=by
 rw[RV.listAt_iff]
 refine⟨by simp[Lib.strCells],λj f u hf hu=>?_⟩
 rw[List.getElem?_map]at hf
 obtain⟨c,hc,rfl⟩:=Option.map_eq_some_iff.1 hf
 simp only[Lib.strCells,List.getElem?_map,hc,Option.map_some,Option.some.injEq]at hu
 subst hu
 exact⟨rfl,by simp[RV.at_]⟩
theorem zyh{t t' ty e:TypeId}{i:TypeInfo}{z:Value}(ht:P.underlying t=some (.slice e))(hu:P.underlying t'=some .string)(hi:P.info? e=some i)(hz:i.zero=some z)
  (hsize:i.size=1) (hby:i.bytes=1) (hzs:z.cells.size=1)
  {n:Nat} {cells:List RV} {pub:Bool} {u:Value} {ob:Option Nat} (hch:chAt w k e 1 n cells pub u ob) (s:ByteArray) (hm:0<s.size) (hbytes:n+s.size<=140737488355328):
  ∃xs b cap cur w',(Builtin.append_ #[t,t'] ty #[u, .string s]).run P w= .ok (.slice (some ⟨b,0,none⟩) (n+s.size) cap) w'/\RV.listAt w k cells xs/\
   w'.heap[b]?=some (.cells cur e (0,0))/\n+s.size<=cap/\cap<=maxLen/\cap*1<=cur.size/\cur.toList.take ((n+s.size)*1)=xs++Lib.strCells s/\w.grownBy w' ob/\(ob=some b\/b=w.heap.size)/\
   (∀b0,ob=some b0->(∃cur0,w.heap[b0]?=some (.cells cur0 e (0,0))/\cur0.toList.take (n*1)=xs)/\(b=b0\/b=w.heap.size/\w'.heap[b0]?=w.heap[b0]?)):=by
 obtain⟨hcl,hch⟩:=hch
 have hl:(Lib.strCells s).length=s.size:=Lib.strCells_length s
 have h63:n+s.size<=maxLen:=by simp only[maxLen];omega
 have fin: ∀(xs:List Value) (old:Nat),xs.length=n->
   (w.drew.alloc (.cells (xs.toArray++(Lib.strCells s).toArray++Builtin.zeroCells z.cells (grownCap w (n+s.size) old e-(n+s.size))) e)).heap[w.heap.size]?=some (.cells (xs.toArray++(Lib.strCells s).toArray++Builtin.zeroCells z.cells (grownCap w (n+s.size) old e-(n+s.size))) e (0,0))/\
   n+s.size<=grownCap w (n+s.size) old e/\grownCap w (n+s.size) old e<=maxLen/\(xs.toArray++(Lib.strCells s).toArray++Builtin.zeroCells z.cells (grownCap w (n+s.size) old e-(n+s.size))).size=grownCap w (n+s.size) old e*1/\
   (xs.toArray++(Lib.strCells s).toArray++Builtin.zeroCells z.cells (grownCap w (n+s.size) old e-(n+s.size))).toList.take ((n+s.size)*1)=xs++Lib.strCells s/\
   ∀row,w.grownBy (w.drew.alloc (.cells (xs.toArray++(Lib.strCells s).toArray++Builtin.zeroCells z.cells (grownCap w (n+s.size) old e-(n+s.size))) e)) row:=λxs old hx=>by
  have hge:=grownCap_ge w (n+s.size) old e
  refine⟨heap_alloc_new w.drew _,hge,grownCap_le_maxLen w (n+s.size) old e h63,?_,?_,λrow=>⟨rfl,rfl,rfl,by simp,λk hk _=>Below.heap_alloc w.drew _ k hk⟩⟩
  ·simp only[Array.size_append,List.size_toArray,size_zeroCells,hzs,hl,hx]
   omega
  ·simp only[Array.toList_append]
   rw[show(n+s.size)*1=(xs++Lib.strCells s).length by rw[aL,hl,hx,Nat.mul_one]]
   exact List.take_left
 rcases hch with⟨rfl,⟨rfl,p,rfl⟩ |⟨hn0,_,b,o,rfl,hnm,hbl,hcell⟩⟩ |⟨b,cap,cur,rfl,rfl,hh,hnc,hcm,hcs,hkb,hlist⟩
 ·have hc0:cells=[]:=List.eq_nil_of_length_eq_zero (by simpa using hcl)
  subst hc0
  cases p with
  |none=>
   have hr:=run_append_nil_string (P:=P) w t t' ty e i z ht hu hi hz s hm (by omega) (by rw[hby];omega)
   have e1:(s.data.map λb=>Value.int .u8 b.toNat)=(Lib.strCells s).toArray:=by
    apply Array.ext'
    simp[Lib.strCells]
   rw[e1]at hr
   obtain⟨f1,f2,f3,f4,f5,f6⟩:=fin [] 0 rfl
   simp only[Nat.zero_add,List.nil_append,Array.empty_append]at f1 f2 f3 f4 f5 f6⊢
   exact⟨[],w.heap.size,_,_,_,hr,by simp[RV.listAt],f1,f2,f3,Nat.le_of_eq f4.symm,f5,f6 _, .inr rfl,λb0 h=>by cases h⟩
  |some p=>
   have hr:=Lib.run_append_grow_string (P:=P) w t t' ty e i z ht hu hi hz p 0 0 [] (by simp) (by simp) s (by omega) (by omega) (growslice_fits (by omega) (by rw[hby];omega))
   obtain⟨f1,f2,f3,f4,f5,f6⟩:=fin [] 0 rfl
   exact⟨[],w.heap.size,_,_,_,hr,by simp[RV.listAt],f1,f2,f3,Nat.le_of_eq f4.symm,f5,f6 _, .inr rfl,λb0 h=>by cases h⟩
 ·obtain⟨xs,hlist,hxl,hcell⟩:=RV.cells_list cells o hcell
  have hr:=Lib.run_append_grow_string (P:=P) w t t' ty e i z ht hu hi hz ⟨b,o,none⟩ n n xs (by rw[hsize,hxl,hcl]) (λj v hj=>by rw[Addr.add_mid];exact hcell j v hj) s (by omega) (by omega) (growslice_fits (by omega) (by rw[hby];omega))
  obtain⟨f1,f2,f3,f4,f5,f6⟩:=fin xs n (by rw[hxl,hcl,Nat.mul_one])
  exact⟨xs,w.heap.size,_,_,_,hr,hlist,f1,f2,f3,Nat.le_of_eq f4.symm,f5,f6 _, .inr rfl,λb0 hb0=>by cases hb0⟩
 ·have hxl:(cur.toList.take (n*1)).length=n:=by rw[zay hlist,hcl,Nat.mul_one]
  have hlt:b<w.heap.size:=(Array.getElem?_eq_some_iff.1 hh).1
  by_cases hfit:n+s.size<=cap
  ·have hr:=Lib.run_append_room_string (P:=P) w t t' ty e i ht hu hi hsize b n cap cur hh s hfit (by omega)
   refine⟨_,b,cap,_,_,hr,hlist,setRow_heap w b cur _ e (0,0) hh,hfit,hcm,?_,?_,⟨rfl,rfl,rfl,by simp[World.setRow],λx hx hne=>setRow_other w b x _ (λh=>hne (by rw[h]))⟩, .inl rfl,λb0 hb0=>?_⟩
   ·simp only[List.size_toArray,aL,List.length_take,hl,List.length_drop,Array.length_toList]
    omega
   ·rw[Nat.mul_one]at hxl⊢
    rw[Nat.mul_one]
    rw[show n+s.size=(cur.toList.take n++Lib.strCells s).length by rw[aL,hxl,hl],List.toList_toArray]
    exact List.take_left
   ·cases hb0
    exact⟨⟨cur,hh,rfl⟩, .inl rfl⟩
  ·have hr:=Lib.run_append_grow_string (P:=P) w t t' ty e i z ht hu hi hz ⟨b,0,none⟩ n cap (cur.toList.take (n*1)) (by rw[hsize,hxl,Nat.mul_one]) (λj v hj=>by
    rw[Addr.add_mid,Nat.zero_add,cell_of_row w b j cur e (0,0) hh]
    rw[List.getElem?_take]at hj
    split at hj
    ·simpa using hj
    ·cases hj) s (by omega) (by omega) (growslice_fits (by omega) (by rw[hby];omega))
   obtain⟨f1,f2,f3,f4,f5,f6⟩:=fin (cur.toList.take (n*1)) cap hxl
   refine⟨_,w.heap.size,_,_,_,hr,hlist,f1,f2,f3,Nat.le_of_eq f4.symm,f5,f6 _, .inr rfl,λb0 hb0=>?_⟩
   cases hb0
   exact⟨⟨cur,hh,rfl⟩, .inr ⟨rfl,Below.heap_alloc w.drew _ b hlt⟩⟩
theorem Vstep.appS{x y:Operand}{t t' e:TypeId}{ti te ts:TI}{f:TF}{id:Option Nat}{n:Nat}{cells:List RV}{pub:Bool}{s:ByteArray}{K:St->Prop}(hT:TOk P T)
  (hop:o.op= .call {callee:= .builtin .append,args:= #[x,y],argTypes:= #[t,t']}) (hti:tget T t=some ti) (hk:ti.k= .slice e) (hte:tget T e=some te) (hke:te.sz=1/\te.bytes=1) (hts:tget T t'=some ts) (hks:ts.k= .str)
  (hx:opr S x=some f) (hl:lhsv S e 1 f=some (id,e,1,n,cells,pub)) (hy:opr S y=some (.r (.x (.string s)))) (hlen:n+s.size<=140737488355328)
  (hK:newK (S.strike id) o.dst (.r .any) (some (.ch e 1 (n+s.size) (cells++strR s) pub)) K):Vstep P S o K:=by
 rw[zat]at hK
 refine Vstep.one (S':=(S.strike id).mk_ o.dst (.ch e 1 (n+s.size) (cells++strR s) pub)) ?_ hK
 rintro B N a w k Q ⟨g,hs⟩ hd
 obtain⟨q,hq⟩:=hT.get hti
 obtain⟨d,hdd,hko,_⟩:=q.desc
 rw[hq,hk]at*
 simp only[KOk]at hko
 subst hko
 obtain⟨qe,hqe⟩:=hT.get hte
 obtain⟨i,hi,hsz,hby,z,hz,hzc⟩:=qe.info
 rw[hqe]at hi
 obtain⟨qs,hqs⟩:=hT.get hts
 obtain⟨ds,hds,hkos,_⟩:=qs.desc
 rw[hqs,hks]at*
 simp only[KOk]at hkos
 subst hkos
 have hy':=(zag hs hy).2
 simp only[TF.at_,RV.at_]at hy'
 obtain⟨ob,hch,hid⟩:=zwi hs hl (zag hs hx).2
 have run: ∀{v:Value} {w':World},(Builtin.append_ #[t,t'] o.type #[a.eval x, .string s]).run P w= .ok v w'->(execOp a.eval o).run P w= .ok (.value v) w':=λ{v w'} hr=>by
  simp[execOp,hop,resolve,invoke,builtin,hy',hr]
 rcases Nat.eq_zero_or_pos s.size with h0 |hm
 ·have hn:strR s=[]:=List.eq_nil_of_length_eq_zero (by rw[List.length_map,Array.length_toList];exact h0)
  have hform: ∃p c,a.eval x= .slice p n c/\n<=c:=by
   rcases hch.2 with⟨_,⟨rfl,p,e⟩ |⟨_,_,b,o',e,_⟩⟩ |⟨b,cap,cur,_,e,_,h1,_⟩
   ·exact⟨p,0,e,Nat.le_refl _⟩
   ·exact⟨_,n,e,Nat.le_refl _⟩
   ·exact⟨_,cap,e,h1⟩
  obtain⟨p,c,hu,hnc⟩:=hform
  rw[hu]at hch run
  have hw:Wrote w k w k ob:=⟨rfl,rfl,rfl,Nat.le_refl _,λ_ _ _=>⟨rfl,rfl⟩,λ_ _=>⟨Nat.le_refl _,λ_ _=>rfl,λ_ _ _ h=>h⟩⟩
  have h1:=hs.wrote hw hid
  have h2:Ow.at_ w k g (.slice p n c,ob) (.ch e 1 (n+s.size) (cells++strR s) pub):=by rw[hn,h0];simpa[Ow.at_]using hch
  have hobs: ∀b,ob=some b->(B.w.heap.size<=b\/b∈B.X)/\b<w.heap.size:=λb hb=>zm5 hs hid hb
  refine za0 (run ?_) ⟨_,_,h1.adopt hd (o:= .ch e 1 (n+s.size) (cells++strR s) pub) (vb:=(.slice p n c,ob)) trivial h2 hobs (λi o' b ho hb=>zm4 hs hid ho hb)⟩
  have hf:=Lib.run_firstCells_string (P:=P) w 1 s
  rw[h0]at hf
  have hs0:Lib.strCells s=[]:=List.eq_nil_of_length_eq_zero (by rw[Lib.strCells_length];exact h0)
  rw[hs0]at hf
  cases p<;>simp[Builtin.append_,run_underlying hdd,run_underlying hds,sizeOf,typeInfo,hi,hsz,hke.1,Builtin.lenOf,h0,hf,hnc,storeCells]
 ·obtain⟨xs,b,cap,cur,w',hrun,hxs,hh,h1,h2,h3,h4,hgr,hbb,hb0⟩:=zyh (ty:=o.type) hdd hds hi hz (hsz.trans hke.1) (hby.trans hke.2) (by rw[<-Array.length_toList,hzc,qe.zsz,hke.1]) hch s hm hlen
  obtain⟨k',hsat⟩:=znq (o:=o) hs hd hch hid (zcdb w k s) (by rw[Lib.strCells_length,Nat.mul_one]) hxs hh h1 h2 h3 h4 hgr hbb hb0
  exact za0 (run hrun) ⟨k',hsat⟩
theorem znc(w:World)(dT sT ty elem:TypeId)(sz g o dLen dCap:Nat)(a:Addr)(sLen sCap m:Nat)(cur:Array Value)(t:TypeId)(cs:List Value)
  (hu:P.underlying dT=some (.slice elem)) {i:TypeInfo} (hi:P.info? elem=some i) (hs:i.size=sz)
  (hg:w.heap[g]?=some (.cells cur t (0,0))) (hm:Nat.min sLen dLen=m) (hn:cs.length=m*sz)
  (hsrc: ∀j v,cs[j]?=some v->w.cell? (a.add j)=some v) (hfit:o+cs.length<=cur.size) (h1: ∀v∈cs,v.oneCell'=true):
  (Builtin.copy_ #[dT,sT] ty #[.slice (some ⟨g,o,none⟩) dLen dCap, .slice (some a) sLen sCap]).run P w=
   .ok (goInt (m:Int)) (w.setRow g (cur.toList.take o++cs++cur.toList.drop (o+cs.length)).toArray):=by
 subst hm
 have hl:=run_loadCells_list (P:=P) w a cs hsrc
 have hst:=run_storeCells_at P g o t cs 0 cur w hg (by simpa using hfit) h1
 simp[Builtin.copy_,run_underlying hu,Builtin.lenOf,Builtin.firstCells,sizeOf,typeInfo,hi,hs,<-hn,hl,hst]
theorem znb(w:World)(dT sT ty elem:TypeId)(p a:Option Addr)(dLen dCap sLen sCap:Nat)(hu:P.underlying dT=some (.slice elem)){i:TypeInfo}(hi:P.info? elem=some i)(hm:Nat.min sLen dLen=0):
  (Builtin.copy_ #[dT,sT] ty #[.slice p dLen dCap, .slice a sLen sCap]).run P w= .ok (goInt ((0:Nat):Int)) w:=by
 have h:min sLen dLen=0:=hm
 cases p<;>cases a<;>simp[Builtin.copy_,run_underlying hu,Builtin.lenOf,Builtin.firstCells,sizeOf,typeInfo,hi,h,loadCells,loadCellsFrom,storeCells]
theorem Vstep.copy{x y:Operand}{t t' e:TypeId}{ti te:TI}{id n m:Nat}{cells ys:List RV}{f:TF}{K:St->Prop}(hT:TOk P T)
  (hop:o.op= .call {callee:= .builtin .copy,args:= #[x,y],argTypes:= #[t,t']}) (hti:tget T t=some ti) (hk:ti.k= .slice e) (hte:tget T e=some te)
  (hx:opr S x=some (.own id)) (ho:oget S.O id=some (.ch e te.sz n cells false)) (hy:opr S y=some f) (hr:rhsv S te.sz f=some (te.sz,m,ys)) {zs:List RV} (hz:ys.take (Nat.min m n*te.sz)++cells.drop (Nat.min m n*te.sz)=zs)
  (hK:newK (S.set id (some (.ch e te.sz n zs false))) o.dst (.r (.i .i64 (Nat.min m n:Nat))) none K):Vstep P S o K:=by
 subst hz
 rw[zat]at hK
 refine Vstep.one (S':=(S.set id (some (.ch e te.sz n (ys.take (Nat.min m n*te.sz)++cells.drop (Nat.min m n*te.sz)) false))).put o.dst (.r (.i .i64 (Nat.min m n:Nat)))) ?_ hK
 rintro B N a w k Q ⟨g,hs⟩ hd
 obtain⟨q,hq⟩:=hT.get hti
 obtain⟨d,hdd,hko,_⟩:=q.desc
 rw[hq,hk]at*
 simp only[KOk]at hko
 subst hko
 obtain⟨qe,hqe⟩:=hT.get hte
 obtain⟨i,hi,hsz,hby,z,hz,hzc⟩:=qe.info
 rw[hqe]at hi
 obtain⟨hid,hlo,hat,_⟩:=hs.owns id _ ho
 have hx':=(zag hs hx).2
 simp only[TF.at_]at hx'
 obtain⟨qa,qc,us,hu2,hus,husl,hsrc⟩:=zq9 hs hr (zag hs hy).2
 have hmn:Nat.min m n<=n:=Nat.min_le_right _ _
 have hmm:Nat.min m n<=m:=Nat.min_le_left _ _
 simp only[Ow.at_]at hat
 have run: ∀{v:Value} {w':World},(Builtin.copy_ #[t,t'] o.type #[(g id).1, .slice qa m qc]).run P w= .ok v w'->(execOp a.eval o).run P w= .ok (.value v) w':=λ{v w'} hr=>by
  simp[execOp,hop,resolve,invoke,builtin,hx',hu2,hr]
 have fin: ∀{w':World},SatE B N (S.set id (some (.ch e te.sz n (ys.take (Nat.min m n*te.sz)++cells.drop (Nat.min m n*te.sz)) false))) a w' k g->
   SatE B N ((S.set id (some (.ch e te.sz n (ys.take (Nat.min m n*te.sz)++cells.drop (Nat.min m n*te.sz)) false))).put o.dst (.r (.i .i64 (Nat.min m n:Nat)))) (a.put o.dst (goInt ((Nat.min m n:Nat):Int))) w' k g:=λ{w'} h=>
  h.put hd trivial (by simp[TF.at_,RV.at_,goInt])
 rcases Nat.eq_zero_or_pos (Nat.min m n)with h0 |hpos
 ·have hform: ∃p nn c,(g id).1= .slice p nn c/\nn=n:=by
   rcases hat.2 with⟨_,⟨rfl,p,e⟩ |⟨_,h,_⟩⟩ |⟨b,cap,cur,_,e,_⟩
   ·exact⟨p,0,0,e,rfl⟩
   ·cases h
   ·exact⟨_,n,cap,e,rfl⟩
  obtain⟨p,nn,c,hu,rfl⟩:=hform
  rw[hu]at run
  have hrun:=znb (P:=P) w t t' o.type e p qa nn c m qc hdd hi h0
  refine za0 (run hrun) ⟨k,g,?_⟩
  have hz:ys.take (Nat.min m nn*te.sz)++cells.drop (Nat.min m nn*te.sz)=cells:=by rw[h0];simp
  rw[hz]at fin⊢
  have:=fin (hs.reset ho)
  rw[h0]at this⊢
  exact this
 ·rcases hat.2 with⟨_,⟨rfl,_⟩ |⟨_,h,_⟩⟩ |⟨b,cap,cur,e1,e2,hh,h1,h2,h3,h4,h5⟩
  ·exact absurd hpos (by simp)
  ·cases h
  ·obtain⟨sb,so,rfl,hcells⟩:=hsrc (by omega)
   have hle:Nat.min m n*te.sz<=m*te.sz:=Nat.mul_le_mul_right _ hmm
   have hle2:Nat.min m n*te.sz<=n*te.sz:=Nat.mul_le_mul_right _ hmn
   have hcc:n*te.sz<=cap*te.sz:=Nat.mul_le_mul_right _ h1
   have hk:k b=0:=by simpa using h4
   have hcl:(us.take (Nat.min m n*te.sz)).length=Nat.min m n*te.sz:=by rw[List.length_take,husl];omega
   have hsub: ∀(j:Nat) (v:Value),(us.take (Nat.min m n*te.sz))[j]?=some v->us[j]?=some v:=λj v hj=>by
    rw[List.getElem?_take]at hj
    split at hj
    ·exact hj
    ·cases hj
   have hnew:RV.listAt w k (ys.take (Nat.min m n*te.sz)) (us.take (Nat.min m n*te.sz)):=zbp hus _
   have hr:=znc (P:=P) w t t' o.type e te.sz b 0 n cap ⟨sb,so,none⟩ m qc _ cur e (us.take (Nat.min m n*te.sz)) hdd hi hsz hh rfl hcl (λj v hj=>by rw[Addr.add_mid];exact hcells j v (hsub j v hj)) (by rw[hcl];omega) (λv hv=>by
    obtain⟨j,hj⟩:=List.getElem?_of_mem hv
    have hjl:j< (ys.take (Nat.min m n*te.sz)).length:=by rw[<-zay hnew];exact(List.getElem?_eq_some_iff.1 hj).1
    exact(((RV.listAt_iff _ _).1 hnew).2 j _ v (List.getElem?_eq_getElem hjl) hj).1)
   rw[e2]at run
   have hw:=zhq (k:=k) (cs:=(cur.toList.take 0++us.take (Nat.min m n*te.sz)++cur.toList.drop (0+(us.take (Nat.min m n*te.sz)).length)).toArray) hh hk
   refine za0 (run hr) ⟨k,g,fin (hs.redo ho e1 hw trivial ?_)⟩
   simp only[Ow.at_]
   have hyl:ys.length=m*te.sz:=by rw[<-zay hus,husl]
   refine⟨by have:=hat.1;simp only[aL,List.length_take,List.length_drop];omega, .inr ⟨b,cap,_,e1,e2,setRow_heap w b cur _ e (0,0) hh,h1,h2,?_,by simpa using hk,?_⟩⟩
   ·simp only[List.size_toArray,aL,List.length_take,List.length_drop,Array.length_toList,husl];omega
   ·have hnew':=RV.list_mono hw.le _ _ hnew
    have hhi:=zb7 (RV.list_mono hw.le _ _ h5) (Nat.min m n*te.sz)
    have hall:=za6 hnew' hhi
    have e:(List.take 0 cur.toList++us.take (Nat.min m n*te.sz)++List.drop (0+(us.take (Nat.min m n*te.sz)).length) cur.toList).take (n*te.sz)=us.take (Nat.min m n*te.sz)++(cur.toList.take (n*te.sz)).drop (Nat.min m n*te.sz):=by
     rw[List.take_zero,List.nil_append,Nat.zero_add,List.take_append,hcl,List.drop_take]
     congr 1
     exact List.take_of_length_le (by rw[hcl];exact hle2)
    rw[List.toList_toArray,e]
    exact hall
end
theorem za7{S:St}{id:Nat}{e:TypeId}{sz n:Nat}{cells:List RV}(ho:oget S.O id=some (.ch e sz n cells false)):Sub S ⟨S.F,(id,some (.ch e sz n cells true))::S.O,S.nx⟩:=by
 rintro B N a w k ⟨g,hs⟩
 obtain⟨q1,q2,q3,q4⟩:=hs.owns id _ ho
 simp only[Ow.at_]at q3
 let k1:Kp:=match(g id).2 with
  |some b=>kset k b (n*sz)
  |none=>k
 have hw:Wrote w k w k1 (g id).2:=by
  refine⟨rfl,rfl,rfl,Nat.le_refl _,λb hb hne=>⟨rfl,?_⟩,λb hb=>?_⟩
  ·simp only[k1]
   cases hob:(g id).2 with
   |none=>rfl
   |some b'=>simp only[kset];rw[if_neg (λh=>hne (by rw[hob,h]))]
  ·have hkb:=(q3.blk hb.symm).1
   simp only[Bool.false_eq_true,if_false]at hkb
   exact⟨by omega,λ_ _=>rfl,λh=>by omega⟩
 have hle:=hw.le
 have h2:chAt w k1 e sz n cells true (g id).1 (g id).2:=by
  refine⟨q3.1,?_⟩
  rcases q3.2 with⟨h,h' |⟨_,h',_⟩⟩ |⟨b,cap,cur,h1,h2,h3,h4,h5,h6,h7,h8⟩
  ·exact .inl ⟨h, .inl h'⟩
  ·cases h'
  ·refine .inr ⟨b,cap,cur,h1,h2,h3,h4,h5,h6,?_,RV.list_mono hle _ _ h8⟩
   simp only[k1,h1,zbu,if_true]
 have h1:=hs.wrote hw (id:=some id) ⟨⟨_,ho⟩,rfl⟩
 have up: ∀i o',oget ((id,some (Ow.ch e sz n cells true))::S.O) i=some o'->(i=id/\o'= .ch e sz n cells true)\/(id≠i/\oget (S.strike (some id)).O i=some o'):=λi o' h=>by
  rcases zal h with⟨rfl,e'⟩ |⟨hne,h⟩
  ·cases e';exact .inl ⟨rfl,rfl⟩
  ·refine .inr ⟨hne,?_⟩
   simp only[St.strike,St.set,oget]
   split
   ·rename_i hb;exact absurd (Nat.eq_of_beq_eq_true hb) hne
   ·exact h
 refine⟨k1,g,h1.size,h1.defers,h1.keep,h1.kk,h1.facts,λi o' h=>?_,λi j o1 o2 b' hi hj hne hbi=>?_⟩
 ·rcases up i o' h with⟨rfl,rfl⟩ |⟨hne,h⟩
  ·exact⟨q1,trivial,h2,q4⟩
  ·exact h1.owns i o' h
 ·have old: ∀x ox,oget ((id,some (Ow.ch e sz n cells true))::S.O) x=some ox->∃ox',oget S.O x=some ox':=λx ox hx=>by
   rcases zal hx with⟨rfl,_⟩ |⟨_,hx⟩
   ·exact⟨_,ho⟩
   ·exact⟨ox,hx⟩
  obtain⟨p1,hp1⟩:=old i o1 hi
  obtain⟨p2,hp2⟩:=old j o2 hj
  exact hs.apart i j p1 p2 b' hp1 hp2 hne hbi
section
variable {P:Program} {T:TT} {S:St} {o:Oper}
theorem Vstep.nm(id t:Nat)(hid:Nat.blt id S.nx=true){K:St->Prop}(h: ∀v,Vstep P ⟨(t, .nm id v)::S.F,S.O,S.nx⟩ o K):Vstep P S o K:=by
 refine⟨Σ v:Value,(h v).out.choose,λx=>(h x.1).out.choose_spec.choose x.2,λB N a w k Q hs0 hd=>?_,λx=>(h x.1).out.choose_spec.choose_spec.2 x.2⟩
 obtain⟨g,hs⟩:=hs0
 have hs1:Sat B N ⟨(t, .nm id (g id).1)::S.F,S.O,S.nx⟩ a w k:=by
  refine⟨g,hs.size,hs.defers,hs.keep,hs.kk,λt' f hf=>?_,hs.owns,hs.apart⟩
  rcases za5 hf with⟨rfl,rfl⟩ |⟨_,hf⟩
  ·exact⟨by simp[Nat.blt]at hid;simp only[TF.lt];omega,rfl⟩
  ·exact hs.facts t' f hf
 refine Oper.wp_mono ?_ ((h (g id).1).out.choose_spec.choose_spec.1 B N a w k Q hs1 hd)
 rintro a' w' ⟨i,k',hs'⟩
 exact⟨⟨(g id).1,i⟩,k',hs'⟩
def zp5(S:St):List Operand->List Value->Prop
 |[],vs=>vs=[]
 |x::xs,vs=>∃v r,vs=v::r/\(∃id t,opr S x=some (.own id)/\fget S.F t=some (.nm id v))/\zp5 S xs r
theorem Vstep.mkfunX{f:FuncId}{cap:Array Operand}(vs:List Value){K:St->Prop}(hop:o.op= .makeFunc (.func f) #[] cap) (hc:zp5 S cap.toList vs) (hK:newK S o.dst (.r (.x (.func (.func f) #[] vs.toArray))) none K):Vstep P S o K:=by
 rw[zat]at hK
 refine Vstep.one (λB N a w k Q ⟨g,hs⟩ hd=>?_) hK
 have key: ∀(xs:List Operand) (vs:List Value),zp5 S xs vs->xs.map a.eval=vs:=by
  intro xs
  induction xs with
  |nil=>intro vs h;simp only[zp5]at h;subst h;rfl
  |cons x r ih=>
   intro vs h
   simp only[zp5]at h
   obtain⟨v,r',rfl,⟨id,t,hx,ht⟩,hr⟩:=h
   have h1:=(zag hs hx).2
   have h2:=(hs.facts t _ ht).2
   simp only[TF.at_]at h1 h2
   rw[List.map_cons,ih r' hr,h1,h2]
 have hv:cap.map a.eval=vs.toArray:=by
  apply Array.ext'
  rw[Array.toList_map]
  exact key _ _ hc
 refine za0 (v:= .func (.func f) #[] vs.toArray) (w':=w) (by simp[execOp,hop,Instr.makeFunc,hv]) ⟨k,g,hs.put hd trivial ?_⟩
 simp only[TF.at_,RV.at_]
end
section
variable {P:Program} {T:TT} {B:Bs} {N:Nat} {S:St} {a:Act} {w:World} {k:Kp} {g:Env} {o:Oper} {Q:Exit->Act->World->Prop}
theorem Vstep.val{K:St->Prop}(hT:TOk P T)(h:valv P T S o λf ow=>newK S o.dst f ow K):Vstep P S o K:=by
 refine⟨{S':St//K S'},Subtype.val,λB N a w k Q ⟨g,hs⟩ hd=>Oper.wp_mono ?_ (zrn hT hs hd h),λi=>i.2⟩
 rintro a' w' ⟨f,ow,k',hK,hq⟩
 rw[zat]at hK
 exact⟨⟨_,hK⟩,k',hq⟩
theorem Vcutn.mk'{lo hi:Int}{n:Nat}{K:Nat->Nat->Prop}(l m:Nat)(hl:lo=(l:Int))(hm:hi=((l+m:Nat):Int))(h2:l+m<=n)(h3:l<n)(hK:K l m)(h4:n<=maxLen:=by decide):Vcutn lo hi n K:=by
 subst hl;subst hm
 exact⟨by omega,by omega,by omega,by omega,h4,l,m,rfl,by omega,hK⟩
theorem Vstep.copyCut{x y:Operand}{t t' e:TypeId}{ti te:TI}{id off n n0 m:Nat}{cells ys zs:List RV}{f:TF}{K:St->Prop}(hT:TOk P T)
  (hop:o.op= .call {callee:= .builtin .copy,args:= #[x,y],argTypes:= #[t,t']}) (hti:tget T t=some ti) (hk:ti.k= .slice e) (hte:tget T e=some te)
  (hx:opr S x=some (.cut id off n)) (ho:oget S.O id=some (.ch e te.sz n0 cells false)) (hn:off+n*te.sz<=cells.length)
  (hy:opr S y=some f) (hr:rhsv S te.sz f=some (te.sz,m,ys)) (hz:cells.take off++ys.take (Nat.min m n*te.sz)++cells.drop (off+Nat.min m n*te.sz)=zs)
  (hK:newK (S.set id (some (.ch e te.sz n0 zs false))) o.dst (.r (.i .i64 (Nat.min m n:Nat))) none K):Vstep P S o K:=by
 subst hz
 rw[zat]at hK
 refine Vstep.one (λB N a w k Q ⟨g,hs⟩ hd=>?_) hK
 obtain⟨q,hq⟩:=hT.get hti
 obtain⟨d,hdd,hko,_⟩:=q.desc
 rw[hq]at hdd
 rw[hk]at hko
 simp only[KOk]at hko
 subst hko
 obtain⟨qe,hqe⟩:=hT.get hte
 obtain⟨i,hi,hsi,hby,z,hz,hzc⟩:=qe.info
 rw[hqe]at hi
 have hxv:=(zag hs hx).2
 simp only[TF.at_]at hxv
 obtain⟨b,c,hb,hxv,hnc⟩:=hxv
 obtain⟨qa,qc,us,hu2,hus,husl,hsrc⟩:=zq9 hs hr (zag hs hy).2
 obtain⟨hid,hlo,hat,_⟩:=hs.owns id _ ho
 simp only[Ow.at_]at hat
 have hmn:Nat.min m n<=n:=Nat.min_le_right _ _
 have hmm:Nat.min m n<=m:=Nat.min_le_left _ _
 have run: ∀{v:Value} {w':World},(Builtin.copy_ #[t,t'] o.type #[.slice (some ⟨b,off,none⟩) n c, .slice qa m qc]).run P w= .ok v w'->(execOp a.eval o).run P w= .ok (.value v) w':=λ{v w'} hr=>by
  simp[execOp,hop,resolve,invoke,builtin,hxv,hu2,hr]
 obtain⟨hcl0,hat⟩:=hat
 rcases hat with⟨hno,_⟩ |⟨b',cap,cur,e1,e2,hh,h1,h2,h3,h4,h5⟩
 ·rw[hno]at hb;cases hb
 obtain rfl:b'=b:=by rw[e1]at hb;injection hb
 have hk0:k b'=0:=by simpa using h4
 have hcc:n0*te.sz<=cap*te.sz:=Nat.mul_le_mul_right _ h1
 have hle:Nat.min m n*te.sz<=m*te.sz:=Nat.mul_le_mul_right _ hmm
 have hle2:Nat.min m n*te.sz<=n*te.sz:=Nat.mul_le_mul_right _ hmn
 rcases Nat.eq_zero_or_pos (Nat.min m n)with h0 |hpos
 ·have hrun:=znb (P:=P) w t t' o.type e (some ⟨b',off,none⟩) qa n c m qc hdd hi h0
  refine za0 (run hrun) ⟨k,g,?_⟩
  rw[h0]
  have e2:cells.take off++ys.take (0*te.sz)++cells.drop (off+0*te.sz)=cells:=by simp
  rw[e2]
  exact(hs.reset ho).put hd trivial (by simp[TF.at_,RV.at_,goInt])
 ·obtain⟨sb,so,rfl,hcells⟩:=hsrc (by omega)
  have hcl:(us.take (Nat.min m n*te.sz)).length=Nat.min m n*te.sz:=by rw[List.length_take,husl];omega
  have hsub: ∀(j:Nat) (v:Value),(us.take (Nat.min m n*te.sz))[j]?=some v->us[j]?=some v:=λj v hj=>by
   rw[List.getElem?_take]at hj
   split at hj
   ·exact hj
   ·cases hj
  have hnew:RV.listAt w k (ys.take (Nat.min m n*te.sz)) (us.take (Nat.min m n*te.sz)):=zbp hus _
  have hr:=znc (P:=P) w t t' o.type e te.sz b' off n c ⟨sb,so,none⟩ m qc _ cur e (us.take (Nat.min m n*te.sz)) hdd hi hsi hh rfl hcl (λj v hj=>by rw[Addr.add_mid];exact hcells j v (hsub j v hj)) (by rw[hcl];omega) (λv hv=>by
   obtain⟨j,hj⟩:=List.getElem?_of_mem hv
   have hjl:j< (ys.take (Nat.min m n*te.sz)).length:=by rw[<-zay hnew];exact(List.getElem?_eq_some_iff.1 hj).1
   exact(((RV.listAt_iff _ _).1 hnew).2 j _ v (List.getElem?_eq_getElem hjl) hj).1)
  have hw:=zhq (k:=k) (cs:=(cur.toList.take off++us.take (Nat.min m n*te.sz)++cur.toList.drop (off+(us.take (Nat.min m n*te.sz)).length)).toArray) hh hk0
  have h1':=hs.redo (ow':= .ch e te.sz n0 (cells.take off++ys.take (Nat.min m n*te.sz)++cells.drop (off+Nat.min m n*te.sz)) false) ho e1 hw trivial (by
   simp only[Ow.at_]
   have hyl:ys.length=m*te.sz:=by rw[<-zay hus,husl]
   refine⟨by simp only[aL,List.length_take,List.length_drop];omega, .inr ⟨b',cap,_,e1,e2,setRow_heap w b' cur _ e (0,0) hh,h1,h2,?_,by simpa using hk0,?_⟩⟩
   ·simp only[List.size_toArray,aL,List.length_take,List.length_drop,Array.length_toList,husl];omega
   ·have hnew':=RV.list_mono hw.le _ _ hnew
    have h5':=RV.list_mono hw.le _ _ h5
    have hall:=za6 (za6 (zbp h5' off) hnew') (zb7 h5' (off+Nat.min m n*te.sz))
    rw[List.take_take,Nat.min_eq_left (by omega)]at hall
    have hA:(List.take off cur.toList++us.take (Nat.min m n*te.sz)).length=off+Nat.min m n*te.sz:=by rw[aL,List.length_take,hcl,Array.length_toList];omega
    have e:(List.take off cur.toList++us.take (Nat.min m n*te.sz)++List.drop (off+(us.take (Nat.min m n*te.sz)).length) cur.toList).take (n0*te.sz)=List.take off cur.toList++us.take (Nat.min m n*te.sz)++(cur.toList.take (n0*te.sz)).drop (off+Nat.min m n*te.sz):=by
     rw[List.take_append,hA,List.drop_take,hcl]
     congr 1
     exact List.take_of_length_le (by omega)
    rw[List.toList_toArray,e]
    exact hall)
  exact za0 (run hr) ⟨k,g,h1'.put hd trivial (by simp[TF.at_,RV.at_,goInt])⟩
theorem Vstep.copyBox{x y:Operand}{t t' e:TypeId}{ti te:TI}{id off n m:Nat}{cells zs:List TF}{ys:List RV}{f:TF}{K:St->Prop}(hT:TOk P T)
  (hop:o.op= .call {callee:= .builtin .copy,args:= #[x,y],argTypes:= #[t,t']}) (hti:tget T t=some ti) (hk:ti.k= .slice e) (hte:tget T e=some te) (hsz:te.sz=1)
  (hx:opr S x=some (.cut id off n)) (ho:oget S.O id=some (.box cells)) (hn:off+n<=cells.length)
  (hy:opr S y=some f) (hr:rhsv S 1 f=some (1,m,ys)\/(∃off',f= .cut id off' m/\off'+m<=cells.length/\ys.map .r=(cells.drop off').take m)) (hz:cells.take off++((ys.take (Nat.min m n)).map .r)++cells.drop (off+Nat.min m n)=zs)
  (hK:newK (S.set id (some (.box zs))) o.dst (.r (.i .i64 (Nat.min m n:Nat))) none K):Vstep P S o K:=by
 subst hz
 rw[zat]at hK
 refine Vstep.one (λB N a w k Q ⟨g,hs⟩ hd=>?_) hK
 obtain⟨q,hq⟩:=hT.get hti
 obtain⟨d,hdd,hko,_⟩:=q.desc
 rw[hq]at hdd
 rw[hk]at hko
 simp only[KOk]at hko
 subst hko
 obtain⟨qe,hqe⟩:=hT.get hte
 obtain⟨i,hi,hsi,hby,z,hz,hzc⟩:=qe.info
 rw[hqe]at hi
 rw[hsz]at hsi
 have hxv:=(zag hs hx).2
 simp only[TF.at_]at hxv
 obtain⟨b,c,hb,hxv,hnc⟩:=hxv
 obtain⟨hid,hlo,hat,_⟩:=hs.owns id _ ho
 simp only[Ow.at_]at hat
 obtain⟨b',cur,ty,e1,hh,hk0,hcs,hc⟩:=hat
 obtain rfl:b'=b:=by rw[e1]at hb;injection hb
 have hold:AllAt (λf u=>u.oneCell'=true/\f.at_ w k g u) cells cur.toList:=⟨by rw[Array.length_toList,hcs],λj f u hf hu=>hc j f u hf (by simpa using hu)⟩
 have key: ∃qa qc us,a.eval y= .slice qa m qc/\RV.listAt w k ys us/\us.length=m*1/\(0<m->∃b o,qa=some ⟨b,o,none⟩/\∀j v,us[j]?=some v->w.cell? ⟨b,o+j,none⟩=some v):=by
  rcases hr with hr |⟨off',rfl,ho2,hys⟩
  ·exact zq9 hs hr (zag hs hy).2
  ·have hyv:=(zag hs hy).2
   simp only[TF.at_]at hyv
   obtain⟨b2,c2,hb2,hyv,hnc2⟩:=hyv
   obtain rfl:b'=b2:=by rw[e1]at hb2;injection hb2
   have hcut:=(hold.drop off').take m
   rw[<-hys]at hcut
   refine⟨some ⟨b',off',none⟩,c2,(cur.toList.drop off').take m,hyv,?_,?_,λ_=>⟨b',off',rfl,λj v hj=>?_⟩⟩
   ·rw[RV.listAt_iff]
    refine⟨by have:=hcut.1;rw[List.length_map]at this;exact this.symm▸rfl,λj f u hf hu=>?_⟩
    have:=hcut.2 j (.r f) u (by rw[List.getElem?_map,hf];rfl) hu
    exact this
   ·rw[List.length_take,List.length_drop,Array.length_toList,hcs]
    omega
   ·rw[List.getElem?_take]at hj
    split at hj
    ·rw[List.getElem?_drop]at hj
     rw[cell_of_row w b' (off'+j) cur ty (0,0) hh]
     simpa using hj
    ·cases hj
 obtain⟨qa,qc,us,hu2,hus,husl,hsrc⟩:=key
 rw[Nat.mul_one]at husl
 have hmn:Nat.min m n<=n:=Nat.min_le_right _ _
 have hmm:Nat.min m n<=m:=Nat.min_le_left _ _
 have run: ∀{v:Value} {w':World},(Builtin.copy_ #[t,t'] o.type #[.slice (some ⟨b',off,none⟩) n c, .slice qa m qc]).run P w= .ok v w'->(execOp a.eval o).run P w= .ok (.value v) w':=λ{v w'} hr=>by
  simp[execOp,hop,resolve,invoke,builtin,hxv,hu2,hr]
 rcases Nat.eq_zero_or_pos (Nat.min m n)with h0 |hpos
 ·have hrun:=znb (P:=P) w t t' o.type e (some ⟨b',off,none⟩) qa n c m qc hdd hi h0
  refine za0 (run hrun) ⟨k,g,?_⟩
  rw[h0]
  have h1:=hs.reset ho
  have e2:cells.take off++((ys.take 0).map TF.r)++cells.drop (off+0)=cells:=by simp
  rw[e2]
  exact h1.put hd trivial (by simp[TF.at_,RV.at_,goInt])
 ·obtain⟨sb,so,rfl,hcells⟩:=hsrc (by omega)
  have hcl:(us.take (Nat.min m n)).length=Nat.min m n*1:=by rw[List.length_take,husl];omega
  have hsub: ∀(j:Nat) (v:Value),(us.take (Nat.min m n))[j]?=some v->us[j]?=some v:=λj v hj=>by
   rw[List.getElem?_take]at hj
   split at hj
   ·exact hj
   ·cases hj
  have hnew:RV.listAt w k (ys.take (Nat.min m n)) (us.take (Nat.min m n)):=zbp hus _
  have hnl:=zay hnew
  have hr:=znc (P:=P) w t t' o.type e 1 b' off n c ⟨sb,so,none⟩ m qc _ cur ty (us.take (Nat.min m n)) hdd hi hsi hh rfl hcl (λj v hj=>by rw[Addr.add_mid];exact hcells j v (hsub j v hj)) (by rw[hcl,hcs];omega) (λv hv=>by
   obtain⟨j,hj⟩:=List.getElem?_of_mem hv
   have hjl:j< (ys.take (Nat.min m n)).length:=by rw[<-zay hnew];exact(List.getElem?_eq_some_iff.1 hj).1
   exact(((RV.listAt_iff _ _).1 hnew).2 j _ v (List.getElem?_eq_getElem hjl) hj).1)
  have hw:=zhq (k:=k) (cs:=(cur.toList.take off++us.take (Nat.min m n)++cur.toList.drop (off+(us.take (Nat.min m n)).length)).toArray) hh hk0
  have hnew2:AllAt (λf u=>u.oneCell'=true/\f.at_ w k g u) ((ys.take (Nat.min m n)).map TF.r) (us.take (Nat.min m n)):=by
   refine⟨by rw[List.length_map,hnl],λj f u hf hu=>?_⟩
   rw[List.getElem?_map]at hf
   obtain⟨r,hr,rfl⟩:=Option.map_eq_some_iff.1 hf
   exact((RV.listAt_iff _ _).1 hnew).2 j r u hr hu
  have hcl':(us.take (Nat.min m n)).length=Nat.min m n:=by rw[hcl,Nat.mul_one]
  have hall:=(((hold.take off).append hnew2).append (hold.drop (off+Nat.min m n))).mono (q:=λf u=>u.oneCell'=true/\f.at_ (w.setRow b' (cur.toList.take off++us.take (Nat.min m n)++cur.toList.drop (off+(us.take (Nat.min m n)).length)).toArray) k g u) λf u h=>⟨h.1,TF.mono hw.le h.2⟩
  have h1:=hs.redo (ow':= .box (cells.take off++((ys.take (Nat.min m n)).map TF.r)++cells.drop (off+Nat.min m n))) ho (by rw[e1]) hw (by
   intro f hf
   rcases List.mem_append.1 hf with hf |hf
   ·rcases List.mem_append.1 hf with hf |hf
    ·exact hlo f (List.mem_of_mem_take hf)
    ·obtain⟨r,_,rfl⟩:=List.mem_map.1 hf
     trivial
   ·exact hlo f (List.mem_of_mem_drop hf)) (by
   simp only[Ow.at_]
   refine⟨b',_,ty,e1,setRow_heap w b' cur _ ty (0,0) hh,hk0,by have:=hall.1;rw[hcl'];simpa using this,λj f u hf hu=>hall.2 j f u hf (by rw[hcl']at hu;simpa using hu)⟩)
  exact za0 (run hr) ⟨k,g,h1.put hd trivial (by simp[TF.at_,RV.at_,goInt])⟩
theorem zdw(l:List RV)(n:Nat):(l.map TF.r).all (ltB n)=true:=by
 induction l with
 |nil=>rfl
 |cons x r ih=>rw[List.map_cons,List.all_cons,ih];rfl
theorem Vstep.actsBox{l l':List RV}(j:Nat){f:FuncId}{args:List TF}{r:RV}{K:St->Prop}(hA: ∀v,Acts P f 1 [(0, .box (l.map .r))] args [(0,v)] 1 [(0, .box (l'.map .r))] (.r r))(hcall:Handed P S o [(0,j)] f args)
  (ho:oget S.O j=some (.box (l.map .r))) (hK:newK ⟨S.F,(j,some (.box (l'.map .r)))::(j,none)::S.O,S.nx+1⟩ o.dst (.r r) none K):Vstep P S o K:=by
 refine zj [(0,j)] [0] (λvs _=>hA (vs 0)) hcall ?_ ⟨?_,trivial⟩ ⟨zpz,trivial⟩ ?_
 ·simp only[stA,List.all_cons,List.all_nil,zdl,zdw,lift,List.map_cons,List.map_nil,oget,zeu,List.any_nil]
  rfl
 ·show match oget S.O j with |some o'=>cvOw [(0,j)] S o' (.box (l.map .r)) |none=>False
  rw[ho]
  exact zad l
 ·rw[zl3]
  rw[zat]at hK
  have e:(l'.map TF.r).map (zd8 (ren [(0,j)] [0] S.nx))=l'.map TF.r:=by
   rw[List.map_map]
   exact List.map_congr_left λx _=>rfl
  have e2:zl4 [(0,j)] [0] S 1 [(0, .box (l'.map .r))] (.r r) o.dst=St.new ⟨S.F,(j,some (.box (l'.map .r)))::(j,none)::S.O,S.nx+1⟩ o.dst (.r r) none:=by
   show St.put ⟨S.F,(j,some (.box ((l'.map TF.r).map (zd8 (ren [(0,j)] [0] S.nx)))))::(j,none)::S.O,S.nx+1⟩ o.dst (.r r)=_
   rw[e]
   rfl
  rw[e2]
  exact hK
end
theorem zk4{α:Type}(f:α->RV)(d:α){l:List α}{j:Nat}(h:j<l.length):lget ((l.map f).map TF.r) (j*1)=some (TF.r (f (l.getD j d))):=by
 rw[zao,Nat.mul_one,List.getElem?_map,List.getElem?_map,List.getElem?_eq_getElem h,List.getD_eq_getElem?_getD,List.getElem?_eq_getElem h]
 rfl
theorem zxg{α:Type}{f:α->RV}{l:List α}{j:Nat}{x:α}{K:List TF->Prop}(h:j<l.length)(hK:K (((l.set j x).map f).map TF.r)):putK ((l.map f).map TF.r) (j*1) [TF.r (f x)] K:=by
 rw[Nat.mul_one,zef _ _ _ _ (by simp;omega)]
 have e:((l.map f).map TF.r).take j++[TF.r (f x)]++((l.map f).map TF.r).drop (j+1)=((l.set j x).map f).map TF.r:=by
  rw[List.set_eq_take_append_cons_drop,if_pos h]
  simp[List.map_take,List.map_drop]
 simp only[List.length_cons,List.length_nil,Nat.zero_add]
 rw[e]
 exact hK
theorem zgv(S:St): ∀l:List RV,S.rvs (l.map .r)=some l
 |[]=>rfl
 |x::r=>by simp only[List.map_cons,St.rvs,zgv S r,St.rv]
theorem zs4: ∀l:List RV,(l.map TF.r).flatMap zah=[]
 |[]=>rfl
 |x::r=>by rw[List.map_cons,List.flatMap_cons,zs4 r];rfl
theorem zbc{S:St}{o:Oper}{n0:Nat}{cr:List (Nat×Nat)}{w:List Nat}{id:Nat}{l:List RV}(h:ids1 S o=[id])(ho:oget S.O id=some (.box (l.map .r)))(hn:Nat.blt id n0=true):zaz S o n0 cr w=true:=by
 have e:zaq S o=[id]:=by
  rw[zaq,h,ids2,List.flatMap_cons,ho,List.flatMap_nil]
  simp only[zs4,List.append_nil]
 rw[zaz,e]
 simp only[allB,hn,Bool.and_true]
theorem zrx{k:IntKind}{x:Int}{c:List TF}{j:Nat}(h:j<c.length):(za4 (.i k x)&&(Nat.beq (cellsOf (.i k x)).length 1&&Nat.ble (j*1+1) c.length))=true:=by
 have e:Nat.ble (j*1+1) c.length=true:=by
  rw[Nat.ble_eq]
  omega
 rw[e]
 rfl
theorem zht{l:List RV}{cells:List TF}(n:Nat)(hl:l.length=n)(hc:cells.length=n):(za4 (.ag l)&&(Nat.beq (cellsOf (.ag l)).length n&&Nat.ble (0+n) cells.length))=true:=by
 have e1:(cellsOf (.ag l)).length=n:=hl
 have e2:za4 (.ag l)=true:=rfl
 rw[e1,e2,hc,Nat.zero_add,Nat.ble_eq.mpr (Nat.le_refl _)]
 simp
theorem zd7{l:List RV}{cells:List TF}{K:List TF->Prop}(h:cells.length=l.length)(hK:K (l.map .r)):putK cells 0 ((cellsOf (.ag l)).map .r) K:=by
 have e:cellsOf (.ag l)=l:=rfl
 rw[zef _ _ _ _ (by rw[e,List.length_map];omega),e,List.take_zero,List.nil_append,List.drop_eq_nil_of_le (by rw[List.length_map];omega),List.append_nil]
 exact hK
end Go.Proofs.YtpcfoglfakeimaaGreat.Sx
