import Derived.Test.YtoegdgbghdnnfaaGreatZSxNm
import Derived.Test.YtoegdgbghdnnfaaGreatZKc
import Derived.Test.YtoegdgbghdnnfaaGreatZSxV
import Derived.Laws.Externs
import Derived.Test.YtoegdgbghdnnfaaGreatZBytes
namespace Go.Proofs.YtoegdgbghdnnfaaGreat.Sx
open Go.RowKit
section
variable {P:Program} {T:TT} {B:Bs} {N:Nat} {S:St} {a:Act} {w:World} {k:Kp} {g:Env} {o:Oper} {Q:Exit->Act->World->Prop}
theorem Vstep.val{K:St->Prop}(hT:TOk P T)(h:valv P T S o λf ow=>newK S o.dst f ow K):Vstep P S o K:=by
 refine⟨{S':St//K S'},Subtype.val,λB N a w k Q ⟨g,hs⟩ hd=>Oper.wp_mono ?_ (zs6 hT hs hd h),λi=>i.2⟩
 rintro a' w' ⟨f,ow,k',hK,hq⟩
 rw[za4]at hK
 exact⟨⟨_,hK⟩,k',hq⟩
theorem Vcutn.mk'{lo hi:Int}{n:Nat}{K:Nat->Nat->Prop}(l m:Nat)(hl:lo=(l:Int))(hm:hi=((l+m:Nat):Int))(h2:l+m<=n)(h3:l<n)(hK:K l m)(h4:n<=maxLen:=by decide):Vcutn lo hi n K:=by
 subst hl;subst hm
 exact⟨by omega,by omega,by omega,by omega,h4,l,m,rfl,by omega,hK⟩
theorem Vstep.copyCut{x y:Operand}{t t' e:TypeId}{ti te:TI}{id off n n0 m:Nat}{cells ys zs:List RV}{f:TF}{K:St->Prop}(hT:TOk P T)
  (hop:o.op= .call {callee:= .builtin .copy,args:= #[x,y],argTypes:= #[t,t']}) (hti:tget T t=some ti) (hk:ti.k= .slice e) (hte:tget T e=some te)
  (hx:opr S x=some (.cut id off n)) (ho:oget S.O id=some (.ch e te.sz n0 cells false)) (hn:off+n*te.sz<=cells.length)
  (hy:opr S y=some f) (hr:rhsv S te.sz f=some (te.sz,m,ys)) (hz:cells.take off++ys.take (Nat.min m n*te.sz)++cells.drop (off+Nat.min m n*te.sz)=zs)
  (hK:newK (S.set id (some (.ch e te.sz n0 zs false))) o.dst (.r (.i .i64 (Nat.min m n:Nat))) none K):Vstep P S o K:=by
 subst hz
 rw[za4]at hK
 refine Vstep.one (λB N a w k Q ⟨g,hs⟩ hd=>?_) hK
 obtain⟨q,hq⟩:=hT.get hti
 obtain⟨d,hdd,hko,_⟩:=q.desc
 rw[hq]at hdd
 rw[hk]at hko
 simp only[KOk]at hko
 subst hko
 obtain⟨qe,hqe⟩:=hT.get hte
 obtain⟨i,hi,hsi,hby,z,hz,hzc⟩:=qe.info
 rw[hqe]at hi
 have hxv:=(zah hs hx).2
 simp only[TF.at_]at hxv
 obtain⟨b,c,hb,hxv,hnc⟩:=hxv
 obtain⟨qa,qc,us,hu2,hus,husl,hsrc⟩:=zss hs hr (zah hs hy).2
 obtain⟨hid,hlo,hat,_⟩:=hs.owns id _ ho
 simp only[Ow.at_]at hat
 have hmn:Nat.min m n<=n:=Nat.min_le_right _ _
 have hmm:Nat.min m n<=m:=Nat.min_le_left _ _
 have run: ∀{v:Value} {w':World},(Builtin.copy_ #[t,t'] o.type #[.slice (some ⟨b,off,none⟩) n c, .slice qa m qc]).run P w= .ok v w'->(execOp a.eval o).run P w= .ok (.value v) w':=λ{v w'} hr=>by
  simp[execOp,hop,resolve,invoke,builtin,hxv,hu2,hr]
 obtain⟨hcl0,hat⟩:=hat
 rcases hat with⟨hno,_⟩ |⟨b',cap,cur,e1,e2,hh,h1,h2,h3,h4,h5⟩
 ·rw[hno]at hb;cases hb
 obtain rfl:b'=b:=by rw[e1]at hb;injection hb
 have hk0:k b'=0:=by simpa using h4
 have hcc:n0*te.sz<=cap*te.sz:=Nat.mul_le_mul_right _ h1
 have hle:Nat.min m n*te.sz<=m*te.sz:=Nat.mul_le_mul_right _ hmm
 have hle2:Nat.min m n*te.sz<=n*te.sz:=Nat.mul_le_mul_right _ hmn
 rcases Nat.eq_zero_or_pos (Nat.min m n)with h0 |hpos
 ·have hrun:=zof (P:=P) w t t' o.type e (some ⟨b',off,none⟩) qa n c m qc hdd hi h0
  refine za0 (run hrun) ⟨k,g,?_⟩
  rw[h0]
  have e2:cells.take off++ys.take (0*te.sz)++cells.drop (off+0*te.sz)=cells:=by simp
  rw[e2]
  exact(hs.reset ho).put hd trivial (by simp[TF.at_,RV.at_,goInt])
 ·obtain⟨sb,so,rfl,hcells⟩:=hsrc (by omega)
  have hcl:(us.take (Nat.min m n*te.sz)).length=Nat.min m n*te.sz:=by rw[List.length_take,husl];omega
  have hsub: ∀(j:Nat) (v:Value),(us.take (Nat.min m n*te.sz))[j]?=some v->us[j]?=some v:=λj v hj=>by
   rw[List.getElem?_take]at hj
   split at hj
   ·exact hj
   ·cases hj
  have hnew:RV.listAt w k (ys.take (Nat.min m n*te.sz)) (us.take (Nat.min m n*te.sz)):=zdg hus _
  have hr:=zog (P:=P) w t t' o.type e te.sz b' off n c ⟨sb,so,none⟩ m qc _ cur e (us.take (Nat.min m n*te.sz)) hdd hi hsi hh rfl hcl (λj v hj=>by rw[Addr.add_mid];exact hcells j v (hsub j v hj)) (by rw[hcl];omega) (λv hv=>by
   obtain⟨j,hj⟩:=List.getElem?_of_mem hv
   have hjl:j< (ys.take (Nat.min m n*te.sz)).length:=by rw[<-za7 hnew];exact(List.getElem?_eq_some_iff.1 hj).1
   exact(((RV.listAt_iff _ _).1 hnew).2 j _ v (List.getElem?_eq_getElem hjl) hj).1)
  have hw:=ziu (k:=k) (cs:=(cur.toList.take off++us.take (Nat.min m n*te.sz)++cur.toList.drop (off+(us.take (Nat.min m n*te.sz)).length)).toArray) hh hk0
  have h1':=hs.redo (ow':= .ch e te.sz n0 (cells.take off++ys.take (Nat.min m n*te.sz)++cells.drop (off+Nat.min m n*te.sz)) false) ho e1 hw trivial (by
   simp only[Ow.at_]
   have hyl:ys.length=m*te.sz:=by rw[<-za7 hus,husl]
   refine⟨by simp only[List.length_append,List.length_take,List.length_drop];omega, .inr ⟨b',cap,_,e1,e2,setRow_heap w b' cur _ e (0,0) hh,h1,h2,?_,by simpa using hk0,?_⟩⟩
   ·simp only[List.size_toArray,List.length_append,List.length_take,List.length_drop,Array.length_toList,husl];omega
   ·have hnew':=RV.list_mono hw.le _ _ hnew
    have h5':=RV.list_mono hw.le _ _ h5
    have hall:=zct (zct (zdg h5' off) hnew') (zew h5' (off+Nat.min m n*te.sz))
    rw[List.take_take,Nat.min_eq_left (by omega)]at hall
    have hA:(List.take off cur.toList++us.take (Nat.min m n*te.sz)).length=off+Nat.min m n*te.sz:=by rw[List.length_append,List.length_take,hcl,Array.length_toList];omega
    have e:(List.take off cur.toList++us.take (Nat.min m n*te.sz)++List.drop (off+(us.take (Nat.min m n*te.sz)).length) cur.toList).take (n0*te.sz)=List.take off cur.toList++us.take (Nat.min m n*te.sz)++(cur.toList.take (n0*te.sz)).drop (off+Nat.min m n*te.sz):=by
     rw[List.take_append,hA,List.drop_take,hcl]
     congr 1
     exact List.take_of_length_le (by omega)
    rw[List.toList_toArray,e]
    exact hall)
  exact za0 (run hr) ⟨k,g,h1'.put hd trivial (by simp[TF.at_,RV.at_,goInt])⟩
theorem Vstep.copyBox{x y:Operand}{t t' e:TypeId}{ti te:TI}{id off n m:Nat}{cells zs:List TF}{ys:List RV}{f:TF}{K:St->Prop}(hT:TOk P T)
  (hop:o.op= .call {callee:= .builtin .copy,args:= #[x,y],argTypes:= #[t,t']}) (hti:tget T t=some ti) (hk:ti.k= .slice e) (hte:tget T e=some te) (hsz:te.sz=1)
  (hx:opr S x=some (.cut id off n)) (ho:oget S.O id=some (.box cells)) (hn:off+n<=cells.length)
  (hy:opr S y=some f) (hr:rhsv S 1 f=some (1,m,ys)\/(∃off',f= .cut id off' m/\off'+m<=cells.length/\ys.map .r=(cells.drop off').take m)) (hz:cells.take off++((ys.take (Nat.min m n)).map .r)++cells.drop (off+Nat.min m n)=zs)
  (hK:newK (S.set id (some (.box zs))) o.dst (.r (.i .i64 (Nat.min m n:Nat))) none K):Vstep P S o K:=by
 subst hz
 rw[za4]at hK
 refine Vstep.one (λB N a w k Q ⟨g,hs⟩ hd=>?_) hK
 obtain⟨q,hq⟩:=hT.get hti
 obtain⟨d,hdd,hko,_⟩:=q.desc
 rw[hq]at hdd
 rw[hk]at hko
 simp only[KOk]at hko
 subst hko
 obtain⟨qe,hqe⟩:=hT.get hte
 obtain⟨i,hi,hsi,hby,z,hz,hzc⟩:=qe.info
 rw[hqe]at hi
 rw[hsz]at hsi
 have hxv:=(zah hs hx).2
 simp only[TF.at_]at hxv
 obtain⟨b,c,hb,hxv,hnc⟩:=hxv
 obtain⟨hid,hlo,hat,_⟩:=hs.owns id _ ho
 simp only[Ow.at_]at hat
 obtain⟨b',cur,ty,e1,hh,hk0,hcs,hc⟩:=hat
 obtain rfl:b'=b:=by rw[e1]at hb;injection hb
 have hold:AllAt (λf u=>u.oneCell'=true/\f.at_ w k g u) cells cur.toList:=⟨by rw[Array.length_toList,hcs],λj f u hf hu=>hc j f u hf (by simpa using hu)⟩
 have key: ∃qa qc us,a.eval y= .slice qa m qc/\RV.listAt w k ys us/\us.length=m*1/\(0<m->∃b o,qa=some ⟨b,o,none⟩/\∀j v,us[j]?=some v->w.cell? ⟨b,o+j,none⟩=some v):=by
  rcases hr with hr |⟨off',rfl,ho2,hys⟩
  ·exact zss hs hr (zah hs hy).2
  ·have hyv:=(zah hs hy).2
   simp only[TF.at_]at hyv
   obtain⟨b2,c2,hb2,hyv,hnc2⟩:=hyv
   obtain rfl:b'=b2:=by rw[e1]at hb2;injection hb2
   have hcut:=(hold.drop off').take m
   rw[<-hys]at hcut
   refine⟨some ⟨b',off',none⟩,c2,(cur.toList.drop off').take m,hyv,?_,?_,λ_=>⟨b',off',rfl,λj v hj=>?_⟩⟩
   ·rw[RV.listAt_iff]
    refine⟨by have:=hcut.1;rw[List.length_map]at this;exact this.symm▸rfl,λj f u hf hu=>?_⟩
    have:=hcut.2 j (.r f) u (by rw[List.getElem?_map,hf];rfl) hu
    exact this
   ·rw[List.length_take,List.length_drop,Array.length_toList,hcs]
    omega
   ·rw[List.getElem?_take]at hj
    split at hj
    ·rw[List.getElem?_drop]at hj
     rw[cell_of_row w b' (off'+j) cur ty (0,0) hh]
     simpa using hj
    ·cases hj
 obtain⟨qa,qc,us,hu2,hus,husl,hsrc⟩:=key
 rw[Nat.mul_one]at husl
 have hmn:Nat.min m n<=n:=Nat.min_le_right _ _
 have hmm:Nat.min m n<=m:=Nat.min_le_left _ _
 have run: ∀{v:Value} {w':World},(Builtin.copy_ #[t,t'] o.type #[.slice (some ⟨b',off,none⟩) n c, .slice qa m qc]).run P w= .ok v w'->(execOp a.eval o).run P w= .ok (.value v) w':=λ{v w'} hr=>by
  simp[execOp,hop,resolve,invoke,builtin,hxv,hu2,hr]
 rcases Nat.eq_zero_or_pos (Nat.min m n)with h0 |hpos
 ·have hrun:=zof (P:=P) w t t' o.type e (some ⟨b',off,none⟩) qa n c m qc hdd hi h0
  refine za0 (run hrun) ⟨k,g,?_⟩
  rw[h0]
  have h1:=hs.reset ho
  have e2:cells.take off++((ys.take 0).map TF.r)++cells.drop (off+0)=cells:=by simp
  rw[e2]
  exact h1.put hd trivial (by simp[TF.at_,RV.at_,goInt])
 ·obtain⟨sb,so,rfl,hcells⟩:=hsrc (by omega)
  have hcl:(us.take (Nat.min m n)).length=Nat.min m n*1:=by rw[List.length_take,husl];omega
  have hsub: ∀(j:Nat) (v:Value),(us.take (Nat.min m n))[j]?=some v->us[j]?=some v:=λj v hj=>by
   rw[List.getElem?_take]at hj
   split at hj
   ·exact hj
   ·cases hj
  have hnew:RV.listAt w k (ys.take (Nat.min m n)) (us.take (Nat.min m n)):=zdg hus _
  have hnl:=za7 hnew
  have hr:=zog (P:=P) w t t' o.type e 1 b' off n c ⟨sb,so,none⟩ m qc _ cur ty (us.take (Nat.min m n)) hdd hi hsi hh rfl hcl (λj v hj=>by rw[Addr.add_mid];exact hcells j v (hsub j v hj)) (by rw[hcl,hcs];omega) (λv hv=>by
   obtain⟨j,hj⟩:=List.getElem?_of_mem hv
   have hjl:j< (ys.take (Nat.min m n)).length:=by rw[<-za7 hnew];exact(List.getElem?_eq_some_iff.1 hj).1
   exact(((RV.listAt_iff _ _).1 hnew).2 j _ v (List.getElem?_eq_getElem hjl) hj).1)
  have hw:=ziu (k:=k) (cs:=(cur.toList.take off++us.take (Nat.min m n)++cur.toList.drop (off+(us.take (Nat.min m n)).length)).toArray) hh hk0
  have hnew2:AllAt (λf u=>u.oneCell'=true/\f.at_ w k g u) ((ys.take (Nat.min m n)).map TF.r) (us.take (Nat.min m n)):=by
   refine⟨by rw[List.length_map,hnl],λj f u hf hu=>?_⟩
   rw[List.getElem?_map]at hf
   obtain⟨r,hr,rfl⟩:=Option.map_eq_some_iff.1 hf
   exact((RV.listAt_iff _ _).1 hnew).2 j r u hr hu
  have hcl':(us.take (Nat.min m n)).length=Nat.min m n:=by rw[hcl,Nat.mul_one]
  have hall:=(((hold.take off).append hnew2).append (hold.drop (off+Nat.min m n))).mono (q:=λf u=>u.oneCell'=true/\f.at_ (w.setRow b' (cur.toList.take off++us.take (Nat.min m n)++cur.toList.drop (off+(us.take (Nat.min m n)).length)).toArray) k g u) λf u h=>⟨h.1,TF.mono hw.le h.2⟩
  have h1:=hs.redo (ow':= .box (cells.take off++((ys.take (Nat.min m n)).map TF.r)++cells.drop (off+Nat.min m n))) ho (by rw[e1]) hw (by
   intro f hf
   rcases List.mem_append.1 hf with hf |hf
   ·rcases List.mem_append.1 hf with hf |hf
    ·exact hlo f (List.mem_of_mem_take hf)
    ·obtain⟨r,_,rfl⟩:=List.mem_map.1 hf
     trivial
   ·exact hlo f (List.mem_of_mem_drop hf)) (by
   simp only[Ow.at_]
   refine⟨b',_,ty,e1,setRow_heap w b' cur _ ty (0,0) hh,hk0,by have:=hall.1;rw[hcl'];simpa using this,λj f u hf hu=>hall.2 j f u hf (by rw[hcl']at hu;simpa using hu)⟩)
  exact za0 (run hr) ⟨k,g,h1.put hd trivial (by simp[TF.at_,RV.at_,goInt])⟩
theorem ze3(l:List RV)(n:Nat):(l.map TF.r).all (ltB n)=true:=by
 induction l with
 |nil=>rfl
 |cons x r ih=>rw[List.map_cons,List.all_cons,ih];rfl
theorem Vstep.actsBox{l l':List RV}(j:Nat){f:FuncId}{args:List TF}{r:RV}{K:St->Prop}(hA: ∀v,Acts P f 1 [(0, .box (l.map .r))] args [(0,v)] 1 [(0, .box (l'.map .r))] (.r r))(hcall:Handed P S o [(0,j)] f args)
  (ho:oget S.O j=some (.box (l.map .r))) (hK:newK ⟨S.F,(j,some (.box (l'.map .r)))::(j,none)::S.O,S.nx+1⟩ o.dst (.r r) none K):Vstep P S o K:=by
 refine zj [(0,j)] [0] (λvs _=>hA (vs 0)) hcall ?_ ⟨?_,trivial⟩ ⟨zad,trivial⟩ ?_
 ·simp only[stA,List.all_cons,List.all_nil,zeo,ze3,lift,List.map_cons,List.map_nil,oget,zgi,List.any_nil]
  rfl
 ·show match oget S.O j with |some o'=>cvOw [(0,j)] S o' (.box (l.map .r)) |none=>False
  rw[ho]
  exact zae l
 ·rw[zm3]
  rw[za4]at hK
  have e:(l'.map TF.r).map (zfj (ren [(0,j)] [0] S.nx))=l'.map TF.r:=by
   rw[List.map_map]
   exact List.map_congr_left λx _=>rfl
  have e2:zm4 [(0,j)] [0] S 1 [(0, .box (l'.map .r))] (.r r) o.dst=St.new ⟨S.F,(j,some (.box (l'.map .r)))::(j,none)::S.O,S.nx+1⟩ o.dst (.r r) none:=by
   show St.put ⟨S.F,(j,some (.box ((l'.map TF.r).map (zfj (ren [(0,j)] [0] S.nx)))))::(j,none)::S.O,S.nx+1⟩ o.dst (.r r)=_
   rw[e]
   rfl
  rw[e2]
  exact hK
end
theorem zly{α:Type}(f:α->RV)(d:α){l:List α}{j:Nat}(h:j<l.length):lget ((l.map f).map TF.r) (j*1)=some (TF.r (f (l.getD j d))):=by
 rw[zba,Nat.mul_one,List.getElem?_map,List.getElem?_map,List.getElem?_eq_getElem h,List.getD_eq_getElem?_getD,List.getElem?_eq_getElem h]
 rfl
theorem zy8{α:Type}{f:α->RV}{l:List α}{j:Nat}{x:α}{K:List TF->Prop}(h:j<l.length)(hK:K (((l.set j x).map f).map TF.r)):putK ((l.map f).map TF.r) (j*1) [TF.r (f x)] K:=by
 rw[Nat.mul_one,zfq _ _ _ _ (by simp;omega)]
 have e:((l.map f).map TF.r).take j++[TF.r (f x)]++((l.map f).map TF.r).drop (j+1)=((l.set j x).map f).map TF.r:=by
  rw[List.set_eq_take_append_cons_drop,if_pos h]
  simp[List.map_take,List.map_drop]
 simp only[List.length_cons,List.length_nil,Nat.zero_add]
 rw[e]
 exact hK
theorem zhz(S:St): ∀l:List RV,S.rvs (l.map .r)=some l
 |[]=>rfl
 |x::r=>by simp only[List.map_cons,St.rvs,zhz S r,St.rv]
theorem zux: ∀l:List RV,(l.map TF.r).flatMap zam=[]
 |[]=>rfl
 |x::r=>by rw[List.map_cons,List.flatMap_cons,zux r];rfl
theorem zb0{S:St}{o:Oper}{n0:Nat}{cr:List (Nat×Nat)}{w:List Nat}{id:Nat}{l:List RV}(h:ids1 S o=[id])(ho:oget S.O id=some (.box (l.map .r)))(hn:Nat.blt id n0=true):zbc S o n0 cr w=true:=by
 have e:zbb S o=[id]:=by
  rw[zbb,h,ids2,List.flatMap_cons,ho,List.flatMap_nil]
  simp only[zux,List.append_nil]
 rw[zbc,e]
 simp only[allB,hn,Bool.and_true]
theorem zti{k:IntKind}{x:Int}{c:List TF}{j:Nat}(h:j<c.length):(zbi (.i k x)&&(Nat.beq (cellsOf (.i k x)).length 1&&Nat.ble (j*1+1) c.length))=true:=by
 have e:Nat.ble (j*1+1) c.length=true:=by
  rw[Nat.ble_eq]
  omega
 rw[e]
 rfl
theorem ziw{l:List RV}{cells:List TF}(n:Nat)(hl:l.length=n)(hc:cells.length=n):(zbi (.ag l)&&(Nat.beq (cellsOf (.ag l)).length n&&Nat.ble (0+n) cells.length))=true:=by
 have e1:(cellsOf (.ag l)).length=n:=hl
 have e2:zbi (.ag l)=true:=rfl
 rw[e1,e2,hc,Nat.zero_add,Nat.ble_eq.mpr (Nat.le_refl _)]
 simp
theorem zfi{l:List RV}{cells:List TF}{K:List TF->Prop}(h:cells.length=l.length)(hK:K (l.map .r)):putK cells 0 ((cellsOf (.ag l)).map .r) K:=by
 have e:cellsOf (.ag l)=l:=rfl
 rw[zfq _ _ _ _ (by rw[e,List.length_map];omega),e,List.take_zero,List.nil_append,List.drop_eq_nil_of_le (by rw[List.length_map];omega),List.append_nil]
 exact hK
abbrev W(x:UInt64):RV:= .i .u64 (x.toNat:Int)
def shrW(x:UInt64)(n:Nat):UInt64:=UInt64.ofNat (x.toNat/2^n)
def shlW(x:UInt64)(n:Nat):UInt64:=UInt64.ofNat (x.toNat*2^n)
def carW(x y c:UInt64):UInt64:=UInt64.ofNat ((x.toNat+y.toNat+c.toNat)/18446744073709551616)
def borW(x y c:UInt64):UInt64:=UInt64.ofNat (if x.toNat<y.toNat+c.toNat then 1 else 0)
theorem z02{x y c:UInt64}(h:c.toNat<=1):(carW x y c).toNat<=1:=by
 have hx:=x.toNat_lt
 have hy:=y.toNat_lt
 unfold carW
 rw[UInt64.toNat_ofNat']
 omega
theorem zc7b{x y c:UInt64}:(borW x y c).toNat<=1:=by
 unfold borW
 rw[UInt64.toNat_ofNat']
 split<;>omega
theorem Vadr.any{i:Int}{n:Nat}{K:Nat->Prop}(h:0<=i/\i< (n:Int))(hK:K i.toNat):Vadr i n K:=⟨h.1,h.2,hK⟩
theorem Vrem.any{a b:Int}{K:Int->Prop}(h:b≠0)(hK:K (a.tmod b)):Vrem a b K:=⟨h,_,rfl,hK⟩
theorem zov(n:Nat):IntKind.u64.wrap (n:Int)=((UInt64.ofNat n).toNat:Int):=by
 rw[UInt64.toNat_ofNat']
 simp only[IntKind.wrap]
 simp[IntKind.bits,IntKind.signed]
theorem zfwb(x y:UInt64):IntKind.u64.wrap ((x.toNat:Int)-(y.toNat:Int))=((x-y).toNat:Int):=by
 rw[UInt64.toNat_sub]
 have hx:=x.toNat_lt
 have hy:=y.toNat_lt
 simp only[IntKind.wrap]
 simp[IntKind.bits,IntKind.signed]
 omega
theorem Vint.w{e:Int}{K:Int->Prop}(n:Nat)(he:e=(n:Int))(hK:K ((UInt64.ofNat n).toNat:Int)):Vint .u64 e K:=⟨_,by rw[he,zov],hK⟩
theorem Vint.wadd{a b:Int}{K:Int->Prop}(x y:UInt64)(ha:a=(x.toNat:Int))(hb:b=(y.toNat:Int))(hK:K ((x+y).toNat:Int)):Vint .u64 (a+b) K:=
 ⟨_,by subst ha;subst hb;rw[<-Int.natCast_add,zov,UInt64.ofNat_add];simp,hK⟩
theorem Vint.wmul{a b:Int}{K:Int->Prop}(x y:UInt64)(ha:a=(x.toNat:Int))(hb:b=(y.toNat:Int))(hK:K ((x*y).toNat:Int)):Vint .u64 (a*b) K:=
 ⟨_,by subst ha;subst hb;rw[<-Int.natCast_mul,zov,UInt64.ofNat_mul];simp,hK⟩
theorem Vint.wsub{a b:Int}{K:Int->Prop}(x y:UInt64)(ha:a=(x.toNat:Int))(hb:b=(y.toNat:Int))(hK:K ((x-y).toNat:Int)):Vint .u64 (a-b) K:=
 ⟨_,by subst ha;subst hb;rw[zfwb],hK⟩
theorem bv_w(x:UInt64):BitVec.ofInt 64 (x.toNat:Int)=x.toBitVec:=by
 rw[BitVec.ofInt_natCast]
 simp
theorem zuj(x:UInt64):IntKind.u64.wrap (x.toNat:Int)=(x.toNat:Int):=by rw[zov];simp
theorem Vbits.wand{a b:Int}{K:Int->Prop}(x y:UInt64)(ha:a=(x.toNat:Int))(hb:b=(y.toNat:Int))(hK:K ((x&&&y).toNat:Int)):Vbits .u64 .and a b K:=by
 subst ha;subst hb
 refine⟨_,?_,hK⟩
 show _=IntKind.u64.wrap (((BitVec.ofInt 64 (x.toNat:Int)&&&BitVec.ofInt 64 (y.toNat:Int)).toNat:Nat):Int)
 rw[bv_w,bv_w,<-zuj]
 rfl
theorem Vbits.wor{a b:Int}{K:Int->Prop}(x y:UInt64)(ha:a=(x.toNat:Int))(hb:b=(y.toNat:Int))(hK:K ((x|||y).toNat:Int)):Vbits .u64 .or a b K:=by
 subst ha;subst hb
 refine⟨_,?_,hK⟩
 show _=IntKind.u64.wrap (((BitVec.ofInt 64 (x.toNat:Int)|||BitVec.ofInt 64 (y.toNat:Int)).toNat:Nat):Int)
 rw[bv_w,bv_w,<-zuj]
 rfl
theorem Vbits.wxor{a b:Int}{K:Int->Prop}(x y:UInt64)(ha:a=(x.toNat:Int))(hb:b=(y.toNat:Int))(hK:K ((x^^^y).toNat:Int)):Vbits .u64 .xor a b K:=by
 subst ha;subst hb
 refine⟨_,?_,hK⟩
 show _=IntKind.u64.wrap (((BitVec.ofInt 64 (x.toNat:Int)^^^BitVec.ofInt 64 (y.toNat:Int)).toNat:Nat):Int)
 rw[bv_w,bv_w,<-zuj]
 rfl
theorem Vshr.w{a b:Int}{K:Int->Prop}(x:UInt64)(n:Nat)(ha:a=(x.toNat:Int))(hb:b=(n:Int))(hK:K ((shrW x n).toNat:Int)):Vshr .u64 a b K:=by
 subst ha;subst hb
 refine⟨by omega,_,?_,hK⟩
 have hx:=x.toNat_lt
 have h1:(shrW x n).toNat=x.toNat/2^n:=by
  unfold shrW
  rw[UInt64.toNat_ofNat']
  exact Nat.mod_eq_of_lt (Nat.lt_of_le_of_lt (Nat.div_le_self _ _) hx)
 rw[h1,Int.toNat_natCast]
 have h2:x.toNat/2^n=x.toNat/2^(min n IntKind.u64.bits):=by
  rcases Nat.le_total n IntKind.u64.bits with h |h
  ·rw[Nat.min_eq_left h]
  ·rw[Nat.min_eq_right h]
   have hb:IntKind.u64.bits=64:=rfl
   rw[hb]at h⊢
   have h64:(2:Nat)^64<=2^n:=Nat.pow_le_pow_right (by omega) h
   rw[Nat.div_eq_of_lt (by omega),Nat.div_eq_of_lt (by omega)]
 rw[h2,Int.fdiv_eq_ediv_of_nonneg _ (Int.pow_nonneg (by omega))]
 norm_cast
theorem Vshl.w{a b:Int}{K:Int->Prop}(x:UInt64)(n:Nat)(ha:a=(x.toNat:Int))(hb:b=(n:Int))(hn:n<=64)(hK:K ((shlW x n).toNat:Int)):Vshl .u64 a b K:=by
 subst ha;subst hb
 refine⟨by omega,_,?_,hK⟩
 have hb:IntKind.u64.bits=64:=rfl
 rw[Int.toNat_natCast,hb,Nat.min_eq_left hn]
 unfold shlW
 rw[<-zov]
 norm_cast
theorem Extn.add{P:Program}{f:FuncId}(hrun: ∀(us:Array Value) (w:World),(callFunc f us).run P w=((add64Entry us).run P w).andThen λv w=> .ok (.value v) w)(x y c:UInt64)(hc:c.toNat<=1):Extn P f [W x,W y,W c] (.r (.tu [W (x+y+c),W (carW x y c)])):=by
 intro w k vs h
 simp only[RV.partsAt,RV.at_]at h
 obtain⟨_,_,rfl,rfl,_,_,rfl,rfl,_,_,rfl,rfl,rfl⟩:=h
 refine⟨.tuple #[.int .u64 (((x.toNat:Int)+(y.toNat:Int)+(c.toNat:Int))%18446744073709551616), .int .u64 (((x.toNat:Int)+(y.toNat:Int)+(c.toNat:Int))/18446744073709551616)],w,?_,Ext.refl w,k,λ_ _=>rfl,?_⟩
 ·rw[hrun]
  show((add64Entry #[.int .u64 (x.toNat:Int), .int .u64 (y.toNat:Int), .int .u64 (c.toNat:Int)]).run P w).andThen _=_
  rw[run_add64 _ _ _ (by omega) (by omega) (by omega) (by omega)]
  rfl
 ·simp only[Res.at_,RV.at_,RV.partsAt]
  have hx:=x.toNat_lt
  have hy:=y.toNat_lt
  refine⟨_,rfl,_,_,rfl,?_,_,_,rfl,?_,rfl⟩
  ·congr 1
   rw[UInt64.toNat_add,UInt64.toNat_add]
   omega
  ·unfold carW
   rw[UInt64.toNat_ofNat']
   congr 1
   omega
def zzp:Array Value->Sem Value:=λargs=>do
 let(x,y,b)<-Extern.MathBitsCarry.three "Sub64" args
 pure (Extern.MathBitsCarry.pair ((x+Extern.MathBitsCarry.m64-y-b)%Extern.MathBitsCarry.m64) (if x<y+b then 1 else 0))
theorem z43{P:Program}(x y b:Nat)(hb:b<=1)(w:World):
  (zzp #[.int .u64 x, .int .u64 y, .int .u64 b]).run P w=
   .ok (.tuple #[.int .u64 (((x+18446744073709551616-y-b)%18446744073709551616:Nat):Int), .int .u64 ((if x<y+b then 1 else 0:Nat):Int)]) w:=by
 have:b=0\/b=1:=by omega
 rcases this with rfl |rfl<;>rfl
theorem Extn.sub{P:Program}{f:FuncId}(hrun: ∀(us:Array Value) (w:World),(callFunc f us).run P w=((zzp us).run P w).andThen λv w=> .ok (.value v) w)(x y c:UInt64)(hc:c.toNat<=1):Extn P f [W x,W y,W c] (.r (.tu [W (x-y-c),W (borW x y c)])):=by
 intro w k vs h
 simp only[RV.partsAt,RV.at_]at h
 obtain⟨_,_,rfl,rfl,_,_,rfl,rfl,_,_,rfl,rfl,rfl⟩:=h
 refine⟨.tuple #[.int .u64 (((x.toNat+18446744073709551616-y.toNat-c.toNat)%18446744073709551616:Nat):Int), .int .u64 ((if x.toNat<y.toNat+c.toNat then 1 else 0:Nat):Int)],w,(hrun _ _).trans ?_,Ext.refl w,k,λ_ _=>rfl,?_⟩
 ·exact congrArg (λr:Result Value=>r.andThen λv w=>Result.ok (Next.value v) w) (z43 x.toNat y.toNat c.toNat hc w)
 ·simp only[Res.at_,RV.at_,RV.partsAt]
  have hx:=x.toNat_lt
  have hy:=y.toNat_lt
  refine⟨_,rfl,_,_,rfl,?_,_,_,rfl,?_,rfl⟩
  ·congr 1
   rw[UInt64.toNat_sub,UInt64.toNat_sub]
   omega
  ·unfold borW
   rw[UInt64.toNat_ofNat']
   split<;>rfl
end Go.Proofs.YtoegdgbghdnnfaaGreat.Sx

namespace Go.Proofs.YtoegdgbghdnnfaaGreat
def rotr(n x:Nat):Nat:=x/2^n+x%2^n*2^(32-n)
def chN(e f g:Nat):Nat:=(e&&&f)^^^((4294967295-e)&&&g)
def majN(a b c:Nat):Nat:=((a&&&b)^^^(a&&&c))^^^(b&&&c)
def bs0(a:Nat):Nat:=(rotr 2 a^^^rotr 13 a)^^^rotr 22 a
def bs1(e:Nat):Nat:=(rotr 6 e^^^rotr 11 e)^^^rotr 25 e
def ss0(x:Nat):Nat:=(rotr 7 x^^^rotr 18 x)^^^(x/8)
def ss1(x:Nat):Nat:=(rotr 17 x^^^rotr 19 x)^^^(x/1024)
theorem zi9b:(2:Nat)^32=4294967296:=rfl
theorem zb2{n x:Nat}(hx:x<4294967296)(h1:1<=n)(h2:n<=31):rotr n x<4294967296:=by
 unfold rotr
 have hp:=zag n
 have hq:=zag (32-n)
 have e:2^(32-n)*2^n=4294967296:=by rw[<-Nat.pow_add,show 32-n+n=32 by omega]
 have hd:x/2^n<2^(32-n):=Nat.div_lt_of_lt_mul (by rw[Nat.mul_comm,e];exact hx)
 have hm:x%2^n<2^n:=Nat.mod_lt _ hp
 generalize x/2^n=d at*
 generalize x%2^n=m at*
 have:=Nat.mul_le_mul_right (2^(32-n)) (show m+1<=2^n from hm)
 rw[Nat.add_mul,Nat.mul_comm (2^n),e]at this
 omega
theorem zcp{a b:Nat}(ha:a<4294967296)(hb:b<4294967296):a^^^b<4294967296:=by
 rw[<-zi9b]at*;exact Nat.xor_lt_two_pow ha hb
theorem ze2{a b:Nat}(ha:a<4294967296):a&&&b<4294967296:=Nat.lt_of_le_of_lt Nat.and_le_left ha
theorem zf7b{e f g:Nat}(he:e<4294967296):chN e f g<4294967296:=zcp (ze2 he) (ze2 (by omega))
theorem zeqb{a b c:Nat}(ha:a<4294967296)(hb:b<4294967296):majN a b c<4294967296:=zcp (zcp (ze2 ha) (ze2 ha)) (ze2 hb)
theorem zf4b{a:Nat}(ha:a<4294967296):bs0 a<4294967296:=zcp (zcp (zb2 ha (by omega) (by omega)) (zb2 ha (by omega) (by omega))) (zb2 ha (by omega) (by omega))
theorem zf5b{a:Nat}(ha:a<4294967296):bs1 a<4294967296:=zcp (zcp (zb2 ha (by omega) (by omega)) (zb2 ha (by omega) (by omega))) (zb2 ha (by omega) (by omega))
theorem zijb{a:Nat}(ha:a<4294967296):ss0 a<4294967296:=zcp (zcp (zb2 ha (by omega) (by omega)) (zb2 ha (by omega) (by omega))) (by omega)
theorem zikb{a:Nat}(ha:a<4294967296):ss1 a<4294967296:=zcp (zcp (zb2 ha (by omega) (by omega)) (zb2 ha (by omega) (by omega))) (by omega)
structure H8 where
 a:Nat
 b:Nat
 c:Nat
 d:Nat
 e:Nat
 f:Nat
 g:Nat
 h:Nat
def H8.ok(s:H8):Prop:=s.a<4294967296/\s.b<4294967296/\s.c<4294967296/\s.d<4294967296/\s.e<4294967296/\s.f<4294967296/\s.g<4294967296/\s.h<4294967296
def H8.list(s:H8):List Nat:=[s.a,s.b,s.c,s.d,s.e,s.f,s.g,s.h]
def be32(b:List UInt8)(i:Nat):Nat:=(((b.getD i 0).toNat*256+(b.getD (i+1) 0).toNat)*256+(b.getD (i+2) 0).toNat)*256+(b.getD (i+3) 0).toNat
theorem zc4b(b:List UInt8)(i:Nat):be32 b i<4294967296:=by
 unfold be32
 have h0:=(b.getD i 0).toNat_lt
 have h1:=(b.getD (i+1) 0).toNat_lt
 have h2:=(b.getD (i+2) 0).toNat_lt
 have h3:=(b.getD (i+3) 0).toNat_lt
 omega
def zfl(b:List UInt8)(L:List Nat):Nat:=
 if L.length<16 then be32 b (4*L.length)
 else(ss1 (L.getD (L.length-2) 0)+L.getD (L.length-7) 0+ss0 (L.getD (L.length-15) 0)+L.getD (L.length-16) 0)%4294967296
def wTo(b:List UInt8):Nat->List Nat
 |0=>[]
 |t+1=>wTo b t++[zfl b (wTo b t)]
theorem zdf(b:List UInt8): ∀t,(wTo b t).length=t
 |0=>rfl
 |t+1=>by rw[wTo,List.length_append,zdf b t];rfl
theorem zb6b(b:List UInt8)(L:List Nat):zfl b L<4294967296:=by
 unfold zfl
 split
 ·exact zc4b _ _
 ·exact Nat.mod_lt _ (by omega)
theorem z87(b:List UInt8): ∀t,∀x∈wTo b t,x<4294967296
 |0,x,h=>by cases h
 |t+1,x,h=>by
  rcases List.mem_append.1 h with h |h
  ·exact z87 b t x h
  ·rw[List.mem_singleton.1 h];exact zb6b _ _
def kTab:List Nat:=[
 0x428a2f98,0x71374491,0xb5c0fbcf,0xe9b5dba5,0x3956c25b,0x59f111f1,0x923f82a4,0xab1c5ed5,
 0xd807aa98,0x12835b01,0x243185be,0x550c7dc3,0x72be5d74,0x80deb1fe,0x9bdc06a7,0xc19bf174,
 0xe49b69c1,0xefbe4786,0x0fc19dc6,0x240ca1cc,0x2de92c6f,0x4a7484aa,0x5cb0a9dc,0x76f988da,
 0x983e5152,0xa831c66d,0xb00327c8,0xbf597fc7,0xc6e00bf3,0xd5a79147,0x06ca6351,0x14292967,
 0x27b70a85,0x2e1b2138,0x4d2c6dfc,0x53380d13,0x650a7354,0x766a0abb,0x81c2c92e,0x92722c85,
 0xa2bfe8a1,0xa81a664b,0xc24b8b70,0xc76c51a3,0xd192e819,0xd6990624,0xf40e3585,0x106aa070,
 0x19a4c116,0x1e376c08,0x2748774c,0x34b0bcb5,0x391c0cb3,0x4ed8aa4a,0x5b9cca4f,0x682e6ff3,
 0x748f82ee,0x78a5636f,0x84c87814,0x8cc70208,0x90befffa,0xa4506ceb,0xbef9a3f7,0xc67178f2]
def h0Tab:H8:=⟨0x6a09e667,0xbb67ae85,0x3c6ef372,0xa54ff53a,0x510e527f,0x9b05688c,0x1f83d9ab,0x5be0cd19⟩
theorem zqu:kTab.length=64:=rfl
theorem zekb: ∀x∈kTab,x<4294967296:=by decide+kernel
theorem z1z(t:Nat):kTab.getD t 0<4294967296:=by
 rcases Nat.lt_or_ge t 64 with h |h
 ·have hl:t<kTab.length:=h
  rw[List.getD_eq_getElem?_getD,List.getElem?_eq_getElem hl]
  exact zekb _ (List.getElem_mem hl)
 ·rw[List.getD_eq_getElem?_getD,List.getElem?_eq_none (by rw[zqu];exact h)];decide
theorem zgk(b:List UInt8)(n t:Nat):(wTo b n).getD t 0<4294967296:=by
 rcases Nat.lt_or_ge t n with h |h
 ·have hl:t< (wTo b n).length:=by rw[zdf];exact h
  rw[List.getD_eq_getElem?_getD,List.getElem?_eq_getElem hl]
  exact z87 _ _ _ (List.getElem_mem hl)
 ·rw[List.getD_eq_getElem?_getD,List.getElem?_eq_none (by rw[zdf];exact h)];decide
def t1N(k w:Nat)(s:H8):Nat:=s.h+bs1 s.e+chN s.e s.f s.g+k+w
def t2N(s:H8):Nat:=bs0 s.a+majN s.a s.b s.c
def zzf(k w:Nat)(s:H8):H8:=⟨(t1N k w s+t2N s)%4294967296,s.a,s.b,s.c,(s.d+t1N k w s)%4294967296,s.e,s.f,s.g⟩
theorem z8t{k w:Nat}{s:H8}(h:s.ok):(zzf k w s).ok:=by
 obtain⟨ha,hb,hc,hd,he,hf,hg,hh⟩:=h
 exact⟨Nat.mod_lt _ (by omega),ha,hb,hc,Nat.mod_lt _ (by omega),he,hf,hg⟩
def zhw(b:List UInt8)(s:H8):Nat->H8
 |0=>s
 |t+1=>zzf (kTab.getD t 0) ((wTo b 64).getD t 0) (zhw b s t)
theorem zmo{b:List UInt8}{s:H8}(h:s.ok): ∀t,(zhw b s t).ok
 |0=>h
 |t+1=>z8t (zmo h t)
def addH(s x:H8):H8:=⟨(s.a+x.a)%4294967296,(s.b+x.b)%4294967296,(s.c+x.c)%4294967296,(s.d+x.d)%4294967296,(s.e+x.e)%4294967296,(s.f+x.f)%4294967296,(s.g+x.g)%4294967296,(s.h+x.h)%4294967296⟩
theorem zc1b(s x:H8):(addH s x).ok:=⟨Nat.mod_lt _ (by omega),Nat.mod_lt _ (by omega),Nat.mod_lt _ (by omega),Nat.mod_lt _ (by omega),Nat.mod_lt _ (by omega),Nat.mod_lt _ (by omega),Nat.mod_lt _ (by omega),Nat.mod_lt _ (by omega)⟩
def zms(s:H8)(b:List UInt8):H8:=addH s (zhw b s 64)
def runH:Nat->H8->List UInt8->H8
 |0,s,_=>s
 |m+1,s,l=>runH m (zms s (l.take 64)) (l.drop 64)
theorem zpl: ∀(m:Nat) (s:H8) (l:List UInt8),s.ok->(runH m s l).ok
 |0,s,l,h=>h
 |m+1,s,l,h=>zpl m _ _ (zc1b _ _)
theorem zoe: ∀(m:Nat) (s:H8) (l:List UInt8),runH (m+1) s l=zms (runH m s l) ((l.drop (64*m)).take 64)
 |0,s,l=>by simp[runH]
 |m+1,s,l=>by
  rw[runH,zoe m,runH,List.drop_drop,show 64+64*m=64*(m+1)by omega]
def zcq(n:Nat):Nat:=(119-n%64)%64
def zie(n:Nat):List UInt8:=128::(List.replicate (zcq n) 0++beB 8 (n*8))
theorem zoq(n:Nat):(zie n).length=9+zcq n:=by
 unfold zie
 rw[List.length_cons,List.length_append,List.length_replicate,zao];omega
theorem zoy(n:Nat):zcq n<64:=Nat.mod_lt _ (by omega)
theorem zyu(n:Nat):(n+(9+zcq n))%64=0:=by unfold zcq;omega
def outH(s:H8):List UInt8:=s.list.flatMap (beB 4)
theorem zbib(s:H8):(outH s).length=32:=by simp[outH,H8.list,zao]
def shaB(l:List UInt8):List UInt8:=outH (runH ((l++zie l.length).length/64) h0Tab (l++zie l.length))
theorem zf1(l:List UInt8):(shaB l).length=32:=zbib _
theorem z3o:h0Tab.ok:=by unfold H8.ok;decide
end Go.Proofs.YtoegdgbghdnnfaaGreat
