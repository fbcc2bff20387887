import Derived.Test.YtebhngeddnnpkaaGreatZMe
import Derived.Test.YtebhngeddnnpkaaGreatZSxNm
import Derived.Test.YtebhngeddnnpkaaGreatZKg
import Derived.Test.YtebhngeddnnpkaaGreatZEn
namespace Go.Proofs.YtebhngeddnnpkaaGreat.Sx
open Go.RowKit
section
section
variable {P:Program} {T:TT} {B:Bs} {N:Nat} {S:St} {a:Act} {w:World} {k:Kp} {g:Env} {o:Oper} {Q:Exit->Act->World->Prop}
theorem Vstep.val{K:St->Prop}(hT:TOk P T)(h:valv P T S o λf ow=>newK S o.dst f ow K):Vstep P S o K:=by
 refine⟨{S':St//K S'},Subtype.val,λB N a w k Q ⟨g,hs⟩ hd=>Oper.wp_mono ?_ (znj hT hs hd h),λi=>i.2⟩
 rintro a' w' ⟨f,ow,k',hK,hq⟩
 rw[zar]at hK
 exact⟨⟨_,hK⟩,k',hq⟩
theorem Vcutn.mk'{lo hi:Int}{n:Nat}{K:Nat->Nat->Prop}(l m:Nat)(hl:lo=(l:Int))(hm:hi=((l+m:Nat):Int))(h2:l+m<=n)(h3:l<n)(hK:K l m)(h4:n<=maxLen:=by decide):Vcutn lo hi n K:=by
 subst hl;subst hm
 exact⟨by omega,by omega,by omega,by omega,h4,l,m,rfl,by omega,hK⟩
theorem Vstep.copyCut{x y:Operand}{t t' e:TypeId}{ti te:TI}{id off n n0 m:Nat}{cells ys zs:List RV}{f:TF}{K:St->Prop}(hT:TOk P T)
  (hop:o.op= .call {callee:= .builtin .copy,args:= #[x,y],argTypes:= #[t,t']}) (hti:tget T t=some ti) (hk:ti.k= .slice e) (hte:tget T e=some te)
  (hx:opr S x=some (.cut id off n)) (ho:oget S.O id=some (.ch e te.sz n0 cells false)) (hn:off+n*te.sz<=cells.length)
  (hy:opr S y=some f) (hr:rhsv S te.sz f=some (te.sz,m,ys)) (hz:cells.take off++ys.take (Nat.min m n*te.sz)++cells.drop (off+Nat.min m n*te.sz)=zs)
  (hK:newK (S.set id (some (.ch e te.sz n0 zs false))) o.dst (.r (.i .i64 (Nat.min m n:Nat))) none K):Vstep P S o K:=by
 subst hz
 rw[zar]at hK
 refine Vstep.one (λB N a w k Q ⟨g,hs⟩ hd=>?_) hK
 obtain⟨q,hq⟩:=hT.get hti
 obtain⟨d,hdd,hko,_⟩:=q.desc
 rw[hq]at hdd
 rw[hk]at hko
 simp only[KOk]at hko
 subst hko
 obtain⟨qe,hqe⟩:=hT.get hte
 obtain⟨i,hi,hsi,hby,z,hz,hzc⟩:=qe.info
 rw[hqe]at hi
 have hxv:=(zaf hs hx).2
 simp only[TF.at_]at hxv
 obtain⟨b,c,hb,hxv,hnc⟩:=hxv
 obtain⟨qa,qc,us,hu2,hus,husl,hsrc⟩:=zm9 hs hr (zaf hs hy).2
 obtain⟨hid,hlo,hat,_⟩:=hs.owns id _ ho
 simp only[Ow.at_]at hat
 have hmn:Nat.min m n<=n:=Nat.min_le_right _ _
 have hmm:Nat.min m n<=m:=Nat.min_le_left _ _
 have run: ∀{v:Value} {w':World},(Builtin.copy_ #[t,t'] o.type #[.slice (some ⟨b,off,none⟩) n c, .slice qa m qc]).run P w= .ok v w'->(execOp a.eval o).run P w= .ok (.value v) w':=λ{v w'} hr=>by
  simp[execOp,hop,resolve,invoke,builtin,hxv,hu2,hr]
 obtain⟨hcl0,hat⟩:=hat
 rcases hat with⟨hno,_⟩ |⟨b',cap,cur,e1,e2,hh,h1,h2,h3,h4,h5⟩
 ·rw[hno]at hb;cases hb
 obtain rfl:b'=b:=by rw[e1]at hb;injection hb
 have hk0:k b'=0:=by simpa using h4
 have hcc:n0*te.sz<=cap*te.sz:=Nat.mul_le_mul_right _ h1
 have hle:Nat.min m n*te.sz<=m*te.sz:=Nat.mul_le_mul_right _ hmm
 have hle2:Nat.min m n*te.sz<=n*te.sz:=Nat.mul_le_mul_right _ hmn
 rcases Nat.eq_zero_or_pos (Nat.min m n)with h0 |hpos
 ·have hrun:=zjx (P:=P) w t t' o.type e (some ⟨b',off,none⟩) qa n c m qc hdd hi h0
  refine zap (run hrun) ⟨k,g,?_⟩
  rw[h0]
  have e2:cells.take off++ys.take (0*te.sz)++cells.drop (off+0*te.sz)=cells:=by simp
  rw[e2]
  exact(hs.reset ho).put hd trivial (by simp[TF.at_,RV.at_,goInt])
 ·obtain⟨sb,so,rfl,hcells⟩:=hsrc (by omega)
  have hcl:(us.take (Nat.min m n*te.sz)).length=Nat.min m n*te.sz:=by rw[List.length_take,husl];omega
  have hsub: ∀(j:Nat) (v:Value),(us.take (Nat.min m n*te.sz))[j]?=some v->us[j]?=some v:=λj v hj=>by
   rw[List.getElem?_take]at hj
   split at hj
   ·exact hj
   ·cases hj
  have hnew:RV.listAt w k (ys.take (Nat.min m n*te.sz)) (us.take (Nat.min m n*te.sz)):=zbv hus _
  have hr:=zjy (P:=P) w t t' o.type e te.sz b' off n c ⟨sb,so,none⟩ m qc _ cur e (us.take (Nat.min m n*te.sz)) hdd hi hsi hh rfl hcl (λj v hj=>by rw[Addr.add_mid];exact hcells j v (hsub j v hj)) (by rw[hcl];omega) (λv hv=>by
   obtain⟨j,hj⟩:=List.getElem?_of_mem hv
   have hjl:j< (ys.take (Nat.min m n*te.sz)).length:=by rw[<-zaq hnew];exact(List.getElem?_eq_some_iff.1 hj).1
   exact(((RV.listAt_iff _ _).1 hnew).2 j _ v (List.getElem?_eq_getElem hjl) hj).1)
  have hw:=zfz (k:=k) (cs:=(cur.toList.take off++us.take (Nat.min m n*te.sz)++cur.toList.drop (off+(us.take (Nat.min m n*te.sz)).length)).toArray) hh hk0
  have h1':=hs.redo (ow':= .ch e te.sz n0 (cells.take off++ys.take (Nat.min m n*te.sz)++cells.drop (off+Nat.min m n*te.sz)) false) ho e1 hw trivial (by
   simp only[Ow.at_]
   have hyl:ys.length=m*te.sz:=by rw[<-zaq hus,husl]
   refine⟨by simp only[List.length_append,List.length_take,List.length_drop];omega, .inr ⟨b',cap,_,e1,e2,setRow_heap w b' cur _ e (0,0) hh,h1,h2,?_,by simpa using hk0,?_⟩⟩
   ·simp only[List.size_toArray,List.length_append,List.length_take,List.length_drop,Array.length_toList,husl];omega
   ·have hnew':=RV.list_mono hw.le _ _ hnew
    have h5':=RV.list_mono hw.le _ _ h5
    have hall:=zba (zba (zbv h5' off) hnew') (zco h5' (off+Nat.min m n*te.sz))
    rw[List.take_take,Nat.min_eq_left (by omega)]at hall
    have hA:(List.take off cur.toList++us.take (Nat.min m n*te.sz)).length=off+Nat.min m n*te.sz:=by rw[List.length_append,List.length_take,hcl,Array.length_toList];omega
    have e:(List.take off cur.toList++us.take (Nat.min m n*te.sz)++List.drop (off+(us.take (Nat.min m n*te.sz)).length) cur.toList).take (n0*te.sz)=List.take off cur.toList++us.take (Nat.min m n*te.sz)++(cur.toList.take (n0*te.sz)).drop (off+Nat.min m n*te.sz):=by
     rw[List.take_append,hA,List.drop_take,hcl]
     congr 1
     exact List.take_of_length_le (by omega)
    rw[List.toList_toArray,e]
    exact hall)
  exact zap (run hr) ⟨k,g,h1'.put hd trivial (by simp[TF.at_,RV.at_,goInt])⟩
theorem Vstep.copyBox{x y:Operand}{t t' e:TypeId}{ti te:TI}{id off n m:Nat}{cells zs:List TF}{ys:List RV}{f:TF}{K:St->Prop}(hT:TOk P T)
  (hop:o.op= .call {callee:= .builtin .copy,args:= #[x,y],argTypes:= #[t,t']}) (hti:tget T t=some ti) (hk:ti.k= .slice e) (hte:tget T e=some te) (hsz:te.sz=1)
  (hx:opr S x=some (.cut id off n)) (ho:oget S.O id=some (.box cells)) (hn:off+n<=cells.length)
  (hy:opr S y=some f) (hr:rhsv S 1 f=some (1,m,ys)\/(∃off',f= .cut id off' m/\off'+m<=cells.length/\ys.map .r=(cells.drop off').take m)) (hz:cells.take off++((ys.take (Nat.min m n)).map .r)++cells.drop (off+Nat.min m n)=zs)
  (hK:newK (S.set id (some (.box zs))) o.dst (.r (.i .i64 (Nat.min m n:Nat))) none K):Vstep P S o K:=by
 subst hz
 rw[zar]at hK
 refine Vstep.one (λB N a w k Q ⟨g,hs⟩ hd=>?_) hK
 obtain⟨q,hq⟩:=hT.get hti
 obtain⟨d,hdd,hko,_⟩:=q.desc
 rw[hq]at hdd
 rw[hk]at hko
 simp only[KOk]at hko
 subst hko
 obtain⟨qe,hqe⟩:=hT.get hte
 obtain⟨i,hi,hsi,hby,z,hz,hzc⟩:=qe.info
 rw[hqe]at hi
 rw[hsz]at hsi
 have hxv:=(zaf hs hx).2
 simp only[TF.at_]at hxv
 obtain⟨b,c,hb,hxv,hnc⟩:=hxv
 obtain⟨hid,hlo,hat,_⟩:=hs.owns id _ ho
 simp only[Ow.at_]at hat
 obtain⟨b',cur,ty,e1,hh,hk0,hcs,hc⟩:=hat
 obtain rfl:b'=b:=by rw[e1]at hb;injection hb
 have hold:AllAt (λf u=>u.oneCell'=true/\f.at_ w k g u) cells cur.toList:=⟨by rw[Array.length_toList,hcs],λj f u hf hu=>hc j f u hf (by simpa using hu)⟩
 have key: ∃qa qc us,a.eval y= .slice qa m qc/\RV.listAt w k ys us/\us.length=m*1/\(0<m->∃b o,qa=some ⟨b,o,none⟩/\∀j v,us[j]?=some v->w.cell? ⟨b,o+j,none⟩=some v):=by
  rcases hr with hr |⟨off',rfl,ho2,hys⟩
  ·exact zm9 hs hr (zaf hs hy).2
  ·have hyv:=(zaf hs hy).2
   simp only[TF.at_]at hyv
   obtain⟨b2,c2,hb2,hyv,hnc2⟩:=hyv
   obtain rfl:b'=b2:=by rw[e1]at hb2;injection hb2
   have hcut:=(hold.drop off').take m
   rw[<-hys]at hcut
   refine⟨some ⟨b',off',none⟩,c2,(cur.toList.drop off').take m,hyv,?_,?_,λ_=>⟨b',off',rfl,λj v hj=>?_⟩⟩
   ·rw[RV.listAt_iff]
    refine⟨by have:=hcut.1;rw[List.length_map]at this;exact this.symm▸rfl,λj f u hf hu=>?_⟩
    have:=hcut.2 j (.r f) u (by rw[List.getElem?_map,hf];rfl) hu
    exact this
   ·rw[List.length_take,List.length_drop,Array.length_toList,hcs]
    omega
   ·rw[List.getElem?_take]at hj
    split at hj
    ·rw[List.getElem?_drop]at hj
     rw[cell_of_row w b' (off'+j) cur ty (0,0) hh]
     simpa using hj
    ·cases hj
 obtain⟨qa,qc,us,hu2,hus,husl,hsrc⟩:=key
 rw[Nat.mul_one]at husl
 have hmn:Nat.min m n<=n:=Nat.min_le_right _ _
 have hmm:Nat.min m n<=m:=Nat.min_le_left _ _
 have run: ∀{v:Value} {w':World},(Builtin.copy_ #[t,t'] o.type #[.slice (some ⟨b',off,none⟩) n c, .slice qa m qc]).run P w= .ok v w'->(execOp a.eval o).run P w= .ok (.value v) w':=λ{v w'} hr=>by
  simp[execOp,hop,resolve,invoke,builtin,hxv,hu2,hr]
 rcases Nat.eq_zero_or_pos (Nat.min m n)with h0 |hpos
 ·have hrun:=zjx (P:=P) w t t' o.type e (some ⟨b',off,none⟩) qa n c m qc hdd hi h0
  refine zap (run hrun) ⟨k,g,?_⟩
  rw[h0]
  have h1:=hs.reset ho
  have e2:cells.take off++((ys.take 0).map TF.r)++cells.drop (off+0)=cells:=by simp
  rw[e2]
  exact h1.put hd trivial (by simp[TF.at_,RV.at_,goInt])
 ·obtain⟨sb,so,rfl,hcells⟩:=hsrc (by omega)
  have hcl:(us.take (Nat.min m n)).length=Nat.min m n*1:=by rw[List.length_take,husl];omega
  have hsub: ∀(j:Nat) (v:Value),(us.take (Nat.min m n))[j]?=some v->us[j]?=some v:=λj v hj=>by
   rw[List.getElem?_take]at hj
   split at hj
   ·exact hj
   ·cases hj
  have hnew:RV.listAt w k (ys.take (Nat.min m n)) (us.take (Nat.min m n)):=zbv hus _
  have hnl:=zaq hnew
  have hr:=zjy (P:=P) w t t' o.type e 1 b' off n c ⟨sb,so,none⟩ m qc _ cur ty (us.take (Nat.min m n)) hdd hi hsi hh rfl hcl (λj v hj=>by rw[Addr.add_mid];exact hcells j v (hsub j v hj)) (by rw[hcl,hcs];omega) (λv hv=>by
   obtain⟨j,hj⟩:=List.getElem?_of_mem hv
   have hjl:j< (ys.take (Nat.min m n)).length:=by rw[<-zaq hnew];exact(List.getElem?_eq_some_iff.1 hj).1
   exact(((RV.listAt_iff _ _).1 hnew).2 j _ v (List.getElem?_eq_getElem hjl) hj).1)
  have hw:=zfz (k:=k) (cs:=(cur.toList.take off++us.take (Nat.min m n)++cur.toList.drop (off+(us.take (Nat.min m n)).length)).toArray) hh hk0
  have hnew2:AllAt (λf u=>u.oneCell'=true/\f.at_ w k g u) ((ys.take (Nat.min m n)).map TF.r) (us.take (Nat.min m n)):=by
   refine⟨by rw[List.length_map,hnl],λj f u hf hu=>?_⟩
   rw[List.getElem?_map]at hf
   obtain⟨r,hr,rfl⟩:=Option.map_eq_some_iff.1 hf
   exact((RV.listAt_iff _ _).1 hnew).2 j r u hr hu
  have hcl':(us.take (Nat.min m n)).length=Nat.min m n:=by rw[hcl,Nat.mul_one]
  have hall:=(((hold.take off).append hnew2).append (hold.drop (off+Nat.min m n))).mono (q:=λf u=>u.oneCell'=true/\f.at_ (w.setRow b' (cur.toList.take off++us.take (Nat.min m n)++cur.toList.drop (off+(us.take (Nat.min m n)).length)).toArray) k g u) λf u h=>⟨h.1,TF.mono hw.le h.2⟩
  have h1:=hs.redo (ow':= .box (cells.take off++((ys.take (Nat.min m n)).map TF.r)++cells.drop (off+Nat.min m n))) ho (by rw[e1]) hw (by
   intro f hf
   rcases List.mem_append.1 hf with hf |hf
   ·rcases List.mem_append.1 hf with hf |hf
    ·exact hlo f (List.mem_of_mem_take hf)
    ·obtain⟨r,_,rfl⟩:=List.mem_map.1 hf
     trivial
   ·exact hlo f (List.mem_of_mem_drop hf)) (by
   simp only[Ow.at_]
   refine⟨b',_,ty,e1,setRow_heap w b' cur _ ty (0,0) hh,hk0,by have:=hall.1;rw[hcl'];simpa using this,λj f u hf hu=>hall.2 j f u hf (by rw[hcl']at hu;simpa using hu)⟩)
  exact zap (run hr) ⟨k,g,h1.put hd trivial (by simp[TF.at_,RV.at_,goInt])⟩
theorem zd8(l:List RV)(n:Nat):(l.map TF.r).all (ltB n)=true:=by
 induction l with
 |nil=>rfl
 |cons x r ih=>rw[List.map_cons,List.all_cons,ih];rfl
theorem Vstep.actsBox{l l':List RV}(j:Nat){f:FuncId}{args:List TF}{r:RV}{K:St->Prop}(hA: ∀v,Acts P f 1 [(0, .box (l.map .r))] args [(0,v)] 1 [(0, .box (l'.map .r))] (.r r))(hcall:Handed P S o [(0,j)] f args)
  (ho:oget S.O j=some (.box (l.map .r))) (hK:newK ⟨S.F,(j,some (.box (l'.map .r)))::(j,none)::S.O,S.nx+1⟩ o.dst (.r r) none K):Vstep P S o K:=by
 refine zj [(0,j)] [0] (λvs _=>hA (vs 0)) hcall ?_ ⟨?_,trivial⟩ ⟨zac,trivial⟩ ?_
 ·simp only[stA,List.all_cons,List.all_nil,zdy,zd8,lift,List.map_cons,List.map_nil,oget,zed,List.any_nil]
  rfl
 ·show match oget S.O j with |some o'=>cvOw [(0,j)] S o' (.box (l.map .r)) |none=>False
  rw[ho]
  exact zae l
 ·rw[zi7]
  rw[zar]at hK
  have e:(l'.map TF.r).map (zdj (ren [(0,j)] [0] S.nx))=l'.map TF.r:=by
   rw[List.map_map]
   exact List.map_congr_left λx _=>rfl
  have e2:zi8 [(0,j)] [0] S 1 [(0, .box (l'.map .r))] (.r r) o.dst=St.new ⟨S.F,(j,some (.box (l'.map .r)))::(j,none)::S.O,S.nx+1⟩ o.dst (.r r) none:=by
   show St.put ⟨S.F,(j,some (.box ((l'.map TF.r).map (zdj (ren [(0,j)] [0] S.nx)))))::(j,none)::S.O,S.nx+1⟩ o.dst (.r r)=_
   rw[e]
   rfl
  rw[e2]
  exact hK
end
end
section
def zc1(b:List UInt8)(at_:Nat):Nat->UInt64
 |0=>0
 |j+1=>shlW (zc1 b at_ j) 8|||UInt64.ofNat (b.getD (at_+(7-j)) 0).toNat
theorem zno(b:List UInt8)(at_:Nat):zc1 b at_ 0=0:=rfl
theorem znn(b:List UInt8)(at_ j:Nat):zc1 b at_ (j+1)=shlW (zc1 b at_ j) 8|||UInt64.ofNat (b.getD (at_+(7-j)) 0).toNat:=rfl
attribute [irreducible] zc1
def Fe.of(b:List UInt8):Fe:=⟨zc1 b 0 8&&&msk,shrW (zc1 b 6 8) 3&&&msk,shrW (zc1 b 12 8) 6&&&msk,shrW (zc1 b 19 8) 1&&&msk,shrW (zc1 b 24 8) 12&&&msk⟩
abbrev boxB(b:List UInt8):Ow:= .box ((b.map U8).map .r)
theorem zt1{l:List UInt8}{j:Nat}(h:j<l.length):((l.map U8).map TF.r)[j]?=some (.r (U8 (l.getD j 0))):=by
 rw[List.getElem?_map,zek h]
 rfl
def zwv(b:List UInt8)(at_:Nat)(v:Value)(j:Nat):St:={F:=[(0, .r (I at_)),(1, .own 0),(4, .r (W (zc1 b at_ j))),(5, .r (I (7-(j:Int)))),(1000000, .nm 0 v)],O:=[(0,some (boxB b))],nx:=1}
theorem zsr(b:List UInt8)(at_:Nat)(v:Value)(j:Nat):stOk [(0,0)] (zwv b at_ v j)=true:=by
 have h:=zd8 (b.map U8) 1
 simp only[stOk,zwv,boxB,List.all_cons,List.all_nil,zdy,h]
 rfl
theorem zjl(v:Value)(b:List UInt8)(hb:b.length=32)(at_:Nat)(ha:at_<=24):Acts Tryz.prog 478 1 [(0,boxB b)] [.r (I at_), .own 0] [(0,v)] 1 [(0,boxB b)] (.r (W (zc1 b at_ 8))):=by
 refine zbc (T:=Tab) mixed Tab_ok Tryz.func478 rfl (by kernel_rfl) rfl ⟨⟨_,_,rfl,rfl,zak,zak⟩,trivial⟩ ?_
 refine zy (zwv b at_ v) (λj=>j<=8) (λj=>8-j) 0 (by omega) (zad [(0,0)] (zsr b at_ v _) ⟨cr,rfl,by rw[zno];exact cr,cr,⟨rfl,rfl⟩,trivial⟩ ⟨zae _,trivial⟩) ?_
 intro j hj
 refine zh (λh=>zp ?_) (λh=>zq ?_)
 ·simp only[zb]at h
  have hj':j<8:=by omega
  refine Vshl.w _ 8 rfl rfl (by decide) ?_
  refine zd (m:=((at_+(7-j):Nat):Int)) (by omega) (by omega) ?_
  refine Vadr.mk' (at_+(7-j)) rfl (by omega) ?_
  (conv=>whnf)
  generalize hq:lget _ _=q
  obtain rfl:q=some (TF.r (U8 (b.getD (at_+(7-j)) 0))):=hq.symm.trans ((zat _ ((at_+(7-j))*1)).trans (by rw[Nat.mul_one];exact zt1 (by omega)))
  clear hq
  refine Vint.w _ rfl ?_
  refine Vbits.wor _ _ rfl rfl ?_
  refine zd (m:=7-((j+1:Nat):Int)) (by omega) (by omega) ?_
  exact⟨j+1,by omega,by omega,zad [(0,0)] (zsr b at_ v _) ⟨cr,rfl,by rw[znn];exact cr,cr,⟨rfl,rfl⟩,trivial⟩ ⟨zae _,trivial⟩⟩
 ·simp only[zb]at h
  obtain rfl:j=8:=by omega
  exact za9 (.inl rfl) [(0,0)] [(3, .r (W (zc1 b at_ 8)))] [] (by have h:=zd8 (b.map U8) 1;simp only[stOk,lift,boxB,List.map_cons,List.map_nil,List.append_nil,List.all_cons,List.all_nil,zdy,h];rfl) ⟨cr,⟨rfl,rfl⟩,trivial⟩ ⟨zae _,trivial⟩ ⟨⟨1000000,rfl⟩,trivial⟩ (cr)
theorem z5k{l:List TF}{ys:List RV}(h:l.length=ys.length):l.take 0++(ys.take ys.length).map TF.r++l.drop (0+ys.length)=ys.map TF.r:=by
 rw[List.take_zero,List.nil_append,List.take_length,Nat.zero_add,<-h,List.drop_length,List.append_nil]
theorem h_of(b:List UInt8)(hb:b.length=32):zab Tryz.prog 380 [bs b] (.r (.ag (Fe.of b).v)):=by
 refine zaa (T:=Tab) mixed Tab_ok Tryz.func380 rfl (by kernel_rfl) ?_
 refine Vstep.val Tab_ok ?_
 refine Vcutn.mk' 0 32 rfl rfl (by decide) (by decide) ?_
 refine Vstep.copyBox Tab_ok rfl rfl rfl rfl rfl rfl rfl (by decide) rfl (.inl rfl) (zs:=(b.map U8).map .r) ?_ ?_
 ·have e:Nat.min b.length 32=(b.map U8).length:=by rw[hb,List.length_map,hb];rfl
  rw[e]
  exact z5k (by rw[List.length_map,List.length_map,hb];rfl)
 refine Vstep.nm 1 1000000 rfl λp=>Vstep.mkfunX [p] rfl ⟨_,_,rfl,⟨1,1000000,rfl,rfl⟩,rfl⟩ ?_
 refine Vstep.actsBox 1 (λv=>zjl v b hb 0 (by decide)) (Handed.clo (fs:=[.r (I 0)]) (cs:=[.own 0]) rfl rfl ⟨_,_,rfl,cr,rfl⟩ ⟨_,_,rfl,⟨1,1000000,rfl,rfl⟩,rfl⟩) rfl ?_
 refine Vbits.wand _ msk rfl rfl ?_
 refine Vstep.actsBox 1 (λv=>zjl v b hb 6 (by decide)) (Handed.clo (fs:=[.r (I 6)]) (cs:=[.own 0]) rfl rfl ⟨_,_,rfl,cr,rfl⟩ ⟨_,_,rfl,⟨1,1000000,rfl,rfl⟩,rfl⟩) rfl ?_
 refine Vshr.w _ 3 rfl rfl ?_
 refine Vbits.wand _ msk rfl rfl ?_
 refine Vstep.actsBox 1 (λv=>zjl v b hb 12 (by decide)) (Handed.clo (fs:=[.r (I 12)]) (cs:=[.own 0]) rfl rfl ⟨_,_,rfl,cr,rfl⟩ ⟨_,_,rfl,⟨1,1000000,rfl,rfl⟩,rfl⟩) rfl ?_
 refine Vshr.w _ 6 rfl rfl ?_
 refine Vbits.wand _ msk rfl rfl ?_
 refine Vstep.actsBox 1 (λv=>zjl v b hb 19 (by decide)) (Handed.clo (fs:=[.r (I 19)]) (cs:=[.own 0]) rfl rfl ⟨_,_,rfl,cr,rfl⟩ ⟨_,_,rfl,⟨1,1000000,rfl,rfl⟩,rfl⟩) rfl ?_
 refine Vshr.w _ 1 rfl rfl ?_
 refine Vbits.wand _ msk rfl rfl ?_
 refine Vstep.actsBox 1 (λv=>zjl v b hb 24 (by decide)) (Handed.clo (fs:=[.r (I 24)]) (cs:=[.own 0]) rfl rfl ⟨_,_,rfl,cr,rfl⟩ ⟨_,_,rfl,⟨1,1000000,rfl,rfl⟩,rfl⟩) rfl ?_
 refine Vshr.w _ 12 rfl rfl ?_
 refine Vbits.wand _ msk rfl rfl ?_
 repeat' ((conv=>whnf);first |refine za rfl rfl ?_)
 exactλ_ _ _ h=>h
end
section
def rorW(x:UInt64)(n:Nat):UInt64:=shlW x (64-n)|||shrW x n
theorem Vbits.wandN{a b:Int}{K:Int->Prop}(x y:UInt64)(m:Nat)(ha:a=(x.toNat:Int))(hb:b=(y.toNat:Int))(hm:(x&&&y).toNat=m)(hK:K (m:Int)):Vbits .u64 .and a b K:=Vbits.wand x y ha hb (by rw[hm];exact hK)
theorem z7l(x:UInt64)(n:Nat)(hn:1<=n/\n<=63):zab Tryz.prog 548 [W x,I (-(n:Int))] (.r (W (rorW x n))):=by
 refine zaa (T:=Tab) mixed Tab_ok Tryz.func548 rfl (by kernel_rfl) ?_
 have e1:(UInt64.ofNat (18446744073709551616-n)).toNat=18446744073709551616-n:=by rw[UInt64.toNat_ofNat'];omega
 refine Vint.n ((UInt64.ofNat (18446744073709551616-n)).toNat:Int) (by rw[e1];simp only[IntKind.wrap];simp[IntKind.bits,IntKind.signed];omega) ?_
 refine Vbits.wandN (UInt64.ofNat (18446744073709551616-n)) 63 (64-n) rfl rfl (by
  rw[UInt64.toNat_and,e1]
  have:=Nat.and_two_pow_sub_one_eq_mod (18446744073709551616-n) 6
  have e:(63:UInt64).toNat=2^6-1:=rfl
  rw[e,this]
  omega) ?_
 refine Vshl.w x (64-n) rfl rfl (by omega) ?_
 refine Vint.u64 n (by omega) (by omega) ?_
 refine Vshr.w x n rfl rfl ?_
 refine Vbits.wor _ _ rfl rfl ?_
 exact cr
theorem zcn(x:UInt64)(n:Nat)(hn:1<=n/\n<=63):zab Tryz.prog 525 [W x,I n] (.r (W (rorW x n))):=by
 refine zaa (T:=Tab) mixed Tab_ok Tryz.func525 rfl (by kernel_rfl) ?_
 refine zd (m:= -(n:Int)) (by omega) (by omega) ?_
 refine ze (z7l x n hn) ?_
 exact cr
abbrev boxW(l:List UInt64):Ow:= .box ((l.map W).map .r)
theorem zf7{l:List UInt64}{j:Nat}(h:j<l.length):lget ((l.map W).map TF.r) (j*1)=some (TF.r (W (l.getD j 0))):=by
 rw[zat,Nat.mul_one,List.getElem?_map,List.getElem?_map,List.getElem?_eq_getElem h,List.getD_eq_getElem?_getD,List.getElem?_eq_getElem h]
 rfl
theorem zr6{l:List UInt64}{j:Nat}{x:UInt64}{K:List TF->Prop}(h:j<l.length)(hK:K (((l.set j x).map W).map TF.r)):putK ((l.map W).map TF.r) (j*1) [TF.r (W x)] K:=by
 rw[Nat.mul_one,zdp _ _ _ _ (by simp;omega)]
 have e:((l.map W).map TF.r).take j++[TF.r (W x)]++((l.map W).map TF.r).drop (j+1)=((l.set j x).map W).map TF.r:=by
  rw[List.set_eq_take_append_cons_drop,if_pos h]
  simp[List.map_take,List.map_drop]
 simp only[List.length_cons,List.length_nil,Nat.zero_add]
 rw[e]
 exact hK
def zf6(c:List UInt8):Nat->UInt64
 |0=>0
 |j+1=>shlW (zf6 c j) 8|||UInt64.ofNat (c.getD j 0).toNat
def wA(b:List UInt8)(t:Nat):List UInt64:=(List.range 80).map λi=>if i<t then zf6 (b.drop (8*i)) 8 else 0
def wI(b:List UInt8)(t j:Nat):List UInt64:=(wA b t).set t (zf6 (b.drop (8*t)) j)
theorem zso(b:List UInt8)(t:Nat):(wA b t).length=80:=by simp[wA]
theorem zsp(b:List UInt8)(t j:Nat):(wI b t j).length=80:=by simp[wI,wA]
theorem z6e(b:List UInt8)(t:Nat)(ht:t<80):wI b t 0=wA b t:=by
 apply List.ext_getElem
 ·simp[wI]
 ·intro i h1 h2
  simp only[wI,List.getElem_set]
  split
  ·rename_i h;subst h;simp[wA,zf6]
  ·rfl
theorem z9c(b:List UInt8)(t:Nat):wI b t 8=wA b (t+1):=by
 apply List.ext_getElem
 ·simp[wI,wA]
 ·intro i h1 h2
  simp only[wI,List.getElem_set,wA,List.getElem_map,List.getElem_range]
  split
  ·rename_i h;subst h;simp
  ·rename_i h
   by_cases h3:i<t
   ·rw[if_pos h3,if_pos (by omega)]
   ·rw[if_neg h3,if_neg (by omega)]
theorem z9d(b:List UInt8)(t j:Nat)(ht:t<80):(wI b t j).getD t 0=zf6 (b.drop (8*t)) j:=by
 rw[wI,List.getD_eq_getElem?_getD,List.getElem?_set_self (by rw[zso];exact ht)]
 rfl
theorem z9e(b:List UInt8)(t j:Nat)(x:UInt64)(hx:x=zf6 (b.drop (8*t)) (j+1)):(wI b t j).set t x=wI b t (j+1):=by
 rw[hx,wI,List.set_set]
 rfl
theorem zvc(c:List UInt8)(j:Nat):zf6 c (j+1)=shlW (zf6 c j) 8|||UInt64.ofNat (c.getD j 0).toNat:=rfl
attribute [irreducible] wA wI zf6
end
section
def wS(x y p q:UInt64):UInt64:=((rorW y 19^^^rorW y 61)^^^shrW y 6)+p+((rorW x 1^^^rorW x 8)^^^shrW x 7)+q
def wB(b:List UInt8):Nat->List UInt64
 |0=>wA b 16
 |k+1=>(wB b k).set (16+k) (wS ((wB b k).getD (k+1) 0) ((wB b k).getD (k+14) 0) ((wB b k).getD (k+9) 0) ((wB b k).getD k 0))
theorem zb9(b:List UInt8): ∀k,(wB b k).length=80
 |0=>zso b 16
 |k+1=>by rw[wB,List.length_set,zb9 b k]
theorem z6d(b:List UInt8):wB b 0=wA b 16:=rfl
theorem z6c(b:List UInt8)(k:Nat):wB b (k+1)=(wB b k).set (16+k) (wS ((wB b k).getD (k+1) 0) ((wB b k).getD (k+14) 0) ((wB b k).getD (k+9) 0) ((wB b k).getD k 0)):=rfl
theorem z6b(b:List UInt8):wA b 0=List.replicate 80 0:=by
 apply List.ext_getElem
 ·simp[zso]
 ·intro i h1 h2
  unfold wA
  simp only[List.getElem_map,List.getElem_replicate,Nat.not_lt_zero,if_false]
attribute [irreducible] wB
theorem zh0(S:St): ∀l:List RV,S.rvs (l.map .r)=some l
 |[]=>rfl
 |x::r=>by simp only[List.map_cons,St.rvs,zh0 S r,St.rv]
theorem zoq: ∀l:List RV,(l.map TF.r).flatMap zag=[]
 |[]=>rfl
 |x::r=>by rw[List.map_cons,List.flatMap_cons,zoq r];rfl
theorem zda{S:St}{o:Oper}{n0:Nat}{cr:List (Nat×Nat)}{w:List Nat}{id:Nat}{l:List RV}(h:ids1 S o=[id])(ho:oget S.O id=some (.box (l.map .r)))(hn:Nat.blt id n0=true):zbk S o n0 cr w=true:=by
 have e:zau S o=[id]:=by
  rw[zau,h,ids2,List.flatMap_cons,ho,List.flatMap_nil]
  simp only[zoq,List.append_nil]
 rw[zbk,e]
 simp only[allB,hn,Bool.and_true]
theorem zw5{x:UInt64}{l:List UInt64}{j:Nat}(h:j<l.length):(za5 (W x)&&(Nat.beq (cellsOf (W x)).length 1&&Nat.ble (j*1+1) ((l.map W).map TF.r).length))=true:=by
 have e:Nat.ble (j*1+1) ((l.map W).map TF.r).length=true:=by
  rw[Nat.ble_eq,List.length_map,List.length_map]
  omega
 rw[e]
 rfl
def woA(b:List UInt8)(t:Nat):St:={F:=[(0, .r (bs b)),(2, .own 0),(3, .own 1),(10, .r (I t))],O:=[(0,some (boxW (List.replicate 80 0))),(1,some (boxW (wA b t)))],nx:=2}
def woI(b:List UInt8)(t j:Nat):St:={F:=[(0, .r (bs b)),(2, .own 0),(3, .own 1),(10, .r (I t)),(4, .r (I t)),(19, .r (.sl 1 8 (((b.drop (8*t)).take 8).map U8))),(20, .r (I 8)),(21, .r (I j))],O:=[(0,some (boxW (List.replicate 80 0))),(1,some (boxW (wI b t j)))],nx:=2}
def woB(b:List UInt8)(k:Nat):St:={F:=[(2, .own 0),(3, .own 1),(7, .r (I ((16+k:Nat):Int)))],O:=[(0,some (boxW (List.replicate 80 0))),(1,some (boxW (wB b k)))],nx:=2}
theorem zzv(b:List UInt8)(t:Nat):stOk [(0,0),(1,1)] (woA b t)=true:=by
 simp only[stOk,woA,boxW,List.all_cons,List.all_nil,zdy,zd8]
 rfl
theorem zzx(b:List UInt8)(t j:Nat):stOk [(0,0),(1,1)] (woI b t j)=true:=by
 simp only[stOk,woI,boxW,List.all_cons,List.all_nil,zdy,zd8]
 rfl
theorem zzw(b:List UInt8)(k:Nat):stOk [(0,0),(1,1)] (woB b k)=true:=by
 simp only[stOk,woB,boxW,List.all_cons,List.all_nil,zdy,zd8]
 rfl
set_option maxHeartbeats 1000000 in
theorem z4u(b:List UInt8)(hb:b.length=128):zab Tryz.prog 524 [bs b] (.r (.ag ((wB b 64).map W))):=by
 refine zaa (T:=Tab) mixed Tab_ok Tryz.func524 rfl (by kernel_rfl) ?_
 refine zy (woA b) (λt=>t<=16) (λt=>16-t) 0 (by omega) (zad [(0,0),(1,1)] (zzv b 0) ⟨cr,rfl,rfl,cr,trivial⟩ ⟨zae ((List.replicate 80 (0:UInt64)).map W),by rw[z6b];exact zae ((List.replicate 80 (0:UInt64)).map W),trivial⟩) ?_
 intro t ht
 refine zh (λh=>zp ?_) (λh=>zq ?_)
 ·simp only[zb]at h
  refine zd (m:=((8*t:Nat):Int)) (by omega) (by omega) ?_
  refine zd (m:=((8*t:Nat):Int)) (by omega) (by omega) ?_
  refine zd (m:=((8*t+8:Nat):Int)) (by omega) (by omega) ?_
  refine⟨by omega,by omega,by omega,8,((b.drop (8*t)).take 8).map U8,by omega,by rw[Nat.mul_one,Int.toNat_natCast,Nat.mul_one,<-List.map_drop,<-List.map_take],?_⟩
  refine zy (woI b t) (λj=>j<=8) (λj=>8-j) 0 (by omega) (zad [(0,0),(1,1)] (zzx b t 0) ⟨cr,rfl,rfl,cr,cr,cr,cr,cr,trivial⟩ ⟨zae ((List.replicate 80 (0:UInt64)).map W),by rw[z6e b t (by omega)];exact zae ((wA b t).map W),trivial⟩) ?_
  intro j hj
  refine zh (λh=>zp ?_) (λh=>zq ?_)
  ·simp only[zb]at h
   have hc:((b.drop (8*t)).take 8).length=8:=by rw[List.length_take,List.length_drop];omega
   have ht':t<16:=by omega
   refine zm (by omega) (by omega) (zca rfl (i:=j) (by rw[hc];omega)) (zg rfl ?_)
   refine Vadr.mk' t rfl (by omega) ?_
   (conv=>whnf)
   generalize hq:lget _ _=q
   obtain rfl:=hq.symm.trans (zf7 (by rw[zsp];omega))
   clear hq
   refine Vshl.w _ 8 rfl rfl (by decide) ?_
   refine Vint.w _ rfl ?_
   refine Vbits.wor _ _ rfl rfl ?_
   refine Vadr.mk' t rfl (by omega) ?_
   (conv=>whnf)
   generalize hq:(za5 _&&_)=q
   obtain rfl:=hq.symm.trans (zw5 (x:=shlW ((wI b t j).getD t 0) 8|||UInt64.ofNat (((b.drop (8*t)).take 8)[j]).toNat) (j:=t) (by rw[zsp];omega))
   clear hq
   refine zr6 (by rw[zsp];omega) ?_
   rw[z9e b t j _ (by
    rw[z9d b t j (by omega),zvc,List.getElem_take,List.getD_eq_getElem?_getD,List.getElem?_eq_getElem (by rw[List.length_drop];omega)]
    rfl)]
   refine zd (m:=((j+1:Nat):Int)) (by omega) (by omega) ?_
   exact⟨j+1,by omega,by omega,zad [(0,0),(1,1)] (zzx b t (j+1)) ⟨cr,rfl,rfl,cr,cr,cr,cr,cr,trivial⟩ ⟨zae ((List.replicate 80 (0:UInt64)).map W),zae ((wI b t (j+1)).map W),trivial⟩⟩
  ·simp only[zb]at h
   obtain rfl:j=8:=by omega
   refine zd (m:=((t+1:Nat):Int)) (by omega) (by omega) ?_
   exact⟨t+1,by omega,by omega,zad [(0,0),(1,1)] (zzv b (t+1)) ⟨cr,rfl,rfl,cr,trivial⟩ ⟨zae ((List.replicate 80 (0:UInt64)).map W),by rw[<-z9c b t];exact zae ((wI b t 8).map W),trivial⟩⟩
 ·simp only[zb]at h
  obtain rfl:t=16:=by omega
  refine zy (woB b) (λk=>k<=64) (λk=>64-k) 0 (by omega) (zad [(0,0),(1,1)] (zzw b 0) ⟨rfl,rfl,cr,trivial⟩ ⟨zae ((List.replicate 80 (0:UInt64)).map W),by rw[z6d];exact zae ((wA b 16).map W),trivial⟩) ?_
  intro k hk
  refine zh (λh=>zp ?_) (λh=>zq ?_)
  ·simp only[zb]at h
   have hk':k<64:=by omega
   refine Vdraw.mk' (by kernel_rfl) ?_
   refine zd (m:=((k+1:Nat):Int)) (by omega) (by omega) ?_
   (conv=>whnf)
   generalize hq:zbk _ _ _ _ _=q
   obtain rfl:=hq.symm.trans (zda rfl rfl rfl)
   clear hq
   refine Vadr.mk' (k+1) rfl (by omega) ?_
   (conv=>whnf)
   generalize hq:zbk _ _ _ _ _=q
   obtain rfl:=hq.symm.trans (zda rfl rfl rfl)
   clear hq
   (conv=>whnf)
   generalize hq:lget _ _=q
   obtain rfl:=hq.symm.trans (zf7 (l:=wB b k) (j:=k+1) (by rw[zb9];omega))
   clear hq
   refine zd (m:=((k+14:Nat):Int)) (by omega) (by omega) ?_
   (conv=>whnf)
   generalize hq:zbk _ _ _ _ _=q
   obtain rfl:=hq.symm.trans (zda rfl rfl rfl)
   clear hq
   refine Vadr.mk' (k+14) rfl (by omega) ?_
   (conv=>whnf)
   generalize hq:zbk _ _ _ _ _=q
   obtain rfl:=hq.symm.trans (zda rfl rfl rfl)
   clear hq
   (conv=>whnf)
   generalize hq:lget _ _=q
   obtain rfl:=hq.symm.trans (zf7 (l:=wB b k) (j:=k+14) (by rw[zb9];omega))
   clear hq
   refine Vdraw.mk' (by kernel_rfl) ?_
   refine ze (zcn _ 19 (by decide)) ?_
   refine ze (zcn _ 61 (by decide)) ?_
   refine Vbits.wxor _ _ rfl rfl ?_
   refine Vshr.w _ 6 rfl rfl ?_
   refine Vbits.wxor _ _ rfl rfl ?_
   refine zd (m:=((k+9:Nat):Int)) (by omega) (by omega) ?_
   (conv=>whnf)
   generalize hq:zbk _ _ _ _ _=q
   obtain rfl:=hq.symm.trans (zda rfl rfl rfl)
   clear hq
   refine Vadr.mk' (k+9) rfl (by omega) ?_
   (conv=>whnf)
   generalize hq:zbk _ _ _ _ _=q
   obtain rfl:=hq.symm.trans (zda rfl rfl rfl)
   clear hq
   (conv=>whnf)
   generalize hq:lget _ _=q
   obtain rfl:=hq.symm.trans (zf7 (l:=wB b k) (j:=k+9) (by rw[zb9];omega))
   clear hq
   refine Vint.wadd _ _ rfl rfl ?_
   refine ze (zcn _ 1 (by decide)) ?_
   refine ze (zcn _ 8 (by decide)) ?_
   refine Vbits.wxor _ _ rfl rfl ?_
   refine Vshr.w _ 7 rfl rfl ?_
   refine Vbits.wxor _ _ rfl rfl ?_
   refine Vint.wadd _ _ rfl rfl ?_
   refine zd (m:=(k:Int)) (by omega) (by omega) ?_
   (conv=>whnf)
   generalize hq:zbk _ _ _ _ _=q
   obtain rfl:=hq.symm.trans (zda rfl rfl rfl)
   clear hq
   refine Vadr.mk' k rfl (by omega) ?_
   (conv=>whnf)
   generalize hq:zbk _ _ _ _ _=q
   obtain rfl:=hq.symm.trans (zda rfl rfl rfl)
   clear hq
   (conv=>whnf)
   generalize hq:lget _ _=q
   obtain rfl:=hq.symm.trans (zf7 (l:=wB b k) (j:=k) (by rw[zb9];omega))
   clear hq
   refine Vint.wadd _ _ rfl rfl ?_
   (conv=>whnf)
   generalize hq:zbk _ _ _ _ _=q
   obtain rfl:=hq.symm.trans (zda rfl rfl rfl)
   clear hq
   refine Vadr.mk' (16+k) rfl (by omega) ?_
   (conv=>whnf)
   generalize hq:(za5 _&&_)=q
   obtain rfl:=hq.symm.trans (zw5 (x:=wS ((wB b k).getD (k+1) 0) ((wB b k).getD (k+14) 0) ((wB b k).getD (k+9) 0) ((wB b k).getD k 0)) (j:=16+k) (by rw[zb9];omega))
   clear hq
   refine zr6 (by rw[zb9];omega) ?_
   refine zd (m:=((16+(k+1):Nat):Int)) (by omega) (by omega) ?_
   exact⟨k+1,by omega,by omega,zad [(0,0),(1,1)] (zzw b (k+1)) ⟨rfl,rfl,cr,trivial⟩ ⟨zae ((List.replicate 80 (0:UInt64)).map W),by rw[z6c];exact zae _,trivial⟩⟩
  ·simp only[zb]at h
   obtain rfl:k=64:=by omega
   refine za (l:=((wB b 64).map W).map TF.r) (List.take_of_length_le (by simp[zb9])) (by simp[zb9]) ?_
   (conv=>whnf)
   generalize hq:St.rvs _ _=q
   obtain rfl:=hq.symm.trans (zh0 _ _)
   clear hq
   (conv=>whnf)
   generalize hq:(za5 _&&_)=q
   have hg:(za5 (.ag ((wB b 64).map W))&&(Nat.beq (cellsOf (.ag ((wB b 64).map W))).length 80&&Nat.ble (0+80) (((List.replicate 80 (0:UInt64)).map W).map TF.r).length))=true:=by
    have e1:(cellsOf (.ag ((wB b 64).map W))).length=80:=by show((wB b 64).map W).length=80;rw[List.length_map,zb9]
    rw[e1]
    have e2:za5 (.ag ((wB b 64).map W))=true:=rfl
    rw[e2]
    rfl
   obtain rfl:=hq.symm.trans hg
   clear hq
   show putK _ _ _ _
   rw[zdp _ _ _ _ (by simp[zb9,cellsOf])]
   generalize hq:(List.take 0 _++_++_:List TF)=q
   have hg:(((List.replicate 80 (0:UInt64)).map W).map TF.r).take 0++((wB b 64).map W).map TF.r++(((List.replicate 80 (0:UInt64)).map W).map TF.r).drop (0+(((wB b 64).map W).map TF.r).length)=((wB b 64).map W).map TF.r:=by
    rw[List.length_map,List.length_map,zb9]
    exact List.append_nil _
   obtain rfl:=hq.symm.trans hg
   clear hq
   refine za (l:=((wB b 64).map W).map TF.r) (List.take_of_length_le (by simp[zb9])) (by simp[zb9]) ?_
   (conv=>whnf)
   generalize hq:St.rvs _ _=q
   obtain rfl:=hq.symm.trans (zh0 _ _)
   clear hq
   exact cr
end
section
structure X8 where
 a:UInt64
 b:UInt64
 c:UInt64
 d:UInt64
 e:UInt64
 f:UInt64
 g:UInt64
 h:UInt64
abbrev X8.l(x:X8):List UInt64:=[x.a,x.b,x.c,x.d,x.e,x.f,x.g,x.h]
def X8.t1(x:X8)(k w:UInt64):UInt64:=x.h+((rorW x.e 14^^^rorW x.e 18)^^^rorW x.e 41)+((x.e&&&x.f)^^^((18446744073709551615^^^x.e)&&&x.g))+k+w
def X8.t2(x:X8):UInt64:=((rorW x.a 28^^^rorW x.a 34)^^^rorW x.a 39)+(((x.a&&&x.b)^^^(x.a&&&x.c))^^^(x.b&&&x.c))
def X8.next(x:X8)(k w:UInt64):X8:=⟨x.t1 k w+x.t2,x.a,x.b,x.c,x.d+x.t1 k w,x.e,x.f,x.g⟩
def X8.add(x y:X8):X8:=⟨x.a+y.a,x.b+y.b,x.c+y.c,x.d+y.d,x.e+y.e,x.f+y.f,x.g+y.g,x.h+y.h⟩
def xN(s:X8)(k w:List UInt64):Nat->X8
 |0=>s
 |j+1=>(xN s k w j).next (k.getD j 0) (w.getD j 0)
theorem z6i(s:X8)(k w:List UInt64):xN s k w 0=s:=rfl
theorem z6h(s:X8)(k w:List UInt64)(j:Nat):xN s k w (j+1)=(xN s k w j).next (k.getD j 0) (w.getD j 0):=rfl
attribute [irreducible] xN
def zwn(s:X8)(k:List UInt64)(b:List UInt8):X8:=s.add (xN s k (wB b 64) 80)
abbrev X8.bx(x:X8):Ow:= .box [.r (W x.a), .r (W x.b), .r (W x.c), .r (W x.d), .r (W x.e), .r (W x.f), .r (W x.g), .r (W x.h)]
abbrev X8.v(x:X8):List RV:=[W x.a,W x.b,W x.c,W x.d,W x.e,W x.f,W x.g,W x.h]
theorem zma{l:List RV}{cells:List TF}(n:Nat)(hl:l.length=n)(hc:cells.length=n):(za5 (.ag l)&&(Nat.beq (cellsOf (.ag l)).length n&&Nat.ble (0+n) cells.length))=true:=by
 have e1:(cellsOf (.ag l)).length=n:=hl
 have e2:za5 (.ag l)=true:=rfl
 rw[e1,e2,hc,Nat.zero_add,Nat.ble_eq.mpr (Nat.le_refl _)]
 simp
theorem zgy{l:List RV}{cells:List TF}{K:List TF->Prop}(h:cells.length=l.length)(hK:K (l.map .r)):putK cells 0 ((cellsOf (.ag l)).map .r) K:=by
 have e:cellsOf (.ag l)=l:=rfl
 rw[zdp _ _ _ _ (by rw[e,List.length_map];omega),e,List.take_zero,List.nil_append,List.drop_eq_nil_of_le (by rw[List.length_map];omega),List.append_nil]
 exact hK
def stI(s:X8)(k w:List UInt64)(j:Nat):St:={F:=[(3, .own 0),(4, .own 1),(6, .own 2),(7, .own 3),(8, .own 4),(18, .r (I j))],O:=[(0,some s.bx),(1,some (boxW k)),(2,some (X8.bx ⟨0,0,0,0,0,0,0,0⟩)),(3,some (boxW w)),(4,some (xN s k w j).bx)],nx:=5}
theorem zzj(s:X8)(k w:List UInt64)(j:Nat):stOk [(0,0),(1,1),(2,2),(3,3),(4,4)] (stI s k w j)=true:=by
 simp only[stOk,stI,boxW,List.all_cons,List.all_nil,zdy,zd8]
 rfl
set_option maxHeartbeats 4000000 in
theorem z03(s:X8)(k:List UInt64)(b:List UInt8)(hk:k.length=80)(hb:b.length=128):zab Tryz.prog 484 [.ag s.v, .ag (k.map W),bs b] (.r (.ag (zwn s k b).v)):=by
 refine zaa (T:=Tab) mixed Tab_ok Tryz.func484 rfl (by kernel_rfl) ?_
 refine ze (z4u b hb) ?_
 (conv=>whnf)
 generalize hq:(za5 _&&_)=q
 obtain rfl:=hq.symm.trans (zma (l:=(wB b 64).map W) 80 (by rw[List.length_map,zb9]) rfl)
 clear hq
 refine zgy (by rw[List.length_map,List.length_map,zb9];rfl) ?_
 refine za rfl rfl ?_
 refine zy (stI s k (wB b 64)) (λj=>j<=80) (λj=>80-j) 0 (by omega) (zad [(0,0),(1,1),(2,2),(3,3),(4,4)] (zzj s k (wB b 64) 0) ⟨rfl,rfl,rfl,rfl,rfl,cr,trivial⟩ ⟨⟨_,_,rfl,cr,_,_,rfl,cr,_,_,rfl,cr,_,_,rfl,cr,_,_,rfl,cr,_,_,rfl,cr,_,_,rfl,cr,_,_,rfl,cr,rfl⟩,zae (k.map W),⟨_,_,rfl,cr,_,_,rfl,cr,_,_,rfl,cr,_,_,rfl,cr,_,_,rfl,cr,_,_,rfl,cr,_,_,rfl,cr,_,_,rfl,cr,rfl⟩,zae ((wB b 64).map W),by rw[z6i];exact⟨_,_,rfl,cr,_,_,rfl,cr,_,_,rfl,cr,_,_,rfl,cr,_,_,rfl,cr,_,_,rfl,cr,_,_,rfl,cr,_,_,rfl,cr,rfl⟩,trivial⟩) ?_
 intro j hj
 refine zh (λh=>zp ?_) (λh=>zq ?_)
 ·simp only[zb]at h
  have hj':j<80:=by omega
  generalize hX:xN s k (wB b 64) j=x
  refine Vdraw.mk' (by kernel_rfl) ?_
  refine Vadr.any (by decide) ?_
  refine Vadr.any (by decide) ?_
  refine Vdraw.mk' (by kernel_rfl) ?_
  refine Vadr.any (by decide) ?_
  refine ze (zcn _ 14 (by decide)) ?_
  refine ze (zcn _ 18 (by decide)) ?_
  refine Vbits.wxor _ _ rfl rfl ?_
  refine ze (zcn _ 41 (by decide)) ?_
  refine Vbits.wxor _ _ rfl rfl ?_
  refine Vint.wadd _ _ rfl rfl ?_
  refine Vadr.any (by decide) ?_
  refine Vbits.wand _ _ rfl rfl ?_
  refine Vbits.wxor 18446744073709551615 _ rfl rfl ?_
  refine Vadr.any (by decide) ?_
  refine Vbits.wand _ _ rfl rfl ?_
  refine Vbits.wxor _ _ rfl rfl ?_
  refine Vint.wadd _ _ rfl rfl ?_
  (conv=>whnf)
  generalize hq:zbk _ _ _ _ _=q
  obtain rfl:=hq.symm.trans (zda rfl rfl rfl)
  clear hq
  refine Vadr.mk' j rfl (by omega) ?_
  (conv=>whnf)
  generalize hq:zbk _ _ _ _ _=q
  obtain rfl:=hq.symm.trans (zda rfl rfl rfl)
  clear hq
  (conv=>whnf)
  generalize hq:lget _ _=q
  obtain rfl:=hq.symm.trans (zf7 (l:=k) (j:=j) (by rw[hk];omega))
  clear hq
  refine Vint.wadd _ _ rfl rfl ?_
  (conv=>whnf)
  generalize hq:zbk _ _ _ _ _=q
  obtain rfl:=hq.symm.trans (zda rfl rfl rfl)
  clear hq
  refine Vadr.mk' j rfl (by omega) ?_
  (conv=>whnf)
  generalize hq:zbk _ _ _ _ _=q
  obtain rfl:=hq.symm.trans (zda rfl rfl rfl)
  clear hq
  (conv=>whnf)
  generalize hq:lget _ _=q
  obtain rfl:=hq.symm.trans (zf7 (l:=wB b 64) (j:=j) (by rw[zb9];omega))
  clear hq
  refine Vint.wadd _ _ rfl rfl ?_
  refine Vdraw.mk' (by kernel_rfl) ?_
  refine ze (zcn _ 28 (by decide)) ?_
  refine ze (zcn _ 34 (by decide)) ?_
  refine Vbits.wxor _ _ rfl rfl ?_
  refine ze (zcn _ 39 (by decide)) ?_
  refine Vbits.wxor _ _ rfl rfl ?_
  refine Vadr.any (by decide) ?_
  refine Vbits.wand _ _ rfl rfl ?_
  refine Vadr.any (by decide) ?_
  refine Vbits.wand _ _ rfl rfl ?_
  refine Vbits.wxor _ _ rfl rfl ?_
  refine Vadr.any (by decide) ?_
  refine Vadr.any (by decide) ?_
  refine Vbits.wand _ _ rfl rfl ?_
  refine Vbits.wxor _ _ rfl rfl ?_
  refine Vint.wadd _ _ rfl rfl ?_
  refine Vdraw.mk' (by kernel_rfl) ?_
  refine Vcutn.mk' 1 7 rfl rfl (by decide) (by decide) ?_
  refine Vcutn.mk' 0 7 rfl rfl (by decide) (by decide) ?_
  refine Vstep.copyBox (n:=7) (m:=7) (ys:=[W x.a,W x.b,W x.c,W x.d,W x.e,W x.f,W x.g]) (zs:=[.r (W x.a), .r (W x.a), .r (W x.b), .r (W x.c), .r (W x.d), .r (W x.e), .r (W x.f), .r (W x.g)]) Tab_ok rfl rfl rfl rfl rfl rfl rfl (by show 1*1+7<=8;decide) rfl (.inr ⟨0,rfl,by show 0+7<=8;decide,rfl⟩) rfl ?_
  refine Vadr.any (by decide) ?_
  refine Vint.wadd _ _ rfl rfl ?_
  refine Vadr.any (by decide) ?_
  refine Vint.wadd _ _ rfl rfl ?_
  refine Vadr.any (by decide) ?_
  refine zd (m:=((j+1:Nat):Int)) (by omega) (by omega) ?_
  exact⟨j+1,by omega,by omega,zad [(0,0),(1,1),(2,2),(3,3),(4,4)] (zzj s k (wB b 64) (j+1)) ⟨rfl,rfl,rfl,rfl,rfl,cr,trivial⟩ ⟨⟨_,_,rfl,cr,_,_,rfl,cr,_,_,rfl,cr,_,_,rfl,cr,_,_,rfl,cr,_,_,rfl,cr,_,_,rfl,cr,_,_,rfl,cr,rfl⟩,zae (k.map W),⟨_,_,rfl,cr,_,_,rfl,cr,_,_,rfl,cr,_,_,rfl,cr,_,_,rfl,cr,_,_,rfl,cr,_,_,rfl,cr,_,_,rfl,cr,rfl⟩,zae ((wB b 64).map W),by rw[z6h,hX];exact⟨_,_,rfl,cr,_,_,rfl,cr,_,_,rfl,cr,_,_,rfl,cr,_,_,rfl,cr,_,_,rfl,cr,_,_,rfl,cr,_,_,rfl,cr,rfl⟩,trivial⟩⟩
 ·simp only[zb]at h
  obtain rfl:j=80:=by omega
  generalize hX:xN s k (wB b 64) 80=x
  refine Vloop.rounds 9 ?_
  repeat' ((conv=>whnf);first |refine Vrounds.step mixed Tab_ok ?_ |refine zt rfl (zp ?_) |refine zu rfl (zq ?_) |refine Vadr.any (by decide) ?_ |refine Vint.any (k:= .i64) ?_ |refine Vint.wadd _ _ rfl rfl ?_ |refine za rfl rfl ?_ |refine Vdraw.mk' (by kernel_rfl) ?_)
  subst hX
  exact cr
end
end Go.Proofs.YtebhngeddnnpkaaGreat.Sx
