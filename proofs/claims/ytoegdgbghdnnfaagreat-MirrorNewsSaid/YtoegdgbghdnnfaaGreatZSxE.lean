import Derived.Test.YtoegdgbghdnnfaaGreatZSxP
namespace Go.Proofs.YtoegdgbghdnnfaaGreat.Sx
open Go.RowKit
section
variable {P:Program} {T:TT} {B:Bs} {N:Nat} {S:St} {a:Act} {w:World} {k:Kp} {g:Env} {o:Oper} {next:Act->World->Prop} {Q:Exit->Act->World->Prop}
theorem za0{v:Value}{w':World}(hr:(execOp a.eval o).run P w= .ok (.value v) w')(h:next (a.put o.dst v) w'):o.wp P a w next Q:=by
 unfold Oper.wp;rw[hr];exact h
theorem zz0{w':World}(hr:(execOp a.eval o).run P w= .ok .skip w')(h:next (a.put o.dst undef) w'):o.wp P a w next Q:=by
 unfold Oper.wp;rw[hr];exact h
theorem z2t{op:BinOp}{kd:IntKind}{x y:Int}{K:RV->Prop}(h:binv op kd x y K):
  ∃v u,K v/\(∀w k,RV.at_ w k v u)/\∀(P:Program) (w:World) (t:TypeId) (p q:Operand),(do eqGuard op t p q (.int kd x) (.int kd y);binOp op t (.int kd x) (.int kd y):Sem Value).run P w= .ok u w:=by
 cases op<;>simp only[binv]at h
 case add=>obtain⟨m,rfl,hK⟩:=h;exact⟨_, .int kd (kd.wrap (x+y)),hK,λw k=>by simp[RV.at_],λP w t p q=>by simp[eqGuard,binOp,Op.intArith]⟩
 case sub=>obtain⟨m,rfl,hK⟩:=h;exact⟨_, .int kd (kd.wrap (x-y)),hK,λw k=>by simp[RV.at_],λP w t p q=>by simp[eqGuard,binOp,Op.intArith]⟩
 case mul=>obtain⟨m,rfl,hK⟩:=h;exact⟨_, .int kd (kd.wrap (x*y)),hK,λw k=>by simp[RV.at_],λP w t p q=>by simp[eqGuard,binOp,Op.intArith]⟩
 case quo=>obtain⟨h0,m,rfl,hK⟩:=h;exact⟨_, .int kd (kd.wrap (x.tdiv y)),hK,λw k=>by simp[RV.at_],λP w t p q=>by simp[eqGuard,binOp,Op.intDiv,h0]⟩
 case rem=>obtain⟨h0,m,rfl,hK⟩:=h;exact⟨_, .int kd (x.tmod y),hK,λw k=>by simp[RV.at_],λP w t p q=>by simp[eqGuard,binOp,Op.intDiv,h0]⟩
 case and=>obtain⟨m,rfl,hK⟩:=h;exact⟨_,_,hK,λw k=>by simp only[RV.at_];rfl,λP w t p q=>by simp[eqGuard,binOp,Op.intBits]⟩
 case or=>obtain⟨m,rfl,hK⟩:=h;exact⟨_,_,hK,λw k=>by simp only[RV.at_];rfl,λP w t p q=>by simp[eqGuard,binOp,Op.intBits]⟩
 case xor=>obtain⟨m,rfl,hK⟩:=h;exact⟨_,_,hK,λw k=>by simp only[RV.at_];rfl,λP w t p q=>by simp[eqGuard,binOp,Op.intBits]⟩
 case andNot=>obtain⟨m,rfl,hK⟩:=h;exact⟨_,_,hK,λw k=>by simp only[RV.at_];rfl,λP w t p q=>by simp[eqGuard,binOp,Op.intBits]⟩
 case eql=>obtain⟨m,rfl,hK⟩:=h;exact⟨_,_,hK,λw k=>by simp only[RV.at_];rfl,λP w t p q=>by simp[eqGuard,binOp,Op.intCmp]⟩
 case neq=>obtain⟨m,rfl,hK⟩:=h;exact⟨_,_,hK,λw k=>by simp only[RV.at_];rfl,λP w t p q=>by simp[eqGuard,binOp,Op.intCmp]⟩
 case lss=>obtain⟨m,rfl,hK⟩:=h;exact⟨_,_,hK,λw k=>by simp only[RV.at_];rfl,λP w t p q=>by simp[eqGuard,binOp,Op.intCmp]⟩
 case leq=>obtain⟨m,rfl,hK⟩:=h;exact⟨_,_,hK,λw k=>by simp only[RV.at_];rfl,λP w t p q=>by simp[eqGuard,binOp,Op.intCmp]⟩
 case gtr=>obtain⟨m,rfl,hK⟩:=h;exact⟨_,_,hK,λw k=>by simp only[RV.at_];rfl,λP w t p q=>by simp[eqGuard,binOp,Op.intCmp]⟩
 case geq=>obtain⟨m,rfl,hK⟩:=h;exact⟨_,_,hK,λw k=>by simp only[RV.at_];rfl,λP w t p q=>by simp[eqGuard,binOp,Op.intCmp]⟩
theorem chAt.one{e:TypeId}{sz n:Nat}{cells:List RV}{pub:Bool}{u:Value}{ob:Option Nat}(h:chAt w k e sz n cells pub u ob):u.oneCell'=true:=by
 rcases h.2 with⟨_,⟨_,a,rfl⟩ |⟨_,_,b,o,rfl,_⟩⟩ |⟨b,cap,cur,_,rfl,_⟩<;>rfl
theorem z18(hs:SatE B N S a w k g){id:Nat}{ow:Ow}(h:oget S.O id=some ow):(g id).1.oneCell'=true:=by
 have hat:=(hs.owns _ _ h).2.2.1
 cases ow with
 |box cells=>simp only[Ow.at_]at hat;obtain⟨b,cur,ty,e,_⟩:=hat;rw[e];rfl
 |ch e sz n cells pub=>simp only[Ow.at_]at hat;exact hat.one
 |gen p=>exact p.one hat
theorem zp7: ∀{fs:List RV} {us:List Value},RV.partsAt w k fs us->∀{i:Nat} {f:RV},fs[i]?=some f->∃u,us[i]?=some u/\f.at_ w k u
 |[],_,_,i,f,hf=>by simp at hf
 |f::fs,us,h,i,f',hf=>by
  simp only[RV.partsAt]at h
  obtain⟨u,r,rfl,h1,h2⟩:=h
  cases i with
  |zero=>simp at hf;subst hf;exact⟨u,by simp,h1⟩
  |succ i=>obtain⟨v,hv,h3⟩:=zp7 h2 (i:=i) (f:=f') (by simpa using hf);exact⟨v,by simpa using hv,h3⟩
theorem zhy{b off:Nat}{u:Value}{t:TypeId}{ti:TI}(hti:TIOk P ti)(ht:ti.id=t)(hagg:ti.agg=false)(hc:w.cell? ⟨b,off,none⟩=some u):
  (Instr.loadAt t (.pointer (some ⟨b,off,none⟩))).run P w= .ok u w:=by
 obtain⟨d,hd,_,hr⟩:=hti.desc
 rw[ht]at hd
 rw[hagg]at hr
 have:(isAgg t).run P w= .ok false w:=by
  unfold isAgg
  rw[Sem.run_bind,run_underlying hd w]
  cases d<;>simp_all [TypeDesc.isRow]
 simp[Instr.loadAt,Instr.sureAddr,loadVar,this,hc]
theorem zhx{b off:Nat}{us:List Value}{t:TypeId}{ti:TI}(hti:TIOk P ti)(ht:ti.id=t)(hagg:ti.agg=true)(hl:us.length=ti.sz)(hc: ∀j u,us[j]?=some u->w.cell? ⟨b,off+j,none⟩=some u):
  (Instr.loadAt t (.pointer (some ⟨b,off,none⟩))).run P w= .ok (.agg us.toArray) w:=by
 obtain⟨d,hd,_,hr⟩:=hti.desc
 obtain⟨i,hi,hsz,_⟩:=hti.info
 rw[ht]at hd hi
 exact run_loadAt_mid w b off t us d hc hd (hr.trans hagg) (by simp[hi,hsz,hl])
theorem zba{α:Type}: ∀(l:List α) (n:Nat),lget l n=l[n]?
 |[],n=>by simp[lget]
 |x::r,0=>rfl
 |x::r,n+1=>by simp only[lget];rw[zba r n];simp
theorem zsh(hs:SatE B N S a w k g){id off b:Nat}{t:TypeId}{ti:TI}{K:TF->Prop}(hti:TIOk P ti)(ht:ti.id=t)(hb:(g id).2=some b)
  (h:ldOw S (oget S.O id) off ti K): ∃f v,K f/\f.lt S.nx/\f.at_ w k g v/\(Instr.loadAt t (.pointer (some ⟨b,off,none⟩))).run P w= .ok v w:=by
 unfold ldOw at h
 split at h
 ·rename_i cells hoo
  obtain⟨_,hlt,hat,_⟩:=hs.owns id _ hoo
  simp only[Ow.at_]at hat
  obtain⟨b',cur,ty,e,hh,hk,hsz,hc⟩:=hat
  rw[e]at hb
  cases hb
  split at h
  ·rename_i hagg
   obtain⟨l,hl,hll,h⟩:=h
   split at h
   ·rename_i vs hvs
    have hlen:(List.take ti.sz (List.drop off cells)).length=ti.sz:=by rw[hl,hll]
    rw[List.length_take,List.length_drop]at hlen
    have hul:(List.take ti.sz (List.drop off cur.toList)).length=ti.sz:=by
     rw[List.length_take,List.length_drop,Array.length_toList];omega
    refine⟨_, .agg (List.take ti.sz (List.drop off cur.toList)).toArray,h,trivial,?_,zhx hti ht hagg hul λj u hu=>?_⟩
    ·simp only[TF.at_,RV.at_]
     refine⟨_,rfl,zzk hs hvs (by rw[List.toList_toArray,hul,hll]) λj f u hf hu=>?_⟩
     rw[<-hl,List.getElem?_take]at hf
     rw[List.toList_toArray,List.getElem?_take]at hu
     split at hf
     ·rename_i hj
      rw[if_pos hj,List.getElem?_drop]at hu
      rw[List.getElem?_drop]at hf
      exact hc _ f u hf (by simpa using hu)
     ·cases hf
    ·rw[List.getElem?_take]at hu
     split at hu
     ·rw[List.getElem?_drop]at hu
      rw[cell_of_row w b (off+j) cur ty (0,0) hh]
      simpa using hu
     ·cases hu
   ·exact h.elim
  ·rename_i hagg
   rw[zba]at h
   split at h
   ·rename_i f hf
    have hlt':off<cur.size:=by rw[hsz];exact(List.getElem?_eq_some_iff.1 hf).1
    have hu:cur[off]?=some cur[off]:=Array.getElem?_eq_getElem hlt'
    exact⟨f,cur[off],h,hlt f (List.mem_of_getElem? hf),(hc off f _ hf hu).2,zhy hti ht hagg (by rw[cell_of_row w b off cur ty (0,0) hh];exact hu)⟩
   ·exact h.elim
 ·rename_i e sz n cells pub hoo
  obtain⟨_,hlt,hat,_⟩:=hs.owns id _ hoo
  simp only[Ow.at_]at hat
  obtain⟨hcl,hat⟩:=hat
  rcases hat with⟨hno,_⟩ |⟨b',cap,cur,e1,e2,hh,h1,h2,h3,h4,h5⟩
  ·rw[hno]at hb;cases hb
  rw[e1]at hb
  cases hb
  rw[RV.listAt_iff]at h5
  obtain⟨q1,q2⟩:=h5
  have hcell: ∀j u,(cur.toList.take (n*sz))[j]?=some u->w.cell? ⟨b,j,none⟩=some u:=λj u hu=>by
   rw[List.getElem?_take]at hu
   split at hu
   ·rw[cell_of_row w b j cur e (0,0) hh];simpa using hu
   ·cases hu
  split at h
  ·rename_i hagg
   obtain⟨l,hl,hll,h⟩:=h
   have hlen:(List.take ti.sz (List.drop off cells)).length=ti.sz:=by rw[hl,hll]
   rw[List.length_take,List.length_drop]at hlen
   have hul:(List.take ti.sz (List.drop off (cur.toList.take (n*sz)))).length=ti.sz:=by
    rw[List.length_take,List.length_drop,q1];omega
   refine⟨_, .agg (List.take ti.sz (List.drop off (cur.toList.take (n*sz)))).toArray,h,trivial,?_,zhx hti ht hagg hul λj u hu=>?_⟩
   ·simp only[TF.at_,RV.at_]
    refine⟨_,rfl,?_⟩
    rw[RV.listAt_iff]
    refine⟨by rw[List.toList_toArray,hul,hll],λj f u hf hu=>?_⟩
    rw[<-hl,List.getElem?_take]at hf
    rw[List.toList_toArray,List.getElem?_take]at hu
    split at hf
    ·rename_i hj
     rw[if_pos hj,List.getElem?_drop]at hu
     rw[List.getElem?_drop]at hf
     exact q2 _ f u hf hu
    ·cases hf
   ·rw[List.getElem?_take]at hu
    split at hu
    ·rw[List.getElem?_drop]at hu
     exact hcell _ _ hu
    ·cases hu
  ·rename_i hagg
   obtain⟨f,hf,h⟩:=h
   have hlt':off< (cur.toList.take (n*sz)).length:=by rw[q1];exact(List.getElem?_eq_some_iff.1 hf).1
   have hu:=List.getElem?_eq_getElem hlt'
   exact⟨.r f,_,h,trivial,(q2 off f _ hf hu).2,zhy hti ht hagg (hcell _ _ hu)⟩
 ·exact h.elim
 ·exact h.elim
theorem zvi(hs:SatE B N S a w k g){t:TypeId}{ti:TI}{f:TF}{u:Value}{K:TF->Prop}(hti:TIOk P ti)(ht:ti.id=t)(hu:f.at_ w k g u)
  (h:ldv S ti f K): ∃f v,K f/\f.lt S.nx/\f.at_ w k g v/\(Instr.loadAt t u).run P w= .ok v w:=by
 unfold ldv at h
 split at h
 ·rename_i id
  simp only[TF.at_]at hu
  subst hu
  split at h
  ·rename_i cells hoo
   have hat:=(hs.owns id _ hoo).2.2.1
   simp only[Ow.at_]at hat
   obtain⟨b,cur,ty,e,_⟩:=hat
   rw[<-hoo]at h
   have:=zsh hs hti ht (b:=b) (by rw[e]) h
   rw[e]
   exact this
  ·exact h.elim
 ·rename_i id off
  simp only[TF.at_]at hu
  obtain⟨b,hb,rfl⟩:=hu
  exact zsh hs hti ht hb h
 ·rename_i cells
  simp only[TF.at_,RV.at_]at hu
  obtain⟨b,o,rfl,hb,hc⟩:=hu
  split at h
  ·rename_i hagg
   obtain⟨l,hl,hll,h⟩:=h
   have h1:=RV.cellsAt_take hc ti.sz
   rw[List.drop_zero]at hl
   rw[hl]at h1
   obtain⟨us,h2,h3,h4⟩:=RV.cells_list l o h1
   exact⟨_,_,h,trivial,by simp only[TF.at_,RV.at_];exact⟨us.toArray,rfl,by simpa using h2⟩,zhx hti ht hagg (by rw[h3,hll]) h4⟩
  ·rename_i hagg
   obtain⟨f,hf,h⟩:=h
   rw[RV.cellsAt_iff]at hc
   obtain⟨_,u,hu,_,h1⟩:=hc 0 f hf
   exact⟨.r f,u,h,trivial,h1,zhy hti ht hagg (by simpa using hu)⟩
 ·exact h.elim
theorem zib{t:TypeId}{ti:TI}{fs:List (Nat×TypeId)}{i off sz b o:Nat}(hT:TOk P T)(hti:TIOk P ti)(ht:ti.id=t)(hk:ti.k= .struct fs)(hp:zfr T fs i=some (off,sz))(hsz:sz≠0):
  (Instr.fieldAt t (.pointer (some ⟨b,o,none⟩)) i).run P w= .ok (.pointer (some ⟨b,o+off,none⟩)) w:=by
 obtain⟨d,hd,hko,_⟩:=hti.desc
 rw[ht]at hd
 rw[hk]at hko
 obtain⟨fields,rfl,hf⟩:=hko
 unfold zfr at hp
 rw[zba]at hp
 split at hp
 ·rename_i off' t' hl
  split at hp
  ·rename_i ti' ht'
   simp only[Option.some.injEq,Prod.mk.injEq]at hp
   obtain⟨rfl,rfl⟩:=hp
   obtain⟨q,hq⟩:=hT.get ht'
   obtain⟨i',hi,hs',_⟩:=q.info
   rw[<-hf,List.getElem?_map]at hl
   cases hfi:fields.toList[i]? with
   |none=>simp[hfi]at hl
   |some fd=>
    simp only[hfi,Option.map_some,Option.some.injEq,Prod.mk.injEq]at hl
    have hfa:fields[i]?=some fd:=by simpa using hfi
    have hso:(sizeOf fd.type).run P w= .ok ti'.sz w:=by
     rw[hl.2,<-hq]
     simp[sizeOf,typeInfo,hi,hs']
    simp only[Instr.fieldAt,Sem.run_bind,run_underlying hd w,Result.andThen_ok,hfa,Instr.sureAddr,Sem.run_pure,fieldPlace,hso,if_neg hsz,Addr.add_mid,hl.1]
  ·cases hp
 ·cases hp
theorem zbm{t:TypeId}{ti:TI}(hti:TIOk P ti)(ht:ti.id=t):(sizeOf t).run P w= .ok ti.sz w:=by
 obtain⟨i,hi,hsz,_⟩:=hti.info
 rw[ht]at hi
 simp[sizeOf,typeInfo,hi,hsz]
theorem ze0{t e:TypeId}{n c b o sz:Nat}{kd:IntKind}{i:Int}(hu:P.underlying t=some (.slice e))(hz:(sizeOf e).run P w= .ok sz w)(h0:0<=i)(h1:i<n):
  (Instr.indexAt t (.slice (some ⟨b,o,none⟩) n c) (.int kd i)).run P w= .ok (.pointer (some ⟨b,o+i.toNat*sz,none⟩)) w:=by
 simp[Instr.indexAt,asIntOf,run_underlying hu w,h0,h1,hz,Addr.add_mid]
theorem zgb{t e:TypeId}{n b o sz:Nat}{kd:IntKind}{i:Int}(hu:P.underlying t=some (.array n e))(hz:(sizeOf e).run P w= .ok sz w)(h0:0<=i)(h1:i<n):
  (Instr.indexAt t (.pointer (some ⟨b,o,none⟩)) (.int kd i)).run P w= .ok (.pointer (some ⟨b,o+i.toNat*sz,none⟩)) w:=by
 simp[Instr.indexAt,Instr.sureAddr,asIntOf,run_underlying hu w,h0,h1,hz,Addr.add_mid]
theorem z4d(hT:TOk P T)(hs:SatE B N S a w k g){t:TypeId}{f:TF}{u:Value}{kd:IntKind}{i:Int}{K:TF->Prop}(hu:f.at_ w k g u)(hlt:f.lt S.nx)
  (h:idxv S T t f i K): ∃f' v,K f'/\f'.lt S.nx/\f'.at_ w k g v/\(Instr.indexAt t u (.int kd i)).run P w= .ok v w:=by
 unfold idxv at h
 split at h
 ·rename_i ti hti
  obtain⟨q,hq⟩:=hT.get hti
  obtain⟨d,hd,hko,_⟩:=q.desc
  rw[hq]at hd
  split at h
  ·rename_i e hk
   rw[hk]at hko
   simp only[KOk]at hko
   subst hko
   split at h
   ·rename_i te hte
    obtain⟨qe,hqe⟩:=hT.get hte
    have hsz:=zbm (w:=w) qe hqe
    split at h
    ·rename_i sz n cells
     obtain⟨h0,h1,cs,hcs,h⟩:=h
     simp only[TF.at_,RV.at_]at hu
     obtain⟨p,c,rfl,_,_,hl,hc⟩:=hu
     obtain⟨b,o,rfl,hb,hc⟩:=hc (by omega)
     exact⟨_,_,h,trivial,by simp only[TF.at_,RV.at_];exact⟨b,o+i.toNat*te.sz,rfl,hb,hcs▸RV.cellsAt_take (RV.cellsAt_drop hc _) _⟩,ze0 hd hsz h0 h1⟩
    ·rename_i id
     split at h
     ·rename_i e' sz n cells pub hoo
      obtain⟨hid,_,hat,_⟩:=hs.owns id _ hoo
      simp only[Ow.at_]at hat
      simp only[TF.at_]at hu
      split at h
      ·obtain⟨h0,h1,cs,hcs,h⟩:=h
       have hsl:=chAt.sl hat
       simp only[RV.at_]at hsl
       obtain⟨p,c,hp,_,_,hl,hc⟩:=hsl
       obtain⟨b,o,rfl,hb,hc⟩:=hc (by omega)
       rw[hu,hp]
       exact⟨_,_,h,trivial,by simp only[TF.at_,RV.at_];exact⟨b,o+i.toNat*te.sz,rfl,hb,hcs▸RV.cellsAt_take (RV.cellsAt_drop hc _) _⟩,ze0 hd hsz h0 h1⟩
      ·obtain⟨h0,h1,h⟩:=h
       obtain⟨_,hat⟩:=hat
       rcases hat with⟨_,⟨h2,_⟩ |⟨_,h2,_⟩⟩ |⟨b,cap,cur,e1,e2,_⟩
       ·omega
       ·cases h2
       ·rw[hu,e2]
        refine⟨_,_,h,hid,?_,ze0 hd hsz h0 h1⟩
        simp only[TF.at_]
        exact⟨b,e1,by simp⟩
     ·exact h.elim
    ·rename_i id off n
     obtain⟨h0,h1,h⟩:=h
     simp only[TF.at_]at hu
     obtain⟨b,c,hb,rfl,hnc⟩:=hu
     refine⟨_,_,h,hlt,?_,ze0 hd hsz h0 h1⟩
     simp only[TF.at_]
     exact⟨b,hb,rfl⟩
    ·exact h.elim
   ·exact h.elim
  ·rename_i n e hk
   rw[hk]at hko
   simp only[KOk]at hko
   subst hko
   split at h
   ·rename_i te hte
    obtain⟨qe,hqe⟩:=hT.get hte
    have hsz:=zbm (w:=w) qe hqe
    split at h
    ·rename_i id
     split at h
     ·rename_i cells hoo
      obtain⟨h0,h1,h⟩:=h
      obtain⟨hid,_,hat,_⟩:=hs.owns id _ hoo
      simp only[Ow.at_]at hat
      simp only[TF.at_]at hu
      obtain⟨b,cur,ty,e1,_⟩:=hat
      rw[hu,e1]
      refine⟨_,_,h,hid,?_,zgb hd hsz h0 h1⟩
      simp only[TF.at_]
      exact⟨b,by rw[e1],by simp⟩
     ·exact h.elim
    ·rename_i id off
     obtain⟨h0,h1,h⟩:=h
     simp only[TF.at_]at hu
     obtain⟨b,hb,rfl⟩:=hu
     refine⟨_,_,h,?_,?_,zgb hd hsz h0 h1⟩
     ·exact hlt
     ·simp only[TF.at_];exact⟨b,hb,rfl⟩
    ·rename_i cells
     obtain⟨h0,h1,cs,hcs,h⟩:=h
     simp only[TF.at_,RV.at_]at hu
     obtain⟨b,o,rfl,hb,hc⟩:=hu
     exact⟨_,_,h,trivial,by simp only[TF.at_,RV.at_];exact⟨b,o+i.toNat*te.sz,rfl,hb,hcs▸RV.cellsAt_take (RV.cellsAt_drop hc _) _⟩,zgb hd hsz h0 h1⟩
    ·exact h.elim
   ·exact h.elim
  ·exact h.elim
 ·exact h.elim
end
end Go.Proofs.YtoegdgbghdnnfaaGreat.Sx
