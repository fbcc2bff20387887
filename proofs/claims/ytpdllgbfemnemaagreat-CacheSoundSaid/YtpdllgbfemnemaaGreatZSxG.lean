import Derived.Test.YtpdllgbfemnemaaGreatZSxP
import Derived.Laws.MakeOwn
import Derived.Laws.CopyRow
namespace Go.Proofs.YtpdllgbfemnemaaGreat.Sx
open Go.RowKit
section
section
variable {P:Program} {T:TT} {B:Bs} {N:Nat} {S:St} {a:Act} {w:World} {k:Kp} {g:Env} {o:Oper} {next:Act->World->Prop} {Q:Exit->Act->World->Prop}
theorem zbr{v:Value}{w':World}(hr:(execOp a.eval o).run P w= .ok (.value v) w')(h:next (a.put o.dst v) w'):o.wp P a w next Q:=by
 unfold Oper.wp;rw[hr];exact h
theorem zn9{w':World}(hr:(execOp a.eval o).run P w= .ok .skip w')(h:next (a.put o.dst undef) w'):o.wp P a w next Q:=by
 unfold Oper.wp;rw[hr];exact h
theorem z6d{op:BinOp}{kd:IntKind}{x y:Int}{K:RV->Prop}(h:binv op kd x y K):
  ∃v u,K v/\(∀w k,RV.at_ w k v u)/\∀(P:Program) (w:World) (t:TypeId) (p q:Operand),(do eqGuard op t p q (.int kd x) (.int kd y);binOp op t (.int kd x) (.int kd y):Sem Value).run P w= .ok u w:=by
 cases op<;>simp only[binv]at h
 case add=>obtain⟨m,rfl,hK⟩:=h;exact⟨_, .int kd (kd.wrap (x+y)),hK,λw k=>by simp[RV.at_],λP w t p q=>by simp[eqGuard,binOp,Op.intArith]⟩
 case sub=>obtain⟨m,rfl,hK⟩:=h;exact⟨_, .int kd (kd.wrap (x-y)),hK,λw k=>by simp[RV.at_],λP w t p q=>by simp[eqGuard,binOp,Op.intArith]⟩
 case mul=>obtain⟨m,rfl,hK⟩:=h;exact⟨_, .int kd (kd.wrap (x*y)),hK,λw k=>by simp[RV.at_],λP w t p q=>by simp[eqGuard,binOp,Op.intArith]⟩
 case quo=>obtain⟨h0,m,rfl,hK⟩:=h;exact⟨_, .int kd (kd.wrap (x.tdiv y)),hK,λw k=>by simp[RV.at_],λP w t p q=>by simp[eqGuard,binOp,Op.intDiv,h0]⟩
 case rem=>obtain⟨h0,m,rfl,hK⟩:=h;exact⟨_, .int kd (x.tmod y),hK,λw k=>by simp[RV.at_],λP w t p q=>by simp[eqGuard,binOp,Op.intDiv,h0]⟩
 case and=>obtain⟨m,rfl,hK⟩:=h;exact⟨_,_,hK,λw k=>by simp only[RV.at_];rfl,λP w t p q=>by simp[eqGuard,binOp,Op.intBits]⟩
 case or=>obtain⟨m,rfl,hK⟩:=h;exact⟨_,_,hK,λw k=>by simp only[RV.at_];rfl,λP w t p q=>by simp[eqGuard,binOp,Op.intBits]⟩
 case xor=>obtain⟨m,rfl,hK⟩:=h;exact⟨_,_,hK,λw k=>by simp only[RV.at_];rfl,λP w t p q=>by simp[eqGuard,binOp,Op.intBits]⟩
 case andNot=>obtain⟨m,rfl,hK⟩:=h;exact⟨_,_,hK,λw k=>by simp only[RV.at_];rfl,λP w t p q=>by simp[eqGuard,binOp,Op.intBits]⟩
 case eql=>obtain⟨m,rfl,hK⟩:=h;exact⟨_,_,hK,λw k=>by simp only[RV.at_];rfl,λP w t p q=>by simp[eqGuard,binOp,Op.intCmp]⟩
 case neq=>obtain⟨m,rfl,hK⟩:=h;exact⟨_,_,hK,λw k=>by simp only[RV.at_];rfl,λP w t p q=>by simp[eqGuard,binOp,Op.intCmp]⟩
 case lss=>obtain⟨m,rfl,hK⟩:=h;exact⟨_,_,hK,λw k=>by simp only[RV.at_];rfl,λP w t p q=>by simp[eqGuard,binOp,Op.intCmp]⟩
 case leq=>obtain⟨m,rfl,hK⟩:=h;exact⟨_,_,hK,λw k=>by simp only[RV.at_];rfl,λP w t p q=>by simp[eqGuard,binOp,Op.intCmp]⟩
 case gtr=>obtain⟨m,rfl,hK⟩:=h;exact⟨_,_,hK,λw k=>by simp only[RV.at_];rfl,λP w t p q=>by simp[eqGuard,binOp,Op.intCmp]⟩
 case geq=>obtain⟨m,rfl,hK⟩:=h;exact⟨_,_,hK,λw k=>by simp only[RV.at_];rfl,λP w t p q=>by simp[eqGuard,binOp,Op.intCmp]⟩
theorem chAt.one{e:TypeId}{sz n:Nat}{cells:List RV}{pub:Bool}{u:Value}{ob:Option Nat}(h:chAt w k e sz n cells pub u ob):u.oneCell'=true:=by
 rcases h.2 with⟨_,⟨_,a,rfl⟩ |⟨_,_,b,o,rfl,_⟩⟩ |⟨b,cap,cur,_,rfl,_⟩<;>rfl
theorem z20(hs:SatE B N S a w k g){id:Nat}{ow:Ow}(h:oget S.O id=some ow):(g id).1.oneCell'=true:=by
 have hat:=(hs.owns _ _ h).2.2.1
 cases ow with
 |box cells=>simp only[Ow.at_]at hat;obtain⟨b,cur,ty,e,_⟩:=hat;rw[e];rfl
 |ch e sz n cells pub=>simp only[Ow.at_]at hat;exact hat.one
 |gen p=>exact p.one hat
theorem zrt: ∀{fs:List RV} {us:List Value},RV.partsAt w k fs us->∀{i:Nat} {f:RV},fs[i]?=some f->∃u,us[i]?=some u/\f.at_ w k u
 |[],_,_,i,f,hf=>by simp at hf
 |f::fs,us,h,i,f',hf=>by
  simp only[RV.partsAt]at h
  obtain⟨u,r,rfl,h1,h2⟩:=h
  cases i with
  |zero=>simp at hf;subst hf;exact⟨u,by simp,h1⟩
  |succ i=>obtain⟨v,hv,h3⟩:=zrt h2 (i:=i) (f:=f') (by simpa using hf);exact⟨v,by simpa using hv,h3⟩
theorem zjc{b off:Nat}{u:Value}{t:TypeId}{ti:TI}(hti:TIOk P ti)(ht:ti.id=t)(hagg:ti.agg=false)(hc:w.cell? ⟨b,off,none⟩=some u):
  (Instr.loadAt t (.pointer (some ⟨b,off,none⟩))).run P w= .ok u w:=by
 obtain⟨d,hd,_,hr⟩:=hti.desc
 rw[ht]at hd
 rw[hagg]at hr
 have:(isAgg t).run P w= .ok false w:=by
  unfold isAgg
  rw[Sem.run_bind,run_underlying hd w]
  cases d<;>simp_all [TypeDesc.isRow]
 simp[Instr.loadAt,Instr.sureAddr,loadVar,this,hc]
theorem zgz{b off:Nat}{us:List Value}{t:TypeId}{ti:TI}(hti:TIOk P ti)(ht:ti.id=t)(hagg:ti.agg=true)(hl:us.length=ti.sz)(hc: ∀j u,us[j]?=some u->w.cell? ⟨b,off+j,none⟩=some u):
  (Instr.loadAt t (.pointer (some ⟨b,off,none⟩))).run P w= .ok (.agg us.toArray) w:=by
 obtain⟨d,hd,_,hr⟩:=hti.desc
 obtain⟨i,hi,hsz,_⟩:=hti.info
 rw[ht]at hd hi
 exact run_loadAt_mid w b off t us d hc hd (hr.trans hagg) (by simp[hi,hsz,hl])
theorem zb0{α:Type}: ∀(l:List α) (n:Nat),lget l n=l[n]?
 |[],n=>by simp[lget]
 |x::r,0=>rfl
 |x::r,n+1=>by simp only[lget];rw[zb0 r n];simp
theorem zts(hs:SatE B N S a w k g){id off b:Nat}{t:TypeId}{ti:TI}{K:TF->Prop}(hti:TIOk P ti)(ht:ti.id=t)(hb:(g id).2=some b)
  (h:ldOw S (oget S.O id) off ti K): ∃f v,K f/\f.lt S.nx/\f.at_ w k g v/\(Instr.loadAt t (.pointer (some ⟨b,off,none⟩))).run P w= .ok v w:=by
 unfold ldOw at h
 split at h
 ·rename_i cells hoo
  obtain⟨_,hlt,hat,_⟩:=hs.owns id _ hoo
  simp only[Ow.at_]at hat
  obtain⟨b',cur,ty,e,hh,hk,hsz,hc⟩:=hat
  rw[e]at hb
  cases hb
  split at h
  ·rename_i hagg
   obtain⟨l,hl,hll,h⟩:=h
   split at h
   ·rename_i vs hvs
    have hlen:(List.take ti.sz (List.drop off cells)).length=ti.sz:=by rw[hl,hll]
    rw[List.length_take,List.length_drop]at hlen
    have hul:(List.take ti.sz (List.drop off cur.toList)).length=ti.sz:=by
     rw[List.length_take,List.length_drop,Array.length_toList];omega
    refine⟨_, .agg (List.take ti.sz (List.drop off cur.toList)).toArray,h,trivial,?_,zgz hti ht hagg hul λj u hu=>?_⟩
    ·simp only[TF.at_,RV.at_]
     refine⟨_,rfl,z03 hs hvs (by rw[List.toList_toArray,hul,hll]) λj f u hf hu=>?_⟩
     rw[<-hl,List.getElem?_take]at hf
     rw[List.toList_toArray,List.getElem?_take]at hu
     split at hf
     ·rename_i hj
      rw[if_pos hj,List.getElem?_drop]at hu
      rw[List.getElem?_drop]at hf
      exact hc _ f u hf (by simpa using hu)
     ·cases hf
    ·rw[List.getElem?_take]at hu
     split at hu
     ·rw[List.getElem?_drop]at hu
      rw[cell_of_row w b (off+j) cur ty (0,0) hh]
      simpa using hu
     ·cases hu
   ·exact h.elim
  ·rename_i hagg
   rw[zb0]at h
   split at h
   ·rename_i f hf
    have hlt':off<cur.size:=by rw[hsz];exact(List.getElem?_eq_some_iff.1 hf).1
    have hu:cur[off]?=some cur[off]:=Array.getElem?_eq_getElem hlt'
    exact⟨f,cur[off],h,hlt f (List.mem_of_getElem? hf),(hc off f _ hf hu).2,zjc hti ht hagg (by rw[cell_of_row w b off cur ty (0,0) hh];exact hu)⟩
   ·exact h.elim
 ·rename_i e sz n cells pub hoo
  obtain⟨_,hlt,hat,_⟩:=hs.owns id _ hoo
  simp only[Ow.at_]at hat
  obtain⟨hcl,hat⟩:=hat
  rcases hat with⟨hno,_⟩ |⟨b',cap,cur,e1,e2,hh,h1,h2,h3,h4,h5⟩
  ·rw[hno]at hb;cases hb
  rw[e1]at hb
  cases hb
  rw[RV.listAt_iff]at h5
  obtain⟨q1,q2⟩:=h5
  have hcell: ∀j u,(cur.toList.take (n*sz))[j]?=some u->w.cell? ⟨b,j,none⟩=some u:=λj u hu=>by
   rw[List.getElem?_take]at hu
   split at hu
   ·rw[cell_of_row w b j cur e (0,0) hh];simpa using hu
   ·cases hu
  split at h
  ·rename_i hagg
   obtain⟨l,hl,hll,h⟩:=h
   have hlen:(List.take ti.sz (List.drop off cells)).length=ti.sz:=by rw[hl,hll]
   rw[List.length_take,List.length_drop]at hlen
   have hul:(List.take ti.sz (List.drop off (cur.toList.take (n*sz)))).length=ti.sz:=by
    rw[List.length_take,List.length_drop,q1];omega
   refine⟨_, .agg (List.take ti.sz (List.drop off (cur.toList.take (n*sz)))).toArray,h,trivial,?_,zgz hti ht hagg hul λj u hu=>?_⟩
   ·simp only[TF.at_,RV.at_]
    refine⟨_,rfl,?_⟩
    rw[RV.listAt_iff]
    refine⟨by rw[List.toList_toArray,hul,hll],λj f u hf hu=>?_⟩
    rw[<-hl,List.getElem?_take]at hf
    rw[List.toList_toArray,List.getElem?_take]at hu
    split at hf
    ·rename_i hj
     rw[if_pos hj,List.getElem?_drop]at hu
     rw[List.getElem?_drop]at hf
     exact q2 _ f u hf hu
    ·cases hf
   ·rw[List.getElem?_take]at hu
    split at hu
    ·rw[List.getElem?_drop]at hu
     exact hcell _ _ hu
    ·cases hu
  ·rename_i hagg
   obtain⟨f,hf,h⟩:=h
   have hlt':off< (cur.toList.take (n*sz)).length:=by rw[q1];exact(List.getElem?_eq_some_iff.1 hf).1
   have hu:=List.getElem?_eq_getElem hlt'
   exact⟨.r f,_,h,trivial,(q2 off f _ hf hu).2,zjc hti ht hagg (hcell _ _ hu)⟩
 ·exact h.elim
 ·exact h.elim
theorem zx4(hs:SatE B N S a w k g){t:TypeId}{ti:TI}{f:TF}{u:Value}{K:TF->Prop}(hti:TIOk P ti)(ht:ti.id=t)(hu:f.at_ w k g u)
  (h:ldv S ti f K): ∃f v,K f/\f.lt S.nx/\f.at_ w k g v/\(Instr.loadAt t u).run P w= .ok v w:=by
 unfold ldv at h
 split at h
 ·rename_i id
  simp only[TF.at_]at hu
  subst hu
  split at h
  ·rename_i cells hoo
   have hat:=(hs.owns id _ hoo).2.2.1
   simp only[Ow.at_]at hat
   obtain⟨b,cur,ty,e,_⟩:=hat
   rw[<-hoo]at h
   have:=zts hs hti ht (b:=b) (by rw[e]) h
   rw[e]
   exact this
  ·exact h.elim
 ·rename_i id off
  simp only[TF.at_]at hu
  obtain⟨b,hb,rfl⟩:=hu
  exact zts hs hti ht hb h
 ·rename_i cells
  simp only[TF.at_,RV.at_]at hu
  obtain⟨b,o,rfl,hb,hc⟩:=hu
  split at h
  ·rename_i hagg
   obtain⟨l,hl,hll,h⟩:=h
   have h1:=RV.cellsAt_take hc ti.sz
   rw[List.drop_zero]at hl
   rw[hl]at h1
   obtain⟨us,h2,h3,h4⟩:=RV.cells_list l o h1
   exact⟨_,_,h,trivial,by simp only[TF.at_,RV.at_];exact⟨us.toArray,rfl,by simpa using h2⟩,zgz hti ht hagg (by rw[h3,hll]) h4⟩
  ·rename_i hagg
   obtain⟨f,hf,h⟩:=h
   rw[RV.cellsAt_iff]at hc
   obtain⟨_,u,hu,_,h1⟩:=hc 0 f hf
   exact⟨.r f,u,h,trivial,h1,zjc hti ht hagg (by simpa using hu)⟩
 ·exact h.elim
theorem zm4{t:TypeId}{ti:TI}{fs:List (Nat×TypeId)}{i off sz b o:Nat}(hT:TOk P T)(hti:TIOk P ti)(ht:ti.id=t)(hk:ti.k= .struct fs)(hp:zeu T fs i=some (off,sz))(hsz:sz≠0):
  (Instr.fieldAt t (.pointer (some ⟨b,o,none⟩)) i).run P w= .ok (.pointer (some ⟨b,o+off,none⟩)) w:=by
 obtain⟨d,hd,hko,_⟩:=hti.desc
 rw[ht]at hd
 rw[hk]at hko
 obtain⟨fields,rfl,hf⟩:=hko
 unfold zeu at hp
 rw[zb0]at hp
 split at hp
 ·rename_i off' t' hl
  split at hp
  ·rename_i ti' ht'
   simp only[Option.some.injEq,Prod.mk.injEq]at hp
   obtain⟨rfl,rfl⟩:=hp
   obtain⟨q,hq⟩:=hT.get ht'
   obtain⟨i',hi,hs',_⟩:=q.info
   rw[<-hf,List.getElem?_map]at hl
   cases hfi:fields.toList[i]? with
   |none=>simp[hfi]at hl
   |some fd=>
    simp only[hfi,Option.map_some,Option.some.injEq,Prod.mk.injEq]at hl
    have hfa:fields[i]?=some fd:=by simpa using hfi
    have hso:(sizeOf fd.type).run P w= .ok ti'.sz w:=by
     rw[hl.2,<-hq]
     simp[sizeOf,typeInfo,hi,hs']
    simp only[Instr.fieldAt,Sem.run_bind,run_underlying hd w,Result.andThen_ok,hfa,Instr.sureAddr,Sem.run_pure,fieldPlace,hso,if_neg hsz,Addr.add_mid,hl.1]
  ·cases hp
 ·cases hp
theorem zel{t:TypeId}{ti:TI}(hti:TIOk P ti)(ht:ti.id=t):(sizeOf t).run P w= .ok ti.sz w:=by
 obtain⟨i,hi,hsz,_⟩:=hti.info
 rw[ht]at hi
 simp[sizeOf,typeInfo,hi,hsz]
theorem zg7{t e:TypeId}{n c b o sz:Nat}{kd:IntKind}{i:Int}(hu:P.underlying t=some (.slice e))(hz:(sizeOf e).run P w= .ok sz w)(h0:0<=i)(h1:i<n):
  (Instr.indexAt t (.slice (some ⟨b,o,none⟩) n c) (.int kd i)).run P w= .ok (.pointer (some ⟨b,o+i.toNat*sz,none⟩)) w:=by
 simp[Instr.indexAt,asIntOf,run_underlying hu w,h0,h1,hz,Addr.add_mid]
theorem zg8{t e:TypeId}{n b o sz:Nat}{kd:IntKind}{i:Int}(hu:P.underlying t=some (.array n e))(hz:(sizeOf e).run P w= .ok sz w)(h0:0<=i)(h1:i<n):
  (Instr.indexAt t (.pointer (some ⟨b,o,none⟩)) (.int kd i)).run P w= .ok (.pointer (some ⟨b,o+i.toNat*sz,none⟩)) w:=by
 simp[Instr.indexAt,Instr.sureAddr,asIntOf,run_underlying hu w,h0,h1,hz,Addr.add_mid]
theorem z51(hT:TOk P T)(hs:SatE B N S a w k g){t:TypeId}{f:TF}{u:Value}{kd:IntKind}{i:Int}{K:TF->Prop}(hu:f.at_ w k g u)(hlt:f.lt S.nx)
  (h:idxv S T t f i K): ∃f' v,K f'/\f'.lt S.nx/\f'.at_ w k g v/\(Instr.indexAt t u (.int kd i)).run P w= .ok v w:=by
 unfold idxv at h
 split at h
 ·rename_i ti hti
  obtain⟨q,hq⟩:=hT.get hti
  obtain⟨d,hd,hko,_⟩:=q.desc
  rw[hq]at hd
  split at h
  ·rename_i e hk
   rw[hk]at hko
   simp only[KOk]at hko
   subst hko
   split at h
   ·rename_i te hte
    obtain⟨qe,hqe⟩:=hT.get hte
    have hsz:=zel (w:=w) qe hqe
    split at h
    ·rename_i sz n cells
     obtain⟨h0,h1,cs,hcs,h⟩:=h
     simp only[TF.at_,RV.at_]at hu
     obtain⟨p,c,rfl,_,_,hl,hc⟩:=hu
     obtain⟨b,o,rfl,hb,hc⟩:=hc (by omega)
     exact⟨_,_,h,trivial,by simp only[TF.at_,RV.at_];exact⟨b,o+i.toNat*te.sz,rfl,hb,hcs▸RV.cellsAt_take (RV.cellsAt_drop hc _) _⟩,zg7 hd hsz h0 h1⟩
    ·rename_i id
     split at h
     ·rename_i e' sz n cells pub hoo
      obtain⟨hid,_,hat,_⟩:=hs.owns id _ hoo
      simp only[Ow.at_]at hat
      simp only[TF.at_]at hu
      split at h
      ·obtain⟨h0,h1,cs,hcs,h⟩:=h
       have hsl:=chAt.sl hat
       simp only[RV.at_]at hsl
       obtain⟨p,c,hp,_,_,hl,hc⟩:=hsl
       obtain⟨b,o,rfl,hb,hc⟩:=hc (by omega)
       rw[hu,hp]
       exact⟨_,_,h,trivial,by simp only[TF.at_,RV.at_];exact⟨b,o+i.toNat*te.sz,rfl,hb,hcs▸RV.cellsAt_take (RV.cellsAt_drop hc _) _⟩,zg7 hd hsz h0 h1⟩
      ·obtain⟨h0,h1,h⟩:=h
       obtain⟨_,hat⟩:=hat
       rcases hat with⟨_,⟨h2,_⟩ |⟨_,h2,_⟩⟩ |⟨b,cap,cur,e1,e2,_⟩
       ·omega
       ·cases h2
       ·rw[hu,e2]
        refine⟨_,_,h,hid,?_,zg7 hd hsz h0 h1⟩
        simp only[TF.at_]
        exact⟨b,e1,by simp⟩
     ·exact h.elim
    ·exact h.elim
   ·exact h.elim
  ·rename_i n e hk
   rw[hk]at hko
   simp only[KOk]at hko
   subst hko
   split at h
   ·rename_i te hte
    obtain⟨qe,hqe⟩:=hT.get hte
    have hsz:=zel (w:=w) qe hqe
    split at h
    ·rename_i id
     split at h
     ·rename_i cells hoo
      obtain⟨h0,h1,h⟩:=h
      obtain⟨hid,_,hat,_⟩:=hs.owns id _ hoo
      simp only[Ow.at_]at hat
      simp only[TF.at_]at hu
      obtain⟨b,cur,ty,e1,_⟩:=hat
      rw[hu,e1]
      refine⟨_,_,h,hid,?_,zg8 hd hsz h0 h1⟩
      simp only[TF.at_]
      exact⟨b,by rw[e1],by simp⟩
     ·exact h.elim
    ·rename_i id off
     obtain⟨h0,h1,h⟩:=h
     simp only[TF.at_]at hu
     obtain⟨b,hb,rfl⟩:=hu
     refine⟨_,_,h,?_,?_,zg8 hd hsz h0 h1⟩
     ·exact hlt
     ·simp only[TF.at_];exact⟨b,hb,rfl⟩
    ·rename_i cells
     obtain⟨h0,h1,cs,hcs,h⟩:=h
     simp only[TF.at_,RV.at_]at hu
     obtain⟨b,o,rfl,hb,hc⟩:=hu
     exact⟨_,_,h,trivial,by simp only[TF.at_,RV.at_];exact⟨b,o+i.toNat*te.sz,rfl,hb,hcs▸RV.cellsAt_take (RV.cellsAt_drop hc _) _⟩,zg8 hd hsz h0 h1⟩
    ·exact h.elim
   ·exact h.elim
  ·exact h.elim
 ·exact h.elim
end
end
section
section
variable {P:Program} {T:TT} {B:Bs} {N:Nat} {S:St} {a:Act} {w:World} {k:Kp} {g:Env} {o:Oper} {next:Act->World->Prop} {Q:Exit->Act->World->Prop}
theorem zqu(off:Nat): ∀(l:List Value) (i:Nat) (cs:Array Value),off+i+l.length<=cs.size->
  ((l.zipIdx i).foldl (λcs (c,j)=>cs.setIfInBounds (off+j) c) cs).toList=cs.toList.take (off+i)++l++cs.toList.drop (off+i+l.length)
 |[],i,cs,_=>by simp
 |v::r,i,cs,h=>by
  simp only[List.length_cons]at h
  simp only[List.zipIdx_cons,List.foldl_cons]
  rw[zqu off r (i+1) _ (by simp;omega)]
  have:=list_seg_step cs.toList (off+i) v r (by simp;omega)
  simpa[Array.toList_setIfInBounds,Nat.add_assoc]using this
theorem zcd{fs:List RV}{us:List Value}(h:RV.listAt w k fs us):us.length=fs.length:=((RV.listAt_iff fs us).1 h).1
theorem zcf{fs gs:List RV}{us vs:List Value}(h:RV.listAt w k fs us)(h':RV.listAt w k gs vs):RV.listAt w k (fs++gs) (us++vs):=by
 induction fs generalizing us with
 |nil=>simp only[RV.listAt]at h;subst h;simpa using h'
 |cons f fs ih=>
  simp only[RV.listAt]at h
  obtain⟨u,r,rfl,h1,h2,h3⟩:=h
  simp only[List.cons_append,RV.listAt]
  exact⟨u,r++vs,rfl,h1,h2,ih h3⟩
theorem zf3{fs:List RV}{us:List Value}(h:RV.listAt w k fs us)(n:Nat):RV.listAt w k (fs.take n) (us.take n):=by
 rw[RV.listAt_iff]at h⊢
 refine⟨by simp[h.1],λj f u hf hu=>?_⟩
 rw[List.getElem?_take]at hf hu
 split at hf
 ·rename_i hj
  rw[if_pos hj]at hu
  exact h.2 j f u hf hu
 ·cases hf
theorem zjl{fs:List RV}{us:List Value}(h:RV.listAt w k fs us)(n:Nat):RV.listAt w k (fs.drop n) (us.drop n):=by
 rw[RV.listAt_iff]at h⊢
 refine⟨by simp[h.1],λj f u hf hu=>?_⟩
 rw[List.getElem?_drop]at hf hu
 exact h.2 _ f u hf hu
theorem zko: ∀(vs:List Value),(∀v∈vs,v.oneCell'=true)->RV.listAt w k (vs.map ofC) vs
 |[],_=>by simp[RV.listAt]
 |v::r,h=>by
  simp only[List.map_cons,RV.listAt]
  exact⟨v,r,rfl,h v (by simp),z0q v,zko r λx hx=>h x (by simp[hx])⟩
theorem RV.one_at{v:RV}{u:Value}(hv:v.at_ w k u)(hok:zj8 v=true)(hag: ∀l,v≠ .ag l):u.oneCell'=true:=by
 cases v with
 |i kd n=>simp only[RV.at_]at hv;subst hv;rfl
 |b c=>simp only[RV.at_]at hv;subst hv;rfl
 |x v=>simp only[RV.at_]at hv;subst hv;exact hok
 |sl sz n cells=>simp only[RV.at_]at hv;obtain⟨a,c,rfl,_⟩:=hv;rfl
 |ptr cells=>simp only[RV.at_]at hv;obtain⟨b,o,rfl,_⟩:=hv;rfl
 |ag l=>exact absurd rfl (hag l)
 |tu l=>simp[zj8]at hok
 |s p=>simp only[RV.at_]at hv;exact p.one hv
 |any=>simp[zj8]at hok
theorem zh1{u:Value}(h:u.oneCell'=true):u.cells= #[u]:=by cases u<;>simp_all [Value.cells,Value.oneCell']
theorem zss{v:RV}{u:Value}(hv:v.at_ w k u)(hok:zj8 v=true):RV.listAt w k (cellsOf v) u.cells.toList:=by
 by_cases hag: ∃l,v= .ag l
 ·obtain⟨l,rfl⟩:=hag
  simp only[RV.at_]at hv
  obtain⟨us,rfl,hl⟩:=hv
  simpa[cellsOf,Value.cells]using hl
 ·have h1:=RV.one_at hv hok λl e=>hag ⟨l,e⟩
  rw[zh1 h1]
  have:cellsOf v=[v]:=by
   cases v with
   |ag l=>exact absurd ⟨l,rfl⟩ hag
   |_=>rfl
  rw[this]
  simp only[RV.listAt]
  exact⟨u,[],rfl,h1,hv,rfl⟩
theorem zmx(hs:SatE B N S a w k g){place:Nat->Option (Nat×Nat)}: ∀{parts:List (Nat×Operand)} {cells:List RV} {vs:Array Value} {K:List RV->Prop},
  RV.listAt w k cells vs.toList->zl4 S place cells parts K->∃cells' vs',K cells'/\cells'.length=cells.length/\RV.listAt w k cells' vs'.toList/\Instr.fill place vs (parts.map λ(i,x)=>(i,a.eval x))=some vs'
 |[],cells,vs,K,hl,h=>⟨cells,vs,h,rfl,hl,rfl⟩
 |(i,x)::r,cells,vs,K,hl,h=>by
  simp only[zl4]at h
  split at h
  ·rename_i off sz f hp hf
   split at h
   ·rename_i v hv
    split at h
    ·rename_i hok
     simp only[Bool.and_eq_true,Nat.beq_eq,Nat.ble_eq]at hok
     obtain⟨hok,hsz,hfit⟩:=hok
     have hat:=zhl hs hv (zak hs hf).2
     have hc:=zss hat hok
     have hcl:=zcd hc
     rw[Array.length_toList]at hcl
     have hvl:=zcd hl
     rw[Array.length_toList]at hvl
     have hnew:RV.listAt w k (zb8 cells off (cellsOf v)) ((((a.eval x).cells.zipIdx).foldl (λcs (c,j)=>cs.setIfInBounds (off+j) c) vs).toList):=by
      have:=zqu off (a.eval x).cells.toList 0 vs (by rw[Array.length_toList];omega)
      rw[<-Array.foldl_toList,Array.toList_zipIdx,this]
      unfold zb8
      rw[Nat.add_zero,show(a.eval x).cells.toList.length=(cellsOf v).length by rw[Array.length_toList];exact hcl]
      exact zcf (zcf (zf3 hl off) hc) (zjl hl _)
     obtain⟨cells',vs',hK,h0,h1,h2⟩:=zmx hs hnew h
     refine⟨cells',vs',hK,h0.trans (by simp[zb8];omega),h1,?_⟩
     simp only[List.map_cons,Instr.fill,hp]
     rw[if_neg (by simp only[ne_eq,Bool.or_eq_true,decide_eq_true_eq,not_or,Decidable.not_not,Nat.not_lt];omega)]
     exact h2
    ·exact h.elim
   ·exact h.elim
  ·exact h.elim
theorem z1i(w:World)(c:Array Value)(t:TypeId):(w.alloc (.cells c t)).heap[w.heap.size]?=some (.cells c t (0,0)):=heap_alloc_new w _
theorem za3(w:World)(o:Obj):Ext w (w.alloc o):=(Below.refl _ _).alloc (Nat.le_refl _) o
def kset(k:Kp)(b n:Nat):Kp:=λi=>if i=b then n else k i
theorem zdw{b n:Nat}: ∀i,i<b->kset k b n i=k i:=λi hi=>by simp[kset,Nat.ne_of_lt hi]
theorem zc1{b n:Nat}:kset k b n b=n:=by simp[kset]
theorem zzo(w:World)(k:Kp)(o:Obj)(n:Nat):Le w k (w.alloc o) (kset k w.heap.size n):=Ext.le (za3 w o) (λb hb=>zdw b hb)
theorem zn2(w:World)(o:Obj):(w.alloc o).heap.size=w.heap.size+1:=by simp
def Loc(S:St)(w:World)(k:Kp)(g:Env)(w':World)(k':Kp)(f:TF)(ow:Option Ow)(v:Value):Prop:=
 Ext w w'/\(∀b,b<w.heap.size->k' b=k b)/\
 (match ow with
  |none=>f.lt S.nx/\f.at_ w' k' g v
  |some o=>∃ob,f= .own S.nx/\o.lt S.nx/\o.at_ w' k' g (v,ob)/\∀b,ob=some b->w.heap.size<=b/\b<w'.heap.size)
theorem zjh(_hs:SatE B N S a w k g){cells:List TF}{cs:Array Value}{t:TypeId}(hlt: ∀f∈cells,f.lt S.nx)(hsz:cs.size=cells.length)
  (hc: ∀(j:Nat) (f:TF) (u:Value),cells[j]?=some f->cs[j]?=some u->u.oneCell'=true/\f.at_ w k g u):
  ∃k',Loc S w k g (w.alloc (.cells cs t)) k' (.own S.nx) (some (.box cells)) (.pointer (some ⟨w.heap.size,0,none⟩)):=by
 have hle:=zzo w k (.cells cs t) 0
 refine⟨kset k w.heap.size 0,za3 w _,λb hb=>zdw b hb,some w.heap.size,rfl,hlt,?_,?_⟩
 ·simp only[Ow.at_]
  exact⟨w.heap.size,cs,t,rfl,z1i w cs t,zc1,hsz,λj f u hf hu=>⟨(hc j f u hf hu).1,TF.mono hle (hc j f u hf hu).2⟩⟩
 ·intro b hb
  cases hb
  exact⟨Nat.le_refl _,by simp⟩
theorem z4m(_hs:SatE B N S a w k g){e:TypeId}{sz n:Nat}{cells:List RV}{cs:Array Value}(pub:Bool)(hsz:cells.length=n*sz)(hn:n<=maxLen)
  (hc:RV.listAt w k cells cs.toList):
  ∃k',Loc S w k g (w.alloc (.cells cs e)) k' (.own S.nx) (some (.ch e sz n cells pub)) (.slice (some ⟨w.heap.size,0,none⟩) n n):=by
 have hle:=zzo w k (.cells cs e) (if pub then n*sz else 0)
 have hcs:cs.size=n*sz:=by rw[<-hsz,<-zcd hc,Array.length_toList]
 refine⟨kset k w.heap.size (if pub then n*sz else 0),za3 w _,λb hb=>zdw b hb,some w.heap.size,rfl,trivial,?_,?_⟩
 ·simp only[Ow.at_]
  refine⟨hsz, .inr ⟨w.heap.size,n,cs,rfl,rfl,z1i w cs e,Nat.le_refl _,hn,hcs,zc1,?_⟩⟩
  rw[List.take_of_length_le (by rw[Array.length_toList];omega)]
  exact RV.list_mono hle _ _ hc
 ·intro b hb
  cases hb
  exact⟨Nat.le_refl _,by simp⟩
theorem Loc.sat(hs:SatE B N S a w k g){dst:Option Nat}(hd: ∀d,dst=some d->d<N){w':World}{k':Kp}{f:TF}{ow:Option Ow}{v:Value}(h:Loc S w k g w' k' f ow v):Sat B N (S.new dst f ow) (a.put dst v) w' k':=by
 obtain⟨h1,h2,h3⟩:=h
 cases ow with
 |none=>exact⟨g,(hs.ext h1 h2).put hd h3.1 h3.2⟩
 |some o=>
  obtain⟨ob,_,h4,h5,h6⟩:=h3
  exact⟨_,hs.make hd h1 h2 (vb:=(v,ob)) h4 h5 h6⟩
theorem zta{ti:TI}(hti:TIOk P ti){z:Value}(hz:z.cells.toList=ti.zero):RV.listAt w k (ti.zero.map ofC) z.cells.toList:=by
 rw[hz];exact zko _ hti.one
theorem zji{kd:IntKind}{x:Int}{y:Nat}{code:BoundsCode}(h0:0<=x)(h1:x<=y):(Instr.sliceBound (.int kd x) y code).run P w= .ok x.toNat w:=by
 simp[Instr.sliceBound,asIntOf,h0,h1]
theorem zsn{t e:TypeId}{p:Option Addr}{n c sz:Nat}{lo hi:Int}{vl vh:Option Value}(hu:P.underlying t=some (.slice e))(hz:(sizeOf e).run P w= .ok sz w)
  (hnc:n<=c) (h0:0<=lo) (h1:lo<=hi) (h2:hi<=n)
  (hvl:(vl=none/\lo=0)\/∃kd,vl=some (.int kd lo)) (hvh:(vh=none/\hi=n)\/∃kd,vh=some (.int kd hi)):
  ∃q,(Instr.sliceAt t (.slice p n c) vl vh none).run P w= .ok (.slice q (hi.toNat-lo.toNat) (c-lo.toNat)) w/\(lo<hi->∀b o,p=some ⟨b,o,none⟩->q=some ⟨b,o+lo.toNat*sz,none⟩):=by
 refine⟨if c=lo.toNat then p else p.map (·.add (lo.toNat*sz)),?_,λhlt b o hpp=>?_⟩
 ·obtain⟨hn,rfl⟩:=Int.eq_ofNat_of_zero_le (show 0<=hi by omega)
  obtain⟨ln,rfl⟩:=Int.eq_ofNat_of_zero_le h0
  have e1: ∀kd,(Instr.sliceBound (.int kd (hn:Int)) c .sliceAcap).run P w= .ok hn w:=λkd=>by rw[zji (by omega) (by omega)];simp
  have e0: ∀kd,(Instr.sliceBound (.int kd (ln:Int)) hn .sliceB).run P w= .ok ln w:=λkd=>by rw[zji (by omega) (by omega)];simp
  simp only[Int.toNat_natCast]
  rcases hvl with⟨rfl,hl0⟩ |⟨kd,rfl⟩<;>rcases hvh with⟨rfl,hh0⟩ |⟨kd',rfl⟩
  ·obtain rfl:ln=0:=by omega
   obtain rfl:hn=n:=by omega
   simp[Instr.sliceAt,Instr.slice,Instr.sliceBounds,run_underlying hu w,hz]
  ·obtain rfl:ln=0:=by omega
   simp[Instr.sliceAt,Instr.slice,Instr.sliceBounds,run_underlying hu w,hz,e1]
  ·obtain rfl:hn=n:=by omega
   simp[Instr.sliceAt,Instr.slice,Instr.sliceBounds,run_underlying hu w,hz,e0]
  ·simp[Instr.sliceAt,Instr.slice,Instr.sliceBounds,run_underlying hu w,hz,e0,e1]
 ·rw[if_neg (by omega),hpp]
  simp[Addr.add_mid]
theorem zgp{f:FuncId}{fn:Func}{c:Code}(hf:P.funcs[f]?=some fn)(hb:fn.body=some c)(hn:fn.name≠ "runtime.NumGoroutine")(args:Array Value):(callFunc f args).run P w= .ok (.enter f args) w:=by
 simp[callFunc,hf,hb,hn]
theorem z0c{α β:Type}(f:α->Sem β)(h:α->β)(w:World): ∀(l:List α),(∀x∈l,(f x).run P w= .ok (h x) w)->(l.mapM f).run P w= .ok (l.map h) w
 |[],_=>by simp
 |x::r,hx=>by
  rw[List.mapM_cons]
  simp[hx x (by simp),z0c f h w r λy hy=>hx y (by simp[hy])]
theorem zzq{α β:Type}(f:α->Sem β)(h:α->β)(w:World)(l:Array α)(hx: ∀x∈l.toList,(f x).run P w= .ok (h x) w):(l.mapM f).run P w= .ok (l.map h) w:=by
 rw[Array.mapM_eq_mapM_toList]
 simp only[Sem.run_map,z0c f h w l.toList hx,Result.andThen_ok]
 congr 1
 apply Array.ext'
 simp
theorem zt3{p q:Nat->Option (Nat×Nat)}: ∀(l:List (Nat×Value)) (cells:Array Value) (r:Array Value),(∀i v,p i=some v->q i=some v)->Instr.fill p cells l=some r->Instr.fill q cells l=some r
 |[],_,_,_,h=>h
 |(i,v)::l,cells,r,hpq,h=>by
  simp only[Instr.fill]at h⊢
  cases hp:p i with
  |none=>simp[hp]at h
  |some os=>
   obtain⟨off,sz⟩:=os
   rw[hpq i _ hp]
   simp only[hp]at h
   simp only
   split at h
   ·cases h
   ·rename_i hc
    rw[if_neg hc]
    exact zt3 l _ r hpq h
theorem zxt(hT:TOk P T){t:TypeId}{ti:TI}{fs:List (Nat×TypeId)}{parts:Array (Nat×Value)}{z:Value}{i:TypeInfo}{vs:Array Value}(q:TIOk P ti)(hq:ti.id=t)(hk:ti.k= .struct fs)
  (hi:P.info? t=some i) (hz:i.zero=some z) (hf:Instr.fill (zeu T fs) z.cells parts.toList=some vs):(Instr.build t parts).run P w= .ok (.agg vs) w:=by
 obtain⟨d,hdd,hko,_⟩:=q.desc
 rw[hq]at hdd
 rw[hk]at hko
 obtain⟨fields,rfl,hfs⟩:=hko
 let pl:Field->Nat×Nat:=λf=>(f.offset,((P.info? f.type).map (·.size)).getD 0)
 have hm:=zzq (P:=P) (λf:Field=>do pure (f.offset,<-sizeOf f.type)) pl w fields λx hx=>by
  obtain⟨j,hj⟩:=q.flds fs hk (x.offset,x.type) (by rw[<-hfs];exact List.mem_map.2 ⟨x,hx,rfl⟩)
  simp only at hj
  simp[sizeOf,typeInfo,hj,pl]
 have hfill:Instr.fill (λx=>(fields.map pl)[x]?) z.cells parts.toList=some vs:=by
  refine zt3 _ _ _ ?_ hf
  intro i' v' hv'
  unfold zeu at hv'
  rw[zb0]at hv'
  split at hv'
  ·rename_i off t' hl
   split at hv'
   ·rename_i ti' hti'
    cases hv'
    obtain⟨q',hq'⟩:=hT.get hti'
    obtain⟨j,hj,hsz,_⟩:=q'.info
    rw[<-hfs,List.getElem?_map]at hl
    cases hfi:fields.toList[i']? with
    |none=>simp[hfi]at hl
    |some fd=>
     simp only[hfi,Option.map_some,Option.some.injEq,Prod.mk.injEq]at hl
     have hfa:fields[i']?=some fd:=by simpa using hfi
     simp only[Array.getElem?_map,hfa,Option.map_some,pl]
     rw[hl.2,<-hq',hj,hl.1]
     simp[hsz]
   ·cases hv'
  ·cases hv'
 simp only[Instr.build,zeroValue,typeInfo,Sem.run_bind,run_program,Result.andThen_ok,hi,hz,Sem.run_pure,run_underlying hdd w,hm,hfill]
theorem z17{z:Array Value}{n sz:Nat}(hz:z.size=sz):(madeCells z (n*sz)).toList=(List.replicate n z.toList).flatten:=by
 induction n with
 |zero=>simp[madeCells]
 |succ n ih=>
  rw[List.replicate_succ',List.flatten_append,<-ih]
  simp only[madeCells,Array.toList_map,Array.toList_range,List.flatten_cons,List.flatten_nil,List.append_nil]
  rw[Nat.add_mul,Nat.one_mul,List.range_add,List.map_append,List.map_map]
  congr 1
  apply List.ext_getElem
  ·simp[hz]
  ·intro j h1 h2
   simp only[List.length_map,List.length_range]at h1
   have:(n*sz+j)%sz=j:=by rw[Nat.add_comm,Nat.add_mul_mod_self_right];exact Nat.mod_eq_of_lt h1
   simp[hz,this]
   rw[getElem!_pos z j (by omega)]
theorem z34{te:TI}(qe:TIOk P te){z:Value}(hzc:z.cells.toList=te.zero)(n:Nat):RV.listAt w k (List.replicate n (te.zero.map ofC)).flatten (madeCells z.cells (n*te.sz)).toList:=by
 have hsz:z.cells.size=te.sz:=by rw[<-Array.length_toList,hzc,qe.zsz]
 rw[z17 hsz,hzc]
 induction n with
 |zero=>simp[RV.listAt]
 |succ n ih=>
  rw[List.replicate_succ,List.replicate_succ,List.flatten_cons,List.flatten_cons]
  exact zcf (zko _ qe.one) ih
theorem zvs{t e:TypeId}{n:Nat}{parts:Array (Nat×Value)}{te:TI}{z:Value}{i:TypeInfo}{vs:Array Value}(hu:P.underlying t=some (.slice e))(hi:P.info? e=some i)(hsz:i.size=te.sz)(hz:i.zero=some z)
  (hbig:n*te.sz<=16777216) (hf:Instr.fill (λi=>some (i*te.sz,te.sz)) (madeCells z.cells (n*te.sz)) parts.toList=some vs):
  (Instr.buildSlice t n parts).run P w= .ok (.slice (some ⟨w.heap.size,0,none⟩) n n) (w.alloc (.cells vs e)):=by
 have hb: ¬n*te.sz>2^24:=by omega
 by_cases h0:n*te.sz=0
 ·have:(Array.range (n*te.sz)).map (#[][· %0]! :Nat->Value)=madeCells z.cells (n*te.sz):=by rw[h0];simp[madeCells]
  simp only[Instr.buildSlice,run_underlying hu w,Sem.run_bind,Result.andThen_ok,sizeOf,typeInfo,run_program,hi,Sem.run_pure,hsz,Sem.run_ite,if_neg hb,if_pos h0]
  simp only[List.size_toArray,List.length_nil]at this⊢
  rw[this,hf]
  simp[newRow]
 ·simp only[Instr.buildSlice,run_underlying hu w,Sem.run_bind,Result.andThen_ok,sizeOf,typeInfo,run_program,hi,Sem.run_pure,hsz,Sem.run_ite,if_neg hb,if_neg h0,zeroValue,hz]
  have:(Array.range (n*te.sz)).map (λx=>z.cells[x%z.cells.size]!)=madeCells z.cells (n*te.sz):=rfl
  rw[this,hf]
  simp[newRow]
theorem zud(_hs:SatE B N S a w k g){f:FuncId}{vs ps:List RV}{us:List Value}{res:Res}{K:TF->Option Ow->Prop}(hus:RV.partsAt w k vs us)(hc:Cvs vs ps)(hg:zaf P f ps res)
  (hr:(execOp a.eval o).run P w=(callFunc f us.toArray).run P w)
  (hK:resK S K res):
  o.wp P a w (λa' w'=>∃f ow v k',K f ow/\a'=a.put o.dst v/\Loc S w k g w' k' f ow v) Q:=by
 obtain⟨⟨fn,c,hf,hb,hn⟩,hg⟩:=hg
 unfold Oper.wp
 rw[hr,zgp hf hb hn]
 simp only[Oper.upon]
 refine(hg w k us (hc.at_ hus)).mono ?_
 rintro e w' ⟨v,rfl,hext,k',hk',hres⟩
 simp only
 cases res with
 |r rv=>exact⟨_,none,v,k',hK,rfl,hext,hk',trivial,hres⟩
 |ch e sz n cells=>
  obtain⟨ob,hch,hob⟩:=hres
  refine⟨_,_,v,k',hK,rfl,hext,hk',ob,rfl,trivial,hch,λb hb=>⟨hob b hb,?_⟩⟩
  rcases hch.2 with⟨h,_⟩ |⟨b',cap,cur,h,_,hh,_⟩
  ·rw[h]at hb;cases hb
  ·rw[h]at hb;cases hb
   exact(Array.getElem?_eq_some_iff.1 hh).1
 |own e sz n cells=>
  obtain⟨ob,hch,hob⟩:=hres
  refine⟨_,_,v,k',hK,rfl,hext,hk',ob,rfl,trivial,hch,λb hb=>⟨hob b hb,?_⟩⟩
  rcases hch.2 with⟨h,_⟩ |⟨b',cap,cur,h,_,hh,_⟩
  ·rw[h]at hb;cases hb
  ·rw[h]at hb;cases hb
   exact(Array.getElem?_eq_some_iff.1 hh).1
 |bx cells=>
  obtain⟨b,cur,t,rfl,hb0,hh,hkb,hsz,hc⟩:=hres
  refine⟨_,_,_,k',hK,rfl,hext,hk',some b,rfl,λf hf=>?_,⟨b,cur,t,rfl,hh,hkb,by simpa using hsz,λj f u hf hu=>?_⟩,λb' hb'=>?_⟩
  ·obtain⟨v,_,rfl⟩:=List.mem_map.1 hf
   trivial
  ·rw[List.getElem?_map]at hf
   cases hv:cells[j]? with
   |none=>rw[hv]at hf;cases hf
   |some v=>
    rw[hv]at hf
    simp only[Option.map_some,Option.some.injEq]at hf
    subst hf
    exact hc j v u hv hu
  ·cases hb'
   exact⟨hb0,(Array.getElem?_eq_some_iff.1 hh).1⟩
theorem zzu{m:Nat}{t e:TypeId}(ad:Addr)(hu:P.underlying t=some (.pointer e)):(Op.equalIn (m+1) t (.pointer (some ad)) (.pointer none)).run P w= .ok false w:=by simp[Op.equalIn,run_underlying hu w]
theorem zso{t e:TypeId}(ad:Addr)(hu:P.underlying t=some (.pointer e)):(Op.equal t (.pointer (some ad)) (.pointer none)).run P w= .ok false w:=zzu (m:=9999) ad hu
theorem z1v(hT:TOk P T)(hs:SatE B N S a w k g){K:TF->Option Ow->Prop}(hrd:zd4 o.op=true)(h:valv P T S o K):
  o.wp P a w (λa' w'=>∃f ow v k',K f ow/\a'=a.put o.dst v/\Loc S w k g w' k' f ow v) Q:=by
 have keep: ∀{f:TF} {v:Value},K f none->f.lt S.nx->f.at_ w k g v->(execOp a.eval o).run P w= .ok (.value v) w->o.wp P a w (λa' w'=>∃f ow v k',K f ow/\a'=a.put o.dst v/\Loc S w k g w' k' f ow v) Q:=
  λ{f v} hK hl hf hr=>zbr hr ⟨f,none,v,k,hK,rfl,Ext.refl w,λ_ _=>rfl,hl,hf⟩
 have fn: ∀{xs:List Operand},Vfun P S o xs (λr=>K (.r r) none)->o.wp P a w (λa' w'=>∃f ow v k',K f ow/\a'=a.put o.dst v/\Loc S w k g w' k' f ow v) Q:=λ{xs} ⟨rs,hrs,r,hf,hK⟩=>by
  obtain⟨v,hr,hat⟩:=hf a w k (zv6 hs hrs)
  exact keep hK trivial hat hr
 unfold valv at h
 cases hop:o.op<;>rw[hop]at h<;>simp only[zyw]at h
 case move x=>
  split at h
  ·rename_i f hf;exact keep h (zak hs hf).1 (zak hs hf).2 (by simp[execOp,hop])
  ·exact h.elim
 case assign x=>
  split at h
  ·rename_i f hf;exact keep h (zak hs hf).1 (zak hs hf).2 (by simp[execOp,hop])
  ·exact h.elim
 case pick c x y=>
  split at h
  ·rename_i β hc
   have hcv:=(zak hs hc).2
   simp only[TF.at_,RV.at_]at hcv
   split at h
   ·split at h
    ·rename_i f hf;exact keep h (zak hs hf).1 (zak hs hf).2 (by simp[execOp,hop,hcv,asBool])
    ·exact h.elim
   ·split at h
    ·rename_i f hf;exact keep h (zak hs hf).1 (zak hs hf).2 (by simp[execOp,hop,hcv,asBool])
    ·exact h.elim
  ·exact h.elim
 case nilCheck x=>
  split at h
  ·rename_i id hx
   split at h
   ·rename_i cells hoo
    have hat:=(hs.owns _ _ hoo).2.2.1
    have hx':=zak hs hx
    simp only[Ow.at_]at hat
    obtain⟨b,cur,ty,e,_⟩:=hat
    refine keep h hx'.1 hx'.2 ?_
    have:=hx'.2
    simp only[TF.at_]at this
    simp[execOp,hop,this,e]
   ·exact h.elim
  ·rename_i id off hx
   have hx':=zak hs hx
   refine keep h hx'.1 hx'.2 ?_
   have:=hx'.2
   simp only[TF.at_]at this
   obtain⟨b,_,e⟩:=this
   simp[execOp,hop,e]
  ·rename_i c hx
   have hx':=zak hs hx
   refine keep h hx'.1 hx'.2 ?_
   have:=hx'.2
   simp only[TF.at_,RV.at_]at this
   obtain⟨b,o,e,_⟩:=this
   simp[execOp,hop,e]
  ·exact h.elim
 case alloc t=>
  split at h
  ·rename_i ti hti
   obtain⟨q,hq⟩:=hT.get hti
   obtain⟨i,hi,_,_,z,hz,hzc⟩:=q.info
   rw[hq]at hi
   have hl:=zta (w:=w) (k:=k) q hzc
   rw[RV.listAt_iff]at hl
   obtain⟨k',hk'⟩:=zjh hs (cells:=ti.zero.map λv=> .r (ofC v)) (cs:=z.cells) (t:=t) (by simp[TF.lt]) (by rw[<-Array.length_toList,hzc];simp) (λj f u hf hu=>by
    rw[List.getElem?_map]at hf
    cases hv:ti.zero[j]? with
    |none=>simp[hv]at hf
    |some v=>
     simp only[hv,Option.map_some,Option.some.injEq]at hf
     subst hf
     exact hl.2 j (ofC v) u (by simp[hv]) (by simpa using hu))
   refine zbr (v:= .pointer (some ⟨w.heap.size,0,none⟩)) (w':=w.alloc (.cells z.cells t)) ?_ ⟨_,_,_,k',h,rfl,hk'⟩
   simp[execOp,hop,Instr.alloc,zeroValue,typeInfo,hi,hz,newVar,newRow]
  ·exact h.elim
 case box t x=>
  split at h
  ·rename_i l hx
   have hx':=(zak hs hx).2
   simp only[TF.at_,RV.at_]at hx'
   obtain⟨us,e,hl⟩:=hx'
   have hll:=zcd hl
   rw[Array.length_toList]at hll
   rw[RV.listAt_iff]at hl
   obtain⟨k',hk'⟩:=zjh hs (cells:=l.map .r) (cs:=us) (t:=t) (by simp[TF.lt]) (by simp[hll]) (λj f u hf hu=>by
    rw[List.getElem?_map]at hf
    cases hv:l[j]? with
    |none=>simp[hv]at hf
    |some v=>
     simp only[hv,Option.map_some,Option.some.injEq]at hf
     subst hf
     exact hl.2 j v u hv (by simpa using hu))
   refine zbr (v:= .pointer (some ⟨w.heap.size,0,none⟩)) (w':=w.alloc (.cells us t)) ?_ ⟨_,_,_,k',h,rfl,hk'⟩
   simp[execOp,hop,Instr.box,newVar,newRow,e,Value.cells]
  ·rename_i v hna hx
   split at h
   ·rename_i hok
    have hx':=(zak hs hx).2
    simp only[TF.at_]at hx'
    have h1:=RV.one_at hx' hok hna
    obtain⟨k',hk'⟩:=zjh hs (cells:=[.r v]) (cs:= #[a.eval x]) (t:=t) (by simp[TF.lt]) (by simp) (λj f u hf hu=>by
     cases j with
     |zero=>simp at hf hu;subst hf;subst hu;exact⟨h1,hx'⟩
     |succ j=>simp at hf)
    refine zbr (v:= .pointer (some ⟨w.heap.size,0,none⟩)) (w':=w.alloc (.cells #[a.eval x] t)) ?_ ⟨_,_,_,k',h,rfl,hk'⟩
    simp[execOp,hop,Instr.box,newVar,newRow,zh1 h1]
   ·exact h.elim
  ·rename_i id hx
   split at h
   ·rename_i ow hoo
    have hx':=zak hs hx
    have h1:(a.eval x).oneCell'=true:=by
     have:=hx'.2
     simp only[TF.at_]at this
     rw[this];exact z20 hs hoo
    obtain⟨k',hk'⟩:=zjh hs (cells:=[.own id]) (cs:= #[a.eval x]) (t:=t) (by simpa using hx'.1) (by simp) (λj f' u hf hu=>by
     cases j with
     |zero=>simp at hf hu;subst hf;subst hu;exact⟨h1,hx'.2⟩
     |succ j=>simp at hf)
    refine zbr (v:= .pointer (some ⟨w.heap.size,0,none⟩)) (w':=w.alloc (.cells #[a.eval x] t)) ?_ ⟨_,_,_,k',h,rfl,hk'⟩
    simp[execOp,hop,Instr.box,newVar,newRow,zh1 h1]
   ·exact h.elim
  ·rename_i id off hx
   have hx':=zak hs hx
   have h1:(a.eval x).oneCell'=true:=by
    have:=hx'.2
    simp only[TF.at_]at this
    obtain⟨b,_,e⟩:=this
    rw[e];rfl
   obtain⟨k',hk'⟩:=zjh hs (cells:=[.adr id off]) (cs:= #[a.eval x]) (t:=t) (by simpa using hx'.1) (by simp) (λj f' u hf hu=>by
    cases j with
    |zero=>simp at hf hu;subst hf;subst hu;exact⟨h1,hx'.2⟩
    |succ j=>simp at hf)
   refine zbr (v:= .pointer (some ⟨w.heap.size,0,none⟩)) (w':=w.alloc (.cells #[a.eval x] t)) ?_ ⟨_,_,_,k',h,rfl,hk'⟩
   simp[execOp,hop,Instr.box,newVar,newRow,zh1 h1]
  ·exact h.elim
  ·exact h.elim
 case load t x=>
  split at h
  ·rename_i ti f hti hx
   obtain⟨q,hq⟩:=hT.get hti
   obtain⟨f',v,hK,hl,hf,hr⟩:=zx4 hs q hq (zak hs hx).2 h
   exact keep hK hl hf (by simp[execOp,hop,hr])
  ·exact h.elim
 case fieldAddr t x i=>
  split at h
  ·rename_i ti f hti hx
   obtain⟨q,hq⟩:=hT.get hti
   have hx':=zak hs hx
   split at h
   ·rename_i fs hk
    split at h
    ·rename_i off sz hp
     split at h
     ·exact h.elim
     ·rename_i sz' hne
      split at h
      ·rename_i id
       split at h
       ·rename_i cells hoo
        have hat:=(hs.owns _ _ hoo).2.2.1
        simp only[Ow.at_]at hat
        obtain⟨b,cur,ty,e,_⟩:=hat
        have e2:=hx'.2
        simp only[TF.at_]at e2
        rw[e]at e2
        refine keep h hx'.1 (v:= .pointer (some ⟨b,0+off,none⟩)) (by simp only[TF.at_];exact⟨b,by rw[e],by simp⟩) ?_
        simp[execOp,hop,e2,zm4 hT q hq hk hp hne]
       ·exact h.elim
      ·rename_i id o'
       have e2:=hx'.2
       simp only[TF.at_]at e2
       obtain⟨b,hb,e⟩:=e2
       refine keep h hx'.1 (v:= .pointer (some ⟨b,o'+off,none⟩)) (by simp only[TF.at_];exact⟨b,hb,rfl⟩) ?_
       simp[execOp,hop,e,zm4 hT q hq hk hp hne]
      ·rename_i cells
       have e2:=hx'.2
       simp only[TF.at_,RV.at_]at e2
       obtain⟨b,o',e,hb,hc⟩:=e2
       refine keep h trivial (v:= .pointer (some ⟨b,o'+off,none⟩)) (by simp only[TF.at_,RV.at_];exact⟨b,_,rfl,hb,RV.cellsAt_drop hc _⟩) ?_
       simp[execOp,hop,e,zm4 hT q hq hk hp hne]
      ·exact h.elim
    ·exact h.elim
   ·exact h.elim
  ·exact h.elim
 case indexAddr t x i=>
  split at h
  ·rename_i f kd n hx hi
   have hx':=zak hs hx
   have hi':=(zak hs hi).2
   simp only[TF.at_,RV.at_]at hi'
   obtain⟨f',v,hK,hl,hf,hr⟩:=z51 (kd:=kd) hT hs hx'.2 hx'.1 h
   exact keep hK hl hf (by simp[execOp,hop,hi',hr])
  ·exact h.elim
 case binOp op t x y t2=>
  split at h
  ·rename_i kd m kd' n hx hy
   have hx':=(zak hs hx).2
   have hy':=(zak hs hy).2
   simp only[TF.at_,RV.at_]at hx' hy'
   split at h
   ·obtain⟨h0,r,rfl,h⟩:=h
    exact keep h trivial (by simp only[TF.at_,RV.at_];rfl) (by simp[execOp,hop,hx',hy',eqGuard,binOp,Op.shift,show¬n<0 by omega])
   ·obtain⟨h0,r,rfl,h⟩:=h
    exact keep h trivial (by simp only[TF.at_,RV.at_];rfl) (by simp[execOp,hop,hx',hy',eqGuard,binOp,Op.shift,show¬n<0 by omega])
   ·split at h
    ·rename_i hkk
     obtain rfl:=zd2b hkk
     obtain⟨v,u,hK,hat,hr⟩:=z6d h
     refine keep hK trivial (v:=u) (hat w k) ?_
     have:=hr P w t x y
     simp only[execOp,hop,hx',hy']
     rw[Sem.run_bind,this]
     rfl
    ·exact h.elim
  ·rename_i s1 s2 hx hy
   have hx':=(zak hs hx).2
   have hy':=(zak hs hy).2
   simp only[TF.at_,RV.at_]at hx' hy'
   split at h
   ·obtain⟨h0,h⟩:=h
    have hlt: ¬((s1.size+s2.size:Nat):Int)>IntKind.i64.max:=by
     have:IntKind.i64.max=9223372036854775807:=by decide
     omega
    refine keep h trivial (by simp only[TF.at_,RV.at_];rfl) ?_
    simp only[execOp,hop,hx',hy',eqGuard,binOp,Op.stringOp,if_neg hlt]
    simp
   ·obtain⟨r,rfl,h⟩:=h
    exact keep h trivial (by simp only[TF.at_,RV.at_];rfl) (by simp[execOp,hop,hx',hy',eqGuard,binOp,Op.stringOp])
   ·obtain⟨r,rfl,h⟩:=h
    exact keep h trivial (by simp only[TF.at_,RV.at_];rfl) (by simp[execOp,hop,hx',hy',eqGuard,binOp,Op.stringOp])
   ·exact h.elim
  ·rename_i b1 b2 hx hy
   have hx':=(zak hs hx).2
   have hy':=(zak hs hy).2
   simp only[TF.at_,RV.at_]at hx' hy'
   split at h
   ·rename_i ti hti
    obtain⟨q,hq⟩:=hT.get hti
    obtain⟨d,hdd,hko,_⟩:=q.desc
    rw[hq]at hdd
    split at h
    ·rename_i hk
     rw[hk]at hko
     simp only[KOk]at hko
     subst hko
     split at h
     ·obtain⟨r,rfl,h⟩:=h
      exact keep h trivial (by simp only[TF.at_,RV.at_];rfl) (by simp[execOp,hop,hx',hy',eqGuard,run_eql_bool w t b1 b2 hdd])
     ·obtain⟨r,rfl,h⟩:=h
      exact keep h trivial (by simp only[TF.at_,RV.at_];rfl) (by simp[execOp,hop,hx',hy',eqGuard,run_neq_bool w t b1 b2 hdd])
     ·exact h.elim
    ·exact h.elim
   ·exact h.elim
  ·rename_i id hx hy
   have hx':=(zak hs hx).2
   have hy':=(zak hs hy).2
   simp only[TF.at_,RV.at_]at hx' hy'
   split at h
   ·rename_i cells ho
    have hown:=(hs.owns id _ ho).2.2.1
    simp only[Ow.at_]at hown
    obtain⟨b,_,_,e,_⟩:=hown
    rw[e]at hx'
    simp only at hx'
    split at h
    ·obtain⟨⟨e',he⟩,h⟩:=h
     have eq:=zso (w:=w) ⟨b,0,none⟩ he
     exact keep h trivial (by simp only[TF.at_,RV.at_];rfl) (by simp[execOp,hop,hx',hy',eqGuard,binOp,eq])
    ·obtain⟨⟨e',he⟩,h⟩:=h
     have eq:=zso (w:=w) ⟨b,0,none⟩ he
     exact keep h trivial (by simp only[TF.at_,RV.at_];rfl) (by simp[execOp,hop,hx',hy',eqGuard,binOp,eq])
    ·exact h.elim
   ·exact h.elim
  ·exact fn h
 case unOp op t x=>
  split at h
  ·rename_i b1 hx
   have hx':=(zak hs hx).2
   simp only[TF.at_,RV.at_]at hx'
   split at h
   ·obtain⟨r,rfl,h⟩:=h
    exact keep h trivial (by simp only[TF.at_,RV.at_];rfl) (by simp[execOp,hop,hx',Op.unary])
   ·exact h.elim
  ·rename_i kd m hx
   have hx':=(zak hs hx).2
   simp only[TF.at_,RV.at_]at hx'
   split at h
   ·obtain⟨r,rfl,h⟩:=h
    exact keep h trivial (by simp only[TF.at_,RV.at_];rfl) (by simp[execOp,hop,hx',Op.unary,Op.intArith])
   ·obtain⟨r,rfl,h⟩:=h
    exact keep h trivial (by simp only[TF.at_,RV.at_];rfl) (by simp[execOp,hop,hx',Op.unary,Op.intBits])
   ·exact h.elim
  ·exact fn h
 case convert t1 t x=>
  split at h
  ·rename_i ti0 ti kd n hti0 hti hx
   obtain⟨q0,hq0⟩:=hT.get hti0
   obtain⟨d0,hd0,_,_⟩:=q0.desc
   rw[hq0]at hd0
   obtain⟨q,hq⟩:=hT.get hti
   obtain⟨d,hdd,hko,_⟩:=q.desc
   rw[hq]at hdd
   have hx':=(zak hs hx).2
   simp only[TF.at_,RV.at_]at hx'
   split at h
   ·rename_i kd' hk
    rw[hk]at hko
    simp only[KOk]at hko
    subst hko
    obtain⟨r,rfl,h⟩:=h
    refine keep h trivial (v:= .int kd' (kd'.wrap n)) (by simp only[TF.at_,RV.at_]) ?_
    simp only[execOp,hop,hx',convert,Sem.run_bind,run_underlying hd0 w,run_underlying hdd w,Result.andThen_ok]
    cases d0<;>simp[Conv.intToInt]
   ·exact fn h
  ·exact fn h
 case extract x i=>
  split at h
  ·rename_i l hx
   rw[zb0]at h
   split at h
   ·rename_i v hv
    have hx':=(zak hs hx).2
    simp only[TF.at_,RV.at_]at hx'
    obtain⟨us,e,hl⟩:=hx'
    obtain⟨u,hu,hat⟩:=zrt hl hv
    have hu':us[i]?=some u:=by simpa using hu
    exact keep h trivial hat (by simp[execOp,hop,e,Instr.extract,hu'])
   ·exact h.elim
  ·exact h.elim
 case build t parts=>
  split at h
  ·rename_i ti hti
   obtain⟨q,hq⟩:=hT.get hti
   obtain⟨d,hdd,hko,_⟩:=q.desc
   rw[hq]at hdd
   obtain⟨i,hi,_,_,z,hz,hzc⟩:=q.info
   rw[hq]at hi
   split at h
   ·rename_i fs hk
    rw[hk]at hko
    obtain⟨fields,rfl,hf⟩:=hko
    obtain⟨cells',vs',hK,_,hl,hfill⟩:=zmx hs (zta q hzc) h
    refine keep hK trivial (v:= .agg vs') (by simp only[TF.at_,RV.at_];exact⟨vs',rfl,hl⟩) ?_
    have:=zxt (w:=w) hT q hq hk hi hz (parts:=parts.map λ(i,x)=>(i,a.eval x)) (by rw[Array.toList_map];exact hfill)
    simp only[execOp,hop,Sem.run_bind,this]
    rfl
   ·exact h.elim
  ·exact h.elim
 case buildSlice t n parts=>
  split at h
  ·rename_i ti hti
   obtain⟨q,hq⟩:=hT.get hti
   obtain⟨d,hdd,hko,_⟩:=q.desc
   rw[hq]at hdd
   split at h
   ·rename_i e hk
    rw[hk]at hko
    simp only[KOk]at hko
    subst hko
    split at h
    ·rename_i te hte
     obtain⟨qe,hqe⟩:=hT.get hte
     obtain⟨i,hi,hsz,_,z,hz,hzc⟩:=qe.info
     rw[hqe]at hi
     split at h
     ·rename_i hbig
      simp only[Bool.and_eq_true,Nat.ble_eq]at hbig
      have hbig':n*te.sz<=16777216:=hbig.1
      obtain⟨cells',vs',⟨pub,hK⟩,hlen,hl,hfill⟩:=zmx hs (z34 qe hzc n) h
      have hr:=zvs (w:=w) hdd hi hsz hz hbig' (parts:=parts.map λ(i,x)=>(i,a.eval x)) (by rw[Array.toList_map];exact hfill)
      obtain⟨k',hk'⟩:=z4m (e:=e) (sz:=te.sz) (n:=n) (cells:=cells') (cs:=vs') hs pub (by rw[hlen];simp[qe.zsz]) (by have:=hbig.2;simp only[maxLen];omega) hl
      refine zbr ?_ ⟨_,_,_,k',hK,rfl,hk'⟩
      simp only[execOp,hop,Sem.run_bind,hr]
      rfl
     ·exact h.elim
    ·exact h.elim
   ·exact h.elim
  ·exact h.elim
 case slice t x lo hi mx=>
  split at h
  ·rename_i ti f hti hx
   obtain⟨q,hq⟩:=hT.get hti
   obtain⟨d,hdd,hko,_⟩:=q.desc
   rw[hq]at hdd
   split at h
   ·rename_i e sz n cells hk hrv
    rw[hk]at hko
    simp only[KOk]at hko
    subst hko
    have hx':=zhl hs hrv (zak hs hx).2
    simp only[RV.at_]at hx'
    obtain⟨p,c,hxe,hnc,hcm,hcl,hcells⟩:=hx'
    split at h
    ·exact h.elim
    ·rename_i hte
     split at hte
     ·rename_i te hte'
      obtain⟨qe,hqe⟩:=hT.get hte'
      have hsz:=zel (w:=w) qe hqe
      have hes:te.sz=sz:=Nat.eq_of_beq_eq_true hte
      rw[hes]at hsz
      split at h
      ·rename_i kl l kh hh hlo hhi
       obtain⟨h0,h1,h2,m,cs,rfl,hcs,h⟩:=h
       have hvl:(lo.map a.eval=none/\l=0)\/∃kd,lo.map a.eval=some (.int kd l):=by
        cases lo with
        |none=>simp only[optv,Option.some.injEq,TF.r.injEq,RV.i.injEq]at hlo;exact .inl ⟨rfl,hlo.2.symm⟩
        |some lo=>have:=(zak hs hlo).2;simp only[TF.at_,RV.at_]at this;exact .inr ⟨kl,by simp[this]⟩
       have hvh:(hi.map a.eval=none/\hh=n)\/∃kd,hi.map a.eval=some (.int kd hh):=by
        cases hi with
        |none=>simp only[optv,Option.some.injEq,TF.r.injEq,RV.i.injEq]at hhi;exact .inl ⟨rfl,hhi.2.symm⟩
        |some hi=>have:=(zak hs hhi).2;simp only[TF.at_,RV.at_]at this;exact .inr ⟨kh,by simp[this]⟩
       obtain⟨q',hr,hq'⟩:=zsn (p:=p) (c:=c) hdd hsz hnc h0 h1 h2 hvl hvh
       have hmul:l.toNat*sz+(hh.toNat-l.toNat)*sz<=n*sz:=by
        rw[<-Nat.add_mul];exact Nat.mul_le_mul_right _ (by omega)
       refine keep h trivial (v:= .slice q' (hh.toNat-l.toNat) (c-l.toNat)) ?_ ?_
       ·simp only[TF.at_,RV.at_]
        refine⟨q',_,rfl,by omega,by omega,?_,λhpos=>?_⟩
        ·rw[<-hcs,List.length_take,List.length_drop,hcl]
         omega
        ·obtain⟨b,o',hpe,hb,hc⟩:=hcells (by omega)
         exact⟨b,_,hq' (by omega) b o' hpe,hb,hcs▸RV.cellsAt_take (RV.cellsAt_drop hc _) _⟩
       ·simp[execOp,hop,hxe,hr]
      ·exact h.elim
     ·cases hte
   ·exact h.elim
  ·exact h.elim
 case makeSlice t l c=>
  split at h
  ·rename_i ti kl n kc m hti hl hc
   obtain⟨q,hq⟩:=hT.get hti
   obtain⟨d,hdd,hko,_⟩:=q.desc
   rw[hq]at hdd
   have hl':=(zak hs hl).2
   have hc':=(zak hs hc).2
   simp only[TF.at_,RV.at_]at hl' hc'
   split at h
   ·rename_i e hk
    rw[hk]at hko
    simp only[KOk]at hko
    subst hko
    split at h
    ·rename_i te hte
     obtain⟨qe,hqe⟩:=hT.get hte
     obtain⟨i,hi,hsz,hby,z,hz,hzc⟩:=qe.info
     rw[hqe]at hi
     obtain⟨rfl,h0,hb,hm,j,zs,rfl,rfl,pub,hK⟩:=h
     have hbi:(i.bytes:Int)*n<=281474976710656:=by
      have:((n.toNat*te.bytes:Nat):Int)<=140737488355328:=by omega
      rw[Int.natCast_mul,Int.toNat_of_nonneg h0,Int.mul_comm]at this
      rw[hby];omega
     have hr:=run_make (P:=P) w t e i z hdd hi hz kl kc n n h0 (Int.le_refl _) hbi (by simp only[maxLen]at hm;omega)
     rw[hsz]at hr
     obtain⟨k',hk'⟩:=z4m (e:=e) (sz:=te.sz) (n:=n.toNat) (cells:=(List.replicate n.toNat (te.zero.map ofC)).flatten) (cs:=madeCells z.cells (n.toNat*te.sz)) hs pub (by simp[qe.zsz]) hm (z34 qe hzc n.toNat)
     exact zbr (by simp only[execOp,hop,hl',hc',Sem.run_bind,hr];rfl) ⟨_,_,_,k',hK,rfl,hk'⟩
    ·exact h.elim
   ·exact h.elim
  ·exact h.elim
 case call c=>
  split at h
  ·rename_i bi hcal
   split at h
   ·unfold lenv at h
    split at h
    ·rename_i x t hxs hts
     have hxs':c.args= #[x]:=by apply Array.ext';simpa using hxs
     have hts':c.argTypes= #[t]:=by apply Array.ext';simpa using hts
     split at h
     ·rename_i ti f hti hx
      obtain⟨q,hq⟩:=hT.get hti
      obtain⟨d,hdd,hko,_⟩:=q.desc
      rw[hq]at hdd
      have hx':=(zak hs hx).2
      have hrun: ∀v,(Builtin.len_ #[t] o.type #[a.eval x]).run P w= .ok v w->(execOp a.eval o).run P w= .ok (.value v) w:=λv hv=>by
       simp[execOp,hop,resolve,hcal,hxs',hts',invoke,builtin,hv]
      split at h
      ·rename_i e hk
       rw[hk]at hko
       simp only[KOk]at hko
       subst hko
       split at h
       ·simp only[TF.at_,RV.at_]at hx'
        obtain⟨p,cp,e,_⟩:=hx'
        exact keep h trivial (by simp only[TF.at_,RV.at_];rfl) (hrun _ (by simp[Builtin.len_,run_underlying hdd w,e,goInt]))
       ·simp only[TF.at_,RV.at_]at hx'
        exact keep h trivial (by simp only[TF.at_,RV.at_];rfl) (hrun _ (by simp[Builtin.len_,run_underlying hdd w,hx',goInt]))
       ·split at h
        ·rename_i e' sz n cells pub hoo
         have hat:=(hs.owns _ _ hoo).2.2.1
         simp only[Ow.at_]at hat
         simp only[TF.at_]at hx'
         rcases hat.2 with⟨_,⟨h0,p,e⟩ |⟨_,_,b,o',e,_⟩⟩ |⟨b,cap,cur,_,e,_⟩
         ·subst h0
          exact keep h trivial (by simp only[TF.at_,RV.at_];rfl) (hrun _ (by simp[Builtin.len_,run_underlying hdd w,hx',e,goInt]))
         ·exact keep h trivial (by simp only[TF.at_,RV.at_];rfl) (hrun _ (by simp[Builtin.len_,run_underlying hdd w,hx',e,goInt]))
         ·exact keep h trivial (by simp only[TF.at_,RV.at_];rfl) (hrun _ (by simp[Builtin.len_,run_underlying hdd w,hx',e,goInt]))
        ·exact h.elim
       ·exact h.elim
      ·rename_i hk
       rw[hk]at hko
       simp only[KOk]at hko
       subst hko
       split at h
       ·simp only[TF.at_,RV.at_]at hx'
        exact keep h trivial (by simp only[TF.at_,RV.at_];rfl) (hrun _ (by simp[Builtin.len_,run_underlying hdd w,hx',goInt]))
       ·exact h.elim
      ·exact h.elim
     ·exact h.elim
    ·exact h.elim
   ·exact fn h
   ·exact fn h
   ·exact fn h
   ·exfalso
    simp_all [zd4]
  ·rename_i x hcal
   split at h
   ·rename_i f
    unfold z66 at h
    split at h
    ·rename_i vs hvs
     obtain⟨ps,hc,res,hg,hK⟩:=h
     refine zud hs (zv6 hs hvs) hc hg ?_ hK
     have hargs:(c.args.map a.eval)=(c.args.toList.map a.eval).toArray:=by apply Array.ext';simp
     simp[execOp,hop,resolve,hcal,Act.eval,Deferred.ofValue,invoke,hargs]
    ·exact h.elim
   ·exfalso
    simp only[zd4,hop,hcal]at hrd
    split at hrd<;>simp_all
  ·exact h.elim
 all_goals simp[zd4,hop]at hrd
theorem z7b(hT:TOk P T)(hs:SatE B N S a w k g)(hd: ∀d,o.dst=some d->d<N){K:TF->Option Ow->Prop}(h:valv P T S o K):
  o.wp P a w (λa' w'=>∃f ow k',K f ow/\Sat B N (S.new o.dst f ow) a' w' k') Q:=by
 by_cases hrd:zd4 o.op=true
 ·exact Oper.wp_mono (λa' w' ⟨f,ow,v,k',hK,e,hl⟩=>⟨f,ow,k',hK,e▸hl.sat hs hd⟩) (z1v hT hs hrd h)
 ·have sem:Vsem P S o K->o.wp P a w (λa' w'=>∃f ow k',K f ow/\Sat B N (S.new o.dst f ow) a' w' k') Q:=λ⟨f,ow,hy,hK⟩=>
   Oper.wp_mono (λa' w' ⟨k',hk'⟩=>⟨f,ow,k',hK,hk'⟩) (hy B N a w k Q ⟨g,hs⟩ hd)
  unfold valv at h
  cases hop:o.op<;>rw[hop]at h<;>simp only[zyw]at h<;>first |exact sem h |(simp[zd4,hop]at hrd;done) |skip
  rename_i c
  split at h
  ·rename_i bi hcal
   split at h
   ·exfalso
    exact hrd (by simp[zd4,hop,hcal])
   ·exfalso
    exact hrd (by simp[zd4,hop,hcal])
   ·exfalso
    exact hrd (by simp[zd4,hop,hcal])
   ·exfalso
    exact hrd (by simp[zd4,hop,hcal])
   ·exact sem h
  ·rename_i x hcal
   split at h
   ·exfalso
    exact hrd (by simp[zd4,hop,hcal])
   ·exact sem h
  ·exact h.elim
end
end
section
section
variable {P:Program} {T:TT} {B:Bs} {N:Nat} {S:St} {a:Act} {w:World} {k:Kp} {g:Env} {o:Oper} {Q:Exit->Act->World->Prop}
structure Wrote (w:World) (k:Kp) (w':World) (k':Kp) (ob:Option Nat):Prop where
 os:w'.os=w.os
 tape:w'.tape=w.tape
 output:w'.output=w.output
 size:w.heap.size<=w'.heap.size
 block: ∀b,b<w.heap.size->some b≠ob->w'.heap[b]?=w.heap[b]?/\k' b=k b
 part: ∀b,some b=ob->k b<=k' b/\(∀o,o<k b->w'.cell? ⟨b,o,none⟩=w.cell? ⟨b,o,none⟩)/\(0<k b->∀es c,w.heap[b]?=some (.map es c)->w'.heap[b]?=some (.map es c))
theorem Wrote.le{w':World}{k':Kp}{ob:Option Nat}(h:Wrote w k w' k' ob):Le w k w' k':=by
 refine⟨h.size,λb hb=>?_,λb o hb ho=>?_,λb hb hk es c e=>?_⟩
 ·by_cases e:some b=ob
  ·exact(h.part b e).1
  ·exact Nat.le_of_eq (h.block b hb e).2.symm
 ·by_cases e:some b=ob
  ·exact(h.part b e).2.1 o ho
  ·exact World.cell?_of_block (a:=⟨b,o,none⟩) (h.block b hb e).1
 ·by_cases e':some b=ob
  ·exact(h.part b e').2.2 hk es c e
  ·exact(h.block b hb e').1.trans e
def idOk(S:St)(g:Env)(ob:Option Nat):Option Nat->Prop
 |some i=>(∃o,oget S.O i=some o)/\(g i).2=ob
 |none=>ob=none
theorem SatE.wrote(hs:SatE B N S a w k g){w':World}{k':Kp}{ob:Option Nat}(h:Wrote w k w' k' ob){id:Option Nat}
  (hid:idOk S g ob id):
  SatE B N (S.strike id) a w' k' g:=by
 have hle:=h.le
 have hold: ∀b,b<B.w.heap.size->b∉B.X->some b≠ob:=λb hb hx e=>by
  cases id with
  |none=>simp only[idOk]at hid;rw[hid]at e;cases e
  |some i=>
   obtain⟨⟨o,ho⟩,hg⟩:=hid
   rcases((hs.owns i o ho).2.2.2 b (hg.trans e.symm)).1 with h1 |h1
   ·omega
   ·exact hx h1
 have hkeep:Keep B.X B.w w':=⟨h.os.trans hs.keep.os,h.tape.trans hs.keep.tape,h.output.trans hs.keep.output,Nat.le_trans hs.keep.size h.size,
  λb hb hx=>(h.block b (Nat.lt_of_lt_of_le hb hs.keep.size) (hold b hb hx)).1.trans (hs.keep.block b hb hx)⟩
 have hkk: ∀b,b<B.w.heap.size->b∉B.X->k' b=B.k b:=λb hb hx=>(h.block b (Nat.lt_of_lt_of_le hb hs.keep.size) (hold b hb hx)).2.trans (hs.kk b hb hx)
 have own: ∀i' o',oget S.O i'=some o'->(∀i,id=some i->i≠i')->i'<S.nx/\o'.lt S.nx/\o'.at_ w' k' g (g i')/\∀b,(g i').2=some b->(B.w.heap.size<=b\/b∈B.X)/\b<w'.heap.size:=λi' o' ho' hne=>by
  obtain⟨h1,h2,h3,h4⟩:=hs.owns i' o' ho'
  refine⟨h1,h2,Ow.mono hle (λb hb=>h.block b (h4 b hb).2 λe=>?_) h3,λb hb=>⟨(h4 b hb).1,Nat.lt_of_lt_of_le (h4 b hb).2 h.size⟩⟩
  cases id with
  |none=>simp only[idOk]at hid;rw[hid]at e;cases e
  |some i=>
   obtain⟨⟨o,ho⟩,hg⟩:=hid
   exact hs.apart i i' o o' b ho ho' (hne i rfl) (hg.trans e.symm) hb
 cases id with
 |none=>exact⟨hs.size,hs.defers,hkeep,hkk,λt f hf=>⟨(hs.facts t f hf).1,TF.mono hle (hs.facts t f hf).2⟩,λi' o' ho'=>own i' o' ho' (λ_ h=>by cases h),hs.apart⟩
 |some i=>
  refine⟨hs.size,hs.defers,hkeep,hkk,λt f hf=>⟨(hs.facts t f hf).1,TF.mono hle (hs.facts t f hf).2⟩,λi' o' ho'=>?_,λx y o1 o2 b hx hy hne=>?_⟩
  ·rcases zav ho' with⟨_,e⟩ |⟨hne,ho'⟩
   ·cases e
   ·exact own i' o' ho' λj hj=>by cases hj;exact hne
  ·rcases zav hx with⟨_,e⟩ |⟨_,hx⟩
   ·cases e
   rcases zav hy with⟨_,e⟩ |⟨_,hy⟩
   ·cases e
   exact hs.apart x y o1 o2 b hx hy hne
theorem SatE.adopt(hs:SatE B N S a w k g){dst:Option Nat}(hd: ∀d,dst=some d->d<N){o:Ow}{vb:Value×Option Nat}(hl:o.lt S.nx)(ho:o.at_ w k g vb)
  (hb: ∀b,vb.2=some b->(B.w.heap.size<=b\/b∈B.X)/\b<w.heap.size) (hap: ∀i o' b,oget S.O i=some o'->vb.2=some b->(g i).2≠some b):
  SatE B N (S.mk_ dst o) (a.put dst vb.1) w k (g.set S.nx vb):=by
 have hlt:S.nx<=S.nx+1:=Nat.le_succ _
 have hset: ∀i,i<S.nx->g.set S.nx vb i=g i:=Env.set_lt
 have h2:SatE B N {F:=S.F,O:=(S.nx,some o)::S.O,nx:=S.nx+1} a w k (g.set S.nx vb):=by
  refine⟨hs.size,hs.defers,hs.keep,hs.kk,λt f hf=>?_,λid o' ho'=>?_,λi j oi oj b hi hj hne hbi=>?_⟩
  ·have:=hs.facts t f hf
   exact⟨TF.lt_mono hlt this.1,TF.env hset this.1 this.2⟩
  ·rcases zav ho' with⟨rfl,e⟩ |⟨hne,h⟩
   ·cases e
    exact⟨Nat.lt_succ_self _,Ow.lt_mono hlt hl,by rw[Env.set_eq];exact Ow.env hset hl ho,λb hbb=>by rw[Env.set_eq]at hbb;exact hb b hbb⟩
   ·obtain⟨q1,q2,q3,q4⟩:=hs.owns id o' h
    refine⟨Nat.lt_succ_of_lt q1,Ow.lt_mono hlt q2,?_,?_⟩
    ·rw[hset id q1];exact Ow.env hset q2 q3
    ·rw[hset id q1];exact q4
  ·rcases zav hi with⟨rfl,e⟩ |⟨hni,hi⟩
   ·rw[Env.set_eq]at hbi
    rcases zav hj with⟨rfl,_⟩ |⟨hnj,hj⟩
    ·exact absurd rfl hne
    ·rw[hset j (hs.owns j oj hj).1];exact hap j oj b hj hbi
   ·rw[hset i (hs.owns i oi hi).1]at hbi
    rcases zav hj with⟨rfl,_⟩ |⟨hnj,hj⟩
    ·rw[Env.set_eq];intro hbj;exact hap i oi b hi hbj hbi
    ·rw[hset j (hs.owns j oj hj).1];exact hs.apart i j oi oj b hi hj hne hbi
 cases dst with
 |none=>exact h2
 |some d=>exact h2.put (dst:=some d) hd (f:= .own S.nx) (v:=vb.1) (Nat.lt_succ_self _) (by simp[TF.at_,Env.set_eq])
theorem z3g{t ty e:TypeId}{i:TypeInfo}{z:Value}{size bytes:Nat}(ht:P.underlying t=some (.slice e))(hi:P.info? e=some i)(hz:i.zero=some z)
  (hsize:i.size=size) (hby:i.bytes=bytes) (hzs:z.cells.size=size)
  {n:Nat} {cells:List RV} {pub:Bool} {u:Value} {ob:Option Nat} (hch:chAt w k e size n cells pub u ob)
  {qb qo m c:Nat} {news:List Value} (hl:news.length=m*size) (hnews: ∀j u,news[j]?=some u->w.cell? ⟨qb,qo+j,none⟩=some u) (h1: ∀u∈news,u.oneCell'=true)
  (hm:0<m) (h63:n+m<=maxLen) (hbytes:(n+m)*bytes<=140737488355328):
  ∃xs b cap cur w',(Builtin.append_ #[t,t] ty #[u, .slice (some ⟨qb,qo,none⟩) m c]).run P w= .ok (.slice (some ⟨b,0,none⟩) (n+m) cap) w'/\RV.listAt w k cells xs/\
   w'.heap[b]?=some (.cells cur e (0,0))/\n+m<=cap/\cap<=maxLen/\cur.size=cap*size/\cur.toList.take ((n+m)*size)=xs++news/\w.grownBy w' ob/\(ob=some b\/b=w.heap.size)/\
   (∀b0,ob=some b0->(∃cur0,w.heap[b0]?=some (.cells cur0 e (0,0))/\cur0.toList.take (n*size)=xs)/\(b=b0\/b=w.heap.size/\w'.heap[b0]?=w.heap[b0]?)):=by
 obtain⟨hcl,hch⟩:=hch
 have hnews': ∀j u,news[j]?=some u->w.cell? ((⟨qb,qo,none⟩:Addr).add j)=some u:=λj u hu=>by rw[Addr.add_mid];exact hnews j u hu
 rcases hch with⟨rfl,⟨rfl,p,rfl⟩ |⟨hn0,_,b,o,rfl,hnm,hbl,hcell⟩⟩ |⟨b,cap,cur,rfl,rfl,hh,hnc,hcm,hcs,hkb,hlist⟩
 ·have hc0:cells=[]:=List.eq_nil_of_length_eq_zero (by simpa using hcl)
  subst hc0
  have hnl:=h63
  simp only[maxLen]at hnl
  have fin: ∀(c:Nat),0+m<=c->c<=maxLen->∀(cur:Array Value),cur.size=c*size->cur.toList.take ((0+m)*size)=news->
    (w.drew.alloc (.cells cur e)).heap[w.heap.size]?=some (.cells cur e (0,0))/\0+m<=c/\c<=maxLen/\cur.size=c*size/\cur.toList.take ((0+m)*size)=[]++news/\w.grownBy (w.drew.alloc (.cells cur e)) none:=λc hc hcm cur hcs htk=>
   ⟨heap_alloc_new w.drew _,hc,hcm,hcs,htk,⟨rfl,rfl,rfl,by simp,λk hk _=>Below.heap_alloc w.drew _ k hk⟩⟩
  cases p with
  |none=>
   have hr:=run_append_nil (P:=P) w t ty e i z ht hi hz ⟨qb,qo,none⟩ m c news (by rw[hsize];exact hl) hnews' hm (by omega) (by rw[hby];rw[Nat.zero_add]at hbytes;omega)
   have hge:=grownCap_ge w m 0 e
   have hcm:=grownCap_le_maxLen w m 0 e (by omega)
   obtain⟨f1,f2,f3,f4,f5,f6⟩:=fin (grownCap w m 0 e) (by omega) hcm (news.toArray++Builtin.zeroCells z.cells (grownCap w m 0 e-m)) (by
    simp only[Array.size_append,List.size_toArray,size_zeroCells,hzs,hl,<-Nat.add_mul]
    congr 1;omega) (by
    simp only[Array.toList_append,Nat.zero_add]
    rw[<-hl]
    exact List.take_left)
   exact⟨[],w.heap.size,_,_,_,by rw[Nat.zero_add];exact hr,by simp[RV.listAt],f1,f2,f3,f4,f5,f6, .inr rfl,λb0 h=>by cases h⟩
  |some p=>
   have hr:=run_append_grow (P:=P) w t ty e i z ht hi hz p 0 0 [] (by simp) (by simp) ⟨qb,qo,none⟩ m c news (by rw[hsize];exact hl) hnews' (by omega) (by omega) (growslice_fits (by omega) (by rw[hby];exact hbytes))
   have hge:=grownCap_ge w (0+m) 0 e
   have hcm:=grownCap_le_maxLen w (0+m) 0 e h63
   obtain⟨f1,f2,f3,f4,f5,f6⟩:=fin (grownCap w (0+m) 0 e) hge hcm (([]:List Value).toArray++news.toArray++Builtin.zeroCells z.cells (grownCap w (0+m) 0 e-(0+m))) (by
    simp only[Array.size_append,List.size_toArray,List.length_nil,Nat.zero_add,size_zeroCells,hzs,hl,<-Nat.add_mul]
    congr 1;rw[Nat.zero_add]at hge;omega) (by
    simp only[Array.toList_append,Nat.zero_add,List.nil_append]
    rw[<-hl]
    exact List.take_left)
   exact⟨[],w.heap.size,_,_,_,hr,by simp[RV.listAt],f1,f2,f3,f4,f5,f6, .inr rfl,λb0 h=>by cases h⟩
 ·obtain⟨xs,hlist,hxl,hcell⟩:=RV.cells_list cells o hcell
  have hnl:=h63
  simp only[maxLen]at hnl
  have hr:=run_append_grow (P:=P) w t ty e i z ht hi hz ⟨b,o,none⟩ n n xs (by rw[hsize,hxl,hcl]) (λj v hj=>by rw[Addr.add_mid];exact hcell j v hj) ⟨qb,qo,none⟩ m c news (by rw[hsize];exact hl) hnews' (by omega) (by omega) (growslice_fits (by omega) (by rw[hby];exact hbytes))
  have hge:=grownCap_ge w (n+m) n e
  have hcm':=grownCap_le_maxLen w (n+m) n e h63
  refine⟨xs,w.heap.size,_,_,_,hr,hlist,heap_alloc_new w.drew _,hge,hcm',?_,?_,⟨rfl,rfl,rfl,by simp,λk hk _=>Below.heap_alloc w.drew _ k hk⟩, .inr rfl,λb0 hb0=>by cases hb0⟩
  ·simp only[Array.size_append,List.size_toArray,size_zeroCells,hzs,hl,hxl,hcl,<-Nat.add_mul]
   congr 1;omega
  ·simp only[Array.toList_append]
   rw[show(n+m)*size=(xs++news).length by rw[List.length_append,hxl,hcl,hl,Nat.add_mul]]
   exact List.take_left
 ·have hxl:(cur.toList.take (n*size)).length=n*size:=by rw[zcd hlist,hcl]
  have hlt:b<w.heap.size:=(Array.getElem?_eq_some_iff.1 hh).1
  have hnl:=h63
  simp only[maxLen]at hnl
  by_cases hfit:n+m<=cap
  ·have hmul:(n+m)*size<=cap*size:=Nat.mul_le_mul_right _ hfit
   rw[Nat.add_mul]at hmul
   have hr:=run_append_room (P:=P) w t ty e i ht hi b n cap cur hh ⟨qb,qo,none⟩ m c news (by rw[hsize];exact hl) hnews' h1 hfit (by rw[hsize,hl,hcs];exact hmul)
   rw[hsize,hl]at hr
   refine⟨_,b,cap,_,_,hr,hlist,setRow_heap w b cur _ e (0,0) hh,hfit,hcm,?_,?_,⟨rfl,rfl,rfl,by simp[World.setRow],λx hx hne=>setRow_other w b x _ (λh=>hne (by rw[h]))⟩, .inl rfl,λb0 hb0=>?_⟩
   ·simp only[List.size_toArray,List.length_append,hxl,hl,List.length_drop,Array.length_toList,hcs]
    omega
   ·rw[show(n+m)*size=(cur.toList.take (n*size)++news).length by rw[List.length_append,hxl,hl,Nat.add_mul],List.toList_toArray]
    exact List.take_left
   ·cases hb0
    exact⟨⟨cur,hh,rfl⟩, .inl rfl⟩
  ·have hr:=run_append_grow (P:=P) w t ty e i z ht hi hz ⟨b,0,none⟩ n cap (cur.toList.take (n*size)) (by rw[hsize];exact hxl) (λj v hj=>by
    rw[Addr.add_mid,Nat.zero_add,cell_of_row w b j cur e (0,0) hh]
    rw[List.getElem?_take]at hj
    split at hj
    ·simpa using hj
    ·cases hj) ⟨qb,qo,none⟩ m c news (by rw[hsize];exact hl) hnews' (by omega) (by omega) (growslice_fits (by omega) (by rw[hby];exact hbytes))
   have hge:=grownCap_ge w (n+m) cap e
   have hcm':=grownCap_le_maxLen w (n+m) cap e h63
   refine⟨_,w.heap.size,_,_,_,hr,hlist,heap_alloc_new w.drew _,hge,hcm',?_,?_,⟨rfl,rfl,rfl,by simp,λk hk _=>Below.heap_alloc w.drew _ k hk⟩, .inr rfl,λb0 hb0=>?_⟩
   ·simp only[Array.size_append,List.size_toArray,size_zeroCells,hzs,hl,hxl,<-Nat.add_mul]
    congr 1;omega
   ·simp only[Array.toList_append]
    rw[show(n+m)*size=(cur.toList.take (n*size)++news).length by rw[List.length_append,hxl,hl,Nat.add_mul]]
    exact List.take_left
   ·cases hb0
    exact⟨⟨cur,hh,rfl⟩, .inr ⟨rfl,Below.heap_alloc w.drew _ b hlt⟩⟩
theorem zfhb(hs:SatE B N S a w k g){e:TypeId}{sz:Nat}{f:TF}{u:Value}{id:Option Nat}{e':TypeId}{sz' n:Nat}{cells:List RV}{pub:Bool}(h:lhsv S e sz f=some (id,e',sz',n,cells,pub))(hu:f.at_ w k g u):
  ∃ob,chAt w k e' sz' n cells pub u ob/\idOk S g ob id:=by
 unfold lhsv at h
 split at h
 ·split at h
  ·rename_i hoo
   simp only[Option.some.injEq,Prod.mk.injEq]at h
   obtain⟨rfl,rfl,rfl,rfl,rfl,rfl⟩:=h
   have hat:=(hs.owns _ _ hoo).2.2.1
   simp only[Ow.at_]at hat
   simp only[TF.at_]at hu
   rw[hu]
   exact⟨_,hat,⟨_,hoo⟩,rfl⟩
  ·cases h
 ·simp only[Option.some.injEq,Prod.mk.injEq]at h
  obtain⟨rfl,rfl,rfl,rfl,rfl,rfl⟩:=h
  simp only[TF.at_,RV.at_]at hu
  exact⟨none,⟨by simp, .inl ⟨rfl, .inl ⟨rfl,none,hu⟩⟩⟩,rfl⟩
 ·cases h
theorem zf6b(hs:SatE B N S a w k g){sz:Nat}{f:TF}{u:Value}{sz' m:Nat}{ys:List RV}(h:rhsv S sz f=some (sz',m,ys))(hu:f.at_ w k g u):
  ∃qa qc us,u= .slice qa m qc/\RV.listAt w k ys us/\us.length=m*sz'/\(0<m->∃b o,qa=some ⟨b,o,none⟩/\∀j v,us[j]?=some v->w.cell? ⟨b,o+j,none⟩=some v):=by
 unfold rhsv at h
 split at h
 ·split at h
  ·rename_i e sz2 m2 ys2 pub hoo
   simp only[Option.some.injEq,Prod.mk.injEq]at h
   obtain⟨rfl,rfl,rfl⟩:=h
   have hat:=(hs.owns _ _ hoo).2.2.1
   simp only[Ow.at_]at hat
   simp only[TF.at_]at hu
   obtain⟨hl,hat⟩:=hat
   rcases hat with⟨_,⟨rfl,p,e⟩ |⟨hn,_,b,o,e,hm,hb,hc⟩⟩ |⟨b,cap,cur,_,e,hh,h1,h2,h3,h4,h5⟩
   ·have:ys2=[]:=List.eq_nil_of_length_eq_zero (by simpa using hl)
    subst this
    exact⟨p,0,[],hu.trans e,by simp[RV.listAt],by simp,λh=>absurd h (by omega)⟩
   ·obtain⟨us,q1,q2,q3⟩:=RV.cells_list ys2 o hc
    exact⟨_,m2,us,hu.trans e,q1,q2.trans hl,λ_=>⟨b,o,rfl,q3⟩⟩
   ·refine⟨_,cap,_,hu.trans e,h5,(zcd h5).trans hl,λ_=>⟨b,0,rfl,λj v hj=>?_⟩⟩
    rw[Nat.zero_add,cell_of_row w b j cur _ (0,0) hh]
    rw[List.getElem?_take]at hj
    split at hj
    ·simpa using hj
    ·cases hj
  ·cases h
 ·rename_i sz2 m ys
  simp only[Option.some.injEq,Prod.mk.injEq]at h
  obtain⟨rfl,rfl,rfl⟩:=h
  simp only[TF.at_,RV.at_]at hu
  obtain⟨p,c,e,h1,h2,h3,h4⟩:=hu
  by_cases hm:0<m
  ·obtain⟨b,o,rfl,hb,hc⟩:=h4 hm
   obtain⟨us,q1,q2,q3⟩:=RV.cells_list ys o hc
   exact⟨_,c,us,e,q1,q2.trans h3,λ_=>⟨b,o,rfl,q3⟩⟩
  ·obtain rfl:m=0:=by omega
   have:ys=[]:=List.eq_nil_of_length_eq_zero (by simpa using h3)
   subst this
   exact⟨p,c,[],e,by simp[RV.listAt],by simp,λh=>absurd h (by omega)⟩
 ·simp only[Option.some.injEq,Prod.mk.injEq]at h
  obtain⟨rfl,rfl,rfl⟩:=h
  simp only[TF.at_,RV.at_]at hu
  exact⟨none,0,[],hu,by simp[RV.listAt],by simp,λh=>absurd h (by omega)⟩
 ·cases h
theorem zxx(hs:SatE B N S a w k g){ob:Option Nat}{id:Option Nat}(hid:idOk S g ob id){b:Nat}(hb:ob=some b):(B.w.heap.size<=b\/b∈B.X)/\b<w.heap.size:=by
 cases id with
 |none=>simp only[idOk]at hid;rw[hid]at hb;cases hb
 |some i=>
  obtain⟨⟨o,ho⟩,hg⟩:=hid
  exact(hs.owns i o ho).2.2.2 b (hg.trans hb)
theorem zx7(hs:SatE B N S a w k g){ob:Option Nat}{id:Option Nat}(hid:idOk S g ob id){i:Nat}{o':Ow}{b:Nat}(ho:oget (S.strike id).O i=some o')(hb:ob=some b):(g i).2≠some b:=by
 cases id with
 |none=>simp only[idOk]at hid;rw[hid]at hb;cases hb
 |some j=>
  obtain⟨⟨o,hj⟩,hg⟩:=hid
  rcases zav ho with⟨_,e⟩ |⟨hne,ho⟩
  ·cases e
  ·exact hs.apart j i o o' b hj ho hne (hg.trans hb)
theorem z5v(hT:TOk P T)(hs:SatE B N S a w k g)(hd: ∀d,o.dst=some d->d<N){t ty:TypeId}{f f2:TF}{u u2:Value}(hu:f.at_ w k g u)(hu2:f2.at_ w k g u2){K:Option Nat->Ow->Prop}(h:appv S T t f f2 K):
  ∃id ow v w' k',K id ow/\(Builtin.append_ #[t,t] ty #[u,u2]).run P w= .ok v w'/\Sat B N ((S.strike id).mk_ o.dst ow) (a.put o.dst v) w' k':=by
 unfold appv at h
 split at h
 ·rename_i ti hti
  obtain⟨q,hq⟩:=hT.get hti
  obtain⟨d,hdd,hko,_⟩:=q.desc
  rw[hq]at hdd
  split at h
  ·rename_i e hk
   rw[hk]at hko
   simp only[KOk]at hko
   subst hko
   split at h
   ·rename_i te hte
    obtain⟨qe,hqe⟩:=hT.get hte
    obtain⟨i,hi,hsz,hby,z,hz,hzc⟩:=qe.info
    rw[hqe]at hi
    split at h
    ·rename_i id e' sz n cells pub hl
     split at h
     ·exact h.elim
     ·rename_i hcond
      simp only[Bool.and_eq_true,Nat.beq_eq]at hcond
      obtain⟨rfl,rfl,hpos⟩:=hcond
      have hpos:0<te.sz:=by simp[Nat.blt]at hpos;omega
      split at h
      ·rename_i sz' m ys hr
       split at h
       ·rename_i hsz'
        obtain rfl:=Nat.eq_of_beq_eq_true hsz'
        obtain⟨h63,hbytes,j,zs,rfl,rfl,hK⟩:=h
        obtain⟨ob,hch,hid⟩:=zfhb hs hl hu
        obtain⟨qa,qc,us,rfl,hus,husl,hsrc⟩:=zf6b hs hr hu2
        rcases Nat.eq_zero_or_pos m with rfl |hm
        ·have hys:ys=[]:=List.eq_nil_of_length_eq_zero (by rw[<-zcd hus,husl];simp)
         subst hys
         have hform: ∃p c,u= .slice p n c/\n<=c:=by
          rcases hch.2 with⟨_,⟨rfl,p,e⟩ |⟨_,_,b,o',e,_⟩⟩ |⟨b,cap,cur,_,e,_,h1,_⟩
          ·exact⟨p,0,e,Nat.le_refl _⟩
          ·exact⟨_,n,e,Nat.le_refl _⟩
          ·exact⟨_,cap,e,h1⟩
         obtain⟨p,c,rfl,hnc⟩:=hform
         have hw:Wrote w k w k ob:=⟨rfl,rfl,rfl,Nat.le_refl _,λ_ _ _=>⟨rfl,rfl⟩,λ_ _=>⟨Nat.le_refl _,λ_ _=>rfl,λ_ _ _ h=>h⟩⟩
         refine⟨id,_, .slice p n c,w,k,hK,?_,?_⟩
         ·cases p<;>cases qa<;>simp[Builtin.append_,run_underlying hdd,sizeOf,typeInfo,hi,Builtin.lenOf,Builtin.firstCells,loadCells,loadCellsFrom,hnc,storeCells]
         ·have h1:=hs.wrote hw hid
          have h2:Ow.at_ w k g (.slice p n c,ob) (.ch e' te.sz (n+0) (cells++[]) pub):=by simpa[Ow.at_]using hch
          have hobs: ∀b,ob=some b->(B.w.heap.size<=b\/b∈B.X)/\b<w.heap.size:=λb hb=>zxx hs hid hb
          exact⟨_,h1.adopt hd (o:= .ch e' te.sz (n+0) (cells++[]) pub) (vb:=(.slice p n c,ob)) trivial h2 hobs (λi o' b ho hb=>zx7 hs hid ho hb)⟩
        ·obtain⟨qb,qo,rfl,hcells⟩:=hsrc hm
         obtain⟨xs,b,cap,cur,w',hrun,hxs,hh,h1,h2,h3,h4,hgr,hbb,hb0⟩:=z3g (ty:=ty) hdd hi hz hsz hby (by rw[<-Array.length_toList,hzc,qe.zsz]) hch (c:=qc) husl hcells (λv hv=>by
          obtain⟨j,hj⟩:=List.getElem?_of_mem hv
          have hjl:j<ys.length:=by rw[<-zcd hus];exact(List.getElem?_eq_some_iff.1 hj).1
          exact((RV.listAt_iff _ _).1 hus |>.2 j _ v (List.getElem?_eq_getElem hjl) hj).1) hm h63 hbytes
         have hkb0: ∀b0,ob=some b0->k b0=(if pub then n*te.sz else 0):=λb0 hb0=>by
          rcases hch.2 with⟨h,_⟩ |⟨b',cap',cur',h,_,_,_,_,_,h',_⟩
          ·rw[h]at hb0;cases hb0
          ·rw[h]at hb0;cases hb0;exact h'
         have hbs:b<w'.heap.size:=(Array.getElem?_eq_some_iff.1 hh).1
         have hw:Wrote w k w' (kset k b (if pub then(n+m)*te.sz else 0)) ob:=by
          refine⟨hgr.os,hgr.tape,hgr.output,hgr.size,λx hx hne=>⟨hgr.block x hx hne,?_⟩,λx hx=>?_⟩
          ·rcases hbb with h |h
           ·have:x≠b:=λe=>hne (by rw[h,e])
            simp[kset,this]
           ·have:x≠b:=by omega
            simp[kset,this]
          ·obtain⟨⟨cur0,hc0,hx0⟩,hsame⟩:=hb0 x hx.symm
           have hkx:=hkb0 x hx.symm
           have hle:n*te.sz<=(n+m)*te.sz:=Nat.mul_le_mul_right _ (by omega)
           rcases hsame with rfl |⟨hbn,hsame⟩
           ·refine⟨by rw[zc1,hkx];split<;>omega,λo' ho'=>?_,λ_ es c e=>by rw[hc0]at e;cases e⟩
            have ho2:o'<n*te.sz:=by rw[hkx]at ho';split at ho'<;>omega
            rw[cell_of_row w' b o' cur e' (0,0) hh,cell_of_row w b o' cur0 e' (0,0) hc0]
            have e1:cur.toList[o']?=(cur.toList.take ((n+m)*te.sz))[o']?:=by rw[List.getElem?_take,if_pos (by omega)]
            have e2:cur0.toList[o']?=(cur0.toList.take (n*te.sz))[o']?:=by rw[List.getElem?_take,if_pos ho2]
            have hxl:xs.length=n*te.sz:=by rw[zcd hxs,hch.1]
            rw[<-Array.getElem?_toList,<-Array.getElem?_toList,e1,e2,h4,hx0,List.getElem?_append_left (by omega)]
           ·have hne:x≠b:=by
             have:x<w.heap.size:=(Array.getElem?_eq_some_iff.1 hc0).1
             omega
            exact⟨by simp[kset,hne],λo' _=>World.cell?_of_block (a:=⟨x,o',none⟩) hsame,λ_ es c e=>hsame.trans e⟩
         have g1:=hs.wrote hw hid
         have hle:=hw.le
         have hown:Ow.at_ w' (kset k b (if pub then(n+m)*te.sz else 0)) g (.slice (some ⟨b,0,none⟩) (n+m) cap,some b) (.ch e' te.sz (n+m) (cells++ys) pub):=by
          simp only[Ow.at_]
          refine⟨by rw[List.length_append,hch.1,<-zcd hus,husl,Nat.add_mul], .inr ⟨b,cap,cur,rfl,rfl,hh,h1,h2,h3,zc1,?_⟩⟩
          rw[h4]
          exact zcf (RV.list_mono hle _ _ hxs) (RV.list_mono hle _ _ hus)
         refine⟨id,_,_,w',_,hK,hrun,_,g1.adopt hd (vb:=(.slice (some ⟨b,0,none⟩) (n+m) cap,some b)) trivial hown (λb' hb'=>?_) λi' o' b' ho' hb'=>?_⟩
         ·cases hb'
          refine⟨?_,hbs⟩
          rcases hbb with h |h
          ·exact(zxx hs hid h).1
          ·left;have:=hs.keep.size;omega
         ·cases hb'
          rcases hbb with h |h
          ·exact zx7 hs hid ho' h
          ·intro hgi
           have hold:(g i').2=some b->b<w.heap.size:=by
            cases id with
            |none=>exactλhgi=>((hs.owns i' o' ho').2.2.2 b hgi).2
            |some j=>
             rcases zav ho' with⟨_,e⟩ |⟨_,ho'⟩
             ·cases e
             ·exactλhgi=>((hs.owns i' o' ho').2.2.2 b hgi).2
           have:=hold hgi
           omega
       ·exact h.elim
      ·exact h.elim
    ·exact h.elim
   ·exact h.elim
  ·exact h.elim
 ·exact h.elim
end
end
end Go.Proofs.YtpdllgbfemnemaaGreat.Sx
