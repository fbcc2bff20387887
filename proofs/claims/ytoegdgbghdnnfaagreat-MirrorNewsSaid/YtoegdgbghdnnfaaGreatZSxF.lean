import Derived.Test.YtoegdgbghdnnfaaGreatZSxE
import Derived.Lib.ConvBytes
import Derived.Laws.MakeOwn
import Derived.Laws.CopyRow
namespace Go.Proofs.YtoegdgbghdnnfaaGreat.Sx
open Go.RowKit
section
variable {P:Program} {T:TT} {B:Bs} {N:Nat} {S:St} {a:Act} {w:World} {k:Kp} {g:Env} {o:Oper} {next:Act->World->Prop} {Q:Exit->Act->World->Prop}
theorem znh(off:Nat): ∀(l:List Value) (i:Nat) (cs:Array Value),off+i+l.length<=cs.size->
  ((l.zipIdx i).foldl (λcs (c,j)=>cs.setIfInBounds (off+j) c) cs).toList=cs.toList.take (off+i)++l++cs.toList.drop (off+i+l.length)
 |[],i,cs,_=>by simp
 |v::r,i,cs,h=>by
  simp only[List.length_cons]at h
  simp only[List.zipIdx_cons,List.foldl_cons]
  rw[znh off r (i+1) _ (by simp;omega)]
  have:=list_seg_step cs.toList (off+i) v r (by simp;omega)
  simpa[Array.toList_setIfInBounds,Nat.add_assoc]using this
theorem za7{fs:List RV}{us:List Value}(h:RV.listAt w k fs us):us.length=fs.length:=((RV.listAt_iff fs us).1 h).1
theorem zct{fs gs:List RV}{us vs:List Value}(h:RV.listAt w k fs us)(h':RV.listAt w k gs vs):RV.listAt w k (fs++gs) (us++vs):=by
 induction fs generalizing us with
 |nil=>simp only[RV.listAt]at h;subst h;simpa using h'
 |cons f fs ih=>
  simp only[RV.listAt]at h
  obtain⟨u,r,rfl,h1,h2,h3⟩:=h
  simp only[List.cons_append,RV.listAt]
  exact⟨u,r++vs,rfl,h1,h2,ih h3⟩
theorem zdg{fs:List RV}{us:List Value}(h:RV.listAt w k fs us)(n:Nat):RV.listAt w k (fs.take n) (us.take n):=by
 rw[RV.listAt_iff]at h⊢
 refine⟨by simp[h.1],λj f u hf hu=>?_⟩
 rw[List.getElem?_take]at hf hu
 split at hf
 ·rename_i hj
  rw[if_pos hj]at hu
  exact h.2 j f u hf hu
 ·cases hf
theorem zew{fs:List RV}{us:List Value}(h:RV.listAt w k fs us)(n:Nat):RV.listAt w k (fs.drop n) (us.drop n):=by
 rw[RV.listAt_iff]at h⊢
 refine⟨by simp[h.1],λj f u hf hu=>?_⟩
 rw[List.getElem?_drop]at hf hu
 exact h.2 _ f u hf hu
theorem zi5: ∀(vs:List Value),(∀v∈vs,v.oneCell'=true)->RV.listAt w k (vs.map ofC) vs
 |[],_=>by simp[RV.listAt]
 |v::r,h=>by
  simp only[List.map_cons,RV.listAt]
  exact⟨v,r,rfl,h v (by simp),zyr v,zi5 r λx hx=>h x (by simp[hx])⟩
theorem RV.one_at{v:RV}{u:Value}(hv:v.at_ w k u)(hok:zbi v=true)(hag: ∀l,v≠ .ag l):u.oneCell'=true:=by
 cases v with
 |i kd n=>simp only[RV.at_]at hv;subst hv;rfl
 |b c=>simp only[RV.at_]at hv;subst hv;rfl
 |x v=>simp only[RV.at_]at hv;subst hv;exact hok
 |sl sz n cells=>simp only[RV.at_]at hv;obtain⟨a,c,rfl,_⟩:=hv;rfl
 |ptr cells=>simp only[RV.at_]at hv;obtain⟨b,o,rfl,_⟩:=hv;rfl
 |ag l=>exact absurd rfl (hag l)
 |tu l=>simp[zbi]at hok
 |s p=>simp only[RV.at_]at hv;exact p.one hv
 |any=>simp[zbi]at hok
theorem zgu{u:Value}(h:u.oneCell'=true):u.cells= #[u]:=by cases u<;>simp_all [Value.cells,Value.oneCell']
theorem zql{v:RV}{u:Value}(hv:v.at_ w k u)(hok:zbi v=true):RV.listAt w k (cellsOf v) u.cells.toList:=by
 by_cases hag: ∃l,v= .ag l
 ·obtain⟨l,rfl⟩:=hag
  simp only[RV.at_]at hv
  obtain⟨us,rfl,hl⟩:=hv
  simpa[cellsOf,Value.cells]using hl
 ·have h1:=RV.one_at hv hok λl e=>hag ⟨l,e⟩
  rw[zgu h1]
  have:cellsOf v=[v]:=by
   cases v with
   |ag l=>exact absurd ⟨l,rfl⟩ hag
   |_=>rfl
  rw[this]
  simp only[RV.listAt]
  exact⟨u,[],rfl,h1,hv,rfl⟩
theorem zh3{m:Bool}(hs:SatE B N S a w k g){place:Nat->Option (Nat×Nat)}: ∀{parts:List (Nat×Operand)} {cells:List RV} {vs:Array Value} {K:List RV->Prop},
  RV.listAt w k cells vs.toList->ziy m S place cells parts K->∃cells' vs',K cells'/\cells'.length=cells.length/\RV.listAt w k cells' vs'.toList/\Instr.fill place vs (parts.map λ(i,x)=>(i,a.eval x))=some vs'
 |[],cells,vs,K,hl,h=>⟨cells,vs,h,rfl,hl,rfl⟩
 |(i,x)::r,cells,vs,K,hl,h=>by
  simp only[ziy]at h
  split at h
  ·rename_i off sz f hp hf
   split at h
   ·rename_i v hv
    split at h
    ·rename_i hok
     simp only[Bool.and_eq_true,Nat.beq_eq,Nat.ble_eq]at hok
     obtain⟨hok,hsz,hfit⟩:=hok
     rw[zue _ _ _ _ _ (by rw[hsz];exact hfit)]at h
     have hat:=zgm hs hv (zah hs hf).2
     have hc:=zql hat hok
     have hcl:=za7 hc
     rw[Array.length_toList]at hcl
     have hvl:=za7 hl
     rw[Array.length_toList]at hvl
     have hnew:RV.listAt w k (zbl cells off (cellsOf v)) ((((a.eval x).cells.zipIdx).foldl (λcs (c,j)=>cs.setIfInBounds (off+j) c) vs).toList):=by
      have:=znh off (a.eval x).cells.toList 0 vs (by rw[Array.length_toList];omega)
      rw[<-Array.foldl_toList,Array.toList_zipIdx,this]
      unfold zbl
      rw[Nat.add_zero,show(a.eval x).cells.toList.length=(cellsOf v).length by rw[Array.length_toList];exact hcl]
      exact zct (zct (zdg hl off) hc) (zew hl _)
     obtain⟨cells',vs',hK,h0,h1,h2⟩:=zh3 hs hnew h
     refine⟨cells',vs',hK,h0.trans (by simp[zbl];omega),h1,?_⟩
     simp only[List.map_cons,Instr.fill,hp]
     rw[if_neg (by simp only[ne_eq,Bool.or_eq_true,decide_eq_true_eq,not_or,Decidable.not_not,Nat.not_lt];omega)]
     exact h2
    ·exact h.elim
   ·exact h.elim
  ·exact h.elim
theorem zx4(w:World)(c:Array Value)(t:TypeId):(w.alloc (.cells c t)).heap[w.heap.size]?=some (.cells c t (0,0)):=heap_alloc_new w _
theorem zdz(w:World)(o:Obj):Ext w (w.alloc o):=(Below.refl _ _).alloc (Nat.le_refl _) o
def kset(k:Kp)(b n:Nat):Kp:=λi=>if i=b then n else k i
theorem zdd{b n:Nat}: ∀i,i<b->kset k b n i=k i:=λi hi=>by simp[kset,Nat.ne_of_lt hi]
theorem zcu{b n:Nat}:kset k b n b=n:=by simp[kset]
theorem zqx(w:World)(k:Kp)(o:Obj)(n:Nat):Le w k (w.alloc o) (kset k w.heap.size n):=Ext.le (zdz w o) (λb hb=>zdd b hb)
def Loc(S:St)(w:World)(k:Kp)(g:Env)(w':World)(k':Kp)(f:TF)(ow:Option Ow)(v:Value):Prop:=
 Ext w w'/\(∀b,b<w.heap.size->k' b=k b)/\
 (match ow with
  |none=>f.lt S.nx/\f.at_ w' k' g v
  |some o=>∃ob,f= .own S.nx/\o.lt S.nx/\o.at_ w' k' g (v,ob)/\∀b,ob=some b->w.heap.size<=b/\b<w'.heap.size)
theorem zhr(_hs:SatE B N S a w k g){cells:List TF}{cs:Array Value}{t:TypeId}(hlt: ∀f∈cells,f.lt S.nx)(hsz:cs.size=cells.length)
  (hc: ∀(j:Nat) (f:TF) (u:Value),cells[j]?=some f->cs[j]?=some u->u.oneCell'=true/\f.at_ w k g u):
  ∃k',Loc S w k g (w.alloc (.cells cs t)) k' (.own S.nx) (some (.box cells)) (.pointer (some ⟨w.heap.size,0,none⟩)):=by
 have hle:=zqx w k (.cells cs t) 0
 refine⟨kset k w.heap.size 0,zdz w _,λb hb=>zdd b hb,some w.heap.size,rfl,hlt,?_,?_⟩
 ·simp only[Ow.at_]
  exact⟨w.heap.size,cs,t,rfl,zx4 w cs t,zcu,hsz,λj f u hf hu=>⟨(hc j f u hf hu).1,TF.mono hle (hc j f u hf hu).2⟩⟩
 ·intro b hb
  cases hb
  exact⟨Nat.le_refl _,by simp⟩
theorem z12(_hs:SatE B N S a w k g){e:TypeId}{sz n:Nat}{cells:List RV}{cs:Array Value}(pub:Bool)(hsz:cells.length=n*sz)(hn:n<=maxLen)
  (hc:RV.listAt w k cells cs.toList):
  ∃k',Loc S w k g (w.alloc (.cells cs e)) k' (.own S.nx) (some (.ch e sz n cells pub)) (.slice (some ⟨w.heap.size,0,none⟩) n n):=by
 have hle:=zqx w k (.cells cs e) (if pub then n*sz else 0)
 have hcs:cs.size=n*sz:=by rw[<-hsz,<-za7 hc,Array.length_toList]
 refine⟨kset k w.heap.size (if pub then n*sz else 0),zdz w _,λb hb=>zdd b hb,some w.heap.size,rfl,trivial,?_,?_⟩
 ·simp only[Ow.at_]
  refine⟨hsz, .inr ⟨w.heap.size,n,cs,rfl,rfl,zx4 w cs e,Nat.le_refl _,hn,Nat.le_of_eq hcs.symm,zcu,?_⟩⟩
  rw[List.take_of_length_le (by rw[Array.length_toList];omega)]
  exact RV.list_mono hle _ _ hc
 ·intro b hb
  cases hb
  exact⟨Nat.le_refl _,by simp⟩
theorem Loc.sat(hs:SatE B N S a w k g){dst:Option Nat}(hd: ∀d,dst=some d->d<N){w':World}{k':Kp}{f:TF}{ow:Option Ow}{v:Value}(h:Loc S w k g w' k' f ow v):Sat B N (S.new dst f ow) (a.put dst v) w' k':=by
 obtain⟨h1,h2,h3⟩:=h
 cases ow with
 |none=>exact⟨g,(hs.ext h1 h2).put hd h3.1 h3.2⟩
 |some o=>
  obtain⟨ob,_,h4,h5,h6⟩:=h3
  exact⟨_,hs.make hd h1 h2 (vb:=(v,ob)) h4 h5 h6⟩
theorem zq1{ti:TI}(hti:TIOk P ti){z:Value}(hz:z.cells.toList=ti.zero):RV.listAt w k (ti.zero.map ofC) z.cells.toList:=by
 rw[hz];exact zi5 _ hti.one
theorem zd5{kd:IntKind}{x:Int}{y:Nat}{code:BoundsCode}(h0:0<=x)(h1:x<=y):(Instr.sliceBound (.int kd x) y code).run P w= .ok x.toNat w:=by
 simp[Instr.sliceBound,asIntOf,h0,h1]
theorem z0m{t e:TypeId}{p:Option Addr}{n c sz:Nat}{lo hi:Int}{vl vh:Option Value}(hu:P.underlying t=some (.slice e))(hz:(sizeOf e).run P w= .ok sz w)
  (hnc:n<=c) (h0:0<=lo) (h1:lo<=hi) (h2:hi<=n)
  (hvl:(vl=none/\lo=0)\/∃kd,vl=some (.int kd lo)) (hvh:(vh=none/\hi=n)\/∃kd,vh=some (.int kd hi)):
  ∃q,(Instr.sliceAt t (.slice p n c) vl vh none).run P w= .ok (.slice q (hi.toNat-lo.toNat) (c-lo.toNat)) w/\(lo<hi->∀b o,p=some ⟨b,o,none⟩->q=some ⟨b,o+lo.toNat*sz,none⟩):=by
 refine⟨if c=lo.toNat then p else p.map (·.add (lo.toNat*sz)),?_,λhlt b o hpp=>?_⟩
 ·obtain⟨hn,rfl⟩:=Int.eq_ofNat_of_zero_le (show 0<=hi by omega)
  obtain⟨ln,rfl⟩:=Int.eq_ofNat_of_zero_le h0
  have e1: ∀kd,(Instr.sliceBound (.int kd (hn:Int)) c .sliceAcap).run P w= .ok hn w:=λkd=>by rw[zd5 (by omega) (by omega)];simp
  have e0: ∀kd,(Instr.sliceBound (.int kd (ln:Int)) hn .sliceB).run P w= .ok ln w:=λkd=>by rw[zd5 (by omega) (by omega)];simp
  simp only[Int.toNat_natCast]
  rcases hvl with⟨rfl,hl0⟩ |⟨kd,rfl⟩<;>rcases hvh with⟨rfl,hh0⟩ |⟨kd',rfl⟩
  ·obtain rfl:ln=0:=by omega
   obtain rfl:hn=n:=by omega
   simp[Instr.sliceAt,Instr.slice,Instr.sliceBounds,run_underlying hu w,hz]
  ·obtain rfl:ln=0:=by omega
   simp[Instr.sliceAt,Instr.slice,Instr.sliceBounds,run_underlying hu w,hz,e1]
  ·obtain rfl:hn=n:=by omega
   simp[Instr.sliceAt,Instr.slice,Instr.sliceBounds,run_underlying hu w,hz,e0]
  ·simp[Instr.sliceAt,Instr.slice,Instr.sliceBounds,run_underlying hu w,hz,e0,e1]
 ·rw[if_neg (by omega),hpp]
  simp[Addr.add_mid]
theorem zjr{f:FuncId}{fn:Func}{c:Code}(hf:P.funcs[f]?=some fn)(hb:fn.body=some c)(hn:fn.name≠ "runtime.NumGoroutine")(args:Array Value):(callFunc f args).run P w= .ok (.enter f args) w:=by
 simp[callFunc,hf,hb,hn]
theorem zzi{α β:Type}(f:α->Sem β)(h:α->β)(w:World): ∀(l:List α),(∀x∈l,(f x).run P w= .ok (h x) w)->(l.mapM f).run P w= .ok (l.map h) w
 |[],_=>by simp
 |x::r,hx=>by
  rw[List.mapM_cons]
  simp[hx x (by simp),zzi f h w r λy hy=>hx y (by simp[hy])]
theorem zzj{α β:Type}(f:α->Sem β)(h:α->β)(w:World)(l:Array α)(hx: ∀x∈l.toList,(f x).run P w= .ok (h x) w):(l.mapM f).run P w= .ok (l.map h) w:=by
 rw[Array.mapM_eq_mapM_toList]
 simp only[Sem.run_map,zzi f h w l.toList hx,Result.andThen_ok]
 congr 1
 apply Array.ext'
 simp
theorem zrq{p q:Nat->Option (Nat×Nat)}: ∀(l:List (Nat×Value)) (cells:Array Value) (r:Array Value),(∀i v,p i=some v->q i=some v)->Instr.fill p cells l=some r->Instr.fill q cells l=some r
 |[],_,_,_,h=>h
 |(i,v)::l,cells,r,hpq,h=>by
  simp only[Instr.fill]at h⊢
  cases hp:p i with
  |none=>simp[hp]at h
  |some os=>
   obtain⟨off,sz⟩:=os
   rw[hpq i _ hp]
   simp only[hp]at h
   simp only
   split at h
   ·cases h
   ·rename_i hc
    rw[if_neg hc]
    exact zrq l _ r hpq h
theorem z8u(hT:TOk P T){t:TypeId}{ti:TI}{fs:List (Nat×TypeId)}{parts:Array (Nat×Value)}{z:Value}{i:TypeInfo}{vs:Array Value}(q:TIOk P ti)(hq:ti.id=t)(hk:ti.k= .struct fs)
  (hi:P.info? t=some i) (hz:i.zero=some z) (hf:Instr.fill (zfr T fs) z.cells parts.toList=some vs):(Instr.build t parts).run P w= .ok (.agg vs) w:=by
 obtain⟨d,hdd,hko,_⟩:=q.desc
 rw[hq]at hdd
 rw[hk]at hko
 obtain⟨fields,rfl,hfs⟩:=hko
 let pl:Field->Nat×Nat:=λf=>(f.offset,((P.info? f.type).map (·.size)).getD 0)
 have hm:=zzj (P:=P) (λf:Field=>do pure (f.offset,<-sizeOf f.type)) pl w fields λx hx=>by
  obtain⟨j,hj⟩:=q.flds fs hk (x.offset,x.type) (by rw[<-hfs];exact List.mem_map.2 ⟨x,hx,rfl⟩)
  simp only at hj
  simp[sizeOf,typeInfo,hj,pl]
 have hfill:Instr.fill (λx=>(fields.map pl)[x]?) z.cells parts.toList=some vs:=by
  refine zrq _ _ _ ?_ hf
  intro i' v' hv'
  unfold zfr at hv'
  rw[zba]at hv'
  split at hv'
  ·rename_i off t' hl
   split at hv'
   ·rename_i ti' hti'
    cases hv'
    obtain⟨q',hq'⟩:=hT.get hti'
    obtain⟨j,hj,hsz,_⟩:=q'.info
    rw[<-hfs,List.getElem?_map]at hl
    cases hfi:fields.toList[i']? with
    |none=>simp[hfi]at hl
    |some fd=>
     simp only[hfi,Option.map_some,Option.some.injEq,Prod.mk.injEq]at hl
     have hfa:fields[i']?=some fd:=by simpa using hfi
     simp only[Array.getElem?_map,hfa,Option.map_some,pl]
     rw[hl.2,<-hq',hj,hl.1]
     simp[hsz]
   ·cases hv'
  ·cases hv'
 simp only[Instr.build,zeroValue,typeInfo,Sem.run_bind,run_program,Result.andThen_ok,hi,hz,Sem.run_pure,run_underlying hdd w,hm,hfill]
theorem z0h{z:Array Value}{n sz:Nat}(hz:z.size=sz):(madeCells z (n*sz)).toList=(List.replicate n z.toList).flatten:=by
 induction n with
 |zero=>simp[madeCells]
 |succ n ih=>
  rw[List.replicate_succ',List.flatten_append,<-ih]
  simp only[madeCells,Array.toList_map,Array.toList_range,List.flatten_cons,List.flatten_nil,List.append_nil]
  rw[Nat.add_mul,Nat.one_mul,List.range_add,List.map_append,List.map_map]
  congr 1
  apply List.ext_getElem
  ·simp[hz]
  ·intro j h1 h2
   simp only[List.length_map,List.length_range]at h1
   have:(n*sz+j)%sz=j:=by rw[Nat.add_comm,Nat.add_mul_mod_self_right];exact Nat.mod_eq_of_lt h1
   simp[hz,this]
   rw[getElem!_pos z j (by omega)]
theorem z11{te:TI}(qe:TIOk P te){z:Value}(hzc:z.cells.toList=te.zero)(n:Nat):RV.listAt w k (List.replicate n (te.zero.map ofC)).flatten (madeCells z.cells (n*te.sz)).toList:=by
 have hsz:z.cells.size=te.sz:=by rw[<-Array.length_toList,hzc,qe.zsz]
 rw[z0h hsz,hzc]
 induction n with
 |zero=>simp[RV.listAt]
 |succ n ih=>
  rw[List.replicate_succ,List.replicate_succ,List.flatten_cons,List.flatten_cons]
  exact zct (zi5 _ qe.one) ih
theorem zkj{t e:TypeId}{n:Nat}{parts:Array (Nat×Value)}{te:TI}{z:Value}{i:TypeInfo}{vs:Array Value}(hu:P.underlying t=some (.slice e))(hi:P.info? e=some i)(hsz:i.size=te.sz)(hz:i.zero=some z)
  (hbig:n*te.sz<=16777216) (hf:Instr.fill (λi=>some (i*te.sz,te.sz)) (madeCells z.cells (n*te.sz)) parts.toList=some vs):
  (Instr.buildSlice t n parts).run P w= .ok (.slice (some ⟨w.heap.size,0,none⟩) n n) (w.alloc (.cells vs e)):=by
 have hb: ¬n*te.sz>2^24:=by omega
 by_cases h0:n*te.sz=0
 ·have:(Array.range (n*te.sz)).map (#[][· %0]! :Nat->Value)=madeCells z.cells (n*te.sz):=by rw[h0];simp[madeCells]
  simp only[Instr.buildSlice,run_underlying hu w,Sem.run_bind,Result.andThen_ok,sizeOf,typeInfo,run_program,hi,Sem.run_pure,hsz,Sem.run_ite,if_neg hb,if_pos h0]
  simp only[List.size_toArray,List.length_nil]at this⊢
  rw[this,hf]
  simp[newRow]
 ·simp only[Instr.buildSlice,run_underlying hu w,Sem.run_bind,Result.andThen_ok,sizeOf,typeInfo,run_program,hi,Sem.run_pure,hsz,Sem.run_ite,if_neg hb,if_neg h0,zeroValue,hz]
  have:(Array.range (n*te.sz)).map (λx=>z.cells[x%z.cells.size]!)=madeCells z.cells (n*te.sz):=rfl
  rw[this,hf]
  simp[newRow]
theorem z80(w:World){src dst e:TypeId}(hs:P.underlying src=some .string)(hd:P.underlying dst=some (.slice e))(he:P.underlying e=some (.int .u8))(s:ByteArray)(hs0:s.size<=maxLen):
  ∃w' cap,(convert src dst (.string s)).run P w= .ok (.slice (some ⟨w.heap.size,0,none⟩) s.size cap) w'/\Ext w w'/\s.size<=cap/\cap<=maxLen/\w.heap.size<w'.heap.size/\
   ∀(j:Nat) (c:UInt8),s.data.toList[j]?=some c->w'.cell? ⟨w.heap.size,j,none⟩=some (.int .u8 (c.toNat:Int)):=by
 have hge:=grownCap_ge w s.size 0 e
 refine⟨_,_,Lib.run_convert_string_bytes w src dst e s hs hd he,⟨rfl,?_,?_,?_,λb hb=>Lib.bytesWorld_at_old w e s b hb⟩,hge,?_,?_,λj c hc=>?_⟩
 ·simp[Lib.bytesWorld,World.freeze,World.alloc]
 ·simp[Lib.bytesWorld,World.freeze,World.alloc];rfl
 ·rw[Lib.bytesWorld_size];omega
 ·exact grownCap_le_maxLen w s.size 0 e hs0
 ·rw[Lib.bytesWorld_size];omega
 ·have hj:=(List.getElem?_eq_some_iff.1 hc).1
  rw[Array.length_toList]at hj
  rw[Lib.bytesWorld_cell w e s j hj]
  simp[List.getD,hc]
theorem zzh{t:TypeId}{ti:TI}(hti:TIOk P ti)(ht:ti.id=t):(isAgg t).run P w= .ok ti.agg w:=by
 obtain⟨d,hd,_,hrow⟩:=hti.desc
 rw[ht]at hd
 unfold isAgg
 rw[<-hrow]
 simp only[Sem.run_bind,run_underlying hd w,Result.andThen_ok]
 cases d<;>simp[TypeDesc.isRow]
theorem z2d{res:Res}{K:TF->Option Ow->Prop}{w':World}{k':Kp}{v:Value}(hK:resK S K res)(hext:Ext w w')(hk': ∀b,b<w.heap.size->k' b=k b)(hres:res.at_ w.heap.size w' k' v):
  ∃f ow v' k',K f ow/\a.put o.dst v=a.put o.dst v'/\Loc S w k g w' k' f ow v':=by
 cases res with
 |r rv=>exact⟨_,none,v,k',hK,rfl,hext,hk',trivial,hres⟩
 |ch e sz n cells=>
  obtain⟨ob,hch,hob⟩:=hres
  refine⟨_,_,v,k',hK,rfl,hext,hk',ob,rfl,trivial,hch,λb hb=>⟨hob b hb,?_⟩⟩
  rcases hch.2 with⟨h,_⟩ |⟨b',cap,cur,h,_,hh,_⟩
  ·rw[h]at hb;cases hb
  ·rw[h]at hb;cases hb
   exact(Array.getElem?_eq_some_iff.1 hh).1
 |own e sz n cells=>
  obtain⟨ob,hch,hob⟩:=hres
  refine⟨_,_,v,k',hK,rfl,hext,hk',ob,rfl,trivial,hch,λb hb=>⟨hob b hb,?_⟩⟩
  rcases hch.2 with⟨h,_⟩ |⟨b',cap,cur,h,_,hh,_⟩
  ·rw[h]at hb;cases hb
  ·rw[h]at hb;cases hb
   exact(Array.getElem?_eq_some_iff.1 hh).1
 |bx cells=>
  obtain⟨b,cur,t,rfl,hb0,hh,hkb,hsz,hc⟩:=hres
  refine⟨_,_,_,k',hK,rfl,hext,hk',some b,rfl,λf hf=>?_,⟨b,cur,t,rfl,hh,hkb,by simpa using hsz,λj f u hf hu=>?_⟩,λb' hb'=>?_⟩
  ·obtain⟨v,_,rfl⟩:=List.mem_map.1 hf
   trivial
  ·rw[List.getElem?_map]at hf
   cases hv:cells[j]? with
   |none=>rw[hv]at hf;cases hf
   |some v=>
    rw[hv]at hf
    simp only[Option.map_some,Option.some.injEq]at hf
    subst hf
    exact hc j v u hv hu
  ·cases hb'
   exact⟨hb0,(Array.getElem?_eq_some_iff.1 hh).1⟩
theorem zix(_hs:SatE B N S a w k g){f:FuncId}{vs ps:List RV}{us:List Value}{res:Res}{K:TF->Option Ow->Prop}(hus:RV.partsAt w k vs us)(hc:Cvs vs ps)(hg:zab P f ps res)
  (hr:(execOp a.eval o).run P w=(callFunc f us.toArray).run P w)
  (hK:resK S K res):
  o.wp P a w (λa' w'=>∃f ow v k',K f ow/\a'=a.put o.dst v/\Loc S w k g w' k' f ow v) Q:=by
 obtain⟨⟨fn,c,hf,hb,hn⟩,hg⟩:=hg
 unfold Oper.wp
 rw[hr,zjr hf hb hn]
 simp only[Oper.upon]
 refine(hg w k us (hc.at_ hus)).mono ?_
 rintro e w' ⟨v,rfl,hext,k',hk',hres⟩
 exact z2d hK hext hk' hres
theorem zzg{m:Nat}{t e:TypeId}(ad:Addr)(hu:P.underlying t=some (.pointer e)):(Op.equalIn (m+1) t (.pointer (some ad)) (.pointer none)).run P w= .ok false w:=by simp[Op.equalIn,run_underlying hu w]
theorem zkp{t e:TypeId}(ad:Addr)(hu:P.underlying t=some (.pointer e)):(Op.equal t (.pointer (some ad)) (.pointer none)).run P w= .ok false w:=zzg (m:=9999) ad hu
theorem zjm(hs:SatE B N S a w k g){y:Option Operand}{d:Int}{kd:IntKind}{l:Int}(h:optv S y (.r (.i .i64 d))=some (.r (.i kd l))):(y.map a.eval=none/\l=d)\/∃kd,y.map a.eval=some (.int kd l):=by
 cases y with
 |none=>simp only[optv,Option.some.injEq,TF.r.injEq,RV.i.injEq]at h;exact .inl ⟨rfl,h.2.symm⟩
 |some y=>have:=(zah hs h).2;simp only[TF.at_,RV.at_]at this;exact .inr ⟨kd,by simp[this]⟩
theorem zj3{t e:TypeId}{n b sz:Nat}{lo hi:Int}{vl vh:Option Value}(hu:P.underlying t=some (.array n e))(hz:(sizeOf e).run P w= .ok sz w)
  (h0:0<=lo) (h1:lo<=hi) (h2:hi<=n) (h3:lo<n)
  (hvl:(vl=none/\lo=0)\/∃kd,vl=some (.int kd lo)) (hvh:(vh=none/\hi=n)\/∃kd,vh=some (.int kd hi)):
  (Instr.sliceAt t (.pointer (some ⟨b,0,none⟩)) vl vh none).run P w= .ok (.slice (some ⟨b,lo.toNat*sz,none⟩) (hi.toNat-lo.toNat) (n-lo.toNat)) w:=by
 obtain⟨hn,rfl⟩:=Int.eq_ofNat_of_zero_le (show 0<=hi by omega)
 obtain⟨ln,rfl⟩:=Int.eq_ofNat_of_zero_le h0
 have e1: ∀kd,(Instr.sliceBound (.int kd (hn:Int)) n .sliceAlen).run P w= .ok hn w:=λkd=>by rw[zd5 (by omega) (by omega)];simp
 have e0: ∀kd,(Instr.sliceBound (.int kd (ln:Int)) hn .sliceB).run P w= .ok ln w:=λkd=>by rw[zd5 (by omega) (by omega)];simp
 have hne: ¬n=ln:=by omega
 simp only[Int.toNat_natCast]
 rcases hvl with⟨rfl,hl0⟩ |⟨kd,rfl⟩<;>rcases hvh with⟨rfl,hh0⟩ |⟨kd',rfl⟩
 ·obtain rfl:ln=0:=by omega
  obtain rfl:hn=n:=by omega
  simp[Instr.sliceAt,Instr.sliceBounds,Instr.sureAddr,run_underlying hu w,hz,hne,Addr.add_mid]
 ·obtain rfl:ln=0:=by omega
  simp[Instr.sliceAt,Instr.sliceBounds,Instr.sureAddr,run_underlying hu w,hz,e1,hne,Addr.add_mid]
 ·obtain rfl:hn=n:=by omega
  simp[Instr.sliceAt,Instr.sliceBounds,Instr.sureAddr,run_underlying hu w,hz,e0,hne,Addr.add_mid]
 ·simp[Instr.sliceAt,Instr.sliceBounds,Instr.sureAddr,run_underlying hu w,hz,e0,e1,hne,Addr.add_mid]
theorem zoh{t e:TypeId}{n c b off sz:Nat}{lo hi:Int}{vl vh:Option Value}(hu:P.underlying t=some (.slice e))(hz:(sizeOf e).run P w= .ok sz w)
  (hnc:n<=c) (h0:0<=lo) (h1:lo<=hi) (h2:hi<=n) (h3:lo<n)
  (hvl:(vl=none/\lo=0)\/∃kd,vl=some (.int kd lo)) (hvh:(vh=none/\hi=n)\/∃kd,vh=some (.int kd hi)):
  (Instr.sliceAt t (.slice (some ⟨b,off,none⟩) n c) vl vh none).run P w= .ok (.slice (some ⟨b,off+lo.toNat*sz,none⟩) (hi.toNat-lo.toNat) (c-lo.toNat)) w:=by
 obtain⟨hn,rfl⟩:=Int.eq_ofNat_of_zero_le (show 0<=hi by omega)
 obtain⟨ln,rfl⟩:=Int.eq_ofNat_of_zero_le h0
 have e1: ∀kd,(Instr.sliceBound (.int kd (hn:Int)) c .sliceAcap).run P w= .ok hn w:=λkd=>by rw[zd5 (by omega) (by omega)];simp
 have e0: ∀kd,(Instr.sliceBound (.int kd (ln:Int)) hn .sliceB).run P w= .ok ln w:=λkd=>by rw[zd5 (by omega) (by omega)];simp
 have hne: ¬c=ln:=by omega
 simp only[Int.toNat_natCast]
 rcases hvl with⟨rfl,hl0⟩ |⟨kd,rfl⟩<;>rcases hvh with⟨rfl,hh0⟩ |⟨kd',rfl⟩
 ·obtain rfl:ln=0:=by omega
  obtain rfl:hn=n:=by omega
  simp[Instr.sliceAt,Instr.slice,Instr.sliceBounds,run_underlying hu w,hz,hne,Addr.add_mid]
 ·obtain rfl:ln=0:=by omega
  simp[Instr.sliceAt,Instr.slice,Instr.sliceBounds,run_underlying hu w,hz,e1,hne,Addr.add_mid]
 ·obtain rfl:hn=n:=by omega
  simp[Instr.sliceAt,Instr.slice,Instr.sliceBounds,run_underlying hu w,hz,e0,hne,Addr.add_mid]
 ·simp[Instr.sliceAt,Instr.slice,Instr.sliceBounds,run_underlying hu w,hz,e0,e1,hne,Addr.add_mid]
theorem z2w(hT:TOk P T)(hs:SatE B N S a w k g){ti:TI}{f:TF}{u:Value}{lo hi:Option Operand}{K:TF->Option Ow->Prop}(hti:TIOk P ti)(hu:f.at_ w k g u)(hlt:f.lt S.nx)(h:cutv T S ti f lo hi K):
  ∃f' v,K f' none/\f'.lt S.nx/\f'.at_ w k g v/\(Instr.sliceAt ti.id u (lo.map a.eval) (hi.map a.eval) none).run P w= .ok v w:=by
 obtain⟨d,hdd,hko,_⟩:=hti.desc
 unfold cutv at h
 split at h
 ·rename_i e hk
  rw[hk]at hko
  simp only[KOk]at hko
  subst hko
  split at h
  ·rename_i te hte
   obtain⟨qe,hqe⟩:=hT.get hte
   have hsz:=zbm (w:=w) qe hqe
   split at h
   ·rename_i id
    split at h
    ·rename_i e' sz n cells hoo
     split at h
     ·rename_i kl l kh hh hlo hhi
      obtain⟨h0,h1,h2,h3,h9,l',m',rfl,rfl,h⟩:=h
      obtain⟨hid,_,hat,_⟩:=hs.owns id _ hoo
      simp only[Ow.at_]at hat
      simp only[TF.at_]at hu
      obtain⟨_,hat⟩:=hat
      rcases hat with⟨_,⟨h4,_⟩ |⟨_,h4,_⟩⟩ |⟨b,cap,cur,e1,e2,_,hnc,hcm,_⟩
      ·omega
      ·cases h4
      ·rw[hu,e2]
       refine⟨_,_,h,hid,?_,zoh hdd hsz hnc h0 h1 h2 h3 (zjm hs hlo) (zjm hs hhi)⟩
       simp only[TF.at_]
       exact⟨b,_,e1,by rw[Nat.zero_add],by omega,by omega⟩
     ·exact h.elim
    ·exact h.elim
   ·rename_i id off n
    split at h
    ·rename_i kl l kh hh hlo hhi
     obtain⟨h0,h1,h2,h3,h9,l',m',rfl,rfl,h⟩:=h
     simp only[TF.at_]at hu
     obtain⟨b,c,hb,rfl,hnc,hcm⟩:=hu
     refine⟨_,_,h,hlt,?_,zoh hdd hsz hnc h0 h1 h2 h3 (zjm hs hlo) (zjm hs hhi)⟩
     simp only[TF.at_]
     exact⟨b,_,hb,rfl,by omega,by omega⟩
    ·exact h.elim
   ·exact h.elim
  ·exact h.elim
 ·rename_i n e hk
  rw[hk]at hko
  simp only[KOk]at hko
  subst hko
  split at h
  ·rename_i te hte
   obtain⟨qe,hqe⟩:=hT.get hte
   have hsz:=zbm (w:=w) qe hqe
   split at h
   ·rename_i id
    split at h
    ·rename_i cells hoo
     split at h
     ·rename_i kl l kh hh hlo hhi
      obtain⟨h0,h1,h2,h3,h9,l',m',rfl,rfl,h⟩:=h
      obtain⟨hid,_,hat,_⟩:=hs.owns id _ hoo
      simp only[Ow.at_]at hat
      simp only[TF.at_]at hu
      obtain⟨b,cur,ty,e1,_⟩:=hat
      rw[hu,e1]
      refine⟨_,_,h,hid,?_,zj3 hdd hsz h0 h1 h2 h3 (zjm hs hlo) (zjm hs hhi)⟩
      simp only[TF.at_]
      exact⟨b,_,by rw[e1],rfl,by omega,by omega⟩
     ·exact h.elim
    ·exact h.elim
   ·exact h.elim
  ·exact h.elim
 ·exact h.elim
theorem zzt(hT:TOk P T)(hs:SatE B N S a w k g){K:TF->Option Ow->Prop}(hrd:zc7 o.op=true)(h:valv P T S o K):
  o.wp P a w (λa' w'=>∃f ow v k',K f ow/\a'=a.put o.dst v/\Loc S w k g w' k' f ow v) Q:=by
 have keep: ∀{f:TF} {v:Value},K f none->f.lt S.nx->f.at_ w k g v->(execOp a.eval o).run P w= .ok (.value v) w->o.wp P a w (λa' w'=>∃f ow v k',K f ow/\a'=a.put o.dst v/\Loc S w k g w' k' f ow v) Q:=
  λ{f v} hK hl hf hr=>za0 hr ⟨f,none,v,k,hK,rfl,Ext.refl w,λ_ _=>rfl,hl,hf⟩
 have fn: ∀{xs:List Operand},Vfun P S o xs (λr=>K (.r r) none)->o.wp P a w (λa' w'=>∃f ow v k',K f ow/\a'=a.put o.dst v/\Loc S w k g w' k' f ow v) Q:=λ{xs} ⟨rs,hrs,r,hf,hK⟩=>by
  obtain⟨v,hr,hat⟩:=hf a w k (zpe hs hrs)
  exact keep hK trivial hat hr
 unfold valv at h
 cases hop:o.op<;>rw[hop]at h<;>simp only[zw1]at h
 case move x=>
  split at h
  ·rename_i f hf;exact keep h (zah hs hf).1 (zah hs hf).2 (by simp[execOp,hop])
  ·exact h.elim
 case assign x=>
  split at h
  ·rename_i f hf;exact keep h (zah hs hf).1 (zah hs hf).2 (by simp[execOp,hop])
  ·exact h.elim
 case pick c x y=>
  split at h
  ·rename_i β hc
   have hcv:=(zah hs hc).2
   simp only[TF.at_,RV.at_]at hcv
   split at h
   ·split at h
    ·rename_i f hf;exact keep h (zah hs hf).1 (zah hs hf).2 (by simp[execOp,hop,hcv,asBool])
    ·exact h.elim
   ·split at h
    ·rename_i f hf;exact keep h (zah hs hf).1 (zah hs hf).2 (by simp[execOp,hop,hcv,asBool])
    ·exact h.elim
  ·exact h.elim
 case nilCheck x=>
  split at h
  ·rename_i id hx
   split at h
   ·rename_i cells hoo
    have hat:=(hs.owns _ _ hoo).2.2.1
    have hx':=zah hs hx
    simp only[Ow.at_]at hat
    obtain⟨b,cur,ty,e,_⟩:=hat
    refine keep h hx'.1 hx'.2 ?_
    have:=hx'.2
    simp only[TF.at_]at this
    simp[execOp,hop,this,e]
   ·exact h.elim
  ·rename_i id off hx
   have hx':=zah hs hx
   refine keep h hx'.1 hx'.2 ?_
   have:=hx'.2
   simp only[TF.at_]at this
   obtain⟨b,_,e⟩:=this
   simp[execOp,hop,e]
  ·rename_i c hx
   have hx':=zah hs hx
   refine keep h hx'.1 hx'.2 ?_
   have:=hx'.2
   simp only[TF.at_,RV.at_]at this
   obtain⟨b,o,e,_⟩:=this
   simp[execOp,hop,e]
  ·rename_i q hx
   have hx':=zah hs hx
   refine keep h hx'.1 hx'.2 ?_
   have:=hx'.2
   simp only[TF.at_,RV.at_]at this
   simp[execOp,hop,this]
  ·exact h.elim
 case alloc t=>
  split at h
  ·rename_i ti hti
   obtain⟨q,hq⟩:=hT.get hti
   obtain⟨i,hi,_,_,z,hz,hzc⟩:=q.info
   rw[hq]at hi
   have hl:=zq1 (w:=w) (k:=k) q hzc
   rw[RV.listAt_iff]at hl
   obtain⟨k',hk'⟩:=zhr hs (cells:=ti.zero.map λv=> .r (ofC v)) (cs:=z.cells) (t:=t) (by simp[TF.lt]) (by rw[<-Array.length_toList,hzc];simp) (λj f u hf hu=>by
    rw[List.getElem?_map]at hf
    cases hv:ti.zero[j]? with
    |none=>simp[hv]at hf
    |some v=>
     simp only[hv,Option.map_some,Option.some.injEq]at hf
     subst hf
     exact hl.2 j (ofC v) u (by simp[hv]) (by simpa using hu))
   refine za0 (v:= .pointer (some ⟨w.heap.size,0,none⟩)) (w':=w.alloc (.cells z.cells t)) ?_ ⟨_,_,_,k',h,rfl,hk'⟩
   simp[execOp,hop,Instr.alloc,zeroValue,typeInfo,hi,hz,newVar,newRow]
  ·exact h.elim
 case box t x=>
  split at h
  ·rename_i l hx
   have hx':=(zah hs hx).2
   simp only[TF.at_,RV.at_]at hx'
   obtain⟨us,e,hl⟩:=hx'
   have hll:=za7 hl
   rw[Array.length_toList]at hll
   rw[RV.listAt_iff]at hl
   obtain⟨k',hk'⟩:=zhr hs (cells:=l.map .r) (cs:=us) (t:=t) (by simp[TF.lt]) (by simp[hll]) (λj f u hf hu=>by
    rw[List.getElem?_map]at hf
    cases hv:l[j]? with
    |none=>simp[hv]at hf
    |some v=>
     simp only[hv,Option.map_some,Option.some.injEq]at hf
     subst hf
     exact hl.2 j v u hv (by simpa using hu))
   refine za0 (v:= .pointer (some ⟨w.heap.size,0,none⟩)) (w':=w.alloc (.cells us t)) ?_ ⟨_,_,_,k',h,rfl,hk'⟩
   simp[execOp,hop,Instr.box,newVar,newRow,e,Value.cells]
  ·rename_i v hna hx
   split at h
   ·rename_i hok
    have hx':=(zah hs hx).2
    simp only[TF.at_]at hx'
    have h1:=RV.one_at hx' hok hna
    obtain⟨k',hk'⟩:=zhr hs (cells:=[.r v]) (cs:= #[a.eval x]) (t:=t) (by simp[TF.lt]) (by simp) (λj f u hf hu=>by
     cases j with
     |zero=>simp at hf hu;subst hf;subst hu;exact⟨h1,hx'⟩
     |succ j=>simp at hf)
    refine za0 (v:= .pointer (some ⟨w.heap.size,0,none⟩)) (w':=w.alloc (.cells #[a.eval x] t)) ?_ ⟨_,_,_,k',h,rfl,hk'⟩
    simp[execOp,hop,Instr.box,newVar,newRow,zgu h1]
   ·exact h.elim
  ·rename_i id hx
   split at h
   ·rename_i ow hoo
    have hx':=zah hs hx
    have h1:(a.eval x).oneCell'=true:=by
     have:=hx'.2
     simp only[TF.at_]at this
     rw[this];exact z18 hs hoo
    obtain⟨k',hk'⟩:=zhr hs (cells:=[.own id]) (cs:= #[a.eval x]) (t:=t) (by simpa using hx'.1) (by simp) (λj f' u hf hu=>by
     cases j with
     |zero=>simp at hf hu;subst hf;subst hu;exact⟨h1,hx'.2⟩
     |succ j=>simp at hf)
    refine za0 (v:= .pointer (some ⟨w.heap.size,0,none⟩)) (w':=w.alloc (.cells #[a.eval x] t)) ?_ ⟨_,_,_,k',h,rfl,hk'⟩
    simp[execOp,hop,Instr.box,newVar,newRow,zgu h1]
   ·exact h.elim
  ·rename_i id off hx
   have hx':=zah hs hx
   have h1:(a.eval x).oneCell'=true:=by
    have:=hx'.2
    simp only[TF.at_]at this
    obtain⟨b,_,e⟩:=this
    rw[e];rfl
   obtain⟨k',hk'⟩:=zhr hs (cells:=[.adr id off]) (cs:= #[a.eval x]) (t:=t) (by simpa using hx'.1) (by simp) (λj f' u hf hu=>by
    cases j with
    |zero=>simp at hf hu;subst hf;subst hu;exact⟨h1,hx'.2⟩
    |succ j=>simp at hf)
   refine za0 (v:= .pointer (some ⟨w.heap.size,0,none⟩)) (w':=w.alloc (.cells #[a.eval x] t)) ?_ ⟨_,_,_,k',h,rfl,hk'⟩
   simp[execOp,hop,Instr.box,newVar,newRow,zgu h1]
  ·exact h.elim
  ·exact h.elim
  ·exact h.elim
 case load t x=>
  split at h
  ·rename_i ti f hti hx
   obtain⟨q,hq⟩:=hT.get hti
   obtain⟨f',v,hK,hl,hf,hr⟩:=zvi hs q hq (zah hs hx).2 h
   exact keep hK hl hf (by simp[execOp,hop,hr])
  ·exact h.elim
 case fieldAddr t x i=>
  split at h
  ·rename_i ti f hti hx
   obtain⟨q,hq⟩:=hT.get hti
   have hx':=zah hs hx
   split at h
   ·rename_i fs hk
    split at h
    ·rename_i off sz hp
     split at h
     ·exact h.elim
     ·rename_i sz' hne
      split at h
      ·rename_i id
       split at h
       ·rename_i cells hoo
        have hat:=(hs.owns _ _ hoo).2.2.1
        simp only[Ow.at_]at hat
        obtain⟨b,cur,ty,e,_⟩:=hat
        have e2:=hx'.2
        simp only[TF.at_]at e2
        rw[e]at e2
        refine keep h hx'.1 (v:= .pointer (some ⟨b,0+off,none⟩)) (by simp only[TF.at_];exact⟨b,by rw[e],by simp⟩) ?_
        simp[execOp,hop,e2,zib hT q hq hk hp hne]
       ·exact h.elim
      ·rename_i id o'
       have e2:=hx'.2
       simp only[TF.at_]at e2
       obtain⟨b,hb,e⟩:=e2
       refine keep h hx'.1 (v:= .pointer (some ⟨b,o'+off,none⟩)) (by simp only[TF.at_];exact⟨b,hb,rfl⟩) ?_
       simp[execOp,hop,e,zib hT q hq hk hp hne]
      ·rename_i cells
       have e2:=hx'.2
       simp only[TF.at_,RV.at_]at e2
       obtain⟨b,o',e,hb,hc⟩:=e2
       refine keep h trivial (v:= .pointer (some ⟨b,o'+off,none⟩)) (by simp only[TF.at_,RV.at_];exact⟨b,_,rfl,hb,RV.cellsAt_drop hc _⟩) ?_
       simp[execOp,hop,e,zib hT q hq hk hp hne]
      ·rename_i b o'
       have e2:=hx'.2
       simp only[TF.at_,RV.at_]at e2
       refine keep h trivial (v:= .pointer (some ⟨b,o'+off,none⟩)) (by simp only[TF.at_,RV.at_]) ?_
       simp[execOp,hop,e2,zib hT q hq hk hp hne]
      ·exact h.elim
    ·exact h.elim
   ·exact h.elim
  ·exact h.elim
 case indexAddr t x i=>
  split at h
  ·rename_i f kd n hx hi
   have hx':=zah hs hx
   have hi':=(zah hs hi).2
   simp only[TF.at_,RV.at_]at hi'
   obtain⟨f',v,hK,hl,hf,hr⟩:=z4d (kd:=kd) hT hs hx'.2 hx'.1 h
   exact keep hK hl hf (by simp[execOp,hop,hi',hr])
  ·exact h.elim
 case index t x i=>
  split at h
  ·rename_i cells kd n hx hi
   have hx':=(zah hs hx).2
   have hi':=(zah hs hi).2
   simp only[TF.at_,RV.at_]at hx' hi'
   obtain⟨us,hx',hl⟩:=hx'
   split at h
   ·rename_i ti hti
    obtain⟨q,hq⟩:=hT.get hti
    obtain⟨d,hdd,hko,_⟩:=q.desc
    rw[hq]at hdd
    split at h
    ·rename_i m e hk
     rw[hk]at hko
     simp only[KOk]at hko
     subst hko
     split at h
     ·rename_i te hte
      obtain⟨qe,hqe⟩:=hT.get hte
      have hz:=zbm (w:=w) qe hqe
      have hag:=zzh (w:=w) qe hqe
      obtain⟨h0,h1,cs,hcs,h⟩:=h
      have hsub:RV.listAt w k cs ((us.toList.drop (n.toNat*te.sz)).take te.sz):=hcs▸zdg (zew hl _) _
      have hrun:(execOp a.eval o).run P w=((part e us (n.toNat*te.sz)).run P w).andThen λv w=> .ok (.value v) w:=by
       simp[execOp,hop,hx',hi',Instr.index,asIntOf,run_underlying hdd w,h0,h1,hz]
      split at h
      ·rename_i ha
       rw[ha]at hag
       refine keep h trivial (v:= .agg (us.extract (n.toNat*te.sz) (n.toNat*te.sz+te.sz))) (by
        simp only[TF.at_,RV.at_]
        refine⟨_,rfl,?_⟩
        rw[Array.toList_extract,List.extract_eq_take_drop,Nat.add_sub_cancel_left]
        exact hsub) (hrun.trans ?_)
       simp[part,hag,hz]
      ·rename_i ha
       rw[ha]at hag
       cases cs with
       |nil=>exact h.elim
       |cons c r=>
        simp only[RV.listAt]at hsub
        obtain⟨u,r',hu,_,hat,_⟩:=hsub
        have hget:us[n.toNat*te.sz]?=some u:=by
         have h2:((us.toList.drop (n.toNat*te.sz)).take te.sz)[0]?=some u:=by rw[hu];rfl
         rw[List.getElem?_take]at h2
         split at h2
         ·rw[List.getElem?_drop]at h2
          simpa using h2
         ·cases h2
        refine keep h trivial (v:=u) hat (hrun.trans ?_)
        simp[part,hag,hget]
     ·exact h.elim
    ·exact h.elim
   ·exact h.elim
  ·exact h.elim
 case binOp op t x y t2=>
  split at h
  ·rename_i kd m kd' n hx hy
   have hx':=(zah hs hx).2
   have hy':=(zah hs hy).2
   simp only[TF.at_,RV.at_]at hx' hy'
   split at h
   ·obtain⟨h0,r,rfl,h⟩:=h
    exact keep h trivial (by simp only[TF.at_,RV.at_];rfl) (by simp[execOp,hop,hx',hy',eqGuard,binOp,Op.shift,show¬n<0 by omega])
   ·obtain⟨h0,r,rfl,h⟩:=h
    exact keep h trivial (by simp only[TF.at_,RV.at_];rfl) (by simp[execOp,hop,hx',hy',eqGuard,binOp,Op.shift,show¬n<0 by omega])
   ·split at h
    ·rename_i hkk
     obtain rfl:=zejb hkk
     obtain⟨v,u,hK,hat,hr⟩:=z2t h
     refine keep hK trivial (v:=u) (hat w k) ?_
     have:=hr P w t x y
     simp only[execOp,hop,hx',hy']
     rw[Sem.run_bind,this]
     rfl
    ·exact h.elim
  ·rename_i s1 s2 hx hy
   have hx':=(zah hs hx).2
   have hy':=(zah hs hy).2
   simp only[TF.at_,RV.at_]at hx' hy'
   split at h
   ·obtain⟨h0,h⟩:=h
    have hlt: ¬((s1.size+s2.size:Nat):Int)>IntKind.i64.max:=by
     have:IntKind.i64.max=9223372036854775807:=by decide
     omega
    refine keep h trivial (by simp only[TF.at_,RV.at_];rfl) ?_
    simp only[execOp,hop,hx',hy',eqGuard,binOp,Op.stringOp,if_neg hlt]
    simp
   ·obtain⟨r,rfl,h⟩:=h
    exact keep h trivial (by simp only[TF.at_,RV.at_];rfl) (by simp[execOp,hop,hx',hy',eqGuard,binOp,Op.stringOp])
   ·obtain⟨r,rfl,h⟩:=h
    exact keep h trivial (by simp only[TF.at_,RV.at_];rfl) (by simp[execOp,hop,hx',hy',eqGuard,binOp,Op.stringOp])
   ·exact h.elim
  ·rename_i b1 b2 hx hy
   have hx':=(zah hs hx).2
   have hy':=(zah hs hy).2
   simp only[TF.at_,RV.at_]at hx' hy'
   split at h
   ·rename_i ti hti
    obtain⟨q,hq⟩:=hT.get hti
    obtain⟨d,hdd,hko,_⟩:=q.desc
    rw[hq]at hdd
    split at h
    ·rename_i hk
     rw[hk]at hko
     simp only[KOk]at hko
     subst hko
     split at h
     ·obtain⟨r,rfl,h⟩:=h
      exact keep h trivial (by simp only[TF.at_,RV.at_];rfl) (by simp[execOp,hop,hx',hy',eqGuard,run_eql_bool w t b1 b2 hdd])
     ·obtain⟨r,rfl,h⟩:=h
      exact keep h trivial (by simp only[TF.at_,RV.at_];rfl) (by simp[execOp,hop,hx',hy',eqGuard,run_neq_bool w t b1 b2 hdd])
     ·exact h.elim
    ·exact h.elim
   ·exact h.elim
  ·rename_i id hx hy
   have hx':=(zah hs hx).2
   have hy':=(zah hs hy).2
   simp only[TF.at_,RV.at_]at hx' hy'
   split at h
   ·rename_i cells ho
    have hown:=(hs.owns id _ ho).2.2.1
    simp only[Ow.at_]at hown
    obtain⟨b,_,_,e,_⟩:=hown
    rw[e]at hx'
    simp only at hx'
    split at h
    ·obtain⟨⟨e',he⟩,h⟩:=h
     have eq:=zkp (w:=w) ⟨b,0,none⟩ he
     exact keep h trivial (by simp only[TF.at_,RV.at_];rfl) (by simp[execOp,hop,hx',hy',eqGuard,binOp,eq])
    ·obtain⟨⟨e',he⟩,h⟩:=h
     have eq:=zkp (w:=w) ⟨b,0,none⟩ he
     exact keep h trivial (by simp only[TF.at_,RV.at_];rfl) (by simp[execOp,hop,hx',hy',eqGuard,binOp,eq])
    ·exact h.elim
   ·exact h.elim
  ·exact fn h
 case unOp op t x=>
  split at h
  ·rename_i b1 hx
   have hx':=(zah hs hx).2
   simp only[TF.at_,RV.at_]at hx'
   split at h
   ·obtain⟨r,rfl,h⟩:=h
    exact keep h trivial (by simp only[TF.at_,RV.at_];rfl) (by simp[execOp,hop,hx',Op.unary])
   ·exact h.elim
  ·rename_i kd m hx
   have hx':=(zah hs hx).2
   simp only[TF.at_,RV.at_]at hx'
   split at h
   ·obtain⟨r,rfl,h⟩:=h
    exact keep h trivial (by simp only[TF.at_,RV.at_];rfl) (by simp[execOp,hop,hx',Op.unary,Op.intArith])
   ·obtain⟨r,rfl,h⟩:=h
    exact keep h trivial (by simp only[TF.at_,RV.at_];rfl) (by simp[execOp,hop,hx',Op.unary,Op.intBits])
   ·exact h.elim
  ·exact fn h
 case convert t1 t x=>
  split at h
  ·rename_i ti0 ti kd n hti0 hti hx
   obtain⟨q0,hq0⟩:=hT.get hti0
   obtain⟨d0,hd0,_,_⟩:=q0.desc
   rw[hq0]at hd0
   obtain⟨q,hq⟩:=hT.get hti
   obtain⟨d,hdd,hko,_⟩:=q.desc
   rw[hq]at hdd
   have hx':=(zah hs hx).2
   simp only[TF.at_,RV.at_]at hx'
   split at h
   ·rename_i kd' hk
    rw[hk]at hko
    simp only[KOk]at hko
    subst hko
    obtain⟨r,rfl,h⟩:=h
    refine keep h trivial (v:= .int kd' (kd'.wrap n)) (by simp only[TF.at_,RV.at_]) ?_
    simp only[execOp,hop,hx',convert,Sem.run_bind,run_underlying hd0 w,run_underlying hdd w,Result.andThen_ok]
    cases d0<;>simp[Conv.intToInt]
   ·exact fn h
  ·rename_i ti0 ti s hti0 hti hx
   split at h
   ·rename_i e hk0 hk
    obtain⟨q0,hq0⟩:=hT.get hti0
    obtain⟨d0,hd0,hko0,_⟩:=q0.desc
    rw[hq0]at hd0
    obtain⟨q,hq⟩:=hT.get hti
    obtain⟨d,hdd,hko,_⟩:=q.desc
    rw[hq]at hdd
    rw[hk0]at hko0
    rw[hk]at hko
    simp only[KOk]at hko hko0
    subst hko
    subst hko0
    split at h
    ·rename_i te hte
     obtain⟨qe,hqe⟩:=hT.get hte
     obtain⟨de,hde,hkoe,_⟩:=qe.desc
     rw[hqe]at hde
     split at h
     ·rename_i hke
      rw[hke]at hkoe
      simp only[KOk]at hkoe
      subst hkoe
      have hx':=(zah hs hx).2
      simp only[TF.at_,RV.at_]at hx'
      obtain⟨w',cap,hr,hext,hcap,hmax,hsz,hcell⟩:=z80 w hd0 hdd hde s (by simpa[maxLen]using h.1)
      refine za0 (by simp only[execOp,hop,hx'];rw[Sem.run_bind,hr];rfl) ⟨_,none,_,kset k w.heap.size s.size,h.2,rfl,hext,λb hb=>zdd b hb,trivial,?_⟩
      simp only[TF.at_,RV.at_]
      refine⟨_,_,rfl,hcap,hmax,(by rw[List.length_map,Array.length_toList,Nat.mul_one];rfl),λ_=>⟨_,_,rfl,hsz,?_⟩⟩
      rw[RV.cellsAt_iff]
      intro j f hf
      rw[List.getElem?_map]at hf
      obtain⟨c,hc,rfl⟩:=Option.map_eq_some_iff.1 hf
      have hj:j<s.size:=by have h1:=(List.getElem?_eq_some_iff.1 hc).1;rw[Array.length_toList]at h1;exact h1
      refine⟨by rw[zcu];omega,_,by rw[Nat.zero_add];exact hcell j c hc,rfl,by simp[RV.at_]⟩
     ·exact fn h
    ·exact fn h
   ·exact fn h
  ·exact fn h
 case extract x i=>
  split at h
  ·rename_i l hx
   rw[zba]at h
   split at h
   ·rename_i v hv
    have hx':=(zah hs hx).2
    simp only[TF.at_,RV.at_]at hx'
    obtain⟨us,e,hl⟩:=hx'
    obtain⟨u,hu,hat⟩:=zp7 hl hv
    have hu':us[i]?=some u:=by simpa using hu
    exact keep h trivial hat (by simp[execOp,hop,e,Instr.extract,hu'])
   ·exact h.elim
  ·exact h.elim
 case build t parts=>
  split at h
  ·rename_i ti hti
   obtain⟨q,hq⟩:=hT.get hti
   obtain⟨d,hdd,hko,_⟩:=q.desc
   rw[hq]at hdd
   obtain⟨i,hi,_,_,z,hz,hzc⟩:=q.info
   rw[hq]at hi
   split at h
   ·rename_i fs hk
    rw[hk]at hko
    obtain⟨fields,rfl,hf⟩:=hko
    obtain⟨cells',vs',hK,_,hl,hfill⟩:=zh3 hs (zq1 q hzc) h
    refine keep hK trivial (v:= .agg vs') (by simp only[TF.at_,RV.at_];exact⟨vs',rfl,hl⟩) ?_
    have:=z8u (w:=w) hT q hq hk hi hz (parts:=parts.map λ(i,x)=>(i,a.eval x)) (by rw[Array.toList_map];exact hfill)
    simp only[execOp,hop,Sem.run_bind,this]
    rfl
   ·rename_i m e hk
    rw[hk]at hko
    simp only[KOk]at hko
    subst hko
    split at h
    ·rename_i te hte
     obtain⟨qe,hqe⟩:=hT.get hte
     have hsz:=zbm (w:=w) qe hqe
     obtain⟨cells',vs',hK,_,hl,hfill⟩:=zh3 hs (zq1 q hzc) h
     refine keep hK trivial (v:= .agg vs') (by simp only[TF.at_,RV.at_];exact⟨vs',rfl,hl⟩) ?_
     have key: ∀ps:Array (Nat×Value),Instr.fill (λi=>some (i*te.sz,te.sz)) z.cells ps.toList=some vs'->(Instr.build t ps).run P w= .ok (.agg vs') w:=λps h=>by
      simp[Instr.build,zeroValue,typeInfo,hi,hz,run_underlying hdd w,hsz,h]
     have:=key (parts.map λ(i,x)=>(i,a.eval x)) (by rw[Array.toList_map];exact hfill)
     simp only[execOp,hop,Sem.run_bind,this]
     rfl
    ·exact h.elim
   ·exact h.elim
  ·exact h.elim
 case buildSlice t n parts=>
  split at h
  ·rename_i ti hti
   obtain⟨q,hq⟩:=hT.get hti
   obtain⟨d,hdd,hko,_⟩:=q.desc
   rw[hq]at hdd
   split at h
   ·rename_i e hk
    rw[hk]at hko
    simp only[KOk]at hko
    subst hko
    split at h
    ·rename_i te hte
     obtain⟨qe,hqe⟩:=hT.get hte
     obtain⟨i,hi,hsz,_,z,hz,hzc⟩:=qe.info
     rw[hqe]at hi
     split at h
     ·rename_i hbig
      simp only[Bool.and_eq_true,Nat.ble_eq]at hbig
      have hbig':n*te.sz<=16777216:=hbig.1
      obtain⟨cells',vs',⟨pub,hK⟩,hlen,hl,hfill⟩:=zh3 hs (z11 qe hzc n) h
      have hr:=zkj (w:=w) hdd hi hsz hz hbig' (parts:=parts.map λ(i,x)=>(i,a.eval x)) (by rw[Array.toList_map];exact hfill)
      obtain⟨k',hk'⟩:=z12 (e:=e) (sz:=te.sz) (n:=n) (cells:=cells') (cs:=vs') hs pub (by rw[hlen];simp[qe.zsz]) (by have:=hbig.2;simp only[maxLen];omega) hl
      refine za0 ?_ ⟨_,_,_,k',hK,rfl,hk'⟩
      simp only[execOp,hop,Sem.run_bind,hr]
      rfl
     ·exact h.elim
    ·exact h.elim
   ·exact h.elim
  ·exact h.elim
 case slice t x lo hi mx=>
  split at h
  ·rename_i ti f hti hx
   obtain⟨q,hq⟩:=hT.get hti
   obtain⟨d,hdd,hko,_⟩:=q.desc
   rw[hq]at hdd
   split at h
   ·rename_i e sz n cells hk hrv
    rw[hk]at hko
    simp only[KOk]at hko
    subst hko
    have hx':=zgm hs hrv (zah hs hx).2
    simp only[RV.at_]at hx'
    obtain⟨p,c,hxe,hnc,hcm,hcl,hcells⟩:=hx'
    split at h
    ·exact h.elim
    ·rename_i hte
     split at hte
     ·rename_i te hte'
      obtain⟨qe,hqe⟩:=hT.get hte'
      have hsz:=zbm (w:=w) qe hqe
      have hes:te.sz=sz:=Nat.eq_of_beq_eq_true hte
      rw[hes]at hsz
      split at h
      ·rename_i kl l kh hh hlo hhi
       obtain⟨h0,h1,h2,m,cs,rfl,hcs,h⟩:=h
       have hvl:(lo.map a.eval=none/\l=0)\/∃kd,lo.map a.eval=some (.int kd l):=by
        cases lo with
        |none=>simp only[optv,Option.some.injEq,TF.r.injEq,RV.i.injEq]at hlo;exact .inl ⟨rfl,hlo.2.symm⟩
        |some lo=>have:=(zah hs hlo).2;simp only[TF.at_,RV.at_]at this;exact .inr ⟨kl,by simp[this]⟩
       have hvh:(hi.map a.eval=none/\hh=n)\/∃kd,hi.map a.eval=some (.int kd hh):=by
        cases hi with
        |none=>simp only[optv,Option.some.injEq,TF.r.injEq,RV.i.injEq]at hhi;exact .inl ⟨rfl,hhi.2.symm⟩
        |some hi=>have:=(zah hs hhi).2;simp only[TF.at_,RV.at_]at this;exact .inr ⟨kh,by simp[this]⟩
       obtain⟨q',hr,hq'⟩:=z0m (p:=p) (c:=c) hdd hsz hnc h0 h1 h2 hvl hvh
       have hmul:l.toNat*sz+(hh.toNat-l.toNat)*sz<=n*sz:=by
        rw[<-Nat.add_mul];exact Nat.mul_le_mul_right _ (by omega)
       refine keep h trivial (v:= .slice q' (hh.toNat-l.toNat) (c-l.toNat)) ?_ ?_
       ·simp only[TF.at_,RV.at_]
        refine⟨q',_,rfl,by omega,by omega,?_,λhpos=>?_⟩
        ·rw[<-hcs,List.length_take,List.length_drop,hcl]
         omega
        ·obtain⟨b,o',hpe,hb,hc⟩:=hcells (by omega)
         exact⟨b,_,hq' (by omega) b o' hpe,hb,hcs▸RV.cellsAt_take (RV.cellsAt_drop hc _) _⟩
       ·simp[execOp,hop,hxe,hr]
      ·exact h.elim
     ·cases hte
   ·have hx':=zah hs hx
    obtain⟨f',v,hK,hl,hf,hr⟩:=z2w hT hs q hx'.2 hx'.1 h
    rw[hq]at hr
    exact keep hK hl hf (by simp[execOp,hop,hr])
   ·exact h.elim
  ·exact h.elim
 case makeSlice t l c=>
  split at h
  ·rename_i ti kl n kc m hti hl hc
   obtain⟨q,hq⟩:=hT.get hti
   obtain⟨d,hdd,hko,_⟩:=q.desc
   rw[hq]at hdd
   have hl':=(zah hs hl).2
   have hc':=(zah hs hc).2
   simp only[TF.at_,RV.at_]at hl' hc'
   split at h
   ·rename_i e hk
    rw[hk]at hko
    simp only[KOk]at hko
    subst hko
    split at h
    ·rename_i te hte
     obtain⟨qe,hqe⟩:=hT.get hte
     obtain⟨i,hi,hsz,hby,z,hz,hzc⟩:=qe.info
     rw[hqe]at hi
     obtain⟨rfl,h0,hb,hm,j,zs,rfl,rfl,pub,hK⟩:=h
     have hbi:(i.bytes:Int)*n<=281474976710656:=by
      have:((n.toNat*te.bytes:Nat):Int)<=140737488355328:=by omega
      rw[Int.natCast_mul,Int.toNat_of_nonneg h0,Int.mul_comm]at this
      rw[hby];omega
     have hr:=run_make (P:=P) w t e i z hdd hi hz kl kc n n h0 (Int.le_refl _) hbi (by simp only[maxLen]at hm;omega)
     rw[hsz]at hr
     obtain⟨k',hk'⟩:=z12 (e:=e) (sz:=te.sz) (n:=n.toNat) (cells:=(List.replicate n.toNat (te.zero.map ofC)).flatten) (cs:=madeCells z.cells (n.toNat*te.sz)) hs pub (by simp[qe.zsz]) hm (z11 qe hzc n.toNat)
     exact za0 (by simp only[execOp,hop,hl',hc',Sem.run_bind,hr];rfl) ⟨_,_,_,k',hK,rfl,hk'⟩
    ·exact h.elim
   ·exact h.elim
  ·exact h.elim
 case call c=>
  split at h
  ·rename_i bi hcal
   split at h
   ·unfold lenv at h
    split at h
    ·rename_i x t hxs hts
     have hxs':c.args= #[x]:=by apply Array.ext';simpa using hxs
     have hts':c.argTypes= #[t]:=by apply Array.ext';simpa using hts
     split at h
     ·rename_i ti f hti hx
      obtain⟨q,hq⟩:=hT.get hti
      obtain⟨d,hdd,hko,_⟩:=q.desc
      rw[hq]at hdd
      have hx':=(zah hs hx).2
      have hrun: ∀v,(Builtin.len_ #[t] o.type #[a.eval x]).run P w= .ok v w->(execOp a.eval o).run P w= .ok (.value v) w:=λv hv=>by
       simp[execOp,hop,resolve,hcal,hxs',hts',invoke,builtin,hv]
      split at h
      ·rename_i e hk
       rw[hk]at hko
       simp only[KOk]at hko
       subst hko
       split at h
       ·simp only[TF.at_,RV.at_]at hx'
        obtain⟨p,cp,e,_⟩:=hx'
        exact keep h trivial (by simp only[TF.at_,RV.at_];rfl) (hrun _ (by simp[Builtin.len_,run_underlying hdd w,e,goInt]))
       ·simp only[TF.at_,RV.at_]at hx'
        exact keep h trivial (by simp only[TF.at_,RV.at_];rfl) (hrun _ (by simp[Builtin.len_,run_underlying hdd w,hx',goInt]))
       ·split at h
        ·rename_i e' sz n cells pub hoo
         have hat:=(hs.owns _ _ hoo).2.2.1
         simp only[Ow.at_]at hat
         simp only[TF.at_]at hx'
         rcases hat.2 with⟨_,⟨h0,p,e⟩ |⟨_,_,b,o',e,_⟩⟩ |⟨b,cap,cur,_,e,_⟩
         ·subst h0
          exact keep h trivial (by simp only[TF.at_,RV.at_];rfl) (hrun _ (by simp[Builtin.len_,run_underlying hdd w,hx',e,goInt]))
         ·exact keep h trivial (by simp only[TF.at_,RV.at_];rfl) (hrun _ (by simp[Builtin.len_,run_underlying hdd w,hx',e,goInt]))
         ·exact keep h trivial (by simp only[TF.at_,RV.at_];rfl) (hrun _ (by simp[Builtin.len_,run_underlying hdd w,hx',e,goInt]))
        ·exact h.elim
       ·simp only[TF.at_]at hx'
        obtain⟨b,cp,_,e,_⟩:=hx'
        exact keep h trivial (by simp only[TF.at_,RV.at_];rfl) (hrun _ (by simp[Builtin.len_,run_underlying hdd w,e,goInt]))
       ·exact h.elim
      ·rename_i hk
       rw[hk]at hko
       simp only[KOk]at hko
       subst hko
       split at h
       ·simp only[TF.at_,RV.at_]at hx'
        exact keep h trivial (by simp only[TF.at_,RV.at_];rfl) (hrun _ (by simp[Builtin.len_,run_underlying hdd w,hx',goInt]))
       ·exact h.elim
      ·split at h
       ·split at h
        ·rename_i p hoo
         split at h
         ·rename_i n hln
          obtain⟨⟨kt,et,hu⟩,h⟩:=h
          have hat:=(hs.owns _ _ hoo).2.2.1
          simp only[Ow.at_]at hat
          obtain⟨b,es,c',e,hh,hsz⟩:=p.lenOk hln hat
          simp only[TF.at_]at hx'
          exact keep h trivial (by simp only[TF.at_,RV.at_];rfl) (hrun _ (by simp[Builtin.len_,run_underlying hu w,hx',e,hh,getObj,Sem.run,goInt,hsz]))
         ·exact h.elim
        ·exact h.elim
       ·exact h.elim
      ·exact h.elim
     ·exact h.elim
    ·exact h.elim
   ·exact fn h
   ·exact fn h
   ·exact fn h
   ·exfalso
    simp_all [zc7]
  ·rename_i x hcal
   split at h
   ·rename_i f
    unfold z2v at h
    split at h
    ·rename_i vs hvs
     obtain⟨ps,hc,res,hg,hK⟩:=h
     have hargs:(c.args.map a.eval)=(c.args.toList.map a.eval).toArray:=by apply Array.ext';simp
     have hx:(execOp a.eval o).run P w=(callFunc f (c.args.toList.map a.eval).toArray).run P w:=by simp[execOp,hop,resolve,hcal,Act.eval,Deferred.ofValue,invoke,hargs]
     rcases hg with hg |hg
     ·exact zix hs (zpe hs hvs) hc hg hx hK
     ·obtain⟨v,w',hr,hext,k',hk',hres⟩:=hg w k _ (hc.at_ (zpe hs hvs))
      exact za0 (hx.trans hr) (z2d hK hext hk' hres)
    ·exact h.elim
   ·exfalso
    simp only[zc7,hop,hcal]at hrd
    split at hrd<;>simp_all
  ·exact h.elim
 all_goals simp[zc7,hop]at hrd
theorem zs6(hT:TOk P T)(hs:SatE B N S a w k g)(hd: ∀d,o.dst=some d->d<N){K:TF->Option Ow->Prop}(h:valv P T S o K):
  o.wp P a w (λa' w'=>∃f ow k',K f ow/\Sat B N (S.new o.dst f ow) a' w' k') Q:=by
 by_cases hrd:zc7 o.op=true
 ·exact Oper.wp_mono (λa' w' ⟨f,ow,v,k',hK,e,hl⟩=>⟨f,ow,k',hK,e▸hl.sat hs hd⟩) (zzt hT hs hrd h)
 ·have sem:Vsem P S o K->o.wp P a w (λa' w'=>∃f ow k',K f ow/\Sat B N (S.new o.dst f ow) a' w' k') Q:=λ⟨f,ow,hy,hK⟩=>
   Oper.wp_mono (λa' w' ⟨k',hk'⟩=>⟨f,ow,k',hK,hk'⟩) (hy B N a w k Q ⟨g,hs⟩ hd)
  unfold valv at h
  cases hop:o.op<;>rw[hop]at h<;>simp only[zw1]at h<;>first|exact sem h|(simp[zc7,hop]at hrd;done) |skip
  rename_i c
  split at h
  ·rename_i bi hcal
   split at h
   ·exfalso
    exact hrd (by simp[zc7,hop,hcal])
   ·exfalso
    exact hrd (by simp[zc7,hop,hcal])
   ·exfalso
    exact hrd (by simp[zc7,hop,hcal])
   ·exfalso
    exact hrd (by simp[zc7,hop,hcal])
   ·exact sem h
  ·rename_i x hcal
   split at h
   ·exfalso
    exact hrd (by simp[zc7,hop,hcal])
   ·exact sem h
  ·exact h.elim
end
end Go.Proofs.YtoegdgbghdnnfaaGreat.Sx
