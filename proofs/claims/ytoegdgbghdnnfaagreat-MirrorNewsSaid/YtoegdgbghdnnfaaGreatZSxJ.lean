import Derived.Test.YtoegdgbghdnnfaaGreatZSxH
namespace Go.Proofs.YtoegdgbghdnnfaaGreat.Sx
open Go.RowKit
section
variable {P:Program} {T:TT} {B:Bs} {N:Nat} {S:St} {a:Act} {w:World} {k:Kp} {g:Env} {o:Oper} {Q:Exit->Act->World->Prop}
theorem zid(hT:TOk P T)(hs:Sat B N S a w k)(hd: ∀d,o.dst=some d->d<N){K:St->Prop}(h:zgo P T S o K):
  o.wp P a w (λa' w'=>∃S' k',K S'/\Sat B N S' a' w' k') Q:=by
 obtain⟨g,hs⟩:=hs
 have val:(valv P T S o λf ow=>K (S.new o.dst f ow))->o.wp P a w (λa' w'=>∃S' k',K S'/\Sat B N S' a' w' k') Q:=λh=>
  Oper.wp_mono (λa' w' ⟨f,ow,k',hK,hs'⟩=>⟨_,k',hK,hs'⟩) (zs6 hT hs hd h)
 unfold zgo at h
 have val2:(valv P T S o λf ow=>newK S o.dst f ow K)->o.wp P a w (λa' w'=>∃S' k',K S'/\Sat B N S' a' w' k') Q:=λh=>val (by simpa only[za4]using h)
 have step:Vstep P S o K->o.wp P a w (λa' w'=>∃S' k',K S'/\Sat B N S' a' w' k') Q:=λ⟨ι,S',hy,hK⟩=>
  Oper.wp_mono (λa' w' ⟨i,k',hs'⟩=>⟨S' i,k',hK i,hs'⟩) (hy B N a w k Q ⟨g,hs⟩ hd)
 cases hop:o.op with
 |store t x y=>
  rw[hop]at h
  simp only[zic]at h
  split at h
  ·exact zop hT hs hop h
  ·exact step h
 |load _ _=>
  rw[hop]at h
  simp only[zic]at h
  split at h
  ·exact val2 h
  ·exact step h
 |buildSlice _ _ _=>
  rw[hop]at h
  simp only[zic]at h
  split at h
  ·exact val2 h
  ·exact step h
 |build _ _=>
  rw[hop]at h
  simp only[zic]at h
  split at h
  ·exact val2 h
  ·exact step h
 |call c=>
  rw[hop]at h
  simp only[zic]at h
  split at h
  ·rename_i b hcal
   split at h
   ·split at h
    ·unfold appo at h
     split at h
     ·rename_i x y t t' hxs hts
      split at h
      ·rename_i htt
       obtain rfl:=Nat.eq_of_beq_eq_true htt
       split at h
       ·rename_i f f2 hf hf2
        simp only[za4]at h
        obtain⟨id,ow,v,w',k',hK,hr,hs'⟩:=z2r (o:=o) (ty:=o.type) hT hs hd (zah hs hf).2 (zah hs hf2).2 h
        have hxs':c.args= #[x,y]:=by apply Array.ext';simpa using hxs
        have hts':c.argTypes= #[t',t']:=by apply Array.ext';simpa using hts
        exact za0 (by simp[execOp,hop,resolve,hcal,hxs',hts',invoke,builtin,hr]) ⟨_,k',hK,hs'⟩
       ·exact h.elim
      ·exact h.elim
     ·exact h.elim
    ·exact step h
   ·exact val2 h
   ·exact val2 h
   ·exact val2 h
   ·exact val2 h
   ·exact step h
  ·split at h
   ·split at h
    ·exact val2 h
    ·exact step h
   ·exact step h
  ·exact val2 h
 |makeFunc _ _ _=>rw[hop]at h;exact step h
 |convert _ _ _=>
  rw[hop]at h
  simp only[zic]at h
  split at h
  ·split at h
   ·exact step h
   ·exact val2 h
  ·exact val2 h
 |makeMap _ _=>rw[hop]at h;exact step h
 |slice _ _ _ _ mx=>
  rw[hop]at h
  cases mx with
  |some _=>exact step h
  |none=>
   simp only[zic]at h
   split at h
   ·exact val2 h
   ·exact step h
 |binOp _ _ _ _ _=>
  rw[hop]at h
  simp only[zic]at h
  split at h
  ·exact val2 h
  ·exact step h
 |mapUpdate _ _ _ _=>rw[hop]at h;exact step h
 |lookup _ _ _ _=>rw[hop]at h;exact step h
 |range _ _=>rw[hop]at h;exact step h
 |next _ _=>rw[hop]at h;exact step h
 |entry _=>rw[hop]at h;exact step h
 |_=>rw[hop]at h;exact val2 h
theorem zadb(hs:SatE B N S a w k g){ops:Array Oper}{j d:Nat}{oj:Oper}{β:Bool}(hj:ops[j]?=some oj)(hd:oj.dst=some d)(hf:fget S.F d=some (.r (.b β))):yielded ops a.tmps j=some β:=by
 have:=(hs.facts d _ hf).2
 simp only[TF.at_,RV.at_]at this
 unfold yielded
 simp only[hj,Option.bind_some,hd]
 cases ht:a.tmps[d]? with
 |none=>simp[ht,undef]at this
 |some v=>simp[ht]at this;subst this;rfl
theorem zaeb(hs:SatE B N S a w k g){ops:Array Oper}{j d:Nat}{oj:Oper}{l:List RV}(hj:ops[j]?=some oj)(hd:oj.dst=some d)(hf:fget S.F d=some (.r (.tu l))):yielded ops a.tmps j=none:=by
 have:=(hs.facts d _ hf).2
 simp only[TF.at_,RV.at_]at this
 obtain⟨us,hu,_⟩:=this
 unfold yielded
 simp only[hj,Option.bind_some,hd]
 cases ht:a.tmps[d]? with
 |none=>rfl
 |some v=>simp[ht]at hu;subst hu;rfl
theorem zoj(hT:TOk P T){l:List Oper}(hd: ∀d,o.dst=some d->d<N){r:List Oper}{K:St->Prop}(hs:Sat B N S a w k)(h:runv P T l (o::r) S K):
  if Region.wanted o (yielded l.toArray a.tmps)then o.wp P a w (λa' w'=>∃S' k',runv P T l r S' K/\Sat B N S' a' w' k') Q
  else∃S' k',runv P T l r S' K/\Sat B N S' (a.put o.dst undef) w k':=by
 have go:zgo P T S o (λS'=>runv P T l r S' K)->o.wp P a w (λa' w'=>∃S' k',runv P T l r S' K/\Sat B N S' a' w' k') Q:=λh=>zid hT hs hd h
 have skip:runv P T l r (S.put o.dst (.r (.tu []))) K->∃S' k',runv P T l r S' K/\Sat B N S' (a.put o.dst undef) w k':=λh=>by
  obtain⟨g,hs⟩:=hs
  exact⟨_,k,h,g,hs.skipped⟩
 simp only[runv,za4]at h
 cases hg:o.guard with
 |none=>
  simp only[hg]at h
  rw[if_pos (by simp[Region.wanted,hg])]
  exact go h
 |some jw=>
  obtain⟨j,want⟩:=jw
  simp only[hg,zba]at h
  split at h
  ·rename_i oj hj
   split at h
   ·rename_i d hod
    split at h
    ·rename_i β hf
     obtain⟨g,hs'⟩:=hs
     have hy:=zadb hs' (ops:=l.toArray) (j:=j) (by simpa using hj) hod hf
     have hw:Region.wanted o (yielded l.toArray a.tmps)=(β==want):=by simp[Region.wanted,hg,hy]
     rw[hw]
     cases β<;>cases want<;>simp only at h
     ·exact go h
     ·exact skip h
     ·exact skip h
     ·exact go h
    ·rename_i lu hf
     obtain⟨g,hs'⟩:=hs
     have hy:=zaeb hs' (ops:=l.toArray) (j:=j) (by simpa using hj) hod hf
     rw[if_neg (by simp[Region.wanted,hg,hy])]
     exact skip h
    ·exact h.elim
   ·exact h.elim
  ·exact h.elim
theorem zhi(hT:TOk P T){l:List Oper}(hN: ∀o∈l,∀d,o.dst=some d->d<N): ∀{rest:List Oper} {S:St} {a:Act} {w:World} {k:Kp} {K:St->Prop},(∀o∈rest,o∈l)->Sat B N S a w k->runv P T l rest S K->
  (∀S' a' w' k',K S'->Sat B N S' a' w' k'->Q .normal a' w')->wpList P l.toArray Q rest a w
 |[],S,a,w,k,K,_,hs,h,hQ=>wpList_nil (hQ S a w k h hs)
 |o::r,S,a,w,k,K,hin,hs,h,hQ=>by
  have hr: ∀o'∈r,o'∈l:=λo' ho=>hin o' (by simp[ho])
  have:=zoj (Q:=Q) hT (hN o (hin o (by simp))) hs h
  unfold wpList
  split at this
  ·rename_i hw
   rw[if_pos hw]
   exact .inl (Oper.wp_mono (λa' w' ⟨S',k',h',hs'⟩=>zhi hT hN hr hs' h' hQ) this)
  ·rename_i hw
   rw[if_neg hw]
   obtain⟨S',k',h',hs'⟩:=this
   exact zhi hT hN hr hs' h' hQ
end
section
variable {P:Program} {T:TT} {S S':St} {o:Oper}
structure Agree (S S':St) (o:Oper):Prop where
 nx:S'.nx=S.nx
 op: ∀x∈o.op.operands.toList,opr S' x=opr S x
 one: ∀id∈ids1 S o,oget S'.O id=oget S.O id
 two: ∀id∈ids2 S (ids1 S o),∀e sz n cells,oget S.O id=some (.ch e sz n cells true)↔oget S'.O id=some (.ch e sz n cells true)
theorem Vint.pick{k:IntKind}{e:Int}{K:Int->Prop}(h:Vint k e K): ∃m,K m/\∀K':Int->Prop,K' m->Vint k e K':=by
 obtain⟨m,e,h⟩:=h;exact⟨m,h,λK' h'=>⟨m,e,h'⟩⟩
theorem Vquo.pick{k:IntKind}{a b:Int}{K:Int->Prop}(h:Vquo k a b K): ∃m,K m/\∀K':Int->Prop,K' m->Vquo k a b K':=by
 obtain⟨h0,m,e,h⟩:=h;exact⟨m,h,λK' h'=>⟨h0,m,e,h'⟩⟩
theorem Vrem.pick{a b:Int}{K:Int->Prop}(h:Vrem a b K): ∃m,K m/\∀K':Int->Prop,K' m->Vrem a b K':=by
 obtain⟨h0,m,e,h⟩:=h;exact⟨m,h,λK' h'=>⟨h0,m,e,h'⟩⟩
theorem Vbits.pick{k:IntKind}{op:BinOp}{a b:Int}{K:Int->Prop}(h:Vbits k op a b K): ∃m,K m/\∀K':Int->Prop,K' m->Vbits k op a b K':=by
 obtain⟨m,e,h⟩:=h;exact⟨m,h,λK' h'=>⟨m,e,h'⟩⟩
theorem Vshl.pick{k:IntKind}{a b:Int}{K:Int->Prop}(h:Vshl k a b K): ∃m,K m/\∀K':Int->Prop,K' m->Vshl k a b K':=by
 obtain⟨h0,m,e,h⟩:=h;exact⟨m,h,λK' h'=>⟨h0,m,e,h'⟩⟩
theorem Vshr.pick{k:IntKind}{a b:Int}{K:Int->Prop}(h:Vshr k a b K): ∃m,K m/\∀K':Int->Prop,K' m->Vshr k a b K':=by
 obtain⟨h0,m,e,h⟩:=h;exact⟨m,h,λK' h'=>⟨h0,m,e,h'⟩⟩
theorem Vcmp.pick{e:Bool}{K:Bool->Prop}(h:Vcmp e K): ∃m,K m/\∀K':Bool->Prop,K' m->Vcmp e K':=by
 obtain⟨m,e,h⟩:=h;exact⟨m,h,λK' h'=>⟨m,e,h'⟩⟩
theorem Vidx.pick{i:Int}{sz n:Nat}{cells:List RV}{K:List RV->Prop}(h:Vidx i sz n cells K): ∃m,K m/\∀K':List RV->Prop,K' m->Vidx i sz n cells K':=by
 obtain⟨h0,h1,m,e,h⟩:=h;exact⟨m,h,λK' h'=>⟨h0,h1,m,e,h'⟩⟩
theorem Vadr.pick{i:Int}{n:Nat}{K:Nat->Prop}(h:Vadr i n K): ∃m,K m/\∀K':Nat->Prop,K' m->Vadr i n K':=by
 obtain⟨h0,h1,h⟩:=h;exact⟨_,h,λK' h'=>⟨h0,h1,h'⟩⟩
theorem Vload1.pick{α:Type}{cells:List α}{off:Nat}{K:α->Prop}(h:Vload1 cells off K): ∃m,K m/\∀K':α->Prop,K' m->Vload1 cells off K':=by
 obtain⟨m,e,h⟩:=h;exact⟨m,h,λK' h'=>⟨m,e,h'⟩⟩
theorem VloadN.pick{α:Type}{cells:List α}{off sz:Nat}{K:List α->Prop}(h:VloadN cells off sz K): ∃m,(cells.drop off).take sz=m/\K m/\∀K':List α->Prop,K' m->VloadN cells off sz K':=by
 obtain⟨m,e,h0,h⟩:=h;exact⟨m,e,h,λK' h'=>⟨m,e,h0,h'⟩⟩
theorem Vcut.pick{lo hi:Int}{sz n:Nat}{cells:List RV}{K:Nat->List RV->Prop}(h:Vcut lo hi sz n cells K): ∃m cs,K m cs/\∀K':Nat->List RV->Prop,K' m cs->Vcut lo hi sz n cells K':=by
 obtain⟨h0,h1,h2,m,cs,e,e',h⟩:=h;exact⟨m,cs,h,λK' h'=>⟨h0,h1,h2,m,cs,e,e',h'⟩⟩
theorem Vcutn.pick{lo hi:Int}{n:Nat}{K:Nat->Nat->Prop}(h:Vcutn lo hi n K): ∃l m,K l m/\∀K':Nat->Nat->Prop,K' l m->Vcutn lo hi n K':=by
 obtain⟨h0,h1,h2,h3,h4,l,m,e,e',h⟩:=h;exact⟨l,m,h,λK' h'=>⟨h0,h1,h2,h3,h4,l,m,e,e',h'⟩⟩
theorem Vpub.pick{K:Bool->Prop}(h:Vpub K): ∃m,K m/\∀K':Bool->Prop,K' m->Vpub K':=by
 obtain⟨m,h⟩:=h;exact⟨m,h,λK' h'=>⟨m,h'⟩⟩
theorem Vmake.pick{n n':Int}{bytes:Nat}{zero:List Value}{K:Nat->List RV->Prop}(h:Vmake n n' bytes zero K): ∃m cs,K m cs/\∀K':Nat->List RV->Prop,K' m cs->Vmake n n' bytes zero K':=by
 obtain⟨h0,h1,h2,h3,m,cs,e,e',h⟩:=h;exact⟨m,cs,h,λK' h'=>⟨h0,h1,h2,h3,m,cs,e,e',h'⟩⟩
theorem Vcall.pick{f:FuncId}{vs:List RV}{K:Res->Prop}(h:Vcall P f vs K): ∃m,K m/\∀K':Res->Prop,K' m->Vcall P f vs K':=by
 obtain⟨ps,hc,m,hg,h⟩:=h;exact⟨m,h,λK' h'=>⟨ps,hc,m,hg,h'⟩⟩
theorem z5l{op:BinOp}{k:IntKind}{a b:Int}{K:RV->Prop}(h:binv op k a b K): ∃v,K v/\∀K':RV->Prop,K' v->binv op k a b K':=by
 cases op<;>simp only[binv]at h⊢ <;>
  first
   |exact h.elim
   |(obtain⟨m,hm,hp⟩:=h.pick;exact⟨_,hm,λK' h'=>hp _ h'⟩)
theorem zq6{f:TF}(h1: ∀id∈zam f,oget S'.O id=oget S.O id):S'.rv f=S.rv f:=by
 cases f with
 |r v=>rfl
 |own id=>simp only[St.rv];rw[h1 id (by simp[zam])]
 |adr id off=>rfl
 |nm id v=>rfl
 |cut id off n=>rfl
theorem zigb{f:TF}(h2: ∀id∈zam f,∀e sz n cells,oget S.O id=some (.ch e sz n cells true)↔oget S'.O id=some (.ch e sz n cells true)):S'.rv f=S.rv f:=by
 cases f with
 |r v=>rfl
 |adr id off=>rfl
 |nm id v=>rfl
 |cut id off n=>rfl
 |own id=>
  simp only[St.rv]
  have h:=h2 id (by simp[zam])
  split
  ·rename_i e sz n cells ho
   rw[(h e sz n cells).2 ho]
  ·rename_i hno
   split
   ·rename_i e sz n cells ho
    exact absurd ((h e sz n cells).1 ho) (hno e sz n cells)
   ·rfl
theorem z2e: ∀{fs:List TF},(∀f∈fs,∀id∈zam f,∀e sz n cells,oget S.O id=some (.ch e sz n cells true)↔oget S'.O id=some (.ch e sz n cells true))->S'.rvs fs=S.rvs fs
 |[],_=>rfl
 |f::fs,h=>by
  simp only[St.rvs]
  rw[zigb (h f (by simp)),z2e λf' hf=>h f' (by simp[hf])]
theorem zmb{x:Operand}{f:TF}(hx:x∈o.op.operands.toList)(hf:opr S x=some f){id:Nat}(hid:id∈zam f):id∈ids1 S o:=
 List.mem_flatMap.2 ⟨x,hx,by rw[hf];exact hid⟩
theorem zyi{l:List Nat}{id:Nat}{cells:List TF}(hid:id∈l)(ho:oget S.O id=some (.box cells)){f:TF}(hf:f∈cells){j:Nat}(hj:j∈zam f):j∈ids2 S l:=
 List.mem_flatMap.2 ⟨id,hid,by rw[ho];exact List.mem_flatMap.2 ⟨f,hf,hj⟩⟩
theorem zvh{ow:Option Ow}{off:Nat}{ti:TI}{K:TF->Prop}(hc: ∀cells,ow=some (.box cells)->∀f∈cells,∀id∈zam f,∀e sz n cells,oget S.O id=some (.ch e sz n cells true)↔oget S'.O id=some (.ch e sz n cells true))
  (h:ldOw S ow off ti K): ∃f,K f/\∀K':TF->Prop,K' f->ldOw S' ow off ti K':=by
 unfold ldOw at h⊢
 split at h
 ·rename_i cells
  split at h
  ·obtain⟨l,hl,h,hp⟩:=h.pick
   split at h
   ·rename_i vs hvs
    refine⟨_,h,λK' h'=>hp _ ?_⟩
    rw[z2e λf hf=>hc cells rfl f (List.mem_of_mem_drop (List.mem_of_mem_take (hl▸hf))),hvs]
    exact h'
   ·exact h.elim
  ·split at h
   ·exact⟨_,h,λK' h'=>h'⟩
   ·exact h.elim
 ·split at h
  ·obtain⟨l,_,h,hp⟩:=h.pick
   exact⟨_,h,λK' h'=>hp _ h'⟩
  ·obtain⟨l,h,hp⟩:=h.pick
   exact⟨_,h,λK' h'=>hp _ h'⟩
 ·exact h.elim
 ·exact h.elim
theorem za9b{f:TF}{ti:TI}{K:TF->Prop}(h1: ∀id∈zam f,oget S'.O id=oget S.O id)
  (h2: ∀id∈zam f,∀cells,oget S.O id=some (.box cells)->∀f∈cells,∀id∈zam f,∀e sz n cells,oget S.O id=some (.ch e sz n cells true)↔oget S'.O id=some (.ch e sz n cells true))
  (h:ldv S ti f K): ∃f',K f'/\∀K':TF->Prop,K' f'->ldv S' ti f K':=by
 unfold ldv at h⊢
 split at h
 ·rename_i id
  rw[h1 id (by simp[zam])]
  split at h
  ·rename_i cells ho
   exact zvh (λcs hcs=>h2 id (by simp[zam]) cs (ho.trans hcs)) h
  ·exact h.elim
 ·rename_i id off
  rw[h1 id (by simp[zam])]
  exact zvh (λcs hcs=>h2 id (by simp[zam]) cs hcs) h
 ·split at h
  ·obtain⟨l,_,h,hp⟩:=h.pick
   exact⟨_,h,λK' h'=>hp _ h'⟩
  ·obtain⟨l,h,hp⟩:=h.pick
   exact⟨_,h,λK' h'=>hp _ h'⟩
 ·exact h.elim
theorem z5s{ti:TI}{f:TF}{lo hi:Option Operand}{K:TF->Option Ow->Prop}(h1: ∀id∈zam f,oget S'.O id=oget S.O id)(hlo: ∀d,optv S' lo d=optv S lo d)(hhi: ∀d,optv S' hi d=optv S hi d)(h:cutv T S ti f lo hi K):
  ∃f',K f' none/\∀K':TF->Option Ow->Prop,K' f' none->cutv T S' ti f lo hi K':=by
 unfold cutv at h⊢
 split at h
 ·split at h
  ·split at h
   ·rename_i id
    rw[h1 id (by simp[zam])]
    split at h
    ·rw[hlo,hhi]
     split at h
     ·obtain⟨l,m,h,hp⟩:=h.pick
      exact⟨_,h,λK' h'=>hp _ h'⟩
     ·exact h.elim
    ·exact h.elim
   ·rw[hlo,hhi]
    split at h
    ·obtain⟨l,m,h,hp⟩:=h.pick
     exact⟨_,h,λK' h'=>hp _ h'⟩
    ·exact h.elim
   ·exact h.elim
  ·exact h.elim
 ·split at h
  ·split at h
   ·rename_i id
    rw[h1 id (by simp[zam])]
    split at h
    ·rw[hlo,hhi]
     split at h
     ·obtain⟨l,m,h,hp⟩:=h.pick
      exact⟨_,h,λK' h'=>hp _ h'⟩
     ·exact h.elim
    ·exact h.elim
   ·exact h.elim
  ·exact h.elim
 ·exact h.elim
theorem z7t{t:TypeId}{f:TF}{i:Int}{K:TF->Prop}(h1: ∀id∈zam f,oget S'.O id=oget S.O id)(h:idxv S T t f i K): ∃f',K f'/\∀K':TF->Prop,K' f'->idxv S' T t f i K':=by
 unfold idxv at h⊢
 split at h
 ·split at h
  ·split at h
   ·split at h
    ·obtain⟨l,h,hp⟩:=h.pick
     exact⟨_,h,λK' h'=>hp _ h'⟩
    ·rename_i id
     rw[h1 id (by simp[zam])]
     split at h
     ·split at h
      ·obtain⟨l,h,hp⟩:=h.pick
       exact⟨_,h,λK' h'=>hp _ h'⟩
      ·obtain⟨l,h,hp⟩:=h.pick
       exact⟨_,h,λK' h'=>hp _ h'⟩
     ·exact h.elim
    ·obtain⟨l,h,hp⟩:=h.pick
     exact⟨_,h,λK' h'=>hp _ h'⟩
    ·exact h.elim
   ·exact h.elim
  ·split at h
   ·split at h
    ·rename_i id
     rw[h1 id (by simp[zam])]
     split at h
     ·obtain⟨l,h,hp⟩:=h.pick
      exact⟨_,h,λK' h'=>hp _ h'⟩
     ·exact h.elim
    ·obtain⟨l,h,hp⟩:=h.pick
     exact⟨_,h,λK' h'=>hp _ h'⟩
    ·obtain⟨l,h,hp⟩:=h.pick
     exact⟨_,h,λK' h'=>hp _ h'⟩
    ·exact h.elim
   ·exact h.elim
  ·exact h.elim
 ·exact h.elim
theorem zmg: ∀{xs:List Operand},(∀x∈xs,opr S' x=opr S x)->(∀x∈xs,∀f,opr S x=some f->∀id∈zam f,oget S'.O id=oget S.O id)->oprs S' xs=oprs S xs
 |[],_,_=>rfl
 |x::xs,h,h1=>by
  simp only[oprs]
  rw[h x (by simp)]
  split
  ·rename_i f hf
   rw[zq6 (h1 x (by simp) f hf),zmg (λy hy=>h y (by simp[hy])) λy hy=>h1 y (by simp[hy])]
  ·rfl
theorem ziz{m:Bool}{place:Nat->Option (Nat×Nat)}: ∀{parts:List (Nat×Operand)} {cells:List RV} {K:List RV->Prop},(∀p∈parts,opr S' p.2=opr S p.2)->(∀p∈parts,∀f,opr S p.2=some f->∀id∈zam f,oget S'.O id=oget S.O id)->
  ziy m S place cells parts K->∃c,K c/\∀K':List RV->Prop,K' c->ziy m S' place cells parts K'
 |[],cells,K,_,_,h=>⟨cells,h,λK' h'=>h'⟩
 |(i,x)::r,cells,K,ha,h1,h=>by
  simp only[ziy]at h⊢
  rw[ha (i,x) (by simp)]
  split at h
  ·rename_i off sz f hp hf
   simp only[hp,hf]
   rw[zq6 (h1 (i,x) (by simp) f hf)]
   split at h
   ·split at h
    ·rename_i v hv _ hok
     have hb:off+(cellsOf v).length<=cells.length:=by
      simp only[Bool.and_eq_true,Nat.beq_eq,Nat.ble_eq]at hok
      omega
     rw[zue _ _ _ _ _ hb]at h
     obtain⟨c,hK,hp⟩:=ziz (λp hp=>ha p (by simp[hp])) (λp hp=>h1 p (by simp[hp])) h
     exact⟨c,hK,λK' h'=>by
      rw[zue _ _ _ _ _ hb]
      exact hp K' h'⟩
    ·exact h.elim
   ·exact h.elim
  ·exact h.elim
theorem Vfun.pick{xs:List Operand}{K:RV->Prop}(h0: ∀x∈xs,opr S' x=opr S x)(h1: ∀x∈xs,∀f,opr S x=some f->∀id∈zam f,oget S'.O id=oget S.O id)(h:Vfun P S o xs K): ∃r,K r/\∀K':RV->Prop,K' r->Vfun P S' o xs K':=by
 obtain⟨rs,hrs,r,hf,hK⟩:=h
 exact⟨r,hK,λK' h'=>⟨rs,(zmg h0 h1).trans hrs,r,hf,h'⟩⟩
theorem zot(hrd:zc7 o.op=true)(hA:Agree S S' o){K:TF->Option Ow->Prop}(h:valv P T S o K): ∃f ow,K f ow/\∀K':TF->Option Ow->Prop,K' f ow->valv P T S' o K':=by
 have one: ∀{x:Operand} {f:TF},x∈o.op.operands.toList->opr S x=some f->∀id∈zam f,oget S'.O id=oget S.O id:=λhx hf id hid=>hA.one id (zmb hx hf hid)
 have two: ∀{x:Operand} {f:TF},x∈o.op.operands.toList->opr S x=some f->∀id∈zam f,∀cells,oget S.O id=some (.box cells)->∀f∈cells,∀id∈zam f,∀e sz n cells,oget S.O id=some (.ch e sz n cells true)↔oget S'.O id=some (.ch e sz n cells true):=
  λhx hf id hid cells ho f' hf' j hj=>hA.two j (zyi (zmb hx hf hid) ho hf' hj)
 have hop':=hA.op
 unfold valv at h⊢
 cases hop:o.op<;>rw[hop]at h hop' one two hrd<;>simp only[zw1]at h⊢
 case move x=>
  rw[hop' x (by simp[Op.operands])]
  split at h
  ·rename_i f hf;exact⟨f,none,h,λK' h'=>h'⟩
  ·exact h.elim
 case assign x=>
  rw[hop' x (by simp[Op.operands])]
  split at h
  ·rename_i f hf;exact⟨f,none,h,λK' h'=>h'⟩
  ·exact h.elim
 case pick c x y=>
  rw[hop' c (by simp[Op.operands]),hop' x (by simp[Op.operands]),hop' y (by simp[Op.operands])]
  split at h
  ·split at h
   ·split at h
    ·rename_i f hf;exact⟨f,none,h,λK' h'=>h'⟩
    ·exact h.elim
   ·split at h
    ·rename_i f hf;exact⟨f,none,h,λK' h'=>h'⟩
    ·exact h.elim
  ·exact h.elim
 case nilCheck x=>
  rw[hop' x (by simp[Op.operands])]
  split at h
  ·rename_i id hx
   rw[one (x:=x) (by simp[Op.operands]) hx id (by simp[zam])]
   split at h
   ·exact⟨_,none,h,λK' h'=>h'⟩
   ·exact h.elim
  ·exact⟨_,none,h,λK' h'=>h'⟩
  ·exact⟨_,none,h,λK' h'=>h'⟩
  ·exact⟨_,none,h,λK' h'=>h'⟩
  ·exact h.elim
 case alloc t=>
  rw[hA.nx]
  split at h
  ·exact⟨_,_,h,λK' h'=>h'⟩
  ·exact h.elim
 case box t x=>
  rw[hop' x (by simp[Op.operands]),hA.nx]
  split at h
  ·exact⟨_,_,h,λK' h'=>h'⟩
  ·split at h
   ·exact⟨_,_,h,λK' h'=>h'⟩
   ·exact h.elim
  ·rename_i id hx
   rw[one (x:=x) (by simp[Op.operands]) hx id (by simp[zam])]
   split at h
   ·exact⟨_,_,h,λK' h'=>h'⟩
   ·exact h.elim
  ·exact⟨_,_,h,λK' h'=>h'⟩
  ·exact h.elim
  ·exact h.elim
  ·exact h.elim
 case load t x=>
  rw[hop' x (by simp[Op.operands])]
  split at h
  ·rename_i ti f hti hx
   obtain⟨f',hK,hp⟩:=za9b (one (x:=x) (by simp[Op.operands]) hx) (two (x:=x) (by simp[Op.operands]) hx) h
   exact⟨f',none,hK,λK' h'=>hp _ h'⟩
  ·exact h.elim
 case fieldAddr t x i=>
  rw[hop' x (by simp[Op.operands])]
  split at h
  ·rename_i ti f hti hx
   split at h
   ·split at h
    ·split at h
     ·exact h.elim
     ·split at h
      ·rename_i id
       rw[one (x:=x) (by simp[Op.operands]) hx id (by simp[zam])]
       split at h
       ·exact⟨_,none,h,λK' h'=>h'⟩
       ·exact h.elim
      ·exact⟨_,none,h,λK' h'=>h'⟩
      ·exact⟨_,none,h,λK' h'=>h'⟩
      ·exact⟨_,none,h,λK' h'=>h'⟩
      ·exact h.elim
    ·exact h.elim
   ·exact h.elim
  ·exact h.elim
 case indexAddr t x i=>
  rw[hop' x (by simp[Op.operands]),hop' i (by simp[Op.operands])]
  split at h
  ·rename_i f kd n hx hi
   obtain⟨f',hK,hp⟩:=z7t (one (x:=x) (by simp[Op.operands]) hx) h
   exact⟨f',none,hK,λK' h'=>hp _ h'⟩
  ·exact h.elim
 case index t x i=>
  rw[hop' x (by simp[Op.operands]),hop' i (by simp[Op.operands])]
  split at h
  ·split at h
   ·split at h
    ·split at h
     ·obtain⟨cs,hK,hp⟩:=h.pick
      split at hK
      ·exact⟨_,none,hK,λK' h'=>hp _ (by first|exact h'|(split<;>first|exact h'|simp_all))⟩
      ·rename_i ha
       cases cs with
       |nil=>exact hK.elim
       |cons c r=>exact⟨_,none,hK,λK' h'=>hp _ (by first|exact h'|(split<;>first|exact h'|simp_all))⟩
     ·exact h.elim
    ·exact h.elim
   ·exact h.elim
  ·exact h.elim
 case binOp op t x y t2=>
  rw[hop' x (by simp[Op.operands]),hop' y (by simp[Op.operands])]
  split at h
  ·split at h
   ·obtain⟨m,hm,hp⟩:=h.pick;exact⟨_,none,hm,λK' h'=>hp _ h'⟩
   ·obtain⟨m,hm,hp⟩:=h.pick;exact⟨_,none,hm,λK' h'=>hp _ h'⟩
   ·split at h
    ·obtain⟨m,hm,hp⟩:=z5l h;exact⟨_,none,hm,λK' h'=>hp _ h'⟩
    ·exact h.elim
  ·split at h
   ·exact⟨_,none,h.2,λK' h'=>⟨h.1,h'⟩⟩
   ·obtain⟨m,hm,hp⟩:=h.pick;exact⟨_,none,hm,λK' h'=>hp _ h'⟩
   ·obtain⟨m,hm,hp⟩:=h.pick;exact⟨_,none,hm,λK' h'=>hp _ h'⟩
   ·exact h.elim
  ·split at h
   ·split at h
    ·split at h
     ·obtain⟨m,hm,hp⟩:=h.pick;exact⟨_,none,hm,λK' h'=>hp _ h'⟩
     ·obtain⟨m,hm,hp⟩:=h.pick;exact⟨_,none,hm,λK' h'=>hp _ h'⟩
     ·exact h.elim
    ·exact h.elim
   ·exact h.elim
  ·rename_i id hx hy
   rw[one (x:=x) (by simp[Op.operands]) hx id (by simp[zam])]
   split at h
   ·split at h
    ·exact⟨_,none,h.out.2,λK' h'=>⟨h.out.1,h'⟩⟩
    ·exact⟨_,none,h.out.2,λK' h'=>⟨h.out.1,h'⟩⟩
    ·exact h.elim
   ·exact h.elim
  ·obtain⟨r,hK,hp⟩:=Vfun.pick (S':=S') (λz hz=>hop' z (by simpa[Op.operands]using hz)) (λz hz f hf=>one (x:=z) (by simpa[Op.operands]using hz) hf) h
   exact⟨_,none,hK,λK' h'=>hp _ h'⟩
 case unOp op t x=>
  rw[hop' x (by simp[Op.operands])]
  split at h
  ·split at h
   ·obtain⟨m,hm,hp⟩:=h.pick;exact⟨_,none,hm,λK' h'=>hp _ h'⟩
   ·exact h.elim
  ·split at h
   ·obtain⟨m,hm,hp⟩:=h.pick;exact⟨_,none,hm,λK' h'=>hp _ h'⟩
   ·obtain⟨m,hm,hp⟩:=h.pick;exact⟨_,none,hm,λK' h'=>hp _ h'⟩
   ·exact h.elim
  ·obtain⟨r,hK,hp⟩:=Vfun.pick (S':=S') (λz hz=>hop' z (by simpa[Op.operands]using hz)) (λz hz f hf=>one (x:=z) (by simpa[Op.operands]using hz) hf) h
   exact⟨_,none,hK,λK' h'=>hp _ h'⟩
 case convert t0 t x=>
  rw[hop' x (by simp[Op.operands])]
  split at h
  ·split at h
   ·obtain⟨m,hm,hp⟩:=h.pick;exact⟨_,none,hm,λK' h'=>hp _ h'⟩
   ·obtain⟨r,hK,hp⟩:=Vfun.pick (S':=S') (λz hz=>hop' z (by simpa[Op.operands]using hz)) (λz hz f hf=>one (x:=z) (by simpa[Op.operands]using hz) hf) h
    exact⟨_,none,hK,λK' h'=>hp _ h'⟩
  ·split at h
   ·split at h
    ·split at h
     ·exact⟨_,none,h.2,λK' h'=>⟨h.1,h'⟩⟩
     ·obtain⟨r,hK,hp⟩:=Vfun.pick (S':=S') (λz hz=>hop' z (by simpa[Op.operands]using hz)) (λz hz f hf=>one (x:=z) (by simpa[Op.operands]using hz) hf) h
      exact⟨_,none,hK,λK' h'=>hp _ h'⟩
    ·obtain⟨r,hK,hp⟩:=Vfun.pick (S':=S') (λz hz=>hop' z (by simpa[Op.operands]using hz)) (λz hz f hf=>one (x:=z) (by simpa[Op.operands]using hz) hf) h
     exact⟨_,none,hK,λK' h'=>hp _ h'⟩
   ·obtain⟨r,hK,hp⟩:=Vfun.pick (S':=S') (λz hz=>hop' z (by simpa[Op.operands]using hz)) (λz hz f hf=>one (x:=z) (by simpa[Op.operands]using hz) hf) h
    exact⟨_,none,hK,λK' h'=>hp _ h'⟩
  ·obtain⟨r,hK,hp⟩:=Vfun.pick (S':=S') (λz hz=>hop' z (by simpa[Op.operands]using hz)) (λz hz f hf=>one (x:=z) (by simpa[Op.operands]using hz) hf) h
   exact⟨_,none,hK,λK' h'=>hp _ h'⟩
 case extract x i=>
  rw[hop' x (by simp[Op.operands])]
  split at h
  ·split at h
   ·exact⟨_,none,h,λK' h'=>h'⟩
   ·exact h.elim
  ·exact h.elim
 case build t parts=>
  split at h
  ·split at h
   ·obtain⟨c,hK,hp⟩:=ziz (S':=S') (λp hp=>hop' p.2 (by simp[Op.operands];exact⟨p.1,by simpa using hp⟩)) (λp hp f hf=>one (x:=p.2) (by simp[Op.operands];exact⟨p.1,by simpa using hp⟩) hf) h
    exact⟨_,none,hK,λK' h'=>hp _ h'⟩
   ·split at h
    ·obtain⟨c,hK,hp⟩:=ziz (S':=S') (λp hp=>hop' p.2 (by simp[Op.operands];exact⟨p.1,by simpa using hp⟩)) (λp hp f hf=>one (x:=p.2) (by simp[Op.operands];exact⟨p.1,by simpa using hp⟩) hf) h
     exact⟨_,none,hK,λK' h'=>hp _ h'⟩
    ·exact h.elim
   ·exact h.elim
  ·exact h.elim
 case buildSlice t n parts=>
  rw[hA.nx]
  split at h
  ·split at h
   ·split at h
    ·split at h
     ·obtain⟨c,hK,hp⟩:=ziz (S':=S') (λp hp=>hop' p.2 (by simp[Op.operands];exact⟨p.1,by simpa using hp⟩)) (λp hp f hf=>one (x:=p.2) (by simp[Op.operands];exact⟨p.1,by simpa using hp⟩) hf) h
      obtain⟨pub,hK,hp2⟩:=hK.pick
      exact⟨_,_,hK,λK' h'=>hp _ (hp2 _ h')⟩
     ·exact h.elim
    ·exact h.elim
   ·exact h.elim
  ·exact h.elim
 case slice t x lo hi mx=>
  rw[hop' x (by simp[Op.operands])]
  split at h
  ·rename_i ti f hti hx
   rw[zq6 (one (x:=x) (by simp[Op.operands]) hx)]
   split at h
   ·split at h
    ·exact h.elim
    ·have hlo: ∀d,optv S' lo d=optv S lo d:=λd=>by
      cases lo with
      |none=>rfl
      |some l=>exact hop' l (by simp[Op.operands])
     have hhi: ∀d,optv S' hi d=optv S hi d:=λd=>by
      cases hi with
      |none=>rfl
      |some l=>exact hop' l (by simp[Op.operands])
     rw[hlo,hhi]
     split at h
     ·obtain⟨m,cs,hK,hp⟩:=h.pick
      exact⟨_,none,hK,λK' h'=>hp _ h'⟩
     ·exact h.elim
   ·have hlo: ∀d,optv S' lo d=optv S lo d:=λd=>by
     cases lo with
     |none=>rfl
     |some l=>exact hop' l (by simp[Op.operands])
    have hhi: ∀d,optv S' hi d=optv S hi d:=λd=>by
     cases hi with
     |none=>rfl
     |some l=>exact hop' l (by simp[Op.operands])
    obtain⟨f',hK,hp⟩:=z5s (one (x:=x) (by simp[Op.operands]) hx) hlo hhi h
    exact⟨_,none,hK,hp⟩
   ·exact h.elim
  ·exact h.elim
 case makeSlice t l c=>
  rw[hop' l (by simp[Op.operands]),hop' c (by simp[Op.operands]),hA.nx]
  split at h
  ·split at h
   ·split at h
    ·obtain⟨j,zs,h,hp⟩:=h.pick
     obtain⟨pub,hK,hp2⟩:=h.pick
     exact⟨_,_,hK,λK' h'=>hp _ (hp2 _ h')⟩
    ·exact h.elim
   ·exact h.elim
  ·exact h.elim
 case call c=>
  have hargs: ∀x∈c.args.toList,x∈(Op.call c).operands.toList:=λx hx=>by simp only[Op.operands,Call.operands,Array.toList_append];exact List.mem_append_right _ hx
  split at h
  ·split at h
   ·unfold lenv at h⊢
    split at h
    ·rename_i x t hxs hts
     rw[hop' x (hargs x (by rw[hxs];simp))]
     split at h
     ·rename_i ti f hti hx
      split at h
      ·split at h
       ·exact⟨_,none,h,λK' h'=>h'⟩
       ·exact⟨_,none,h,λK' h'=>h'⟩
       ·rename_i id
        rw[one (x:=x) (hargs x (by rw[hxs];simp)) hx id (by simp[zam])]
        split at h
        ·exact⟨_,none,h,λK' h'=>h'⟩
        ·exact h.elim
       ·exact⟨_,none,h,λK' h'=>h'⟩
       ·exact h.elim
      ·split at h
       ·exact⟨_,none,h,λK' h'=>h'⟩
       ·exact h.elim
      ·split at h
       ·rename_i id
        rw[one (x:=x) (hargs x (by rw[hxs];simp)) hx id (by simp[zam])]
        split at h
        ·split at h
         ·obtain⟨hu,h⟩:=h
          exact⟨_,none,h,λK' h'=>⟨hu,h'⟩⟩
         ·exact h.elim
        ·exact h.elim
       ·exact h.elim
      ·exact h.elim
     ·exact h.elim
    ·exact h.elim
   ·obtain⟨r,hK,hp⟩:=Vfun.pick (S':=S') (λz hz=>hop' z (hargs z hz)) (λz hz f hf=>one (x:=z) (hargs z hz) hf) h
    exact⟨_,none,hK,λK' h'=>hp _ h'⟩
   ·obtain⟨r,hK,hp⟩:=Vfun.pick (S':=S') (λz hz=>hop' z (hargs z hz)) (λz hz f hf=>one (x:=z) (hargs z hz) hf) h
    exact⟨_,none,hK,λK' h'=>hp _ h'⟩
   ·obtain⟨r,hK,hp⟩:=Vfun.pick (S':=S') (λz hz=>hop' z (hargs z hz)) (λz hz f hf=>one (x:=z) (hargs z hz) hf) h
    exact⟨_,none,hK,λK' h'=>hp _ h'⟩
   ·exfalso
    simp_all [zc7]
  ·split at h
   ·unfold z2v at h⊢
    rw[zmg (λx hx=>hop' x (hargs x hx)) λx hx f hf=>one (hargs x hx) hf]
    split at h
    ·obtain⟨res,hK,hp⟩:=h.pick
     cases res with
     |r v=>exact⟨_,_,hK,λK' h'=>hp _ h'⟩
     |ch e sz n cells=>exact⟨_,_,hK,λK' h'=>hp _ (by simp only[resK];rw[hA.nx];exact h')⟩
     |own e sz n cells=>exact⟨_,_,hK,λK' h'=>hp _ (by simp only[resK];rw[hA.nx];exact h')⟩
     |bx cells=>exact⟨_,_,hK,λK' h'=>hp _ (by simp only[resK];rw[hA.nx];exact h')⟩
    ·exact h.elim
   ·exfalso
    simp only[zc7]at hrd
    split at hrd<;>simp_all
    rename_i he hne _
    exact hne _ he.symm
  ·exact h.elim
 all_goals simp[zc7]at hrd
end
end Go.Proofs.YtoegdgbghdnnfaaGreat.Sx
