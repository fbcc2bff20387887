import Derived.Test.YtkegaaonpekkgaaGreatXqNx
import Derived.Test.YtkegaaonpekkgaaGreatXqKa
import Derived.Test.YtkegaaonpekkgaaGreatXqKu
import Derived.Test.YtkegaaonpekkgaaGreatXqSxY
import Derived.Shelf.RegionOpenPlain
import Derived.Lib.Walk
import Derived.Lib.SliceRun
import Derived.Lib.Overlaps
import Derived.Laws.Externs
import Derived.Laws.IdiomCopy
import Derived.Lib.AppendZerosOnto
import Derived.Laws.NewBlocks
import Derived.Test.YtkegaaonpekkgaaGreatXqMe
import Derived.Test.YtkegaaonpekkgaaGreatXqKg
import Derived.Laws.BytesArg
import Derived.Lib.Bytes
namespace Go.Proofs.YtkegaaonpekkgaaGreat.Sx
open Go.RowKit
set_option maxHeartbeats 1000000
section
variable {P:Program} {T:TT} {B:Bs} {N:Nat} {S:St} {a:Act} {w:World} {k:Kp} {g:Env} {o:Oper}
theorem Vstep.sto{t:TypeId}{x y:Operand}{K:St->Prop}(hT:TOk P T)(hop:o.op= .store t x y)(h:Sx.sto T S o.dst t x y K):Vstep P S o K:=
 ⟨{S':St//K S'},λi=>i.1,λB N a w k Q ⟨g,hs⟩ _=>Oper.wp_mono (λa' w' ⟨S',k',hK,hs'⟩=>⟨⟨S',hK⟩,k',hs'⟩) (fm (Q:=Q) hT hs hop h),λi=>i.2⟩
theorem Vstep.nmB(id t:Nat){cells:List TF}(ho:ye S.O id=some (.box cells)){K:St->Prop}(h: ∀b:Nat,Vstep P ⟨(t,.nm id (.pointer (some ⟨b,0,none⟩)))::S.F,S.O,S.nx⟩ o K):Vstep P S o K:=by
 refine⟨Σ b:Nat,(h b).out.choose,λx=>(h x.1).out.choose_spec.choose x.2,λB N a w k Q hs0 hd=>?_,λx=>(h x.1).out.choose_spec.choose_spec.2 x.2⟩
 obtain⟨g,hs⟩:=hs0
 obtain⟨hid,_,hat,_⟩:=hs.owns id _ ho
 simp only[Ow.at_]at hat
 obtain⟨b,cur,ty,e,_⟩:=hat
 have hs1:yK B N ⟨(t,.nm id (.pointer (some ⟨b,0,none⟩)))::S.F,S.O,S.nx⟩ a w k:=by
  refine⟨g,hs.size,hs.defers,hs.keep,hs.kk,λt' f hf=>?_,hs.owns,hs.apart⟩
  rcases yO hf with⟨rfl,rfl⟩ |⟨_,hf⟩
  ·exact⟨hid,by simp only[TF.at_];rw[e]⟩
  ·exact hs.facts t' f hf
 refine Oper.wp_mono ?_ ((h b).out.choose_spec.choose_spec.1 B N a w k Q hs1 hd)
 rintro a' w' ⟨i,k',hs'⟩
 exact⟨⟨b,i⟩,k',hs'⟩
theorem bg{id t tn b off:Nat}{cells:List TF}(ho:ye S.O id=some (.box cells))(hn:yl S.F tn=some (.nm id (.pointer (some ⟨b,0,none⟩))))(ht:yl S.F t=some (.r (.x (.pointer (some ⟨b,off,none⟩))))):Sub S ⟨(t,.adr id off)::S.F,S.O,S.nx⟩:=by
 intro B N a w k ⟨g,hs⟩
 obtain⟨hid,_,hat,_⟩:=hs.owns id _ ho
 simp only[Ow.at_]at hat
 obtain⟨b',cur,ty,e,_⟩:=hat
 have h1:=(hs.facts tn _ hn).2
 simp only[TF.at_]at h1
 rw[e]at h1
 simp only[Value.pointer.injEq,bT,Addr.mk.injEq,and_true]at h1
 have h2:=(hs.facts t _ ht).2
 simp only[TF.at_,RV.at_]at h2
 refine⟨k,g,hs.size,hs.defers,hs.keep,hs.kk,λt' f hf=>?_,hs.owns,hs.apart⟩
 rcases yO hf with⟨rfl,rfl⟩ |⟨_,hf⟩
 ·exact⟨hid,by simp only[TF.at_];exact⟨b,by rw[e,h1],h2⟩⟩
 ·exact hs.facts t' f hf
theorem Vstep.callX{x:Operand}{ts:Array TypeId}{f:FuncId}{id tn b:Nat}{r:RV}{K:St->Prop}(hop:o.op= .call {callee:= .value (.func f),args:= #[x],argTypes:=ts}) (hx:yv S x=some (.own id)) (hn:yl S.F tn=some (.nm id (.pointer (some ⟨b,0,none⟩)))) (hg:zW P f [.x (.pointer (some ⟨b,0,none⟩))] (.r r)) (hK:yI S o.dst (.r r) none K):Vstep P S o K:=by
 rw[yJ]at hK
 refine zI (λB N a w k Q ⟨g,hs⟩ hd=>?_) hK
 have h1:=(yi hs hx).2
 have h2:=(hs.facts tn _ hn).2
 simp only[TF.at_]at h1 h2
 rw[h2]at h1
 have:=nk (o:=o) (Q:=Q) (K:=λf ow=>f= .r r/\ow=none) hs (us:=[a.eval x]) (vs:=[.x (.pointer (some ⟨b,0,none⟩))]) (by simp only[RV.partsAt,RV.at_];exact⟨_,_,rfl,h1,rfl⟩) (zn _) hg (by simp[execOp,hop,resolve,Act.eval,Deferred.ofValue,invoke]) ⟨rfl,rfl⟩
 refine Oper.wp_mono ?_ this
 rintro a' w' ⟨f',ow,u,k',⟨rfl,rfl⟩,rfl,hl⟩
 exact⟨k',hl.sat hs hd⟩
theorem Vcode.nmB(id t:Nat){cells:List TF}(ho:ye S.O id=some (.box cells)){c:Code}{Q:Exit->St->Prop}(h: ∀b:Nat,Vcode P c ⟨(t,.nm id (.pointer (some ⟨b,0,none⟩)))::S.F,S.O,S.nx⟩ Q):Vcode P c S Q:=by
 refine⟨λB N a w k Q' ⟨g,hs⟩ hd hQ=>?_⟩
 obtain⟨hid,_,hat,_⟩:=hs.owns id _ ho
 simp only[Ow.at_]at hat
 obtain⟨b,cur,ty,e,_⟩:=hat
 refine(h b).out B N a w k Q' ⟨g,hs.size,hs.defers,hs.keep,hs.kk,λt' f hf=>?_,hs.owns,hs.apart⟩ hd hQ
 rcases yO hf with⟨rfl,rfl⟩ |⟨_,hf⟩
 ·exact⟨hid,by simp only[TF.at_];rw[e]⟩
 ·exact hs.facts t' f hf
theorem Vcode.subp(hm:P.follows .mixedOrders=true)(hT:TOk P T){c:Code}{S':St}{Q:Exit->St->Prop}(hs:Sub S S')(h:vO P T c S' Q):Vcode P c S Q:=
 ⟨λB N a w k Q' hh hd hQ=>by obtain⟨k',h'⟩:=hs B N a w k hh;exact yP hm hT c S' Q h B N a w k' Q' h' hd hQ⟩
theorem F6{id t tn b off:Nat}{cells:List TF}(ho:ye S.O id=some (.box cells))(hn:yl S.F tn=some (.nm id (.pointer (some ⟨b,0,none⟩))))(ht:yl S.F t=some (.adr id off)):Sub S ⟨(t,.r (.x (.pointer (some ⟨b,off,none⟩))))::S.F,S.O,S.nx⟩:=by
 intro B N a w k ⟨g,hs⟩
 obtain⟨hid,_,hat,_⟩:=hs.owns id _ ho
 simp only[Ow.at_]at hat
 obtain⟨b',cur,ty,e,_⟩:=hat
 have h1:=(hs.facts tn _ hn).2
 simp only[TF.at_]at h1
 rw[e]at h1
 simp only[Value.pointer.injEq,bT,Addr.mk.injEq,and_true]at h1
 have h2:=(hs.facts t _ ht).2
 simp only[TF.at_]at h2
 obtain⟨b2,e2,h2⟩:=h2
 rw[e]at e2
 simp only[bT]at e2
 refine⟨k,g,hs.size,hs.defers,hs.keep,hs.kk,λt' f hf=>?_,hs.owns,hs.apart⟩
 rcases yO hf with⟨rfl,rfl⟩ |⟨_,hf⟩
 ·exact⟨trivial,by simp only[TF.at_,RV.at_];rw[h2,<-e2,h1]⟩
 ·exact hs.facts t' f hf
theorem je{id t tn:Nat}{v:Value}(hn:yl S.F tn=some (.nm id v))(ht:yl S.F t=some (.own id)):Sub S ⟨(t,.r (.x v))::S.F,S.O,S.nx⟩:=by
 intro B N a w k ⟨g,hs⟩
 have h1:=(hs.facts tn _ hn).2
 have h2:=(hs.facts t _ ht).2
 simp only[TF.at_]at h1 h2
 refine⟨k,g,hs.size,hs.defers,hs.keep,hs.kk,λt' f hf=>?_,hs.owns,hs.apart⟩
 rcases yO hf with⟨rfl,rfl⟩ |⟨_,hf⟩
 ·exact⟨trivial,by simp only[TF.at_,RV.at_];rw[h2,h1]⟩
 ·exact hs.facts t' f hf
theorem i9{id t tn:Nat}{v:Value}(hn:yl S.F tn=some (.nm id v))(ht:yl S.F t=some (.r (.x v))):Sub S ⟨(t,.own id)::S.F,S.O,S.nx⟩:=by
 intro B N a w k ⟨g,hs⟩
 have h1:=hs.facts tn _ hn
 have h2:=(hs.facts t _ ht).2
 have h3:=h1.1
 have h1:=h1.2
 simp only[TF.at_,RV.at_]at h1 h2
 refine⟨k,g,hs.size,hs.defers,hs.keep,hs.kk,λt' f hf=>?_,hs.owns,hs.apart⟩
 rcases yO hf with⟨rfl,rfl⟩ |⟨_,hf⟩
 ·exact⟨h3,by simp only[TF.at_];rw[h2,h1]⟩
 ·exact hs.facts t' f hf
theorem lD{id j tn i:Nat}{cells:List TF}{v:Value}(ho:ye S.O id=some (.box cells))(hn:yl S.F tn=some (.nm j v))(hi:cells[i]?=some (.r (.x v))):Sub S ⟨S.F,(id,some (.box (cells.set i (.own j))))::S.O,S.nx⟩:=by
 intro B N a w k ⟨g,hs⟩
 have h1:=hs.facts tn _ hn
 have h3:=h1.1
 have h1:=h1.2
 simp only[TF.at_]at h1
 obtain⟨q1,q2,q3,q4⟩:=hs.owns id _ ho
 have hex: ∀i' o',ye ((id,some (.box (cells.set i (.own j))))::S.O) i'=some o'->∃o,ye S.O i'=some o:=λi' o' h=>by
  simp only[ye]at h
  split at h
  ·rename_i hb
   rw[<-bI hb]
   exact⟨_,ho⟩
  ·exact⟨_,h⟩
 refine⟨k,g,hs.size,hs.defers,hs.keep,hs.kk,hs.facts,λi' o' h=>?_,λi1 i2 o1 o2 b e1 e2=>?_⟩
 ·simp only[ye]at h
  split at h
  ·rename_i hb
   cases h
   have:=bI hb
   subst this
   refine⟨q1,λf hf=>?_,?_,q4⟩
   ·rcases List.mem_or_eq_of_mem_set hf with hf |rfl
    ·exact q2 f hf
    ·exact h3
   ·obtain⟨b,cur,ty,e1,e2,e3,e4,e5⟩:=q3
    refine⟨b,cur,ty,e1,e2,e3,by rw[List.length_set];exact e4,λn f u hf hu=>?_⟩
    rw[List.getElem?_set]at hf
    split at hf
    ·rename_i hin
     subst hin
     split at hf
     ·cases hf
      have:=e5 i _ u hi hu
      refine⟨this.1,?_⟩
      have h5:=this.2
      simp only[TF.at_,RV.at_]at h5⊢
      rw[h5,h1]
     ·cases hf
    ·exact e5 n f u hf hu
  ·exact hs.owns i' o' h
 ·obtain⟨p1,f1⟩:=hex i1 o1 e1
  obtain⟨p2,f2⟩:=hex i2 o2 e2
  exact hs.apart i1 i2 p1 p2 b f1 f2
theorem uH{f:FuncId}{args:List RV}{e:TypeId}{sz n:Nat}{cells:List RV}(h:zW P f args (.ch e sz n cells)):zW P f args (.r (.sl sz n cells)):=
 ⟨h.1,λw k vs hp=>(h.2 w k vs hp).mono λ_ _ ⟨v,he,hx,k',hk,hr⟩=>⟨v,he,hx,k',hk,by obtain⟨ob,hc,_⟩:=hr;exact chAt.sl hc⟩⟩
def Qb(id:Nat)(l:List Nat):List TF:=l.map (TF.adr id)
def gO(S:St):Nat->List (Nat×Operand)->List TF->Prop
 |_,[],fs=>fs=[]
 |i,(j,x)::r,fs=>∃id off gs,j=i/\yv S x=some (.adr id off)/\fs= .adr id off::gs/\gO S (i+1) r gs
theorem Vu(hs:SatE B N S a w k g): ∀(parts:List (Nat×Operand)) (i:Nat) (fs:List TF) (vs:Array Value),gO S i parts fs->i+parts.length<=vs.size->
  ∃vs',Instr.fill (λi=>some (i*1,1)) vs (parts.map λ(i,x)=>(i,a.eval x))=some vs'/\vs'.size=vs.size/\(∀j,j<i->vs'[j]?=vs[j]?)/\(∀f∈fs,f.lt S.nx)/\fs.length=parts.length/\
   ∀(j:Nat) (f:TF) (u:Value),fs[j]?=some f->vs'[i+j]?=some u->u.oneCell'=true/\f.at_ w k g u
 |[],i,fs,vs,h,hl=>by
  simp only[gO]at h
  subst h
  exact⟨vs,rfl,rfl,λ_ _=>rfl,by simp,rfl,λj f u hf=>by simp at hf⟩
 |(j0,x)::r,i,fs,vs,h,hl=>by
  simp only[gO]at h
  obtain⟨id,off,gs,rfl,hx,rfl,hr⟩:=h
  obtain⟨hlt,hat⟩:=yi hs hx
  have hat':=hat
  simp only[TF.at_]at hat
  obtain⟨b,hb,e⟩:=hat
  simp only[bJ]at hl
  obtain⟨vs',h1,h2,h3,h4,h5,h6⟩:=Vu hs r (j0+1) gs (vs.setIfInBounds j0 (a.eval x)) hr (by simp;omega)
  refine⟨vs',?_,by simpa using h2,λj hj=>?_,?_,by simp[h5],λj f u hf hu=>?_⟩
  ·simp only[cJ,Instr.fill]
   rw[cQ (by simp[e,Value.cells];omega)]
   rw[<-h1]
   congr 1
   simp[e,Value.cells]
  ·rw[h3 j (by omega),Array.getElem?_setIfInBounds_ne (by omega)]
  ·intro f hf
   rcases List.mem_cons.1 hf with rfl |hf
   ·exact hlt
   ·exact h4 f hf
  ·cases j with
   |zero=>
    simp only[List.getElem?_cons_zero,bT]at hf
    subst hf
    rw[Nat.add_zero,h3 j0 (by omega)]at hu
    have hj:j0<vs.size:=by omega
    simp[hj]at hu
    subst hu
    exact⟨by rw[e];rfl,hat'⟩
   |succ j=>exact h6 j f u (by simpa using hf) (by rw[<-hu];congr 1;omega)
theorem Vstep.bsl{t e:TypeId}{ti te:TI}{n:Nat}{parts:Array (Nat×Operand)}(fs:List TF){K:St->Prop}(hT:TOk P T)(hop:o.op= .buildSlice t n parts)(hti:yL T t=some ti)(hk:ti.k= .slice e)(hte:yL T e=some te)(hsz:te.sz=1)
  (hn:parts.toList.length=n) (hsm:n<=16777216) (hp:gO S 0 parts.toList fs) (hK:K (({S with O:=(S.nx,some (.box fs))::S.O,nx:=S.nx+1}:St).put o.dst (.cut S.nx 0 n))):Vstep P S o K:=by
 refine zI (λB N a w k Q ⟨g,hs⟩ hd=>?_) hK
 obtain⟨q,hq⟩:=hT.get hti
 obtain⟨d,hdd,hko,_⟩:=q.desc
 rw[hq]at hdd
 rw[hk]at hko
 simp only[u5]at hko
 subst hko
 obtain⟨qe,hqe⟩:=hT.get hte
 obtain⟨i,hi,hsi,_,z,hz,hzc⟩:=qe.info
 rw[hqe]at hi
 have hms:(madeCells z.cells (n*te.sz)).size=n:=by rw[hsz];simp[madeCells]
 obtain⟨vs,h1,h2,_,h4,h5,h6⟩:=Vu hs parts.toList 0 fs (madeCells z.cells (n*te.sz)) hp (by rw[hms,hn];omega)
 have hr:=lq (w:=w) (n:=n) (parts:=parts.map λ(i,x)=>(i,a.eval x)) hdd hi hsi hz (by rw[hsz];omega) (vs:=vs) (by rw[hsz,Array.toList_map];rw[hsz]at h1;exact h1)
 rw[hms]at h2
 have hle:=dJ w k (.cells vs e) 0
 obtain⟨k',he,hkk,hl⟩:=pE (t:=e) hs (cells:=fs) (cs:=vs) h4 (by rw[h2,h5,hn]) (λj f u hf hu=>h6 j f u hf (by rw[Nat.zero_add];exact hu))
 obtain⟨ob,hob,h7,h8,h9⟩:=hl
 have hs2:=hs.make (dst:=none) (λd h=>by cases h) he hkk (vb:=(.pointer (some ⟨w.heap.size,0,none⟩),ob)) h7 h8 h9
 refine yG (v:= .slice (some ⟨w.heap.size,0,none⟩) n n) (by simp only[execOp,hop,Sem.run_bind,hr];rfl) ⟨k',_,hs2.put hd (Nat.lt_succ_self S.nx) ?_⟩
 simp only[TF.at_,Env.set_eq]
 refine⟨w.heap.size,n,?_,rfl,bQ _,by simp only[maxLen];omega⟩
 simp only[Ow.at_]at h8
 obtain⟨b,cur,ty,e1,_⟩:=h8
 simp only[Prod.mk.injEq,Value.pointer.injEq,bT,Addr.mk.injEq,and_true]at e1
 rw[e1.2,e1.1]
end
theorem QH(l:Leaf)(hl:l.fit):aG 128 [.ag l.c] (.r (.ag l.c)):=by
 refine aT Tryz.func128 rfl ?_
 obtain⟨h1,h2,h3,h4,h5⟩:=hl
 refine Vstep.bsl (Qb 0 [0,1,2,4,5]) Tab_ok rfl rfl rfl rfl rfl rfl (by decide) (by repeat' (first|exact rfl|refine⟨_,_,_,rfl,rfl,rfl,?_⟩)) ?_
 refine zy (λj:Nat=>⟨[(1,.own 0),(2,.own 1),(10,.cut 2 0 5),(11,.r (I 5)),(12,.r (I j))],[(0,some (.box (l.c.map TF.r))),(1,some (.box [.r (.x (.slice none 0 0)),.r (.x (.slice none 0 0)),.r (.x (.slice none 0 0)),.r (.i .u8 0),.r (.x (.slice none 0 0)),.r (.x (.slice none 0 0))])),(2,some (.box (Qb 0 [0,1,2,4,5])))],3⟩) (λj=>j<=5) (λj=>5-j) 0 (by omega) (zM [(0,0),(1,1),(2,2)]) ?_
 intro j hj
 rcases(by omega:j<5\/j=5)with hlt |rfl
 rotate_left
 ·refine cX ?_
  refine cU ?_
  refine cU ?_
  exact cr
 obtain⟨k,hk⟩: ∃k,k=j+1:=⟨_,rfl⟩
 rcases(by omega:j=0\/j=1\/j=2\/j=3\/j=4)with rfl |rfl |rfl |rfl |rfl
 all_goals
  refine cY ?_
  refine zD _ rfl (by decide) ?_
  refine ze (x4 _ (by omega)) ?_
  refine zd (m:=(k:Int)) (by omega) (by omega) ?_
  exact⟨k,by omega,by omega,by subst hk;exact zM [(0,0),(1,1),(2,2)]⟩
theorem ww(l:Leaf)(hl:l.fit):aG 128 [.ag l.c] (.r (.ag l.c)):=QH l hl
def rH(label text:cT):cT:=zZ (mlsB++label)++zZ text
theorem jI(label:ByteArray)(text:cT)(hl:label.size<=1048576)(ht:text.length<=1000000000):aG 136 [vd label,bs text] (xJ (rH (sB label) text)):=by
 refine aT Tryz.func136 rfl ?_
 have hd:=dR label
 have hsz:label.data.toList.length=label.size:=rfl
 have hml:mlsB.length=8:=rfl
 refine⟨by show 8+label.size<=_;omega,?_⟩
 refine⟨by rw[Yk];show 8+label.size<=_;omega,?_⟩
 refine zB (x5 [] ((⟨#[77,76,83,32,49,46,48,32]⟩:ByteArray)++label).data.toList (by simp) (by rw[hd,aL];omega)) (zk (z8 _) (zn _)) ?_
 rw[hd]
 have hv:=yf (mlsB++label.data.toList)
 rw[aL]at hv
 refine ze (x5 ([]++zZ (mlsB++label.data.toList)) text (by simp only[aL,bO];omega) (by omega)) ?_
 exact vR (by simp[rH,sB])
def oo(seed label text:cT):cT:=mD seed (rH label text)
theorem sN(seed:cT)(label:ByteArray)(text:cT)(hs:seed.length=32)(hl:label.size<=1048576)(ht:text.length<=500000000):aG 53 [bs seed,vd label,bs text] (.r (.tu [bs (oo seed (sB label) text),Er 0])):=by
 refine aT Tryz.func53 rfl ?_
 have hsz:(sB label).length=label.size:=rfl
 have hml:mlsB.length=8:=rfl
 have hv:=yf (mlsB++sB label)
 have hv2:=yf text
 rw[aL]at hv
 refine ze (jI label text hl (by omega)) ?_
 refine ze (EP seed (rH (sB label) text) hs (by rw[rH,aL];omega)) ?_
 exact⟨_,rfl,cr⟩
theorem uI(seed:cT)(label:ByteArray)(text:cT)(hs:seed.length≠32)(hl:label.size<=1048576)(ht:text.length<=500000000):aG 53 [bs seed,vd label,bs text] (.r (.tu [bs [],Er 1])):=by
 refine aT Tryz.func53 rfl ?_
 have hsz:(sB label).length=label.size:=rfl
 have hml:mlsB.length=8:=rfl
 have hv:=yf (mlsB++sB label)
 have hv2:=yf text
 rw[aL]at hv
 refine ze (jI label text hl (by omega)) ?_
 refine ze (Pd seed (rH (sB label) text) hs) ?_
 exact⟨_,rfl,cr⟩
def nc(l:cT):List Int:=l.map λb=>(b.toNat:Int)
theorem Yv{S:Nat->Prop}(p:AC)(l:cT)(w:World)(hp:By w S p l):(convert 22 9 (.slice p.a l.length p.c)).run aP w= .ok (.string (strOfNums (nc l))) w:=by
 rcases Nat.eq_zero_or_pos l.length with hn |hn
 ·have hl:l=[]:=bU hn
  subst hl
  rw[run_convert_bytes_string w _ _ _ _ _ _ Tryz.underlying22 Tryz.underlying5 Tryz.underlying9]
  simp only[bO]
  cases p.a<;>simp[Conv.bytesToString,loadCells]
  all_goals rfl
 ·obtain⟨b,o,e,hc⟩:=hp.form hn
  rw[e]
  exact run_convert_bytes_arg w _ _ Tryz.underlying22 Tryz.underlying5 b o l.length p.c (nc l) (by simp[nc]) (λi hi=>by
   rw[hc i hi]
   simp[nc,hi]) _ Tryz.underlying9
theorem GY(l m:cT):((strOfNums (nc l)).toList==(strOfNums (nc m)).toList)=decide (l=m):=by
 have h: ∀l:cT,(strOfNums (nc l)).toList=l:=λl=>by
  rw[Lib.strOfNums_toList]
  simp[Lib.bytesOf,nc,Function.comp_def]
 rw[h,h]
 by_cases e:l=m
 ·subst e
  simp
 ·simp[e]
theorem Qd(p q:AC)(l m:cT){S:Nat->Prop}(w:World)(hp:By w S p l)(hq:By w S q m):
  Calls aP 114 #[.slice p.a l.length p.c,.slice q.a m.length q.c] w λe w'=>e= .returned (.bool (decide (l=m)))/\w'=w:=by
 have g1:=Yv p l w hp
 have g2:=Yv q m w hq
 rw[<-GY]
 generalize strOfNums (nc l)=s1 at*
 generalize strOfNums (nc m)=s2 at*
 obtain⟨a,c⟩:=p
 obtain⟨a',c'⟩:=q
 go_enter Tryz.func114,Tryz.ntmps114
 go_wp2_with fail
 go_ret
 exact⟨rfl,rfl⟩
theorem sn(l m:cT):aG 114 [bs l,bs m] (.r (.b (decide (l=m)))):=
 XA (t6 Tryz.func114 rfl (by kernel_rfl)) λw k vs hp=>by
  obtain⟨a,b,rfl,h1,h2⟩:=ZI hp
  obtain⟨p,rfl,hp1⟩:=Qh h1
  obtain⟨q,rfl,hq1⟩:=Qh h2
  exact(Qd p q l m w hp1 hq1).mono λ_ _ ⟨e,hw⟩=>⟨_,e,hw▸Ext.refl _,k,λ_ _=>rfl,by simp[Res.at_,RV.at_]⟩
theorem Nf(l:cT)(h0:0<l.length)(hl:l.length<=1000000000):aG 42 [bs l] (.own 5 1 l.length (l.map U8)):=Xz l (by omega)
theorem Gj(x:Fe):aG 353 [.ag x.v] (.r (.b (wc x fz))):=by
 refine aT Tryz.func353 rfl ?_
 refine cU ?_
 refine ze (kC x fz) ?_
 exact cr
def Pt.same(p q:Pt):Bool:=cond (wc (p.x.mul q.z) (q.x.mul p.z)) (wc (p.y.mul q.z) (q.y.mul p.z)) false
theorem G1(p q:Pt):aG 254 [.ag p.v,.ag q.v] (.r (.b (p.same q))):=by
 refine aT Tryz.func254 rfl ?_
 refine aV ?_
 refine cU ?_
 refine ze (nN p) ?_
 refine cU ?_
 refine ze (nN q) ?_
 refine aV ?_
 refine cU ?_
 refine cU ?_
 refine ze (xI p.x q.z) ?_
 refine cU ?_
 refine cU ?_
 refine ze (xI q.x p.z) ?_
 have e1:wc (p.x.mul q.z) (q.x.mul p.z)=true->p.same q=wc (p.y.mul q.z) (q.y.mul p.z):=λh=>by unfold Pt.same;rw[h];rfl
 have e0:wc (p.x.mul q.z) (q.x.mul p.z)=false->p.same q=false:=λh=>by unfold Pt.same;rw[h];rfl
 generalize p.x.mul q.z=A at*
 generalize q.x.mul p.z=B at*
 refine z6 (kC A B) (λh=>?_) (λh=>?_)
 ·rw[e1 h]
  refine cU ?_
  refine cU ?_
  refine ze (xI p.y q.z) ?_
  refine cU ?_
  refine cU ?_
  refine ze (xI q.y p.z) ?_
  generalize p.y.mul q.z=C
  generalize q.y.mul p.z=D
  refine ze (kC C D) ?_
  exact cr
 ·rw[e0 h]
  exact cr
theorem EL(p q:Pt):aG 255 [.ag p.v,.ag q.v] (.r (.ag (p.sum q dD).v)):=by
 refine aT Tryz.func255 rfl ?_
 refine aV ?_
 refine cU ?_
 refine ze (nN p) ?_
 refine cU ?_
 refine ze (nN q) ?_
 have hd:=JQ
 have e:dD=dC.add dC:=by rw[dD]
 rw[e]
 generalize dC=d at hd⊢
 refine ze hd ?_
 refine ze hd ?_
 refine ze (rD d d) ?_
 refine ze (VV p q (d.add d)) ?_
 refine cU ?_
 exact cr
def qY(b:cT):Bool:=(((b.getD 31 0).toNat:Int).fdiv (2^(min (7:Int).toNat 8))==1)
def uZ(b:cT):cT:=b.set 31 (b.getD 31 0&&&127)
def dS(odd:Bool)(x:Fe):Fe:=cond odd (Fe.sub ⟨0,0,0,0,0⟩ x) x
def sZ(b:cT):Option Pt:=
 if b.length=32 then
  if(Fe.of b).bytes=uZ b then
   if(yY (xW (Fe.of b))).2=true/\¬(wc (yY (xW (Fe.of b))).1 fz=true/\qY b=true)then some (Pt.of (dS (qY b) (yY (xW (Fe.of b))).1) (Fe.of b))else none
  else none
 else none
abbrev zP:List RV:=[W 0,W 0,W 0,W 0,W 0,W 0,W 0,W 0,W 0,W 0,W 0,W 0,W 0,W 0,W 0,W 0,W 0,W 0,W 0,W 0,.b false]
def Tk:Option Pt->RV
 |some p=> .tu [.ag p.v,.b true]
 |none=> .tu [.ag zP,.b false]
theorem NC(b:cT)(h:b.length≠32):aG 252 [bs b] (.r (Tk none)):=by
 refine aT Tryz.func252 rfl ?_
 refine cY ?_ (by simp only[zb];omega)
 refine cU ?_
 exact⟨_,rfl,cr⟩
section
variable (b yb:cT) (y x:Fe) (ok zx:Bool) (hb:b.length=32)
 (c1:aG 322 [bs b] (.r (.ag y.v)))
 (c2:aG 211 [.ag y.v] (xJ yb))
include hb c1 c2
theorem Ko(res:Option Pt)
  (c3:yb=uZ b->aG 214 [.ag y.v] (.r (.tu [.ag x.v,.b ok])))
  (c4:aG 353 [.ag x.v] (.r (.b zx)))
  (c5: ∀u:Fe,u=dS (qY b) x->∀P:Pt,some P=res->aG 215 [.ag u.v,.ag y.v] (.r (.ag P.v)))
  (r0:yb≠uZ b->res=none) (r1:yb=uZ b->(ok=false\/zx=true/\qY b=true)->res=none) (r2:yb=uZ b->ok=true->¬(zx=true/\qY b=true)->∃P,some P=res):
  aG 252 [bs b] (.r (Tk res)):=by
 refine aT Tryz.func252 rfl ?_
 have hg:b[31]?=some (b.getD 31 0):=by rw[bK,bA (by omega)];rfl
 have hi:((b.map U8).drop ((31:Int).toNat*1)).take 1=[U8 (b.getD 31 0)]:=by
  have h31:31<b.length:=by omega
  have:=xn (f:=U8) (l:=b) (i:=31) (j:=31) rfl h31
  rw[bA h31]at hg
  rwa[Option.some.inj hg]at this
 refine zu (by simp only[zb];omega) (zq ?_)
 refine ze c1 ?_
 refine zm (by decide) (by omega) hi (zg rfl ?_)
 refine⟨by decide,_,rfl,?_⟩
 refine zG (m:=qY b) rfl ?_
 refine ze (Nf b (by omega) (by omega)) ?_
 refine zD 31 rfl (by omega) ?_
 refine zg (sr (j:=31) (by omega)) ?_
 refine Vbits.and8 (b.getD 31 0) 127 rfl rfl ?_
 refine zD 31 rfl (by omega) ?_
 refine⟨by show 31*1+1<=(b.map U8).length;rw[bC];omega,(uZ b).map U8,vI (show 31<b.length by omega),?_⟩
 refine za rfl rfl ?_
 refine ze c2 ?_
 have hlow:(uZ b).length=b.length:=by simp[uZ]
 have hbe:aG 114 [bs yb,.sl 1 b.length ((uZ b).map U8)] (.r (.b (decide (yb=uZ b)))):=by
  have:=sn yb (uZ b)
  rwa[<-mM (uZ b) b.length hlow]at this
 refine zJ (xE (id:=2) rfl) (Vstep.val Tab_ok ?_)
 refine z6 hbe (λh=>zu rfl (zq ?_)) (λh=>zt rfl (zp ?_))
 rotate_left
 ·simp only[decide_eq_false_iff_not]at h
  refine za rfl rfl ?_
  exact⟨_,rfl,zf (by rw[r0 h];rfl)⟩
 simp only[decide_eq_true_eq]at h
 refine za rfl rfl ?_
 refine ze (c3 h) ?_
 have r1':=r1 h
 have r2':=r2 h
 cases ok with
 |false=>
  refine zt rfl (zp ?_)
  refine za rfl rfl ?_
  exact⟨_,rfl,zf (by rw[r1' (.inl rfl)];rfl)⟩
 |true=>
  refine zu rfl ?_
  refine za rfl rfl ?_
  refine ze c4 ?_
  obtain⟨β,hβ⟩: ∃β,β=qY b:=⟨_,rfl⟩
  rw[<-hβ]at r1' r2' c5⊢
  cases zx with
  |true=>
   cases β with
   |true=>
    refine zp ?_
    refine za rfl rfl ?_
    exact⟨_,rfl,zf (by rw[r1' (.inr ⟨rfl,rfl⟩)];rfl)⟩
   |false=>
    obtain⟨P,hP⟩:=r2' rfl (by simp)
    refine zq (zq ?_)
    refine za rfl rfl ?_
    refine za rfl rfl ?_
    refine ze (c5 x rfl P hP) ?_
    refine za rfl rfl ?_
    exact⟨_,rfl,zf (by rw[<-hP];rfl)⟩
  |false=>
   obtain⟨P,hP⟩:=r2' rfl (by simp)
   cases β with
   |true=>
    refine zq (zp ?_)
    refine za rfl rfl ?_
    refine ze (WO x) ?_
    refine za rfl rfl ?_
    refine za rfl rfl ?_
    refine ze (c5 _ rfl P hP) ?_
    refine za rfl rfl ?_
    exact⟨_,rfl,zf (by rw[<-hP];rfl)⟩
   |false=>
    refine zq (zq ?_)
    refine za rfl rfl ?_
    refine za rfl rfl ?_
    refine ze (c5 x rfl P hP) ?_
    refine za rfl rfl ?_
    exact⟨_,rfl,zf (by rw[<-hP];rfl)⟩
end
theorem NB(b:cT):aG 252 [bs b] (.r (Tk (sZ b))):=by
 by_cases hb:b.length=32
 ·have c1:=EJ b hb
  have hD:sZ b=if(Fe.of b).bytes=uZ b then if(yY (xW (Fe.of b))).2=true/\¬(wc (yY (xW (Fe.of b))).1 fz=true/\qY b=true)then some (Pt.of (dS (qY b) (yY (xW (Fe.of b))).1) (Fe.of b))else none else none:=by unfold sZ;rw[cO hb]
  generalize sZ b=res at hD⊢
  generalize Fe.of b=y at c1 hD
  have c2:=fK y
  have c3:=Nl y
  generalize y.bytes=yb at c2 hD
  generalize yY (xW y)=q at c3 hD
  obtain⟨x,ok⟩:=q
  dsimp only at c3 hD
  have c4:=Gj x
  generalize wc x fz=zx at c4 hD
  refine Ko b yb y x ok zx hb c1 c2 res (λ_=>c3) c4 (λu hu P hP=>?_) (λh=>?_) (λh h2=>?_) (λh h2 h3=>?_)
  ·have h1:yb=uZ b:=Decidable.byContradiction λh=>by rw[hD,cQ h]at hP;cases hP
   rw[hD,cO h1]at hP
   split at hP
   ·cases hP
    rw[<-hu]
    exact QZ u y
   ·cases hP
  ·rw[hD,cQ h]
  ·rw[hD,cO h,cQ]
   rintro⟨k1,k2⟩
   rcases h2 with h2 |h2
   ·rw[h2]at k1;cases k1
   ·exact k2 h2
  ·exact⟨_,by rw[hD,cO h,cO ⟨h2,h3⟩]⟩
 ·have:sZ b=none:=by unfold sZ;rw[cQ hb]
  rw[this]
  exact NC b hb
def iu(b:cT):S4:=⟨xi b 0 8,xi b 8 8,xi b 16 8,xi b 24 8⟩
def rk(b:cT):Option S4:=if b.length=32 then if(iu b).bor ord4=0 then none else some (iu b)else none
def PS:Option S4->RV
 |some s=> .tu [.ag s.v,.b true]
 |none=> .tu [.ag [W 0,W 0,W 0,W 0],.b false]
theorem Sf(b:cT)(h:b.length≠32):aG 253 [bs b] (.r (PS none)):=by
 refine aT Tryz.func253 rfl ?_
 refine cY ?_ (by simp only[zb];omega)
 refine cU ?_
 exact⟨_,rfl,cr⟩
theorem QJ(b:cT)(w0 w1 w2 w3 bo:UInt64)(df:S4)(hb:b.length=32)(c0:aG 334 [bs b,I 0] (.r (W w0)))(c1:aG 334 [bs b,I 8] (.r (W w1)))(c2:aG 334 [bs b,I 16] (.r (W w2)))(c3:aG 334 [bs b,I 24] (.r (W w3)))
  (c4: ∀o:S4,o=ord4->aG 354 [.ag (S4.v ⟨w0,w1,w2,w3⟩),.ag o.v] (.r (.tu [.ag df.v,W bo]))):
  aG 253 [bs b] (.r (PS (if bo=0 then none else some ⟨w0,w1,w2,w3⟩))):=by
 refine aT Tryz.func253 rfl ?_
 have ho:=Re
 obtain⟨o,hoe⟩: ∃o,o=ord4:=⟨_,rfl⟩
 rw[<-hoe]at ho
 refine cX ?_ (by simp only[zb];omega)
 refine zE 5 ?_
 refine zC mixed Tab_ok ?_
 refine cY ?_
 refine zd (m:=0) rfl (by decide) ?_
 refine ze c0 ?_
 refine zD 0 rfl (by decide) ?_
 refine zd (m:=1) rfl (by decide) ?_
 refine zC mixed Tab_ok ?_
 refine cY ?_
 refine zd (m:=8) rfl (by decide) ?_
 refine ze c1 ?_
 refine zD 1 rfl (by decide) ?_
 refine zd (m:=2) rfl (by decide) ?_
 refine zC mixed Tab_ok ?_
 refine cY ?_
 refine zd (m:=16) rfl (by decide) ?_
 refine ze c2 ?_
 refine zD 2 rfl (by decide) ?_
 refine zd (m:=3) rfl (by decide) ?_
 refine zC mixed Tab_ok ?_
 refine cY ?_
 refine zd (m:=24) rfl (by decide) ?_
 refine ze c3 ?_
 refine zD 3 rfl (by decide) ?_
 refine zd (m:=4) rfl (by decide) ?_
 refine zC mixed Tab_ok ?_
 refine cX ?_
 refine aV ?_
 refine cU ?_
 refine ze ho ?_
 refine ze (c4 o hoe) ?_
 refine cZ (λh=>?_) λh=>?_
 ·simp only[zb]at h
  have hz:bo=0:=by
   have:bo.toNat=0:=by omega
   exact UInt64.toNat_inj.1 (by rw[this];rfl)
  rw[cO hz]
  refine cU ?_
  exact⟨_,rfl,cr⟩
 ·simp only[zb]at h
  have hz:bo≠0:=λe=>h (by rw[e];rfl)
  rw[cQ hz]
  refine cU ?_
  refine cU ?_
  exact⟨_,rfl,cr⟩
theorem Gh(b:cT):aG 253 [bs b] (.r (PS (rk b))):=by
 by_cases hb:b.length=32
 ·have:=QJ b (xi b 0 8) (xi b 8 8) (xi b 16 8) (xi b 24 8) ((iu b).bor ord4) ((iu b).dif ord4) hb (kD b 0 (by omega) (by omega)) (kD b 8 (by omega) (by omega)) (kD b 16 (by omega) (by omega)) (kD b 24 (by omega) (by omega)) (λo ho=>by rw[ho];exact NP (iu b) ord4)
  have e:rk b=if(iu b).bor ord4=0 then none else some (iu b):=by unfold rk;rw[cO hb]
  rw[e]
  exact this
 ·have:rk b=none:=by unfold rk;rw[cQ hb]
  rw[this]
  exact Sf b hb
def mr(r a:Pt)(s k:S4):Bool:=(wE baseP s 253).same (r.sum (wE a k 253) dD)
def rp(pub text sig:cT):Bool:=
 if sig.length=64 then
  match sZ (sig.take 32),rk (sig.drop 32),sZ pub with
  |some r,some s,some a=>mr r a s (lV (vy [sig.take 32,pub,text]))
  |_,_,_=>false
 else false
theorem Sh(pub text sig:cT)(h:sig.length≠64):aG 164 [bs pub,bs text,bs sig] (.r (.b false)):=by
 refine aT Tryz.func164 rfl ?_
 refine cY ?_ (by simp only[zb];omega)
 exact cr
section
variable (pub text sig q1 q2:cT) (hl:sig.length=64) (h1:sig.take 32=q1) (h2:sig.drop 32=q2)
 (R A:Option Pt) (Z:Option S4)
 (c1:aG 252 [bs q1] (.r (Tk R))) (c2:aG 253 [bs q2] (.r (PS Z))) (c3:aG 252 [bs pub] (.r (Tk A)))
include hl h1 h2 c1 c2 c3
theorem lN(hb:R=none\/Z=none\/A=none):aG 164 [bs pub,bs text,bs sig] (.r (.b false)):=by
 have l1:q1.length=32:=by rw[<-h1,bL];omega
 have l2:q2.length=32:=by rw[<-h2,bW];omega
 rw[<-mM q1 32 l1]at c1
 rw[<-mM q2 32 l2]at c2
 have k1:((sig.map U8).drop ((0:Int).toNat*1)).take (32*1)=q1.map U8:=by rw[<-h1,List.map_take];rfl
 have k2:((sig.map U8).drop ((32:Int).toNat*1)).take (32*1)=q2.map U8:=by rw[<-h2,List.map_drop,bF (by simp;omega)];rfl
 refine aT Tryz.func164 rfl ?_
 refine cX ?_ (by simp only[zb];omega)
 refine⟨by decide,by decide,by omega,32,q1.map U8,rfl,k1,?_⟩
 cases R with
 |none=>
  refine ze c1 ?_
  refine⟨by decide,by omega,by omega,32,q2.map U8,by omega,k2,?_⟩
  cases Z<;>cases A<;>refine ze c2 (ze c3 (zt rfl (zp (cr))))
 |some r=>
  refine ze c1 ?_
  refine⟨by decide,by omega,by omega,32,q2.map U8,by omega,k2,?_⟩
  cases Z with
  |none=>cases A<;>refine ze c2 (ze c3 (zu rfl (zt rfl (zp (cr)))))
  |some s=>cases A with
   |none=>refine ze c2 (ze c3 (zu rfl (zu rfl (zt rfl (zp (cr))))))
   |some a=>rcases hb with h |h |h<;>cases h
end
theorem QK(pub text sig q1 q2 L:cT)(hl:sig.length=64)(hp:pub.length<=1000000000)(ht:text.length<=1000000000)(h1:sig.take 32=q1)(h2:sig.drop 32=q2)(r a M N Y:Pt)(s k:S4)(β:Bool)
  (c1:aG 252 [bs q1] (.r (.tu [.ag r.v,.b true]))) (c2:aG 253 [bs q2] (.r (.tu [.ag s.v,.b true]))) (c3:aG 252 [bs pub] (.r (.tu [.ag a.v,.b true])))
  (c4:aG 228 [tk [q1,pub,text]] (.r (bs L))) (c5:aG 227 [bs L] (.r (.ag k.v)))
  (c6: ∀b:Pt,b=baseP->aG 125 [.ag b.v,.ag s.v] (.r (.ag M.v)))
  (c7:aG 125 [.ag a.v,.ag k.v] (.r (.ag N.v))) (c8:aG 255 [.ag r.v,.ag N.v] (.r (.ag Y.v))) (c9:aG 254 [.ag M.v,.ag Y.v] (.r (.b β))):
  aG 164 [bs pub,bs text,bs sig] (.r (.b β)):=by
 have l1:q1.length=32:=by rw[<-h1,bL];omega
 have l2:q2.length=32:=by rw[<-h2,bW];omega
 have e4:tk [q1,pub,text]= .sl 1 3 [.sl 1 32 (q1.map U8),bs pub,bs text]:=by rw[mM q1 32 l1];rfl
 rw[e4]at c4
 rw[<-mM q1 32 l1]at c1
 rw[<-mM q2 32 l2]at c2
 have k1:((sig.map U8).drop ((0:Int).toNat*1)).take (32*1)=q1.map U8:=by rw[<-h1,List.map_take];rfl
 have k2:((sig.map U8).drop ((32:Int).toNat*1)).take (32*1)=q2.map U8:=by rw[<-h2,List.map_drop,bF (by simp;omega)];rfl
 refine aT Tryz.func164 rfl ?_
 obtain⟨b,hb⟩: ∃b,b=baseP:=⟨_,rfl⟩
 have c0:=YK
 rw[<-hb]at c0
 refine cX ?_ (by simp only[zb];omega)
 refine⟨by decide,by decide,by omega,32,q1.map U8,rfl,k1,?_⟩
 refine ze c1 ?_
 refine⟨by decide,by omega,by omega,32,q2.map U8,by omega,k2,?_⟩
 refine ze c2 ?_
 refine ze c3 ?_
 refine zu rfl ?_
 refine zu rfl ?_
 refine cX ?_
 refine⟨by decide,by decide,by omega,32,q1.map U8,rfl,k1,?_⟩
 refine zw ?_
 refine ze c4 ?_
 refine ze c5 ?_
 refine aV ?_
 refine ze c0 ?_
 refine cU ?_
 refine ze (c6 b hb) ?_
 refine cU ?_
 refine cU ?_
 refine cU ?_
 refine ze c7 ?_
 refine ze c8 ?_
 refine ze c9 ?_
 exact cr
theorem h_holds(pub text sig:cT)(hp:pub.length<=1000000000)(ht:text.length<=1000000000):aG 164 [bs pub,bs text,bs sig] (.r (.b (rp pub text sig))):=by
 by_cases hl:sig.length=64
 rotate_left
 ·have:rp pub text sig=false:=by unfold rp;rw[cQ hl]
  rw[this]
  exact Sh pub text sig hl
 have hB:rp pub text sig=match sZ (sig.take 32),rk (sig.drop 32),sZ pub with
  |some r,some s,some a=>mr r a s (lV (vy [sig.take 32,pub,text]))
  |_,_,_=>false:=by unfold rp;rw[cO hl]
 have c1:=NB (sig.take 32)
 have c2:=Gh (sig.drop 32)
 have c3:=NB pub
 have l1:(sig.take 32).length=32:=by rw[bL];omega
 have c4:=VN [sig.take 32,pub,text] (by rw[JM,aL,aL];omega)
 have c5:=Z4 (vy [sig.take 32,pub,text]) (by rw[wU];omega)
 generalize vy [sig.take 32,pub,text]=L at c4 c5 hB
 generalize lV L=k at c5 hB
 generalize hR:sZ (sig.take 32)=R at c1 hB
 generalize hZ:rk (sig.drop 32)=Z at c2 hB
 generalize hA:sZ pub=A at c3 hB
 cases R with
 |none=>
  rw[hB]
  exact lN pub text sig _ _ hl rfl rfl none A Z c1 c2 c3 (.inl rfl)
 |some r=>
  cases Z with
  |none=>
   rw[hB]
   exact lN pub text sig _ _ hl rfl rfl (some r) A none c1 c2 c3 (.inr (.inl rfl))
  |some s=>
   cases A with
   |none=>
    rw[hB]
    exact lN pub text sig _ _ hl rfl rfl (some r) none (some s) c1 c2 c3 (.inr (.inr rfl))
   |some a=>
    rw[hB]
    have c7:=Z2 a k
    generalize hN:wE a k 253=N at c7
    have c8:=EL r N
    generalize hY:r.sum N dD=Y at c8
    have c6: ∀b:Pt,b=baseP->aG 125 [.ag b.v,.ag s.v] (.r (.ag (wE baseP s 253).v)):=λb hb=>by rw[hb];exact Z2 baseP s
    have e:mr r a s k=(wE baseP s 253).same Y:=by unfold mr;rw[hN,hY]
    show zW _ _ _ (.r (.b (mr r a s k)))
    rw[e]
    generalize wE baseP s 253=M at c6
    exact QK pub text sig _ _ L hl hp ht rfl rfl r a M N Y s k _ c1 c2 c3 c4 c5 c6 c7 c8 (G1 M Y)
theorem Jm(label:ByteArray)(text:cT)(hl:label.size<=1048576)(ht:text.length<=500000000):(rH (sB label) text).length<=1000000000:=by
 have hml:mlsB.length=8:=rfl
 have hsz:(sB label).length=label.size:=rfl
 have hv:=yf (mlsB++sB label)
 have hv2:=yf text
 rw[aL]at hv
 rw[rH,aL]
 omega
theorem YD(pub:cT)(label:ByteArray)(text sig:cT)(hp:pub.length<=1000000000)(hl:label.size<=1048576)(ht:text.length<=500000000):aG 91 [bs pub,vd label,bs text,bs sig] (.r (.b (rp pub (rH (sB label) text) sig))):=by
 refine aT Tryz.func91 rfl ?_
 refine ze (jI label text hl (by omega)) ?_
 refine ze (h_holds pub (rH (sB label) text) sig hp (Jm label text hl ht)) ?_
 exact cr
end Go.Proofs.YtkegaaonpekkgaaGreat.Sx
