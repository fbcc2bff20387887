import Derived.Test.YtkegaaonpekkgaaGreatZSxBx
import Derived.Test.YtkegaaonpekkgaaGreatZBytes
import Derived.Test.YtkegaaonpekkgaaGreatZKd
import Derived.Test.YtkegaaonpekkgaaGreatZKu
import Derived.Test.YtkegaaonpekkgaaGreatZSxY
import Derived.Shelf.RegionOpenPlain
import Derived.Lib.Walk
import Derived.Lib.SliceRun
import Derived.Lib.Overlaps
import Derived.Laws.Externs
import Derived.Laws.IdiomCopy
import Derived.Lib.AppendZerosOnto
import Derived.Laws.NewBlocks
import Derived.Test.YtkegaaonpekkgaaGreatZMe
import Derived.Laws.BytesArg
import Derived.Lib.Bytes
namespace Go.Proofs.YtkegaaonpekkgaaGreat.Sx
open Go.RowKit
section
variable {P:Program} {T:TT} {B:Bs} {N:Nat} {S:St} {a:Act} {w:World} {k:Kp} {g:Env} {o:Oper}
theorem Vstep.sto{t:TypeId}{x y:Operand}{K:St->Prop}(hT:TOk P T)(hop:o.op= .store t x y)(h:Sx.sto T S o.dst t x y K):Vstep P S o K:=
 ⟨{S':St//K S'},λi=>i.1,λB N a w k Q ⟨g,hs⟩ _=>Oper.wp_mono (λa' w' ⟨S',k',hK,hs'⟩=>⟨⟨S',hK⟩,k',hs'⟩) (zoe (Q:=Q) hT hs hop h),λi=>i.2⟩
theorem Vstep.nmB(id t:Nat){cells:List TF}(ho:oget S.O id=some (.box cells)){K:St->Prop}(h: ∀b:Nat,Vstep P ⟨(t, .nm id (.pointer (some ⟨b,0,none⟩)))::S.F,S.O,S.nx⟩ o K):Vstep P S o K:=by
 refine⟨Σ b:Nat,(h b).out.choose,λx=>(h x.1).out.choose_spec.choose x.2,λB N a w k Q hs0 hd=>?_,λx=>(h x.1).out.choose_spec.choose_spec.2 x.2⟩
 obtain⟨g,hs⟩:=hs0
 obtain⟨hid,_,hat,_⟩:=hs.owns id _ ho
 simp only[Ow.at_]at hat
 obtain⟨b,cur,ty,e,_⟩:=hat
 have hs1:Sat B N ⟨(t, .nm id (.pointer (some ⟨b,0,none⟩)))::S.F,S.O,S.nx⟩ a w k:=by
  refine⟨g,hs.size,hs.defers,hs.keep,hs.kk,λt' f hf=>?_,hs.owns,hs.apart⟩
  rcases zay hf with⟨rfl,rfl⟩ |⟨_,hf⟩
  ·exact⟨hid,by simp only[TF.at_];rw[e]⟩
  ·exact hs.facts t' f hf
 refine Oper.wp_mono ?_ ((h b).out.choose_spec.choose_spec.1 B N a w k Q hs1 hd)
 rintro a' w' ⟨i,k',hs'⟩
 exact⟨⟨b,i⟩,k',hs'⟩
theorem zqw{id t tn b off:Nat}{cells:List TF}(ho:oget S.O id=some (.box cells))(hn:fget S.F tn=some (.nm id (.pointer (some ⟨b,0,none⟩))))(ht:fget S.F t=some (.r (.x (.pointer (some ⟨b,off,none⟩))))):Sub S ⟨(t, .adr id off)::S.F,S.O,S.nx⟩:=by
 intro B N a w k ⟨g,hs⟩
 obtain⟨hid,_,hat,_⟩:=hs.owns id _ ho
 simp only[Ow.at_]at hat
 obtain⟨b',cur,ty,e,_⟩:=hat
 have h1:=(hs.facts tn _ hn).2
 simp only[TF.at_]at h1
 rw[e]at h1
 simp only[Value.pointer.injEq,Option.some.injEq,Addr.mk.injEq,and_true]at h1
 have h2:=(hs.facts t _ ht).2
 simp only[TF.at_,RV.at_]at h2
 refine⟨k,g,hs.size,hs.defers,hs.keep,hs.kk,λt' f hf=>?_,hs.owns,hs.apart⟩
 rcases zay hf with⟨rfl,rfl⟩ |⟨_,hf⟩
 ·exact⟨hid,by simp only[TF.at_];exact⟨b,by rw[e,h1],h2⟩⟩
 ·exact hs.facts t' f hf
theorem Vstep.callX{x:Operand}{ts:Array TypeId}{f:FuncId}{id tn b:Nat}{r:RV}{K:St->Prop}(hop:o.op= .call {callee:= .value (.func f),args:= #[x],argTypes:=ts}) (hx:opr S x=some (.own id)) (hn:fget S.F tn=some (.nm id (.pointer (some ⟨b,0,none⟩)))) (hg:zab P f [.x (.pointer (some ⟨b,0,none⟩))] (.r r)) (hK:newK S o.dst (.r r) none K):Vstep P S o K:=by
 rw[zaw]at hK
 refine Vstep.one (λB N a w k Q ⟨g,hs⟩ hd=>?_) hK
 have h1:=(zaf hs hx).2
 have h2:=(hs.facts tn _ hn).2
 simp only[TF.at_]at h1 h2
 rw[h2]at h1
 have:=zh1 (o:=o) (Q:=Q) (K:=λf ow=>f= .r r/\ow=none) hs (us:=[a.eval x]) (vs:=[.x (.pointer (some ⟨b,0,none⟩))]) (by simp only[RV.partsAt,RV.at_];exact⟨_,_,rfl,h1,rfl⟩) (zn _) hg (by simp[execOp,hop,resolve,Act.eval,Deferred.ofValue,invoke]) ⟨rfl,rfl⟩
 refine Oper.wp_mono ?_ this
 rintro a' w' ⟨f',ow,u,k',⟨rfl,rfl⟩,rfl,hl⟩
 exact⟨k',hl.sat hs hd⟩
theorem Vcode.nmB(id t:Nat){cells:List TF}(ho:oget S.O id=some (.box cells)){c:Code}{Q:Exit->St->Prop}(h: ∀b:Nat,Vcode P c ⟨(t, .nm id (.pointer (some ⟨b,0,none⟩)))::S.F,S.O,S.nx⟩ Q):Vcode P c S Q:=by
 refine⟨λB N a w k Q' ⟨g,hs⟩ hd hQ=>?_⟩
 obtain⟨hid,_,hat,_⟩:=hs.owns id _ ho
 simp only[Ow.at_]at hat
 obtain⟨b,cur,ty,e,_⟩:=hat
 refine(h b).out B N a w k Q' ⟨g,hs.size,hs.defers,hs.keep,hs.kk,λt' f hf=>?_,hs.owns,hs.apart⟩ hd hQ
 rcases zay hf with⟨rfl,rfl⟩ |⟨_,hf⟩
 ·exact⟨hid,by simp only[TF.at_];rw[e]⟩
 ·exact hs.facts t' f hf
theorem Vcode.subp(hm:P.follows .mixedOrders=true)(hT:TOk P T){c:Code}{S':St}{Q:Exit->St->Prop}(hs:Sub S S')(h:vcg P T c S' Q):Vcode P c S Q:=
 ⟨λB N a w k Q' hh hd hQ=>by obtain⟨k',h'⟩:=hs B N a w k hh;exact zaz hm hT c S' Q h B N a w k' Q' h' hd hQ⟩
theorem zicb{id t tn b off:Nat}{cells:List TF}(ho:oget S.O id=some (.box cells))(hn:fget S.F tn=some (.nm id (.pointer (some ⟨b,0,none⟩))))(ht:fget S.F t=some (.adr id off)):Sub S ⟨(t, .r (.x (.pointer (some ⟨b,off,none⟩))))::S.F,S.O,S.nx⟩:=by
 intro B N a w k ⟨g,hs⟩
 obtain⟨hid,_,hat,_⟩:=hs.owns id _ ho
 simp only[Ow.at_]at hat
 obtain⟨b',cur,ty,e,_⟩:=hat
 have h1:=(hs.facts tn _ hn).2
 simp only[TF.at_]at h1
 rw[e]at h1
 simp only[Value.pointer.injEq,Option.some.injEq,Addr.mk.injEq,and_true]at h1
 have h2:=(hs.facts t _ ht).2
 simp only[TF.at_]at h2
 obtain⟨b2,e2,h2⟩:=h2
 rw[e]at e2
 simp only[Option.some.injEq]at e2
 refine⟨k,g,hs.size,hs.defers,hs.keep,hs.kk,λt' f hf=>?_,hs.owns,hs.apart⟩
 rcases zay hf with⟨rfl,rfl⟩ |⟨_,hf⟩
 ·exact⟨trivial,by simp only[TF.at_,RV.at_];rw[h2,<-e2,h1]⟩
 ·exact hs.facts t' f hf
theorem zk6{id t tn:Nat}{v:Value}(hn:fget S.F tn=some (.nm id v))(ht:fget S.F t=some (.own id)):Sub S ⟨(t, .r (.x v))::S.F,S.O,S.nx⟩:=by
 intro B N a w k ⟨g,hs⟩
 have h1:=(hs.facts tn _ hn).2
 have h2:=(hs.facts t _ ht).2
 simp only[TF.at_]at h1 h2
 refine⟨k,g,hs.size,hs.defers,hs.keep,hs.kk,λt' f hf=>?_,hs.owns,hs.apart⟩
 rcases zay hf with⟨rfl,rfl⟩ |⟨_,hf⟩
 ·exact⟨trivial,by simp only[TF.at_,RV.at_];rw[h2,h1]⟩
 ·exact hs.facts t' f hf
theorem zmn{id t tn:Nat}{v:Value}(hn:fget S.F tn=some (.nm id v))(ht:fget S.F t=some (.r (.x v))):Sub S ⟨(t, .own id)::S.F,S.O,S.nx⟩:=by
 intro B N a w k ⟨g,hs⟩
 have h1:=hs.facts tn _ hn
 have h2:=(hs.facts t _ ht).2
 have h3:=h1.1
 have h1:=h1.2
 simp only[TF.at_,RV.at_]at h1 h2
 refine⟨k,g,hs.size,hs.defers,hs.keep,hs.kk,λt' f hf=>?_,hs.owns,hs.apart⟩
 rcases zay hf with⟨rfl,rfl⟩ |⟨_,hf⟩
 ·exact⟨h3,by simp only[TF.at_];rw[h2,h1]⟩
 ·exact hs.facts t' f hf
theorem zj8{id j tn i:Nat}{cells:List TF}{v:Value}(ho:oget S.O id=some (.box cells))(hn:fget S.F tn=some (.nm j v))(hi:cells[i]?=some (.r (.x v))):Sub S ⟨S.F,(id,some (.box (cells.set i (.own j))))::S.O,S.nx⟩:=by
 intro B N a w k ⟨g,hs⟩
 have h1:=hs.facts tn _ hn
 have h3:=h1.1
 have h1:=h1.2
 simp only[TF.at_]at h1
 obtain⟨q1,q2,q3,q4⟩:=hs.owns id _ ho
 have hex: ∀i' o',oget ((id,some (.box (cells.set i (.own j))))::S.O) i'=some o'->∃o,oget S.O i'=some o:=λi' o' h=>by
  simp only[oget]at h
  split at h
  ·rename_i hb
   rw[<-Nat.eq_of_beq_eq_true hb]
   exact⟨_,ho⟩
  ·exact⟨_,h⟩
 refine⟨k,g,hs.size,hs.defers,hs.keep,hs.kk,hs.facts,λi' o' h=>?_,λi1 i2 o1 o2 b e1 e2=>?_⟩
 ·simp only[oget]at h
  split at h
  ·rename_i hb
   cases h
   have:=Nat.eq_of_beq_eq_true hb
   subst this
   refine⟨q1,λf hf=>?_,?_,q4⟩
   ·rcases List.mem_or_eq_of_mem_set hf with hf |rfl
    ·exact q2 f hf
    ·exact h3
   ·obtain⟨b,cur,ty,e1,e2,e3,e4,e5⟩:=q3
    refine⟨b,cur,ty,e1,e2,e3,by rw[List.length_set];exact e4,λn f u hf hu=>?_⟩
    rw[List.getElem?_set]at hf
    split at hf
    ·rename_i hin
     subst hin
     split at hf
     ·cases hf
      have:=e5 i _ u hi hu
      refine⟨this.1,?_⟩
      have h5:=this.2
      simp only[TF.at_,RV.at_]at h5⊢
      rw[h5,h1]
     ·cases hf
    ·exact e5 n f u hf hu
  ·exact hs.owns i' o' h
 ·obtain⟨p1,f1⟩:=hex i1 o1 e1
  obtain⟨p2,f2⟩:=hex i2 o2 e2
  exact hs.apart i1 i2 p1 p2 b f1 f2
theorem zfu{f:FuncId}{args:List RV}{e:TypeId}{sz n:Nat}{cells:List RV}(h:zab P f args (.ch e sz n cells)):zab P f args (.r (.sl sz n cells)):=
 ⟨h.1,λw k vs hp=>(h.2 w k vs hp).mono λ_ _ ⟨v,he,hx,k',hk,hr⟩=>⟨v,he,hx,k',hk,by obtain⟨ob,hc,_⟩:=hr;exact chAt.sl hc⟩⟩
def adrs(id:Nat)(l:List Nat):List TF:=l.map (TF.adr id)
def zn0(S:St):Nat->List (Nat×Operand)->List TF->Prop
 |_,[],fs=>fs=[]
 |i,(j,x)::r,fs=>∃id off gs,j=i/\opr S x=some (.adr id off)/\fs= .adr id off::gs/\zn0 S (i+1) r gs
theorem zw4(hs:SatE B N S a w k g): ∀(parts:List (Nat×Operand)) (i:Nat) (fs:List TF) (vs:Array Value),zn0 S i parts fs->i+parts.length<=vs.size->
  ∃vs',Instr.fill (λi=>some (i*1,1)) vs (parts.map λ(i,x)=>(i,a.eval x))=some vs'/\vs'.size=vs.size/\(∀j,j<i->vs'[j]?=vs[j]?)/\(∀f∈fs,f.lt S.nx)/\fs.length=parts.length/\
   ∀(j:Nat) (f:TF) (u:Value),fs[j]?=some f->vs'[i+j]?=some u->u.oneCell'=true/\f.at_ w k g u
 |[],i,fs,vs,h,hl=>by
  simp only[zn0]at h
  subst h
  exact⟨vs,rfl,rfl,λ_ _=>rfl,by simp,rfl,λj f u hf=>by simp at hf⟩
 |(j0,x)::r,i,fs,vs,h,hl=>by
  simp only[zn0]at h
  obtain⟨id,off,gs,rfl,hx,rfl,hr⟩:=h
  obtain⟨hlt,hat⟩:=zaf hs hx
  have hat':=hat
  simp only[TF.at_]at hat
  obtain⟨b,hb,e⟩:=hat
  simp only[List.length_cons]at hl
  obtain⟨vs',h1,h2,h3,h4,h5,h6⟩:=zw4 hs r (j0+1) gs (vs.setIfInBounds j0 (a.eval x)) hr (by simp;omega)
  refine⟨vs',?_,by simpa using h2,λj hj=>?_,?_,by simp[h5],λj f u hf hu=>?_⟩
  ·simp only[List.map_cons,Instr.fill]
   rw[if_neg (by simp[e,Value.cells];omega)]
   rw[<-h1]
   congr 1
   simp[e,Value.cells]
  ·rw[h3 j (by omega),Array.getElem?_setIfInBounds_ne (by omega)]
  ·intro f hf
   rcases List.mem_cons.1 hf with rfl |hf
   ·exact hlt
   ·exact h4 f hf
  ·cases j with
   |zero=>
    simp only[List.getElem?_cons_zero,Option.some.injEq]at hf
    subst hf
    rw[Nat.add_zero,h3 j0 (by omega)]at hu
    have hj:j0<vs.size:=by omega
    simp[hj]at hu
    subst hu
    exact⟨by rw[e];rfl,hat'⟩
   |succ j=>exact h6 j f u (by simpa using hf) (by rw[<-hu];congr 1;omega)
theorem Vstep.bsl{t e:TypeId}{ti te:TI}{n:Nat}{parts:Array (Nat×Operand)}(fs:List TF){K:St->Prop}(hT:TOk P T)(hop:o.op= .buildSlice t n parts)(hti:tget T t=some ti)(hk:ti.k= .slice e)(hte:tget T e=some te)(hsz:te.sz=1)
  (hn:parts.toList.length=n) (hsm:n<=16777216) (hp:zn0 S 0 parts.toList fs) (hK:K (({S with O:=(S.nx,some (.box fs))::S.O,nx:=S.nx+1}:St).put o.dst (.cut S.nx 0 n))):Vstep P S o K:=by
 refine Vstep.one (λB N a w k Q ⟨g,hs⟩ hd=>?_) hK
 obtain⟨q,hq⟩:=hT.get hti
 obtain⟨d,hdd,hko,_⟩:=q.desc
 rw[hq]at hdd
 rw[hk]at hko
 simp only[KOk]at hko
 subst hko
 obtain⟨qe,hqe⟩:=hT.get hte
 obtain⟨i,hi,hsi,_,z,hz,hzc⟩:=qe.info
 rw[hqe]at hi
 have hms:(madeCells z.cells (n*te.sz)).size=n:=by rw[hsz];simp[madeCells]
 obtain⟨vs,h1,h2,_,h4,h5,h6⟩:=zw4 hs parts.toList 0 fs (madeCells z.cells (n*te.sz)) hp (by rw[hms,hn];omega)
 have hr:=zj5 (w:=w) (n:=n) (parts:=parts.map λ(i,x)=>(i,a.eval x)) hdd hi hsi hz (by rw[hsz];omega) (vs:=vs) (by rw[hsz,Array.toList_map];rw[hsz]at h1;exact h1)
 rw[hms]at h2
 have hle:=zqg w k (.cells vs e) 0
 obtain⟨k',he,hkk,hl⟩:=zgx (t:=e) hs (cells:=fs) (cs:=vs) h4 (by rw[h2,h5,hn]) (λj f u hf hu=>h6 j f u hf (by rw[Nat.zero_add];exact hu))
 obtain⟨ob,hob,h7,h8,h9⟩:=hl
 have hs2:=hs.make (dst:=none) (λd h=>by cases h) he hkk (vb:=(.pointer (some ⟨w.heap.size,0,none⟩),ob)) h7 h8 h9
 refine zau (v:= .slice (some ⟨w.heap.size,0,none⟩) n n) (by simp only[execOp,hop,Sem.run_bind,hr];rfl) ⟨k',_,hs2.put hd (Nat.lt_succ_self S.nx) ?_⟩
 simp only[TF.at_,Env.set_eq]
 refine⟨w.heap.size,n,?_,rfl,Nat.le_refl _,by simp only[maxLen];omega⟩
 simp only[Ow.at_]at h8
 obtain⟨b,cur,ty,e1,_⟩:=h8
 simp only[Prod.mk.injEq,Value.pointer.injEq,Option.some.injEq,Addr.mk.injEq,and_true]at e1
 rw[e1.2,e1.1]
end
theorem z4n(l:Leaf)(hl:l.fit):aG 128 [.ag l.c] (.r (.ag l.c)):=by
 refine aT Tryz.func128 rfl ?_
 obtain⟨h1,h2,h3,h4,h5⟩:=hl
 refine Vstep.bsl (adrs 0 [0,1,2,4,5]) Tab_ok rfl rfl rfl rfl rfl rfl (by decide) (by repeat' (first|exact rfl|refine⟨_,_,_,rfl,rfl,rfl,?_⟩)) ?_
 refine zy (λj:Nat=>⟨[(1, .own 0),(2, .own 1),(10, .cut 2 0 5),(11, .r (I 5)),(12, .r (I j))],[(0,some (.box (l.c.map TF.r))),(1,some (.box [.r (.x (.slice none 0 0)), .r (.x (.slice none 0 0)), .r (.x (.slice none 0 0)), .r (.i .u8 0), .r (.x (.slice none 0 0)), .r (.x (.slice none 0 0))])),(2,some (.box (adrs 0 [0,1,2,4,5])))],3⟩) (λj=>j<=5) (λj=>5-j) 0 (by omega) (zac [(0,0),(1,1),(2,2)] rfl (by repeat' (first|exact rfl|exact trivial|exact cr|exact Cv.nil _|exact⟨rfl,rfl⟩|refine⟨_,_,rfl,?_,?_⟩|refine⟨?_,?_⟩)) (by repeat' (first|exact rfl|exact trivial|exact cr|exact Cv.nil _|exact⟨rfl,rfl⟩|refine⟨_,_,rfl,?_,?_⟩|refine⟨?_,?_⟩))) ?_
 intro j hj
 rcases(by omega:j<5\/j=5)with hlt |rfl
 rotate_left
 ·refine zu rfl (zq ?_)
  refine za rfl rfl ?_
  refine za rfl rfl ?_
  exact cr
 obtain⟨k,hk⟩: ∃k,k=j+1:=⟨_,rfl⟩
 rcases(by omega:j=0\/j=1\/j=2\/j=3\/j=4)with rfl |rfl |rfl |rfl |rfl
 all_goals
  refine zt rfl (zp ?_)
  refine Vadr.mk' _ rfl (by decide) ?_
  refine ze (zbx _ (by omega)) ?_
  refine zd (m:=(k:Int)) (by omega) (by omega) ?_
  exact⟨k,by omega,by omega,by subst hk;exact zac [(0,0),(1,1),(2,2)] rfl (by repeat' (first|exact rfl|exact trivial|exact cr|exact Cv.nil _|exact⟨rfl,rfl⟩|refine⟨_,_,rfl,?_,?_⟩|refine⟨?_,?_⟩)) (by repeat' (first|exact rfl|exact trivial|exact cr|exact Cv.nil _|exact⟨rfl,rfl⟩|refine⟨_,_,rfl,?_,?_⟩|refine⟨?_,?_⟩))⟩
theorem zb1(l:Leaf)(hl:l.fit):aG 128 [.ag l.c] (.r (.ag l.c)):=z4n l hl
def zgo(label text:List UInt8):List UInt8:=vecB (mlsB++label)++vecB text
theorem zlv(label:ByteArray)(text:List UInt8)(hl:label.size<=1048576)(ht:text.length<=1000000000):aG 136 [Str label,bs text] (bch (zgo (sB label) text)):=by
 refine aT Tryz.func136 rfl ?_
 have hd:=zql label
 have hsz:label.data.toList.length=label.size:=rfl
 have hml:mlsB.length=8:=rfl
 refine⟨by show 8+label.size<=_;omega,?_⟩
 refine⟨by rw[zsq];show 8+label.size<=_;omega,?_⟩
 refine Vcall.mk' (zbl [] ((⟨#[77,76,83,32,49,46,48,32]⟩:ByteArray)++label).data.toList (by simp) (by rw[hd,aL];omega)) (zk (Cv.nil _) (zn _)) ?_
 rw[hd]
 have hv:=zag (mlsB++label.data.toList)
 rw[aL]at hv
 refine ze (zbl ([]++vecB (mlsB++label.data.toList)) text (by simp only[aL,List.length_nil];omega) (by omega)) ?_
 exact zdh (by simp[zgo,sB])
def zh8(seed label text:List UInt8):List UInt8:=sigB seed (zgo label text)
theorem zs9(seed:List UInt8)(label:ByteArray)(text:List UInt8)(hs:seed.length=32)(hl:label.size<=1048576)(ht:text.length<=500000000):aG 53 [bs seed,Str label,bs text] (.r (.tu [bs (zh8 seed (sB label) text),Er 0])):=by
 refine aT Tryz.func53 rfl ?_
 have hsz:(sB label).length=label.size:=rfl
 have hml:mlsB.length=8:=rfl
 have hv:=zag (mlsB++sB label)
 have hv2:=zag text
 rw[aL]at hv
 refine ze (zlv label text hl (by omega)) ?_
 refine ze (zjzb seed (zgo (sB label) text) hs (by rw[zgo,aL];omega)) ?_
 exact⟨_,rfl,cr⟩
theorem z0t(seed:List UInt8)(label:ByteArray)(text:List UInt8)(hs:seed.length≠32)(hl:label.size<=1048576)(ht:text.length<=500000000):aG 53 [bs seed,Str label,bs text] (.r (.tu [bs [],Er 1])):=by
 refine aT Tryz.func53 rfl ?_
 have hsz:(sB label).length=label.size:=rfl
 have hml:mlsB.length=8:=rfl
 have hv:=zag (mlsB++sB label)
 have hv2:=zag text
 rw[aL]at hv
 refine ze (zlv label text hl (by omega)) ?_
 refine ze (z49 seed (zgo (sB label) text) hs) ?_
 exact⟨_,rfl,cr⟩
def nums(l:List UInt8):List Int:=l.map λb=>(b.toNat:Int)
theorem zsx{S:Nat->Prop}(p:AC)(l:List UInt8)(w:World)(hp:By w S p l):(convert 22 9 (.slice p.a l.length p.c)).run aP w= .ok (.string (strOfNums (nums l))) w:=by
 rcases Nat.eq_zero_or_pos l.length with hn |hn
 ·have hl:l=[]:=List.eq_nil_of_length_eq_zero hn
  subst hl
  rw[run_convert_bytes_string w _ _ _ _ _ _ Tryz.underlying22 Tryz.underlying5 Tryz.underlying9]
  simp only[List.length_nil]
  cases p.a<;>simp[Conv.bytesToString,loadCells]
  all_goals rfl
 ·obtain⟨b,o,e,hc⟩:=hp.form hn
  rw[e]
  exact run_convert_bytes_arg w _ _ Tryz.underlying22 Tryz.underlying5 b o l.length p.c (nums l) (by simp[nums]) (λi hi=>by
   rw[hc i hi]
   simp[nums,hi]) _ Tryz.underlying9
theorem zhhb(l m:List UInt8):((strOfNums (nums l)).toList==(strOfNums (nums m)).toList)=decide (l=m):=by
 have h: ∀l:List UInt8,(strOfNums (nums l)).toList=l:=λl=>by
  rw[Lib.strOfNums_toList]
  simp[Lib.bytesOf,nums,Function.comp_def]
 rw[h,h]
 by_cases e:l=m
 ·subst e
  simp
 ·simp[e]
theorem z3q(p q:AC)(l m:List UInt8){S:Nat->Prop}(w:World)(hp:By w S p l)(hq:By w S q m):
  Calls aP 114 #[.slice p.a l.length p.c, .slice q.a m.length q.c] w λe w'=>e= .returned (.bool (decide (l=m)))/\w'=w:=by
 have g1:=zsx p l w hp
 have g2:=zsx q m w hq
 rw[<-zhhb]
 generalize strOfNums (nums l)=s1 at*
 generalize strOfNums (nums m)=s2 at*
 obtain⟨a,c⟩:=p
 obtain⟨a',c'⟩:=q
 go_enter Tryz.func114,Tryz.ntmps114
 go_wp2_with fail
 go_ret
 exact⟨rfl,rfl⟩
theorem zlq(l m:List UInt8):aG 114 [bs l,bs m] (.r (.b (decide (l=m)))):=
 zub (zdt Tryz.func114 rfl (by kernel_rfl)) λw k vs hp=>by
  obtain⟨a,b,rfl,h1,h2⟩:=znz hp
  obtain⟨p,rfl,hp1⟩:=z3s h1
  obtain⟨q,rfl,hq1⟩:=z3s h2
  exact(z3q p q l m w hp1 hq1).mono λ_ _ ⟨e,hw⟩=>⟨_,e,hw▸Ext.refl _,k,λ_ _=>rfl,by simp[Res.at_,RV.at_]⟩
theorem z7t(l:List UInt8)(h0:0<l.length)(hl:l.length<=1000000000):aG 42 [bs l] (.own 5 1 l.length (l.map U8)):=zt4 l (by omega)
theorem zgdb(x:Fe):aG 353 [.ag x.v] (.r (.b (zbu x fz))):=by
 refine aT Tryz.func353 rfl ?_
 refine za rfl rfl ?_
 refine ze (zkq x fz) ?_
 exact cr
def Pt.same(p q:Pt):Bool:=cond (zbu (p.x.mul q.z) (q.x.mul p.z)) (zbu (p.y.mul q.z) (q.y.mul p.z)) false
set_option maxHeartbeats 1000000 in
theorem zgrb(p q:Pt):aG 254 [.ag p.v, .ag q.v] (.r (.b (p.same q))):=by
 refine aT Tryz.func254 rfl ?_
 refine aV ?_
 refine za rfl rfl ?_
 refine ze (zim p) ?_
 refine za rfl rfl ?_
 refine ze (zim q) ?_
 refine aV ?_
 refine za rfl rfl ?_
 refine za rfl rfl ?_
 refine ze (zbh p.x q.z) ?_
 refine za rfl rfl ?_
 refine za rfl rfl ?_
 refine ze (zbh q.x p.z) ?_
 have e1:zbu (p.x.mul q.z) (q.x.mul p.z)=true->p.same q=zbu (p.y.mul q.z) (q.y.mul p.z):=λh=>by unfold Pt.same;rw[h];rfl
 have e0:zbu (p.x.mul q.z) (q.x.mul p.z)=false->p.same q=false:=λh=>by unfold Pt.same;rw[h];rfl
 generalize p.x.mul q.z=A at*
 generalize q.x.mul p.z=B at*
 refine Vcall.bool (zkq A B) (λh=>?_) (λh=>?_)
 ·rw[e1 h]
  refine za rfl rfl ?_
  refine za rfl rfl ?_
  refine ze (zbh p.y q.z) ?_
  refine za rfl rfl ?_
  refine za rfl rfl ?_
  refine ze (zbh q.y p.z) ?_
  generalize p.y.mul q.z=C
  generalize q.y.mul p.z=D
  refine ze (zkq C D) ?_
  exact cr
 ·rw[e0 h]
  exact cr
set_option maxHeartbeats 1000000 in
theorem zjvb(p q:Pt):aG 255 [.ag p.v, .ag q.v] (.r (.ag (p.sum q dD).v)):=by
 refine aT Tryz.func255 rfl ?_
 refine aV ?_
 refine za rfl rfl ?_
 refine ze (zim p) ?_
 refine za rfl rfl ?_
 refine ze (zim q) ?_
 have hd:=h_d
 have e:dD=dC.add dC:=by rw[dD]
 rw[e]
 generalize dC=d at hd⊢
 refine ze hd ?_
 refine ze hd ?_
 refine ze (zfq d d) ?_
 refine ze (zxt p q (d.add d)) ?_
 refine za rfl rfl ?_
 exact cr
def oddB(b:List UInt8):Bool:=(((b.getD 31 0).toNat:Int).fdiv (2^(min (7:Int).toNat 8))==1)
def lowB(b:List UInt8):List UInt8:=b.set 31 (b.getD 31 0&&&127)
def negF(odd:Bool)(x:Fe):Fe:=cond odd (Fe.sub ⟨0,0,0,0,0⟩ x) x
def decP(b:List UInt8):Option Pt:=
 if b.length=32 then
  if(Fe.of b).bytes=lowB b then
   if(za5 (zbq (Fe.of b))).2=true/\¬(zbu (za5 (zbq (Fe.of b))).1 fz=true/\oddB b=true)then some (Pt.of (negF (oddB b) (za5 (zbq (Fe.of b))).1) (Fe.of b))else none
  else none
 else none
abbrev zP:List RV:=[W 0,W 0,W 0,W 0,W 0,W 0,W 0,W 0,W 0,W 0,W 0,W 0,W 0,W 0,W 0,W 0,W 0,W 0,W 0,W 0, .b false]
def resP:Option Pt->RV
 |some p=> .tu [.ag p.v, .b true]
 |none=> .tu [.ag zP, .b false]
theorem z8j(b:List UInt8)(h:b.length≠32):aG 252 [bs b] (.r (resP none)):=by
 refine aT Tryz.func252 rfl ?_
 refine zt (by simp only[zb];omega) (zp ?_)
 refine za rfl rfl ?_
 exact⟨_,rfl,cr⟩
section
variable (b yb:List UInt8) (y x:Fe) (ok zx:Bool) (hb:b.length=32)
 (c1:aG 322 [bs b] (.r (.ag y.v)))
 (c2:aG 211 [.ag y.v] (bch yb))
include hb c1 c2
set_option maxHeartbeats 1000000 in
theorem zckb(res:Option Pt)
  (c3:yb=lowB b->aG 214 [.ag y.v] (.r (.tu [.ag x.v, .b ok])))
  (c4:aG 353 [.ag x.v] (.r (.b zx)))
  (c5: ∀u:Fe,u=negF (oddB b) x->∀P:Pt,some P=res->aG 215 [.ag u.v, .ag y.v] (.r (.ag P.v)))
  (r0:yb≠lowB b->res=none) (r1:yb=lowB b->(ok=false\/zx=true/\oddB b=true)->res=none) (r2:yb=lowB b->ok=true->¬(zx=true/\oddB b=true)->∃P,some P=res):
  aG 252 [bs b] (.r (resP res)):=by
 refine aT Tryz.func252 rfl ?_
 have hg:b[31]?=some (b.getD 31 0):=by rw[List.getD_eq_getElem?_getD,List.getElem?_eq_getElem (by omega)];rfl
 have hi:((b.map U8).drop ((31:Int).toNat*1)).take 1=[U8 (b.getD 31 0)]:=by
  have h31:31<b.length:=by omega
  have:=za3 (f:=U8) (l:=b) (i:=31) (j:=31) rfl h31
  rw[List.getElem?_eq_getElem h31]at hg
  rwa[Option.some.inj hg]at this
 refine zu (by simp only[zb];omega) (zq ?_)
 refine ze c1 ?_
 refine zm (by decide) (by omega) hi (zg rfl ?_)
 refine⟨by decide,_,rfl,?_⟩
 refine Vcmp.mk' (m:=oddB b) rfl ?_
 refine ze (z7t b (by omega) (by omega)) ?_
 refine Vadr.mk' 31 rfl (by omega) ?_
 refine zg (zeu (j:=31) (by omega)) ?_
 refine Vbits.and8 (b.getD 31 0) 127 rfl rfl ?_
 refine Vadr.mk' 31 rfl (by omega) ?_
 refine⟨by show 31*1+1<=(b.map U8).length;rw[List.length_map];omega,(lowB b).map U8,zc1 (show 31<b.length by omega),?_⟩
 refine za rfl rfl ?_
 refine ze c2 ?_
 have hlow:(lowB b).length=b.length:=by simp[lowB]
 have hbe:aG 114 [bs yb, .sl 1 b.length ((lowB b).map U8)] (.r (.b (decide (yb=lowB b)))):=by
  have:=zlq yb (lowB b)
  rwa[<-zjo (lowB b) b.length hlow]at this
 refine Vstep.sub (zbd (id:=2) rfl) (Vstep.val Tab_ok ?_)
 refine Vcall.bool hbe (λh=>zu rfl (zq ?_)) (λh=>zt rfl (zp ?_))
 rotate_left
 ·simp only[decide_eq_false_iff_not]at h
  refine za rfl rfl ?_
  exact⟨_,rfl,zf (by rw[r0 h];rfl)⟩
 simp only[decide_eq_true_eq]at h
 refine za rfl rfl ?_
 refine ze (c3 h) ?_
 have r1':=r1 h
 have r2':=r2 h
 cases ok with
 |false=>
  refine zt rfl (zp ?_)
  refine za rfl rfl ?_
  exact⟨_,rfl,zf (by rw[r1' (.inl rfl)];rfl)⟩
 |true=>
  refine zu rfl ?_
  refine za rfl rfl ?_
  refine ze c4 ?_
  obtain⟨β,hβ⟩: ∃β,β=oddB b:=⟨_,rfl⟩
  rw[<-hβ]at r1' r2' c5⊢
  cases zx with
  |true=>
   cases β with
   |true=>
    refine zp ?_
    refine za rfl rfl ?_
    exact⟨_,rfl,zf (by rw[r1' (.inr ⟨rfl,rfl⟩)];rfl)⟩
   |false=>
    obtain⟨P,hP⟩:=r2' rfl (by simp)
    refine zq (zq ?_)
    refine za rfl rfl ?_
    refine za rfl rfl ?_
    refine ze (c5 x rfl P hP) ?_
    refine za rfl rfl ?_
    exact⟨_,rfl,zf (by rw[<-hP];rfl)⟩
  |false=>
   obtain⟨P,hP⟩:=r2' rfl (by simp)
   cases β with
   |true=>
    refine zq (zp ?_)
    refine za rfl rfl ?_
    refine ze (zwc x) ?_
    refine za rfl rfl ?_
    refine za rfl rfl ?_
    refine ze (c5 _ rfl P hP) ?_
    refine za rfl rfl ?_
    exact⟨_,rfl,zf (by rw[<-hP];rfl)⟩
   |false=>
    refine zq (zq ?_)
    refine za rfl rfl ?_
    refine za rfl rfl ?_
    refine ze (c5 x rfl P hP) ?_
    refine za rfl rfl ?_
    exact⟨_,rfl,zf (by rw[<-hP];rfl)⟩
end
theorem z8i(b:List UInt8):aG 252 [bs b] (.r (resP (decP b))):=by
 by_cases hb:b.length=32
 ·have c1:=h_of b hb
  have hD:decP b=if(Fe.of b).bytes=lowB b then if(za5 (zbq (Fe.of b))).2=true/\¬(zbu (za5 (zbq (Fe.of b))).1 fz=true/\oddB b=true)then some (Pt.of (negF (oddB b) (za5 (zbq (Fe.of b))).1) (Fe.of b))else none else none:=by unfold decP;rw[if_pos hb]
  generalize decP b=res at hD⊢
  generalize Fe.of b=y at c1 hD
  have c2:=zos y
  have c3:=z7y y
  generalize y.bytes=yb at c2 hD
  generalize za5 (zbq y)=q at c3 hD
  obtain⟨x,ok⟩:=q
  dsimp only at c3 hD
  have c4:=zgdb x
  generalize zbu x fz=zx at c4 hD
  refine zckb b yb y x ok zx hb c1 c2 res (λ_=>c3) c4 (λu hu P hP=>?_) (λh=>?_) (λh h2=>?_) (λh h2 h3=>?_)
  ·have h1:yb=lowB b:=Decidable.byContradiction λh=>by rw[hD,if_neg h]at hP;cases hP
   rw[hD,if_pos h1]at hP
   split at hP
   ·cases hP
    rw[<-hu]
    exact z45 u y
   ·cases hP
  ·rw[hD,if_neg h]
  ·rw[hD,if_pos h,if_neg]
   rintro⟨k1,k2⟩
   rcases h2 with h2 |h2
   ·rw[h2]at k1;cases k1
   ·exact k2 h2
  ·exact⟨_,by rw[hD,if_pos h,if_pos ⟨h2,h3⟩]⟩
 ·have:decP b=none:=by unfold decP;rw[if_neg hb]
  rw[this]
  exact z8j b hb
def s4Of(b:List UInt8):S4:=⟨za7 b 0 8,za7 b 8 8,za7 b 16 8,za7 b 24 8⟩
def zfd(b:List UInt8):Option S4:=if b.length=32 then if(s4Of b).bor ord4=0 then none else some (s4Of b)else none
def resS:Option S4->RV
 |some s=> .tu [.ag s.v, .b true]
 |none=> .tu [.ag [W 0,W 0,W 0,W 0], .b false]
theorem z0o(b:List UInt8)(h:b.length≠32):aG 253 [bs b] (.r (resS none)):=by
 refine aT Tryz.func253 rfl ?_
 refine zt (by simp only[zb];omega) (zp ?_)
 refine za rfl rfl ?_
 exact⟨_,rfl,cr⟩
set_option maxHeartbeats 1000000 in
theorem z4q(b:List UInt8)(w0 w1 w2 w3 bo:UInt64)(df:S4)(hb:b.length=32)(c0:aG 334 [bs b,I 0] (.r (W w0)))(c1:aG 334 [bs b,I 8] (.r (W w1)))(c2:aG 334 [bs b,I 16] (.r (W w2)))(c3:aG 334 [bs b,I 24] (.r (W w3)))
  (c4: ∀o:S4,o=ord4->aG 354 [.ag (S4.v ⟨w0,w1,w2,w3⟩), .ag o.v] (.r (.tu [.ag df.v,W bo]))):
  aG 253 [bs b] (.r (resS (if bo=0 then none else some ⟨w0,w1,w2,w3⟩))):=by
 refine aT Tryz.func253 rfl ?_
 have ho:=z1z
 obtain⟨o,hoe⟩: ∃o,o=ord4:=⟨_,rfl⟩
 rw[<-hoe]at ho
 refine zu (by simp only[zb];omega) (zq ?_)
 refine Vloop.rounds 5 ?_
 refine Vrounds.step mixed Tab_ok ?_
 refine zt rfl (zp ?_)
 refine zd (m:=0) rfl (by decide) ?_
 refine ze c0 ?_
 refine Vadr.mk' 0 rfl (by decide) ?_
 refine zd (m:=1) rfl (by decide) ?_
 refine Vrounds.step mixed Tab_ok ?_
 refine zt rfl (zp ?_)
 refine zd (m:=8) rfl (by decide) ?_
 refine ze c1 ?_
 refine Vadr.mk' 1 rfl (by decide) ?_
 refine zd (m:=2) rfl (by decide) ?_
 refine Vrounds.step mixed Tab_ok ?_
 refine zt rfl (zp ?_)
 refine zd (m:=16) rfl (by decide) ?_
 refine ze c2 ?_
 refine Vadr.mk' 2 rfl (by decide) ?_
 refine zd (m:=3) rfl (by decide) ?_
 refine Vrounds.step mixed Tab_ok ?_
 refine zt rfl (zp ?_)
 refine zd (m:=24) rfl (by decide) ?_
 refine ze c3 ?_
 refine Vadr.mk' 3 rfl (by decide) ?_
 refine zd (m:=4) rfl (by decide) ?_
 refine Vrounds.step mixed Tab_ok ?_
 refine zu rfl (zq ?_)
 refine aV ?_
 refine za rfl rfl ?_
 refine ze ho ?_
 refine ze (c4 o hoe) ?_
 refine zh (λh=>zp ?_) (λh=>zq ?_)
 ·simp only[zb]at h
  have hz:bo=0:=by
   have:bo.toNat=0:=by omega
   exact UInt64.toNat_inj.1 (by rw[this];rfl)
  rw[if_pos hz]
  refine za rfl rfl ?_
  exact⟨_,rfl,cr⟩
 ·simp only[zb]at h
  have hz:bo≠0:=λe=>h (by rw[e];rfl)
  rw[if_neg hz]
  refine za rfl rfl ?_
  refine za rfl rfl ?_
  exact⟨_,rfl,cr⟩
theorem zgbb(b:List UInt8):aG 253 [bs b] (.r (resS (zfd b))):=by
 by_cases hb:b.length=32
 ·have:=z4q b (za7 b 0 8) (za7 b 8 8) (za7 b 16 8) (za7 b 24 8) ((s4Of b).bor ord4) ((s4Of b).dif ord4) hb (zkr b 0 (by omega) (by omega)) (zkr b 8 (by omega) (by omega)) (zkr b 16 (by omega) (by omega)) (zkr b 24 (by omega) (by omega)) (λo ho=>by rw[ho];exact z8t (s4Of b) ord4)
  have e:zfd b=if(s4Of b).bor ord4=0 then none else some (s4Of b):=by unfold zfd;rw[if_pos hb]
  rw[e]
  exact this
 ·have:zfd b=none:=by unfold zfd;rw[if_neg hb]
  rw[this]
  exact z0o b hb
def zi4(r a:Pt)(s k:S4):Bool:=(mulP baseP s 253).same (r.sum (mulP a k 253) dD)
def zgd(pub text sig:List UInt8):Bool:=
 if sig.length=64 then
  match decP (sig.take 32),zfd (sig.drop 32),decP pub with
  |some r,some s,some a=>zi4 r a s (scOf (zcu [sig.take 32,pub,text]))
  |_,_,_=>false
 else false
theorem z0r(pub text sig:List UInt8)(h:sig.length≠64):aG 164 [bs pub,bs text,bs sig] (.r (.b false)):=by
 refine aT Tryz.func164 rfl ?_
 refine zt (by simp only[zb];omega) (zp ?_)
 exact cr
section
variable (pub text sig q1 q2:List UInt8) (hl:sig.length=64) (h1:sig.take 32=q1) (h2:sig.drop 32=q2)
 (R A:Option Pt) (Z:Option S4)
 (c1:aG 252 [bs q1] (.r (resP R))) (c2:aG 253 [bs q2] (.r (resS Z))) (c3:aG 252 [bs pub] (.r (resP A)))
include hl h1 h2 c1 c2 c3
set_option maxHeartbeats 1000000 in
theorem zkc(hb:R=none\/Z=none\/A=none):aG 164 [bs pub,bs text,bs sig] (.r (.b false)):=by
 have l1:q1.length=32:=by rw[<-h1,List.length_take];omega
 have l2:q2.length=32:=by rw[<-h2,List.length_drop];omega
 rw[<-zjo q1 32 l1]at c1
 rw[<-zjo q2 32 l2]at c2
 have k1:((sig.map U8).drop ((0:Int).toNat*1)).take (32*1)=q1.map U8:=by rw[<-h1,List.map_take];rfl
 have k2:((sig.map U8).drop ((32:Int).toNat*1)).take (32*1)=q2.map U8:=by rw[<-h2,List.map_drop,List.take_of_length_le (by simp;omega)];rfl
 refine aT Tryz.func164 rfl ?_
 refine zu (by simp only[zb];omega) (zq ?_)
 refine⟨by decide,by decide,by omega,32,q1.map U8,rfl,k1,?_⟩
 cases R with
 |none=>
  refine ze c1 ?_
  refine⟨by decide,by omega,by omega,32,q2.map U8,by omega,k2,?_⟩
  cases Z<;>cases A<;>refine ze c2 (ze c3 (zt rfl (zp (cr))))
 |some r=>
  refine ze c1 ?_
  refine⟨by decide,by omega,by omega,32,q2.map U8,by omega,k2,?_⟩
  cases Z with
  |none=>cases A<;>refine ze c2 (ze c3 (zu rfl (zt rfl (zp (cr)))))
  |some s=>cases A with
   |none=>refine ze c2 (ze c3 (zu rfl (zu rfl (zt rfl (zp (cr))))))
   |some a=>rcases hb with h |h |h<;>cases h
end
set_option maxHeartbeats 1000000 in
theorem z4r(pub text sig q1 q2 L:List UInt8)(hl:sig.length=64)(hp:pub.length<=1000000000)(ht:text.length<=1000000000)(h1:sig.take 32=q1)(h2:sig.drop 32=q2)(r a M N Y:Pt)(s k:S4)(β:Bool)
  (c1:aG 252 [bs q1] (.r (.tu [.ag r.v, .b true]))) (c2:aG 253 [bs q2] (.r (.tu [.ag s.v, .b true]))) (c3:aG 252 [bs pub] (.r (.tu [.ag a.v, .b true])))
  (c4:aG 228 [bss [q1,pub,text]] (.r (bs L))) (c5:aG 227 [bs L] (.r (.ag k.v)))
  (c6: ∀b:Pt,b=baseP->aG 125 [.ag b.v, .ag s.v] (.r (.ag M.v)))
  (c7:aG 125 [.ag a.v, .ag k.v] (.r (.ag N.v))) (c8:aG 255 [.ag r.v, .ag N.v] (.r (.ag Y.v))) (c9:aG 254 [.ag M.v, .ag Y.v] (.r (.b β))):
  aG 164 [bs pub,bs text,bs sig] (.r (.b β)):=by
 have l1:q1.length=32:=by rw[<-h1,List.length_take];omega
 have l2:q2.length=32:=by rw[<-h2,List.length_drop];omega
 have e4:bss [q1,pub,text]= .sl 1 3 [.sl 1 32 (q1.map U8),bs pub,bs text]:=by rw[zjo q1 32 l1];rfl
 rw[e4]at c4
 rw[<-zjo q1 32 l1]at c1
 rw[<-zjo q2 32 l2]at c2
 have k1:((sig.map U8).drop ((0:Int).toNat*1)).take (32*1)=q1.map U8:=by rw[<-h1,List.map_take];rfl
 have k2:((sig.map U8).drop ((32:Int).toNat*1)).take (32*1)=q2.map U8:=by rw[<-h2,List.map_drop,List.take_of_length_le (by simp;omega)];rfl
 refine aT Tryz.func164 rfl ?_
 obtain⟨b,hb⟩: ∃b,b=baseP:=⟨_,rfl⟩
 have c0:=ztc
 rw[<-hb]at c0
 refine zu (by simp only[zb];omega) (zq ?_)
 refine⟨by decide,by decide,by omega,32,q1.map U8,rfl,k1,?_⟩
 refine ze c1 ?_
 refine⟨by decide,by omega,by omega,32,q2.map U8,by omega,k2,?_⟩
 refine ze c2 ?_
 refine ze c3 ?_
 refine zu rfl ?_
 refine zu rfl ?_
 refine zu rfl (zq ?_)
 refine⟨by decide,by decide,by omega,32,q1.map U8,rfl,k1,?_⟩
 refine zw ?_
 refine ze c4 ?_
 refine ze c5 ?_
 refine aV ?_
 refine ze c0 ?_
 refine za rfl rfl ?_
 refine ze (c6 b hb) ?_
 refine za rfl rfl ?_
 refine za rfl rfl ?_
 refine za rfl rfl ?_
 refine ze c7 ?_
 refine ze c8 ?_
 refine ze c9 ?_
 exact cr
theorem h_holds(pub text sig:List UInt8)(hp:pub.length<=1000000000)(ht:text.length<=1000000000):aG 164 [bs pub,bs text,bs sig] (.r (.b (zgd pub text sig))):=by
 by_cases hl:sig.length=64
 rotate_left
 ·have:zgd pub text sig=false:=by unfold zgd;rw[if_neg hl]
  rw[this]
  exact z0r pub text sig hl
 have hB:zgd pub text sig=match decP (sig.take 32),zfd (sig.drop 32),decP pub with
  |some r,some s,some a=>zi4 r a s (scOf (zcu [sig.take 32,pub,text]))
  |_,_,_=>false:=by unfold zgd;rw[if_pos hl]
 have c1:=z8i (sig.take 32)
 have c2:=zgbb (sig.drop 32)
 have c3:=z8i pub
 have l1:(sig.take 32).length=32:=by rw[List.length_take];omega
 have c4:=zxp [sig.take 32,pub,text] (by rw[zeib,aL,aL];omega)
 have c5:=zrr (zcu [sig.take 32,pub,text]) (by rw[zcf];omega)
 generalize zcu [sig.take 32,pub,text]=L at c4 c5 hB
 generalize scOf L=k at c5 hB
 generalize hR:decP (sig.take 32)=R at c1 hB
 generalize hZ:zfd (sig.drop 32)=Z at c2 hB
 generalize hA:decP pub=A at c3 hB
 cases R with
 |none=>
  rw[hB]
  exact zkc pub text sig _ _ hl rfl rfl none A Z c1 c2 c3 (.inl rfl)
 |some r=>
  cases Z with
  |none=>
   rw[hB]
   exact zkc pub text sig _ _ hl rfl rfl (some r) A none c1 c2 c3 (.inr (.inl rfl))
  |some s=>
   cases A with
   |none=>
    rw[hB]
    exact zkc pub text sig _ _ hl rfl rfl (some r) none (some s) c1 c2 c3 (.inr (.inr rfl))
   |some a=>
    rw[hB]
    have c7:=zrp a k
    generalize hN:mulP a k 253=N at c7
    have c8:=zjvb r N
    generalize hY:r.sum N dD=Y at c8
    have c6: ∀b:Pt,b=baseP->aG 125 [.ag b.v, .ag s.v] (.r (.ag (mulP baseP s 253).v)):=λb hb=>by rw[hb];exact zrp baseP s
    have e:zi4 r a s k=(mulP baseP s 253).same Y:=by unfold zi4;rw[hN,hY]
    show zab _ _ _ (.r (.b (zi4 r a s k)))
    rw[e]
    generalize mulP baseP s 253=M at c6
    exact z4r pub text sig _ _ L hl hp ht rfl rfl r a M N Y s k _ c1 c2 c3 c4 c5 c6 c7 c8 (zgrb M Y)
theorem zdvb(label:ByteArray)(text:List UInt8)(hl:label.size<=1048576)(ht:text.length<=500000000):(zgo (sB label) text).length<=1000000000:=by
 have hml:mlsB.length=8:=rfl
 have hsz:(sB label).length=label.size:=rfl
 have hv:=zag (mlsB++sB label)
 have hv2:=zag text
 rw[aL]at hv
 rw[zgo,aL]
 omega
theorem zf6b(pub:List UInt8)(label:ByteArray)(text sig:List UInt8)(hp:pub.length<=1000000000)(hl:label.size<=1048576)(ht:text.length<=500000000):aG 91 [bs pub,Str label,bs text,bs sig] (.r (.b (zgd pub (zgo (sB label) text) sig))):=by
 refine aT Tryz.func91 rfl ?_
 refine ze (zlv label text hl (by omega)) ?_
 refine ze (h_holds pub (zgo (sB label) text) sig hp (zdvb label text hl ht)) ?_
 exact cr
end Go.Proofs.YtkegaaonpekkgaaGreat.Sx
