import Derived.Test.YtebhngeddnnpkaaGreatZGc
import Derived.Test.YtebhngeddnnpkaaGreatZSxS
import Derived.Test.YtebhngeddnnpkaaGreatZSxNm
import Derived.Test.YtebhngeddnnpkaaGreatZFd
import Derived.Test.YtebhngeddnnpkaaGreatZFw
import Derived.Test.YtebhngeddnnpkaaGreatZSxU
import Derived.Test.YtebhngeddnnpkaaGreatZQa
namespace Go.Proofs.YtebhngeddnnpkaaGreat.Sx
open Go.RowKit
set_option linter.unusedVariables false
section
section
variable {P:Program} {S:St} {o:Oper}
theorem Vstep.callS0{t:Nat}{ts:Array TypeId}{f:FuncId}{rvs:List RV}{r:RV}{K:St->Prop}(hop:o.op= .call {callee:= .value (.tmp t),args:= #[],argTypes:=ts}) (hf:fget S.F t=some (.r (.s (funS f rvs)))) (hg:zab P f rvs (.r r)) (hK:newK S o.dst (.r r) none K):Vstep P S o K:=by
 rw[zar]at hK
 refine Vstep.one (λB N a w k Q ⟨g,hs⟩ hd=>?_) hK
 have hfv:=(hs.facts t _ hf).2
 simp only[TF.at_,RV.at_]at hfv
 obtain⟨cap,e,hp⟩:=hfv
 have:=zf2 (o:=o) (Q:=Q) (K:=λf ow=>f= .r r/\ow=none) hs hp (zn rvs) hg (by
  have e2:a.eval (.tmp t)= .func (.func f) #[] cap:=by
   have:a.eval (.tmp t)=a.tmps.getD t undef:=by simp[Act.eval]
   rw[this,e]
  simp[execOp,hop,resolve,e2,Deferred.ofValue,invoke]) ⟨rfl,rfl⟩
 refine Oper.wp_mono ?_ this
 rintro a' w' ⟨f',ow,u,k',⟨rfl,rfl⟩,rfl,hl⟩
 exact⟨k',hl.sat hs hd⟩
end
def zqh(β:Bool)(l:List UInt8):RV:=cond β (.tu [bs l,Er 0]) (.tu [bs [],Er 3])
theorem z7r(β:Bool)(f:FuncId)(rvs:List RV)(l:List UInt8)(hg:β=true->zab Tryz.prog f rvs (.r (bs l))):zab Tryz.prog 125 [.b β, .s (funS f rvs)] (.r (zqh β l)):=by
 refine zaa (T:=Tab) mixed Tab_ok Tryz.func125 rfl (by kernel_rfl) ?_
 cases β with
 |false=>
  refine zt rfl (zp ?_)
  exact⟨_,rfl,Cv.tu (zk (Cv.nil 1) (zn _))⟩
 |true=>
  refine zu rfl (zq ?_)
  refine Vstep.callS0 rfl rfl (hg rfl) ?_
  exact⟨_,rfl,cr⟩
theorem zlr(l:Leaf):(zkl l).length<=l.box.length+l.sign.length+l.ident.length+l.parent.length+l.sig.length+21:=by
 have:=zg0 l
 have:=zaj l.sig
 rw[zkl,List.length_append]
 omega
theorem zjk(l:Leaf)(hl:l.fit):zab Tryz.prog 391 [.ag l.c] (.r (zqh l.right (zkl l))):=by
 refine zaa (T:=Tab) mixed Tab_ok Tryz.func391 rfl (by kernel_rfl) ?_
 have hA:=zg0 l
 obtain⟨h1,h2,h3,h4,h5⟩:=id hl
 refine za rfl rfl ?_
 have hg:=zgj l
 cases hr:l.right with
 |true=>
  rw[hr]at hg
  refine ze hg ?_
  refine zu rfl (zq ?_)
  refine Vdraw.mk' (by kernel_rfl) ?_
  refine za rfl rfl ?_
  refine Vcall.mk' (zie [] l (by simp) hl) (zk (Cv.nil _) (zn _)) ?_
  rw[List.nil_append]
  refine ze (za7 (za3 l) l.sig (by omega) (by omega)) ?_
  exact⟨_,rfl,cr⟩
 |false=>
  rw[hr]at hg
  refine ze hg ?_
  refine zt rfl (zp ?_)
  exact⟨_,rfl,Cv.tu (zk (Cv.nil 1) (zn _))⟩
theorem zq2(l:Leaf)(hl:l.fit)(hr:l.right=true):zab Tryz.prog 263 [.ag l.c] (.r (bs (zkl l))):=by
 refine zaa (T:=Tab) mixed Tab_ok Tryz.func263 rfl (by kernel_rfl) ?_
 have h:=zjk l hl
 rw[hr]at h
 refine za rfl rfl ?_
 refine ze h ?_
 exact cr
theorem zq4(l:Leaf)(s:UInt8)(hl:l.fit):zab Tryz.prog 262 [.ag l.c,U8 s] (.r (.b (l.right&&decide (l.src=s)))):=by
 refine zaa (T:=Tab) mixed Tab_ok Tryz.func262 rfl (by kernel_rfl) ?_
 have h:=zjk l hl
 refine za rfl rfl ?_
 cases hr:l.right with
 |true=>
  rw[hr]at h
  refine ze h ?_
  refine zt rfl ?_
  refine Vcmp.mk' (m:=decide (l.src=s)) ?_ ?_
  ·rw[Bool.eq_iff_iff]
   simp only[zb,Int.natCast_inj,UInt8.toNat_inj]
  ·exact zf (by simp)
 |false=>
  rw[hr]at h
  refine ze h ?_
  refine zu rfl ?_
  exact cr
def PackP.right(p:PackP):Bool:=decide (p.init.length=32)&&((p.leaf.right&&decide (p.leaf.src=1))&&decide (p.sig.length=64))
def ze4(p:PackP):List UInt8:=(beB 2 1++beB 2 1)++vecB p.init++zkl p.leaf
def PackP.fit(p:PackP):Prop:=p.init.length<=1000000/\p.leaf.fit/\p.sig.length<=1000000
theorem z4j(p:PackP)(hp:p.fit):zab Tryz.prog 143 [.ag p.c] (.r (.b p.right)):=by
 refine zaa (T:=Tab) mixed Tab_ok Tryz.func143 rfl (by kernel_rfl) ?_
 have h:=zq4 p.leaf 1 hp.2.1
 refine zh (λh1=>?_) (λh1=>?_)
 ·simp only[zb]at h1
  refine za rfl rfl ?_
  have h1':p.init.length=32:=by omega
  cases hr:(p.leaf.right&&decide (p.leaf.src=1))with
  |true=>
   rw[hr]at h
   refine ze h ?_
   refine Vcmp.mk' (m:=decide (p.sig.length=64)) ?_ ?_
   ·rw[Bool.eq_iff_iff]
    simp only[zb]
    omega
   ·exact zf (by unfold PackP.right;rw[hr,decide_eq_true h1'];simp)
  |false=>
   rw[hr]at h
   refine ze h ?_
   exact zf (by unfold PackP.right;rw[hr];simp[ofC])
 ·simp only[zb]at h1
  have h1': ¬p.init.length=32:=by omega
  exact zf (by unfold PackP.right;rw[decide_eq_false h1'];rfl)
theorem zjj(l:List UInt8)(size m:Nat)(hl:l.length<=1000000000)(hs:size=1\/size=2\/size=4\/size=8):zab Tryz.prog 128 [bs l,I size, .i .u64 m] (bch (l++beB size m)):=by
 refine zaa (T:=Tab) mixed Tab_ok Tryz.func128 rfl (by kernel_rfl) ?_
 refine ze (zdz l size m (by omega) hs) ?_
 exact rfl
theorem zmu(l m:List UInt8)(hl:l.length<=1000000000)(hm:m.length<=1000000000):zab Tryz.prog 127 [bs l,bs m] (bch (l++vecB m)):=by
 refine zaa (T:=Tab) mixed Tab_ok Tryz.func127 rfl (by kernel_rfl) ?_
 refine ze (za7 l m (by omega) (by omega)) ?_
 exact rfl
theorem zs7(p:PackP)(hp:p.fit)(hr:p.leaf.right=true):zab Tryz.prog 145 [.ag p.c] (.r (bs (ze4 p))):=by
 refine zaa (T:=Tab) mixed Tab_ok Tryz.func145 rfl (by kernel_rfl) ?_
 obtain⟨h1,h2,h3⟩:=hp
 have hv:=zaj p.init
 have hL:=zlr p.leaf
 obtain⟨k1,k2,k3,k4,k5⟩:=id h2
 refine Vcall.mk' (zjj [] 2 1 (by simp) (.inr (.inl rfl))) (zk (Cv.nil _) (zn _)) ?_
 rw[List.nil_append]
 refine ze (zjj (beB 2 1) 2 1 (by rw[zam];omega) (.inr (.inl rfl))) ?_
 refine Vdraw.mk' (by kernel_rfl) ?_
 refine ze (zmu (beB 2 1++beB 2 1) p.init (by rw[List.length_append,zam];omega) (by omega)) ?_
 refine za rfl rfl ?_
 refine ze (zq2 p.leaf h2 hr) ?_
 refine Vapp.mk' (j:=(ze4 p).length) (zs:=(ze4 p).map U8) (by simp only[maxLen,List.length_append,zam];omega) (by simp only[List.length_append,zam];show(_+_)*1<=_;omega) (by simp only[ze4,List.length_append]) (by simp only[ze4,List.map_append]) ?_
 exact cr
theorem zs9(p:PackP)(hp:p.fit)(hr:p.leaf.right=true):zab Tryz.prog 144 [.ptr p.c] (.r (bs (ze4 p))):=by
 refine zaa (T:=Tab) mixed Tab_ok Tryz.func144 rfl (by kernel_rfl) ?_
 refine za rfl rfl ?_
 refine ze (zs7 p hp hr) ?_
 exact cr
theorem PackP.right_leaf{p:PackP}(h:p.right=true):p.leaf.right=true:=by
 unfold PackP.right at h
 simp only[Bool.and_eq_true]at h
 exact h.2.1.1
theorem zvu(p:PackP)(hp:p.fit):zab Tryz.prog 61 [.ag p.c] (.r (zqh p.right (ze4 p))):=by
 refine zaa (T:=Tab) mixed Tab_ok Tryz.func61 rfl (by kernel_rfl) ?_
 refine za rfl rfl ?_
 refine ze (z4j p hp) ?_
 refine Vstep.sub (zdu (id:=0) (t:=1) p.c rfl rfl) (Vstep.mkfunS rfl rfl ?_)
 refine ze (z7r p.right _ _ (ze4 p) λh=>zs9 p hp (PackP.right_leaf h)) ?_
 unfold zqh
 cases p.right with
 |true=>exact⟨_,rfl,cr⟩
 |false=>exact⟨_,rfl,cr⟩
abbrev kpS:ByteArray:=⟨#[75,101,121,80,97,99,107,97,103,101,84,66,83]⟩
end
section
def baS(l:List UInt8):ByteArray:=⟨l.toArray⟩
theorem zwo(l:List UInt8):strOfNums (nums l)=baS l:=by
 unfold strOfNums baS nums
 rw[List.map_map]
 congr 2
 exact(List.map_congr_left (λx _=>by simp)).trans (List.map_id l)
theorem Vfun.str{S:St}{o:Oper}{x:Operand}{l:List UInt8}{K:RV->Prop}(hop:o.op= .convert 22 9 x)(hx:oprs S [x]=some [bs l])(hK:K (Str (baS l))):Vfun Tryz.prog S o [x] K:=
 ⟨_,hx,_,λa w k h=>by
  simp only[RV.partsAt,List.map_cons,List.map_nil]at h
  obtain⟨u,r,e,hat,_⟩:=h
  obtain⟨p,rfl,hp⟩:=zc5 hat
  have hv:=(List.cons.inj e).1
  refine⟨.string (baS l),?_,by simp only[RV.at_]⟩
  have hc:=znv p l w hp
  rw[zwo]at hc
  simp[execOp,hop,hv,hc],hK⟩
def strs(l:List ByteArray):RV:= .sl 1 l.length (l.map Str)
def catS(l:List ByteArray):List UInt8:=l.flatMap sB
def z86(l:List ByteArray):Nat->St
 |0=>{F:=[(3, .r (.x (.slice none 0 0))),(6, .r (strs l)),(7, .r (I l.length)),(8, .r (I ((0:Nat):Int)))],O:=[],nx:=0}
 |i+1=>{F:=[(3, .own 0),(6, .r (strs l)),(7, .r (I l.length)),(8, .r (I ((i+1:Nat):Int)))],O:=[(0,some (.ch 5 1 (catS (l.take (i+1))).length ((catS (l.take (i+1))).map U8) true))],nx:=1}
theorem zon{l:List ByteArray}{i:Nat}(hi:i<l.length):catS (l.take (i+1))=catS (l.take i)++sB l[i]:=by
 rw[List.take_add_one,List.getElem?_eq_getElem hi]
 show(l.take i++[l[i]]).flatMap sB=_
 rw[List.flatMap_append]
 simp only[catS,List.flatMap_cons,List.flatMap_nil,List.append_nil]
theorem z3y{l:List ByteArray}{i:Nat}:(catS (l.take i)).length<=(catS l).length:=by
 have h:catS l=catS (l.take i)++catS (l.drop i):=by
  unfold catS
  rw[<-List.flatMap_append,List.take_append_drop]
 rw[h,List.length_append]
 omega
theorem zxk(l:List ByteArray)(h0:l≠[])(hl:(catS l).length<=10000000000)(hn:l.length<=1000000000):zab Tryz.prog 246 [strs l] (bch (catS l)):=by
 refine zaa (T:=Tab) mixed Tab_ok Tryz.func246 rfl (by kernel_rfl) ?_
 refine zy (z86 l) (λi=>i<=l.length) (λi=>l.length-i) 0 (by omega) (zad [] rfl ⟨cr,cr,cr,cr,trivial⟩ trivial) ?_
 intro i hi
 have hpos:0<l.length:=by cases l;exact absurd rfl h0;simp
 have hle:= @z3y l (i+1)
 rcases i with _ |i
 ·refine zt (decide_eq_true (by omega)) (zp ?_)
  refine zm (by omega) (by omega) (zca (j:=0) rfl hpos) (zg rfl ?_)
  have hs:=zon hpos
  rw[hs]at hle
  simp only[List.length_append,sB,Array.length_toList]at hle
  refine Vstep.appS (s:=l[0]) Tab_ok rfl rfl rfl rfl ⟨rfl,rfl⟩ rfl rfl rfl rfl rfl (by show 0+l[0].data.size<=_;omega) ?_
  refine zd (m:=((0+1:Nat):Int)) rfl (by decide) ?_
  refine⟨0+1,by omega,by omega,zad [(0,0)] rfl ⟨rfl,cr,cr,cr,trivial⟩ ⟨⟨rfl,rfl,?_,rfl,Cvs.of_eq ?_⟩,trivial⟩⟩
  ·rw[hs];simp[catS,sB]
  ·rw[hs];rfl
 ·refine zh (λh=>zp ?_) (λh=>zq ?_)
  ·simp only[zb]at h
   have hlt:i+1<l.length:=by omega
   refine zm (by omega) (by omega) (zca (j:=i+1) rfl hlt) (zg rfl ?_)
   have hs:=zon hlt
   rw[hs]at hle
   simp only[List.length_append,sB,Array.length_toList]at hle
   refine Vstep.appS (s:=l[i+1]) Tab_ok rfl rfl rfl rfl ⟨rfl,rfl⟩ rfl rfl rfl rfl rfl (by show _+l[i+1].data.size<=_;omega) ?_
   refine zd (m:=((i+1+1:Nat):Int)) (by omega) (by omega) ?_
   refine⟨i+1+1,by omega,by omega,zad [(0,1)] rfl ⟨rfl,cr,cr,cr,trivial⟩ ⟨⟨rfl,rfl,?_,rfl,Cvs.of_eq ?_⟩,trivial⟩⟩
   ·rw[hs,List.length_append];rfl
   ·rw[hs,List.map_append]
  ·simp only[zb]at h
   have hl':i+1=l.length:=by omega
   exact zde (by rw[hl',List.take_length])
def verB:List UInt8:=[72,80,75,69,45,118,49]
def extB(name salt label secret:List UInt8):List UInt8:=macB salt (verB++name++label++secret)
def epdB(name secret label info:List UInt8)(n:Nat):List UInt8:=exp1 secret (beB 2 n++verB++name++label++info) n
theorem zic(salt secret:List UInt8)(h1:salt.length<=1000000000)(h2:secret.length<=10000000000):zab Tryz.prog 242 [bs salt,bs secret] (bch (macB salt secret)):=by
 refine zaa (T:=Tab) mixed Tab_ok Tryz.func242 rfl (by kernel_rfl) ?_
 refine zw ?_
 refine ze (zvk salt [secret] h1 (by simp;omega)) ?_
 exact zde (by simp)
theorem zvh(name label:ByteArray)(salt secret:List UInt8)(h1:salt.length<=1000000000)(h2:secret.length<=1000000000)(h3:name.size<=1000)(h4:label.size<=1000):
  zab Tryz.prog 134 [Str name,bs salt,Str label,bs secret] (bch (extB (sB name) salt (sB label) secret)):=by
 refine zaa (T:=Tab) mixed Tab_ok Tryz.func134 rfl (by kernel_rfl) ?_
 have e:catS [⟨#[72,80,75,69,45,118,49]⟩,name,label,baS secret]=verB++sB name++sB label++secret:=by simp[catS,verB,baS];rfl
 have hl:(catS [⟨#[72,80,75,69,45,118,49]⟩,name,label,baS secret]).length<=10000000000:=by
  rw[e];simp only[List.length_append,sB,Array.length_toList];show 7+name.size+label.size+_<=_;omega
 refine Vfun.str rfl rfl (zw ?_)
 refine ze (zxk [⟨#[72,80,75,69,45,118,49]⟩,name,label,baS secret] (by simp) hl (by simp)) ?_
 refine ze (zic salt _ h1 (by omega)) ?_
 exact zde (by rw[e];rfl)
theorem zxj(name label:ByteArray)(secret info:List UInt8)(n:Nat)(hn:1<=n/\n<=32)(h1:secret.length<=1000000000)(h2:info.length<=1000000)(h3:name.size<=1000)(h4:label.size<=1000):
  zab Tryz.prog 133 [Str name,bs secret,Str label,bs info,I n] (.r (bs (epdB (sB name) secret (sB label) info n))):=by
 refine zaa (T:=Tab) mixed Tab_ok Tryz.func133 rfl (by kernel_rfl) ?_
 have e:catS [baS ([]++beB 2 n),⟨#[72,80,75,69,45,118,49]⟩,name,label,baS info]=beB 2 n++verB++sB name++sB label++info:=by simp[catS,verB,baS];rfl
 have hb:(beB 2 n).length=2:=zam 2 n
 have hl:(catS [baS ([]++beB 2 n),⟨#[72,80,75,69,45,118,49]⟩,name,label,baS info]).length<=1000000000:=by
  rw[e];simp only[List.length_append,sB,Array.length_toList,hb];show 2+7+name.size+label.size+_<=_;omega
 refine Vint.u64 n rfl (by omega) ?_
 refine Vcall.mk' (zdz [] 2 n (by simp) (.inr (.inl rfl))) (zk (Cv.nil _) (zn _)) ?_
 refine Vfun.str rfl rfl ?_
 refine Vfun.str rfl rfl (zw ?_)
 refine ze (zxk [baS ([]++beB 2 n),⟨#[72,80,75,69,45,118,49]⟩,name,label,baS info] (by simp) (by omega) (by simp)) ?_
 refine ze (zor secret _ n hn h1 hl) ?_
 rw[e]
 exact cr
end
section
section
variable {P:Program} {T:TT} {B:Bs} {N:Nat} {S:St} {a:Act} {w:World} {k:Kp} {g:Env} {o:Oper}
theorem Vstep.sto{t:TypeId}{x y:Operand}{K:St->Prop}(hT:TOk P T)(hop:o.op= .store t x y)(h:Sx.sto T S o.dst t x y K):Vstep P S o K:=
 ⟨{S':St//K S'},λi=>i.1,λB N a w k Q ⟨g,hs⟩ _=>Oper.wp_mono (λa' w' ⟨S',k',hK,hs'⟩=>⟨⟨S',hK⟩,k',hs'⟩) (zj4 (Q:=Q) hT hs hop h),λi=>i.2⟩
theorem Vstep.nmB(id t:Nat){cells:List TF}(ho:oget S.O id=some (.box cells)){K:St->Prop}(h: ∀b:Nat,Vstep P ⟨(t, .nm id (.pointer (some ⟨b,0,none⟩)))::S.F,S.O,S.nx⟩ o K):Vstep P S o K:=by
 refine⟨Σ b:Nat,(h b).out.choose,λx=>(h x.1).out.choose_spec.choose x.2,λB N a w k Q hs0 hd=>?_,λx=>(h x.1).out.choose_spec.choose_spec.2 x.2⟩
 obtain⟨g,hs⟩:=hs0
 obtain⟨hid,_,hat,_⟩:=hs.owns id _ ho
 simp only[Ow.at_]at hat
 obtain⟨b,cur,ty,e,_⟩:=hat
 have hs1:Sat B N ⟨(t, .nm id (.pointer (some ⟨b,0,none⟩)))::S.F,S.O,S.nx⟩ a w k:=by
  refine⟨g,hs.size,hs.defers,hs.keep,hs.kk,λt' f hf=>?_,hs.owns,hs.apart⟩
  rcases zav hf with⟨rfl,rfl⟩ |⟨_,hf⟩
  ·exact⟨hid,by simp only[TF.at_];rw[e]⟩
  ·exact hs.facts t' f hf
 refine Oper.wp_mono ?_ ((h b).out.choose_spec.choose_spec.1 B N a w k Q hs1 hd)
 rintro a' w' ⟨i,k',hs'⟩
 exact⟨⟨b,i⟩,k',hs'⟩
theorem zl4{id t tn b off:Nat}{cells:List TF}(ho:oget S.O id=some (.box cells))(hn:fget S.F tn=some (.nm id (.pointer (some ⟨b,0,none⟩))))(ht:fget S.F t=some (.r (.x (.pointer (some ⟨b,off,none⟩))))):Sub S ⟨(t, .adr id off)::S.F,S.O,S.nx⟩:=by
 intro B N a w k ⟨g,hs⟩
 obtain⟨hid,_,hat,_⟩:=hs.owns id _ ho
 simp only[Ow.at_]at hat
 obtain⟨b',cur,ty,e,_⟩:=hat
 have h1:=(hs.facts tn _ hn).2
 simp only[TF.at_]at h1
 rw[e]at h1
 simp only[Value.pointer.injEq,Option.some.injEq,Addr.mk.injEq,and_true]at h1
 have h2:=(hs.facts t _ ht).2
 simp only[TF.at_,RV.at_]at h2
 refine⟨k,g,hs.size,hs.defers,hs.keep,hs.kk,λt' f hf=>?_,hs.owns,hs.apart⟩
 rcases zav hf with⟨rfl,rfl⟩ |⟨_,hf⟩
 ·exact⟨hid,by simp only[TF.at_];exact⟨b,by rw[e,h1],h2⟩⟩
 ·exact hs.facts t' f hf
theorem Vstep.callX{x:Operand}{ts:Array TypeId}{f:FuncId}{id tn b:Nat}{r:RV}{K:St->Prop}(hop:o.op= .call {callee:= .value (.func f),args:= #[x],argTypes:=ts}) (hx:opr S x=some (.own id)) (hn:fget S.F tn=some (.nm id (.pointer (some ⟨b,0,none⟩)))) (hg:zab P f [.x (.pointer (some ⟨b,0,none⟩))] (.r r)) (hK:newK S o.dst (.r r) none K):Vstep P S o K:=by
 rw[zar]at hK
 refine Vstep.one (λB N a w k Q ⟨g,hs⟩ hd=>?_) hK
 have h1:=(zaf hs hx).2
 have h2:=(hs.facts tn _ hn).2
 simp only[TF.at_]at h1 h2
 rw[h2]at h1
 have:=zf2 (o:=o) (Q:=Q) (K:=λf ow=>f= .r r/\ow=none) hs (us:=[a.eval x]) (vs:=[.x (.pointer (some ⟨b,0,none⟩))]) (by simp only[RV.partsAt,RV.at_];exact⟨_,_,rfl,h1,rfl⟩) (zn _) hg (by simp[execOp,hop,resolve,Act.eval,Deferred.ofValue,invoke]) ⟨rfl,rfl⟩
 refine Oper.wp_mono ?_ this
 rintro a' w' ⟨f',ow,u,k',⟨rfl,rfl⟩,rfl,hl⟩
 exact⟨k',hl.sat hs hd⟩
theorem Vcode.nmB(id t:Nat){cells:List TF}(ho:oget S.O id=some (.box cells)){c:Code}{Q:Exit->St->Prop}(h: ∀b:Nat,Vcode P c ⟨(t, .nm id (.pointer (some ⟨b,0,none⟩)))::S.F,S.O,S.nx⟩ Q):Vcode P c S Q:=by
 refine⟨λB N a w k Q' ⟨g,hs⟩ hd hQ=>?_⟩
 obtain⟨hid,_,hat,_⟩:=hs.owns id _ ho
 simp only[Ow.at_]at hat
 obtain⟨b,cur,ty,e,_⟩:=hat
 refine(h b).out B N a w k Q' ⟨g,hs.size,hs.defers,hs.keep,hs.kk,λt' f hf=>?_,hs.owns,hs.apart⟩ hd hQ
 rcases zav hf with⟨rfl,rfl⟩ |⟨_,hf⟩
 ·exact⟨hid,by simp only[TF.at_];rw[e]⟩
 ·exact hs.facts t' f hf
theorem Vcode.subp(hm:P.follows .mixedOrders=true)(hT:TOk P T){c:Code}{S':St}{Q:Exit->St->Prop}(hs:Sub S S')(h:vcg P T c S' Q):Vcode P c S Q:=
 ⟨λB N a w k Q' hh hd hQ=>by obtain⟨k',h'⟩:=hs B N a w k hh;exact zao hm hT c S' Q h B N a w k' Q' h' hd hQ⟩
theorem z52{id t tn b off:Nat}{cells:List TF}(ho:oget S.O id=some (.box cells))(hn:fget S.F tn=some (.nm id (.pointer (some ⟨b,0,none⟩))))(ht:fget S.F t=some (.adr id off)):Sub S ⟨(t, .r (.x (.pointer (some ⟨b,off,none⟩))))::S.F,S.O,S.nx⟩:=by
 intro B N a w k ⟨g,hs⟩
 obtain⟨hid,_,hat,_⟩:=hs.owns id _ ho
 simp only[Ow.at_]at hat
 obtain⟨b',cur,ty,e,_⟩:=hat
 have h1:=(hs.facts tn _ hn).2
 simp only[TF.at_]at h1
 rw[e]at h1
 simp only[Value.pointer.injEq,Option.some.injEq,Addr.mk.injEq,and_true]at h1
 have h2:=(hs.facts t _ ht).2
 simp only[TF.at_]at h2
 obtain⟨b2,e2,h2⟩:=h2
 rw[e]at e2
 simp only[Option.some.injEq]at e2
 refine⟨k,g,hs.size,hs.defers,hs.keep,hs.kk,λt' f hf=>?_,hs.owns,hs.apart⟩
 rcases zav hf with⟨rfl,rfl⟩ |⟨_,hf⟩
 ·exact⟨trivial,by simp only[TF.at_,RV.at_];rw[h2,<-e2,h1]⟩
 ·exact hs.facts t' f hf
theorem z54{id t tn:Nat}{v:Value}(hn:fget S.F tn=some (.nm id v))(ht:fget S.F t=some (.own id)):Sub S ⟨(t, .r (.x v))::S.F,S.O,S.nx⟩:=by
 intro B N a w k ⟨g,hs⟩
 have h1:=(hs.facts tn _ hn).2
 have h2:=(hs.facts t _ ht).2
 simp only[TF.at_]at h1 h2
 refine⟨k,g,hs.size,hs.defers,hs.keep,hs.kk,λt' f hf=>?_,hs.owns,hs.apart⟩
 rcases zav hf with⟨rfl,rfl⟩ |⟨_,hf⟩
 ·exact⟨trivial,by simp only[TF.at_,RV.at_];rw[h2,h1]⟩
 ·exact hs.facts t' f hf
theorem z18{id t tn:Nat}{v:Value}(hn:fget S.F tn=some (.nm id v))(ht:fget S.F t=some (.r (.x v))):Sub S ⟨(t, .own id)::S.F,S.O,S.nx⟩:=by
 intro B N a w k ⟨g,hs⟩
 have h1:=hs.facts tn _ hn
 have h2:=(hs.facts t _ ht).2
 have h3:=h1.1
 have h1:=h1.2
 simp only[TF.at_,RV.at_]at h1 h2
 refine⟨k,g,hs.size,hs.defers,hs.keep,hs.kk,λt' f hf=>?_,hs.owns,hs.apart⟩
 rcases zav hf with⟨rfl,rfl⟩ |⟨_,hf⟩
 ·exact⟨h3,by simp only[TF.at_];rw[h2,h1]⟩
 ·exact hs.facts t' f hf
theorem zqz{f:FuncId}{args:List RV}{e:TypeId}{sz n:Nat}{cells:List RV}(h:zab P f args (.ch e sz n cells)):zab P f args (.r (.sl sz n cells)):=
 ⟨h.1,λw k vs hp=>(h.2 w k vs hp).mono λ_ _ ⟨v,he,hx,k',hk,hr⟩=>⟨v,he,hx,k',hk,by obtain⟨ob,hc,_⟩:=hr;exact chAt.sl hc⟩⟩
def adrs(id:Nat)(l:List Nat):List TF:=l.map (TF.adr id)
def zjv(S:St):Nat->List (Nat×Operand)->List TF->Prop
 |_,[],fs=>fs=[]
 |i,(j,x)::r,fs=>∃id off gs,j=i/\opr S x=some (.adr id off)/\fs= .adr id off::gs/\zjv S (i+1) r gs
theorem zqs(hs:SatE B N S a w k g): ∀(parts:List (Nat×Operand)) (i:Nat) (fs:List TF) (vs:Array Value),zjv S i parts fs->i+parts.length<=vs.size->
  ∃vs',Instr.fill (λi=>some (i*1,1)) vs (parts.map λ(i,x)=>(i,a.eval x))=some vs'/\vs'.size=vs.size/\(∀j,j<i->vs'[j]?=vs[j]?)/\(∀f∈fs,f.lt S.nx)/\fs.length=parts.length/\
   ∀(j:Nat) (f:TF) (u:Value),fs[j]?=some f->vs'[i+j]?=some u->u.oneCell'=true/\f.at_ w k g u
 |[],i,fs,vs,h,hl=>by
  simp only[zjv]at h
  subst h
  exact⟨vs,rfl,rfl,λ_ _=>rfl,by simp,rfl,λj f u hf=>by simp at hf⟩
 |(j0,x)::r,i,fs,vs,h,hl=>by
  simp only[zjv]at h
  obtain⟨id,off,gs,rfl,hx,rfl,hr⟩:=h
  obtain⟨hlt,hat⟩:=zaf hs hx
  have hat':=hat
  simp only[TF.at_]at hat
  obtain⟨b,hb,e⟩:=hat
  simp only[List.length_cons]at hl
  obtain⟨vs',h1,h2,h3,h4,h5,h6⟩:=zqs hs r (j0+1) gs (vs.setIfInBounds j0 (a.eval x)) hr (by simp;omega)
  refine⟨vs',?_,by simpa using h2,λj hj=>?_,?_,by simp[h5],λj f u hf hu=>?_⟩
  ·simp only[List.map_cons,Instr.fill]
   rw[if_neg (by simp[e,Value.cells];omega)]
   rw[<-h1]
   congr 1
   simp[e,Value.cells]
  ·rw[h3 j (by omega),Array.getElem?_setIfInBounds_ne (by omega)]
  ·intro f hf
   rcases List.mem_cons.1 hf with rfl |hf
   ·exact hlt
   ·exact h4 f hf
  ·cases j with
   |zero=>
    simp only[List.getElem?_cons_zero,Option.some.injEq]at hf
    subst hf
    rw[Nat.add_zero,h3 j0 (by omega)]at hu
    have hj:j0<vs.size:=by omega
    simp[hj]at hu
    subst hu
    exact⟨by rw[e];rfl,hat'⟩
   |succ j=>exact h6 j f u (by simpa using hf) (by rw[<-hu];congr 1;omega)
theorem Vstep.bsl{t e:TypeId}{ti te:TI}{n:Nat}{parts:Array (Nat×Operand)}(fs:List TF){K:St->Prop}(hT:TOk P T)(hop:o.op= .buildSlice t n parts)(hti:tget T t=some ti)(hk:ti.k= .slice e)(hte:tget T e=some te)(hsz:te.sz=1)
  (hn:parts.toList.length=n) (hsm:n<=16777216) (hp:zjv S 0 parts.toList fs) (hK:K (({S with O:=(S.nx,some (.box fs))::S.O,nx:=S.nx+1}:St).put o.dst (.cut S.nx 0 n))):Vstep P S o K:=by
 refine Vstep.one (λB N a w k Q ⟨g,hs⟩ hd=>?_) hK
 obtain⟨q,hq⟩:=hT.get hti
 obtain⟨d,hdd,hko,_⟩:=q.desc
 rw[hq]at hdd
 rw[hk]at hko
 simp only[KOk]at hko
 subst hko
 obtain⟨qe,hqe⟩:=hT.get hte
 obtain⟨i,hi,hsi,_,z,hz,hzc⟩:=qe.info
 rw[hqe]at hi
 have hms:(madeCells z.cells (n*te.sz)).size=n:=by rw[hsz];simp[madeCells]
 obtain⟨vs,h1,h2,_,h4,h5,h6⟩:=zqs hs parts.toList 0 fs (madeCells z.cells (n*te.sz)) hp (by rw[hms,hn];omega)
 have hr:=zg9 (w:=w) (n:=n) (parts:=parts.map λ(i,x)=>(i,a.eval x)) hdd hi hsi hz (by rw[hsz];omega) (vs:=vs) (by rw[hsz,Array.toList_map];rw[hsz]at h1;exact h1)
 rw[hms]at h2
 have hle:=zlq w k (.cells vs e) 0
 obtain⟨k',he,hkk,hl⟩:=zfi (t:=e) hs (cells:=fs) (cs:=vs) h4 (by rw[h2,h5,hn]) (λj f u hf hu=>h6 j f u hf (by rw[Nat.zero_add];exact hu))
 obtain⟨ob,hob,h7,h8,h9⟩:=hl
 have hs2:=hs.make (dst:=none) (λd h=>by cases h) he hkk (vb:=(.pointer (some ⟨w.heap.size,0,none⟩),ob)) h7 h8 h9
 refine zap (v:= .slice (some ⟨w.heap.size,0,none⟩) n n) (by simp only[execOp,hop,Sem.run_bind,hr];rfl) ⟨k',_,hs2.put hd (Nat.lt_succ_self S.nx) ?_⟩
 simp only[TF.at_,Env.set_eq]
 refine⟨w.heap.size,n,?_,rfl,Nat.le_refl _,by simp only[maxLen];omega⟩
 simp only[Ow.at_]at h8
 obtain⟨b,cur,ty,e1,_⟩:=h8
 simp only[Prod.mk.injEq,Value.pointer.injEq,Option.some.injEq,Addr.mk.injEq,and_true]at e1
 rw[e1.2,e1.1]
end
end
section
abbrev z5:Fe:=⟨0,0,0,0,0⟩
structure Lad where
 px:Fe
 pz:Fe
 qx:Fe
 qz:Fe
def Lad.next(b:Bool)(u:Fe)(s:Lad):Lad:=
 match b with
 |true=>⟨(zcw s.qx s.qz s.px s.pz u).2.1,(zcw s.qx s.qz s.px s.pz u).2.2,(zcw s.qx s.qz s.px s.pz u).1.1,(zcw s.qx s.qz s.px s.pz u).1.2⟩
 |false=>⟨(zcw s.px s.pz s.qx s.qz u).1.1,(zcw s.px s.pz s.qx s.qz u).1.2,(zcw s.px s.pz s.qx s.qz u).2.1,(zcw s.px s.pz s.qx s.qz u).2.2⟩
def ladN(k:List UInt8)(u:Fe):Nat->Lad
 |0=>⟨one,z5,u,one⟩
 |j+1=>(ladN k u j).next (bitE k (254-j)==1) u
theorem zyo(k:List UInt8)(u:Fe):ladN k u 0=⟨one,z5,u,one⟩:=rfl
theorem zo0(k:List UInt8)(u:Fe)(j:Nat):ladN k u (j+1)=(ladN k u j).next (bitE k (254-j)==1) u:=rfl
attribute [irreducible] ladN
def zkp(k:List UInt8)(u:Fe):List UInt8:=((ladN k u 255).px.mul (ladN k u 255).pz.inv).bytes
abbrev pbx(x z:Fe):Ow:= .box [.r (W x.a), .r (W x.b), .r (W x.c), .r (W x.d), .r (W x.e), .r (W z.a), .r (W z.b), .r (W z.c), .r (W z.d), .r (W z.e)]
def ladI(k:List UInt8)(u:Fe)(j:Nat):St:={F:=[(0, .r (bs k)),(3, .own 0),(5, .own 1),(6, .own 2),(7, .r (I ((254-j:Nat):Int)))],O:=[(0,some u.bx),(1,some (pbx (ladN k u j).px (ladN k u j).pz)),(2,some (pbx (ladN k u j).qx (ladN k u j).qz))],nx:=3}
theorem zr2(k:List UInt8)(u:Fe){b:Bool}(h:ladN k u (254+1)=(ladN k u 254).next b u){e:TypeId}:some (Ow.ch e 1 (((((ladN k u 254).next b u).px).mul (((ladN k u 254).next b u).pz).inv).bytes).length ((((((ladN k u 254).next b u).px).mul (((ladN k u 254).next b u).pz).inv).bytes).map U8) true)=some (Ow.ch e 1 (zkp k u).length ((zkp k u).map U8) true):=by
 rw[<-h]
 rfl
set_option maxHeartbeats 4000000 in
theorem zyb(k:List UInt8)(u:Fe)(hk:k.length=32):zab Tryz.prog 378 [bs k, .ag u.v] (bch (zkp k u)):=by
 refine zaa (T:=Tab) mixed Tab_ok Tryz.func378 rfl (by kernel_rfl) ?_
 refine Vcode.scope mixed Tab_ok 0 (ladI k u) (λj=>j<=254) (λj=>254-j) rfl ?_ ?_
 ·refine Vdraw.mk' (by kernel_rfl) ?_
  refine ze zif ?_
  refine za rfl rfl ?_
  refine ze zif ?_
  repeat' ((conv=>whnf);first |refine za rfl rfl ?_)
  refine Vquo.i64 254 8 rfl rfl (by omega) (by omega) ?_
  refine zm (by omega) (by omega) rfl (zg (f:=U8 (k.getD (254/8) 0)) (zkg (by omega)) ?_)
  refine Vrem.nat 254 8 rfl rfl (by omega) ?_
  refine Vshr.b _ (254%8) rfl rfl (by omega) ?_
  refine Vbits.and8 _ 1 rfl rfl ?_
  have hs:=zo0 k u 0
  rw[zyo]at hs
  refine zh (λh=>zp ?_) (λh=>zq ?_)
  ·have hb:(bitE k (254-0)==1)=true:=by rw[beq_iff_eq];exact zke h
   rw[hb]at hs
   refine za rfl rfl ?_
   refine za rfl rfl ?_
   refine za rfl rfl ?_
   refine ze (zmv u one one z5 u) ?_
   refine zd (m:=253) rfl (by decide) ?_
   refine zt rfl (zp ?_)
   exact⟨1,by decide,zad [(0,0),(1,1),(2,2)] rfl ⟨cr,rfl,rfl,rfl,cr,trivial⟩ ⟨⟨_,_,rfl,cr,_,_,rfl,cr,_,_,rfl,cr,_,_,rfl,cr,_,_,rfl,cr,rfl⟩,by rw[hs];exact⟨_,_,rfl,cr,_,_,rfl,cr,_,_,rfl,cr,_,_,rfl,cr,_,_,rfl,cr,_,_,rfl,cr,_,_,rfl,cr,_,_,rfl,cr,_,_,rfl,cr,_,_,rfl,cr,rfl⟩,by rw[hs];exact⟨_,_,rfl,cr,_,_,rfl,cr,_,_,rfl,cr,_,_,rfl,cr,_,_,rfl,cr,_,_,rfl,cr,_,_,rfl,cr,_,_,rfl,cr,_,_,rfl,cr,_,_,rfl,cr,rfl⟩,trivial⟩⟩
  ·have hb:(bitE k (254-0)==1)=false:=by rw[beq_eq_false_iff_ne];exact zh6 h
   rw[hb]at hs
   refine za rfl rfl ?_
   refine za rfl rfl ?_
   refine za rfl rfl ?_
   refine ze (zmv one z5 u one u) ?_
   refine zd (m:=253) rfl (by decide) ?_
   refine zt rfl (zp ?_)
   exact⟨1,by decide,zad [(0,0),(1,1),(2,2)] rfl ⟨cr,rfl,rfl,rfl,cr,trivial⟩ ⟨⟨_,_,rfl,cr,_,_,rfl,cr,_,_,rfl,cr,_,_,rfl,cr,_,_,rfl,cr,rfl⟩,by rw[hs];exact⟨_,_,rfl,cr,_,_,rfl,cr,_,_,rfl,cr,_,_,rfl,cr,_,_,rfl,cr,_,_,rfl,cr,_,_,rfl,cr,_,_,rfl,cr,_,_,rfl,cr,_,_,rfl,cr,rfl⟩,by rw[hs];exact⟨_,_,rfl,cr,_,_,rfl,cr,_,_,rfl,cr,_,_,rfl,cr,_,_,rfl,cr,_,_,rfl,cr,_,_,rfl,cr,_,_,rfl,cr,_,_,rfl,cr,_,_,rfl,cr,rfl⟩,trivial⟩⟩
 ·intro J hj
  refine Vquo.i64 (254-J) 8 rfl rfl (by omega) (by omega) ?_
  refine zm (by omega) (by omega) rfl (zg (f:=U8 (k.getD ((254-J)/8) 0)) (zkg (by omega)) ?_)
  refine Vrem.nat (254-J) 8 rfl rfl (by omega) ?_
  refine Vshr.b _ ((254-J)%8) rfl rfl (by omega) ?_
  refine Vbits.and8 _ 1 rfl rfl ?_
  have hs:=zo0 k u J
  refine zh (λh=>zp ?_) (λh=>zq ?_)
  ·have hb:(bitE k (254-J)==1)=true:=by rw[beq_iff_eq];exact zke h
   rw[hb]at hs
   refine za rfl rfl ?_
   refine za rfl rfl ?_
   refine za rfl rfl ?_
   refine ze (zmv (ladN k u J).qx (ladN k u J).qz (ladN k u J).px (ladN k u J).pz u) ?_
   refine zd (m:=((254-J:Nat):Int)-1) rfl (by omega) ?_
   refine zh (λh=>zp ?_) (λh=>zq ?_)
   ·simp only[zb]at h
    exact⟨J+1,by omega,by omega,zad [(0,0),(1,1),(2,2)] rfl ⟨cr,rfl,rfl,rfl,zf (by congr 1;omega),trivial⟩ ⟨⟨_,_,rfl,cr,_,_,rfl,cr,_,_,rfl,cr,_,_,rfl,cr,_,_,rfl,cr,rfl⟩,by rw[hs];exact⟨_,_,rfl,cr,_,_,rfl,cr,_,_,rfl,cr,_,_,rfl,cr,_,_,rfl,cr,_,_,rfl,cr,_,_,rfl,cr,_,_,rfl,cr,_,_,rfl,cr,_,_,rfl,cr,rfl⟩,by rw[hs];exact⟨_,_,rfl,cr,_,_,rfl,cr,_,_,rfl,cr,_,_,rfl,cr,_,_,rfl,cr,_,_,rfl,cr,_,_,rfl,cr,_,_,rfl,cr,_,_,rfl,cr,_,_,rfl,cr,rfl⟩,trivial⟩⟩
   ·simp only[zb]at h
    obtain rfl:J=254:=by omega
    refine Vdraw.mk' (by kernel_rfl) ?_
    refine za rfl rfl ?_
    refine za rfl rfl ?_
    refine ze (zkh (zcw (ladN k u 254).qx (ladN k u 254).qz (ladN k u 254).px (ladN k u 254).pz u).2.2) ?_
    refine ze (zbe (zcw (ladN k u 254).qx (ladN k u 254).qz (ladN k u 254).px (ladN k u 254).pz u).2.1 (zcw (ladN k u 254).qx (ladN k u 254).qz (ladN k u 254).px (ladN k u 254).pz u).2.2.inv) ?_
    refine ze (zn4 _) ?_
    exact zr2 k u hs
  ·have hb:(bitE k (254-J)==1)=false:=by rw[beq_eq_false_iff_ne];exact zh6 h
   rw[hb]at hs
   refine za rfl rfl ?_
   refine za rfl rfl ?_
   refine za rfl rfl ?_
   refine ze (zmv (ladN k u J).px (ladN k u J).pz (ladN k u J).qx (ladN k u J).qz u) ?_
   refine zd (m:=((254-J:Nat):Int)-1) rfl (by omega) ?_
   refine zh (λh=>zp ?_) (λh=>zq ?_)
   ·simp only[zb]at h
    exact⟨J+1,by omega,by omega,zad [(0,0),(1,1),(2,2)] rfl ⟨cr,rfl,rfl,rfl,zf (by congr 1;omega),trivial⟩ ⟨⟨_,_,rfl,cr,_,_,rfl,cr,_,_,rfl,cr,_,_,rfl,cr,_,_,rfl,cr,rfl⟩,by rw[hs];exact⟨_,_,rfl,cr,_,_,rfl,cr,_,_,rfl,cr,_,_,rfl,cr,_,_,rfl,cr,_,_,rfl,cr,_,_,rfl,cr,_,_,rfl,cr,_,_,rfl,cr,_,_,rfl,cr,rfl⟩,by rw[hs];exact⟨_,_,rfl,cr,_,_,rfl,cr,_,_,rfl,cr,_,_,rfl,cr,_,_,rfl,cr,_,_,rfl,cr,_,_,rfl,cr,_,_,rfl,cr,_,_,rfl,cr,_,_,rfl,cr,rfl⟩,trivial⟩⟩
   ·simp only[zb]at h
    obtain rfl:J=254:=by omega
    refine Vdraw.mk' (by kernel_rfl) ?_
    refine za rfl rfl ?_
    refine za rfl rfl ?_
    refine ze (zkh (zcw (ladN k u 254).px (ladN k u 254).pz (ladN k u 254).qx (ladN k u 254).qz u).1.2) ?_
    refine ze (zbe (zcw (ladN k u 254).px (ladN k u 254).pz (ladN k u 254).qx (ladN k u 254).qz u).1.1 (zcw (ladN k u 254).px (ladN k u 254).pz (ladN k u 254).qx (ladN k u 254).qz u).1.2.inv) ?_
    refine ze (zn4 _) ?_
    exact zr2 k u hs
attribute [irreducible] zkp
end
section
def zu7(k p:List UInt8):List UInt8:=zkp (zgr k) (Fe.of p)
def nine:List UInt8:=Fe.bytes ⟨9&&&msk,shrW 9 51,0,0,0⟩
def zhn(k:List UInt8):List UInt8:=zu7 k nine
theorem z1i:nine.length=32:=Fe.bytes_len _
attribute [irreducible] nine
theorem z4d(k p:List UInt8)(hk:k.length=32)(hp:p.length=32):zab Tryz.prog 247 [bs k,bs p] (.r (.tu [bs (zu7 k p),Er 0])):=by
 refine zaa (T:=Tab) mixed Tab_ok Tryz.func247 rfl (by kernel_rfl) ?_
 refine zu (by simp[hk]) (zq ?_)
 refine zu (by simp[hp]) (zq ?_)
 refine ze (z4b k hk) ?_
 refine ze (h_of p hp) ?_
 refine ze (zyb (zgr k) (Fe.of p) ((zmg k).trans hk)) ?_
 exact⟨_,rfl,cr⟩
theorem z7b(k:List UInt8)(hk:k.length=32):zab Tryz.prog 135 [bs k] (.r (.tu [bs (zhn k),Er 0])):=by
 refine zaa (T:=Tab) mixed Tab_ok Tryz.func135 rfl (by kernel_rfl) ?_
 refine ze (zg3 9) ?_
 refine ze (zn4 ⟨9&&&msk,shrW 9 51,0,0,0⟩) ?_
 refine Vcall.mk' (z4d k nine hk z1i) (zk (cr) (zk (zf (by unfold nine;rfl)) Cvs.nil)) ?_
 exact⟨_,rfl,cr⟩
def kemB:List UInt8:=[75,69,77,0,32]
def zko(seed:List UInt8):List UInt8:=epdB kemB (extB kemB [] [100,107,112,95,112,114,107] seed) [115,107] [] 32
theorem zz9(n s l i:List UInt8){m:Nat}(h:m<=32):(epdB n s l i m).length=m:=zlk _ _ h
theorem z0b(n s l i:List UInt8):(extB n s l i).length=32:=zdi _ _
theorem zjw(seed:List UInt8):(zko seed).length=32:=zz9 _ _ _ _ (by omega)
theorem zt3(seed:List UInt8)(hs:seed.length<=1000000000):zab Tryz.prog 58 [bs seed] (.r (.tu [bs (zko seed),bs (zhn (zko seed))])):=by
 refine zaa (T:=Tab) mixed Tab_ok Tryz.func58 rfl (by kernel_rfl) ?_
 have hx:(extB kemB [] [100,107,112,95,112,114,107] seed).length<=1000000000:=by rw[z0b];omega
 refine Vcall.mk' (zvh ⟨#[75,69,77,0,32]⟩ ⟨#[100,107,112,95,112,114,107]⟩ [] seed (by simp) hs (by decide) (by decide)) (zk (cr) (zk (Cv.nil 1) (zn _))) ?_
 refine Vcall.mk' (zxj ⟨#[75,69,77,0,32]⟩ ⟨#[115,107]⟩ (extB kemB [] [100,107,112,95,112,114,107] seed) [] 32 (by omega) hx (by simp) (by decide) (by decide)) (zk (cr) (zk (cr) (zk (cr) (zk (Cv.nil 1) (zn _))))) ?_
 refine ze (z7b (zko seed) (zjw seed)) ?_
 exact⟨_,rfl,cr⟩
theorem zct(s l c:List UInt8){n:Nat}(h:n<=32):(labB s l c n).length=n:=zlk _ _ h
def z9t:List UInt8:=[112,97,116,104]
end
section
def wayS:List UInt8:=[119,97,121]
def secN(seed:List UInt8):Nat->List UInt8
 |0=>labB seed wayS [] 32
 |k+1=>labB (secN seed k) z9t [] 32
attribute [irreducible] secN
end
section
structure KeyP where
 at_:Int
 key:List UInt8
 deriving DecidableEq
abbrev KeyP.c(k:KeyP):List RV:=[I k.at_,bs k.key]
def keyR(l:List KeyP):RV:= .sl 2 l.length (l.flatMap KeyP.c)
def zge(n:Nat):List UInt8:=((List.replicate 32 (0:UInt8)).set 0 (UInt8.ofNat n)).set 1 (UInt8.ofNat (n/256))
theorem zpf(n:Nat):(zge n).length=32:=by simp[zge]
theorem z7m(n:Nat)(hn:n<=1000000000):zab Tryz.prog 52 [I n] (bch (zge n)):=by
 refine zax (T:=Tab) mixed Tab_ok Tryz.func52 rfl (by kernel_rfl) ?_
 refine⟨rfl,by decide,by decide,by decide,_,_,rfl,zs32,Vpub.own ?_⟩
 refine Vint.u8 n rfl ?_
 refine Vquo.i64 n 256 rfl rfl (by omega) (by omega) ?_
 refine Vint.u8 (n/256) rfl ?_
 refine Vadr.mk' 0 rfl (by decide) ?_
 refine⟨by decide,((List.replicate 32 (0:UInt8)).set 0 (UInt8.ofNat n)).map U8,zcs (by decide),?_⟩
 refine Vadr.mk' 1 rfl (by decide) ?_
 refine⟨by rw[List.length_map,List.length_set];decide,(zge n).map U8,zcs (by rw[List.length_set];decide),?_⟩
 refine⟨_,zbd (id:=0) rfl,?_⟩
 exact congrArg (λm=>some (Ow.ch 5 1 m ((zge n).map U8) true)) (zpf n).symm
theorem zmj(k:List UInt8):(zhn k).length=32:=by unfold zhn zu7 zkp;exact Fe.bytes_len _
end
end Go.Proofs.YtebhngeddnnpkaaGreat.Sx
