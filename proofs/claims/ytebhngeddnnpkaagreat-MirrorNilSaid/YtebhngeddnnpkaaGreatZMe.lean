import Derived.Test.YtebhngeddnnpkaaGreatZKg
import Derived.Test.YtebhngeddnnpkaaGreatZSxS
import Derived.Test.YtebhngeddnnpkaaGreatZGeoB
import Derived.Test.YtebhngeddnnpkaaGreatZWire
import Derived.Lib.AppendStr
import Derived.Test.YtebhngeddnnpkaaGreatZShaF
namespace Go.Proofs.YtebhngeddnnpkaaGreat.Sx
open Go.RowKit
section
def bss(ls:List (List UInt8)):RV:= .sl 1 ls.length (ls.map bs)
theorem zun{w:World}{k:Kp}: ∀{ls:List (List UInt8)} {us:List Value},RV.listAt w k (ls.map bs) us->∃ps:List (AC×List UInt8),ps.map (·.2)=ls/\us=ps.map slv/\∀q∈ps,By w (λ_=>True) q.1 q.2
 |[],us,h=>by simp only[List.map_nil,RV.listAt]at h;exact⟨[],rfl,h,by simp⟩
 |l::ls,us,h=>by
  simp only[List.map_cons,RV.listAt]at h
  obtain⟨u,r,rfl,_,h1,h2⟩:=h
  obtain⟨p,rfl,hp⟩:=zc5 h1
  obtain⟨ps,e1,e2,e3⟩:=zun h2
  refine⟨(p,l)::ps,by simp[e1],by simp[e2,slv],λq hq=>?_⟩
  rcases List.mem_cons.1 hq with rfl |hq
  ·exact hp
  ·exact e3 q hq
theorem z3b{w:World}{k:Kp}{ls:List (List UInt8)}{v:Value}(h:(bss ls).at_ w k v): ∃(p:AC) (ps:List (AC×List UInt8)),v= .slice p.a ps.length p.c/\Pa w p ps/\catB ps=ls.flatMap id:=by
 simp only[bss,RV.at_]at h
 obtain⟨p,c,rfl,c1,c2,c3,c4⟩:=h
 rcases Nat.eq_zero_or_pos ls.length with h0 |hpos
 ·obtain rfl:=List.eq_nil_of_length_eq_zero h0
  exact⟨⟨p,c⟩,[],rfl,⟨⟨by simp,by simp,c2,λh=>by simp at h⟩,by simp⟩,rfl⟩
 ·obtain⟨b,o,rfl,hb,hc⟩:=c4 hpos
  obtain⟨us,q1,q2,q3⟩:=RV.cells_list _ _ hc
  obtain⟨ps,e1,e2,e3⟩:=zun q1
  have hlen:ps.length=ls.length:=by rw[<-e1];simp
  exact⟨⟨_,c⟩,ps,by rw[hlen],⟨⟨by simp,by rw[hlen];exact c1,c2,λ_=>⟨b,o,rfl,trivial,hb,λj u hu=>q3 j u (by rw[e2];exact hu)⟩⟩,e3⟩,by rw[<-e1];simp[catB,List.flatMap_map]⟩
theorem zmr(ls:List (List UInt8))(hl:(ls.flatMap id).length<=100000000000):zab Tryz.prog 72 [bss ls] (bch (shaB (ls.flatMap id))):=
 zbh (za0 Tryz.func72 rfl (by kernel_rfl)) λw k vs hp=>by
  obtain⟨a,rfl,h1⟩:=zef hp
  obtain⟨p,ps,rfl,hpa,hcat⟩:=z3b h1
  refine(zv9 p ps w hpa (by rw[hcat];exact hl)).mono λ_ _ ⟨v,he,hx,_,hv⟩=>⟨v,he,hx,?_⟩
  rw[hcat]at hv
  exact zd9 hv
theorem zgu(ls:List (List UInt8))(hl:(ls.flatMap id).length<=1000000000000):zab Tryz.prog 73 [bss ls] (bch (ls.flatMap id)):=
 zbh (za0 Tryz.func73 rfl (by kernel_rfl)) λw k vs hp=>by
  obtain⟨a,rfl,h1⟩:=zef hp
  obtain⟨p,ps,rfl,hpa,hcat⟩:=z3b h1
  refine(zmi p ps w hpa (by rw[hcat];exact hl)).mono λ_ _ ⟨v,he,hx,_,hv⟩=>⟨v,he,hx,?_⟩
  rw[hcat]at hv
  exact zd9 hv
end
section
def zl:Leaf:=⟨[],[],[],0,[],[]⟩
def zwp(l:List Stub)(x:Int):List UInt8:=((l.find? λs=>decide (s.at_=x)).map (·.hash)).getD []
end
section
theorem zi1:Tryz.prog.underlying 3=some (.int .i64):=by kernel_rfl
theorem zh2:Tryz.prog.underlying 185=some (.map 3 53):=by kernel_rfl
theorem zl6:Tryz.prog.underlying 186=some (.map 3 22):=by kernel_rfl
def zbg(l:List Spot):List (Int×RV):=l.map λs=>(s.at_,RV.ag s.node.c)
def zbj(l:List Stub):List (Int×RV):=l.map λs=>(s.at_,bs s.hash)
end
section
def idxF(q:Int->Bool):Nat->List Int->Int
 |_,[]=> -1
 |j,x::r=>if q x then(j:Int)else idxF q (j+1) r
theorem zud(q:Int->Bool): ∀(l:List Int) (j:Nat), -1<=idxF q j l/\idxF q j l< (j+l.length:Nat)/\(0<=idxF q j l↔l.any q=true)
 |[],j=>by simp[idxF];omega
 |x::r,j=>by
  have ih:=zud q r (j+1)
  rw[idxF,List.any_cons,List.length_cons]
  by_cases hq:q x=true
  ·rw[if_pos hq,hq]
   exact⟨by omega,by omega,by simp⟩
  ·rw[if_neg hq,Bool.eq_false_iff.2 hq,Bool.false_or]
   exact⟨ih.1,by omega,ih.2.2⟩
theorem zs0(l:List Int)(D:Int->Prop)(q:Int->Bool)(hl:l.length<=1000000000)(hD: ∀x∈l,D x):zab Tryz.prog 309 [is l, .s (cloS Tryz.prog I D q)] (.r (I (idxF q 0 l))):=by
 refine zaa (T:=Tab) mixed Tab_ok Tryz.func309 rfl (by kernel_rfl) ?_
 refine zy (λj:Nat=>{F:=[(0, .r (is l)),(1, .r (.s (cloS Tryz.prog I D q))),(7, .r (I l.length)),(8, .r (I j))],O:=[],nx:=0}) (λj=>j<=l.length/\idxF q 0 l=idxF q j (l.drop j)) (λj=>l.length-j) 0 ⟨by omega,by simp⟩ (zad [] rfl ⟨cr,cr,cr,cr,trivial⟩ trivial) ?_
 rintro j ⟨hj,he⟩
 refine zh (λh=>zp ?_) (λh=>zq ?_)
 ·simp only[zb]at h
  have hj':j<l.length:=by omega
  rw[List.drop_eq_getElem_cons hj']at he
  simp only[idxF]at he
  refine zm (by omega) (by omega) (zca rfl hj') (zg rfl ?_)
  refine Vstep.cloB l[j] rfl rfl rfl rfl (cr) (hD _ (List.getElem_mem hj')) (λhq=>zp ?_) (λhq=>zq ?_)
  ·rw[hq]at he
   exact zf (by rw[he];simp)
  ·rw[hq]at he
   refine zd (m:=((j+1:Nat):Int)) (by omega) (by omega) ?_
   exact⟨j+1,⟨hj',by rw[he];simp⟩,by omega,zad [] rfl ⟨cr,cr,cr,cr,trivial⟩ trivial⟩
 ·simp only[zb]at h
  rw[List.drop_eq_nil_of_le (by omega)]at he
  exact zf (by rw[he];rfl)
theorem zfe(l:List Int)(D:Int->Prop)(q:Int->Bool)(hl:l.length<=1000000000)(hD: ∀x∈l,D x):zab Tryz.prog 439 [is l, .s (cloS Tryz.prog I D q)] (.r (.b (l.any q))):=by
 refine zaa (T:=Tab) mixed Tab_ok Tryz.func439 rfl (by kernel_rfl) ?_
 refine ze (zs0 l D q hl hD) ?_
 exact Vcmp.mk' rfl (zf (congrArg RV.b (by rw[Bool.eq_iff_iff,decide_eq_true_eq];exact(zud q l 0).2.2)))
def zb4(u:Int):Prop:=0<=u/\u<65536
def ze3(x:Int):Nat:=if x.tmod 2=1 then 1 else 2
def zdw(x:Int)(n:Node):Bool:=n.right&&(decide (n.kind.toNat≠ze3 x)&&n.par.late.all λu=>zb8 (2*u) x)
theorem z3s(l:List Int)(q:Int->Bool):(!l.any λu=> !q u)=l.all q:=by
 induction l with
 |nil=>rfl
 |cons x r ih=>simp[List.any_cons,List.all_cons,Bool.not_or,ih]
theorem Node.right_late{n:Node}(h:n.right=true): ∀u∈n.par.late,zb4 u:=by
 unfold Node.right at h
 split at h
 ·simp only[Bool.and_eq_true]at h
  have:=h.2
  simp only[Par.none,decide_eq_true_eq,List.length_eq_zero_iff]at this
  rw[this.2.2];simp
 ·split at h
  ·simp only[Bool.and_eq_true]at h
   have:=h.2
   simp only[Par.none,decide_eq_true_eq,List.length_eq_zero_iff]at this
   rw[this.2.2];simp
  ·split at h
   ·simp only[Bool.and_eq_true]at h
    exactλu hu=>Par.right_bd h.2 u hu
   ·cases h
end
section
theorem zz1:(Tryz.prog.info? 53).bind (·.zero)=some (.agg #[.int .u8 0, .slice none 0 0, .slice none 0 0, .slice none 0 0, .int .u8 0, .slice none 0 0, .slice none 0 0, .slice none 0 0, .slice none 0 0, .slice none 0 0]):=by kernel_rfl
theorem z6j:(Tryz.prog.info? 22).bind (·.zero)=some (.slice none 0 0):=by kernel_rfl
theorem z3k(w:World)(k:Kp):(RV.ag zc).at_ w k (.agg #[.int .u8 0, .slice none 0 0, .slice none 0 0, .slice none 0 0, .int .u8 0, .slice none 0 0, .slice none 0 0, .slice none 0 0, .slice none 0 0, .slice none 0 0]):=by
 simp only[RV.at_]
 refine⟨_,rfl,?_⟩
 exact zga [.int .u8 0, .slice none 0 0, .slice none 0 0, .slice none 0 0, .int .u8 0, .slice none 0 0, .slice none 0 0, .slice none 0 0, .slice none 0 0, .slice none 0 0] (by simp[Value.oneCell'])
def zft(l:List Stub)(x:Int):Option (List UInt8):=(l.find? λs=>decide (s.at_=x)).map (·.hash)
theorem zez: ∀(l:List Spot) (x:Int),zb5 (zbg l) x=(za6 l x).map λn=> .ag n.c
 |[],x=>rfl
 |s::l,x=>by
  have ih:=zez l x
  simp only[zbg,za6,List.map_cons,zb5,List.find?_cons]at*
  by_cases h:s.at_=x
  ·simp[h]
  ·simp[h,ih]
theorem zin: ∀(l:List Stub) (x:Int),zb5 (zbj l) x=(zft l x).map bs
 |[],x=>rfl
 |s::l,x=>by
  have ih:=zin l x
  simp only[zbj,zft,List.map_cons,zb5,List.find?_cons]at*
  by_cases h:s.at_=x
  ·simp[h]
  ·simp[h,ih]
section
variable {S:St} {o:Oper}
theorem Vstep.node2{x y:Operand}{n:Int}{l:List Spot}{K:St->Prop}(hop:o.op= .lookup 185 x y true)(hx:opr S x=some (.r (.s (mapS (zbg l)))))(hy:opr S y=some (.r (.i .i64 n)))
  (h1: ∀m,za6 l n=some m->newK S o.dst (.r (.tu [.ag m.c, .b true])) none K) (h0:za6 l n=none->newK S o.dst (.r (.tu [.ag zc, .b false])) none K):Vstep Tryz.prog S o K:=by
 refine Vstep.look2 (.ag zc) hop hx hy zh2 zi1 zz1 z3k (λr hr=>?_) (λhr=>?_)
 ·rw[zez,Option.map_eq_some_iff]at hr
  obtain⟨m,hm,rfl⟩:=hr
  exact h1 m hm
 ·rw[zez,Option.map_eq_none_iff]at hr
  exact h0 hr
theorem Vstep.node1{x y:Operand}{n:Int}{l:List Spot}{K:St->Prop}(hop:o.op= .lookup 185 x y false)(hx:opr S x=some (.r (.s (mapS (zbg l)))))(hy:opr S y=some (.r (.i .i64 n)))
  (h1: ∀m,za6 l n=some m->newK S o.dst (.r (.ag m.c)) none K) (h0:za6 l n=none->newK S o.dst (.r (.ag zc)) none K):Vstep Tryz.prog S o K:=by
 refine Vstep.look1 (.ag zc) hop hx hy zh2 zi1 zz1 z3k (λr hr=>?_) (λhr=>?_)
 ·rw[zez,Option.map_eq_some_iff]at hr
  obtain⟨m,hm,rfl⟩:=hr
  exact h1 m hm
 ·rw[zez,Option.map_eq_none_iff]at hr
  exact h0 hr
theorem Vstep.hash1{x y:Operand}{n:Int}{l:List Stub}{K:St->Prop}(hop:o.op= .lookup 186 x y false)(hx:opr S x=some (.r (.s (mapS (zbj l)))))(hy:opr S y=some (.r (.i .i64 n)))
  (h1: ∀m,zft l n=some m->newK S o.dst (.r (bs m)) none K) (h0:zft l n=none->newK S o.dst (.r (.x (.slice none 0 0))) none K):Vstep Tryz.prog S o K:=by
 refine Vstep.look1 (.x (.slice none 0 0)) hop hx hy zl6 zi1 z6j (λ_ _=>by simp[RV.at_]) (λr hr=>?_) (λhr=>?_)
 ·rw[zin,Option.map_eq_some_iff]at hr
  obtain⟨m,hm,rfl⟩:=hr
  exact h1 m hm
 ·rw[zin,Option.map_eq_none_iff]at hr
  exact h0 hr
end
theorem zhe(k:Nat):(nd 0 k:Int).tmod 2=0:=by rw[z5b,Int.tmod_eq_emod_of_nonneg (by omega)];omega
theorem ziz(h k:Nat):(nd (h+1) k:Int).tmod 2=1:=by rw[z5a,Int.tmod_eq_emod_of_nonneg (by omega)];omega
theorem zop{l:List Spot}{x:Int}{n:Node}(h:za6 l x=some n): ∃s∈l,s.at_=x/\s.node=n:=by
 simp only[za6,Option.map_eq_some_iff]at h
 obtain⟨s,hs,rfl⟩:=h
 exact⟨s,List.mem_of_find?_eq_some hs,by simpa using List.find?_some hs,rfl⟩
end
section
theorem Vsem.field{P:Program}{T:TT}{S:St}{o:Oper}(hT:TOk P T){t:TypeId}{x:Operand}{i off:Nat}{ft:TypeId}{ti tf:TI}{fs:List (Nat×TypeId)}{cells:List RV}{rv:RV}{K:TF->Option Ow->Prop}(hop:o.op= .field t x i)(hti:tget T t=some ti)(hk:ti.k= .struct fs)(hfs:lget fs i=some (off,ft))(htf:tget T ft=some tf)(hag:tf.agg=false)
  (hx:opr S x=some (.r (.ag cells))) (hc:lget cells off=some rv) (hK:K (.r rv) none):Vsem P S o K:=by
 refine⟨_,_,λB N a w k Q ⟨g,hs⟩ hd=>?_,hK⟩
 have hv:=(zaf hs hx).2
 simp only[TF.at_,RV.at_]at hv
 obtain⟨us,e,hl⟩:=hv
 rw[zat]at hc hfs
 have hul:=(RV.listAt_iff _ _).1 hl
 have hlt:off<us.toList.length:=by rw[hul.1];exact(List.getElem?_eq_some_iff.1 hc).1
 have hu:us.toList[off]?=some us.toList[off]:=List.getElem?_eq_getElem hlt
 have h1:=hul.2 off rv _ hc hu
 obtain⟨q,hq⟩:=hT.get hti
 obtain⟨d,hdd,hko,_⟩:=q.desc
 rw[hq]at hdd
 rw[hk]at hko
 obtain⟨fields,rfl,hfl⟩:=hko
 obtain⟨qf,hqf⟩:=hT.get htf
 obtain⟨df,hdf,_,hrow⟩:=qf.desc
 rw[hqf]at hdf
 rw[hag]at hrow
 have hagg:(isAgg ft).run P w= .ok false w:=by
  unfold isAgg
  rw[Sem.run_bind,run_underlying hdf w]
  cases df<;>simp_all [TypeDesc.isRow]
 rw[<-hfl,List.getElem?_map]at hfs
 cases hfi:fields.toList[i]? with
 |none=>simp[hfi]at hfs
 |some fd=>
  simp only[hfi,Option.map_some,Option.some.injEq,Prod.mk.injEq]at hfs
  obtain⟨rfl,rfl⟩:=hfs
  have hfa:fields[i]?=some fd:=by simpa using hfi
  have hua:us[fd.offset]?=some us.toList[fd.offset]:=by rw[<-Array.getElem?_toList];exact hu
  refine zap (v:=us.toList[fd.offset]) (w':=w) ?_ ⟨k,g,hs.put hd trivial h1.2⟩
  simp[execOp,hop,Instr.field,run_underlying hdd w,hfa,e,part,hagg,hua,asAgg]
theorem zoi{α:Type}{p:α->Bool}{l:List α}{x:α}(hx:x∈l)(h:p x=false):l.all p=false:=by
 rw[List.all_eq_false];exact⟨x,hx,by simp[h]⟩
end
section
def zhw(i:Int)(n:Node):List UInt8:=if i<0\/65536<=i then[]else if n.right=false\/n.kind.toNat=2 then[]else zjo i n
def zrh(i:Int)(n:Node):Int:=if i<0\/65536<=i then 1 else if n.right=false\/n.kind.toNat=2 then 3 else 0
theorem zs2(i:Int)(n:Node)(hn:n.fit):zab Tryz.prog 376 [I i, .ag n.c] (.r (.tu [bs (zhw i n), .i .u8 (zrh i n)])):=by
 have:=zvi i n hn
 unfold zhw zrh
 by_cases h1:i<0\/65536<=i
 ·rw[if_pos h1]at this;rw[if_pos h1,if_pos h1];exact this
 ·rw[if_neg h1]at this;rw[if_neg h1,if_neg h1]
  by_cases h2:n.right=false\/n.kind.toNat=2
  ·rw[if_pos h2]at this;rw[if_pos h2,if_pos h2];exact this
  ·rw[if_neg h2]at this;rw[if_neg h2,if_neg h2];exact this
theorem zys(i:Int)(n:Node)(hn:n.fit):(zhw i n).length<=50000000000:=by
 have:=zlx n hn
 unfold zhw zjo
 split
 ·simp
 ·split
  ·simp
  ·simp[zam];omega
theorem zpg{l:List Stub}{x:Int}{m:List UInt8}(h:zft l x=some m):zwp l x=m/\∃s∈l,s.at_=x/\s.hash=m:=by
 simp only[zft]at h
 refine⟨by simp[zwp,h],?_⟩
 rw[Option.map_eq_some_iff]at h
 obtain⟨s,hs,rfl⟩:=h
 exact⟨s,List.mem_of_find?_eq_some hs,by simpa using List.find?_some hs,rfl⟩
end
section
section
variable {P:Program} {T:TT} {B:Bs} {N:Nat} {S:St} {a:Act} {w:World} {k:Kp} {g:Env} {o:Oper} {Q:Exit->Act->World->Prop}
abbrev strR(s:ByteArray):List RV:=s.data.toList.map λc=> .i .u8 (c.toNat:Int)
theorem z51(w:World)(k:Kp)(s:ByteArray):RV.listAt w k (strR s) (Lib.strCells s):=by
 rw[RV.listAt_iff]
 refine⟨by simp[Lib.strCells],λj f u hf hu=>?_⟩
 rw[List.getElem?_map]at hf
 obtain⟨c,hc,rfl⟩:=Option.map_eq_some_iff.1 hf
 simp only[Lib.strCells,List.getElem?_map,hc,Option.map_some,Option.some.injEq]at hu
 subst hu
 exact⟨rfl,by simp[RV.at_]⟩
theorem zsx{t t' ty e:TypeId}{i:TypeInfo}{z:Value}(ht:P.underlying t=some (.slice e))(hu:P.underlying t'=some .string)(hi:P.info? e=some i)(hz:i.zero=some z)
  (hsize:i.size=1) (hby:i.bytes=1) (hzs:z.cells.size=1)
  {n:Nat} {cells:List RV} {pub:Bool} {u:Value} {ob:Option Nat} (hch:chAt w k e 1 n cells pub u ob) (s:ByteArray) (hm:0<s.size) (hbytes:n+s.size<=140737488355328):
  ∃xs b cap cur w',(Builtin.append_ #[t,t'] ty #[u, .string s]).run P w= .ok (.slice (some ⟨b,0,none⟩) (n+s.size) cap) w'/\RV.listAt w k cells xs/\
   w'.heap[b]?=some (.cells cur e (0,0))/\n+s.size<=cap/\cap<=maxLen/\cap*1<=cur.size/\cur.toList.take ((n+s.size)*1)=xs++Lib.strCells s/\w.grownBy w' ob/\(ob=some b\/b=w.heap.size)/\
   (∀b0,ob=some b0->(∃cur0,w.heap[b0]?=some (.cells cur0 e (0,0))/\cur0.toList.take (n*1)=xs)/\(b=b0\/b=w.heap.size/\w'.heap[b0]?=w.heap[b0]?)):=by
 obtain⟨hcl,hch⟩:=hch
 have hl:(Lib.strCells s).length=s.size:=Lib.strCells_length s
 have h63:n+s.size<=maxLen:=by simp only[maxLen];omega
 have fin: ∀(xs:List Value) (old:Nat),xs.length=n->
   (w.drew.alloc (.cells (xs.toArray++(Lib.strCells s).toArray++Builtin.zeroCells z.cells (grownCap w (n+s.size) old e-(n+s.size))) e)).heap[w.heap.size]?=some (.cells (xs.toArray++(Lib.strCells s).toArray++Builtin.zeroCells z.cells (grownCap w (n+s.size) old e-(n+s.size))) e (0,0))/\
   n+s.size<=grownCap w (n+s.size) old e/\grownCap w (n+s.size) old e<=maxLen/\(xs.toArray++(Lib.strCells s).toArray++Builtin.zeroCells z.cells (grownCap w (n+s.size) old e-(n+s.size))).size=grownCap w (n+s.size) old e*1/\
   (xs.toArray++(Lib.strCells s).toArray++Builtin.zeroCells z.cells (grownCap w (n+s.size) old e-(n+s.size))).toList.take ((n+s.size)*1)=xs++Lib.strCells s/\
   ∀row,w.grownBy (w.drew.alloc (.cells (xs.toArray++(Lib.strCells s).toArray++Builtin.zeroCells z.cells (grownCap w (n+s.size) old e-(n+s.size))) e)) row:=λxs old hx=>by
  have hge:=grownCap_ge w (n+s.size) old e
  refine⟨heap_alloc_new w.drew _,hge,grownCap_le_maxLen w (n+s.size) old e h63,?_,?_,λrow=>⟨rfl,rfl,rfl,by simp,λk hk _=>Below.heap_alloc w.drew _ k hk⟩⟩
  ·simp only[Array.size_append,List.size_toArray,size_zeroCells,hzs,hl,hx]
   omega
  ·simp only[Array.toList_append]
   rw[show(n+s.size)*1=(xs++Lib.strCells s).length by rw[List.length_append,hl,hx,Nat.mul_one]]
   exact List.take_left
 rcases hch with⟨rfl,⟨rfl,p,rfl⟩ |⟨hn0,_,b,o,rfl,hnm,hbl,hcell⟩⟩ |⟨b,cap,cur,rfl,rfl,hh,hnc,hcm,hcs,hkb,hlist⟩
 ·have hc0:cells=[]:=List.eq_nil_of_length_eq_zero (by simpa using hcl)
  subst hc0
  cases p with
  |none=>
   have hr:=run_append_nil_string (P:=P) w t t' ty e i z ht hu hi hz s hm (by omega) (by rw[hby];omega)
   have e1:(s.data.map λb=>Value.int .u8 b.toNat)=(Lib.strCells s).toArray:=by
    apply Array.ext'
    simp[Lib.strCells]
   rw[e1]at hr
   obtain⟨f1,f2,f3,f4,f5,f6⟩:=fin [] 0 rfl
   simp only[Nat.zero_add,List.nil_append,Array.empty_append]at f1 f2 f3 f4 f5 f6⊢
   exact⟨[],w.heap.size,_,_,_,hr,by simp[RV.listAt],f1,f2,f3,Nat.le_of_eq f4.symm,f5,f6 _, .inr rfl,λb0 h=>by cases h⟩
  |some p=>
   have hr:=Lib.run_append_grow_string (P:=P) w t t' ty e i z ht hu hi hz p 0 0 [] (by simp) (by simp) s (by omega) (by omega) (growslice_fits (by omega) (by rw[hby];omega))
   obtain⟨f1,f2,f3,f4,f5,f6⟩:=fin [] 0 rfl
   exact⟨[],w.heap.size,_,_,_,hr,by simp[RV.listAt],f1,f2,f3,Nat.le_of_eq f4.symm,f5,f6 _, .inr rfl,λb0 h=>by cases h⟩
 ·obtain⟨xs,hlist,hxl,hcell⟩:=RV.cells_list cells o hcell
  have hr:=Lib.run_append_grow_string (P:=P) w t t' ty e i z ht hu hi hz ⟨b,o,none⟩ n n xs (by rw[hsize,hxl,hcl]) (λj v hj=>by rw[Addr.add_mid];exact hcell j v hj) s (by omega) (by omega) (growslice_fits (by omega) (by rw[hby];omega))
  obtain⟨f1,f2,f3,f4,f5,f6⟩:=fin xs n (by rw[hxl,hcl,Nat.mul_one])
  exact⟨xs,w.heap.size,_,_,_,hr,hlist,f1,f2,f3,Nat.le_of_eq f4.symm,f5,f6 _, .inr rfl,λb0 hb0=>by cases hb0⟩
 ·have hxl:(cur.toList.take (n*1)).length=n:=by rw[zaq hlist,hcl,Nat.mul_one]
  have hlt:b<w.heap.size:=(Array.getElem?_eq_some_iff.1 hh).1
  by_cases hfit:n+s.size<=cap
  ·have hr:=Lib.run_append_room_string (P:=P) w t t' ty e i ht hu hi hsize b n cap cur hh s hfit (by omega)
   refine⟨_,b,cap,_,_,hr,hlist,setRow_heap w b cur _ e (0,0) hh,hfit,hcm,?_,?_,⟨rfl,rfl,rfl,by simp[World.setRow],λx hx hne=>setRow_other w b x _ (λh=>hne (by rw[h]))⟩, .inl rfl,λb0 hb0=>?_⟩
   ·simp only[List.size_toArray,List.length_append,List.length_take,hl,List.length_drop,Array.length_toList]
    omega
   ·rw[Nat.mul_one]at hxl⊢
    rw[Nat.mul_one]
    rw[show n+s.size=(cur.toList.take n++Lib.strCells s).length by rw[List.length_append,hxl,hl],List.toList_toArray]
    exact List.take_left
   ·cases hb0
    exact⟨⟨cur,hh,rfl⟩, .inl rfl⟩
  ·have hr:=Lib.run_append_grow_string (P:=P) w t t' ty e i z ht hu hi hz ⟨b,0,none⟩ n cap (cur.toList.take (n*1)) (by rw[hsize,hxl,Nat.mul_one]) (λj v hj=>by
    rw[Addr.add_mid,Nat.zero_add,cell_of_row w b j cur e (0,0) hh]
    rw[List.getElem?_take]at hj
    split at hj
    ·simpa using hj
    ·cases hj) s (by omega) (by omega) (growslice_fits (by omega) (by rw[hby];omega))
   obtain⟨f1,f2,f3,f4,f5,f6⟩:=fin (cur.toList.take (n*1)) cap hxl
   refine⟨_,w.heap.size,_,_,_,hr,hlist,f1,f2,f3,Nat.le_of_eq f4.symm,f5,f6 _, .inr rfl,λb0 hb0=>?_⟩
   cases hb0
   exact⟨⟨cur,hh,rfl⟩, .inr ⟨rfl,Below.heap_alloc w.drew _ b hlt⟩⟩
theorem Vstep.appS{x y:Operand}{t t' e:TypeId}{ti te ts:TI}{f:TF}{id:Option Nat}{n:Nat}{cells:List RV}{pub:Bool}{s:ByteArray}{K:St->Prop}(hT:TOk P T)
  (hop:o.op= .call {callee:= .builtin .append,args:= #[x,y],argTypes:= #[t,t']}) (hti:tget T t=some ti) (hk:ti.k= .slice e) (hte:tget T e=some te) (hke:te.sz=1/\te.bytes=1) (hts:tget T t'=some ts) (hks:ts.k= .str)
  (hx:opr S x=some f) (hl:lhsv S e 1 f=some (id,e,1,n,cells,pub)) (hy:opr S y=some (.r (.x (.string s)))) (hlen:n+s.size<=140737488355328)
  (hK:newK (S.strike id) o.dst (.r .any) (some (.ch e 1 (n+s.size) (cells++strR s) pub)) K):Vstep P S o K:=by
 rw[zar]at hK
 refine Vstep.one (S':=(S.strike id).mk_ o.dst (.ch e 1 (n+s.size) (cells++strR s) pub)) ?_ hK
 rintro B N a w k Q ⟨g,hs⟩ hd
 obtain⟨q,hq⟩:=hT.get hti
 obtain⟨d,hdd,hko,_⟩:=q.desc
 rw[hq,hk]at*
 simp only[KOk]at hko
 subst hko
 obtain⟨qe,hqe⟩:=hT.get hte
 obtain⟨i,hi,hsz,hby,z,hz,hzc⟩:=qe.info
 rw[hqe]at hi
 obtain⟨qs,hqs⟩:=hT.get hts
 obtain⟨ds,hds,hkos,_⟩:=qs.desc
 rw[hqs,hks]at*
 simp only[KOk]at hkos
 subst hkos
 have hy':=(zaf hs hy).2
 simp only[TF.at_,RV.at_]at hy'
 obtain⟨ob,hch,hid⟩:=zrg hs hl (zaf hs hx).2
 have run: ∀{v:Value} {w':World},(Builtin.append_ #[t,t'] o.type #[a.eval x, .string s]).run P w= .ok v w'->(execOp a.eval o).run P w= .ok (.value v) w':=λ{v w'} hr=>by
  simp[execOp,hop,resolve,invoke,builtin,hy',hr]
 rcases Nat.eq_zero_or_pos s.size with h0 |hm
 ·have hn:strR s=[]:=List.eq_nil_of_length_eq_zero (by rw[List.length_map,Array.length_toList];exact h0)
  have hform: ∃p c,a.eval x= .slice p n c/\n<=c:=by
   rcases hch.2 with⟨_,⟨rfl,p,e⟩ |⟨_,_,b,o',e,_⟩⟩ |⟨b,cap,cur,_,e,_,h1,_⟩
   ·exact⟨p,0,e,Nat.le_refl _⟩
   ·exact⟨_,n,e,Nat.le_refl _⟩
   ·exact⟨_,cap,e,h1⟩
  obtain⟨p,c,hu,hnc⟩:=hform
  rw[hu]at hch run
  have hw:Wrote w k w k ob:=⟨rfl,rfl,rfl,Nat.le_refl _,λ_ _ _=>⟨rfl,rfl⟩,λ_ _=>⟨Nat.le_refl _,λ_ _=>rfl,λ_ _ _ h=>h⟩⟩
  have h1:=hs.wrote hw hid
  have h2:Ow.at_ w k g (.slice p n c,ob) (.ch e 1 (n+s.size) (cells++strR s) pub):=by rw[hn,h0];simpa[Ow.at_]using hch
  have hobs: ∀b,ob=some b->(B.w.heap.size<=b\/b∈B.X)/\b<w.heap.size:=λb hb=>zju hs hid hb
  refine zap (run ?_) ⟨_,_,h1.adopt hd (o:= .ch e 1 (n+s.size) (cells++strR s) pub) (vb:=(.slice p n c,ob)) trivial h2 hobs (λi o' b ho hb=>zjt hs hid ho hb)⟩
  have hf:=Lib.run_firstCells_string (P:=P) w 1 s
  rw[h0]at hf
  have hs0:Lib.strCells s=[]:=List.eq_nil_of_length_eq_zero (by rw[Lib.strCells_length];exact h0)
  rw[hs0]at hf
  cases p<;>simp[Builtin.append_,run_underlying hdd,run_underlying hds,sizeOf,typeInfo,hi,hsz,hke.1,Builtin.lenOf,h0,hf,hnc,storeCells]
 ·obtain⟨xs,b,cap,cur,w',hrun,hxs,hh,h1,h2,h3,h4,hgr,hbb,hb0⟩:=zsx (ty:=o.type) hdd hds hi hz (hsz.trans hke.1) (hby.trans hke.2) (by rw[<-Array.length_toList,hzc,qe.zsz,hke.1]) hch s hm hlen
  obtain⟨k',hsat⟩:=znt (o:=o) hs hd hch hid (z51 w k s) (by rw[Lib.strCells_length,Nat.mul_one]) hxs hh h1 h2 h3 h4 hgr hbb hb0
  exact zap (run hrun) ⟨k',hsat⟩
theorem zjy(w:World)(dT sT ty elem:TypeId)(sz g o dLen dCap:Nat)(a:Addr)(sLen sCap m:Nat)(cur:Array Value)(t:TypeId)(cs:List Value)
  (hu:P.underlying dT=some (.slice elem)) {i:TypeInfo} (hi:P.info? elem=some i) (hs:i.size=sz)
  (hg:w.heap[g]?=some (.cells cur t (0,0))) (hm:Nat.min sLen dLen=m) (hn:cs.length=m*sz)
  (hsrc: ∀j v,cs[j]?=some v->w.cell? (a.add j)=some v) (hfit:o+cs.length<=cur.size) (h1: ∀v∈cs,v.oneCell'=true):
  (Builtin.copy_ #[dT,sT] ty #[.slice (some ⟨g,o,none⟩) dLen dCap, .slice (some a) sLen sCap]).run P w=
   .ok (goInt (m:Int)) (w.setRow g (cur.toList.take o++cs++cur.toList.drop (o+cs.length)).toArray):=by
 subst hm
 have hl:=run_loadCells_list (P:=P) w a cs hsrc
 have hst:=run_storeCells_at P g o t cs 0 cur w hg (by simpa using hfit) h1
 simp[Builtin.copy_,run_underlying hu,Builtin.lenOf,Builtin.firstCells,sizeOf,typeInfo,hi,hs,<-hn,hl,hst]
theorem zjx(w:World)(dT sT ty elem:TypeId)(p a:Option Addr)(dLen dCap sLen sCap:Nat)(hu:P.underlying dT=some (.slice elem)){i:TypeInfo}(hi:P.info? elem=some i)(hm:Nat.min sLen dLen=0):
  (Builtin.copy_ #[dT,sT] ty #[.slice p dLen dCap, .slice a sLen sCap]).run P w= .ok (goInt ((0:Nat):Int)) w:=by
 have h:min sLen dLen=0:=hm
 cases p<;>cases a<;>simp[Builtin.copy_,run_underlying hu,Builtin.lenOf,Builtin.firstCells,sizeOf,typeInfo,hi,h,loadCells,loadCellsFrom,storeCells]
theorem Vstep.copy{x y:Operand}{t t' e:TypeId}{ti te:TI}{id n m:Nat}{cells ys:List RV}{f:TF}{K:St->Prop}(hT:TOk P T)
  (hop:o.op= .call {callee:= .builtin .copy,args:= #[x,y],argTypes:= #[t,t']}) (hti:tget T t=some ti) (hk:ti.k= .slice e) (hte:tget T e=some te)
  (hx:opr S x=some (.own id)) (ho:oget S.O id=some (.ch e te.sz n cells false)) (hy:opr S y=some f) (hr:rhsv S te.sz f=some (te.sz,m,ys)) {zs:List RV} (hz:ys.take (Nat.min m n*te.sz)++cells.drop (Nat.min m n*te.sz)=zs)
  (hK:newK (S.set id (some (.ch e te.sz n zs false))) o.dst (.r (.i .i64 (Nat.min m n:Nat))) none K):Vstep P S o K:=by
 subst hz
 rw[zar]at hK
 refine Vstep.one (S':=(S.set id (some (.ch e te.sz n (ys.take (Nat.min m n*te.sz)++cells.drop (Nat.min m n*te.sz)) false))).put o.dst (.r (.i .i64 (Nat.min m n:Nat)))) ?_ hK
 rintro B N a w k Q ⟨g,hs⟩ hd
 obtain⟨q,hq⟩:=hT.get hti
 obtain⟨d,hdd,hko,_⟩:=q.desc
 rw[hq,hk]at*
 simp only[KOk]at hko
 subst hko
 obtain⟨qe,hqe⟩:=hT.get hte
 obtain⟨i,hi,hsz,hby,z,hz,hzc⟩:=qe.info
 rw[hqe]at hi
 obtain⟨hid,hlo,hat,_⟩:=hs.owns id _ ho
 have hx':=(zaf hs hx).2
 simp only[TF.at_]at hx'
 obtain⟨qa,qc,us,hu2,hus,husl,hsrc⟩:=zm9 hs hr (zaf hs hy).2
 have hmn:Nat.min m n<=n:=Nat.min_le_right _ _
 have hmm:Nat.min m n<=m:=Nat.min_le_left _ _
 simp only[Ow.at_]at hat
 have run: ∀{v:Value} {w':World},(Builtin.copy_ #[t,t'] o.type #[(g id).1, .slice qa m qc]).run P w= .ok v w'->(execOp a.eval o).run P w= .ok (.value v) w':=λ{v w'} hr=>by
  simp[execOp,hop,resolve,invoke,builtin,hx',hu2,hr]
 have fin: ∀{w':World},SatE B N (S.set id (some (.ch e te.sz n (ys.take (Nat.min m n*te.sz)++cells.drop (Nat.min m n*te.sz)) false))) a w' k g->
   SatE B N ((S.set id (some (.ch e te.sz n (ys.take (Nat.min m n*te.sz)++cells.drop (Nat.min m n*te.sz)) false))).put o.dst (.r (.i .i64 (Nat.min m n:Nat)))) (a.put o.dst (goInt ((Nat.min m n:Nat):Int))) w' k g:=λ{w'} h=>
  h.put hd trivial (by simp[TF.at_,RV.at_,goInt])
 rcases Nat.eq_zero_or_pos (Nat.min m n)with h0 |hpos
 ·have hform: ∃p nn c,(g id).1= .slice p nn c/\nn=n:=by
   rcases hat.2 with⟨_,⟨rfl,p,e⟩ |⟨_,h,_⟩⟩ |⟨b,cap,cur,_,e,_⟩
   ·exact⟨p,0,0,e,rfl⟩
   ·cases h
   ·exact⟨_,n,cap,e,rfl⟩
  obtain⟨p,nn,c,hu,rfl⟩:=hform
  rw[hu]at run
  have hrun:=zjx (P:=P) w t t' o.type e p qa nn c m qc hdd hi h0
  refine zap (run hrun) ⟨k,g,?_⟩
  have hz:ys.take (Nat.min m nn*te.sz)++cells.drop (Nat.min m nn*te.sz)=cells:=by rw[h0];simp
  rw[hz]at fin⊢
  have:=fin (hs.reset ho)
  rw[h0]at this⊢
  exact this
 ·rcases hat.2 with⟨_,⟨rfl,_⟩ |⟨_,h,_⟩⟩ |⟨b,cap,cur,e1,e2,hh,h1,h2,h3,h4,h5⟩
  ·exact absurd hpos (by simp)
  ·cases h
  ·obtain⟨sb,so,rfl,hcells⟩:=hsrc (by omega)
   have hle:Nat.min m n*te.sz<=m*te.sz:=Nat.mul_le_mul_right _ hmm
   have hle2:Nat.min m n*te.sz<=n*te.sz:=Nat.mul_le_mul_right _ hmn
   have hcc:n*te.sz<=cap*te.sz:=Nat.mul_le_mul_right _ h1
   have hk:k b=0:=by simpa using h4
   have hcl:(us.take (Nat.min m n*te.sz)).length=Nat.min m n*te.sz:=by rw[List.length_take,husl];omega
   have hsub: ∀(j:Nat) (v:Value),(us.take (Nat.min m n*te.sz))[j]?=some v->us[j]?=some v:=λj v hj=>by
    rw[List.getElem?_take]at hj
    split at hj
    ·exact hj
    ·cases hj
   have hnew:RV.listAt w k (ys.take (Nat.min m n*te.sz)) (us.take (Nat.min m n*te.sz)):=zbv hus _
   have hr:=zjy (P:=P) w t t' o.type e te.sz b 0 n cap ⟨sb,so,none⟩ m qc _ cur e (us.take (Nat.min m n*te.sz)) hdd hi hsz hh rfl hcl (λj v hj=>by rw[Addr.add_mid];exact hcells j v (hsub j v hj)) (by rw[hcl];omega) (λv hv=>by
    obtain⟨j,hj⟩:=List.getElem?_of_mem hv
    have hjl:j< (ys.take (Nat.min m n*te.sz)).length:=by rw[<-zaq hnew];exact(List.getElem?_eq_some_iff.1 hj).1
    exact(((RV.listAt_iff _ _).1 hnew).2 j _ v (List.getElem?_eq_getElem hjl) hj).1)
   rw[e2]at run
   have hw:=zfz (k:=k) (cs:=(cur.toList.take 0++us.take (Nat.min m n*te.sz)++cur.toList.drop (0+(us.take (Nat.min m n*te.sz)).length)).toArray) hh hk
   refine zap (run hr) ⟨k,g,fin (hs.redo ho e1 hw trivial ?_)⟩
   simp only[Ow.at_]
   have hyl:ys.length=m*te.sz:=by rw[<-zaq hus,husl]
   refine⟨by have:=hat.1;simp only[List.length_append,List.length_take,List.length_drop];omega, .inr ⟨b,cap,_,e1,e2,setRow_heap w b cur _ e (0,0) hh,h1,h2,?_,by simpa using hk,?_⟩⟩
   ·simp only[List.size_toArray,List.length_append,List.length_take,List.length_drop,Array.length_toList,husl];omega
   ·have hnew':=RV.list_mono hw.le _ _ hnew
    have hhi:=zco (RV.list_mono hw.le _ _ h5) (Nat.min m n*te.sz)
    have hall:=zba hnew' hhi
    have e:(List.take 0 cur.toList++us.take (Nat.min m n*te.sz)++List.drop (0+(us.take (Nat.min m n*te.sz)).length) cur.toList).take (n*te.sz)=us.take (Nat.min m n*te.sz)++(cur.toList.take (n*te.sz)).drop (Nat.min m n*te.sz):=by
     rw[List.take_zero,List.nil_append,Nat.zero_add,List.take_append,hcl,List.drop_take]
     congr 1
     exact List.take_of_length_le (by rw[hcl];exact hle2)
    rw[List.toList_toArray,e]
    exact hall
end
theorem zbd{S:St}{id:Nat}{e:TypeId}{sz n:Nat}{cells:List RV}(ho:oget S.O id=some (.ch e sz n cells false)):Sub S ⟨S.F,(id,some (.ch e sz n cells true))::S.O,S.nx⟩:=by
 rintro B N a w k ⟨g,hs⟩
 obtain⟨q1,q2,q3,q4⟩:=hs.owns id _ ho
 simp only[Ow.at_]at q3
 let k1:Kp:=match(g id).2 with
  |some b=>kset k b (n*sz)
  |none=>k
 have hw:Wrote w k w k1 (g id).2:=by
  refine⟨rfl,rfl,rfl,Nat.le_refl _,λb hb hne=>⟨rfl,?_⟩,λb hb=>?_⟩
  ·simp only[k1]
   cases hob:(g id).2 with
   |none=>rfl
   |some b'=>simp only[kset];rw[if_neg (λh=>hne (by rw[hob,h]))]
  ·have hkb:=(q3.blk hb.symm).1
   simp only[Bool.false_eq_true,if_false]at hkb
   exact⟨by omega,λ_ _=>rfl,λh=>by omega⟩
 have hle:=hw.le
 have h2:chAt w k1 e sz n cells true (g id).1 (g id).2:=by
  refine⟨q3.1,?_⟩
  rcases q3.2 with⟨h,h' |⟨_,h',_⟩⟩ |⟨b,cap,cur,h1,h2,h3,h4,h5,h6,h7,h8⟩
  ·exact .inl ⟨h, .inl h'⟩
  ·cases h'
  ·refine .inr ⟨b,cap,cur,h1,h2,h3,h4,h5,h6,?_,RV.list_mono hle _ _ h8⟩
   simp only[k1,h1,zbn,if_true]
 have h1:=hs.wrote hw (id:=some id) ⟨⟨_,ho⟩,rfl⟩
 have up: ∀i o',oget ((id,some (Ow.ch e sz n cells true))::S.O) i=some o'->(i=id/\o'= .ch e sz n cells true)\/(id≠i/\oget (S.strike (some id)).O i=some o'):=λi o' h=>by
  rcases zal h with⟨rfl,e'⟩ |⟨hne,h⟩
  ·cases e';exact .inl ⟨rfl,rfl⟩
  ·refine .inr ⟨hne,?_⟩
   simp only[St.strike,St.set,oget]
   split
   ·rename_i hb;exact absurd (Nat.eq_of_beq_eq_true hb) hne
   ·exact h
 refine⟨k1,g,h1.size,h1.defers,h1.keep,h1.kk,h1.facts,λi o' h=>?_,λi j o1 o2 b' hi hj hne hbi=>?_⟩
 ·rcases up i o' h with⟨rfl,rfl⟩ |⟨hne,h⟩
  ·exact⟨q1,trivial,h2,q4⟩
  ·exact h1.owns i o' h
 ·have old: ∀x ox,oget ((id,some (Ow.ch e sz n cells true))::S.O) x=some ox->∃ox',oget S.O x=some ox':=λx ox hx=>by
   rcases zal hx with⟨rfl,_⟩ |⟨_,hx⟩
   ·exact⟨_,ho⟩
   ·exact⟨ox,hx⟩
  obtain⟨p1,hp1⟩:=old i o1 hi
  obtain⟨p2,hp2⟩:=old j o2 hj
  exact hs.apart i j p1 p2 b' hp1 hp2 hne hbi
end
section
abbrev U64(n:Nat):RV:= .i .u64 (n:Int)
def us(l:List Nat):RV:= .sl 1 l.length (l.map U64)
theorem z2g{x:Nat}(h:x<18446744073709551616):IntKind.u64.wrap (x:Int)=(x:Int):=by
 have:((x:Int)%18446744073709551616)=x:=by omega
 simp only[IntKind.wrap]
 simp[IntKind.bits,IntKind.signed]
 omega
theorem Vint.u64{e:Int}{K:Int->Prop}(n:Nat)(he:e=(n:Int))(h:n<18446744073709551616)(hK:K (n:Int)):Vint .u64 e K:=⟨n,by rw[he,z2g h],hK⟩
theorem Vrem.nat{a b:Int}{K:Int->Prop}(x y:Nat)(ha:a=(x:Int))(hb:b=(y:Int))(hy:0<y)(hK:K ((x%y:Nat):Int)):Vrem a b K:=by
 subst ha;subst hb
 refine⟨by omega,_,?_,hK⟩
 rw[Int.tmod_eq_emod_of_nonneg (by omega),<-Int.natCast_emod]
theorem Vint.u8{e:Int}{K:Int->Prop}(n:Nat)(he:e=(n:Int))(hK:K (((UInt8.ofNat n).toNat:Nat):Int)):Vint .u8 e K:=by
 refine⟨_,?_,hK⟩
 subst he
 simp only[IntKind.wrap]
 simp[IntKind.bits,IntKind.signed]
theorem Vadr.mk'{i:Int}{n:Nat}{K:Nat->Prop}(j:Nat)(h:i=(j:Int))(hj:j<n)(hK:K j):Vadr i n K:=by
 subst h
 exact⟨by omega,by omega,by rw[Int.toNat_natCast];exact hK⟩
end
section
def inR(h k:Nat)(x:Int):Prop:=((k*2^(h+1):Nat):Int)<=x/\x+2<=((k*2^(h+1)+2^(h+1):Nat):Int)
end
section
abbrev zd1(O:List Spot)(z:Int):Bool:=(za6 O z).isSome
end
section
theorem zcc{S:St}(pub:Bool)(id i:Nat)(e:TypeId)(sz:Nat){cells:List TF}(ho:oget S.O id=some (.box cells))(hc:cells[i]?=some (.r (.x (.slice none 0 0)))):
  Sub S {F:=S.F,O:=(id,some (.box (cells.set i (.own S.nx))))::(S.nx,some (.ch e sz 0 [] pub))::S.O,nx:=S.nx+1}:=by
 rintro B N a w k ⟨g,hs⟩
 have h:=hs.adopt (dst:=none) (λd hd=>by cases hd) (o:= .ch e sz 0 [] pub) (vb:=(.slice none 0 0,none)) trivial ⟨by simp, .inl ⟨rfl, .inl ⟨rfl,none,rfl⟩⟩⟩ (λb hb=>by cases hb) (λi o' b _ hb=>by cases hb)
 have e0:a.put none (.slice none 0 0)=a:=rfl
 simp only[St.mk_]at h
 rw[e0]at h
 obtain⟨p1,p2,p3,p4⟩:=hs.owns id _ ho
 have hid:oget ((S.nx,some (Ow.ch e sz 0 [] pub))::S.O) id=some (.box cells):=by
  simp only[oget]
  split
  ·rename_i hb;have:=Nat.eq_of_beq_eq_true hb;omega
  ·exact ho
 have hg:(g.set S.nx ((Value.slice none 0 0),none)) S.nx=((Value.slice none 0 0),none):=by rw[Env.set_eq]
 have old: ∀x ox,oget ((id,some (Ow.box (cells.set i (.own S.nx))))::(S.nx,some (Ow.ch e sz 0 [] pub))::S.O) x=some ox->∃ox',oget ((S.nx,some (Ow.ch e sz 0 [] pub))::S.O) x=some ox':=λx ox hx=>by
  rcases zal hx with⟨rfl,_⟩ |⟨_,h'⟩
  ·exact⟨_,hid⟩
  ·exact⟨_,h'⟩
 refine⟨k,_,h.size,h.defers,h.keep,h.kk,h.facts,λj o' ho'=>?_,λx y ox oy b hx hy hne hb=>?_⟩
 ·rcases zal ho' with⟨rfl,e'⟩ |⟨hne,h'⟩
  ·cases e'
   obtain⟨q1,q2,q3,q4⟩:=h.owns _ _ hid
   refine⟨q1,λf hf=>?_,?_,q4⟩
   ·rcases List.mem_or_eq_of_mem_set hf with hf |rfl
    ·exact q2 f hf
    ·exact Nat.lt_succ_self _
   ·obtain⟨b,cur,t,e1,e2,e3,e4,e5⟩:=q3
    refine⟨b,cur,t,e1,e2,e3,by simpa using e4,λj f u hf hu=>?_⟩
    rw[List.getElem?_set]at hf
    split at hf
    ·rename_i hij
     subst hij
     split at hf
     ·cases hf
      obtain⟨u1,u2⟩:=e5 i _ u hc hu
      simp only[TF.at_,RV.at_]at u2
      exact⟨u1,by simp only[TF.at_];rw[hg];exact u2⟩
     ·cases hf
    ·exact e5 j f u hf hu
  ·exact h.owns j o' h'
 ·obtain⟨ox',hx'⟩:=old x ox hx
  obtain⟨oy',hy'⟩:=old y oy hy
  exact h.apart x y ox' oy' b hx' hy' hne hb
end
section
theorem cvc{ρ:List (Nat×Nat)}{S:St}{f g:TF}{fs gs:List TF}(h:cvTF ρ S f g)(r:zeo ρ S fs gs):zeo ρ S (f::fs) (g::gs):=⟨_,_,rfl,h,r⟩
abbrev zcf(L:List Spot):Ow:= .ch 268 11 L.length (L.flatMap Spot.c) true
abbrev zcg(L:List Stub):Ow:= .ch 304 2 L.length (L.flatMap Stub.c) true
abbrev zero4:List RV:=[I 0,I 0, .x (.slice none 0 0), .x (.slice none 0 0)]
end
section
theorem z0h(l:List Int)(hl:l.length<=1000000000)(h64: ∀x∈l,i64 x):zab Tryz.prog 317 [is l] (ich l):=
 zbh (za0 Tryz.func317 rfl (by kernel_rfl)) λw k vs hp=>by
  obtain⟨a,rfl,h1⟩:=zef hp
  obtain⟨p,rfl,hp1⟩:=z9n h64 h1
  exact(zu4 p l w hp1 (by omega)).mono λ_ _ ⟨v,he,hx,_,hv⟩=>⟨v,he,hx,z7s hv⟩
theorem zn2(n:Node)(hn:n.fit)(hcl:zab Tryz.prog 140 [.ag n.leaf.c] (.r (.ag n.leaf.c))):zab Tryz.prog 189 [.ag n.c] (.r (.ag n.c)):=by
 refine zaa (T:=Tab) mixed Tab_ok Tryz.func189 rfl (by kernel_rfl) ?_
 obtain⟨h1,h2⟩:=hn
 refine za rfl rfl ?_
 refine ze hcl ?_
 refine Vdraw.mk' (by kernel_rfl) ?_
 refine ze (zbw n.par.box (by have:=h2.1;omega)) ?_
 refine ze (zbw n.par.hash (by have:=h2.2.1;omega)) ?_
 refine ze (z0h n.par.late (by have:=h2.2.2.1;omega) h2.2.2.2) ?_
 refine za rfl rfl ?_
 refine za rfl rfl ?_
 exact cr
end
end Go.Proofs.YtebhngeddnnpkaaGreat.Sx
