import Derived.Test.YtpcfoglfakeimaaGreatZNk
import Derived.Lib.AppendZerosOnto
import Derived.Test.YtpcfoglfakeimaaGreatZKf
namespace Go.Proofs.YtpcfoglfakeimaaGreat.Sx
open Go.RowKit
section
variable {P:Program} {T:TT} {B:Bs} {N:Nat} {S:St} {a:Act} {w:World} {k:Kp} {g:Env} {o:Oper} {Q:Exit->Act->World->Prop}
theorem zpt(w:World)(t tn ty e:TypeId)(i:TypeInfo)(kq kn:IntKind)(ht:P.underlying t=some (.slice e))(htn:P.underlying tn=some (.int kn))(hi:P.info? e=some i)
  (g n cap:Nat) (hnc:n<=cap):(Builtin.append_ #[t,tn] ty #[.slice (some ⟨g,0,none⟩) n cap, .int kq 0]).run P w= .ok (.slice (some ⟨g,0,none⟩) n cap) w:=by
 have hw:IntKind.i64.wrap (0:Int)=0:=by rw[IntKind.wrap_i64];omega
 have hst: ∀ad,(storeCells ad []).run P w= .ok () w:=λad=>by simp[storeCells]
 simp[Builtin.append_,run_underlying ht,run_underlying htn,sizeOf,typeInfo,hi,asInt,asIntOf,hw,hnc,hst]
theorem zps{m:Nat}(w:World)(t tn ty e:TypeId)(i:TypeInfo)(z:Value)(kq kn:IntKind)(ht:P.underlying t=some (.slice e))(htn:P.underlying tn=some (.int kn))(hi:P.info? e=some i)(hz:i.zero=some z){sz:Nat}(hs0:0<sz)(hsize:i.size=sz)(hzl:z.cells.size=sz)(h1: ∀u∈(Builtin.zeroCells z.cells m).toList,u.oneCell'=true)
  (g sLen sCap:Nat) (cur:Array Value) (hg:w.heap[g]?=some (.cells cur e (0,0))) (hm:0<m) (hroom:sLen+m<=sCap) (hfit:(sLen+m)*sz<=cur.size) (hmm:m*i.bytes<=140737488355328) (hm63:m<=9223372036854775807):
  (Builtin.append_ #[t,tn] ty #[.slice (some ⟨g,0,none⟩) sLen sCap, .int kq (m:Int)]).run P w=
   .ok (.slice (some ⟨g,0,none⟩) (sLen+m) sCap) (w.setRow g (cur.toList.take (sLen*sz)++(Builtin.zeroCells z.cells m).toList++cur.toList.drop (sLen*sz+m*sz)).toArray):=by
 have hZ:(Builtin.zeroCells z.cells m).toList.length=m*sz:=by rw[Array.length_toList,size_zeroCells,hzl]
 have hst:=run_storeCells_at P g (sLen*sz) e (Builtin.zeroCells z.cells m).toList 0 cur w hg (by rw[hZ];rw[Nat.add_mul]at hfit;omega) h1
 simp only[Nat.add_zero,hZ]at hst
 have hk:m≠0:=by omega
 have hw:IntKind.i64.wrap (m:Int)=m:=by rw[IntKind.wrap_i64];omega
 have hneg: ¬((m:Int)<0):=by omega
 have h48i: ¬(281474976710656< (m:Int)*(i.bytes:Int)):=by
  have:((m*i.bytes:Nat):Int)=(m:Int)*(i.bytes:Int):=by push_cast;rfl
  omega
 have hs1:sz≠0:=by omega
 have hms: ¬(m*sz=0):=Nat.mul_ne_zero hk hs1
 simp[Builtin.append_,run_underlying ht,run_underlying htn,sizeOf,typeInfo,zeroValue,hi,hz,hsize,asInt,asIntOf,hw,hneg,h48i,hk,hs1,hms,hroom,Addr.add_lit,hst]
theorem zud{t t' ty e:TypeId}{kn kq:IntKind}{i:TypeInfo}{z:Value}(ht:P.underlying t=some (.slice e))(hu:P.underlying t'=some (.int kn))(hi:P.info? e=some i)(hz:i.zero=some z){sz:Nat}(hs0:0<sz)
  (hsize:i.size=sz) (hzl:z.cells.size=sz) {n:Nat} {cells:List RV} {u:Value} {ob:Option Nat} (hch:chAt w k e sz n cells false u ob) (hn0:0<n) (m:Nat) (h1: ∀u∈(Builtin.zeroCells z.cells m).toList,u.oneCell'=true)
  (hbytes:(n+m)*i.bytes<=140737488355328) (hlen:n+m<=maxLen):
  ∃xs b cap cur w',(Builtin.append_ #[t,t'] ty #[u, .int kq (m:Int)]).run P w= .ok (.slice (some ⟨b,0,none⟩) (n+m) cap) w'/\RV.listAt w k cells xs/\
   w'.heap[b]?=some (.cells cur e (0,0))/\n+m<=cap/\cap<=maxLen/\cap*sz<=cur.size/\cur.toList.take ((n+m)*sz)=xs++(Builtin.zeroCells z.cells m).toList/\w.grownBy w' ob/\(ob=some b\/b=w.heap.size)/\
   (∀b0,ob=some b0->(∃cur0,w.heap[b0]?=some (.cells cur0 e (0,0))/\cur0.toList.take (n*sz)=xs)/\(b=b0\/b=w.heap.size/\w'.heap[b0]?=w.heap[b0]?)):=by
 obtain⟨hcl,hch⟩:=hch
 have hmb:m*i.bytes<=140737488355328:=Nat.le_trans (Nat.mul_le_mul_right _ (Nat.le_add_left _ _)) hbytes
 have hl:(Builtin.zeroCells z.cells m).toList.length=m*sz:=by rw[Array.length_toList,size_zeroCells,hzl]
 rcases hch with⟨rfl,⟨rfl,p,rfl⟩ |⟨hn0,h,_⟩⟩ |⟨b,cap,cur,rfl,rfl,hh,hnc,hcm,hcs,hkb,hlist⟩
 ·omega
 ·cases h
 have hxl:(cur.toList.take (n*sz)).length=n*sz:=by rw[zay hlist,hcl]
 have hlt:b<w.heap.size:=(Array.getElem?_eq_some_iff.1 hh).1
 rcases Nat.eq_zero_or_pos m with rfl |hm
 ·have hr:=zpt (P:=P) w t t' ty e i kq kn ht hu hi b n cap hnc
  refine⟨_,b,cap,cur,w,hr,hlist,hh,hnc,hcm,hcs,?_,⟨rfl,rfl,rfl,Nat.le_refl _,λ_ _ _=>rfl⟩, .inl rfl,λb0 hb0=>?_⟩
  ·rw[List.eq_nil_of_length_eq_zero (l:=(Builtin.zeroCells z.cells 0).toList) (by rw[hl];omega),List.append_nil,Nat.add_zero]
  ·cases hb0;exact⟨⟨cur,hh,rfl⟩, .inl rfl⟩
 ·by_cases hfit:n+m<=cap
  ·have hle:(n+m)*sz<=cur.size:=Nat.le_trans (Nat.mul_le_mul_right _ hfit) hcs
   have hr:=zps (P:=P) w t t' ty e i z kq kn ht hu hi hz hs0 hsize hzl h1 b n cap cur hh hm hfit hle hmb (by unfold maxLen at hlen;omega)
   refine⟨_,b,cap,_,_,hr,hlist,setRow_heap w b cur _ e (0,0) hh,hfit,hcm,?_,?_,⟨rfl,rfl,rfl,by simp[World.setRow],λx hx hne=>setRow_other w b x _ (λh=>hne (by rw[h]))⟩, .inl rfl,λb0 hb0=>?_⟩
   ·rw[Nat.add_mul]at hle
    simp only[List.size_toArray,aL,List.length_take,hl,List.length_drop,Array.length_toList]
    omega
   ·rw[show(n+m)*sz=(cur.toList.take (n*sz)++(Builtin.zeroCells z.cells m).toList).length by rw[aL,hxl,hl,Nat.add_mul],List.toList_toArray]
    exact List.take_left
   ·cases hb0
    exact⟨⟨cur,hh,rfl⟩, .inl rfl⟩
  ·have hr:=Lib.run_append_grow_zeros (P:=P) w t t' ty e i z kq kn ht hu hi hz (some ⟨b,0,none⟩) n cap (cur.toList.take (n*sz)) (run_firstCells_some (P:=P) w.drew i.size n ⟨b,0,none⟩ n cap (cur.toList.take (n*sz)) (by rw[hsize,hxl]) (by
    have hc: ∀j v,(cur.toList.take (n*sz))[j]?=some v->w.cell? ((⟨b,0,none⟩:Addr).add j)=some v:=λj v hj=>by
     rw[Addr.add_mid,Nat.zero_add,cell_of_row w b j cur e (0,0) hh]
     rw[List.getElem?_take]at hj
     split at hj
     ·simpa using hj
     ·cases hj
    simpa using hc)) m hm (by rw[hsize];exact hs0) (by omega) (by unfold maxLen at hlen;omega) (Nat.le_trans hmb (by decide)) (growslice_fits (by omega) hbytes)
   have hge:=grownCap_ge w (n+m) cap e
   refine⟨_,w.heap.size,_,_,_,hr,hlist,heap_alloc_new w.drew _,hge,grownCap_le_maxLen w (n+m) cap e hlen,?_,?_,⟨rfl,rfl,rfl,by simp,λk hk _=>Below.heap_alloc w.drew _ k hk⟩, .inr rfl,λb0 hb0=>?_⟩
   ·simp only[Array.size_append,List.size_toArray,size_zeroCells,hzl,hxl]
    rw[<-Nat.add_mul,<-Nat.add_mul]
    exact Nat.mul_le_mul_right _ (by omega)
   ·simp only[Array.toList_append]
    rw[show(n+m)*sz=(cur.toList.take (n*sz)++(Builtin.zeroCells z.cells m).toList).length by rw[aL,hxl,hl,Nat.add_mul]]
    exact List.take_left
   ·cases hb0
    exact⟨⟨cur,hh,rfl⟩, .inr ⟨rfl,Below.heap_alloc w.drew _ b hlt⟩⟩
theorem zcrb(z:Array Value)(m:Nat):Builtin.zeroCells z m=madeCells z (m*z.size):=rfl
theorem Vstep.appZN{x y:Operand}{t t' e:TypeId}{ti te ts:TI}{kn kq:IntKind}{id:Nat}{n:Nat}{cells:List RV}{m:Nat}{K:St->Prop}(hT:TOk P T)
  (hop:o.op= .call {callee:= .builtin .append,args:= #[x,y],argTypes:= #[t,t']}) (hti:tget T t=some ti) (hk:ti.k= .slice e) (hte:tget T e=some te) (hs0:0<te.sz) (hts:tget T t'=some ts) (hks:ts.k= .int kn)
  (hx:opr S x=some (.own id)) (ho:oget S.O id=some (.ch e te.sz n cells false)) (hy:opr S y=some (.r (.i kq (m:Int)))) (hn:0<n) (hlen:n+m<=maxLen) (hbytes:(n+m)*te.bytes<=140737488355328)
  (hK:newK (S.set id none) o.dst (.r .any) (some (.ch e te.sz (n+m) (cells++(List.replicate m (te.zero.map ofC)).flatten) false)) K):Vstep P S o K:=by
 rw[zat]at hK
 refine Vstep.one (S':=(S.strike (some id)).mk_ o.dst (.ch e te.sz (n+m) (cells++(List.replicate m (te.zero.map ofC)).flatten) false)) ?_ hK
 rintro B N a w k Q ⟨g,hs⟩ hd
 obtain⟨q,hq⟩:=hT.get hti
 obtain⟨d,hdd,hko,_⟩:=q.desc
 rw[hq,hk]at*
 simp only[KOk]at hko
 subst hko
 obtain⟨qe,hqe⟩:=hT.get hte
 obtain⟨i,hi,hsz,hby,z,hz,hzc⟩:=qe.info
 rw[hqe]at hi
 obtain⟨qs,hqs⟩:=hT.get hts
 obtain⟨ds,hds,hkos,_⟩:=qs.desc
 rw[hqs,hks]at*
 simp only[KOk]at hkos
 subst hkos
 have hy':=(zag hs hy).2
 simp only[TF.at_,RV.at_]at hy'
 have hxv:=(zag hs hx).2
 simp only[TF.at_]at hxv
 obtain⟨_,_,hch,_⟩:=hs.owns id _ ho
 simp only[Ow.at_]at hch
 rw[<-hxv]at hch
 have run: ∀{v:Value} {w':World},(Builtin.append_ #[t,t'] o.type #[a.eval x, .int kq (m:Int)]).run P w= .ok v w'->(execOp a.eval o).run P w= .ok (.value v) w':=λ{v w'} hr=>by
  simp[execOp,hop,resolve,invoke,builtin,hy',hr]
 have hzs:z.cells.size=te.sz:=by rw[<-Array.length_toList,hzc];exact qe.zsz
 have hat:=zse (w:=w) (k:=k) qe hzc m
 have hmc:Builtin.zeroCells z.cells m=madeCells z.cells (m*te.sz):=by rw[zcrb,hzs]
 rw[<-hmc]at hat
 have h1: ∀u∈(Builtin.zeroCells z.cells m).toList,u.oneCell'=true:=λu hu=>by
  rw[RV.listAt_iff]at hat
  obtain⟨j,hj⟩:=List.getElem?_of_mem hu
  have hjl:j< ((List.replicate m (te.zero.map ofC)).flatten).length:=by rw[<-hat.1];exact(List.getElem?_eq_some_iff.1 hj).1
  exact(hat.2 j _ u (List.getElem?_eq_getElem hjl) hj).1
 obtain⟨xs,b,cap,cur,w',hrun,hxs,hh,h2,h3,h4,h5,hgr,hbb,hb0⟩:=zud (ty:=o.type) (kq:=kq) hdd hds hi hz hs0 hsz hzs hch hn m h1 (by rw[hby];exact hbytes) hlen
 obtain⟨k',hsat⟩:=znq (o:=o) (id:=some id) hs hd hch ⟨⟨_,ho⟩,rfl⟩ hat (by rw[Array.length_toList,size_zeroCells,hzs]) hxs hh h2 h3 h4 h5 hgr hbb hb0
 exact za0 (run hrun) ⟨k',hsat⟩
end
def zb1(x i:Int):Bool:=decide (x≠2*i)&&zb3 (2*i) x
theorem zmm(x i:Int)(hi:0<=i/\i<=1000000):aG 56 [I x,I i] (.r (.b (zb1 x i))):=by
 refine aT Tryz.func56 rfl ?_
 refine zd rfl (by omega) ?_
 refine zh (λh=>?_) (λh=>?_)
 ·simp only[zb]at h
  refine zd rfl (by omega) ?_
  refine ze (zi6 (2*i) x) ?_
  exact zf (congrArg RV.b (by rw[zb1,decide_eq_true h];rfl))
 ·simp only[zb]at h
  exact zf (congrArg RV.b (by rw[zb1,decide_eq_false (by omega)];rfl))
def zbs(l:List Int)(x:Int)(n:Nat):List Int:=(l.take n).filter λy=>decide (y<x)
def zh3(l:List Int)(x:Int)(n:Nat):List Int:=(l.take n).filter λy=>decide (x<y)
def putQ(l:List Int)(x:Int)(n:Nat):List Int:=zbs l x l.length++[x]++zh3 l x n
def putI(l:List Int)(x:Int):List Int:=putQ l x l.length
theorem zmi{α:Type}{p:α->Bool}{l:List α}{j:Nat}(hj:j<l.length):(l.take (j+1)).filter p=if p l[j]then(l.take j).filter p++[l[j]]else(l.take j).filter p:=by
 rw[List.take_succ_eq_append_getElem hj,List.filter_append]
 cases h:p l[j]<;>simp[h]
theorem zf6{α:Type}(p:α->Bool)(l:List α)(j:Nat):((l.take j).filter p).length<=j:=Nat.le_trans (List.length_filter_le _ _) (by simp;omega)
theorem zzh(l:List Int)(x:Int)(hl:l.length<=1000000):aG 57 [is l,I x] (.r (is (putI l x))):=by
 refine aT Tryz.func57 rfl ?_
 refine Vloop.mk' (λj:Nat=>{F:=[(0, .r (is l)),(1, .r (I x)),(5, .own 0),(6, .r (I j))],O:=[(0,some (.ch 3 1 (zbs l x j).length ((zbs l x j).map I) true))],nx:=1}) (λj=>j<=l.length) (λj=>l.length-j) 0 (by omega)
  ((zcd 5 3 1 rfl).trans (zac [(0,0)] rfl ⟨cr,cr,rfl,cr,trivial⟩ ⟨⟨rfl,rfl,rfl,rfl,zn _⟩,trivial⟩)) ?_
 ·intro j hj
  have hbl:=zf6 (λy=>decide (y<x)) l j
  refine zh (λh=>zq ?_) (λh=>zt ?_)
  ·simp only[zb]at h
   have hj':j<l.length:=by omega
   refine zm (by omega) (by omega) (zan rfl hj') (zg rfl ?_)
   have es:=zmi (p:=λy=>decide (y<x)) hj'
   refine zh (λh2=>zq ?_) (λh2=>zt ?_)
   ·simp only[zb]at h2
    have e:zbs l x (j+1)=zbs l x j++[l[j]]:=by unfold zbs;rw[es,if_pos (by simpa using h2)]
    refine zm (by omega) (by omega) (zan rfl hj') (zg rfl ?_)
    refine zy ?_
    refine Vapp.mk' (j:=(zbs l x (j+1)).length) (zs:=(zbs l x (j+1)).map I) (by show(zbs l x j).length+1<=maxLen;simp only[maxLen,zbs];omega) (by show((zbs l x j).length+1)*8<=_;unfold zbs;omega) (by rw[e];simp) (by rw[e];simp[zbx,cellsOf]) ?_
    refine zd (m:=((j+1:Nat):Int)) (by omega) (by omega) ?_
    exact⟨j+1,by omega,by omega,zac [(0,_)] rfl ⟨cr,cr,rfl,cr,trivial⟩ ⟨zf2 rfl,trivial⟩⟩
   ·simp only[zb]at h2
    have e:zbs l x (j+1)=zbs l x j:=by unfold zbs;rw[es,if_neg (by simpa using h2)]
    refine zd (m:=((j+1:Nat):Int)) (by omega) (by omega) ?_
    exact⟨j+1,by omega,by omega,zac [(0,0)] rfl ⟨cr,cr,rfl,cr,trivial⟩ ⟨zf2 e.symm,trivial⟩⟩
  ·simp only[zb]at h
   obtain rfl:j=l.length:=by omega
   have e0:putQ l x 0=zbs l x l.length++[x]:=by simp[putQ,zh3]
   refine zy ?_
   refine Vapp.mk' (j:=(putQ l x 0).length) (zs:=(putQ l x 0).map I) (by show(zbs l x l.length).length+1<=maxLen;simp only[maxLen,zbs];omega) (by show((zbs l x l.length).length+1)*8<=_;unfold zbs;omega) (by rw[e0];simp) (by rw[e0];simp[zbx,cellsOf]) ?_
   refine Vloop.mk' (λj:Nat=>{F:=[(0, .r (is l)),(1, .r (I x)),(5, .own 0),(7, .r (I j))],O:=[(0,some (.ch 3 1 (putQ l x j).length ((putQ l x j).map I) true))],nx:=1}) (λj=>j<=l.length) (λj=>l.length-j) 0 (by omega)
    (zac [(0,_)] rfl ⟨cr,cr,rfl,cr,trivial⟩ ⟨zf2 rfl,trivial⟩) ?_
   intro j hj
   have hpl:(putQ l x j).length<=2000001:=by
    have h1:=zf6 (λy=>decide (y<x)) l l.length
    have h2:=zf6 (λy=>decide (x<y)) l j
    simp only[putQ,zbs,zh3,aL,List.length_cons,List.length_nil]
    omega
   refine zh (λh=>zq ?_) (λh=>zt ?_)
   ·simp only[zb]at h
    have hj':j<l.length:=by omega
    refine zm (by omega) (by omega) (zan rfl hj') (zg rfl ?_)
    have es:=zmi (p:=λy=>decide (x<y)) hj'
    refine zh (λh2=>zq ?_) (λh2=>zt ?_)
    ·simp only[zb]at h2
     have e:putQ l x (j+1)=putQ l x j++[l[j]]:=by unfold putQ zh3;rw[es,if_pos (by simpa using h2),List.append_assoc,List.append_assoc,List.append_assoc]
     refine zm (by omega) (by omega) (zan rfl hj') (zg rfl ?_)
     refine zy ?_
     refine Vapp.mk' (j:=(putQ l x (j+1)).length) (zs:=(putQ l x (j+1)).map I) (by show(putQ l x j).length+1<=maxLen;simp only[maxLen];omega) (by show((putQ l x j).length+1)*8<=_;omega) (by rw[e];simp) (by rw[e];simp[zbx,cellsOf]) ?_
     refine zd (m:=((j+1:Nat):Int)) (by omega) (by omega) ?_
     exact⟨j+1,by omega,by omega,zac [(0,_)] rfl ⟨cr,cr,rfl,cr,trivial⟩ ⟨zf2 rfl,trivial⟩⟩
    ·simp only[zb]at h2
     have e:putQ l x (j+1)=putQ l x j:=by unfold putQ zh3;rw[es,if_neg (by simpa using h2)]
     refine zd (m:=((j+1:Nat):Int)) (by omega) (by omega) ?_
     exact⟨j+1,by omega,by omega,zac [(0,0)] rfl ⟨cr,cr,rfl,cr,trivial⟩ ⟨zf2 e.symm,trivial⟩⟩
   ·simp only[zb]at h
    obtain rfl:j=l.length:=by omega
    exact cr
theorem Cvs.appC: ∀{a b c d:List RV},Cvs a b->Cvs c d->Cvs (a++c) (b++d)
 |[],b,c,d,h,h'=>by simp only[Cvs]at h;subst h;exact h'
 |x::a,b,c,d,h,h'=>by
  simp only[Cvs]at h
  obtain⟨g,r,rfl,h1,h2⟩:=h
  exact zk h1 (Cvs.appC h2 h')
theorem zcC:Cvs zc Node.zero.c:=zk (cr) (zk (Cv.nil 1) (zk (Cv.nil 1) (zk (Cv.nil 1) (zk (cr) (zk (Cv.nil 1) (zk (Cv.nil 1) (zk (Cv.nil 1) (zk (Cv.nil 1) (zk (Cv.nil 1) Cvs.nil)))))))))
def setN(t:List Node)(i:Int)(y:Node)(n:Nat):List Node:=(List.range n).map λj:Nat=>if(j:Int)=2*i then y else if zb1 j i then Node.zero else nT t j
def setT(t:List Node)(i:Int)(y:Node):List Node:=setN t i y t.length
theorem z5n(t:List Node)(i:Int)(y:Node)(n:Nat):setN t i y (n+1)=setN t i y n++[if(n:Int)=2*i then y else if zb1 n i then Node.zero else nT t n]:=by
 unfold setN;rw[List.range_succ,List.map_append];rfl
theorem zxv(t:List Node)(i:Int)(y:Node)(n:Nat):(setN t i y n).length=n:=by simp[setN]
theorem zzi(t:List Node)(i:Int)(y:Node)(ht:t.length<=1000000)(hi:0<=i/\i<=1000000):aG 24 [nods t,I i, .ag y.c] (.r (nods (setT t i y))):=by
 refine aT Tryz.func24 rfl ?_
 refine Vloop.mk' (λj:Nat=>{F:=[(0, .r (nods t)),(1, .r (I i)),(5, .own 1),(7, .own 0),(8, .r (I j))],O:=[(0,some (.ch 60 10 (setN t i y j).length ((setN t i y j).flatMap Node.c) true)),(1,some (.box (y.c.map .r)))],nx:=2}) (λj=>j<=t.length) (λj=>t.length-j) 0 (by omega)
  ((zcd 7 60 10 rfl).trans (zac [(0,1),(1,0)] rfl ⟨cr,cr,rfl,rfl,cr,trivial⟩ ⟨⟨rfl,rfl,rfl,rfl,zn _⟩,zad y.c,trivial⟩)) ?_
 intro j hj
 have hsl:=zxv t i y j
 have es:=z5n t i y j
 refine zh (λh=>zq ?_) (λh=>zt ?_)
 ·simp only[zb]at h
  have hj':j<t.length:=by omega
  have app: ∀z:Node,setN t i y (j+1)=setN t i y j++[z]->(setN t i y j).flatMap Node.c++z.c=(setN t i y (j+1)).flatMap Node.c:=λz e=>by rw[e,List.flatMap_append];simp
  refine zd rfl (by omega) ?_
  refine zh (λh2=>zq ?_) (λh2=>zt ?_)
  ·simp only[zb]at h2
   rw[if_pos h2]at es
   refine za rfl rfl ?_
   refine zy ?_
   refine Vapp.mk' (j:=(setN t i y (j+1)).length) (zs:=(setN t i y (j+1)).flatMap Node.c) (by show(setN t i y j).length+1<=maxLen;simp only[maxLen];omega) (by show((setN t i y j).length+1)*208<=_;omega) (by rw[es];simp) (app _ es) ?_
   refine zd (m:=((j+1:Nat):Int)) (by omega) (by omega) ?_
   exact⟨j+1,by omega,by omega,zac [(0,_),(1,1)] rfl ⟨cr,cr,rfl,rfl,cr,trivial⟩ ⟨⟨rfl,rfl,rfl,rfl,zn _⟩,zad y.c,trivial⟩⟩
  simp only[zb]at h2
  rw[if_neg h2]at es
  refine Vcall.bool (zmm (j:Int) i hi) (λh3=>zq ?_) (λh3=>zt ?_)
  ·rw[if_pos h3]at es
   refine zy ?_
   refine Vapp.mk' (j:=(setN t i y (j+1)).length) (zs:=(setN t i y j).flatMap Node.c++zc) (by show(setN t i y j).length+1<=maxLen;simp only[maxLen];omega) (by show((setN t i y j).length+1)*208<=_;omega) (by rw[es];simp) rfl ?_
   refine zd (m:=((j+1:Nat):Int)) (by omega) (by omega) ?_
   exact⟨j+1,by omega,by omega,zac [(0,_),(1,1)] rfl ⟨cr,cr,rfl,rfl,cr,trivial⟩ ⟨⟨rfl,rfl,rfl,rfl,by rw[es,List.flatMap_append];exact Cvs.appC (zn _) (by rw[List.flatMap_cons,List.flatMap_nil,List.append_nil];exact zcC)⟩,zad y.c,trivial⟩⟩
  ·rw[if_neg (by rw[h3];simp)]at es
   refine zm (by omega) (by omega) (zbf rfl hj') ?_
   refine za rfl rfl ?_
   refine zy ?_
   refine Vapp.mk' (j:=(setN t i y (j+1)).length) (zs:=(setN t i y (j+1)).flatMap Node.c) (by show(setN t i y j).length+1<=maxLen;simp only[maxLen];omega) (by show((setN t i y j).length+1)*208<=_;omega) (by rw[es];simp) (app _ es) ?_
   refine zd (m:=((j+1:Nat):Int)) (by omega) (by omega) ?_
   exact⟨j+1,by omega,by omega,zac [(0,_),(1,1)] rfl ⟨cr,cr,rfl,rfl,cr,trivial⟩ ⟨⟨rfl,rfl,rfl,rfl,zn _⟩,zad y.c,trivial⟩⟩
 ·simp only[zb]at h
  obtain rfl:j=t.length:=by omega
  exact cr
def upTo(q:Int):Nat->Nat->Nat
 |0,n=>n
 |f+1,n=>if(n:Int)<=q then upTo q f (2*n)else n
def zfj(t:List Node):Int:=(zaf t).getLast?.getD (-1)
def cutN(t:List Node):Nat:=upTo (zfj t) 20 1
def cutT(t:List Node):List Node:=t.take (2*cutN t-1)
theorem zagb(t:List Node)(h1:t.length<=1000000)(hc:2*cutN t-1<=t.length):aG 25 [nods t] (.r (nods (cutT t))):=by
 refine aT Tryz.func25 rfl ?_
 refine ze (zjp t h1) ?_
 have hml:=zet t ((t.length+1)/2)
 have hlt:zfj t<=500000:=by
  unfold zfj
  cases h:(zaf t).getLast? with
  |none=>show(-1:Int)<=_;omega
  |some q=>
   obtain⟨o,e,ho,_⟩:=za8 (List.mem_of_getLast? h)
   show q<=_
   omega
 have hlast:0< (zaf t).length->(zaf t)[(zaf t).length-1]?=some (zfj t):=λh=>by
  unfold zfj
  rw[List.getLast?_eq_getElem?,List.getElem?_eq_getElem (by omega)]
  rfl
 have hnil:(zaf t).length=0->zfj t= -1:=λh=>by
  unfold zfj
  rw[List.length_eq_zero_iff.1 h]
  rfl
 have hN:upTo (zfj t) 20 1=cutN t:=rfl
 have hct:nods (cutT t)= .sl 10 (2*cutN t-1) ((t.take (2*cutN t-1)).flatMap Node.c):=by
  unfold cutT nods
  rw[List.length_take,Nat.min_eq_left hc]
 rw[hct]
 replace hml:(zaf t).length<=(t.length+1)/2:=hml
 generalize zaf t=m at*
 generalize zfj t=q at*
 generalize cutN t=N at*
 refine Vloop.mk' (λi:Nat×Nat=>{F:=[(0, .r (nods t)),(3, .r (is m)),(4, .r (I i.1))],O:=[],nx:=0}) (λi=>upTo q i.2 i.1=N/\i.1*2^i.2=1048576/\1<=i.1) (λi=>i.2) (1,20) ⟨hN,by decide,by decide⟩ (zac [] rfl ⟨cr,cr,cr,trivial⟩ trivial) ?_
 rintro⟨n,f⟩ ⟨e1,e2,e3⟩
 dsimp only at e1 e2 e3
 have hn:n<=1048576:=by
  have:=Nat.le_mul_of_pos_right n (zai f)
  omega
 have more:(n:Int)<=q->∃g,f=g+1/\upTo q g (2*n)=N/\(2*n)*2^g=1048576:=λh=>by
  cases f with
  |zero=>simp at e2;omega
  |succ g=>
   rw[upTo,if_pos h]at e1
   exact⟨g,rfl,e1,by rw[<-e2,Nat.pow_succ];simp[Nat.mul_comm,Nat.mul_left_comm,Nat.mul_assoc]⟩
 have less: ¬(n:Int)<=q->n=N:=λh=>by
  cases f with
  |zero=>exact e1
  |succ g=>rw[upTo,if_neg h]at e1;exact e1
 have fin:n=N->Vcut ((0:Nat):Int) (2*(n:Int)-1) 10 t.length (t.flatMap Node.c) (λm' cs=>Cv (RV.sl 10 m' cs) (.sl 10 (2*N-1) ((t.take (2*N-1)).flatMap Node.c))):=λe=>by
  clear hN hct hlast hnil more less e1
  subst e
  refine⟨by omega,by omega,by omega,2*n-1,(t.take (2*n-1)).flatMap Node.c,by omega,?_,cr⟩
  rw[show((0:Nat):Int).toNat*10=0 by simp,List.drop_zero]
  exact zji (f:=Node.c) (sz:=10) (λ_=>rfl) t _
 refine zh (λh=>?_) (λh=>?_)
 ·simp only[zb]at h
  have hl0:0<m.length:=by omega
  refine zd (m:=((m.length-1:Nat):Int)) (by omega) (by omega) ?_
  refine zm (by omega) (by omega) (zan rfl (show m.length-1<_ by omega)) (zg rfl ?_)
  have el:=hlast hl0
  rw[List.getElem?_eq_getElem (by omega)]at el
  rw[Option.some.inj el]
  refine zh (λh2=>zq ?_) (λh2=>zt ?_)
  ·simp only[zb]at h2
   obtain⟨g,rfl,e4,e5⟩:=more h2
   refine zd (m:=((2*n:Nat):Int)) (by omega) (by omega) ?_
   exact⟨(2*n,g),⟨e4,e5,by dsimp only;omega⟩,by dsimp only;omega,zac [] rfl ⟨cr,cr,cr,trivial⟩ trivial⟩
  ·simp only[zb]at h2
   have e:=less h2
   refine zd rfl (by omega) (zd rfl (by omega) ?_)
   exact fin e
 ·simp only[zb]at h
  have e:=less (by rw[hnil (by omega)];omega)
  refine zt ?_
  refine zd rfl (by omega) (zd rfl (by omega) ?_)
  exact fin e
end Go.Proofs.YtpcfoglfakeimaaGreat.Sx
