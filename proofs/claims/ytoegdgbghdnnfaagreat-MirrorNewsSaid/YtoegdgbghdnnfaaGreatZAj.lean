import Derived.Test.YtoegdgbghdnnfaaGreatZKc
import Derived.Test.YtoegdgbghdnnfaaGreatZSxNm
import Derived.Test.YtoegdgbghdnnfaaGreatZHp
import Derived.Test.YtoegdgbghdnnfaaGreatZOnes
import Derived.Test.YtoegdgbghdnnfaaGreatZAa
import Derived.Test.YtoegdgbghdnnfaaGreatZSxPt
import Derived.Test.YtoegdgbghdnnfaaGreatZKq
import Derived.Test.YtoegdgbghdnnfaaGreatZAb
import Derived.Test.YtoegdgbghdnnfaaGreatZAi
import Derived.Test.YtoegdgbghdnnfaaGreatZGf
import Derived.Test.YtoegdgbghdnnfaaGreatZIi
import Derived.Test.YtoegdgbghdnnfaaGreatZTi
import Derived.Test.YtoegdgbghdnnfaaGreatZLa
import Derived.Test.YtoegdgbghdnnfaaGreatZHh
namespace Go.Proofs.YtoegdgbghdnnfaaGreat.Sx
open Go.RowKit
def upTo(q:Int):Nat->Nat->Nat
 |0,n=>n
 |f+1,n=>if(n:Int)<=q then upTo q f (2*n)else n
section
variable {P:Program} {T:TT} {B:Bs} {N:Nat} {S:St} {a:Act} {w:World} {k:Kp} {g:Env} {o:Oper} {Q:Exit->Act->World->Prop}
theorem beqB(x y:List UInt8):((⟨x.toArray⟩:ByteArray)==⟨y.toArray⟩)=decide (x=y):=by
 show((x.toArray:Array UInt8)==y.toArray)=_
 by_cases h:x=y
 ·subst h;simp
 ·simp[h]
variable {α:Type} [DecidableEq α] {q:α->Value}
end
abbrev nodC(l:List RV)(n:Nat):Ow:= .ch 61 10 n l false
theorem zdub(t:List Node)(ht:t.length<=1000000)(hfit: ∀x∈t,x.fit):bG 29 [nods t] (.own 61 10 t.length (t.flatMap Node.c)):=by
 refine bT Tryz.func29 rfl ?_
 refine Vloop.mk' (λj:Nat=>⟨[(3, .own 0),(6, .r (nods t)),(7, .r (I t.length)),(8, .r (I j))],[(0,some (nodC ((t.take j).flatMap Node.c) (t.take j).length))],1⟩) (λj=>j<=t.length) (λj=>t.length-j) 0 (by omega)
  ((zjc 3 61 10 rfl).trans (zac [(0,0)] rfl ⟨rfl,cr,cr,cr,trivial⟩ ⟨⟨rfl,rfl,rfl,rfl,zn _⟩,trivial⟩)) ?_
 intro j hj
 refine zh (λh=>zq ?_) (λh=>zt ?_)
 ·simp only[zb]at h
  have hj':j<t.length:=by omega
  have hx:=hfit _ (zci hj')
  have hlt:(t.take j).length=j:=by rw[List.length_take];omega
  have e:t.take (j+1)=t.take j++[nT t j]:=by rw[List.take_succ_eq_append_getElem hj',zh9 hj']
  refine zm (by omega) (by omega) (zbs rfl hj') ?_
  refine za rfl rfl ?_
  refine za rfl rfl ?_
  refine ze (zk1 (nT t j) hx (zdu _ hx.1)) ?_
  refine zy ?_
  refine Vapp.mk' (j:=(t.take (j+1)).length) (zs:=(t.take (j+1)).flatMap Node.c) (by show(t.take j).length+1<=maxLen;simp only[maxLen];omega) (by show((t.take j).length+1)*208<=_;omega) (by rw[e];simp) (by rw[e,List.flatMap_append];simp) ?_
  refine zd (m:=((j+1:Nat):Int)) (by omega) (by omega) ?_
  exact⟨j+1,by omega,by omega,zac [(0,_)] rfl ⟨rfl,cr,cr,cr,trivial⟩ ⟨⟨rfl,rfl,rfl,rfl,zn _⟩,trivial⟩⟩
 ·simp only[zb]at h
  obtain rfl:j=t.length:=by omega
  rw[List.take_length]
  exact rfl
theorem zfp{t:List Node}{i:Int}:i∈zbh t↔∃o:Nat,i=(o:Int)/\o< (t.length+1)/2/\(nT t (2*o)).kind.toNat=1:=by
 refine⟨z0i,?_⟩
 rintro⟨o,rfl,h1,h2⟩
 simp only[zbh,zcd,List.mem_map,List.mem_filter,List.mem_range,decide_eq_true_eq]
 exact⟨o,⟨h1,h2⟩,rfl⟩
theorem zu8(t:List Node)(i:Int)(ht:t.length<=1000000)(hn:zat t≠0):bG 157 [nods t,I i] (.r (.b (decide (i∈zbh t)))):=by
 obtain⟨hl1,hl2,hl3⟩:=zff hn
 have hb:=zdc hl2
 have no: ¬i∈zbh t->Cv (.b false) (.b (decide (i∈zbh t))):=λh=>zf (congrArg RV.b (decide_eq_false h).symm)
 refine bT Tryz.func157 rfl ?_
 refine zh (λh=>?_) (λh=>no λk=>?_)
 rotate_left
 ·simp only[zb]at h
  obtain⟨o,rfl,_⟩:=zfp.1 k
  omega
 simp only[zb]at h
 refine ze (znu t ht) ?_
 refine zh (λh2=>?_) (λh2=>no λk=>?_)
 rotate_left
 ·simp only[zb]at h2
  obtain⟨o,rfl,h3,_⟩:=zfp.1 k
  omega
 simp only[zb]at h2
 obtain⟨o,rfl⟩: ∃o:Nat,i=(o:Int):=⟨i.toNat,by omega⟩
 refine zd rfl (by omega) ?_
 refine zm (by omega) (by omega) (zbs (j:=2*o) (by omega) (by omega)) (zg rfl ?_)
 refine zh (λh3=>?_) (λh3=>no λk=>?_)
 ·simp only[zb]at h3
  exact zf (congrArg RV.b (decide_eq_true (zfp.2 ⟨o,rfl,by omega,by omega⟩)).symm)
 ·simp only[zb]at h3
  obtain⟨o',e,_,h4⟩:=zfp.1 k
  obtain rfl:o'=o:=by omega
  omega
theorem z16{l:List Int}(h:l.Pairwise (· < ·)){j:Nat}(hj:j<l.length):l[j]∉l.take j:=λhm=>by
 obtain⟨i,hi,e⟩:=List.mem_iff_getElem.1 hm
 rw[List.getElem_take]at e
 rw[List.length_take]at hi
 have:=List.pairwise_iff_getElem.1 h i j (by omega) hj (by omega)
 omega
theorem TreeOk.hash_at{t:List Node}{d:Nat}(k:TreeOk t d){x:Int}(hx:inR d 0 x):0<=x/\∃h:x.toNat< (allH t d).length,(allH t d)[x.toNat]=zi4 t x:=by
 have hlen:=k.len
 have hx':=hx
 unfold inR at hx'
 rw[Nat.zero_mul]at hx'
 have hlt:x.toNat< (allH t d).length:=by rw[zw5];omega
 refine⟨by omega,hlt,?_⟩
 have e2:2^(d+1)=2*2^d:=by rw[Nat.pow_succ];omega
 obtain⟨d',h,q,hd',e,hh,hk,rfl⟩:=ze6 (x:=x) (n:=((2^d:Nat):Int)) (ze5.2 ⟨zce d k.hd,by omega⟩)
 have e':d'=d:=z2b (by exact_mod_cast e.symm)
 subst e'
 have hat:=z0v hlen hx
 rw[zx3 t (by omega) (lt16 hd' hk)]
 have hat':(allH t d')[((nd h q:Nat):Int).toNat]?=some (zas t h q):=by rw[Int.toNat_natCast];exact hat
 rw[List.getElem?_eq_getElem hlt]at hat'
 exact Option.some.inj hat'
section
variable {t:List Node} {d o:Nat} (k:TreeOk t d) (ht:t.length<=1000000) (hr:rightT t=true)
include k in
theorem z4l(x:Int)(n:Node)(h:zaf (zan t t.length) x=some n):n.par.late.length<=100000000/\∀u∈n.par.late,za6 u:=by
 obtain⟨sp,hsp,_,rfl⟩:=zej h
 simp only[zan,List.mem_map,List.mem_range]at hsp
 obtain⟨i,hi,rfl⟩:=hsp
 have hr:=k.right _ (zci hi)
 exact⟨Nat.le_trans (Node.late_lenC hr) (by decide),Node.right_late hr⟩
include k ht hr in
theorem za0b(i:Int)(hm:i∈zbh t):bG 110 [nods t,I i] (.r (.tu [.ag (nT t (2*i).toNat).leaf.c, .b true])):=by
 have c1:=zjx t ht k.fit
 rw[hr]at c1
 have c2:=zu8 t i ht (zeq.1 hr).n
 rw[decide_eq_true hm]at c2
 obtain⟨o,rfl,h1,h2⟩:=zfp.1 hm
 have hlen:=k.len
 have e2:2^(d+1)=2*2^d:=by rw[Nat.pow_succ];omega
 have hlt:2*o<t.length:=by omega
 have hf:=k.fit _ (zci hlt)
 rw[show(2*(o:Int)).toNat=2*o by omega]
 refine bT Tryz.func110 rfl ?_
 refine ze c1 ?_
 refine zw rfl ?_
 refine ze c2 ?_
 refine zw rfl (zt ?_)
 refine zd (m:=((2*o:Nat):Int)) (by omega) (by omega) ?_
 refine zm (by omega) (by omega) (zbs rfl hlt) ?_
 refine za rfl rfl ?_
 refine ze (zk1 _ hf (zdu _ hf.1)) ?_
 refine Vsem.fieldN Tab_ok rfl rfl rfl rfl rfl rfl rfl (Nat.le_of_ble_eq_true rfl) rfl ?_
 refine za rfl rfl ?_
 exact⟨_,rfl,cr⟩
abbrev zi5b:RV:= .ag [nl,nl,nl, .i .u8 0,nl,nl]
include k ht hr in
theorem z7n(i:Int)(hm:i∉zbh t):bG 110 [nods t,I i] (.r (.tu [zi5b, .b false])):=by
 have c1:=zjx t ht k.fit
 rw[hr]at c1
 have c2:=zu8 t i ht (zeq.1 hr).n
 rw[decide_eq_false hm]at c2
 refine bT Tryz.func110 rfl ?_
 refine ze c1 ?_
 refine zw rfl ?_
 refine ze c2 ?_
 refine zu rfl (zq ?_)
 refine za rfl rfl ?_
 exact⟨_,rfl,cr⟩
include k ht hr in
theorem zx0(i:Int)(only:Bool)(hm:i∉zbh t):bG 68 [nods t,I i, .b only] (.r (.tu [zyz,Er 7])):=by
 refine zar (T:=Tab) mixed Tab_ok Tryz.func68 rfl (by kernel_rfl) ?_
 refine ze (z3p k ht hr) ?_
 refine zw rfl (zt ?_)
 refine ze (z7n k ht hr i hm) ?_
 refine zu rfl (zq ?_)
 refine⟨_,zo _,?_⟩
 refine za rfl rfl ?_
 exact⟨_,rfl,cr⟩
set_option maxHeartbeats 4000000 in
include k ht hr in
theorem z1p(only:Bool)(K M:List Int)(ho:o<2^d)(hm:(o:Int)∈zbh t)(hv:visV (zan t t.length) (o:Int) only d 0 0 []=(K,M,true)):bG 68 [nods t,I o, .b only] (.r (.tu [(zc9 t d o K M).pr,Er 0])):=by
 have hw:=zf2 (zan t t.length) (o:Int) only d 0 0 []
 rw[hv]at hw
 obtain⟨⟨hK,hKr⟩,⟨hM,hMr⟩⟩:=hw
 simp only at hK hKr hM hMr
 have hlen:=k.len
 have hd:=k.hd
 have h16:=zc2 hd
 have e2:2^(d+1)=2*2^d:=by rw[Nat.pow_succ];omega
 have hop:=λp0=>zavb t p0 (z4l k) d hd (by omega) ((2^d:Nat):Int) (o:Int) rfl (by omega) only _ hv.symm
 simp only at hop
 have hl:=zfk (zan t t.length) (o:Int) only d 0 0 []
 rw[hv]at hl
 simp only at hl
 have hKl:K.length<=1000000:=by omega
 have hMl:M.length<=1000000:=by omega
 refine zar (T:=Tab) mixed Tab_ok Tryz.func68 rfl (by kernel_rfl) ?_
 refine ze (z3p k ht hr) ?_
 refine zw rfl (zt ?_)
 refine ze (za0b k ht hr o hm) ?_
 refine zw rfl (zt ?_)
 refine Vcode.run Tab_ok ?_
 refine zd (m:=((t.length+1:Nat):Int)) (by omega) (by omega) ?_
 refine⟨by decide,((2^d:Nat):Int),?_,?_⟩
 ·rw[Int.tdiv_eq_ediv_of_nonneg (by omega),show(((t.length+1:Nat):Int))/2=((2^d:Nat):Int)by omega]
  exact wrap_i64 (by omega)
 refine Vstep.mapMk 2000001 rfl λb1=>?_
 refine Vstep.mapMk 2000002 rfl λb2=>?_
 refine Vstep.nm 0 1000000 rfl λp0=>Vstep.mkfunX [p0] rfl ⟨_,_,rfl,⟨0,1000000,rfl,rfl⟩,rfl⟩ ?_
 refine zj [(0,0)] [0] (λvs hv=>za9 (by simp only[List.map];rw[hv 0 0 1000000 _ rfl rfl]) (hop p0)) (zi rfl ⟨_,_,rfl,cr,_,_,rfl,cr,_,_,rfl,cr,_,_,rfl,cr,rfl⟩) rfl ⟨(bA bZ),trivial⟩ ⟨zad,trivial⟩ ?_
 refine Vloop.mk' (λj:Nat=>⟨[(3, .own 0),(6, .own 1),(8, .r (bss (allH t d))),(12, .own 4),(14, .r (is M)),(56, .r (is K)),(57, .r (I K.length)),(58, .r (I j)),(2000001, .nm 2 (.map (some b1))),(2000002, .nm 3 (.map (some b2)))],[(0,some (.box [.r (nods t)])),(1,some (.box [.r (I 0), .r (I 0), .r (.x (.map none)), .r (.x (.map none))])),(2,some (.gen (mapO (zby ((K.take j).map (zbp t)))))),(3,some (.gen (mapO (zbx [])))),(4,some (.box [.r (I ((2^d:Nat):Int)), .r (I o), .r (.x (.map (some b1))), .r (.x (.map (some b2)))]))],5⟩) (λj=>j<=K.length) (λj=>K.length-j) 0 (by omega)
  (zac [(0,0),(1,1),(2,3),(3,4),(4,5)] rfl ⟨rfl,rfl,cr,rfl,cr,cr,cr,cr,⟨rfl,rfl⟩,⟨rfl,rfl⟩,trivial⟩ ⟨(bA bZ),(bC bZ),λ_ _ _ hh=>hh,λ_ _ _ hh=>hh,(bC bZ),trivial⟩) ?_
 intro j hj
 refine zh (λh=>zq ?_) (λh=>zt ?_)
 ·simp only[zb]at h
  have hj':j<K.length:=by omega
  have hx:=hKr _ (List.getElem_mem hj')
  unfold inR at hx
  rw[Nat.zero_mul]at hx
  have hsN:zby ((K.take (j+1)).map (zbp t))=zby ((K.take j).map (zbp t))++[(K[j], .ag (nT t K[j].toNat).c)]:=by rw[List.take_succ_eq_append_getElem hj',List.map_append];simp[zby,zbp]
  have hnew:K[j]∉(zby ((K.take j).map (zbp t))).map (·.1):=by
   rw[zi6,List.map_map,show((λx:Spot=>x.at_)∘zbp t)=id from rfl,List.map_id]
   exact z16 hK hj'
  refine zm (by omega) (by omega) (zaj rfl hj') (zg rfl ?_)
  refine bV ?_
  refine zm (by omega) (by omega) (zbs (j:=K[j].toNat) (by omega) (by omega)) ?_
  refine za rfl rfl ?_
  refine Vstep.mapPut 2 2000001 rfl rfl rfl rfl rfl rfl rfl zjp zje (zj0 hnew) ?_
  refine zd (m:=((j+1:Nat):Int)) (by omega) (by omega) ?_
  exact⟨j+1,by omega,by omega,zac [(0,0),(1,1),(2,2),(3,3),(4,4)] rfl ⟨rfl,rfl,cr,rfl,cr,cr,cr,cr,⟨rfl,rfl⟩,⟨rfl,rfl⟩,trivial⟩ ⟨(bA bZ),(bC bZ),λ_ _ _ hh=>by rw[hsN];exact hh,λ_ _ _ hh=>hh,(bC bZ),trivial⟩⟩
 simp only[zb]at h
 rw[List.take_of_length_le (by omega)]
 clear h hj
 refine Vloop.mk' (λj:Nat=>⟨[(6, .own 1),(8, .r (bss (allH t d))),(12, .own 4),(70, .r (is M)),(71, .r (I M.length)),(72, .r (I j)),(2000001, .nm 2 (.map (some b1))),(2000002, .nm 3 (.map (some b2)))],[(1,some (.box [.r (I 0), .r (I 0), .r (.x (.map none)), .r (.x (.map none))])),(2,some (.gen (mapO (zby (K.map (zbp t)))))),(3,some (.gen (mapO (zbx ((M.take j).map (zb8 t)))))),(4,some (.box [.r (I ((2^d:Nat):Int)), .r (I o), .r (.x (.map (some b1))), .r (.x (.map (some b2)))]))],5⟩) (λj=>j<=M.length) (λj=>M.length-j) 0 (by omega)
  (zac [(1,1),(2,2),(3,3),(4,4)] rfl ⟨rfl,cr,rfl,cr,cr,cr,⟨rfl,rfl⟩,⟨rfl,rfl⟩,trivial⟩ ⟨(bC bZ),λ_ _ _ hh=>hh,λ_ _ _ hh=>hh,(bC bZ),trivial⟩) ?_
 intro j hj
 refine zh (λh=>zq ?_) (λh=>zt ?_)
 ·simp only[zb]at h
  have hj':j<M.length:=by omega
  obtain⟨hx0,hxl,hxe⟩:=k.hash_at (hMr _ (List.getElem_mem hj'))
  have hsN:zbx ((M.take (j+1)).map (zb8 t))=zbx ((M.take j).map (zb8 t))++[(M[j],bs (zi4 t M[j]))]:=by rw[List.take_succ_eq_append_getElem hj',List.map_append];simp[zbx,zb8]
  have hnew:M[j]∉(zbx ((M.take j).map (zb8 t))).map (·.1):=by
   rw[zi3,List.map_map,show((λx:Stub=>x.at_)∘zb8 t)=id from rfl,List.map_id]
   exact z16 hM hj'
  refine zm (by omega) (by omega) (zaj rfl hj') (zg rfl ?_)
  refine bV ?_
  refine zm (by omega) (by omega) (zaj (by omega) hxl) (zg rfl ?_)
  rw[hxe]
  refine Vstep.mapPut 3 2000002 rfl rfl rfl rfl rfl rfl rfl zmv zje (zj0 hnew) ?_
  refine zd (m:=((j+1:Nat):Int)) (by omega) (by omega) ?_
  exact⟨j+1,by omega,by omega,zac [(1,1),(2,2),(3,3),(4,4)] rfl ⟨rfl,cr,rfl,cr,cr,cr,⟨rfl,rfl⟩,⟨rfl,rfl⟩,trivial⟩ ⟨(bC bZ),λ_ _ _ hh=>hh,λ_ _ _ hh=>by rw[hsN];exact hh,(bC bZ),trivial⟩⟩
 simp only[zb]at h
 rw[List.take_of_length_le (by omega)]
 refine za rfl rfl ?_
 refine⟨_,Sub.trans (zfs (id:=1) (i:=2) (im:=2) (gh:=2000001) rfl rfl rfl rfl (by decide)) (zfs (id:=1) (i:=3) (im:=3) (gh:=2000002) rfl rfl rfl rfl (by decide)),?_⟩
 refine za rfl rfl ?_
 exact⟨_,rfl,cr⟩
end
theorem zpt{t:Nat}{v v':RV}{F:List (Nat×TF)}{O:List (Nat×Option Ow)}{nx:Nat}(h:Cv v v'):Sub ⟨(t, .r v)::F,O,nx⟩ ⟨(t, .r v')::F,O,nx⟩:=by
 intro B N a w k ⟨g,hs⟩
 refine⟨k,g,hs.size,hs.defers,hs.keep,hs.kk,λt' f hf=>?_,hs.owns,hs.apart⟩
 have hq:=hs.facts t'
 simp only[fget]at hf hq
 split at hf
 ·rename_i e
  cases hf
  simp only[e]at hq
  obtain⟨a1,a2⟩:=hq _ rfl
  exact⟨a1,h _ _ _ a2⟩
 ·rename_i e
  simp only[e]at hq
  exact hq f hf
abbrev pO(s:Lean_):Ow:=pbox s.leaves s.own s.opn s.shut
set_option maxRecDepth 20000 in
set_option maxHeartbeats 2000000 in
theorem zr7(s:Lean_)(l:List UInt8)(x:Int)(hx:zaf s.opn x=none)(hl:l.length+([0]++zch s.shut x).length<=100000000):
  Acts bP 118 1 [(0,chU l)] [.r s.pr, .own 0, .r (I x)] [] 1 [(0,chU (l++([0]++zch s.shut x)))] (.own 0):=by
 refine zaz (T:=Tab) mixed Tab_ok Tryz.func118 rfl (by kernel_rfl) rfl trivial ?_
 simp only[bL,List.length_cons,List.length_nil]at hl
 refine Vstep.node2 rfl rfl rfl (λm hm=>by rw[hx]at hm;cases hm) (λhm=>?_)
 refine zu rfl (zq ?_)
 obtain⟨g,hg⟩: ∃g,g=zch s.shut x:=⟨_,rfl⟩
 rw[<-hg]at hl⊢
 rw[<-List.append_assoc]
 refine Vdraw.code (Vcode.float mixed Tab_ok 9 [⟨0,20, .own 0,[]⟩,⟨1,21, .r (.sl 1 1 [.i .u8 0]),[]⟩,⟨3,23, .adr 1 3,[]⟩,⟨4,24, .r (.s (mapS (zbx s.shut))),[3]⟩,⟨5,25, .r (I x),[]⟩,⟨6,26, .r (bs g),[4,5]⟩] [(2,[0,1]),(7,[6]),(8,[])] (by kernel_rfl) (F:=[(1, .own 0),(2, .r (I x)),(3, .own 1)]) (O:=[(0,some (chU l)),(1,some (pO s))]) (nx:=3)
  (zac [(0,0),(1,1)] rfl ⟨rfl,cr,rfl,trivial⟩ ⟨⟨rfl,rfl,rfl,rfl,zn _⟩,(bC bZ),trivial⟩) ?_)
 refine⟨rfl,⟨λY=>zo _,λY=>Or.inr (Yld.read (d:=21) (e:=5) (sz:=1) (n:=1) (cells:=[.i .u8 0]) Tab_ok (zy rfl)),λY=>zo _,λY=>zo _,λY=>zo _,λY=>Vstep.hash1 rfl rfl rfl (λm hm=>by rw[show g=m from hg.trans (ze8 hm).1];exact zo _) (λhm=>by rw[show g=[]from hg.trans (zf8 hm)];exact zpt (Cv.nil 1)),trivial⟩,(22, .own 3)::[(1, .own 0),(2, .r (I x)),(3, .own 1)],(3,some (chU (l++[0])))::(0,none)::[(0,some (chU l)),(1,some (pO s))],4,λY=>by refine Vapp.mk' (j:=(l++[0]).length) (zs:=(l++[0]).map U8) (by simp only[maxLen];omega) (by show(l.length+1)*1<=_;omega) (by rw[bL];rfl) (by rw[List.map_append];rfl) ?_;exact zo _,?_⟩
 refine⟨rfl,⟨λY=>zo _,λY=>Or.inr (Yld.read (d:=21) (e:=5) (sz:=1) (n:=1) (cells:=[.i .u8 0]) Tab_ok (zy rfl)),λY=>zo _,λY=>zo _,λY=>zo _,λY=>Vstep.hash1 rfl rfl rfl (λm hm=>by rw[show g=m from hg.trans (ze8 hm).1];exact zo _) (λhm=>by rw[show g=[]from hg.trans (zf8 hm)];exact zpt (Cv.nil 1)),trivial⟩,(27, .own 4)::(22, .own 3)::[(1, .own 0),(2, .r (I x)),(3, .own 1)],(4,some (chU (l++[0]++g)))::(3,none)::(3,some (chU (l++[0])))::(0,none)::[(0,some (chU l)),(1,some (pO s))],5,λY=>by refine Vapp.mk' (j:=(l++[0]++g).length) (zs:=(l++[0]++g).map U8) (by simp only[maxLen,bL,List.length_cons,List.length_nil];omega) (by show((l++[0]).length+g.length)*1<=_;simp only[bL,List.length_cons,List.length_nil];omega) (by simp only[bL]) (by simp only[List.map_append]) ?_;exact zo _,?_⟩
 refine⟨rfl,⟨λY=>zo _,λY=>Or.inr (Yld.read (d:=21) (e:=5) (sz:=1) (n:=1) (cells:=[.i .u8 0]) Tab_ok (zy rfl)),λY=>zo _,λY=>zo _,λY=>zo _,λY=>Vstep.hash1 rfl rfl rfl (λm hm=>by rw[show g=m from hg.trans (ze8 hm).1];exact zo _) (λhm=>by rw[show g=[]from hg.trans (zf8 hm)];exact zpt (Cv.nil 1)),trivial⟩,(6, .own 4)::(27, .own 4)::(22, .own 3)::[(1, .own 0),(2, .r (I x)),(3, .own 1)],(4,some (chU (l++[0]++g)))::(3,none)::(3,some (chU (l++[0])))::(0,none)::[(0,some (chU l)),(1,some (pO s))],5,λY=>zo _,?_⟩
 refine⟨rfl,⟨λY=>zo _,λY=>Or.inr (Yld.read (d:=21) (e:=5) (sz:=1) (n:=1) (cells:=[.i .u8 0]) Tab_ok (zy rfl)),λY=>zo _,λY=>zo _,λY=>zo _,λY=>Vstep.hash1 rfl rfl rfl (λm hm=>by rw[show g=m from hg.trans (ze8 hm).1];exact zo _) (λhm=>by rw[show g=[]from hg.trans (zf8 hm)];exact zpt (Cv.nil 1)),trivial⟩,?_⟩
 exact zaw (.inl rfl) [(0,4)] [(6, .own 0)] [] rfl ⟨rfl,trivial⟩ ⟨⟨rfl,rfl,rfl,rfl,zn _⟩,trivial⟩ trivial rfl
set_option maxHeartbeats 2000000 in
theorem z30(s:Lean_)(l:List UInt8)(x:Int)(n:Node)(hn:n.fit)(hr:n.right=true)(hx:zaf s.opn x=some n)(h2:x.tmod 2=0)(hl:l.length+([1]++zak n).length<=100000000):
  Acts bP 118 1 [(0,chU l)] [.r s.pr, .own 0, .r (I x)] [] 1 [(0,chU (l++([1]++zak n)))] (.own 0):=by
 refine zaz (T:=Tab) mixed Tab_ok Tryz.func118 rfl (by kernel_rfl) rfl trivial ?_
 simp only[bL,List.length_cons,List.length_nil]at hl
 have hb:=zfc n hn
 rw[if_pos hr]at hb
 rw[<-List.append_assoc]
 generalize zak n=q at hb hl⊢
 refine Vstep.node2 rfl rfl rfl (λm hm=>?_) (λhm=>by rw[hx]at hm;cases hm)
 rw[hx]at hm
 cases hm
 refine zw rfl (zt ?_)
 refine za rfl rfl ?_
 refine ze hb ?_
 refine zy ?_
 refine Vapp.mk' (j:=(l++[1]).length) (zs:=(l++[1]).map U8) (by simp only[maxLen];omega) (by show(l.length+1)*1<=_;omega) (by rw[bL];rfl) (by rw[List.map_append];rfl) ?_
 refine Vapp.mk' (j:=(l++[1]++q).length) (zs:=(l++[1]++q).map U8) (by simp only[maxLen,bL,List.length_cons,List.length_nil];omega) (by show((l++[1]).length+q.length)*1<=_;simp only[bL,List.length_cons,List.length_nil];omega) (by simp only[bL]) (by simp only[List.map_append]) ?_
 refine⟨by decide,_,rfl,?_⟩
 refine zw (by rw[h2];rfl) (zt ?_)
 exact zaw (.inl rfl) [(0,5)] [(6, .own 0)] [] rfl ⟨rfl,trivial⟩ ⟨⟨rfl,rfl,rfl,rfl,zn _⟩,trivial⟩ trivial rfl
set_option maxHeartbeats 4000000 in
theorem zapb(s:Lean_)(h k:Nat)(l:List UInt8)(n:Node)(hh:h+1<=16)(hk:k<2^(16-(h+1)))(hn:n.fit)(hr:n.right=true)(hx:zaf s.opn (nd (h+1) k)=some n)
  (ih: ∀(k:Nat) (l:List UInt8),k<2^(16-h)->l.length+(putB s h k).length<=100000000->Acts bP 118 1 [(0,chU l)] [.r s.pr, .own 0, .r (I (nd h k))] [] 1 [(0,chU (l++putB s h k))] (.own 0))
  (hl:l.length+([1]++zak n++(putB s h (2*k)++putB s h (2*k+1))).length<=100000000):
  Acts bP 118 1 [(0,chU l)] [.r s.pr, .own 0, .r (I (nd (h+1) k))] [] 1 [(0,chU (l++([1]++zak n++(putB s h (2*k)++putB s h (2*k+1)))))] (.own 0):=by
 refine zaz (T:=Tab) mixed Tab_ok Tryz.func118 rfl (by kernel_rfl) rfl trivial ?_
 simp only[bL,List.length_cons,List.length_nil]at hl
 have hleft:=zd4 (d:=16) (by omega) (show h+1<=16 by omega) hk
 have hright:=zdn (d:=16) (by omega) (show h+1<=16 by omega) hk
 have hk2:2^(16-h)=2*2^(16-(h+1)):=by rw[show 16-h=(16-(h+1))+1 by omega,Nat.pow_succ];omega
 have hb:=zfc n hn
 rw[if_pos hr]at hb
 have i1:=ih (2*k) (l++[1]++zak n) (by omega) (by simp only[bL,List.length_cons,List.length_nil];omega)
 have i2:=ih (2*k+1) (l++[1]++zak n++putB s h (2*k)) (by omega) (by simp only[bL,List.length_cons,List.length_nil];omega)
 have e:l++([1]++zak n++(putB s h (2*k)++putB s h (2*k+1)))=l++[1]++zak n++putB s h (2*k)++putB s h (2*k+1):=by simp only[List.append_assoc]
 rw[e]
 generalize putB s h (2*k)=a at*
 generalize putB s h (2*k+1)=b at*
 generalize zak n=q at*
 refine Vstep.node2 rfl rfl rfl (λm hm=>?_) (λhm=>by rw[hx]at hm;cases hm)
 rw[hx]at hm
 cases hm
 refine zw rfl (zt ?_)
 refine za rfl rfl ?_
 refine ze hb ?_
 refine zy ?_
 refine Vapp.mk' (j:=(l++[1]).length) (zs:=(l++[1]).map U8) (by simp only[maxLen];omega) (by show(l.length+1)*1<=_;omega) (by rw[bL];rfl) (by rw[List.map_append];rfl) ?_
 refine Vapp.mk' (j:=(l++[1]++q).length) (zs:=(l++[1]++q).map U8) (by simp only[maxLen,bL,List.length_cons,List.length_nil];omega) (by show((l++[1]).length+q.length)*1<=_;simp only[bL,List.length_cons,List.length_nil];omega) (by simp only[bL]) (by simp only[List.map_append]) ?_
 refine⟨by decide,_,rfl,?_⟩
 refine zu (by rw[zc4];rfl) (zq ?_)
 refine Vdraw.code (Vcode.float mixed Tab_ok 10 [⟨0,41, .r s.pr,[]⟩,⟨1,42, .r s.pr,[]⟩,⟨3,44, .r (I (nd (h+1) k)),[]⟩,⟨4,45, .r (I (nd h (2*k))),[3]⟩,⟨6,47, .r (I (nd (h+1) k)),[]⟩,⟨7,48, .r (I (nd h (2*k+1))),[6]⟩] [(2,[]),(5,[1,4]),(8,[0,7]),(9,[])] (by kernel_rfl) (F:=[(1, .own 5),(2, .r (I (nd (h+1) k))),(3, .own 1)]) (O:=[(1,some (pO s)),(5,some (chU (l++[1]++q)))]) (nx:=6)
  (zac [(1,1),(5,5)] rfl ⟨rfl,cr,rfl,trivial⟩ ⟨(bC bZ),⟨rfl,rfl,rfl,rfl,zn _⟩,trivial⟩) ?_)
 have hlt:=zk2 (nd (h+1) k)
 rw[hleft]at hlt
 have hrt:=zjj (nd (h+1) k)
 rw[hright]at hrt
 refine⟨rfl,⟨λY=>za rfl rfl (zo _),λY=>za rfl rfl (zo _),λY=>zo _,λY=>ze hlt (zo _),λY=>zo _,λY=>ze hrt (zo _),trivial⟩,(43, .own 5)::[(1, .own 5),(2, .r (I (nd (h+1) k))),(3, .own 1)],[(1,some (pO s)),(5,some (chU (l++[1]++q)))],6,λY=>zo _,?_⟩
 refine⟨rfl,⟨λY=>za rfl rfl (zo _),λY=>za rfl rfl (zo _),λY=>zo _,λY=>ze hlt (zo _),λY=>zo _,λY=>ze hrt (zo _),trivial⟩,(46, .own 6)::(43, .own 5)::[(1, .own 5),(2, .r (I (nd (h+1) k))),(3, .own 1)],(6,some (chU (l++[1]++q++a)))::(5,none)::[(1,some (pO s)),(5,some (chU (l++[1]++q)))],7,λY=>zj [(0,5)] [] (λ_ _=>i1) (zi rfl ⟨_,_,rfl,cr,_,_,rfl,rfl,_,_,rfl,cr,rfl⟩) rfl ⟨⟨rfl,rfl,rfl,rfl,zn _⟩,trivial⟩ ⟨zaq,trivial⟩ (zo _),?_⟩
 refine⟨rfl,⟨λY=>za rfl rfl (zo _),λY=>za rfl rfl (zo _),λY=>zo _,λY=>ze hlt (zo _),λY=>zo _,λY=>ze hrt (zo _),trivial⟩,(49, .own 7)::(46, .own 6)::(43, .own 5)::[(1, .own 5),(2, .r (I (nd (h+1) k))),(3, .own 1)],(7,some (chU (l++[1]++q++a++b)))::(6,none)::(6,some (chU (l++[1]++q++a)))::(5,none)::[(1,some (pO s)),(5,some (chU (l++[1]++q)))],8,λY=>zj [(0,6)] [] (λ_ _=>i2) (zi rfl ⟨_,_,rfl,cr,_,_,rfl,rfl,_,_,rfl,cr,rfl⟩) rfl ⟨⟨rfl,rfl,rfl,rfl,zn _⟩,trivial⟩ ⟨zaq,trivial⟩ (zo _),?_⟩
 refine⟨rfl,⟨λY=>za rfl rfl (zo _),λY=>za rfl rfl (zo _),λY=>zo _,λY=>ze hlt (zo _),λY=>zo _,λY=>ze hrt (zo _),trivial⟩,(1, .own 7)::(49, .own 7)::(46, .own 6)::(43, .own 5)::[(1, .own 5),(2, .r (I (nd (h+1) k))),(3, .own 1)],(7,some (chU (l++[1]++q++a++b)))::(6,none)::(6,some (chU (l++[1]++q++a)))::(5,none)::[(1,some (pO s)),(5,some (chU (l++[1]++q)))],8,λY=>zo _,?_⟩
 refine⟨rfl,⟨λY=>za rfl rfl (zo _),λY=>za rfl rfl (zo _),λY=>zo _,λY=>ze hlt (zo _),λY=>zo _,λY=>ze hrt (zo _),trivial⟩,?_⟩
 exact zaw (.inl rfl) [(0,7)] [(6, .own 0)] [] rfl ⟨rfl,trivial⟩ ⟨⟨rfl,rfl,rfl,rfl,zn _⟩,trivial⟩ trivial rfl
theorem z7d(s:Lean_)(hf: ∀x n,zaf s.opn x=some n->n.fit/\n.right=true): ∀(h k:Nat) (l:List UInt8),h<=16->k<2^(16-h)->l.length+(putB s h k).length<=100000000->Acts bP 118 1 [(0,chU l)] [.r s.pr, .own 0, .r (I (nd h k))] [] 1 [(0,chU (l++putB s h k))] (.own 0)
 |0,k,l,_,hk,hl=>by
  cases hx:zaf s.opn (nd 0 k)with
  |none=>
   have e:putB s 0 k=[0]++zch s.shut (nd 0 k):=by simp[putB,hx]
   rw[e]at hl⊢;exact zr7 s l _ hx hl
  |some n=>
   have e:putB s 0 k=[1]++zak n:=by simp[putB,hx]
   rw[e]at hl⊢;exact z30 s l _ n (hf _ _ hx).1 (hf _ _ hx).2 hx (zcn k) hl
 |h+1,k,l,hh,hk,hl=>by
  cases hx:zaf s.opn (nd (h+1) k)with
  |none=>
   have e:putB s (h+1) k=[0]++zch s.shut (nd (h+1) k):=by simp[putB,hx]
   rw[e]at hl⊢;exact zr7 s l _ hx hl
  |some n=>
   have e:putB s (h+1) k=[1]++zak n++(putB s h (2*k)++putB s h (2*k+1)):=by simp[putB,hx]
   rw[e]at hl⊢;exact zapb s h k l n hh hk (hf _ _ hx).1 (hf _ _ hx).2 hx (λk l hk hl=>z7d s hf h k l (by omega) hk hl) hl
theorem zjb{l m:List Int}(hm:m.Pairwise (· < ·))(hp:l.Perm m):zbu l=m:=by
 have h1:(zbu l).Pairwise (λa b=>leI a b=true):=List.pairwise_mergeSort (λa b c h1 h2=>by simp only[leI,decide_eq_true_eq]at*;omega) (λa b=>by simp only[leI,Bool.or_eq_true,decide_eq_true_eq];omega) l
 have hp2:(zbu l).Perm m:=(List.mergeSort_perm l _).trans hp
 have hn:(zbu l).Nodup:=hp2.nodup_iff.2 (hm.imp λh=>by omega)
 have h2:(zbu l).Pairwise (· < ·):=(List.Pairwise.and h1 hn).imp λ{a b} h=>by
  have h3:=h.1
  have h4:=h.2
  simp only[leI,decide_eq_true_eq]at h3
  omega
 exact zj2 h2 hm λz=>hp2.mem_iff
theorem zth: ∀(l:List Int) (a:Int),l.Pairwise (· < ·)->(∀x∈l,a<x)->ascL a l=true
 |[],_,_,_=>rfl
 |x::l,a,h,h2=>by
  rw[List.pairwise_cons]at h
  unfold ascL
  rw[decide_eq_true (h2 x (by simp)),zth l x h.2 h.1]
  rfl
theorem zu6(mark:UInt8)(s:Lean_)(hf: ∀x n,zaf s.opn x=some n->n.fit/\n.right=true){d o:Nat}(hd:d<=16)(ho:o<2^d)(hn:s.leaves=((2^d:Nat):Int))(he:s.own=(o:Int))(hl:(putB s d 0).length<=90000000):
  bG 71 [s.pr,U8 mark] (.r (bs (zei mark s d))):=by
 refine zar (T:=Tab) mixed Tab_ok Tryz.func71 rfl (by kernel_rfl) ?_
 have h16:=zc2 hd
 have hp:=z7d s hf d 0 ([mark]++beB 4 (2^d)++beB 4 o) hd (Nat.pow_pos (by omega)) (by simp only[bL,zao,List.length_cons,List.length_nil];omega)
 have e:zei mark s d=[mark]++beB 4 (2^d)++beB 4 o++putB s d 0:=by
  unfold zei
  rw[hn,he,Int.toNat_natCast,Int.toNat_natCast]
  simp only[List.append_assoc]
 have hroot:zi8 ((2^d:Nat):Int)=(nd d 0:Int):=by
  unfold zi8
  rw[if_pos (zce d hd),zhu]
 have c2:=znl ((2^d:Nat):Int)
 rw[hroot]at c2
 rw[e]
 obtain⟨lv,ow,O,H⟩:=s
 simp only at hn he
 subst hn he
 refine zy ?_
 refine Vint.n ((2^d:Nat):Int) (by rw[zgs (by omega)]) ?_
 refine ze (zeu [mark] 4 (2^d) (by simp) (.inr (.inr (.inl rfl)))) ?_
 refine Vdraw.cut 9 (by kernel_rfl) ?_
 refine za rfl rfl ?_
 refine Vint.n o (by rw[zgs (by omega)]) ?_
 refine ze (znk ([mark]++beB 4 (2^d)) 4 o (by simp only[bL,zao,List.length_cons,List.length_nil];omega) (.inr (.inr (.inl rfl)))) ?_
 refine ze c2 ?_
 refine zj [(0,3)] [] (λ_ _=>hp) (zi rfl ⟨_,_,rfl,cr,_,_,rfl,rfl,_,_,rfl,cr,rfl⟩) rfl ⟨⟨rfl,rfl,rfl,rfl,zn _⟩,trivial⟩ ⟨zaq,trivial⟩ ?_
 refine⟨_,zbr (id:=4) rfl,?_⟩
 exact cr
section
variable {t:List Node} {d o:Nat} (k:TreeOk t d) (ht:t.length<=1000000) (hr:rightT t=true) (ho:o<2^d) (hm:(o:Int)∈zbh t)
include k ho in
theorem zgq:RiseIn d 0 (cutA t ((2^d:Nat):Int) o)/\RiseIn d 0 (cutB t ((2^d:Nat):Int) o):=by
 have:=zf2 (zan t t.length) (o:Int) false d 0 0 []
 rw[zpv k ho]at this
 exact this
include k in
theorem zvr{K M:List Int}(hK:RiseIn d 0 K)(x:Int)(n:Node)(h:zaf (zc9 t d o K M).opn x=some n):n.fit/\n.right=true:=by
 change zaf (K.map (zbp t)) x=some n at h
 rw[zfa]at h
 split at h
 ·rename_i hx
  cases h
  have h1:=hK.2 x hx
  have:=k.len
  unfold inR at h1
  rw[Nat.zero_mul]at h1
  have hm:=zci (t:=t) (j:=x.toNat) (by omega)
  exact⟨k.fit _ hm,k.right _ hm⟩
 ·cases h
theorem zy1{K M:List Int}(hK:K.Pairwise (· < ·))(hM:M.Pairwise (· < ·)):zh0 ((2^d:Nat):Int) o (K.map (zbp t)) (M.map (zb8 t))=zc9 t d o K M:=by
 have e1:(K.map (zbp t)).map (λs=>s.at_)=K:=by rw[List.map_map];exact List.map_id K
 have e2:(M.map (zb8 t)).map (λs=>s.at_)=M:=by rw[List.map_map];exact List.map_id M
 unfold zh0 zc9
 rw[e1,e2,zjb hK (List.Perm.refl _),zjb hM (List.Perm.refl _)]
 congr 1
 ·refine List.map_congr_left λx hx=>?_
  unfold putN
  rw[zfa,if_pos hx]
  rfl
 ·refine List.map_congr_left λx hx=>?_
  unfold putH
  rw[zq8,if_pos hx]
  rfl
include k ho in
theorem zw9:(cutS t ((2^d:Nat):Int) o).bd:=by
 obtain⟨hK,hM⟩:=zgq k ho
 have hl:=zfk (zan t t.length) (o:Int) false d 0 0 []
 rw[zpv k ho]at hl
 simp only at hl
 have h16:=zc2 k.hd
 have e2:2^(d+1)=2*2^d:=by rw[Nat.pow_succ];omega
 have hi: ∀x:Int,inR d 0 x->i64 x:=λx hx=>by
  unfold inR at hx
  rw[Nat.zero_mul]at hx
  exact⟨by omega,by omega⟩
 refine⟨⟨by show _<=((2^d:Nat):Int);omega,by show((2^d:Nat):Int)<=_;omega⟩,⟨by show _<=(o:Int);omega,by show(o:Int)<=_;omega⟩,?_,?_,?_,?_,?_,?_⟩
 ·show((cutA t _ o).map (zbp t)).length<=_
  rw[List.length_map];omega
 ·show((cutB t _ o).map (zb8 t)).length<=_
  rw[List.length_map];omega
 ·intro x hx
  obtain⟨z,hz,rfl⟩:=List.mem_map.1 hx
  exact hi _ (hK.2 z hz)
 ·intro x hx
  obtain⟨z,hz,rfl⟩:=List.mem_map.1 hx
  exact hi _ (hM.2 z hz)
 ·intro x hx
  obtain⟨z,hz,rfl⟩:=List.mem_map.1 hx
  have h1:=hK.2 z hz
  have:=k.len
  unfold inR at h1
  rw[Nat.zero_mul]at h1
  exact k.fit _ (zci (by omega))
 ·intro x hx
  obtain⟨z,hz,rfl⟩:=List.mem_map.1 hx
  show(zas t _ _).length<=_
  rw[zcr];decide
include k ho in
theorem zgab(hleaf:(nT t (2*o)).kind.toNat=1):sR (cutS t ((2^d:Nat):Int) o)=true:=by
 obtain⟨hK,hM⟩:=zgq k ho
 obtain⟨c1,c2,_⟩:=zna k ho
 have hd:=k.hd
 have hlen:=k.len
 have h16:=zc2 hd
 obtain⟨K,hKe⟩: ∃K,K=cutA t ((2^d:Nat):Int) o:=⟨_,rfl⟩
 obtain⟨M,hMe⟩: ∃M,M=cutB t ((2^d:Nat):Int) o:=⟨_,rfl⟩
 have hS:cutS t ((2^d:Nat):Int) o=⟨((2^d:Nat):Int),o,K.map (zbp t),M.map (zb8 t)⟩:=by rw[hKe,hMe];rfl
 rw[hS]
 rw[<-hKe]at hK c1
 rw[<-hMe]at hM c2
 have e1:(K.map (zbp t)).map (λs=>s.at_)=K:=by rw[List.map_map];exact List.map_id K
 have e2:(M.map (zb8 t)).map (λs=>s.at_)=M:=by rw[List.map_map];exact List.map_id M
 have hpos: ∀{l:List Int},RiseIn d 0 l->∀x∈l, -1<x:=λh x hx=>by have:=z1w (h.2 x hx);omega
 have hfs: ∀z∈K,zaf (K.map (zbp t)) z=some (nT t z.toNat):=λz hz=>by rw[zfa,if_pos hz]
 have hfo: ∀z,inR d 0 z->zaf (zan t t.length) z=some (nT t z.toNat):=λz hz=>by
  unfold inR at hz
  rw[Nat.zero_mul]at hz
  rw[zg7,if_pos (by omega)]
 have hsf: ∀i,i<d->found (zan t t.length) (nd i (sibN (o/2^i)))=true:=λi hi=>k.found (zdj.2 ⟨by omega,Nat.div_eq_of_lt (zec ho hi)⟩)
 have hsK: ∀i,i<d->(nd i (sibN (o/2^i)):Int)∈K:=λi hi=>by
  rw[c1,(zey _ o d _).1]
  refine .inr ⟨i,hi,?_⟩
  unfold kidT
  rw[hsf i hi]
  exact zmq _ _ _ _ _
 have hag:topS (K.map (zbp t)) o d=topS (zan t t.length) o d:=zs4 d hsf λz hz=>by
  rw[<-c1]at hz
  rw[hfs z hz,hfo z (hK.2 z hz)]
 have hvt:=zrd (K.map (zbp t)) hd ho d (Nat.le_refl _) []
 rw[Nat.div_eq_of_lt ho,RelT,hag,<-c1,<-c2]at hvt
 have hT:=hvt.1.2 ⟨λz hz=>by simp[found,hfs z hz],λi hi=>by simp[found,hfs _ (hsK i hi)]⟩
 obtain⟨v1,v2⟩:=hvt.2 hT
 have hown:(2*(o:Int))∈K:=by
  rw[c1,(zey _ o d _).1]
  exact .inl ⟨0,Nat.zero_le _,by rw[Nat.pow_zero,Nat.div_one,zde];omega⟩
 unfold sR ascS atsO atsH
 rw[e1,e2,zth K _ hK.1 (hpos hK),zth M _ hM.1 (hpos hM)]
 simp only[zep,Int.toNat_natCast,Nat.log2_two_pow,hT,v1,v2,e1,e2,zjb hK.1 (List.Perm.refl _),zjb hM.1 (List.Perm.refl _),decide_true,Bool.and_true,Bool.true_and,Bool.and_eq_true,decide_eq_true_eq,List.all_eq_true]
 refine⟨zce d hd,by omega,by omega,?_,?_,?_⟩
 ·unfold zil
  rw[hfs _ hown,show(2*(o:Int)).toNat=2*o by omega]
  simp[hleaf]
 ·intro s hs
  obtain⟨z,hz,rfl⟩:=List.mem_map.1 hs
  exact k.fine z _ (hfo z (hK.2 z hz))
 ·intro s hs
  obtain⟨z,hz,rfl⟩:=List.mem_map.1 hs
  exact zcr t _ _
end
end Go.Proofs.YtoegdgbghdnnfaaGreat.Sx
