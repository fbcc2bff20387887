import Derived.Test.YtpcfoglfakeimaaGreatZSxPt
import Derived.Test.YtpcfoglfakeimaaGreatZNa
import Derived.Test.YtpcfoglfakeimaaGreatZGeoB
import Derived.Test.YtpcfoglfakeimaaGreatZSxY
import Derived.Test.YtpcfoglfakeimaaGreatZNx
import Derived.Test.YtpcfoglfakeimaaGreatZVa
namespace Go.Proofs.YtpcfoglfakeimaaGreat.Sx
open Go.RowKit
theorem z08(l:Leaf)(hl:l.fit):aG 81 [.ag l.c] (.r (.ag l.c)):=by
 refine aT Tryz.func81 rfl ?_
 obtain⟨h1,h2,h3,h4,h5⟩:=hl
 refine Vstep.bsl (adrs 0 [0,1,2,4,5]) Tab_ok rfl rfl rfl rfl rfl rfl (by decide) (by repeat' (first|exact rfl|refine⟨_,_,_,rfl,rfl,rfl,?_⟩)) ?_
 refine Vloop.mk' (λj:Nat=>⟨[(1, .own 0),(2, .own 1),(10, .cut 2 0 5),(11, .r (I 5)),(12, .r (I j))],[(0,some (.box (l.c.map TF.r))),(1,some (.box [.r (.x (.slice none 0 0)), .r (.x (.slice none 0 0)), .r (.x (.slice none 0 0)), .r (.i .u8 0), .r (.x (.slice none 0 0)), .r (.x (.slice none 0 0))])),(2,some (.box (adrs 0 [0,1,2,4,5])))],3⟩) (λj=>j<=5) (λj=>5-j) 0 (by omega) (zac [(0,0),(1,1),(2,2)] rfl (by repeat' (first|exact rfl|exact trivial|exact cr|exact Cv.nil _|exact⟨rfl,rfl⟩|refine⟨_,_,rfl,?_,?_⟩|refine⟨?_,?_⟩)) (by repeat' (first|exact rfl|exact trivial|exact cr|exact Cv.nil _|exact⟨rfl,rfl⟩|refine⟨_,_,rfl,?_,?_⟩|refine⟨?_,?_⟩))) ?_
 intro j hj
 rcases(by omega:j<5\/j=5)with hlt |rfl
 rotate_left
 ·refine zw rfl (zt ?_)
  refine za rfl rfl ?_
  refine za rfl rfl ?_
  exact cr
 obtain⟨k,hk⟩: ∃k,k=j+1:=⟨_,rfl⟩
 rcases(by omega:j=0\/j=1\/j=2\/j=3\/j=4)with rfl |rfl |rfl |rfl |rfl
 all_goals
  refine zu rfl (zq ?_)
  refine Vadr.mk' _ rfl (by decide) ?_
  refine ze (zin _ (by omega)) ?_
  refine zd (m:=(k:Int)) (by omega) (by omega) ?_
  exact⟨k,by omega,by omega,by subst hk;exact zac [(0,0),(1,1),(2,2)] rfl (by repeat' (first|exact rfl|exact trivial|exact cr|exact Cv.nil _|exact⟨rfl,rfl⟩|refine⟨_,_,rfl,?_,?_⟩|refine⟨?_,?_⟩)) (by repeat' (first|exact rfl|exact trivial|exact cr|exact Cv.nil _|exact⟨rfl,rfl⟩|refine⟨_,_,rfl,?_,?_⟩|refine⟨?_,?_⟩))⟩
theorem zcx(l:Leaf)(hl:l.fit):aG 81 [.ag l.c] (.r (.ag l.c)):=z08 l hl
theorem zji{α β:Type}{f:α->List β}{sz:Nat}(hf: ∀x,(f x).length=sz): ∀(l:List α) (j:Nat),(l.flatMap f).take (j*sz)=(l.take j).flatMap f
 |[],j=>by simp
 |x::l,0=>by simp
 |x::l,j+1=>by
  rw[List.flatMap_cons,List.take_succ_cons,List.flatMap_cons,Nat.add_mul,Nat.one_mul,Nat.add_comm,<-zji hf l j]
  rw[List.take_append,hf x,List.take_of_length_le (by rw[hf x];omega),Nat.add_sub_cancel_left]
instance {h k:Nat}{x:Int}:Decidable (inR h k x):=by unfold inR;infer_instance
def nods(l:List Node):RV:= .sl 10 l.length (l.flatMap Node.c)
theorem zh9{l:List Node}{i:Int}{j:Nat}(h:i=j)(hj:j<l.length):((l.flatMap Node.c).drop (i.toNat*10)).take 10=l[j].c:=zgo (f:=Node.c) (sz:=10) (λ_=>rfl) h hj
def nT(t:List Node)(j:Nat):Node:=t.getD j Node.zero
theorem ze5{t:List Node}{j:Nat}(hj:j<t.length):t[j]=nT t j:=by simp[nT,hj]
theorem zf9{t:List Node}{j:Nat}(hj:j<t.length):nT t j∈t:=ze5 hj▸List.getElem_mem hj
theorem zbf{l:List Node}{i:Int}{j:Nat}(h:i=j)(hj:j<l.length):((l.flatMap Node.c).drop (i.toNat*10)).take 10=(nT l j).c:=by rw[<-ze5 hj];exact zh9 h hj
def znh(t:List Node):Bool:=decide (t.length<=40/\∀x∈t,x.small=true)
theorem z3i(t:List Node)(h1:t.length<=maxL):aG 5 [nods t] (.r (.b (znh t))):=by
 refine aT Tryz.func5 rfl ?_
 have no:(t.length<=40->(∀x∈t,x.small=true)->False)->znh t=false:=λh=>by
  simp only[znh,decide_eq_false_iff_not]
  rintro⟨a,b⟩
  exact h a b
 simp only[maxL]at h1
 refine zh (λh=>?_) (λh=>?_)
 ·refine zq (zf (congrArg RV.b (Eq.symm (no λa b=>?_))))
  simp only[zb]at h;omega
 simp only[zb]at h
 refine zt ?_
 refine Vloop.mk' (λj:Nat=>{F:=[(0, .r (nods t)),(3, .r (I j))],O:=[],nx:=0}) (λj=>j<=t.length/\∀x∈t.take j,x.small=true) (λj=>t.length-j) 0 ⟨by omega,by simp⟩ (zac [] rfl ⟨cr,cr,trivial⟩ trivial) ?_
 rintro j ⟨hj,hn⟩
 refine zh (λh4=>zq ?_) (λh4=>zt ?_)
 ·simp only[zb]at h4
  have hj':j<t.length:=by omega
  refine zm (by omega) (by omega) (zh9 rfl hj') ?_
  refine za rfl rfl ?_
  refine Vcall.bool (ztb _) (λh5=>zw rfl (zt ?_)) (λh5=>zu rfl (zq ?_))
  ·refine zd (m:=((j+1:Nat):Int)) (by omega) (by omega) ?_
   exact⟨j+1,⟨hj',zx0 hj' hn h5⟩,by omega,zac [] rfl ⟨cr,cr,trivial⟩ trivial⟩
  ·refine zf (congrArg RV.b (Eq.symm (no λa b=>?_)))
   have:=b _ (List.getElem_mem hj')
   rw[h5]at this;cases this
 simp only[zb]at h4
 rw[List.take_of_length_le (by omega)]at hn
 refine zf (congrArg RV.b (Eq.symm ?_))
 simp only[znh,decide_eq_true_eq]
 exact⟨by omega,hn⟩
theorem zze(l:List Int)(x:Int)(hl:l.length<=1000000000000):aG 51 [is l,I x] (.r (.b (decide (x∈l)))):=by
 refine aT Tryz.func51 rfl ?_
 refine Vloop.mk' (λj:Nat=>{F:=[(0, .r (is l)),(1, .r (I x)),(5, .r (I j))],O:=[],nx:=0}) (λj=>j<=l.length/\x∉l.take j) (λj=>l.length-j) 0 ⟨by omega,by simp⟩ (zac [] rfl ⟨cr,cr,cr,trivial⟩ trivial) ?_
 rintro j ⟨hj,hn⟩
 refine zh (λh=>zq ?_) (λh=>zt ?_)
 ·simp only[zb]at h
  have hj':j<l.length:=by omega
  refine zm (by omega) (by omega) (zan rfl hj') (zg rfl ?_)
  refine zh (λh2=>zq ?_) (λh2=>zt ?_)
  ·simp only[zb]at h2
   exact zf (by simp[ofC,<-h2])
  ·simp only[zb]at h2
   refine zd (m:=((j+1:Nat):Int)) (by omega) (by omega) ?_
   exact⟨j+1,⟨hj',zun hj' hn h2⟩,by omega,zac [] rfl ⟨cr,cr,cr,trivial⟩ trivial⟩
 ·simp only[zb]at h
  rw[List.take_of_length_le (by omega)]at hn
  exact zf (by simp[ofC,hn])
def zae(t:List Node):Int:=if zei (((t.length+1)/2:Nat):Int)=true/\t.length%2=1 then(((t.length+1)/2:Nat):Int)else 0
theorem zql(t:List Node)(h1:t.length<=1000000):aG 48 [nods t] (.r (I (zae t))):=by
 refine aT Tryz.func48 rfl ?_
 refine Vloop.mk' (λj:Nat=>{F:=[(0, .r (nods t)),(3, .r (I ((2^j:Nat):Int)))],O:=[],nx:=0}) (λj=>j<=17/\∀i,i<j->2*2^i-1≠t.length) (λj=>17-j) 0 ⟨by omega,by omega⟩ (zac [] rfl ⟨cr,cr,trivial⟩ trivial) ?_
 rintro j ⟨hj,hn⟩
 have hp:=zai j
 have e2:2^(j+1)=2*2^j:=by rw[Nat.pow_succ];omega
 refine zh (λh=>zq ?_) (λh=>zt ?_)
 ·simp only[zb]at h
  have hj':j<17:=by
   rcases Nat.lt_or_ge j 17 with h' |h'
   ·exact h'
   ·have:j=17:=by omega
    subst this
    have:(2:Nat)^17=131072:=by decide
    omega
  refine zd rfl (by omega) ?_
  refine zd rfl (by omega) ?_
  refine zh (λh2=>zq ?_) (λh2=>zt ?_)
  ·simp only[zb]at h2
   refine zf (congrArg I ?_)
   have e:(t.length+1)/2=2^j:=by omega
   have hf:=zev j (by omega)
   unfold zae
   rw[e,if_pos ⟨hf,by omega⟩]
  ·simp only[zb]at h2
   refine zd (m:=((2^(j+1):Nat):Int)) (by omega) (by omega) ?_
   refine⟨j+1,⟨by omega,λi hi=>?_⟩,by omega,zac [] rfl ⟨cr,cr,trivial⟩ trivial⟩
   rcases Nat.lt_or_ge i j with h3 |h3
   ·exact hn i h3
   ·have:i=j:=by omega
    subst this;omega
 ·simp only[zb]at h
  refine zf (congrArg I (Eq.symm ?_))
  unfold zae
  rw[if_neg]
  rintro⟨hf,ho⟩
  obtain⟨d,hd,e⟩:=zdn hf
  refine hn d ?_ (by omega)
  rcases Nat.lt_or_ge d j with h3 |h3
  ·exact h3
  ·have:=Nat.pow_le_pow_right (n:=2) (by omega) (show j<=d from h3)
   have:=z8j hd
   omega
def zbi(t:List Node)(n:Nat):List Int:=((List.range n).filter λi=>decide ((nT t (2*i)).kind.toNat=1)).map λi:Nat=>(i:Int)
def zaf(t:List Node):List Int:=zbi t ((t.length+1)/2)
theorem zf8(t:List Node)(n:Nat):zbi t (n+1)=if(nT t (2*n)).kind.toNat=1 then zbi t n++[(n:Int)]else zbi t n:=by
 unfold zbi
 rw[List.range_succ,List.filter_append]
 by_cases h:(nT t (2*n)).kind.toNat=1
 ·simp[h]
 ·simp[h]
theorem zet(t:List Node)(n:Nat):(zbi t n).length<=n:=by
 unfold zbi
 rw[List.length_map]
 exact Nat.le_trans (List.length_filter_le _ _) (by simp)
theorem zjp(t:List Node)(h1:t.length<=1000000):aG 52 [nods t] (.r (is (zaf t))):=by
 refine aT Tryz.func52 rfl ?_
 refine Vloop.mk' (λj:Nat=>{F:=[(0, .r (nods t)),(3, .own 0),(4, .r (I j))],O:=[(0,some (.ch 3 1 (zbi t j).length ((zbi t j).map I) true))],nx:=1}) (λj=>j<=(t.length+1)/2) (λj=>(t.length+1)/2-j) 0 (by omega)
  ((zcd 3 3 1 rfl).trans (zac [(0,0)] rfl ⟨cr,rfl,cr,trivial⟩ ⟨⟨rfl,rfl,rfl,rfl,zn _⟩,trivial⟩)) ?_
 intro j hj
 have hml:=zet t j
 refine zd rfl (by omega) ?_
 refine zh (λh=>zq ?_) (λh=>zt ?_)
 ·simp only[zb]at h
  have hj':2*j<t.length:=by omega
  refine zd rfl (by omega) ?_
  refine zm (by omega) (by omega) (zbf (j:=2*j) (by omega) hj') (zg rfl ?_)
  refine zh (λh2=>zq ?_) (λh2=>zt ?_)
  ·simp only[zb]at h2
   have e:zbi t (j+1)=zbi t j++[(j:Int)]:=by rw[zf8,if_pos (by omega)]
   refine zy ?_
   refine Vapp.mk' (j:=(zbi t (j+1)).length) (zs:=(zbi t (j+1)).map I) (by simp[maxLen];omega) (by simp;omega) (by rw[e];simp) (by rw[e];simp[zbx,cellsOf]) ?_
   refine zd (m:=((j+1:Nat):Int)) (by omega) (by omega) ?_
   exact⟨j+1,by omega,by omega,zac [(0,_)] rfl ⟨cr,rfl,cr,trivial⟩ ⟨zf2 rfl,trivial⟩⟩
  ·simp only[zb]at h2
   have e:zbi t (j+1)=zbi t j:=by rw[zf8,if_neg (by omega)]
   refine zd (m:=((j+1:Nat):Int)) (by omega) (by omega) ?_
   exact⟨j+1,by omega,by omega,zac [(0,0)] rfl ⟨cr,rfl,cr,trivial⟩ ⟨zf2 e.symm,trivial⟩⟩
 ·simp only[zb]at h
  have:j=(t.length+1)/2:=by omega
  subst this
  exact cr
theorem zvl(t:List Node)(i:Int)(h1:t.length<=1000000):aG 22 [nods t,I i] (.r (.b (decide (i∈zaf t)))):=by
 refine aT Tryz.func22 rfl ?_
 refine ze (zjp t h1) ?_
 refine ze (zze _ _ (by have:=zet t ((t.length+1)/2);unfold zaf;omega)) ?_
 exact cr
theorem za8{t:List Node}{i:Int}(h:i∈zaf t): ∃o:Nat,i=(o:Int)/\o< (t.length+1)/2/\(nT t (2*o)).kind.toNat=1:=by
 simp only[zaf,zbi,List.mem_map,List.mem_filter,List.mem_range,decide_eq_true_eq]at h
 obtain⟨o,⟨h2,h3⟩,rfl⟩:=h
 exact⟨o,rfl,h2,h3⟩
section
open Go.ChangeShapes Go.WideShapes Go.ChangeAt Go.RowKit
set_option maxRecDepth 100000 in
theorem zbtb{H:Type}{enc:TypeId×Value->H}{W:World}{base:Nat}{v:Value}{d:DataW H}{p:List MemPlace}(hval:Value.okWide aP W .any base 22 v)
  (h:DataW.Trod enc aP W 0 (λ_=>true) true 22 v d p) (hw: ∀n∈d.weights aP 22,n<=reachBytes):
  ∃l:List Node,(∀x∈l,∀u∈x.par.late,Sx.i64 u)/\l.length<=maxL/\(nods l).at_ W (allK W) v:=by
 obtain⟨a,n,c,rfl⟩:=okWide_slice Tryz.underlying22 hval
 obtain⟨fuel,hf⟩:=h
 obtain⟨l,h1,h2,h3⟩:=Rd.slice (sz:=10) (r:=⟨H,enc,W,0,λ_=>true,true⟩) (fuel:=fuel) (cs:=[.slice a n c]) (x:=(d,p)) Tryz.underlying22 (by kernel_rfl) (by omega) (λ_=>rfl) Rd.node hf
 refine⟨l,h1,?_,?_⟩
 ·rcases h3 with rfl |⟨E,Sp,he,hlen⟩
  ·simp
  ·have:=hw ((E.length+Sp.length)*Tryz.prog.bytesOf 60) (by rw[show d= .slice E Sp from he];simp[DataW.weights,Tryz.underlying22])
   rw[show Tryz.prog.bytesOf 60=208 by kernel_rfl]at this
   simp only[reachBytes]at this
   unfold maxL
   omega
 ·simp only[RV.listAt]at h2
  obtain⟨u,r,e,_,hat,rfl⟩:=h2
  simp only[List.cons.injEq,and_true]at e
  rw[e]
  exact hat
end
section
variable {P:Program} {T:TT} {B:Bs} {N:Nat} {S:St} {a:Act} {w:World} {k:Kp} {g:Env} {o:Oper}
theorem Vcode.vcg(hm:P.follows .mixedOrders=true)(hT:TOk P T){c:Code}{Q:Exit->St->Prop}(h:Sx.vcg P T c S Q):Vcode P c S Q:=⟨zav hm hT c S Q h⟩
theorem Vcode.mid(hm:P.follows .mixedOrders=true)(hT:TOk P T){x y:Code}{Q:Exit->St->Prop}{ι:Type}(M:ι->St)(R:ι->Prop)
  (h:Sx.vcg P T x S λe S'=>match e with
   | .normal=>∃i,R i/\Sub S' (M i)
   |e=>Q e S') (h2: ∀i,R i->Vcode P y (M i) Q):Vcode P (.seq x y) S Q:=by
 refine⟨λB N a w k Q' hs hd hQ=>?_⟩
 simp only[zau,Bool.and_eq_true]at hd
 refine wp_seq (zav hm hT x S _ h B N a w k _ hs hd.1 λe S' a' w' k' hq hs'=>?_)
 cases e with
 |normal=>
  obtain⟨i,hR,hsub⟩:=hq
  obtain⟨k2,hs2⟩:=hsub _ _ _ _ _ hs'
  exact(h2 i hR).out B N a' w' k2 Q' hs2 hd.2 hQ
 |_=>exact hQ _ S' a' w' k' hq hs'
theorem Vcode.midc{x y:Code}{Q:Exit->St->Prop}{ι:Type}(M:ι->St)(R:ι->Prop)
  (h:Vcode P x S λe S'=>match e with
   | .normal=>∃i,R i/\Sub S' (M i)
   |e=>Q e S') (h2: ∀i,R i->Vcode P y (M i) Q):Vcode P (.seq x y) S Q:=by
 refine⟨λB N a w k Q' hs hd hQ=>?_⟩
 simp only[zau,Bool.and_eq_true]at hd
 refine wp_seq (h.out B N a w k _ hs hd.1 λe S' a' w' k' hq hs'=>?_)
 cases e with
 |normal=>
  obtain⟨i,hR,hsub⟩:=hq
  obtain⟨k2,hs2⟩:=hsub _ _ _ _ _ hs'
  exact(h2 i hR).out B N a' w' k2 Q' hs2 hd.2 hQ
 |_=>exact hQ _ S' a' w' k' hq hs'
def seqW(P:Program)(y:Code)(Q:Exit->St->Prop)(e:Exit)(S:St):Prop:=
 match e with
 | .normal=>Vcode P y S Q
 |e=>Q e S
theorem Vcode.seqv(hm:P.follows .mixedOrders=true)(hT:TOk P T){x y:Code}{Q:Exit->St->Prop}(h:Sx.vcg P T x S (seqW P y Q)):Vcode P (.seq x y) S Q:=by
 refine⟨λB N a w k Q' hs hd hQ=>?_⟩
 simp only[zau,Bool.and_eq_true]at hd
 refine wp_seq (zav hm hT x S _ h B N a w k _ hs hd.1 λe S' a' w' k' hq hs'=>?_)
 cases e with
 |normal=>exact hq.out B N a' w' k' Q' hs' hd.2 hQ
 |_=>exact hQ _ S' a' w' k' hq hs'
theorem Vcode.seqc{x y:Code}{Q:Exit->St->Prop}(h:Vcode P x S (seqW P y Q)):Vcode P (.seq x y) S Q:=by
 refine⟨λB N a w k Q' hs hd hQ=>?_⟩
 simp only[zau,Bool.and_eq_true]at hd
 refine wp_seq (h.out B N a w k _ hs hd.1 λe S' a' w' k' hq hs'=>?_)
 cases e with
 |normal=>exact hq.out B N a' w' k' Q' hs' hd.2 hQ
 |_=>exact hQ _ S' a' w' k' hq hs'
theorem Vcode.block{id:Nat}{c:Code}{Q:Exit->St->Prop}(h:Vcode P c S (zp3 id Q)):Vcode P (.block id c) S Q:=by
 refine⟨λB N a w k Q' hs hd hQ=>?_⟩
 refine wp_block (h.out B N a w k _ hs hd λe S' a' w' k' hq hs'=>?_)
 cases e with
 |exit id'=>
  simp only[Exit.inBlock]
  simp only[zp3]at hq
  split at hq
  ·rename_i hb;rw[if_pos (Nat.eq_of_beq_eq_true hb)];exact hQ _ S' a' w' k' hq hs'
  ·rename_i hb;rw[if_neg (Nat.ne_of_beq_eq_false hb)];exact hQ _ S' a' w' k' hq hs'
 |_=>exact hQ _ S' a' w' k' hq hs'
theorem Vcode.cond{c:Operand}{x y:Code}{Q:Exit->St->Prop}{β:Bool}(hc:opr S c=some (.r (.b β)))(h:Vif β (Vcode P x S Q) (Vcode P y S Q)):Vcode P (.cond c x y) S Q:=by
 refine⟨λB N a w k Q' hs hd hQ=>?_⟩
 simp only[zau,Bool.and_eq_true]at hd
 obtain⟨g,hs'⟩:=hs
 have hev:=(zag hs' hc).2
 simp only[TF.at_,RV.at_]at hev
 refine wp_cond_split hev (λht=>?_) λhf=>?_
 ·exact(h.out.1 ht).out B N a w k Q' ⟨g,hs'⟩ hd.1 hQ
 ·exact(h.out.2 hf).out B N a w k Q' ⟨g,hs'⟩ hd.2 hQ
theorem Vcode.loop{c:Code}{Q:Exit->St->Prop}{ι:Type}(inv:ι->St)(R:ι->Prop)(μ:ι->Nat)(i0:ι)(hR0:R i0)(h0:Sub S (inv i0))
  (h: ∀i,R i->Vcode P c (inv i) λe S'=>match e with
   | .normal=>∃i',R i'/\μ i'<μ i/\Sub S' (inv i')
   |e=>∃S'',Sub S' S''/\Q e S''):Vcode P (.loop c) S Q:=by
 refine⟨λB N a w k Q' hs hd hQ=>?_⟩
 obtain⟨k0,hs0⟩:=h0 B N a w k hs
 refine wp_loop_ghost (λn a w=>∃i k,R i/\μ i=n/\Sat B N (inv i) a w k) (μ i0) ⟨i0,k0,hR0,rfl,hs0⟩ ?_
 rintro n a' w' ⟨i,k',hR,rfl,hs'⟩
 refine(h i hR).out B N a' w' k' _ hs' hd λe S' a2 w2 k2 hq hs2=>?_
 cases e with
 |normal=>
  obtain⟨i',hR',hlt,hsub'⟩:=hq
  obtain⟨k3,hs3⟩:=hsub' B N a2 w2 k2 hs2
  exact⟨μ i',hlt,i',k3,hR',rfl,hs3⟩
 |_=>
  obtain⟨S2,hsub2,hq⟩:=hq
  obtain⟨k3,hs3⟩:=hsub2 B N a2 w2 k2 hs2
  exact hQ _ S2 a2 w2 k3 hq hs3
def zrg(P:Program):List Oper->St->(St->Prop)->Prop
 |[],S,K=>K S
 |o::r,S,K=>match o.guard with
  |none=>Vstep P S o λS'=>zrg P r S' K
  |some _=>False
theorem znk{Q:Exit->Act->World->Prop}{l:List Oper}(hN: ∀o∈l,∀d,o.dst=some d->d<N): ∀{rest:List Oper} {S:St} {a:Act} {w:World} {k:Kp} {K:St->Prop},(∀o∈rest,o∈l)->Sat B N S a w k->zrg P rest S K->
  (∀S' a' w' k',K S'->Sat B N S' a' w' k'->Q .normal a' w')->wpList P l.toArray Q rest a w
 |[],S,a,w,k,K,_,hs,h,hQ=>wpList_nil (hQ S a w k h hs)
 |o::r,S,a,w,k,K,hin,hs,h,hQ=>by
  have hr: ∀o'∈r,o'∈l:=λo' ho=>hin o' (by simp[ho])
  simp only[zrg]at h
  split at h
  ·rename_i hg
   unfold wpList
   rw[if_pos (by simp[Region.wanted,hg])]
   obtain⟨ι,S',hy,hK⟩:=h
   exact .inl (Oper.wp_mono (λa' w' ⟨i,k',hs'⟩=>znk hN hr hs' (hK i) hQ) (hy B N a w k Q hs (hN o (hin o (by simp)))))
  ·exact h.elim
theorem Vcode.steps{id:Nat}{ops:Array Oper}{Q:Exit->St->Prop}(h:zrg P ops.toList S (Q .normal)):Vcode P (.region id ops false) S Q:=by
 refine⟨λB N a w k Q' hs hd hQ=>?_⟩
 have hN: ∀o∈ops.toList,∀d,o.dst=some d->d<N:=λo ho d hod=>by
  simp only[zau,List.all_eq_true]at hd
  have h1:=hd o ho
  simp only[hod]at h1
  exact Nat.le_of_ble_eq_true h1
 exact wp_region_list (znk (Q:=Q') hN (λ_ h=>h) hs h λS' a' w' k' hq hs'=>hQ _ S' a' w' k' hq hs')
theorem Vstep.step{K:St->Prop}(hT:TOk P T)(h:zea P T S o K):Vstep P S o K:=by
 refine⟨{S':St//K S'},Subtype.val,λB N a w k Q hs hd=>Oper.wp_mono ?_ (zdr hT hs hd h),λi=>i.2⟩
 rintro a' w' ⟨S',k',hK,hs'⟩
 exact⟨⟨_,hK⟩,k',hs'⟩
theorem zuh{f:FuncId}{fn:Func}{args:List RV}{res:Res}{c:Code}(hT:TOk P T)(hf:P.funcs[f]?=some fn)(hb:fn.body=some c)
  (hk:(Nat.ble args.length fn.ntmps&&(zau fn.ntmps c&& !(fn.name== "runtime.NumGoroutine")))=true)
  (h:Vcode P c (St.args args) λe S=>∃S',Sub S S'/\finv T fn.results res e S'):zab P f args res:=by
 simp only[Bool.and_eq_true,Nat.ble_eq,Bool.not_eq_true',beq_eq_false_iff_ne]at hk
 obtain⟨hn,hd,hname⟩:=hk
 refine⟨⟨fn,c,hf,hb,hname⟩,λw k vs hp=>?_⟩
 refine calls_of_wp hf hb ?_
 refine h.out ⟨w,k,[],[]⟩ fn.ntmps _ w k _ (zho hp hn) hd λe S0 a' w' k0 ⟨S',hsub,hq⟩ hs0=>?_
 obtain⟨k',hs'⟩:=hsub _ _ _ _ _ hs0
 exact zlu hT hq hs'
def zif(P:Program)(f:FuncId)(args:List RV){ι:Type}(n:Nat)(O:ι->List (Nat×Option Ow))(r:ι->TF):Prop:=
 zkn P f/\∀w k vs,RV.partsAt w k args vs->Calls P f vs.toArray w λe w'=>∃i v,e= .returned v/\Ext w w'/\∃(k':Kp) (g:Env),(∀b,b<w.heap.size->k' b=k b)/\
  Own w' k' g n (O i)/\(∀id o b,oget (O i) id=some o->(g id).2=some b->w.heap.size<=b)/\(r i).at_ w' k' g v
theorem zj1{f:FuncId}{fn:Func}{args:List RV}{c:Code}{ι:Type}{n:Nat}{O:ι->List (Nat×Option Ow)}{r:ι->TF}(hT:TOk P T)(hf:P.funcs[f]?=some fn)(hb:fn.body=some c)
  (hk:(Nat.ble args.length fn.ntmps&&(zau fn.ntmps c&& !(fn.name== "runtime.NumGoroutine")))=true)
  (h:Vcode P c (St.args args) λe S=>(e= .ret\/e= .normal)/\∃i S',Sub S S'/\S'.nx=n/\(∃E,S'.O=O i++E)/\retT T fn.results.toList S' (r i)):zif P f args n O r:=by
 simp only[Bool.and_eq_true,Nat.ble_eq,Bool.not_eq_true',beq_eq_false_iff_ne]at hk
 obtain⟨hn,hd,hname⟩:=hk
 refine⟨⟨fn,c,hf,hb,hname⟩,λw k vs hp=>?_⟩
 refine calls_of_wp hf hb ?_
 refine h.out ⟨w,k,[],[]⟩ fn.ntmps _ w k _ (zho hp hn) hd λe S0 a' w' k0 ⟨hex,i,S',hsub,hnx,⟨E,hO⟩,hq⟩ hs0=>?_
 have fin:a'.defers=[]/\∃v,(results fn a'.tmps).run P w'= .ok v w'/\(λ(e:Ending) w'=>∃i v,e= .returned v/\Ext w w'/\∃(k':Kp) (g:Env),(∀b,b<w.heap.size->k' b=k b)/\
   Own w' k' g n (O i)/\(∀id o b,oget (O i) id=some o->(g id).2=some b->w.heap.size<=b)/\(r i).at_ w' k' g v) (.returned v) w':=by
  obtain⟨k',g,hs'⟩:=hsub _ _ _ _ _ hs0
  obtain⟨v,hv,hat⟩:=zxn hT hs' hq
  refine⟨hs'.defers,v,hv,i,v,rfl,⟨hs'.keep.os,hs'.keep.tape,hs'.keep.output,hs'.keep.size,λb hb=>hs'.keep.block b hb (by simp)⟩,k',g,λb hb=>hs'.kk b hb (by simp),⟨λid o ho=>?_,?_⟩,λid o b ho hbb=>?_,hat⟩
  ·obtain⟨q1,q2,q3,q4⟩:=hs'.owns id o (by rw[hO];exact zcj ho)
   rw[hnx]at q1 q2
   exact⟨q1,q2,q3,λb hb=>(q4 b hb).2⟩
  ·exactλi j oi oj b hi hj=>hs'.apart i j oi oj b (by rw[hO];exact zcj hi) (by rw[hO];exact zcj hj)
  ·rcases((hs'.owns id o (by rw[hO];exact zcj ho)).2.2.2 b hbb).1 with h |h
   ·exact h
   ·simp at h
 rcases hex with rfl |rfl
 ·exact fin
 ·exact fin
def Ow.free:Ow->Prop
 | .box _=>False
 |_=>True
theorem Ow.free_at{g':Env}{vb:Value×Option Nat}: ∀{o:Ow},o.free->o.at_ w k g vb->o.at_ w k g' vb
 | .box _,h,_=>h.elim
 | .ch ..,_,h=>h
 | .gen _,_,h=>h
theorem Ow.free_lt{n:Nat}: ∀{o:Ow},o.free->o.lt n
 | .box _,h=>h.elim
 | .ch ..,_=>trivial
 | .gen _,_=>trivial
def Env.join(g g1:Env)(n:Nat):Env:=λi=>if i<n then g i else g1 (i-n)
theorem Env.join_lt{g1:Env}{n:Nat}: ∀i,i<n->g.join g1 n i=g i:=λi hi=>if_pos hi
theorem Env.join_new{g1:Env}{n:Nat}(j:Nat):g.join g1 n (n+j)=g1 j:=by unfold Env.join;rw[if_neg (by omega)];congr 1;omega
theorem SatE.join(hs:SatE B N S a w k g){w':World}{k':Kp}{g1:Env}{n:Nat}{O1 X:List (Nat×Option Ow)}(he:Ext w w')(hk: ∀b,b<w.heap.size->k' b=k b)(ho:Own w' k' g1 n O1)
  (hn: ∀id o b,oget O1 id=some o->(g1 id).2=some b->w.heap.size<=b)
  (hX: ∀id o,oget X id=some o->oget S.O id=some o\/(∃j,id=S.nx+j/\j<n/\oget O1 j=some o/\o.free)):
  SatE B N ⟨S.F,X,S.nx+n⟩ a w' k' (g.join g1 S.nx):=by
 have h1:=hs.ext he hk
 have hset: ∀i,i<S.nx->g.join g1 S.nx i=g i:=Env.join_lt
 have hnew: ∀j,g.join g1 S.nx (S.nx+j)=g1 j:=Env.join_new
 refine⟨h1.size,h1.defers,h1.keep,h1.kk,λt f hf=>?_,λid o hx=>?_,λi j oi oj b hi hj hne hbi=>?_⟩
 ·have:=h1.facts t f hf
  exact⟨TF.lt_mono (Nat.le_add_right _ _) this.1,TF.env hset this.1 this.2⟩
 ·rcases hX id o hx with h |⟨j,rfl,hj,h,hfr⟩
  ·obtain⟨q1,q2,q3,q4⟩:=h1.owns id o h
   have hlt:=q1
   exact⟨Nat.lt_of_lt_of_le q1 (Nat.le_add_right _ _),Ow.lt_mono (Nat.le_add_right _ _) q2,by rw[hset id hlt];exact Ow.env hset q2 q3,by rw[hset id hlt];exact q4⟩
  ·obtain⟨q1,q2,q3,q4⟩:=ho.owns j o h
   refine⟨Nat.add_lt_add_left hj _,Ow.free_lt hfr,by rw[hnew];exact Ow.free_at hfr q3,λb hb=>?_⟩
   rw[hnew]at hb
   exact⟨.inl (Nat.le_trans hs.keep.size (hn j o b h hb)),q4 b hb⟩
 ·rcases hX i oi hi with hi |⟨ji,rfl,hji,hi,_⟩
  ·rw[hset i (hs.owns i oi hi).1]at hbi
   rcases hX j oj hj with hj |⟨jj,rfl,hjj,hj,_⟩
   ·rw[hset j (hs.owns j oj hj).1];exact h1.apart i j oi oj b hi hj hne hbi
   ·rw[hnew]
    intro hbj
    have:=((hs.owns i oi hi).2.2.2 b hbi).2
    have:=hn jj oj b hj hbj
    omega
  ·rw[hnew]at hbi
   rcases hX j oj hj with hj |⟨jj,rfl,hjj,hj,_⟩
   ·rw[hset j (hs.owns j oj hj).1]
    intro hbj
    have:=((hs.owns j oj hj).2.2.2 b hbj).2
    have:=hn ji oi b hi hbi
    omega
   ·rw[hnew];exact ho.apart ji jj oi oj b hi hj (λe=>hne (by rw[e])) hbi
theorem Vstep.callF{xs:Array Operand}{ts:Array TypeId}{f:FuncId}{vs args:List RV}{ι:Type}{n:Nat}{O:ι->List (Nat×Option Ow)}{r:ι->TF}{K:St->Prop}(hop:o.op= .call {callee:= .value (.func f),args:=xs,argTypes:=ts})
  (hx:oprs S xs.toList=some vs) (hc:Cvs vs args) (hg:zif P f args n O r) (X:ι->List (Nat×Option Ow)) (r':ι->TF)
  (hX: ∀i id o,oget (X i) id=some o->oget S.O id=some o\/(∃j,id=S.nx+j/\j<n/\oget (O i) j=some o/\o.free))
  (hr: ∀i,(r' i).lt (S.nx+n)/\∀w k g1 v,(r i).at_ w k g1 v->∀g2:Env,(∀j,g2 (S.nx+j)=g1 j)->(r' i).at_ w k g2 v)
  (hK: ∀i,K (St.put ⟨S.F,X i,S.nx+n⟩ o.dst (r' i))):Vstep P S o K:=by
 refine⟨ι,λi=>St.put ⟨S.F,X i,S.nx+n⟩ o.dst (r' i),λB N a w k Q ⟨g,hs⟩ hd=>?_,hK⟩
 obtain⟨⟨fn,c,hf,hb,hnm⟩,hg⟩:=hg
 unfold Oper.wp
 have hr0:(execOp a.eval o).run P w=(callFunc f (xs.toList.map a.eval).toArray).run P w:=by
  have hargs':xs.map a.eval=(xs.toList.map a.eval).toArray:=by apply Array.ext';simp
  simp[execOp,hop,resolve,Act.eval,Deferred.ofValue,invoke,hargs']
 rw[hr0,zc7 hf hb hnm]
 simp only[Oper.upon]
 refine(hg w k _ (hc.at_ (zib hs hx))).mono ?_
 rintro e w' ⟨i,v,rfl,hext,k',g1,hk',hown,hnew,hres⟩
 have hs2:=hs.join hext hk' hown hnew (hX i)
 exact⟨i,k',_,hs2.put hd (hr i).1 ((hr i).2 _ _ _ _ hres _ λj=>Env.join_new j)⟩
theorem SatE.raise{n:Nat}(hs:SatE B N S a w k g)(hn:S.nx<=n):SatE B N ⟨S.F,S.O,n⟩ a w k g:=
 ⟨hs.size,hs.defers,hs.keep,hs.kk,λt f hf=>⟨TF.lt_mono hn (hs.facts t f hf).1,(hs.facts t f hf).2⟩,λid o h=>by
  obtain⟨q1,q2,q3,q4⟩:=hs.owns id o h
  exact⟨Nat.lt_of_lt_of_le q1 hn,Ow.lt_mono hn q2,q3,q4⟩,hs.apart⟩
theorem Vstep.callFx(nx':Nat){xs:Array Operand}{ts:Array TypeId}{f:FuncId}{vs args:List RV}{ι:Type}{n:Nat}{O:ι->List (Nat×Option Ow)}{r:ι->TF}{K:St->Prop}(hnx:S.nx+n<=nx')(hop:o.op= .call {callee:= .value (.func f),args:=xs,argTypes:=ts})
  (hx:oprs S xs.toList=some vs) (hc:Cvs vs args) (hg:zif P f args n O r) (X:ι->List (Nat×Option Ow)) (r':ι->TF)
  (hX: ∀i id o,oget (X i) id=some o->oget S.O id=some o\/(∃j,id=S.nx+j/\j<n/\oget (O i) j=some o/\o.free))
  (hr: ∀i,(r' i).lt nx'/\∀w k g1 v,(r i).at_ w k g1 v->∀g2:Env,(∀j,g2 (S.nx+j)=g1 j)->(r' i).at_ w k g2 v)
  (hK: ∀i,K (St.put ⟨S.F,X i,nx'⟩ o.dst (r' i))):Vstep P S o K:=by
 refine⟨ι,λi=>St.put ⟨S.F,X i,nx'⟩ o.dst (r' i),λB N a w k Q ⟨g,hs⟩ hd=>?_,hK⟩
 obtain⟨⟨fn,c,hf,hb,hnm⟩,hg⟩:=hg
 unfold Oper.wp
 have hr0:(execOp a.eval o).run P w=(callFunc f (xs.toList.map a.eval).toArray).run P w:=by
  have hargs':xs.map a.eval=(xs.toList.map a.eval).toArray:=by apply Array.ext';simp
  simp[execOp,hop,resolve,Act.eval,Deferred.ofValue,invoke,hargs']
 rw[hr0,zc7 hf hb hnm]
 simp only[Oper.upon]
 refine(hg w k _ (hc.at_ (zib hs hx))).mono ?_
 rintro e w' ⟨i,v,rfl,hext,k',g1,hk',hown,hnew,hres⟩
 have hs2:=(hs.join hext hk' hown hnew (hX i)).raise hnx
 exact⟨i,k',_,hs2.put hd (hr i).1 ((hr i).2 _ _ _ _ hres _ λj=>Env.join_new j)⟩
theorem Vstep.callG{xs:Array Operand}{ts:Array TypeId}{f:FuncId}{vs args:List RV}{ι:Type}{n:Nat}{p:ι->GOw}{r:ι->RV}{K:St->Prop}(hop:o.op= .call {callee:= .value (.func f),args:=xs,argTypes:=ts})
  (hx:oprs S xs.toList=some vs) (hc:Cvs vs args) (hg:zif P f args n (λi=>[(0,some (.gen (p i)))]) λi=> .r (r i)) (hn:0<n)
  (hK: ∀i,newK ⟨S.F,(S.nx,some (.gen (p i)))::S.O,S.nx+n⟩ o.dst (.r (r i)) none K):Vstep P S o K:=by
 refine Vstep.callF hop hx hc hg (λi=>(S.nx,some (.gen (p i)))::S.O) (λi=> .r (r i)) (λi id o h=>?_) (λi=>⟨trivial,λw k g1 v h g2 _=>h⟩) λi=>?_
 ·rcases zal h with⟨rfl,e⟩ |⟨_,h⟩
  ·cases e;exact .inr ⟨0,rfl,hn,rfl,trivial⟩
  ·exact .inl h
 ·have:=hK i
  rw[zat]at this
  exact this
end
section
variable {P:Program} {T:TT} {B:Bs} {N:Nat} {S:St} {a:Act} {w:World} {k:Kp} {g:Env} {o:Oper}
def zdi(l:List Int)(v:Option Addr×Nat):GOw where
 at_ w k vb:=vb.1= .slice v.1 l.length v.2/\chAt w k 3 1 l.length (l.map I) false vb.1 vb.2
 mono h hb hc:=⟨hc.1,chAt.mono h hb hc.2⟩
 one hc:=by rw[hc.1];rfl
def tO(base:Nat)(τ:Nat->Option Addr×Nat)(ls:Nat->List Int):Nat->List (Nat×Option Ow)
 |0=>[]
 |n+1=>(n+base,some (.gen (zdi (ls n) (τ n))))::tO base τ ls n
theorem zc4{base:Nat}{τ:Nat->Option Addr×Nat}{ls:Nat->List Int}: ∀{n id:Nat} {o:Ow},oget (tO base τ ls n) id=some o->∃x,x<n/\id=x+base/\o= .gen (zdi (ls x) (τ x))
 |0,_,_,h=>by simp[tO,oget]at h
 |n+1,id,o,h=>by
  simp only[tO]at h
  rcases zal h with⟨rfl,e⟩ |⟨_,h⟩
  ·cases e;exact⟨n,by omega,rfl,rfl⟩
  ·obtain⟨x,hx,e1,e2⟩:=zc4 h
   exact⟨x,by omega,e1,e2⟩
theorem zbm{O:List (Nat×Option Ow)}{d t:Nat}{f:Option Ow}(h:d≠t):oget ((d,f)::O) t=oget O t:=by rw[oget,zij h]
theorem zz0{O:List (Nat×Option Ow)}{d:Nat}{f:Option Ow}:oget ((d,f)::O) d=f:=by simp[oget]
theorem zby{base:Nat}{τ:Nat->Option Addr×Nat}{ls:Nat->List Int}: ∀{n x:Nat},x<n->oget (tO base τ ls n) (x+base)=some (.gen (zdi (ls x) (τ x)))
 |n+1,x,h=>by
  rcases Nat.lt_or_ge x n with hx |hx
  ·rw[tO,zbm (by omega)];exact zby hx
  ·obtain rfl:x=n:=by omega
   rw[tO,zz0]
theorem zpk{O E:List (Nat×Option Ow)}{id:Nat}{o:Ow}(h:oget (O++E) id=some o):oget O id=some o\/oget E id=some o:=by
 induction O with
 |nil=>exact .inr h
 |cons x r ih=>
  obtain⟨x1,x2⟩:=x
  rw[List.cons_append]at h
  rcases zal h with⟨rfl,rfl⟩ |⟨hne,h⟩
  ·exact .inl (zz0)
  ·rw[zbm hne];exact ih h
theorem zu9{ρ:List (Nat×Nat)}(hs:SatE B N S a w k g){g':Env}(hg: ∀i j,zax ρ i=some j->g' i=g j){f f':TF}{u:Value}(h:cvTF ρ S f f')(hf:f.at_ w k g u):f'.at_ w k g' u:=by
 have h1:=znt hs h hf
 have key: ∀id,(∃j,zax ρ id=some j)->g' id=renv ρ g id:=λid ⟨j,hj⟩=>by rw[hg id j hj];simp[renv,hj]
 cases f' with
 |r v=>exact h1
 |own id=>
  have: ∃j,zax ρ id=some j:=by unfold cvTF at h;simp only at h;split at h<;>first|exact⟨_,by assumption⟩|exact h.elim
  simp only[TF.at_]at h1⊢;rw[key id this];exact h1
 |adr id off=>
  have: ∃j,zax ρ id=some j:=by unfold cvTF at h;simp only at h;split at h<;>first|exact⟨_,by assumption⟩|exact h.elim
  simp only[TF.at_]at h1⊢;rw[key id this];exact h1
 |nm id v=>
  have: ∃j,zax ρ id=some j:=by unfold cvTF at h;simp only at h;split at h<;>first|exact⟨_,by assumption⟩|exact h.elim
  simp only[TF.at_]at h1⊢;rw[key id this];exact h1
 |cut id off n=>
  have: ∃j,zax ρ id=some j:=by unfold cvTF at h;simp only at h;split at h<;>first|exact⟨_,by assumption⟩|exact h.elim
  simp only[TF.at_]at h1⊢;rw[key id this];exact h1
theorem zol{ρ:List (Nat×Nat)}: ∀{cs ds:List TF},ze1 ρ S cs ds->ds.length=cs.length/\∀(j:Nat) (d:TF),ds[j]?=some d->∃c,cs[j]?=some c/\cvTF ρ S c d
 |[],ds,h=>by simp only[ze1]at h;subst h;exact⟨rfl,λj d h=>by simp at h⟩
 |c::cs,ds,h=>by
  simp only[ze1]at h
  obtain⟨d,ds',rfl,h1,h2⟩:=h
  obtain⟨hl,hg⟩:=zol h2
  refine⟨by simp[hl],λj e he=>?_⟩
  cases j with
  |zero=>simp at he;subst he;exact⟨c,rfl,h1⟩
  |succ j=>exact hg j e (by simpa using he)
theorem z6g{ρ:List (Nat×Nat)}(hs:SatE B N S a w k g){g':Env}(hg: ∀i j,zax ρ i=some j->g' i=g j){o o':Ow}{vb:Value×Option Nat}(h:cvOw ρ S o o')(ho:o.at_ w k g vb):o'.at_ w k g' vb:=by
 cases o with
 |box cs=>
  cases o' with
  |box ds=>
   simp only[Ow.at_]at ho⊢
   obtain⟨b,cur,t,e,hh,hk,hsz,hall⟩:=ho
   obtain⟨hl,hc⟩:=zol h
   refine⟨b,cur,t,e,hh,hk,by rw[hsz,hl],λj f u hf hu=>?_⟩
   obtain⟨c,hcj,hcv⟩:=hc j f hf
   exact⟨(hall j c u hcj hu).1,zu9 hs hg hcv (hall j c u hcj hu).2⟩
  |ch=>exact h.elim
  |gen=>exact h.elim
 |gen p=>
  cases o' with
  |gen q=>exact h w k _ ho
  |box=>exact h.elim
  |ch=>exact h.elim
 |ch e sz n cs pub=>
  cases o' with
  |box=>exact h.elim
  |gen=>exact h.elim
  |ch e' sz' n' ds pub'=>
   obtain⟨rfl,rfl,rfl,rfl,hcs⟩:=h
   obtain⟨r1,r2⟩:=ho
   have hlen:ds.length=cs.length:=Cvs.length hcs
   refine⟨by rw[hlen];exact r1,?_⟩
   rcases r2 with⟨h0,r2 |⟨hn,hp,b,o,e,hm,hb,hc⟩⟩ |⟨b,cap,cur,e1,e2,hh,s1,s2,s3,s4,s5⟩
   ·exact .inl ⟨h0, .inl r2⟩
   ·exact .inl ⟨h0, .inr ⟨hn,hp,b,o,e,hm,hb,hcs.cells hc⟩⟩
   ·exact .inr ⟨b,cap,cur,e1,e2,hh,s1,s2,s3,s4,hcs.list s5⟩
theorem zgy(ρ:List (Nat×Nat))(σ:Nat->Nat){S:St}{F':List (Nat×TF)}{O' tl:List (Nat×Option Ow)}{nx':Nat}(h0:stOk ρ ⟨F',O',nx'⟩=true)(h1:zh4 ρ S F')(h2:zix ρ S O')
  (ht: ∀id o,oget tl id=some o->id<nx'/\o.free/\zax ρ id=none/\oget S.O (σ id)=some o/\∀x∈ρ,x.2≠σ id)
  (hσ: ∀i j o o',oget tl i=some o->oget tl j=some o'->σ i=σ j->i=j):Sub S ⟨F',O'++tl,nx'⟩:=by
 intro B N a w k ⟨g,hs⟩
 simp only[stOk,Bool.and_eq_true,List.all_eq_true]at h0
 obtain⟨⟨⟨hF,hO⟩,hn2⟩,_⟩:=h0
 obtain⟨g',hg'⟩: ∃g':Env,g'= λi=>match zax ρ i with
  |some j=>g j
  |none=>g (σ i):=⟨_,rfl⟩
 have hg1: ∀i j,zax ρ i=some j->g' i=g j:=λi j h=>by rw[hg'];simp only[h]
 have hg2: ∀i,zax ρ i=none->g' i=g (σ i):=λi h=>by rw[hg'];simp only[h]
 clear hg'
 refine⟨k,g',hs.size,hs.defers,hs.keep,hs.kk,λt f hf=>?_,λid o ho=>?_,λi j o o' b hi hj hne hbi hbj=>?_⟩
 ·obtain⟨⟨f',hf',hc⟩,hm⟩:=zjo h1 hf
  exact⟨zm1 (hF _ hm),zu9 hs hg1 hc (hs.facts t f' hf').2⟩
 ·rcases zpk ho with ho |ho
  ·obtain⟨⟨j,o',hj,ho',hc⟩,hm⟩:=zcb h2 ho
   have hlt:=hO _ hm
   obtain⟨q1,q2,q3,q4⟩:=hs.owns j o' ho'
   refine⟨by have:=hlt.1;simp[Nat.blt]at this;show id<nx';omega,zpm hlt.2,?_,by rw[hg1 id j hj];exact q4⟩
   rw[hg1 id j hj]
   exact z6g hs hg1 hc q3
  ·obtain⟨t1,t2,t3,t4,_⟩:=ht id o ho
   obtain⟨q1,q2,q3,q4⟩:=hs.owns (σ id) o t4
   exact⟨t1,Ow.free_lt t2,by rw[hg2 id t3];exact Ow.free_at t2 q3,by rw[hg2 id t3];exact q4⟩
 ·have src: ∀i o,oget (O'++tl) i=some o->∃s os,oget S.O s=some os/\g' i=g s/\((zax ρ i=some s)\/(zax ρ i=none/\s=σ i/\∃o,oget tl i=some o)):=λi o hi=>by
   rcases zpk hi with hi |hi
   ·obtain⟨⟨s,os,hj,ho',_⟩,_⟩:=zcb h2 hi
    exact⟨s,os,ho',hg1 i s hj, .inl hj⟩
   ·obtain⟨_,_,t3,t4,_⟩:=ht i o hi
    exact⟨σ i,o,t4,hg2 i t3, .inr ⟨t3,rfl,o,hi⟩⟩
  obtain⟨si,osi,e1,e2,e3⟩:=src i o hi
  obtain⟨sj,osj,f1,f2,f3⟩:=src j o' hj
  rw[e2]at hbi
  rw[f2]at hbj
  refine hs.apart si sj osi osj b e1 f1 (λe=>?_) hbi hbj
  subst e
  rcases e3 with e3 |⟨e3,e4,oi,e5⟩
  ·rcases f3 with f3 |⟨f3,f4,oj,f5⟩
   ·exact hne (zna (zbn hn2) e3 f3)
   ·exact(ht j oj f5).2.2.2.2 (i,si) (zfv e3) f4
  ·rcases f3 with f3 |⟨f3,f4,oj,f5⟩
   ·exact(ht i oi e5).2.2.2.2 (j,si) (zfv f3) e4
   ·exact hne (hσ i j oi oj e5 f5 (e4.symm.trans f4))
theorem Vstep.lateN(id t:Nat){l:List Int}(ho:oget S.O id=some (.ch 3 1 l.length (l.map I) false))(ht:fget S.F t=some (.own id)){K:St->Prop}
  (h: ∀v:Option Addr×Nat,Vstep P ⟨(t, .r (.x (.slice v.1 l.length v.2)))::S.F,(id,some (.gen (zdi l v)))::S.O,S.nx⟩ o K):Vstep P S o K:=by
 refine⟨Σ x:Option Addr×Nat,(h x).out.choose,λx=>(h x.1).out.choose_spec.choose x.2,λB N a w k Q hs0 hd=>?_,λx=>(h x.1).out.choose_spec.choose_spec.2 x.2⟩
 obtain⟨g,hs⟩:=hs0
 obtain⟨hid,_,hat,hblk⟩:=hs.owns id _ ho
 simp only[Ow.at_]at hat
 have⟨v,hv⟩: ∃v:Option Addr×Nat,(g id).1= .slice v.1 l.length v.2:=by
  obtain⟨_,⟨h1,⟨h2,p,h3⟩ |⟨_,h2,_⟩⟩ |⟨b,cap,cur,h1,h2,_⟩⟩:=hat
  ·exact⟨(p,0),by rw[h3,h2]⟩
  ·cases h2
  ·exact⟨(some ⟨b,0,none⟩,cap),h2⟩
 have hs1:Sat B N ⟨(t, .r (.x (.slice v.1 l.length v.2)))::S.F,(id,some (.gen (zdi l v)))::S.O,S.nx⟩ a w k:=by
  refine⟨g,hs.size,hs.defers,hs.keep,hs.kk,λt' f hf=>?_,λi o' hi=>?_,λi j oi oj b hi hj hne=>?_⟩
  ·rcases za5 hf with⟨rfl,rfl⟩ |⟨_,hf⟩
   ·refine⟨trivial,?_⟩
    have:=(hs.facts _ _ ht).2
    simp only[TF.at_]at this
    simp only[TF.at_,RV.at_];rw[this,hv]
   ·exact hs.facts t' f hf
  ·rcases zal hi with⟨rfl,e⟩ |⟨_,hi⟩
   ·cases e
    exact⟨hid,trivial,⟨hv,hat⟩,hblk⟩
   ·exact hs.owns i o' hi
  ·have: ∀i oi,oget ((id,some (Ow.gen (zdi l v)))::S.O) i=some oi->∃oi',oget S.O i=some oi':=λi oi h=>by
    rcases zal h with⟨rfl,_⟩ |⟨_,h⟩
    ·exact⟨_,ho⟩
    ·exact⟨_,h⟩
   obtain⟨_,hi⟩:=this i oi hi
   obtain⟨_,hj⟩:=this j oj hj
   exact hs.apart i j _ _ b hi hj hne
 refine Oper.wp_mono ?_ ((h v).out.choose_spec.choose_spec.1 B N a w k Q hs1 hd)
 rintro a' w' ⟨i,k',hs'⟩
 exact⟨⟨v,i⟩,k',hs'⟩
end
abbrev Node.cx(n:Node)(v:Option Addr×Nat):List RV:=[U8 n.kind,bs n.leaf.box,bs n.leaf.sign,bs n.leaf.ident,U8 n.leaf.src,bs n.leaf.parent,bs n.leaf.sig,bs n.par.box,bs n.par.hash, .x (.slice v.1 n.par.late.length v.2)]
theorem z69(n:Node)(hn:n.fit):zif aP 42 [.ag n.c] 2 (λv:Option Addr×Nat=>[(0,some (.gen (zdi n.par.late v)))]) (λv=> .r (.ag (n.cx v))):=by
 refine zj1 Tab_ok Tryz.func42 rfl (by kernel_rfl) (Vcode.vcg mixed Tab_ok ?_)
 obtain⟨h1,h2⟩:=hn
 refine za rfl rfl ?_
 refine ze (zcx n.leaf h1) ?_
 refine Vdraw.cut 12 (by kernel_rfl) ?_
 refine ze (zin n.par.box (by have:=h2.1;omega)) ?_
 refine ze (zin n.par.hash (by have:=h2.2.1;omega)) ?_
 refine ze (zs7 n.par.late (by have:=h2.2.2.1;omega)) ?_
 refine Vstep.lateN 4 18 rfl rfl λv=>Vstep.val Tab_ok ?_
 refine za rfl rfl ?_
 exact⟨.inl rfl,v,⟨[(2, .own 1)],[(0,some (.gen (zdi n.par.late v))),(1,some (.box ((n.cx v).map .r)))],2⟩,zac [(0,4),(1,1)] rfl ⟨rfl,trivial⟩ ⟨λ_ _ _ h=>h,(aD (aB aZ)),trivial⟩,rfl,⟨_,rfl⟩,za rfl rfl (cr)⟩
end Go.Proofs.YtpcfoglfakeimaaGreat.Sx
