import Derived.Test.YtkegaaonpekkgaaGreatXqTi
import Derived.Test.YtkegaaonpekkgaaGreatXqNx
import Derived.Test.YtkegaaonpekkgaaGreatXqTb
import Derived.Test.YtkegaaonpekkgaaGreatXqSxFl
import Derived.Test.YtkegaaonpekkgaaGreatXqMe
import Derived.Test.YtkegaaonpekkgaaGreatXqKa
import Derived.Test.YtkegaaonpekkgaaGreatXqSxY
import Derived.Shelf.RegionOpenPlain
import Derived.Lib.Walk
import Derived.Lib.SliceRun
import Derived.Lib.Overlaps
import Derived.Laws.Externs
import Derived.Laws.IdiomCopy
import Derived.Lib.AppendZerosOnto
import Derived.Laws.NewBlocks
import Derived.Test.YtkegaaonpekkgaaGreatXqHg
import Derived.Test.YtkegaaonpekkgaaGreatXqKg
import Derived.Test.YtkegaaonpekkgaaGreatXqKu
import Derived.Test.YtkegaaonpekkgaaGreatXqEt
import Derived.Test.YtkegaaonpekkgaaGreatXqSxU
namespace Go.Proofs.YtkegaaonpekkgaaGreat.Sx
open Go.RowKit
abbrev V3:=List Int×List Int×Bool
def jR(p:Nat->Nat->List Int->V3)(i:Int)(only:Bool)(h how:Nat)(n:Node)(late:List Int)(j:Nat):V3:=
 if how=0/\sI (2*i) (nd h j)=true then p j 0 []
 else if how=0/\only=true then([],[(nd h j:Int)],true)
 else if how=0\/(how=1/\n.kind.toNat=0)then p j 1 []
 else if late.any (λu=>sI (2*u) (nd h j))=true then p j 2 late
 else([],[(nd h j:Int)],true)
def rU(O:List Spot)(i:Int)(only:Bool):Nat->Nat->Nat->List Int->V3
 |0,k,_,_=>match xP O (nd 0 k)with
  |none=>([],[],false)
  |some _=>([(nd 0 k:Int)],[],true)
 |h+1,k,how,late=>match xP O (nd (h+1) k)with
  |none=>([],[],false)
  |some n=>
   let a:=jR (λj w l=>rU O i only h j w l) i only h how n (if how=1 then n.par.late else late) (2*k)
   let b:=jR (λj w l=>rU O i only h j w l) i only h how n (if how=1 then n.par.late else late) (2*k+1)
   (a.1++[(nd (h+1) k:Int)]++b.1,a.2.1++b.2.1,a.2.2&&b.2.2)
theorem Un{p:Nat->Nat->List Int->V3}{b:Nat}(hb:1<=b)(hp: ∀j w l,(p j w l).1.length<=b/\(p j w l).2.1.length<=b)(i:Int)(only:Bool)(h how:Nat)(n:Node)(late:List Int)(j:Nat):(jR p i only h how n late j).1.length<=b/\(jR p i only h how n late j).2.1.length<=b:=by
 unfold jR
 split
 ·exact hp _ _ _
 ·split
  ·exact⟨by simp,by simpa using hb⟩
  ·split
   ·exact hp _ _ _
   ·split
    ·exact hp _ _ _
    ·exact⟨by simp,by simpa using hb⟩
theorem T9(O:List Spot)(i:Int)(only:Bool): ∀(h k how:Nat) (late:List Int),(rU O i only h k how late).1.length<=2^(h+1)-1/\(rU O i only h k how late).2.1.length<=2^(h+1)-1
 |0,k,how,late=>by
  simp only[rU]
  split<;>simp
 |h+1,k,how,late=>by
  simp only[rU]
  have hp:0<2^(h+1):=Nat.pow_pos (by omega)
  have e:2^(h+1+1)=2*2^(h+1):=by rw[Nat.pow_succ 2 (h+1)];omega
  split
  ·simp
  ·rename_i n _
   have h2:2<=2^(h+1):=by rw[Nat.pow_succ];have:0<2^h:=Nat.pow_pos (by omega);omega
   have key: ∀q:Nat->Nat->List Int->V3,(∀j w l,(q j w l).1.length<=2^(h+1)-1/\(q j w l).2.1.length<=2^(h+1)-1)->
     ((jR q i only h how n (if how=1 then n.par.late else late) (2*k)).1++[(nd (h+1) k:Int)]++(jR q i only h how n (if how=1 then n.par.late else late) (2*k+1)).1).length<=2^(h+1+1)-1/\
     ((jR q i only h how n (if how=1 then n.par.late else late) (2*k)).2.1++(jR q i only h how n (if how=1 then n.par.late else late) (2*k+1)).2.1).length<=2^(h+1+1)-1:=λq hq=>by
    have a:=Un (b:=2^(h+1)-1) (by omega) hq i only h how n (if how=1 then n.par.late else late) (2*k)
    have b:=Un (b:=2^(h+1)-1) (by omega) hq i only h how n (if how=1 then n.par.late else late) (2*k+1)
    simp only[aL,bJ,bO]
    omega
   exact key _ λj w l=>T9 O i only h j w l
theorem jB(l m:List Int)(hl:l.length<=1000000000)(hm:m.length<=1000000000):aG 494 [is l,is m] (.r (.b (decide (l=m)))):=by
 refine aT Tryz.func494 rfl ?_
 by_cases hlen:l.length=m.length
 ·refine cX ?_ (by simp only[zb];omega)
  refine zy (λi:Nat=>⟨[(0,.r (is l)),(1,.r (is m)),(12,.r (I l.length)),(13,.r (I i))],[],0⟩) (λi=>i<=l.length/\l.take i=m.take i) (λi=>l.length-i) 0 ⟨by omega,by simp⟩ (zM []) ?_
  rintro i ⟨hi,he⟩
  refine cZ (λh=>?_) λh=>?_
  ·simp only[zb]at h
   have h1:i<l.length:=by omega
   have h2:i<m.length:=by omega
   refine aV ?_
   refine cV (xn rfl h1) (zg rfl ?_)
   refine cV (xn rfl h2) (zg rfl ?_)
   refine cZ (λh3=>?_) λh3=>?_
   ·simp only[zb]at h3
    refine zf (cR RV.b (Eq.symm ?_))
    rw[decide_eq_false_iff_not]
    intro e
    subst e
    exact h3 rfl
   ·simp only[zb]at h3
    refine zd (m:=((i+1:Nat):Int)) (by omega) (by omega) ?_
    refine⟨i+1,⟨h1,?_⟩,by omega,zM []⟩
    rw[bX h1,bX h2,he,h3]
  ·simp only[zb]at h
   refine zf (cR RV.b (Eq.symm ?_))
   rw[decide_eq_true_eq,<-bF (show l.length<=i by omega),he,bF (by omega)]
 ·refine cY ?_ (by simp only[zb];omega)
  refine zf (cR RV.b (Eq.symm ?_))
  rw[decide_eq_false_iff_not]
  exactλe=>hlen (by rw[e])
def mt(O:List Spot)(x:Int):Bool:=match xP O x with
 |some n=>decide (n.kind.toNat=1)
 |none=>false
def tb(leaves own:Int)(O:List Spot)(H:List Stub)(only:Bool):Bool:=
 sK leaves&&(decide (0<=own)&&(decide (own<leaves)&&(mt O (2*own)&&(O.all (λs=>sJ s.at_ s.node)&&(H.all (λs=>decide (s.hash.length=32))&&
  ((rU O own only leaves.toNat.log2 0 0 []).2.2&&(decide ((rU O own only leaves.toNat.log2 0 0 []).1=xS (O.map (·.at_)))&&decide ((rU O own only leaves.toNat.log2 0 0 []).2.1=xS (H.map (·.at_))))))))))
abbrev UQ(leaves own:Int)(O:List Spot)(H:List Stub):RV:= .ag [I leaves,I own,.s (wD (wm O)),.s (wD (wx H))]
theorem ic(O:List Spot):(wm O).map (·.1)=O.map (·.at_):=by simp[wm]
theorem jM(H:List Stub):(wx H).map (·.1)=H.map (·.at_):=by simp[wx]
theorem SG{α:Type}{p:α->Bool}{l:List α}(h: ∀j,j<l.length->∀x,l[j]?=some x->p x=true):l.all p=true:=by
 rw[List.all_eq_true]
 intro x hx
 obtain⟨j,hj⟩:=List.getElem?_of_mem hx
 exact h j (List.getElem?_eq_some_iff.1 hj).1 x hj
theorem oA{S:St}{id i im gh:Nat}{m:Value}{ents:List (Int×RV)}{cells:List TF}(ho:ye S.O im=some (.gen (qT ents)))(hgh:yl S.F gh=some (.nm im m))(hb:ye S.O id=some (.box cells))(hc:cells[i]?=some (.r (.x m)))(hne:id≠im):
  Sub S ⟨S.F,(id,some (.box (cells.set i (.r (.s (wD ents))))))::(im,none)::S.O,S.nx⟩:=by
 intro B N a w k h0
 obtain⟨k',⟨g,hs⟩,hat,_⟩:=eY ho hgh h0
 have hid:ye ((im,none)::S.O) id=some (.box cells):=by
  simp only[ye]
  split
  ·rename_i hb;exact absurd (bI hb).symm hne
  ·exact hb
 have old: ∀x ox,ye ((id,some (Ow.box (cells.set i (.r (.s (wD ents))))))::(im,none)::S.O) x=some ox->∃ox',ye ((im,none)::S.O) x=some ox':=λx ox hx=>by
  rcases yD hx with⟨rfl,_⟩ |⟨_,h'⟩
  ·exact⟨_,hid⟩
  ·exact⟨_,h'⟩
 refine⟨k',g,hs.size,hs.defers,hs.keep,hs.kk,hs.facts,λj o' ho'=>?_,λx y ox oy b hx hy hne hb=>?_⟩
 ·rcases yD ho' with⟨rfl,e'⟩ |⟨_,h'⟩
  ·cases e'
   obtain⟨q1,q2,q3,q4⟩:=hs.owns _ _ hid
   refine⟨q1,λf hf=>?_,?_,q4⟩
   ·rcases List.mem_or_eq_of_mem_set hf with hf |rfl
    ·exact q2 f hf
    ·exact True.intro
   ·obtain⟨b,cur,t,e1,e2,e3,e4,e5⟩:=q3
    refine⟨b,cur,t,e1,e2,e3,by simpa using e4,λj f u hf hu=>?_⟩
    rw[List.getElem?_set]at hf
    split at hf
    ·rename_i hij
     subst hij
     split at hf
     ·cases hf
      obtain⟨u1,u2⟩:=e5 i _ u hc hu
      simp only[TF.at_,RV.at_]at u2
      refine⟨u1,?_⟩
      simp only[TF.at_]
      rw[u2]
      exact hat
     ·cases hf
    ·exact e5 j f u hf hu
  ·exact hs.owns j o' h'
 ·obtain⟨ox',hx'⟩:=old x ox hx
  obtain⟨oy',hy'⟩:=old y oy hy
  exact hs.apart x y ox' oy' b hx' hy' hne hb
abbrev M7:RV:= .ag [I 0,I 0,.x (.map none),.x (.map none)]
def uv(a:Int):List Int->Int
 |[]=>a
 |x::r=>uv x r
def uG(a:Int):List Int->Bool
 |[]=>true
 |x::r=>decide (a<x)&&uG x r
theorem jS(x:Int): ∀(l:List Int) (a:Int),uv a (l++[x])=x
 |[],a=>rfl
 |y::r,a=>by simp only[List.cons_append,uv];exact jS x r y
theorem oD(x:Int): ∀(l:List Int) (a:Int),uG a (l++[x])=(uG a l&&decide (uv a l<x))
 |[],a=>by show(decide (a<x)&&true)=(true&&decide (a<x));rw[Bool.and_true,Bool.true_and]
 |y::r,a=>by show(decide (a<y)&&uG y (r++[x]))=((decide (a<y)&&uG y r)&&decide (uv y r<x));rw[oD x r y,Bool.and_assoc]
theorem dk: ∀(l m:List Int) (a:Int),uG a (l++m)=(uG a l&&uG (uv a l) m)
 |[],m,a=>by show uG a m=(true&&uG a m);rw[Bool.true_and]
 |y::r,m,a=>by show(decide (a<y)&&uG y (r++m))=((decide (a<y)&&uG y r)&&uG (uv y r) m);rw[dk r m y,Bool.and_assoc]
theorem SH: ∀(l:List Int) (a:Int),uG a l=true->a<=uv a l/\∀y∈l,a<y/\y<=uv a l
 |[],a,_=>⟨Int.le_refl _,λy h=>by cases h⟩
 |x::r,a,h=>by
  simp only[uG,bB,decide_eq_true_eq]at h
  obtain⟨h1,h2⟩:=SH r x h.2
  refine⟨by simp only[uv];omega,λy hy=>?_⟩
  simp only[uv]
  rcases List.mem_cons.1 hy with rfl |hy
  ·exact⟨h.1,h1⟩
  ·have:=h2 y hy
   exact⟨by omega,this.2⟩
theorem Vg{l:List Int}{a x:Int}(h:uG a l=true)(hx:uv a l<x):x∉l:=λhm=>by
 have:=((SH l a h).2 x hm).2
 omega
theorem dP: ∀{ents:List (Int×RV)} {n:Int},n∉ents.map (·.1)->wV ents n=none
 |[],n,_=>rfl
 |(m,r)::l,n,h=>by
  simp only[cJ,List.mem_cons,not_or]at h
  simp only[wV]
  rw[cQ (λe=>h.1 e.symm)]
  exact dP h.2
theorem rI{α β:Type}(f:α->β){l:List α}{j:Nat}(h:j<l.length):(l.take (j+1)).map f=(l.take j).map f++[f l[j]]:=by
 rw[bX h,bM];rfl
def Vi(s:Lean_):List Int:=s.opn.map (·.at_)
def Vh(s:Lean_):List Int:=s.shut.map (·.at_)
def oU(s:Lean_):Bool:=uG (-1) (Vi s)&&uG (-1) (Vh s)
def lean0:Lean_:=⟨0,0,[],[]⟩
def YZ(s:Lean_):Lean_:=if oU s=true then s else lean0
abbrev Lean_.pr(s:Lean_):RV:=UQ s.leaves s.own s.opn s.shut
theorem M8:Cv M7 lean0.pr:=Cv.ag (zk (cr) (zk (cr) (zk (λw k v h=>by simp only[RV.at_]at h⊢;exact .inl ⟨h,rfl⟩) (zk (λw k v h=>by simp only[RV.at_]at h⊢;exact .inl ⟨h,rfl⟩) zA))))
structure Lean_.bd (s:Lean_):Prop where
 nl:i64 s.leaves
 no:i64 s.own
 lo:s.opn.length<=1000000
 lh:s.shut.length<=1000000
 ao: ∀x∈s.opn,i64 x.at_
 ah: ∀x∈s.shut,i64 x.at_
 fo: ∀x∈s.opn,x.node.fit
 fh: ∀x∈s.shut,x.hash.length<=1000000000
abbrev BU(b1 b2:Nat)(s:Lean_)(j i:Nat):List (Nat×Option Ow):=[(0,some (.box (s.c.map .r))),(1,some (.box [.r (I 0),.r (I 0),.r (.x (.map none)),.r (.x (.map none))])),(2,some (.gen (qT (wm (s.opn.take j))))),(3,some (.gen (qT (wx (s.shut.take i))))),(4,some (.box [.r (I s.leaves),.r (I s.own),.r (.x (.map (some b1))),.r (.x (.map (some b2)))]))]
set_option maxHeartbeats 4000000 in
theorem OS(s:Lean_)(hb:s.bd):aG 456 [.ag s.c] (.r (.tu [(YZ s).pr,.b (oU s)])):=by
 refine yT (T:=Tab) mixed Tab_ok Tryz.func456 rfl (by kernel_rfl) ?_
 have hlo:=hb.lo
 have hlh:=hb.lh
 have bad:oU s=false->Cv (.tu [M7,.b false]) (.tu [(YZ s).pr,.b (oU s)]):=λh=>by
  have:YZ s=lean0:=by unfold YZ;rw[h];simp
  rw[this,h]
  exact Cv.tu (zk M8 (zn _))
 refine Vcode.run Tab_ok ?_
 refine Vstep.mapMk 2000001 rfl λb1=>?_
 refine Vstep.mapMk 2000002 rfl λb2=>?_
 refine Vloop.mkx (λj:Nat=>⟨[(1,.own 0),(2,.own 1),(4,.own 4),(5,.r (I (uv (-1) ((s.opn.take j).map (·.at_))))),(18,.r (ZU s.opn)),(19,.r (I s.opn.length)),(20,.r (I j)),(2000001,.nm 2 (.map (some b1))),(2000002,.nm 3 (.map (some b2)))],BU b1 b2 s j 0,5⟩) (λj=>j<=s.opn.length/\uG (-1) ((s.opn.take j).map (·.at_))=true) (λj=>s.opn.length-j) 0 ⟨by omega,rfl⟩ (zN [(0,0),(1,1),(2,2),(3,3),(4,4)] ⟨(aC aZ),(aC aZ),λ_ _ _ hh=>hh,λ_ _ _ hh=>hh,(aC aZ),trivial⟩) ?_
 rintro j ⟨hj,hasc⟩
 refine cZ (λh=>?_) λh=>?_
 ·simp only[zb]at h
  have hj':j<s.opn.length:=by omega
  have hai:=hb.ao s.opn[j] (bY hj')
  have hsn:=rI Spot.at_ hj'
  refine cV (uK (f:=Spot.c) (λ_=>rfl) rfl hj') ?_
  refine cU ?_
  refine cZ (λh2=>?_) λh2=>?_
  ·simp only[zb]at h2
   refine⟨_,zo _,?_⟩
   refine⟨_,zo _,?_⟩
   refine cU ?_
   have hf:oU s=false:=by
    have e:Vi s=((s.opn.take (j+1)).map (·.at_))++(s.opn.drop (j+1)).map (·.at_):=by unfold Vi;rw[<-bM,List.take_append_drop]
    have h3:decide (uv (-1) ((s.opn.take j).map (·.at_))<s.opn[j].at_)=false:=bD (by omega)
    unfold oU
    rw[e,dk,hsn,oD,h3]
    simp
   exact⟨_,rfl,bad hf⟩
  ·simp only[zb]at h2
   have hlt:uv (-1) ((s.opn.take j).map (·.at_))<s.opn[j].at_:=by omega
   refine cU ?_
   have hk:(wm (s.opn.take j)).map (·.1)=(s.opn.take j).map (·.at_):=ic _
   refine Vstep.mapPut 2 2000001 rfl rfl rfl rfl rfl rfl rfl jh nJ (dP (by rw[hk];exact Vg hasc hlt)) ?_
   refine zd (m:=((j+1:Nat):Int)) (by omega) (by omega) ?_
   have hsN:wm (s.opn.take (j+1))=wm (s.opn.take j)++[(s.opn[j].at_,.ag s.opn[j].node.c)]:=rI _ hj'
   refine⟨j+1,⟨by omega,by rw[hsn,oD,hasc,bE hlt];rfl⟩,by omega,zX [(0,0),(1,1),(2,2),(3,3),(4,4)] rfl ⟨rfl,rfl,rfl,zf (by rw[hsn,jS]),cr,cr,cr,⟨rfl,rfl⟩,⟨rfl,rfl⟩,trivial⟩ ⟨(aC aZ),(aC aZ),λ_ _ _ hh=>by rw[hsN];exact hh,λ_ _ _ hh=>hh,(aC aZ),trivial⟩⟩
 simp only[zb]at h
 rw[bF (by omega)]at hasc
 refine⟨_,zo _,?_⟩
 refine Vloop.mkx (λi:Nat=>⟨[(1,.own 0),(2,.own 1),(4,.own 4),(5,.r (I (uv (-1) ((s.shut.take i).map (·.at_))))),(39,.r (Og s.shut)),(40,.r (I s.shut.length)),(41,.r (I i)),(2000001,.nm 2 (.map (some b1))),(2000002,.nm 3 (.map (some b2)))],BU b1 b2 s s.opn.length i,5⟩) (λi=>i<=s.shut.length/\uG (-1) ((s.shut.take i).map (·.at_))=true) (λi=>s.shut.length-i) 0 ⟨by omega,rfl⟩ (zN [(0,0),(1,1),(2,2),(3,3),(4,4)] ⟨(aC aZ),(aC aZ),λ_ _ _ hh=>by rw[bF (bQ _)];rw[bF (by omega)]at hh;exact hh,λ_ _ _ hh=>hh,(aC aZ),trivial⟩) ?_
 clear h hj
 rintro i ⟨hi,hasc2⟩
 refine cZ (λh=>?_) λh=>?_
 ·simp only[zb]at h
  have hi':i<s.shut.length:=by omega
  have hsn:=rI Stub.at_ hi'
  refine cV (uK (f:=Stub.c) (λ_=>rfl) rfl hi') ?_
  refine cU ?_
  refine cZ (λh2=>?_) λh2=>?_
  ·simp only[zb]at h2
   refine⟨_,zo _,?_⟩
   refine⟨_,zo _,?_⟩
   refine cU ?_
   have hf:oU s=false:=by
    have e:Vh s=((s.shut.take (i+1)).map (·.at_))++(s.shut.drop (i+1)).map (·.at_):=by unfold Vh;rw[<-bM,List.take_append_drop]
    have h3:decide (uv (-1) ((s.shut.take i).map (·.at_))<s.shut[i].at_)=false:=bD (by omega)
    unfold oU
    rw[e,dk,hsn,oD,h3]
    simp
   exact⟨_,rfl,bad hf⟩
  ·simp only[zb]at h2
   have hlt:uv (-1) ((s.shut.take i).map (·.at_))<s.shut[i].at_:=by omega
   have hk:(wx (s.shut.take i)).map (·.1)=(s.shut.take i).map (·.at_):=jM _
   refine Vstep.mapPut 3 2000002 rfl rfl rfl rfl rfl rfl rfl bj nJ (dP (by rw[hk];exact Vg hasc2 hlt)) ?_
   refine zd (m:=((i+1:Nat):Int)) (by omega) (by omega) ?_
   have hsN:wx (s.shut.take (i+1))=wx (s.shut.take i)++[(s.shut[i].at_,bs s.shut[i].hash)]:=rI _ hi'
   refine⟨i+1,⟨by omega,by rw[hsn,oD,hasc2,bE hlt];rfl⟩,by omega,zX [(0,0),(1,1),(2,2),(3,3),(4,4)] rfl ⟨rfl,rfl,rfl,zf (by rw[hsn,jS]),cr,cr,cr,⟨rfl,rfl⟩,⟨rfl,rfl⟩,trivial⟩ ⟨(aC aZ),(aC aZ),λ_ _ _ hh=>hh,λ_ _ _ hh=>by rw[hsN];exact hh,(aC aZ),trivial⟩⟩
 simp only[zb]at h
 rw[bF (by omega)]at hasc2
 refine⟨_,zo _,?_⟩
 refine cU ?_
 have hT:oU s=true:=by unfold oU Vi Vh;rw[hasc,hasc2];rfl
 have hP:YZ s=s:=cO hT
 rw[hT,hP]
 refine⟨_,Sub.trans (oA (id:=1) (i:=2) (im:=2) (gh:=2000001) rfl rfl rfl rfl (by decide)) (oA (id:=1) (i:=3) (im:=3) (gh:=2000002) rfl rfl rfl rfl (by decide)),?_⟩
 refine cU ?_
 exact⟨_,rfl,zf (by rw[bF (bQ _),bF (by omega)];rfl)⟩
def sR(s:Lean_):Bool:=oU s&&tb s.leaves s.own s.opn s.shut false
theorem CA{s:Lean_}(h:sR s=true):YZ s=s:=by
 unfold sR at h
 simp only[bB]at h
 exact cO h.1
structure Rung where
 at_:Int
 to:List Int
 side:cT
abbrev Rung.c(r:Rung):List RV:=[I r.at_,is r.to,bs r.side]
def ja(l:List Rung):RV:= .sl 3 l.length (l.flatMap Rung.c)
def PH(l:List Par):RV:= .sl 3 l.length (l.flatMap Par.c)
def zpr:Par:=⟨[],[],[]⟩
theorem eA:zpr.fit:=⟨by decide,by decide,by decide,λy hy=>by cases hy⟩
def Uj{α:Type}(q:α->Bool):Nat->List α->Int
 |_,[]=> -1
 |j,x::r=>if q x then(j:Int)else Uj q (j+1) r
abbrev Va(r:Rung):RV:= .ag r.c
theorem OQ(l:List Rung)(q:Rung->Bool)(hl:l.length<=1000000000):aG 384 [ja l,.s (um aP Va (λ_=>True) q)] (.r (I (Uj q 0 l))):=by
 refine aT Tryz.func384 rfl ?_
 refine zy (λj:Nat=>{F:=[(0,.r (ja l)),(1,.r (.s (um aP Va (λ_=>True) q))),(7,.r (I l.length)),(8,.r (I j))],O:=[],nx:=0}) (λj=>j<=l.length/\Uj q 0 l=Uj q j (l.drop j)) (λj=>l.length-j) 0 ⟨by omega,by simp⟩ (zM []) ?_
 rintro j ⟨hj,he⟩
 refine cZ (λh=>?_) λh=>?_
 ·simp only[zb]at h
  have hj':j<l.length:=by omega
  rw[cI hj']at he
  simp only[Uj]at he
  refine cV (uK (f:=Rung.c) (λ_=>rfl) rfl hj') ?_
  refine cU ?_
  refine Vstep.cloB l[j] rfl rfl rfl rfl (cr) trivial (λhq=>zp ?_) (λhq=>zq ?_)
  ·rw[hq]at he
   exact zf (by rw[he];simp)
  ·rw[hq]at he
   refine zd (m:=((j+1:Nat):Int)) (by omega) (by omega) ?_
   exact⟨j+1,⟨hj',by rw[he];simp⟩,by omega,zM []⟩
 ·simp only[zb]at h
  rw[List.drop_eq_nil_of_le (by omega)]at he
  exact zf (by rw[he];rfl)
theorem QC(r:Rung)(x:Spot):aG 385 [Va r,.ptr x.c] (.r (.b (decide (r.at_=x.at_)))):=by
 refine aT Tryz.func385 rfl ?_
 refine zg rfl ?_
 exact zG (m:=decide (r.at_=x.at_)) (by rw[cD];simp only[zb]) (cr)
abbrev AL(s:Lean_)(own:Leaf)(A:List Spot)(B:List Stub):List (Nat×Option Ow):=[(0,some (.box (s.c.map .r))),(1,some (.box (own.c.map .r))),(2,some (.box (zero4.map .r))),(3,some (.box [.r (I s.leaves),.r (I s.own),.own 4,.own 5])),(4,some (vA A)),(5,some (vC B))]
def wP{α:Type}(q:α->Bool):Nat->List α->Int
 |_,[]=> -1
 |j,x::r=>if q x then(j:Int)else wP q (j+1) r
theorem kG{α:Type}(q:α->Bool): ∀(l:List α) (j:Nat), -1<=wP q j l/\wP q j l< (j+l.length:Nat)/\(0<=wP q j l↔l.any q=true)
 |[],j=>by simp[wP];omega
 |x::r,j=>by
  have ih:=kG q r (j+1)
  rw[wP,List.any_cons,bJ]
  by_cases hq:q x=true
  ·rw[cO hq,hq]
   exact⟨by omega,by omega,by simp⟩
  ·rw[cQ hq,Bool.eq_false_iff.2 hq,Bool.false_or]
   exact⟨ih.1,by omega,ih.2.2⟩
theorem Cv.fn{P:Program}{α:Type}{f:FuncId}{arg:α->RV}{D:α->Prop}{q:α->Bool}(h: ∀x,D x->zW P f [arg x] (.r (.b (q x)))):Cv (.x (.func (.func f) #[] #[])) (.s (um P arg D q)):=λw k v hv=>by
 simp only[RV.at_]at hv⊢
 exact⟨f,[], #[],hv,rfl,h⟩
abbrev P8(n:Node):RV:= .ag n.c
theorem TY(l:List Node)(D:Node->Prop)(q:Node->Bool)(hl:l.length<=1000000000)(hD: ∀x∈l,D x):aG 443 [yS l,.s (um aP P8 D q)] (.r (I (wP q 0 l))):=by
 refine aT Tryz.func443 rfl ?_
 refine zy (λj:Nat=>{F:=[(0,.r (yS l)),(1,.r (.s (um aP P8 D q))),(7,.r (I l.length)),(8,.r (I j))],O:=[],nx:=0}) (λj=>j<=l.length/\wP q 0 l=wP q j (l.drop j)) (λj=>l.length-j) 0 ⟨by omega,by simp⟩ (zM []) ?_
 rintro j ⟨hj,he⟩
 refine cZ (λh=>?_) λh=>?_
 ·simp only[zb]at h
  have hj':j<l.length:=by omega
  rw[cI hj']at he
  simp only[wP]at he
  refine cV (Rn rfl hj') ?_
  refine cU ?_
  refine Vstep.cloB l[j] rfl rfl rfl rfl (cr) (hD _ (bY hj')) (λhq=>zp ?_) (λhq=>zq ?_)
  ·rw[hq]at he
   exact zf (by rw[he];simp)
  ·rw[hq]at he
   refine zd (m:=((j+1:Nat):Int)) (by omega) (by omega) ?_
   exact⟨j+1,⟨hj',by rw[he];simp⟩,by omega,zM []⟩
 ·simp only[zb]at h
  rw[List.drop_eq_nil_of_le (by omega)]at he
  exact zf (by rw[he];rfl)
theorem Y6(l:List Node)(D:Node->Prop)(q:Node->Bool)(hl:l.length<=1000000000)(hD: ∀x∈l,D x):aG 359 [yS l,.s (um aP P8 D q)] (.r (.b (l.any q))):=by
 refine aT Tryz.func359 rfl ?_
 refine ze (TY l D q hl hD) ?_
 exact zG rfl (zf (cR RV.b (by rw[cD,decide_eq_true_eq];exact(kG q l 0).2.2)))
def YR(n:Node):Bool:=decide (n.kind.toNat=1)
theorem LK(n:Node):aG 360 [P8 n] (.r (.b (YR n))):=by
 refine aT Tryz.func360 rfl ?_
 refine zG (m:=YR n) ?_ (cr)
 unfold YR
 rw[cD]
 simp only[zb]
 omega
theorem HU(l:List Node)(hl:l.length<=1000000000):aG 260 [yS l] (.r (.b (l.any YR))):=by
 refine aT Tryz.func260 rfl ?_
 refine zB (Y6 l (λ_=>True) YR hl λ_ _=>trivial) (zk (cr) (zk (Cv.fn λn _=>LK n) zA)) ?_
 exact cr
section
variable (lf:Leaf) (hlf:lf.fit) (hlr:lf.right=true)
abbrev L1(lf:Leaf):Node:=⟨1,lf,zpr⟩
theorem tE{lf:Leaf}(h:lf.fit):(L1 lf).fit:=⟨h,eA⟩
theorem dc{lf:Leaf}(h:lf.right=true):(L1 lf).right=true:=by
 show(if(1:UInt8).toNat=0 then _ else if(1:UInt8).toNat=1 then lf.right&&zpr.none else _)=true
 rw[cQ (by decide),cO (by decide),h]
 rfl
theorem qN:(0:Int)<=0:=by decide
theorem qO:(0:Int)< ((1:Nat):Int):=by decide
theorem BP: -9223372036854775808<=(2:Int)/\(2:Int)<=9223372036854775807:=by decide
theorem AB:1<=1000000000:=by decide
theorem oY:(([L1 lf].flatMap Node.c).drop ((0:Int).toNat*10)).take 10=(L1 lf).c:=Rn (l:=[L1 lf]) (j:=0) rfl (Nat.succ_pos _)
theorem mR:aG 258 [yS [L1 lf]] (.r (I 1)):=by
 refine aT Tryz.func258 rfl ?_
 refine zd (m:=2) rfl BP ?_
 refine⟨by decide,1,by decide,?_⟩
 refine⟨by decide,1,rfl,?_⟩
 refine zu rfl ?_
 refine z6 (Zf 1) (λ_=>cX ?_) (λh=>absurd h (by decide))
 exact cr
include hlf hlr in
theorem N9:aG 259 [yS [L1 lf]] (.r (.b true)):=by
 refine aT Tryz.func259 rfl ?_
 have hb:=d8 (L1 lf) (tE hlf)
 rw[cO (dc hlr)]at hb
 generalize uR (L1 lf)=q at hb
 refine zE 2 ?_
 refine zC mixed Tab_ok ?_
 refine cY ?_
 refine zm qN qO (oY lf) ?_
 refine cU ?_
 refine⟨by decide,0,by decide,?_⟩
 refine cX ?_
 refine cX ?_
 refine cU ?_
 refine ze hb ?_
 refine cX ?_
 refine zd (m:=1) rfl (by decide) ?_
 refine zC mixed Tab_ok ?_
 refine cX ?_
 exact cr
theorem Gr:aG 261 [yS [L1 lf],I 0] (.r (.b true)):=by
 refine aT Tryz.func261 rfl ?_
 refine ze (mR lf) ?_
 refine zm qN qO (oY lf) ?_
 refine zg rfl ?_
 refine zE 1 ?_
 refine zC mixed Tab_ok ?_
 refine cX ?_
 exact cr
include hlf hlr in
theorem mo:aG 175 [yS [L1 lf]] (.r (.b true)):=by
 refine aT Tryz.func175 rfl ?_
 have hs:=HU [L1 lf] AB
 have e:[L1 lf].any YR=true:=rfl
 rw[e]at hs
 refine ze (mR lf) ?_
 refine zu rfl ?_
 refine ze (N9 lf hlf hlr) ?_
 refine zu rfl ?_
 refine zt rfl ?_
 refine ze hs ?_
 refine zu rfl ?_
 refine zu rfl (zq ?_)
 refine zE 2 ?_
 refine zC mixed Tab_ok ?_
 refine zt rfl (zp ?_)
 refine ze (Gr lf) ?_
 refine zu rfl (zq ?_)
 refine zd (m:=1) rfl (by decide) ?_
 refine zC mixed Tab_ok ?_
 refine zu rfl (zq ?_)
 exact cr
theorem EF:aG 362 [yS [L1 lf]] (.r (is [0])):=by
 refine aT Tryz.func362 rfl ?_
 refine zE 2 ?_
 refine zC mixed Tab_ok ?_
 refine cY ?_
 refine zm qN qO (oY lf) ?_
 refine cU ?_
 refine cY ?_
 refine⟨by decide,0,by decide,?_⟩
 refine zw ?_
 refine z7 (j:=1) (zs:=[I 0]) (by decide) (by decide) rfl rfl ?_
 refine zd (m:=1) rfl (by decide) ?_
 refine zC mixed Tab_ok ?_
 refine cX ?_
 exact cr
include hlf hlr in
theorem QQ:aG 262 [yS [L1 lf]] (.r (is [0])):=by
 refine aT Tryz.func262 rfl ?_
 refine ze (mo lf hlf hlr) ?_
 refine cX ?_
 refine ze (EF lf) ?_
 exact cr
include hlf in
theorem Ra:aG 145 [yS [L1 lf]] (.r (yS [L1 lf])):=by
 refine aT Tryz.func145 rfl ?_
 refine zE 2 ?_
 refine zC mixed Tab_ok ?_
 refine cY ?_
 refine zm qN qO (oY lf) ?_
 refine cU ?_
 refine cU ?_
 refine ze (sL (L1 lf) (tE hlf) (ww _ hlf)) ?_
 refine zw ?_
 refine z7 (j:=1) (zs:=(L1 lf).c) (by decide) (by decide) rfl rfl ?_
 refine zd (m:=1) rfl (by decide) ?_
 refine zC mixed Tab_ok ?_
 refine cX ?_
 exact cr
end
structure Keys (P:Program) (kt:TypeId) {α:Type} (q:α->Value):Prop where
 desc: ∃kd,P.underlying kt=some kd/\∀a b,Instr.sameNow kd (q a) (q b)=some true/\a=b\/Instr.sameNow kd (q a) (q b)=some false/\a≠b
 bits: ∀a,Instr.sameBits 10000 (q a) (q a)=true
 chk: ∀(w:World) (e:Bool) a,(Instr.checkKey e 10000 kt (q a)).run P w= .ok () w
abbrev qI(n:Int):Value:= .int .i64 n
abbrev qS(l:cT):Value:= .string ⟨l.toArray⟩
section
variable {P:Program} {T:TT} {B:Bs} {N:Nat} {S:St} {a:Act} {w:World} {k:Kp} {g:Env} {o:Oper} {Q:Exit->Act->World->Prop}
theorem dp(x y:cT):((⟨x.toArray⟩:ByteArray)==⟨y.toArray⟩)=decide (x=y):=by
 show((x.toArray:Array UInt8)==y.toArray)=_
 by_cases h:x=y
 ·subst h;simp
 ·simp[h]
theorem WI{m:Nat}(l:cT):Instr.sameBits m (qS l) (qS l)=true:=by simp[Instr.sameBits,dp]
theorem S5{kt:TypeId}{v:Value}{b:Bool}{m:Nat}(hk:P.underlying kt=some .string):(Instr.checkKey b (m+1) kt v).run P w= .ok () w:=by
 simp[Instr.checkKey,run_underlying hk w]
theorem jQ{kt:TypeId}(hk:P.underlying kt=some .string):Keys P kt qS:=by
 refine⟨⟨_,hk,λx y=>?_⟩,λx=>WI x,λw e x=>S5 (m:=9999) hk⟩
 simp only[Instr.sameNow]
 by_cases h:x=y
 ·exact .inl ⟨by simp[h,dp],h⟩
 ·exact .inr ⟨by simp[h,dp],h⟩
section
variable {α:Type} {q:α->Value}
def entsG(q:α->Value)(w:World)(k:Kp):List (α×RV)->List MapEntry->Prop
 |[],es=>es=[]
 |(n,r)::l,es=>∃e t,es=e::t/\e.key=q n/\r.at_ w k e.val/\entsG q w k l t
theorem entsG.mono{w':World}{k':Kp}(h:Le w k w' k'): ∀{l:List (α×RV)} {es:List MapEntry},entsG q w k l es->entsG q w' k' l es
 |[],_,he=>he
 |(n,r)::l,_,⟨e,t,he,h1,h2,h3⟩=>⟨e,t,he,h1,RV.mono h _ _ h2,entsG.mono h h3⟩
theorem entsG.len: ∀{l:List (α×RV)} {es:List MapEntry},entsG q w k l es->es.length=l.length
 |[],_,he=>by simp only[entsG]at he;subst he;rfl
 |(n,r)::l,_,⟨e,t,he,h1,h2,h3⟩=>by subst he;simp[entsG.len h3]
def tS(q:α->Value)(ents:List (α×RV)):GOw where
 at_ w k vb:=∃b es c,vb=(.map (some b),some b)/\w.heap[b]?=some (.map es c)/\k b=0/\entsG q w k ents es.toList
 mono:=by
  rintro w k w' k' vb h hb ⟨b,es,c,rfl,hh,hk,he⟩
  have:=hb b rfl
  exact⟨b,es,c,rfl,this.1.trans hh,this.2.trans hk,he.mono h⟩
 len:=some ents.length
 lenOk:=by
  rintro w k vb n h ⟨b,es,c,rfl,hh,_,he⟩
  cases h
  exact⟨b,es,c,rfl,hh,by rw[<-bG];exact he.len⟩
 one:=by rintro w k vb ⟨b,es,c,rfl,_⟩;rfl
theorem Yld.mapGMk(q:α->Value){t:TypeId}(hop:o.op= .makeMap t none):Yld P S o (S.new o.dst (.own S.nx) (some (.gen (tS q [])))):=by
 intro B N a w k Q ⟨g,hs⟩ hd
 refine yG (v:= .map (some w.heap.size)) (w':=w.alloc (.map #[] 0)) (by simp[execOp,hop,Instr.makeMap,newObj];rfl) ⟨x6 k w.heap.size 0,_,hs.make hd (vj w _) (λb hb=>wR b hb) (vb:=(.map (some w.heap.size),some w.heap.size)) (o:= .gen (tS q [])) trivial ?_ λb hb=>?_⟩
 ·simp only[Ow.at_]
  exact⟨w.heap.size, #[],0,rfl,heap_alloc_new w _,wo,rfl⟩
 ·cases hb
  exact⟨bQ _,by simp⟩
theorem Vstep.mapGMk(q:α->Value){t:TypeId}{K:St->Prop}(hop:o.op= .makeMap t none)(hK:yI S o.dst (.own S.nx) (some (.gen (tS q []))) K):Vstep P S o K:=by
 rw[yJ]at hK
 exact zI (Yld.mapGMk q hop) hK
end
variable {α:Type} [DecidableEq α] {q:α->Value}
def Yg:List (α×RV)->α->Option RV
 |[],_=>none
 |(m,r)::l,n=>if m=n then some r else Yg l n
def lJ:List (α×RV)->α->RV->List (α×RV)
 |[],n,r=>[(n,r)]
 |(m,s)::l,n,r=>if m=n then(m,r)::l else(m,s)::lJ l n r
theorem Qs{kt:TypeId}(hK:Keys P kt q){kd:TypeDesc}(hd: ∀a b,Instr.sameNow kd (q a) (q b)=some true/\a=b\/Instr.sameNow kd (q a) (q b)=some false/\a≠b){n:α}{r:RV}{u:Value}(hr:r.at_ w k u):
  ∀{ents:List (α×RV)} {es:List MapEntry} (i:Nat),entsG q w k ents es->
  (Yg ents n=none/\Instr.findNow kd (q n) es i=some none/\∀c:Nat,entsG q w k (lJ ents n r) (es++[{key:=q n,val:=u,born:=c}]))\/
  (∃s j v,Yg ents n=some s/\Instr.findNow kd (q n) es i=some (some (i+j,v))/\s.at_ w k v/\(es[j]?.map (·.key))=some (q n)/\entsG q w k (lJ ents n r) (es.modify j λe=>{e with key:=q n,val:=u}))
 |[],es,i,he=>by
  simp only[entsG]at he
  subst he
  exact .inl ⟨rfl,rfl,λc=>⟨_,[],rfl,rfl,hr,rfl⟩⟩
 |(m,s)::l,es,i,he=>by
  obtain⟨e,t,rfl,h1,h2,h3⟩:=he
  rcases hd n m with⟨hs,rfl⟩ |⟨hs,hne⟩
  ·refine .inr ⟨s,0,e.val,by simp[Yg],by simp[Instr.findNow,h1,hs],h2,by simp[h1],?_⟩
   simp only[lJ,if_true,List.modify_zero_cons]
   exact⟨_,t,rfl,rfl,hr,h3⟩
  ·have hne': ¬m=n:=λe=>hne e.symm
   simp only[Yg,lJ,cQ hne',Instr.findNow,h1,hs]
   rcases Qs hK hd hr (i+1) h3 with⟨g1,g2,g3⟩ |⟨s',j,v,g1,g2,g3,g4,g5⟩
   ·exact .inl ⟨g1,g2,λc=>⟨e,_,rfl,h1,h2,g3 c⟩⟩
   ·refine .inr ⟨s',j+1,v,g1,by rw[g2,Nat.add_right_comm,Nat.add_assoc],g3,by simpa using g4,?_⟩
    rw[List.modify_succ_cons]
    exact⟨e,_,rfl,h1,h2,g5⟩
theorem Vstep.lookG{t kt et:TypeId}{x y:Operand}{id:Nat}{n:α}{ents:List (α×RV)}{z:Value}{f:TF}{K:St->Prop}(zr:RV)(hop:o.op= .lookup t x y false)(hx:yv S x=some (.own id))(ho:ye S.O id=some (.gen (tS q ents)))(hy:yv S y=some f)(hf:S.rv f=some (xT (q n)))(hq: ∀w k v,(xT (q n)).at_ w k v->v=q n)
  (hu:P.underlying t=some (.map kt et)) (hk:Keys P kt q) (hz:(P.info? et).bind (·.zero)=some z) (hzr: ∀w k,zr.at_ w k z)
  (hK:yI S o.dst (.r ((Yg ents n).getD zr)) none K):Vstep P S o K:=by
 rw[yJ]at hK
 refine zI (λB N a w k Q ⟨g,hs⟩ hd=>?_) hK
 have hv:=(yi hs hx).2
 have hn:=hq _ _ _ (tC hs hf (yi hs hy).2)
 simp only[TF.at_]at hv
 obtain⟨_,_,hat,_⟩:=hs.owns id _ ho
 simp only[Ow.at_]at hat
 obtain⟨b,es,c,e,hh,hkb,he⟩:=hat
 rw[e]at hv
 obtain⟨i,hi,hz⟩:=Option.bind_eq_some_iff.1 hz
 have zv:(zeroValue et).run P w= .ok z w:=by simp[zeroValue,typeInfo,hi,hz]
 obtain⟨kd,hkd,hd'⟩:=hk.desc
 rcases Qs hk hd' (n:=n) (hzr w k) 0 he with⟨g1,g2,_⟩ |⟨s,j,v,g1,g2,g3,_,_⟩
 ·have hfk:(Instr.findKey kt (q n) es.toList).run P w= .ok none w:=by simp[Instr.findKey,run_underlying hkd w,g2]
  have hrun:(Instr.lookup t (.map (some b)) (q n) false).run P w= .ok z w:=by
   simp[Instr.lookup,run_underlying hu w,hk.chk,hfk,zv,hh,getObj,Sem.run]
  exact yG (v:=z) (w':=w) (by simp[execOp,hop,hv,hn,hrun]) ⟨k,g,hs.put hd trivial (by rw[g1];exact hzr w k)⟩
 ·have hfk:(Instr.findKey kt (q n) es.toList).run P w= .ok (some (0+j,v)) w:=by simp[Instr.findKey,run_underlying hkd w,g2]
  have hrun:(Instr.lookup t (.map (some b)) (q n) false).run P w= .ok v w:=by
   simp[Instr.lookup,run_underlying hu w,hk.chk,hfk,hh,getObj,Sem.run]
  exact yG (v:=v) (w':=w) (by simp[execOp,hop,hv,hn,hrun]) ⟨k,g,hs.put hd trivial (by rw[g1];exact g3)⟩
theorem Vstep.putG{t kt et:TypeId}{x y z:Operand}{id:Nat}{n:α}{ents:List (α×RV)}{f fy:TF}{r:RV}{K:St->Prop}(hop:o.op= .mapUpdate t x y z)(hx:yv S x=some (.own id))(ho:ye S.O id=some (.gen (tS q ents)))(hy:yv S y=some fy)(hf:S.rv fy=some (xT (q n)))(hq: ∀w k v,(xT (q n)).at_ w k v->v=q n)(hz:yv S z=some f)(hr:S.rv f=some r)
  (hu:P.underlying t=some (.map kt et)) (hk:Keys P kt q) (hK:ba S id (some (.gen (tS q (lJ ents n r)))) o.dst K):Vstep P S o K:=by
 rw[vF]at hK
 refine zI (λB N a w k Q ⟨g,hs⟩ hd=>?_) hK
 have hv:=(yi hs hx).2
 have hn:=hq _ _ _ (tC hs hf (yi hs hy).2)
 have hzv:=tC hs hr (yi hs hz).2
 simp only[TF.at_]at hv
 obtain⟨_,_,hat,_⟩:=hs.owns id _ ho
 simp only[Ow.at_]at hat
 obtain⟨b,es,c,e,hh,hkb,he⟩:=hat
 rw[e]at hv
 have hb:b<w.heap.size:=(Array.getElem?_eq_some_iff.1 hh).1
 obtain⟨kd,hkd,hd'⟩:=hk.desc
 have fin: ∀(es':Array MapEntry) (c':Nat),entsG q w k (lJ ents n r) es'.toList->(Instr.mapUpdate t (.map (some b)) (q n) (a.eval z)).run P w= .ok () {w with heap:=w.heap.setIfInBounds b (.map es' c')}->o.wp P a w (λa' w'=>∃k',yK B N ((S.set id (some (.gen (tS q (lJ ents n r))))).put o.dst (.r .any)) a' w' k') Q:=λes' c' hen hrun=>by
  let w':World:={w with heap:=w.heap.setIfInBounds b (.map es' c')}
  have hw:Wrote w k w' k (some b):=⟨rfl,rfl,rfl,by simp[w'],λx _ hne=>⟨by simp only[w'];rw[Array.getElem?_setIfInBounds_ne (λh=>hne (by rw[h]))],rfl⟩,λx hx=>by
   cases hx
   exact⟨bQ _,λo ho=>by omega,λh=>by omega⟩⟩
  have hnew:(Ow.gen (tS q (lJ ents n r))).at_ w' k g (g id):=by
   simp only[Ow.at_]
   exact⟨b,es',c',e,by simp only[w'];rw[Array.getElem?_setIfInBounds_self_of_lt hb],hkb,hen.mono hw.le⟩
  exact br (w':=w') (by simp[execOp,hop,hv,hn,hrun,w']) ⟨k,g,(hs.redo (ow':= .gen (tS q (lJ ents n r))) ho (by rw[e]) hw trivial hnew).drop⟩
 rcases Qs hk hd' (n:=n) hzv 0 he with⟨g1,g2,g3⟩ |⟨s,j,v,g1,g2,_,g4,g5⟩
 ·have hfk:(Instr.findKey kt (q n) es.toList).run P w= .ok none w:=by simp[Instr.findKey,run_underlying hkd w,g2]
  refine fin (es.push {key:=q n,val:=a.eval z,born:=c}) (c+1) (by rw[Array.toList_push];exact g3 c) ?_
  simp[Instr.mapUpdate,run_underlying hu w,hk.chk,hfk,hh,getObj,setObj,Sem.run]
 ·have hfk:(Instr.findKey kt (q n) es.toList).run P w= .ok (some (0+j,v)) w:=by simp[Instr.findKey,run_underlying hkd w,g2]
  refine fin (es.modify j λe=>{e with key:=q n,val:=a.eval z}) c (by rw[Array.toList_modify];exact g5) ?_
  have hkey:((es[j]?).map (·.key))=some (q n):=by rw[<-Array.getElem?_toList];exact g4
  have hst:(Instr.keyThatStays (q n) (q n)).run P w= .ok (q n) w:=by simp[Instr.keyThatStays,hk.bits]
  simp[Instr.mapUpdate,run_underlying hu w,hk.chk,hfk,hh,getObj,setObj,Sem.run,hkey,hst]
end
theorem SB{S:St}{t im gh:Nat}{m:Value}{ents:List (Int×RV)}(ho:ye S.O im=some (.gen (qT ents)))(hgh:yl S.F gh=some (.nm im m))(ht:yl S.F t=some (.r (.x m))):Sub S ⟨(t,.r (.s (wD ents)))::S.F,(im,none)::S.O,S.nx⟩:=by
 rintro B N a w k ⟨g0,h0⟩
 have hv:=(h0.facts t _ ht).2
 simp only[TF.at_,RV.at_]at hv
 obtain⟨k',⟨g,hs⟩,hat,_⟩:=eY ho hgh ⟨g0,h0⟩
 refine⟨k',g,hs.size,hs.defers,hs.keep,hs.kk,λt' f hf=>?_,hs.owns,hs.apart⟩
 rcases yO hf with⟨rfl,rfl⟩ |⟨_,hf⟩
 ·exact⟨trivial,by simp only[TF.at_,RV.at_];rw[hv];exact hat⟩
 ·exact hs.facts t' f hf
theorem eX{S:St}{j i id gh:Nat}{m:Value}{ow:Ow}{cells:List TF}(ho:ye S.O id=some ow)(hgh:yl S.F gh=some (.nm id m))(hj:ye S.O j=some (.box cells))(hi:cells[i]?=some (.r (.x m))):Sub S ⟨S.F,(j,some (.box (cells.set i (.own id))))::S.O,S.nx⟩:=by
 rintro B N a w k ⟨g,hs⟩
 have hnm:=(hs.facts gh _ hgh).2
 simp only[TF.at_]at hnm
 obtain⟨q1,q2,q3,q4⟩:=hs.owns j _ hj
 have hlo:=(hs.owns id _ ho).1
 have hnew:(Ow.box (cells.set i (.own id))).at_ w k g (g j):=by
  simp only[Ow.at_]at q3⊢
  obtain⟨b,cur,t,e1,e2,e3,e4,e5⟩:=q3
  refine⟨b,cur,t,e1,e2,e3,by rw[List.length_set];exact e4,λx f u hf hu=>?_⟩
  by_cases hx:i=x
  ·subst hx
   have hil:=(List.getElem?_eq_some_iff.1 hi).1
   rw[List.getElem?_set_self hil]at hf
   cases hf
   have h0:=e5 i _ u hi hu
   refine⟨h0.1,?_⟩
   have h1:=h0.2
   simp only[TF.at_,RV.at_]at h1⊢
   rw[h1,hnm]
  ·rw[List.getElem?_set_ne hx]at hf
   exact e5 x f u hf hu
 have hlt:(Ow.box (cells.set i (.own id))).lt S.nx:=λf hf=>by
  rcases List.mem_or_eq_of_mem_set hf with hf |rfl
  ·exact q2 f hf
  ·exact hlo
 have up: ∀x o',ye ((j,some (Ow.box (cells.set i (.own id))))::S.O) x=some o'->(x=j/\o'= .box (cells.set i (.own id)))\/(j≠x/\ye S.O x=some o'):=λx o' h=>by
  rcases yD h with⟨rfl,e⟩ |⟨hne,h⟩
  ·cases e;exact .inl ⟨rfl,rfl⟩
  ·exact .inr ⟨hne,h⟩
 have old: ∀x ox,ye ((j,some (Ow.box (cells.set i (.own id))))::S.O) x=some ox->∃ox',ye S.O x=some ox':=λx ox hx=>by
  rcases up x ox hx with⟨rfl,_⟩ |⟨_,hx⟩
  ·exact⟨_,hj⟩
  ·exact⟨ox,hx⟩
 refine⟨k,g,hs.size,hs.defers,hs.keep,hs.kk,hs.facts,λx o' hx=>?_,λx y o1 o2 b' hx hy hne hbx=>?_⟩
 ·rcases up x o' hx with⟨rfl,rfl⟩ |⟨_,hx⟩
  ·exact⟨q1,hlt,hnew,q4⟩
  ·exact hs.owns x o' hx
 ·obtain⟨p1,hp1⟩:=old x o1 hx
  obtain⟨p2,hp2⟩:=old y o2 hy
  exact hs.apart x y p1 p2 b' hp1 hp2 hne hbx
theorem Vstep.mapGMkN{P:Program}{S:St}{o:Oper}{α:Type}(q:α->Value){t:TypeId}{K:St->Prop}(gh:Nat)(hop:o.op= .makeMap t none)(hK: ∀b:Nat,yI ⟨(gh,.nm S.nx (.map (some b)))::S.F,(S.nx,some (.gen (tS q [])))::S.O,S.nx+1⟩ o.dst (.r (.x (.map (some b)))) none K):Vstep P S o K:=by
 simp only[yJ]at hK
 refine⟨Nat,_,λB N a w k Q hs0 hd=>Oper.wp_mono ?_ (show o.wp P a w (λa' w'=>∃b k',yK B N (St.put ⟨(gh,.nm S.nx (.map (some b)))::S.F,(S.nx,some (.gen (tS q [])))::S.O,S.nx+1⟩ o.dst (.r (.x (.map (some b))))) a' w' k') Q from ?_),hK⟩
 ·rintro a' w' ⟨b,k',h⟩;exact⟨b,k',h⟩
 obtain⟨g,hs⟩:=hs0
 refine yG (v:= .map (some w.heap.size)) (w':=w.alloc (.map #[] 0)) (by simp[execOp,hop,Instr.makeMap,newObj];rfl) ⟨w.heap.size,x6 k w.heap.size 0,?_⟩
 have hat:Ow.at_ (w.alloc (.map #[] 0)) (x6 k w.heap.size 0) g (.map (some w.heap.size),some w.heap.size) (.gen (tS q [])):=by
  simp only[Ow.at_]
  exact⟨w.heap.size, #[],0,rfl,heap_alloc_new w _,wo,rfl⟩
 have h:=hs.make (dst:=none) (λd e=>by cases e) (vj w (.map #[] 0)) (λb hb=>wR b hb) (vb:=(.map (some w.heap.size),some w.heap.size)) (o:= .gen (tS q [])) trivial hat (λb hb=>by
  cases hb
  exact⟨bQ _,by simp⟩)
 have h2:SatE B N ⟨(gh,.nm S.nx (.map (some w.heap.size)))::S.F,(S.nx,some (.gen (tS q [])))::S.O,S.nx+1⟩ a (w.alloc (.map #[] 0)) (x6 k w.heap.size 0) (g.set S.nx (.map (some w.heap.size),some w.heap.size)):=by
  refine⟨h.size,h.defers,h.keep,h.kk,λt' f hf=>?_,h.owns,h.apart⟩
  rcases yO hf with⟨rfl,rfl⟩ |⟨_,hf⟩
  ·exact⟨Nat.lt_succ_self _,by simp only[TF.at_,Env.set_eq]⟩
  ·exact h.facts t' f hf
 exact⟨_,h2.put hd trivial (by simp only[TF.at_,RV.at_])⟩
end Go.Proofs.YtkegaaonpekkgaaGreat.Sx
