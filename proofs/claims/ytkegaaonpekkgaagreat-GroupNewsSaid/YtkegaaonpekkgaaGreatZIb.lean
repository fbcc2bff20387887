import Derived.Test.YtkegaaonpekkgaaGreatZTi
import Derived.Test.YtkegaaonpekkgaaGreatZSxBx
import Derived.Test.YtkegaaonpekkgaaGreatZTb
import Derived.Test.YtkegaaonpekkgaaGreatZEr
import Derived.Test.YtkegaaonpekkgaaGreatZMe
import Derived.Test.YtkegaaonpekkgaaGreatZBytes
import Derived.Test.YtkegaaonpekkgaaGreatZKd
import Derived.Test.YtkegaaonpekkgaaGreatZSxY
import Derived.Shelf.RegionOpenPlain
import Derived.Lib.Walk
import Derived.Lib.SliceRun
import Derived.Lib.Overlaps
import Derived.Laws.Externs
import Derived.Laws.IdiomCopy
import Derived.Lib.AppendZerosOnto
import Derived.Laws.NewBlocks
import Derived.Test.YtkegaaonpekkgaaGreatZHg
import Derived.Test.YtkegaaonpekkgaaGreatZEt
import Derived.Test.YtkegaaonpekkgaaGreatZKu
import Derived.Test.YtkegaaonpekkgaaGreatZTl
namespace Go.Proofs.YtkegaaonpekkgaaGreat.Sx
open Go.RowKit
abbrev V3:=List Int×List Int×Bool
def kidV(p:Nat->Nat->List Int->V3)(i:Int)(only:Bool)(h how:Nat)(n:Node)(late:List Int)(j:Nat):V3:=
 if how=0/\ze1 (2*i) (nd h j)=true then p j 0 []
 else if how=0/\only=true then([],[(nd h j:Int)],true)
 else if how=0\/(how=1/\n.kind.toNat=0)then p j 1 []
 else if late.any (λu=>ze1 (2*u) (nd h j))=true then p j 2 late
 else([],[(nd h j:Int)],true)
def visV(O:List Spot)(i:Int)(only:Bool):Nat->Nat->Nat->List Int->V3
 |0,k,_,_=>match zbk O (nd 0 k)with
  |none=>([],[],false)
  |some _=>([(nd 0 k:Int)],[],true)
 |h+1,k,how,late=>match zbk O (nd (h+1) k)with
  |none=>([],[],false)
  |some n=>
   let a:=kidV (λj w l=>visV O i only h j w l) i only h how n (if how=1 then n.par.late else late) (2*k)
   let b:=kidV (λj w l=>visV O i only h j w l) i only h how n (if how=1 then n.par.late else late) (2*k+1)
   (a.1++[(nd (h+1) k:Int)]++b.1,a.2.1++b.2.1,a.2.2&&b.2.2)
theorem zx6{p:Nat->Nat->List Int->V3}{b:Nat}(hb:1<=b)(hp: ∀j w l,(p j w l).1.length<=b/\(p j w l).2.1.length<=b)(i:Int)(only:Bool)(h how:Nat)(n:Node)(late:List Int)(j:Nat):(kidV p i only h how n late j).1.length<=b/\(kidV p i only h how n late j).2.1.length<=b:=by
 unfold kidV
 split
 ·exact hp _ _ _
 ·split
  ·exact⟨by simp,by simpa using hb⟩
  ·split
   ·exact hp _ _ _
   ·split
    ·exact hp _ _ _
    ·exact⟨by simp,by simpa using hb⟩
theorem zz3(O:List Spot)(i:Int)(only:Bool): ∀(h k how:Nat) (late:List Int),(visV O i only h k how late).1.length<=2^(h+1)-1/\(visV O i only h k how late).2.1.length<=2^(h+1)-1
 |0,k,how,late=>by
  simp only[visV]
  split<;>simp
 |h+1,k,how,late=>by
  simp only[visV]
  have hp:0<2^(h+1):=Nat.pow_pos (by omega)
  have e:2^(h+1+1)=2*2^(h+1):=by rw[Nat.pow_succ 2 (h+1)];omega
  split
  ·simp
  ·rename_i n _
   have h2:2<=2^(h+1):=by rw[Nat.pow_succ];have:0<2^h:=Nat.pow_pos (by omega);omega
   have key: ∀q:Nat->Nat->List Int->V3,(∀j w l,(q j w l).1.length<=2^(h+1)-1/\(q j w l).2.1.length<=2^(h+1)-1)->
     ((kidV q i only h how n (if how=1 then n.par.late else late) (2*k)).1++[(nd (h+1) k:Int)]++(kidV q i only h how n (if how=1 then n.par.late else late) (2*k+1)).1).length<=2^(h+1+1)-1/\
     ((kidV q i only h how n (if how=1 then n.par.late else late) (2*k)).2.1++(kidV q i only h how n (if how=1 then n.par.late else late) (2*k+1)).2.1).length<=2^(h+1+1)-1:=λq hq=>by
    have a:=zx6 (b:=2^(h+1)-1) (by omega) hq i only h how n (if how=1 then n.par.late else late) (2*k)
    have b:=zx6 (b:=2^(h+1)-1) (by omega) hq i only h how n (if how=1 then n.par.late else late) (2*k+1)
    simp only[aL,List.length_cons,List.length_nil]
    omega
   exact key _ λj w l=>zz3 O i only h j w l
theorem zp7(l m:List Int)(hl:l.length<=1000000000)(hm:m.length<=1000000000):aG 494 [is l,is m] (.r (.b (decide (l=m)))):=by
 refine aT Tryz.func494 rfl ?_
 by_cases hlen:l.length=m.length
 ·refine zu (by simp only[zb];omega) (zq ?_)
  refine zy (λi:Nat=>⟨[(0, .r (is l)),(1, .r (is m)),(12, .r (I l.length)),(13, .r (I i))],[],0⟩) (λi=>i<=l.length/\l.take i=m.take i) (λi=>l.length-i) 0 ⟨by omega,by simp⟩ (zac [] rfl ⟨cr,cr,cr,cr,trivial⟩ trivial) ?_
  rintro i ⟨hi,he⟩
  refine zh (λh=>zp ?_) (λh=>zq ?_)
  ·simp only[zb]at h
   have h1:i<l.length:=by omega
   have h2:i<m.length:=by omega
   refine aV ?_
   refine zm (by omega) (by omega) (za3 rfl h1) (zg rfl ?_)
   refine zm (by omega) (by omega) (za3 rfl h2) (zg rfl ?_)
   refine zh (λh3=>zp ?_) (λh3=>zq ?_)
   ·simp only[zb]at h3
    refine zf (congrArg RV.b (Eq.symm ?_))
    rw[decide_eq_false_iff_not]
    intro e
    subst e
    exact h3 rfl
   ·simp only[zb]at h3
    refine zd (m:=((i+1:Nat):Int)) (by omega) (by omega) ?_
    refine⟨i+1,⟨h1,?_⟩,by omega,zac [] rfl ⟨cr,cr,cr,cr,trivial⟩ trivial⟩
    rw[List.take_succ_eq_append_getElem h1,List.take_succ_eq_append_getElem h2,he,h3]
  ·simp only[zb]at h
   refine zf (congrArg RV.b (Eq.symm ?_))
   rw[decide_eq_true_eq,<-List.take_of_length_le (show l.length<=i by omega),he,List.take_of_length_le (by omega)]
 ·refine zt (by simp only[zb];omega) (zp ?_)
  refine zf (congrArg RV.b (Eq.symm ?_))
  rw[decide_eq_false_iff_not]
  exactλe=>hlen (by rw[e])
def zi8(O:List Spot)(x:Int):Bool:=match zbk O x with
 |some n=>decide (n.kind.toNat=1)
 |none=>false
def zd3(leaves own:Int)(O:List Spot)(H:List Stub)(only:Bool):Bool:=
 zd9 leaves&&(decide (0<=own)&&(decide (own<leaves)&&(zi8 O (2*own)&&(O.all (λs=>ze2 s.at_ s.node)&&(H.all (λs=>decide (s.hash.length=32))&&
  ((visV O own only leaves.toNat.log2 0 0 []).2.2&&(decide ((visV O own only leaves.toNat.log2 0 0 []).1=zbo (O.map (·.at_)))&&decide ((visV O own only leaves.toNat.log2 0 0 []).2.1=zbo (H.map (·.at_))))))))))
abbrev zy0(leaves own:Int)(O:List Spot)(H:List Stub):RV:= .ag [I leaves,I own, .s (mapS (zbw O)), .s (mapS (zb2 H))]
theorem zmc(O:List Spot):(zbw O).map (·.1)=O.map (·.at_):=by simp[zbw]
theorem zly(H:List Stub):(zb2 H).map (·.1)=H.map (·.at_):=by simp[zb2]
theorem z1e{α:Type}{p:α->Bool}{l:List α}(h: ∀j,j<l.length->∀x,l[j]?=some x->p x=true):l.all p=true:=by
 rw[List.all_eq_true]
 intro x hx
 obtain⟨j,hj⟩:=List.getElem?_of_mem hx
 exact h j (List.getElem?_eq_some_iff.1 hj).1 x hj
theorem zhj{S:St}{id i im gh:Nat}{m:Value}{ents:List (Int×RV)}{cells:List TF}(ho:oget S.O im=some (.gen (mapO ents)))(hgh:fget S.F gh=some (.nm im m))(hb:oget S.O id=some (.box cells))(hc:cells[i]?=some (.r (.x m)))(hne:id≠im):
  Sub S ⟨S.F,(id,some (.box (cells.set i (.r (.s (mapS ents))))))::(im,none)::S.O,S.nx⟩:=by
 intro B N a w k h0
 obtain⟨k',⟨g,hs⟩,hat,_⟩:=zpv ho hgh h0
 have hid:oget ((im,none)::S.O) id=some (.box cells):=by
  simp only[oget]
  split
  ·rename_i hb;exact absurd (Nat.eq_of_beq_eq_true hb).symm hne
  ·exact hb
 have old: ∀x ox,oget ((id,some (Ow.box (cells.set i (.r (.s (mapS ents))))))::(im,none)::S.O) x=some ox->∃ox',oget ((im,none)::S.O) x=some ox':=λx ox hx=>by
  rcases zas hx with⟨rfl,_⟩ |⟨_,h'⟩
  ·exact⟨_,hid⟩
  ·exact⟨_,h'⟩
 refine⟨k',g,hs.size,hs.defers,hs.keep,hs.kk,hs.facts,λj o' ho'=>?_,λx y ox oy b hx hy hne hb=>?_⟩
 ·rcases zas ho' with⟨rfl,e'⟩ |⟨_,h'⟩
  ·cases e'
   obtain⟨q1,q2,q3,q4⟩:=hs.owns _ _ hid
   refine⟨q1,λf hf=>?_,?_,q4⟩
   ·rcases List.mem_or_eq_of_mem_set hf with hf |rfl
    ·exact q2 f hf
    ·exact True.intro
   ·obtain⟨b,cur,t,e1,e2,e3,e4,e5⟩:=q3
    refine⟨b,cur,t,e1,e2,e3,by simpa using e4,λj f u hf hu=>?_⟩
    rw[List.getElem?_set]at hf
    split at hf
    ·rename_i hij
     subst hij
     split at hf
     ·cases hf
      obtain⟨u1,u2⟩:=e5 i _ u hc hu
      simp only[TF.at_,RV.at_]at u2
      refine⟨u1,?_⟩
      simp only[TF.at_]
      rw[u2]
      exact hat
     ·cases hf
    ·exact e5 j f u hf hu
  ·exact hs.owns j o' h'
 ·obtain⟨ox',hx'⟩:=old x ox hx
  obtain⟨oy',hy'⟩:=old y oy hy
  exact hs.apart x y ox' oy' b hx' hy' hne hb
abbrev z9y:RV:= .ag [I 0,I 0, .x (.map none), .x (.map none)]
def zdf(a:Int):List Int->Int
 |[]=>a
 |x::r=>zdf x r
def ascL(a:Int):List Int->Bool
 |[]=>true
 |x::r=>decide (a<x)&&ascL x r
theorem zl2(x:Int): ∀(l:List Int) (a:Int),zdf a (l++[x])=x
 |[],a=>rfl
 |y::r,a=>by simp only[List.cons_append,zdf];exact zl2 x r y
theorem zhm(x:Int): ∀(l:List Int) (a:Int),ascL a (l++[x])=(ascL a l&&decide (zdf a l<x))
 |[],a=>by show(decide (a<x)&&true)=(true&&decide (a<x));rw[Bool.and_true,Bool.true_and]
 |y::r,a=>by show(decide (a<y)&&ascL y (r++[x]))=((decide (a<y)&&ascL y r)&&decide (zdf y r<x));rw[zhm x r y,Bool.and_assoc]
theorem zp0: ∀(l m:List Int) (a:Int),ascL a (l++m)=(ascL a l&&ascL (zdf a l) m)
 |[],m,a=>by show ascL a m=(true&&ascL a m);rw[Bool.true_and]
 |y::r,m,a=>by show(decide (a<y)&&ascL y (r++m))=((decide (a<y)&&ascL y r)&&ascL (zdf y r) m);rw[zp0 r m y,Bool.and_assoc]
theorem z1f: ∀(l:List Int) (a:Int),ascL a l=true->a<=zdf a l/\∀y∈l,a<y/\y<=zdf a l
 |[],a,_=>⟨Int.le_refl _,λy h=>by cases h⟩
 |x::r,a,h=>by
  simp only[ascL,Bool.and_eq_true,decide_eq_true_eq]at h
  obtain⟨h1,h2⟩:=z1f r x h.2
  refine⟨by simp only[zdf];omega,λy hy=>?_⟩
  simp only[zdf]
  rcases List.mem_cons.1 hy with rfl |hy
  ·exact⟨h.1,h1⟩
  ·have:=h2 y hy
   exact⟨by omega,this.2⟩
theorem zwt{l:List Int}{a x:Int}(h:ascL a l=true)(hx:zdf a l<x):x∉l:=λhm=>by
 have:=((z1f l a h).2 x hm).2
 omega
theorem zqj: ∀{ents:List (Int×RV)} {n:Int},n∉ents.map (·.1)->zcg ents n=none
 |[],n,_=>rfl
 |(m,r)::l,n,h=>by
  simp only[List.map_cons,List.mem_cons,not_or]at h
  simp only[zcg]
  rw[if_neg (λe=>h.1 e.symm)]
  exact zqj h.2
theorem zfs{α β:Type}(f:α->β){l:List α}{j:Nat}(h:j<l.length):(l.take (j+1)).map f=(l.take j).map f++[f l[j]]:=by
 rw[List.take_succ_eq_append_getElem h,List.map_append];rfl
def atsO(s:Lean_):List Int:=s.opn.map (·.at_)
def atsH(s:Lean_):List Int:=s.shut.map (·.at_)
def ascS(s:Lean_):Bool:=ascL (-1) (atsO s)&&ascL (-1) (atsH s)
def lean0:Lean_:=⟨0,0,[],[]⟩
def pieS(s:Lean_):Lean_:=if ascS s=true then s else lean0
abbrev Lean_.pr(s:Lean_):RV:=zy0 s.leaves s.own s.opn s.shut
theorem z9z:Cv z9y lean0.pr:=Cv.ag (zk (cr) (zk (cr) (zk (λw k v h=>by simp only[RV.at_]at h⊢;exact .inl ⟨h,rfl⟩) (zk (λw k v h=>by simp only[RV.at_]at h⊢;exact .inl ⟨h,rfl⟩) Cvs.nil))))
structure Lean_.bd (s:Lean_):Prop where
 nl:i64 s.leaves
 no:i64 s.own
 lo:s.opn.length<=1000000
 lh:s.shut.length<=1000000
 ao: ∀x∈s.opn,i64 x.at_
 ah: ∀x∈s.shut,i64 x.at_
 fo: ∀x∈s.opn,x.node.fit
 fh: ∀x∈s.shut,x.hash.length<=1000000000
abbrev pmO(b1 b2:Nat)(s:Lean_)(j i:Nat):List (Nat×Option Ow):=[(0,some (.box (s.c.map .r))),(1,some (.box [.r (I 0), .r (I 0), .r (.x (.map none)), .r (.x (.map none))])),(2,some (.gen (mapO (zbw (s.opn.take j))))),(3,some (.gen (mapO (zb2 (s.shut.take i))))),(4,some (.box [.r (I s.leaves), .r (I s.own), .r (.x (.map (some b1))), .r (.x (.map (some b2)))]))]
set_option maxHeartbeats 4000000 in
theorem z7j(s:Lean_)(hb:s.bd):aG 456 [.ag s.c] (.r (.tu [(pieS s).pr, .b (ascS s)])):=by
 refine za1 (T:=Tab) mixed Tab_ok Tryz.func456 rfl (by kernel_rfl) ?_
 have hlo:=hb.lo
 have hlh:=hb.lh
 have bad:ascS s=false->Cv (.tu [z9y, .b false]) (.tu [(pieS s).pr, .b (ascS s)]):=λh=>by
  have:pieS s=lean0:=by unfold pieS;rw[h];simp
  rw[this,h]
  exact Cv.tu (zk z9z (zn _))
 refine Vcode.run Tab_ok ?_
 refine Vstep.mapMk 2000001 rfl λb1=>?_
 refine Vstep.mapMk 2000002 rfl λb2=>?_
 refine Vloop.mkx (λj:Nat=>⟨[(1, .own 0),(2, .own 1),(4, .own 4),(5, .r (I (zdf (-1) ((s.opn.take j).map (·.at_))))),(18, .r (zsf s.opn)),(19, .r (I s.opn.length)),(20, .r (I j)),(2000001, .nm 2 (.map (some b1))),(2000002, .nm 3 (.map (some b2)))],pmO b1 b2 s j 0,5⟩) (λj=>j<=s.opn.length/\ascL (-1) ((s.opn.take j).map (·.at_))=true) (λj=>s.opn.length-j) 0 ⟨by omega,rfl⟩ (zac [(0,0),(1,1),(2,2),(3,3),(4,4)] rfl ⟨rfl,rfl,rfl,cr,cr,cr,cr,⟨rfl,rfl⟩,⟨rfl,rfl⟩,trivial⟩ ⟨(aC aZ),(aC aZ),λ_ _ _ hh=>hh,λ_ _ _ hh=>hh,(aC aZ),trivial⟩) ?_
 rintro j ⟨hj,hasc⟩
 refine zh (λh=>zp ?_) (λh=>zq ?_)
 ·simp only[zb]at h
  have hj':j<s.opn.length:=by omega
  have hai:=hb.ao s.opn[j] (List.getElem_mem hj')
  have hsn:=zfs Spot.at_ hj'
  refine zm (by omega) (by omega) (zi6 (f:=Spot.c) (λ_=>rfl) rfl hj') ?_
  refine za rfl rfl ?_
  refine zh (λh2=>zp ?_) (λh2=>zq ?_)
  ·simp only[zb]at h2
   refine⟨_,zo _,?_⟩
   refine⟨_,zo _,?_⟩
   refine za rfl rfl ?_
   have hf:ascS s=false:=by
    have e:atsO s=((s.opn.take (j+1)).map (·.at_))++(s.opn.drop (j+1)).map (·.at_):=by unfold atsO;rw[<-List.map_append,List.take_append_drop]
    have h3:decide (zdf (-1) ((s.opn.take j).map (·.at_))<s.opn[j].at_)=false:=decide_eq_false (by omega)
    unfold ascS
    rw[e,zp0,hsn,zhm,h3]
    simp
   exact⟨_,rfl,bad hf⟩
  ·simp only[zb]at h2
   have hlt:zdf (-1) ((s.opn.take j).map (·.at_))<s.opn[j].at_:=by omega
   refine za rfl rfl ?_
   have hk:(zbw (s.opn.take j)).map (·.1)=(s.opn.take j).map (·.at_):=zmc _
   refine Vstep.mapPut 2 2000001 rfl rfl rfl rfl rfl rfl rfl zk9 zig (zqj (by rw[hk];exact zwt hasc hlt)) ?_
   refine zd (m:=((j+1:Nat):Int)) (by omega) (by omega) ?_
   have hsN:zbw (s.opn.take (j+1))=zbw (s.opn.take j)++[(s.opn[j].at_, .ag s.opn[j].node.c)]:=zfs _ hj'
   refine⟨j+1,⟨by omega,by rw[hsn,zhm,hasc,decide_eq_true hlt];rfl⟩,by omega,zac [(0,0),(1,1),(2,2),(3,3),(4,4)] rfl ⟨rfl,rfl,rfl,zf (by rw[hsn,zl2]),cr,cr,cr,⟨rfl,rfl⟩,⟨rfl,rfl⟩,trivial⟩ ⟨(aC aZ),(aC aZ),λ_ _ _ hh=>by rw[hsN];exact hh,λ_ _ _ hh=>hh,(aC aZ),trivial⟩⟩
 simp only[zb]at h
 rw[List.take_of_length_le (by omega)]at hasc
 refine⟨_,zo _,?_⟩
 refine Vloop.mkx (λi:Nat=>⟨[(1, .own 0),(2, .own 1),(4, .own 4),(5, .r (I (zdf (-1) ((s.shut.take i).map (·.at_))))),(39, .r (z6h s.shut)),(40, .r (I s.shut.length)),(41, .r (I i)),(2000001, .nm 2 (.map (some b1))),(2000002, .nm 3 (.map (some b2)))],pmO b1 b2 s s.opn.length i,5⟩) (λi=>i<=s.shut.length/\ascL (-1) ((s.shut.take i).map (·.at_))=true) (λi=>s.shut.length-i) 0 ⟨by omega,rfl⟩ (zac [(0,0),(1,1),(2,2),(3,3),(4,4)] rfl ⟨rfl,rfl,rfl,cr,cr,cr,cr,⟨rfl,rfl⟩,⟨rfl,rfl⟩,trivial⟩ ⟨(aC aZ),(aC aZ),λ_ _ _ hh=>by rw[List.take_of_length_le (Nat.le_refl _)];rw[List.take_of_length_le (by omega)]at hh;exact hh,λ_ _ _ hh=>hh,(aC aZ),trivial⟩) ?_
 clear h hj
 rintro i ⟨hi,hasc2⟩
 refine zh (λh=>zp ?_) (λh=>zq ?_)
 ·simp only[zb]at h
  have hi':i<s.shut.length:=by omega
  have hsn:=zfs Stub.at_ hi'
  refine zm (by omega) (by omega) (zi6 (f:=Stub.c) (λ_=>rfl) rfl hi') ?_
  refine za rfl rfl ?_
  refine zh (λh2=>zp ?_) (λh2=>zq ?_)
  ·simp only[zb]at h2
   refine⟨_,zo _,?_⟩
   refine⟨_,zo _,?_⟩
   refine za rfl rfl ?_
   have hf:ascS s=false:=by
    have e:atsH s=((s.shut.take (i+1)).map (·.at_))++(s.shut.drop (i+1)).map (·.at_):=by unfold atsH;rw[<-List.map_append,List.take_append_drop]
    have h3:decide (zdf (-1) ((s.shut.take i).map (·.at_))<s.shut[i].at_)=false:=decide_eq_false (by omega)
    unfold ascS
    rw[e,zp0,hsn,zhm,h3]
    simp
   exact⟨_,rfl,bad hf⟩
  ·simp only[zb]at h2
   have hlt:zdf (-1) ((s.shut.take i).map (·.at_))<s.shut[i].at_:=by omega
   have hk:(zb2 (s.shut.take i)).map (·.1)=(s.shut.take i).map (·.at_):=zly _
   refine Vstep.mapPut 3 2000002 rfl rfl rfl rfl rfl rfl rfl zqy zig (zqj (by rw[hk];exact zwt hasc2 hlt)) ?_
   refine zd (m:=((i+1:Nat):Int)) (by omega) (by omega) ?_
   have hsN:zb2 (s.shut.take (i+1))=zb2 (s.shut.take i)++[(s.shut[i].at_,bs s.shut[i].hash)]:=zfs _ hi'
   refine⟨i+1,⟨by omega,by rw[hsn,zhm,hasc2,decide_eq_true hlt];rfl⟩,by omega,zac [(0,0),(1,1),(2,2),(3,3),(4,4)] rfl ⟨rfl,rfl,rfl,zf (by rw[hsn,zl2]),cr,cr,cr,⟨rfl,rfl⟩,⟨rfl,rfl⟩,trivial⟩ ⟨(aC aZ),(aC aZ),λ_ _ _ hh=>hh,λ_ _ _ hh=>by rw[hsN];exact hh,(aC aZ),trivial⟩⟩
 simp only[zb]at h
 rw[List.take_of_length_le (by omega)]at hasc2
 refine⟨_,zo _,?_⟩
 refine za rfl rfl ?_
 have hT:ascS s=true:=by unfold ascS atsO atsH;rw[hasc,hasc2];rfl
 have hP:pieS s=s:=if_pos hT
 rw[hT,hP]
 refine⟨_,Sub.trans (zhj (id:=1) (i:=2) (im:=2) (gh:=2000001) rfl rfl rfl rfl (by decide)) (zhj (id:=1) (i:=3) (im:=3) (gh:=2000002) rfl rfl rfl rfl (by decide)),?_⟩
 refine za rfl rfl ?_
 exact⟨_,rfl,zf (by rw[List.take_of_length_le (Nat.le_refl _),List.take_of_length_le (by omega)];rfl)⟩
def sR(s:Lean_):Bool:=ascS s&&zd3 s.leaves s.own s.opn s.shut false
theorem zmib{s:Lean_}(h:sR s=true):pieS s=s:=by
 unfold sR at h
 simp only[Bool.and_eq_true]at h
 exact if_pos h.1
theorem z1q(x:Int):aG 232 [is [],I x] (.r (.b false)):=by
 refine aT Tryz.func232 rfl ?_
 refine zy (λj:Nat=>{F:=[(0, .r (is [])),(1, .r (I x)),(5, .r (I j))],O:=[],nx:=0}) (λj=>j<=0) (λj=>0-j) 0 (by omega) (zac [] rfl ⟨cr,cr,cr,trivial⟩ trivial) ?_
 intro j hj
 refine zu (by simp only[zb,List.length_nil];omega) (zq ?_)
 exact cr
theorem znb(l m:List UInt8)(hl:l.length<=100000000000)(hm:m.length<=100000000000):aG 233 [bs l,bs m] (.r (bs (l++m))):=by
 refine aT Tryz.func233 rfl ?_
 refine zw ?_
 refine Vapp.mk' (j:=l.length) (zs:=l.map U8) (by simp[maxLen];omega) (by simp;omega) (by simp) (by simp) ?_
 refine Vapp.mk' (j:=(l++m).length) (zs:=(l++m).map U8) (by simp[maxLen];omega) (by simp;omega) (by simp) (by simp) ?_
 exact cr
def zd1(t:List Node):Nat->Nat->List UInt8
 |0,k=>shaB ([1]++beB 4 k++zck (nT t (nd 0 k)))
 |h+1,k=>shaB ([2]++zck (nT t (nd (h+1) k))++(vecB (zd1 t h (2*k))++vecB (zd1 t h (2*k+1))))
theorem zh6(t:List Node): ∀h k,(zd1 t h k).length=32
 |0,k=>zcd _
 |h+1,k=>zcd _
theorem zvm(t:List Node)(hfit: ∀x∈t,x.fit)(hr: ∀x∈t,x.right=true)(k:Nat)(hk:k<65536)(hx:nd 0 k<t.length):aG 137 [nods t,I (nd 0 k),is []] (.r (bs ([1]++beB 4 k++zck (nT t (nd 0 k))))):=by
 refine aT Tryz.func137 rfl ?_
 have hm:=zr5 hx
 have hle:=zgy _ (hfit _ hm)
 have hq:(k:Int)=IntKind.i64.wrap ((nd 0 k:Int).tdiv 2):=by
  rw[z2k,Int.tdiv_eq_ediv_of_nonneg (by omega),show(((2*k:Nat):Int))/2=k by omega]
  exact wrap_i64 (by omega)
 refine zm (by omega) (by omega) (z80 rfl hx) ?_
 refine za rfl rfl ?_
 refine⟨by decide,_,rfl,?_⟩
 refine zt (by rw[zaob];rfl) (zp ?_)
 refine⟨by decide,(k:Int),hq,?_⟩
 refine ze (z1q _) ?_
 refine zq ?_
 refine aV ?_
 refine zw ?_
 refine⟨by decide,(k:Int),hq,?_⟩
 refine⟨((k:Nat):Int),by have:=zfw (k:Int) (by omega);rw[this];simp,?_⟩
 refine ze (zil 4 k (by omega) (by omega)) ?_
 refine ze (znb [1] (beB 4 k) (by simp) (by simp[zak])) ?_
 refine za rfl rfl ?_
 refine ze (zt5 _ (hfit _ hm) (λ_=>Node.right_late (hr _ hm))) ?_
 refine ze (znb ([1]++beB 4 k) (zck (nT t (nd 0 k))) (by simp[zak]) (by omega)) ?_
 exact cr
theorem z0n(t:List Node)(hfit: ∀x∈t,x.fit)(hr: ∀x∈t,x.right=true)(h:Nat)(hh:h+1<=16)
  (ih: ∀k,k<2^(16-h)->inR h k (nd h k)->((k+1)*2^(h+1)<=t.length+1)->aG 54 [nods t,I (nd h k),is []] (.r (bs (zd1 t h k))))
  (k:Nat) (hk:k<2^(16-(h+1))) (hx:(k+1)*2^(h+1+1)<=t.length+1):aG 137 [nods t,I (nd (h+1) k),is []] (.r (bs ([2]++zck (nT t (nd (h+1) k))++(vecB (zd1 t h (2*k))++vecB (zd1 t h (2*k+1)))))):=by
 refine aT Tryz.func137 rfl ?_
 have hleft:=z2d (d:=16) (by omega) (show h+1<=16 by omega) hk
 have hright:=zzi (d:=16) (by omega) (show h+1<=16 by omega) hk
 have hk2:2^(16-h)=2*2^(16-(h+1)):=by rw[show 16-h=(16-(h+1))+1 by omega,Nat.pow_succ];omega
 have hin:=zi7 (h+1) k
 have e2:(k+1)*2^(h+1+1)=k*2^(h+1+1)+2^(h+1+1):=by rw[Nat.add_mul,Nat.one_mul]
 have e3:2^(h+1+1)=2*2^(h+1):=by rw[Nat.pow_succ 2 (h+1)];omega
 have e4:=z2j k h
 have e5:=zc8b k h
 have e6:(2*k+1)*2^(h+1)=2*k*2^(h+1)+2^(h+1):=by rw[Nat.add_mul,Nat.one_mul]
 have e7:(2*k+1+1)*2^(h+1)=(2*k+1)*2^(h+1)+2^(h+1):=by rw[Nat.add_mul,Nat.one_mul]
 have hlt:nd (h+1) k<t.length:=by unfold inR at hin;omega
 have hm:=zr5 hlt
 obtain⟨n,hn⟩: ∃n,n=nT t (nd (h+1) k):=⟨_,rfl⟩
 have hnf:n.fit:=hn▸hfit _ hm
 have hnr:n.right=true:=hn▸hr _ hm
 have hle:=zgy n hnf
 have hll:=hnf.2.2.2.1
 have l1:=zh6 t h (2*k)
 have l2:=zh6 t h (2*k+1)
 have v1:=zag (zd1 t h (2*k))
 have v2:=zag (zd1 t h (2*k+1))
 refine zm (by omega) (by omega) (z80 rfl hlt) ?_
 rw[<-hn]
 refine za rfl rfl ?_
 refine⟨by decide,_,rfl,?_⟩
 refine zu (by rw[zd3b];rfl) (zq ?_)
 refine zy (λj:Nat=>{F:=[(0, .r (nods t)),(1, .r (I (nd (h+1) k))),(2, .r (is [])),(7, .own 0),(8, .own 1),(9, .r (I j))],O:=[(0,some (.box (n.c.map .r))),(1,some (.ch 3 1 (n.par.late.take j).length ((n.par.late.take j).map I) true))],nx:=2})
  (λj=>j<=n.par.late.length) (λj=>n.par.late.length-j) 0 (by omega)
  ((zd7 8 3 1 rfl).trans (zac [(0,0),(1,1)] rfl ⟨cr,cr,cr,rfl,rfl,cr,trivial⟩ ⟨zae n.c,⟨rfl,rfl,rfl,rfl,zn _⟩,trivial⟩)) ?_
 intro j hj
 refine zh (λh1=>zp ?_) (λh1=>zq ?_)
 ·simp only[zb]at h1
  have hj':j<n.par.late.length:=by omega
  have e:=zanb hj'
  have htl:(n.par.late.take j).length=j:=by rw[List.length_take];omega
  refine zm (by omega) (by omega) (za3 rfl hj') (zg rfl ?_)
  refine ze (z1q _) ?_
  refine zt rfl (zp ?_)
  refine zm (by omega) (by omega) (za3 rfl hj') (zg rfl ?_)
  refine zw ?_
  refine Vapp.mk' (j:=(n.par.late.take (j+1)).length) (zs:=(n.par.late.take (j+1)).map I) (by simp[maxLen];omega) (by simp;omega) (by rw[e,aL];rfl) (by rw[e,List.map_append];rfl) ?_
  refine zd (m:=((j+1:Nat):Int)) (by omega) (by omega) ?_
  exact⟨j+1,hj',by omega,zac [(0,0),(1,_)] rfl ⟨cr,cr,cr,rfl,rfl,cr,trivial⟩ ⟨zae n.c,z3v rfl,trivial⟩⟩
 simp only[zb]at h1
 rw[List.take_of_length_le (by omega)]
 refine ze (zw6 _) ?_
 rw[hleft,hright]
 refine zw ?_
 refine za rfl rfl ?_
 refine Vcall.mk' (zt5 n hnf (λ_=>Node.right_late hnr)) (zn _) ?_
 refine ze (znb [2] (zck n) (by simp) (by omega)) ?_
 refine ze (ih (2*k) (by omega) (zi7 _ _) (by omega)) ?_
 refine ze (zce _ (by omega)) ?_
 refine ze (ih (2*k+1) (by omega) (zi7 _ _) (by omega)) ?_
 refine ze (zce _ (by omega)) ?_
 refine ze (znb _ _ (by omega) (by omega)) ?_
 refine ze (znb ([2]++zck n) _ (by simp;omega) (by simp;omega)) ?_
 exact cr
theorem zbhb(t:List Node)(hfit: ∀x∈t,x.fit)(hr: ∀x∈t,x.right=true): ∀(h k:Nat),h<=16->k<2^(16-h)->(k+1)*2^(h+1)<=t.length+1->aG 54 [nods t,I (nd h k),is []] (.r (bs (zd1 t h k))):=by
 have key: ∀(x:Int) (b:List UInt8),b.length<=100000000000->aG 137 [nods t,I x,is []] (.r (bs b))->aG 54 [nods t,I x,is []] (.r (bs (shaB b))):=λx b hb hg=>by
  refine aT Tryz.func54 rfl ?_
  refine ze hg ?_
  refine ze (ziw b hb) ?_
  exact cr
 intro h
 induction h with
 |zero=>
  intro k _ hk hx
  have hin:=zi7 0 k
  have hlt:nd 0 k<t.length:=by unfold inR at hin;rw[Nat.add_mul]at hx;omega
  have:=zgy _ (hfit _ (zr5 hlt))
  exact key _ _ (by simp[zak];omega) (zvm t hfit hr k (by simpa using hk) hlt)
 |succ h ih=>
  intro k hh hk hx
  have hin:=zi7 (h+1) k
  have hlt:nd (h+1) k<t.length:=by unfold inR at hin;rw[Nat.add_mul]at hx;omega
  have:=zgy _ (hfit _ (zr5 hlt))
  have l1:=zh6 t h (2*k)
  have l2:=zh6 t h (2*k+1)
  have v1:=zag (zd1 t h (2*k))
  have v2:=zag (zd1 t h (2*k+1))
  exact key _ _ (by simp;omega) (z0n t hfit hr h hh (λk hk _ hx=>ih k (by omega) hk hx) k hk hx)
theorem zbsb(t:List Node)(hfit: ∀x∈t,x.fit)(hr: ∀x∈t,x.right=true)(d:Nat)(hd:d<=16)(hl:t.length+1=2^(d+1)):aG 9 [nods t] (.r (bs (zd1 t d 0))):=by
 refine aT Tryz.func9 rfl ?_
 have hp:=zdib hd
 have h0:=zal d
 have e2:2^(d+1)=2*2^d:=by rw[Nat.pow_succ];omega
 have hroot:=ztj d
 refine zd (m:=((t.length-1:Nat):Int)) (by omega) (by omega) ?_
 refine⟨by decide,(nd d 0:Int),?_,?_⟩
 ·rw[Int.tdiv_eq_ediv_of_nonneg (by omega),show(((t.length-1:Nat):Int))/2=(nd d 0:Int)by omega]
  exact wrap_i64 (by omega)
 refine Vcall.mk' (zbhb t hfit hr d 0 hd (zal _) (by omega)) (zk (cr) (zk (cr) (zk (Cv.nil 1) Cvs.nil))) ?_
 exact cr
structure Rung where
 at_:Int
 to:List Int
 side:List UInt8
abbrev Rung.c(r:Rung):List RV:=[I r.at_,is r.to,bs r.side]
def zk4(l:List Rung):RV:= .sl 3 l.length (l.flatMap Rung.c)
def z5z(l:List Par):RV:= .sl 3 l.length (l.flatMap Par.c)
def zpr:Par:=⟨[],[],[]⟩
theorem zpd:zpr.fit:=⟨by decide,by decide,by decide,λy hy=>by cases hy⟩
def idxR{α:Type}(q:α->Bool):Nat->List α->Int
 |_,[]=> -1
 |j,x::r=>if q x then(j:Int)else idxR q (j+1) r
abbrev zwo(r:Rung):RV:= .ag r.c
theorem z7i(l:List Rung)(q:Rung->Bool)(hl:l.length<=1000000000):aG 384 [zk4 l, .s (cloS aP zwo (λ_=>True) q)] (.r (I (idxR q 0 l))):=by
 refine aT Tryz.func384 rfl ?_
 refine zy (λj:Nat=>{F:=[(0, .r (zk4 l)),(1, .r (.s (cloS aP zwo (λ_=>True) q))),(7, .r (I l.length)),(8, .r (I j))],O:=[],nx:=0}) (λj=>j<=l.length/\idxR q 0 l=idxR q j (l.drop j)) (λj=>l.length-j) 0 ⟨by omega,by simp⟩ (zac [] rfl ⟨cr,cr,cr,cr,trivial⟩ trivial) ?_
 rintro j ⟨hj,he⟩
 refine zh (λh=>zp ?_) (λh=>zq ?_)
 ·simp only[zb]at h
  have hj':j<l.length:=by omega
  rw[List.drop_eq_getElem_cons hj']at he
  simp only[idxR]at he
  refine zm (by omega) (by omega) (zi6 (f:=Rung.c) (λ_=>rfl) rfl hj') ?_
  refine za rfl rfl ?_
  refine Vstep.cloB l[j] rfl rfl rfl rfl (cr) trivial (λhq=>zp ?_) (λhq=>zq ?_)
  ·rw[hq]at he
   exact zf (by rw[he];simp)
  ·rw[hq]at he
   refine zd (m:=((j+1:Nat):Int)) (by omega) (by omega) ?_
   exact⟨j+1,⟨hj',by rw[he];simp⟩,by omega,zac [] rfl ⟨cr,cr,cr,cr,trivial⟩ trivial⟩
 ·simp only[zb]at h
  rw[List.drop_eq_nil_of_le (by omega)]at he
  exact zf (by rw[he];rfl)
theorem z4h(r:Rung)(x:Spot):aG 385 [zwo r, .ptr x.c] (.r (.b (decide (r.at_=x.at_)))):=by
 refine aT Tryz.func385 rfl ?_
 refine zg rfl ?_
 exact Vcmp.mk' (m:=decide (r.at_=x.at_)) (by rw[Bool.eq_iff_iff];simp only[zb]) (cr)
abbrev rnO(s:Lean_)(own:Leaf)(A:List Spot)(B:List Stub):List (Nat×Option Ow):=[(0,some (.box (s.c.map .r))),(1,some (.box (own.c.map .r))),(2,some (.box (zero4.map .r))),(3,some (.box [.r (I s.leaves), .r (I s.own), .own 4, .own 5])),(4,some (zcw A)),(5,some (zcx B))]
def idxA{α:Type}(q:α->Bool):Nat->List α->Int
 |_,[]=> -1
 |j,x::r=>if q x then(j:Int)else idxA q (j+1) r
theorem z17{α:Type}(q:α->Bool): ∀(l:List α) (j:Nat), -1<=idxA q j l/\idxA q j l< (j+l.length:Nat)/\(0<=idxA q j l↔l.any q=true)
 |[],j=>by simp[idxA];omega
 |x::r,j=>by
  have ih:=z17 q r (j+1)
  rw[idxA,List.any_cons,List.length_cons]
  by_cases hq:q x=true
  ·rw[if_pos hq,hq]
   exact⟨by omega,by omega,by simp⟩
  ·rw[if_neg hq,Bool.eq_false_iff.2 hq,Bool.false_or]
   exact⟨ih.1,by omega,ih.2.2⟩
theorem Cv.fn{P:Program}{α:Type}{f:FuncId}{arg:α->RV}{D:α->Prop}{q:α->Bool}(h: ∀x,D x->zab P f [arg x] (.r (.b (q x)))):Cv (.x (.func (.func f) #[] #[])) (.s (cloS P arg D q)):=λw k v hv=>by
 simp only[RV.at_]at hv⊢
 exact⟨f,[], #[],hv,rfl,h⟩
abbrev nodA(n:Node):RV:= .ag n.c
theorem z0k(l:List Node)(D:Node->Prop)(q:Node->Bool)(hl:l.length<=1000000000)(hD: ∀x∈l,D x):aG 443 [nods l, .s (cloS aP nodA D q)] (.r (I (idxA q 0 l))):=by
 refine aT Tryz.func443 rfl ?_
 refine zy (λj:Nat=>{F:=[(0, .r (nods l)),(1, .r (.s (cloS aP nodA D q))),(7, .r (I l.length)),(8, .r (I j))],O:=[],nx:=0}) (λj=>j<=l.length/\idxA q 0 l=idxA q j (l.drop j)) (λj=>l.length-j) 0 ⟨by omega,by simp⟩ (zac [] rfl ⟨cr,cr,cr,cr,trivial⟩ trivial) ?_
 rintro j ⟨hj,he⟩
 refine zh (λh=>zp ?_) (λh=>zq ?_)
 ·simp only[zb]at h
  have hj':j<l.length:=by omega
  rw[List.drop_eq_getElem_cons hj']at he
  simp only[idxA]at he
  refine zm (by omega) (by omega) (zkt rfl hj') ?_
  refine za rfl rfl ?_
  refine Vstep.cloB l[j] rfl rfl rfl rfl (cr) (hD _ (List.getElem_mem hj')) (λhq=>zp ?_) (λhq=>zq ?_)
  ·rw[hq]at he
   exact zf (by rw[he];simp)
  ·rw[hq]at he
   refine zd (m:=((j+1:Nat):Int)) (by omega) (by omega) ?_
   exact⟨j+1,⟨hj',by rw[he];simp⟩,by omega,zac [] rfl ⟨cr,cr,cr,cr,trivial⟩ trivial⟩
 ·simp only[zb]at h
  rw[List.drop_eq_nil_of_le (by omega)]at he
  exact zf (by rw[he];rfl)
theorem zs3(l:List Node)(D:Node->Prop)(q:Node->Bool)(hl:l.length<=1000000000)(hD: ∀x∈l,D x):aG 359 [nods l, .s (cloS aP nodA D q)] (.r (.b (l.any q))):=by
 refine aT Tryz.func359 rfl ?_
 refine ze (z0k l D q hl hD) ?_
 exact Vcmp.mk' rfl (zf (congrArg RV.b (by rw[Bool.eq_iff_iff,decide_eq_true_eq];exact(z17 q l 0).2.2)))
def isLf(n:Node):Bool:=decide (n.kind.toNat=1)
theorem zbtb(n:Node):aG 360 [nodA n] (.r (.b (isLf n))):=by
 refine aT Tryz.func360 rfl ?_
 refine Vcmp.mk' (m:=isLf n) ?_ (cr)
 unfold isLf
 rw[Bool.eq_iff_iff]
 simp only[zb]
 omega
theorem zf0b(l:List Node)(hl:l.length<=1000000000):aG 260 [nods l] (.r (.b (l.any isLf))):=by
 refine aT Tryz.func260 rfl ?_
 refine Vcall.mk' (zs3 l (λ_=>True) isLf hl λ_ _=>trivial) (zk (cr) (zk (Cv.fn λn _=>zbtb n) Cvs.nil)) ?_
 exact cr
section
variable (lf:Leaf) (hlf:lf.fit) (hlr:lf.right=true)
abbrev L1(lf:Leaf):Node:=⟨1,lf,zpr⟩
theorem zdx{lf:Leaf}(h:lf.fit):(L1 lf).fit:=⟨h,zpd⟩
theorem zis{lf:Leaf}(h:lf.right=true):(L1 lf).right=true:=by
 show(if(1:UInt8).toNat=0 then _ else if(1:UInt8).toNat=1 then lf.right&&zpr.none else _)=true
 rw[if_neg (by decide),if_pos (by decide),h]
 rfl
theorem i00:(0:Int)<=0:=by decide
theorem i01:(0:Int)< ((1:Nat):Int):=by decide
theorem i2b: -9223372036854775808<=(2:Int)/\(2:Int)<=9223372036854775807:=by decide
theorem n1b:1<=1000000000:=by decide
theorem idx0:(([L1 lf].flatMap Node.c).drop ((0:Int).toNat*10)).take 10=(L1 lf).c:=zkt (l:=[L1 lf]) (j:=0) rfl (Nat.succ_pos _)
theorem zjt:aG 258 [nods [L1 lf]] (.r (I 1)):=by
 refine aT Tryz.func258 rfl ?_
 refine zd (m:=2) rfl i2b ?_
 refine⟨by decide,1,by decide,?_⟩
 refine⟨by decide,1,rfl,?_⟩
 refine zu rfl ?_
 refine Vcall.bool (zrj 1) (λ_=>zu rfl (zq ?_)) (λh=>absurd h (by decide))
 exact cr
include hlf hlr in
theorem z8g:aG 259 [nods [L1 lf]] (.r (.b true)):=by
 refine aT Tryz.func259 rfl ?_
 have hb:=zp8 (L1 lf) (zdx hlf)
 rw[if_pos (zis hlr)]at hb
 generalize zck (L1 lf)=q at hb
 refine Vloop.rounds 2 ?_
 refine Vrounds.step mixed Tab_ok ?_
 refine zt rfl (zp ?_)
 refine zm i00 i01 (idx0 lf) ?_
 refine za rfl rfl ?_
 refine⟨by decide,0,by decide,?_⟩
 refine zu rfl (zq ?_)
 refine zu rfl (zq ?_)
 refine za rfl rfl ?_
 refine ze hb ?_
 refine zu rfl (zq ?_)
 refine zd (m:=1) rfl (by decide) ?_
 refine Vrounds.step mixed Tab_ok ?_
 refine zu rfl (zq ?_)
 exact cr
theorem zgkb:aG 261 [nods [L1 lf],I 0] (.r (.b true)):=by
 refine aT Tryz.func261 rfl ?_
 refine ze (zjt lf) ?_
 refine zm i00 i01 (idx0 lf) ?_
 refine zg rfl ?_
 refine Vloop.rounds 1 ?_
 refine Vrounds.step mixed Tab_ok ?_
 refine zu rfl (zq ?_)
 exact cr
include hlf hlr in
theorem zi2:aG 175 [nods [L1 lf]] (.r (.b true)):=by
 refine aT Tryz.func175 rfl ?_
 have hs:=zf0b [L1 lf] n1b
 have e:[L1 lf].any isLf=true:=rfl
 rw[e]at hs
 refine ze (zjt lf) ?_
 refine zu rfl ?_
 refine ze (z8g lf hlf hlr) ?_
 refine zu rfl ?_
 refine zt rfl ?_
 refine ze hs ?_
 refine zu rfl ?_
 refine zu rfl (zq ?_)
 refine Vloop.rounds 2 ?_
 refine Vrounds.step mixed Tab_ok ?_
 refine zt rfl (zp ?_)
 refine ze (zgkb lf) ?_
 refine zu rfl (zq ?_)
 refine zd (m:=1) rfl (by decide) ?_
 refine Vrounds.step mixed Tab_ok ?_
 refine zu rfl (zq ?_)
 exact cr
theorem zjqb:aG 362 [nods [L1 lf]] (.r (is [0])):=by
 refine aT Tryz.func362 rfl ?_
 refine Vloop.rounds 2 ?_
 refine Vrounds.step mixed Tab_ok ?_
 refine zt rfl (zp ?_)
 refine zm i00 i01 (idx0 lf) ?_
 refine za rfl rfl ?_
 refine zt rfl (zp ?_)
 refine⟨by decide,0,by decide,?_⟩
 refine zw ?_
 refine Vapp.mk' (j:=1) (zs:=[I 0]) (by decide) (by decide) rfl rfl ?_
 refine zd (m:=1) rfl (by decide) ?_
 refine Vrounds.step mixed Tab_ok ?_
 refine zu rfl (zq ?_)
 exact cr
include hlf hlr in
theorem z4v:aG 262 [nods [L1 lf]] (.r (is [0])):=by
 refine aT Tryz.func262 rfl ?_
 refine ze (zi2 lf hlf hlr) ?_
 refine zu rfl (zq ?_)
 refine ze (zjqb lf) ?_
 exact cr
include hlf in
theorem z1w:aG 145 [nods [L1 lf]] (.r (nods [L1 lf])):=by
 refine aT Tryz.func145 rfl ?_
 refine Vloop.rounds 2 ?_
 refine Vrounds.step mixed Tab_ok ?_
 refine zt rfl (zp ?_)
 refine zm i00 i01 (idx0 lf) ?_
 refine za rfl rfl ?_
 refine za rfl rfl ?_
 refine ze (ze3 (L1 lf) (zdx hlf) (zb1 _ hlf)) ?_
 refine zw ?_
 refine Vapp.mk' (j:=1) (zs:=(L1 lf).c) (by decide) (by decide) rfl rfl ?_
 refine zd (m:=1) rfl (by decide) ?_
 refine Vrounds.step mixed Tab_ok ?_
 refine zu rfl (zq ?_)
 exact cr
end
structure SecP.sm (s:SecP):Prop where
 jn:s.jn.length<=1000000
 wl:s.wl.length<=1000000
 ep:s.ep.length<=1000000
 sd:s.sd.length<=1000000
 en:s.en.length<=1000000
 ex:s.ex.length<=1000000
 au:s.au.length<=1000000
 xt:s.xt.length<=1000000
 cf:s.cf.length<=1000000
 mb:s.mb.length<=1000000
 rs:s.rs.length<=1000000
 it:s.it.length<=1000000
set_option maxHeartbeats 2000000 in
theorem z7v(s:SecP)(hs:s.sm):aG 243 [.ag s.c] (.r (.ag s.c)):=by
 refine aT Tryz.func243 rfl ?_
 obtain⟨h1,h2,h3,h4,h5,h6,h7,h8,h9,h10,h11,h12⟩:=hs
 refine Vstep.bsl (adrs 0 [0,1,2,3,4,5,6,7,8,9,10,11]) Tab_ok rfl rfl rfl rfl rfl rfl (by decide) (by repeat' (first|exact rfl|refine⟨_,_,_,rfl,rfl,rfl,?_⟩)) ?_
 refine zy (λj:Nat=>⟨[(1, .own 0),(2, .own 1),(17, .cut 2 0 12),(18, .r (I 12)),(19, .r (I j))],[(0,some (.box (s.c.map TF.r))),(1,some (.box nl12)),(2,some (.box (adrs 0 [0,1,2,3,4,5,6,7,8,9,10,11])))],3⟩) (λj=>j<=12) (λj=>12-j) 0 (by omega) (zac [(0,0),(1,1),(2,2)] rfl (by repeat' (first|exact rfl|exact trivial|exact cr|exact Cv.nil _|exact⟨rfl,rfl⟩|refine⟨_,_,rfl,?_,?_⟩|refine⟨?_,?_⟩)) (by repeat' (first|exact rfl|exact trivial|exact cr|exact Cv.nil _|exact⟨rfl,rfl⟩|refine⟨_,_,rfl,?_,?_⟩|refine⟨?_,?_⟩))) ?_
 intro j hj
 rcases(by omega:j<12\/j=12)with hlt |rfl
 rotate_left
 ·refine zu rfl (zq ?_)
  refine za rfl rfl ?_
  refine za rfl rfl ?_
  exact cr
 obtain⟨k,hk⟩: ∃k,k=j+1:=⟨_,rfl⟩
 rcases(by omega:j=0\/j=1\/j=2\/j=3\/j=4\/j=5\/j=6\/j=7\/j=8\/j=9\/j=10\/j=11)with rfl |rfl |rfl |rfl |rfl |rfl |rfl |rfl |rfl |rfl |rfl |rfl
 all_goals
  refine zt rfl (zp ?_)
  refine Vadr.mk' _ rfl (by decide) ?_
  refine ze (zbx _ (by omega)) ?_
  refine zd (m:=(k:Int)) (by omega) (by omega) ?_
  exact⟨k,by omega,by omega,by subst hk;exact zac [(0,0),(1,1),(2,2)] rfl (by repeat' (first|exact rfl|exact trivial|exact cr|exact Cv.nil _|exact⟨rfl,rfl⟩|refine⟨_,_,rfl,?_,?_⟩|refine⟨?_,?_⟩)) (by repeat' (first|exact rfl|exact trivial|exact cr|exact Cv.nil _|exact⟨rfl,rfl⟩|refine⟨_,_,rfl,?_,?_⟩|refine⟨?_,?_⟩))⟩
theorem zpk(x:KeyP)(hx:x.key.length<=1000000):aG 101 [keyR [x]] (.r (keyR [x])):=by
 refine aT Tryz.func101 rfl ?_
 refine Vloop.rounds 2 ?_
 refine Vrounds.step mixed Tab_ok ?_
 refine zt rfl (zp ?_)
 refine zm i00 i01 rfl ?_
 refine za rfl rfl ?_
 refine aV ?_
 refine ze (zbx _ (by omega)) ?_
 refine zw ?_
 refine Vapp.mk' (j:=1) (zs:=x.c) (by decide) (by decide) rfl rfl ?_
 refine zd (m:=1) rfl (by decide) ?_
 refine Vrounds.step mixed Tab_ok ?_
 refine zu rfl (zq ?_)
 exact cr
structure ViewP where
 ctx:CtxP
 own:Int
 interim:List UInt8
 tag:List UInt8
 sec:SecP
 key:KeyP
abbrev ViewP.c(v:ViewP):List RV:=[bs v.ctx.group, .i .u64 v.ctx.epoch,bs v.ctx.tree,bs v.ctx.trans,I v.own,bs v.interim,bs v.tag,bs v.sec.jn,bs v.sec.wl,bs v.sec.ep,bs v.sec.sd,bs v.sec.en,bs v.sec.ex,bs v.sec.au,bs v.sec.xt,bs v.sec.cf,bs v.sec.mb,bs v.sec.rs,bs v.sec.it,keyR [v.key]]
structure ViewP.sm (v:ViewP):Prop where
 group:v.ctx.group.length<=1000000
 tree:v.ctx.tree.length<=1000000
 trans:v.ctx.trans.length<=1000000
 interim:v.interim.length<=1000000
 tag:v.tag.length<=1000000
 sec:v.sec.sm
 key:v.key.key.length<=1000000
abbrev nl20:List TF:=[.r nl, .r (.i .u64 0), .r nl, .r nl, .r (I 0), .r nl, .r nl, .r nl, .r nl, .r nl, .r nl, .r nl, .r nl, .r nl, .r nl, .r nl, .r nl, .r nl, .r nl, .r nl]
set_option maxHeartbeats 2000000 in
theorem z4o(v:ViewP)(hv:v.sm):aG 144 [.ag v.c] (.r (.ag v.c)):=by
 refine aT Tryz.func144 rfl ?_
 obtain⟨h1,h2,h3,h4,h5,h6,h7⟩:=hv
 have cs:=z7v v.sec h6
 have ck:=zpk v.key h7
 refine Vdraw.code0 (Vcode.nmB 0 1000000 rfl λb=>Vcode.subp mixed Tab_ok ((zicb (id:=0) (t:=3) (tn:=1000000) (b:=b) rfl rfl rfl).trans (zk6 (id:=0) (t:=1) (tn:=1000000) rfl rfl)) ?_)
 refine aV ?_
 refine zw ?_
 refine zy (λj:Nat=>⟨[(1, .own 0),(2, .own 1),(18, .r (.sl 1 5 [At b 0,At b 2,At b 3,At b 5,At b 6])),(19, .r (I 5)),(20, .r (I j)),(1000000, .nm 0 (.pointer (some ⟨b,0,none⟩)))],[(0,some (.box (v.c.map TF.r))),(1,some (.box nl20))],2⟩) (λj=>j<=5) (λj=>5-j) 0 (by omega) ((zmn (id:=0) (t:=1) (tn:=1000000) rfl rfl).trans (zac [(0,0),(1,1)] rfl (by repeat' (first|exact rfl|exact trivial|exact cr|exact Cv.nil _|exact⟨rfl,rfl⟩|refine⟨_,_,rfl,?_,?_⟩|refine⟨?_,?_⟩)) (by repeat' (first|exact rfl|exact trivial|exact cr|exact Cv.nil _|exact⟨rfl,rfl⟩|refine⟨_,_,rfl,?_,?_⟩|refine⟨?_,?_⟩)))) ?_
 intro j hj
 rcases(by omega:j<5\/j=5)with hlt |rfl
 rotate_left
 ·refine zu rfl (zq ?_)
  refine aV ?_
  refine za rfl rfl ?_
  refine ze cs ?_
  refine ze ck ?_
  refine za rfl rfl ?_
  refine za rfl rfl ?_
  exact cr
 obtain⟨k,hk⟩: ∃k,k=j+1:=⟨_,rfl⟩
 rcases(by omega:j=0\/j=1\/j=2\/j=3\/j=4)with rfl |rfl |rfl |rfl |rfl
 all_goals
  refine zt rfl (zp ?_)
  refine zm (by decide) (by decide) rfl ?_
  refine zg rfl ?_
  refine Vstep.sub (zqw (id:=0) (t:=26) (tn:=1000000) rfl rfl rfl) (Vstep.val Tab_ok ?_)
  refine ze (zbx _ (by omega)) ?_
  refine Vstep.sub (zqw (id:=0) (t:=29) (tn:=1000000) rfl rfl rfl) (Vstep.sto Tab_ok rfl ?_)
  refine zd (m:=(k:Int)) (by omega) (by omega) ?_
  exact⟨k,by omega,by omega,by subst hk;exact zac [(0,0),(1,1)] rfl (by repeat' (first|exact rfl|exact trivial|exact cr|exact Cv.nil _|exact⟨rfl,rfl⟩|refine⟨_,_,rfl,?_,?_⟩|refine⟨?_,?_⟩)) (by repeat' (first|exact rfl|exact trivial|exact cr|exact Cv.nil _|exact⟨rfl,rfl⟩|refine⟨_,_,rfl,?_,?_⟩|refine⟨?_,?_⟩))⟩
end Go.Proofs.YtkegaaonpekkgaaGreat.Sx
