import Derived.Test.YtpdllgbfemnemaaGreatZKx
import Derived.Test.YtpdllgbfemnemaaGreatZKv
import Derived.Test.YtpdllgbfemnemaaGreatZLd
import Derived.Test.YtpdllgbfemnemaaGreatZVd
namespace Go.Proofs.YtpdllgbfemnemaaGreat.Sx
open Go.RowKit
section
theorem z00(a b:Lean_)(ha1:a.opn.length<=1000000000)(ha2:a.shut.length<=1000000000)(hb1:b.opn.length<=1000000000)(hb2:b.shut.length<=1000000000)(ha: ∀x∈a.opn,∀u∈x.node.par.late,i64 u)(hb: ∀x∈b.opn,∀u∈x.node.par.late,i64 u):
  zaf Tryz.prog 25 [.ag a.c, .ag b.c] (.r (.b (decide (a=b)))):=by
 refine zac (T:=Tab) mixed Tab_ok Tryz.func25 rfl (by kernel_rfl) ?_
 have no:a≠b->RV.b false=RV.b (decide (a=b)):=λh=>by simp[h]
 by_cases h1:a.leaves=b.leaves
 rotate_left
 ·refine zu (by simp[h1]) (zq (zf (no λe=>h1 (by rw[e]))))
 refine zw (by simp[h1]) ?_
 by_cases h2:a.own=b.own
 rotate_left
 ·refine zu (by simp[h2]) (zq (zf (no λe=>h2 (by rw[e]))))
 refine zw (by simp[h2]) ?_
 by_cases h3:a.opn.length=b.opn.length
 rotate_left
 ·refine zu (by simp;omega) (zq (zf (no λe=>h3 (by rw[e]))))
 refine zw (by simp[h3]) ?_
 by_cases h4:a.shut.length=b.shut.length
 rotate_left
 ·refine zu (by simp;omega) (zq (zf (no λe=>h4 (by rw[e]))))
 refine zw (by simp[h4]) (zt ?_)
 refine zy (λj:Nat=>{F:=[(2, .own 0),(3, .own 1),(5, .r (I j))],O:=[(0,some (.box (a.c.map .r))),(1,some (.box (b.c.map .r)))],nx:=2}) (λj=>j<=a.opn.length/\a.opn.take j=b.opn.take j) (λj=>a.opn.length-j) 0 ⟨by omega,by simp⟩ (zad [(0,0),(1,1)] rfl ⟨rfl,rfl,cr,trivial⟩ ⟨zab _,zab _,trivial⟩) ?_
 rintro j ⟨hj,ht⟩
 refine zh (λh=>zq ?_) (λh=>zt ?_)
 ·simp only[zb]at h
  have hj':j<a.opn.length:=by omega
  have hjb:j<b.opn.length:=by omega
  have bad:a.opn[j]≠b.opn[j]->RV.b false=RV.b (decide (a=b)):=λh=>no λe=>h (by simp only[e])
  refine Vdraw.mk' (by kernel_rfl) ?_
  refine zm (by omega) (by omega) (zfa rfl hj') (zg rfl ?_)
  refine zm (by omega) (by omega) (zfa rfl hjb) (zg rfl ?_)
  by_cases h5:a.opn[j].at_=b.opn[j].at_
  rotate_left
  ·refine zu (by simp[h5]) (zq (zf (bad λe=>h5 (by rw[e]))))
  refine zw (by simp[h5]) ?_
  refine zm (by omega) (by omega) (zfa rfl hj') ?_
  refine za rfl rfl ?_
  refine zm (by omega) (by omega) (zfa rfl hjb) ?_
  refine za rfl rfl ?_
  refine ze (zs0 a.opn[j].node b.opn[j].node (ha _ (List.getElem_mem _)) (hb _ (List.getElem_mem _))) ?_
  by_cases h6:a.opn[j].node=b.opn[j].node
  rotate_left
  ·refine zu (by simp[h6]) (zq (zf (bad λe=>h6 (by rw[e]))))
  refine zw (by simp[h6]) (zt ?_)
  refine zd (m:=((j+1:Nat):Int)) (by omega) (by omega) ?_
  refine⟨j+1,⟨hj',?_⟩,by omega,zad [(0,0),(1,1)] rfl ⟨rfl,rfl,cr,trivial⟩ ⟨zab _,zab _,trivial⟩⟩
  have h7:a.opn[j]=b.opn[j]:=by
   revert h5 h6
   generalize a.opn[j]=x
   generalize b.opn[j]=y
   cases x;cases y
   intro e1 e2
   simp_all
  rw[List.take_add_one,List.take_add_one,ht,List.getElem?_eq_getElem hj',List.getElem?_eq_getElem hjb,h7]
 simp only[zb]at h
 have hopn:a.opn=b.opn:=by rwa[List.take_of_length_le (by omega),List.take_of_length_le (by omega)]at ht
 clear ht h
 refine zy (λj:Nat=>{F:=[(2, .own 0),(3, .own 1),(6, .r (I j))],O:=[(0,some (.box (a.c.map .r))),(1,some (.box (b.c.map .r)))],nx:=2}) (λj=>j<=a.shut.length/\a.shut.take j=b.shut.take j) (λj=>a.shut.length-j) 0 ⟨by omega,by simp⟩ (zad [(0,0),(1,1)] rfl ⟨rfl,rfl,cr,trivial⟩ ⟨zab _,zab _,trivial⟩) ?_
 rintro j ⟨hj,ht⟩
 refine zh (λh=>zq ?_) (λh=>zt ?_)
 ·simp only[zb]at h
  have hj':j<a.shut.length:=by omega
  have hjb:j<b.shut.length:=by omega
  have bad:a.shut[j]≠b.shut[j]->RV.b false=RV.b (decide (a=b)):=λh=>no λe=>h (by simp only[e])
  refine Vdraw.mk' (by kernel_rfl) ?_
  refine zm (by omega) (by omega) (zfd rfl hj') (zg rfl ?_)
  refine zm (by omega) (by omega) (zfd rfl hjb) (zg rfl ?_)
  by_cases h5:a.shut[j].at_=b.shut[j].at_
  rotate_left
  ·refine zu (by simp[h5]) (zq (zf (bad λe=>h5 (by rw[e]))))
  refine zw (by simp[h5]) ?_
  refine zm (by omega) (by omega) (zfd rfl hj') (zg rfl ?_)
  refine zm (by omega) (by omega) (zfd rfl hjb) (zg rfl ?_)
  refine ze (zho a.shut[j].hash b.shut[j].hash) ?_
  by_cases h6:a.shut[j].hash=b.shut[j].hash
  rotate_left
  ·refine zu (by simp[h6]) (zq (zf (bad λe=>h6 (by rw[e]))))
  refine zw (by simp[h6]) (zt ?_)
  refine zd (m:=((j+1:Nat):Int)) (by omega) (by omega) ?_
  refine⟨j+1,⟨hj',?_⟩,by omega,zad [(0,0),(1,1)] rfl ⟨rfl,rfl,cr,trivial⟩ ⟨zab _,zab _,trivial⟩⟩
  have h7:a.shut[j]=b.shut[j]:=by
   revert h5 h6
   generalize a.shut[j]=x
   generalize b.shut[j]=y
   cases x;cases y
   intro e1 e2
   simp_all
  rw[List.take_add_one,List.take_add_one,ht,List.getElem?_eq_getElem hj',List.getElem?_eq_getElem hjb,h7]
 simp only[zb]at h
 have hshut:a.shut=b.shut:=by rwa[List.take_of_length_le (by omega),List.take_of_length_le (by omega)]at ht
 refine zf ?_
 have:a=b:=by cases a;cases b;simp_all
 simp[ofC,this]
end
section
theorem zcu{S:St}(pub:Bool)(id i:Nat)(e:TypeId)(sz:Nat){cells:List TF}(ho:oget S.O id=some (.box cells))(hc:cells[i]?=some (.r (.x (.slice none 0 0)))):
  Sub S {F:=S.F,O:=(id,some (.box (cells.set i (.own S.nx))))::(S.nx,some (.ch e sz 0 [] pub))::S.O,nx:=S.nx+1}:=by
 rintro B N a w k ⟨g,hs⟩
 have h:=hs.adopt (dst:=none) (λd hd=>by cases hd) (o:= .ch e sz 0 [] pub) (vb:=(.slice none 0 0,none)) trivial ⟨by simp, .inl ⟨rfl, .inl ⟨rfl,none,rfl⟩⟩⟩ (λb hb=>by cases hb) (λi o' b _ hb=>by cases hb)
 have e0:a.put none (.slice none 0 0)=a:=rfl
 simp only[St.mk_]at h
 rw[e0]at h
 obtain⟨p1,p2,p3,p4⟩:=hs.owns id _ ho
 have hid:oget ((S.nx,some (Ow.ch e sz 0 [] pub))::S.O) id=some (.box cells):=by
  simp only[oget]
  split
  ·rename_i hb;have:=Nat.eq_of_beq_eq_true hb;omega
  ·exact ho
 have hg:(g.set S.nx ((Value.slice none 0 0),none)) S.nx=((Value.slice none 0 0),none):=by rw[Env.set_eq]
 have old: ∀x ox,oget ((id,some (Ow.box (cells.set i (.own S.nx))))::(S.nx,some (Ow.ch e sz 0 [] pub))::S.O) x=some ox->∃ox',oget ((S.nx,some (Ow.ch e sz 0 [] pub))::S.O) x=some ox':=λx ox hx=>by
  rcases zav hx with⟨rfl,_⟩ |⟨_,h'⟩
  ·exact⟨_,hid⟩
  ·exact⟨_,h'⟩
 refine⟨k,_,h.size,h.defers,h.keep,h.kk,h.facts,λj o' ho'=>?_,λx y ox oy b hx hy hne hb=>?_⟩
 ·rcases zav ho' with⟨rfl,e'⟩ |⟨hne,h'⟩
  ·cases e'
   obtain⟨q1,q2,q3,q4⟩:=h.owns _ _ hid
   refine⟨q1,λf hf=>?_,?_,q4⟩
   ·rcases List.mem_or_eq_of_mem_set hf with hf |rfl
    ·exact q2 f hf
    ·exact Nat.lt_succ_self _
   ·obtain⟨b,cur,t,e1,e2,e3,e4,e5⟩:=q3
    refine⟨b,cur,t,e1,e2,e3,by simpa using e4,λj f u hf hu=>?_⟩
    rw[List.getElem?_set]at hf
    split at hf
    ·rename_i hij
     subst hij
     split at hf
     ·cases hf
      obtain⟨u1,u2⟩:=e5 i _ u hc hu
      simp only[TF.at_,RV.at_]at u2
      exact⟨u1,by simp only[TF.at_];rw[hg];exact u2⟩
     ·cases hf
    ·exact e5 j f u hf hu
  ·exact h.owns j o' h'
 ·obtain⟨ox',hx'⟩:=old x ox hx
  obtain⟨oy',hy'⟩:=old y oy hy
  exact h.apart x y ox' oy' b hx' hy' hne hb
theorem zwg{S:St}(id i:Nat)(e:TypeId)(sz:Nat){cells:List TF}(ho:oget S.O id=some (.box cells))(hc:cells[i]?=some (.r (.x (.slice none 0 0)))):
  Sub S {F:=S.F,O:=(id,some (.box (cells.set i (.own S.nx))))::(S.nx,some (.ch e sz 0 [] true))::S.O,nx:=S.nx+1}:=zcu true id i e sz ho hc
end
section
def insS(own:Stub)(p:Bool×List Stub)(y:Stub):Bool×List Stub:=if decide (own.at_<y.at_)&& !p.1 then(true,p.2++[own]++[y])else(p.1,p.2++[y])
def insR(own:Stub)(l:List Stub):Bool×List Stub:=l.foldl (insS own) (false,[])
def insL(own:Stub)(l:List Stub):List Stub:=if(insR own l).1 then(insR own l).2 else(insR own l).2++[own]
def zbm(s:Lean_)(x:Int)(h:List UInt8):Lean_:=⟨s.leaves,s.own,s.opn.filter λy=> !zal y.at_ x,insL ⟨x,h⟩ (s.shut.filter λy=> !zal y.at_ x)⟩
theorem zpu{α:Type}{p:α->Bool}{l:List α}{j:Nat}(hj:j<l.length):(l.take (j+1)).filter p=if p l[j]then(l.take j).filter p++[l[j]]else(l.take j).filter p:=by
 rw[List.take_add_one,List.getElem?_eq_getElem hj]
 simp only[Option.toList,List.filter_append,List.filter_cons,List.filter_nil]
 split<;>simp
theorem zmb{α:Type}{p:α->Bool}{l:List α}{j:Nat}:((l.take j).filter p).length<=l.length:=by
 have h1:=List.length_filter_le p (l.take j)
 have h2:(l.take j).length<=l.length:=by rw[List.length_take];omega
 omega
theorem cvc{ρ:List (Nat×Nat)}{S:St}{f g:TF}{fs gs:List TF}(h:cvTF ρ S f g)(r:zh5 ρ S fs gs):zh5 ρ S (f::fs) (g::gs):=⟨_,_,rfl,h,r⟩
abbrev zda(L:List Spot):Ow:= .ch 77 11 L.length (L.flatMap Spot.c) true
abbrev zd6(L:List Stub):Ow:= .ch 79 2 L.length (L.flatMap Stub.c) true
abbrev zero4:List RV:=[I 0,I 0, .x (.slice none 0 0), .x (.slice none 0 0)]
end
section
def empty_:Lean_:=⟨0,0,[],[]⟩
theorem z9s(s:Lean_)(h1:s.opn.length<=1000000000)(h2:s.shut.length<=1000000000)(hl: ∀x∈s.opn,∀u∈x.node.par.late,i64 u):zaf Tryz.prog 24 [.ag s.c] (.r (.b (decide (s=empty_)))):=by
 refine zac (T:=Tab) mixed Tab_ok Tryz.func24 rfl (by kernel_rfl) ?_
 refine za rfl rfl ?_
 refine Vcall.mk' (z00 s empty_ h1 h2 (by simp[empty_]) (by simp[empty_]) hl (by simp[empty_])) (zk (cr) (zk (Cv.ag (zk (cr) (zk (cr) (zk (Cv.nil 11) (zk (Cv.nil 2) Cvs.nil))))) Cvs.nil)) ?_
 exact cr
def idxG{α:Type}(q:α->Bool):Nat->List α->Int
 |_,[]=> -1
 |j,x::r=>if q x then(j:Int)else idxG q (j+1) r
abbrev z07(y:Stub):RV:= .ag y.c
theorem z2l(l:List Stub)(D:Stub->Prop)(q:Stub->Bool)(hl:l.length<=1000000000)(hD: ∀x∈l,D x):zaf Tryz.prog 106 [zkv l, .s (cloS Tryz.prog z07 D q)] (.r (I (idxG q 0 l))):=by
 refine zac (T:=Tab) mixed Tab_ok Tryz.func106 rfl (by kernel_rfl) ?_
 refine zy (λj:Nat=>{F:=[(0, .r (zkv l)),(1, .r (.s (cloS Tryz.prog z07 D q))),(7, .r (I l.length)),(8, .r (I j))],O:=[],nx:=0}) (λj=>j<=l.length/\idxG q 0 l=idxG q j (l.drop j)) (λj=>l.length-j) 0 ⟨by omega,by simp⟩ (zad [] rfl ⟨cr,cr,cr,cr,trivial⟩ trivial) ?_
 rintro j ⟨hj,he⟩
 refine zh (λh=>zq ?_) (λh=>zt ?_)
 ·simp only[zb]at h
  have hj':j<l.length:=by omega
  rw[List.drop_eq_getElem_cons hj']at he
  simp only[idxG]at he
  refine zm (by omega) (by omega) (zfd rfl hj') ?_
  refine za rfl rfl ?_
  refine Vstep.cloB l[j] rfl rfl rfl rfl (cr) (hD _ (List.getElem_mem hj')) (λhq=>zq ?_) (λhq=>zt ?_)
  ·rw[hq]at he
   exact zf (by rw[he];simp)
  ·rw[hq]at he
   refine zd (m:=((j+1:Nat):Int)) (by omega) (by omega) ?_
   exact⟨j+1,⟨hj',by rw[he];simp⟩,by omega,zad [] rfl ⟨cr,cr,cr,cr,trivial⟩ trivial⟩
 ·simp only[zb]at h
  rw[List.drop_eq_nil_of_le (by omega)]at he
  exact zf (by rw[he];rfl)
theorem zddb(y:Stub)(x:Int):zaf Tryz.prog 107 [.ag y.c, .ptr [I x]] (.r (.b (decide (x<y.at_)))):=by
 refine zac (T:=Tab) mixed Tab_ok Tryz.func107 rfl (by kernel_rfl) ?_
 refine zg rfl ?_
 exact Vcmp.mk' rfl (cr)
end
section
theorem zbfb(l:List Int)(hl:l.length<=1000000000)(h64: ∀x∈l,i64 x):zaf Tryz.prog 144 [is l] (ich l):=
 zb1 (za8 Tryz.func144 rfl (by kernel_rfl)) λw k vs hp=>by
  obtain⟨a,rfl,h1⟩:=zhe hp
  obtain⟨p,rfl,hp1⟩:=z6j h64 h1
  exact(z59 p l w hp1 (by omega)).mono λ_ _ ⟨v,he,hx,_,hv⟩=>⟨v,he,hx,zqp hv⟩
theorem z2s(n:Node)(hn:n.fit)(hcl:zaf Tryz.prog 143 [.ag n.leaf.c] (.r (.ag n.leaf.c))):zaf Tryz.prog 105 [.ag n.c] (.r (.ag n.c)):=by
 refine zac (T:=Tab) mixed Tab_ok Tryz.func105 rfl (by kernel_rfl) ?_
 obtain⟨h1,h2⟩:=hn
 refine za rfl rfl ?_
 refine ze hcl ?_
 refine Vdraw.mk' (by kernel_rfl) ?_
 refine ze (zfe n.par.box (by have:=h2.1;omega)) ?_
 refine ze (zfe n.par.hash (by have:=h2.2.1;omega)) ?_
 refine ze (zbfb n.par.late (by have:=h2.2.2.1;omega) h2.2.2.2) ?_
 refine za rfl rfl ?_
 refine za rfl rfl ?_
 exact cr
end
section
theorem zcxb(l:List Int)(x:Int)(hl:l.length<=1000000000):zaf Tryz.prog 104 [is l,I x] (.r (I (idxF (λy=>decide (x=y)) 0 l))):=by
 refine zac (T:=Tab) mixed Tab_ok Tryz.func104 rfl (by kernel_rfl) ?_
 obtain⟨q,hq⟩: ∃q:Int->Bool,q= λy=>decide (x=y):=⟨_,rfl⟩
 rw[<-hq]
 refine zy (λj:Nat=>{F:=[(0, .r (is l)),(1, .r (I x)),(7, .r (I l.length)),(8, .r (I j))],O:=[],nx:=0}) (λj=>j<=l.length/\idxF q 0 l=idxF q j (l.drop j)) (λj=>l.length-j) 0 ⟨by omega,by simp⟩ (zad [] rfl ⟨cr,cr,cr,cr,trivial⟩ trivial) ?_
 rintro j ⟨hj,he⟩
 refine zh (λh=>zq ?_) (λh=>zt ?_)
 ·simp only[zb]at h
  have hj':j<l.length:=by omega
  rw[List.drop_eq_getElem_cons hj']at he
  simp only[idxF]at he
  refine zm (by omega) (by omega) (zai rfl hj') (zg rfl ?_)
  refine zh (λh2=>zq ?_) (λh2=>zt ?_)
  ·simp only[zb]at h2
   exact zf (by rw[he,hq];simp[h2])
  ·simp only[zb]at h2
   refine zd (m:=((j+1:Nat):Int)) (by omega) (by omega) ?_
   exact⟨j+1,⟨hj',by rw[he,hq];simp[h2]⟩,by omega,zad [] rfl ⟨cr,cr,cr,cr,trivial⟩ trivial⟩
 ·simp only[zb]at h
  rw[List.drop_eq_nil_of_le (by omega)]at he
  exact zf (by rw[he];rfl)
theorem z6x(l:List Int)(x:Int)(hl:l.length<=1000000000):zaf Tryz.prog 62 [is l,I x] (.r (.b (l.any λy=>decide (x=y)))):=by
 refine zac (T:=Tab) mixed Tab_ok Tryz.func62 rfl (by kernel_rfl) ?_
 refine ze (zcxb l x hl) ?_
 exact Vcmp.mk' rfl (zf (congrArg RV.b (by rw[Bool.eq_iff_iff,decide_eq_true_eq];exact(zwp _ l 0).2.2)))
end
section
def zjs(s:Lean_)(x:Int)(T:Lean_):Lean_×Int:=if zbf s=false then(empty_,3)else if(zan s true).any (λy=>decide (x=y))=false then(empty_,7)else(T,0)
theorem z4j:Cv (.ag [I 0,I 0, .x (.slice none 0 0), .x (.slice none 0 0)]) (.ag empty_.c):=Cv.ag (zk (cr) (zk (cr) (zk (Cv.nil 11) (zk (Cv.nil 2) Cvs.nil))))
theorem zb3b(s:Lean_)(hs:s.fitN)(x:Int)(T:Lean_)(hsh:zbf s=true->(zan s true).any (λy=>decide (x=y))=true->zaf Tryz.prog 63 [.ag s.c,I x] (.r (.ag T.c))):
  zaf Tryz.prog 23 [.ag s.c,I x] (.r (.tu [.ag (zjs s x T).1.c, .i .u8 (zjs s x T).2])):=by
 refine zac (T:=Tab) mixed Tab_ok Tryz.func23 rfl (by kernel_rfl) ?_
 have gr:=ztb s hs
 refine za rfl rfl ?_
 cases hr:zbf s with
 |false=>
  rw[hr]at gr
  refine ze gr ?_
  refine zu rfl (zq ?_)
  refine za rfl rfl ?_
  have:zjs s x T=(empty_,3):=by simp[zjs,hr]
  rw[this]
  exact⟨_,rfl,Cv.tu (zk z4j (zn _))⟩
 |true=>
  rw[hr]at gr
  refine ze gr ?_
  refine zw rfl (zt ?_)
  refine za rfl rfl ?_
  have hp:=hr
  simp only[zbf,Bool.and_eq_true,decide_eq_true_eq]at hp
  have hb:=zc4 hp.2.1
  refine ze (ztg s hs hp.1 (by have:=hp.2.2.1;have:=hp.2.2.2.1;omega) true) ?_
  have hlen:(zan s true).length<=1000000000:=by
   have h1:=List.length_filter_le (λc=>(zae s.opn c).isSome==true) (zau (2*s.own) s.leaves)
   have h2:(zau (2*s.own) s.leaves).length<=17:=by rw[zee];exact zd2 _ _
   unfold zan
   omega
  have gc:=z6x (zan s true) x hlen
  cases hc:(zan s true).any (λy=>decide (x=y))with
  |false=>
   rw[hc]at gc
   refine ze gc ?_
   refine zu rfl (zq ?_)
   refine za rfl rfl ?_
   have:zjs s x T=(empty_,7):=by simp[zjs,hr,hc]
   rw[this]
   exact⟨_,rfl,Cv.tu (zk z4j (zn _))⟩
  |true=>
   rw[hc]at gc
   refine ze gc ?_
   refine zw rfl (zt ?_)
   refine za rfl rfl ?_
   refine ze (hsh hr hc) ?_
   refine za rfl rfl ?_
   have:zjs s x T=(T,0):=by simp[zjs,hr,hc]
   rw[this]
   exact⟨_,rfl,cr⟩
end
section
theorem zww(own:Stub): ∀(l M:List Stub),l.foldl (insS own) (true,M)=(true,M++l)
 |[],M=>by simp
 |y::l,M=>by
  rw[List.foldl_cons,show insS own (true,M) y=(true,M++[y])by simp[insS],zww own l]
  simp
theorem zmr(own:Stub): ∀(l M:List Stub),(∀y∈l,¬own.at_<y.at_)->l.foldl (insS own) (false,M)=(false,M++l)
 |[],M,_=>by simp
 |y::l,M,h=>by
  rw[List.foldl_cons,show insS own (false,M) y=(false,M++[y])by simp[insS,h y (by simp)],zmr own l _ λz hz=>h z (by simp[hz])]
  simp
theorem zwy(own y:Stub)(a b:List Stub)(h: ∀z∈a,¬own.at_<z.at_)(hy:own.at_<y.at_):insR own (a++y::b)=(true,a++own::y::b):=by
 unfold insR
 rw[List.foldl_append,zmr own a _ h,List.foldl_cons,show insS own (false,[]++a) y=(true,a++[own]++[y])by simp[insS,hy],zww]
 simp
theorem zlv{α:Type}(q:α->Bool): ∀(l:List α) (j:Nat),(idxG q j l= -1/\∀y∈l,q y=false)\/∃a y b,l=a++y::b/\idxG q j l=((j+a.length:Nat):Int)/\q y=true/\∀z∈a,q z=false
 |[],j=> .inl ⟨rfl,by simp⟩
 |x::l,j=>by
  cases hx:q x with
  |true=>exact .inr ⟨[],x,l,rfl,by simp[idxG,hx],hx,by simp⟩
  |false=>
   rcases zlv q l (j+1)with⟨h1,h2⟩ |⟨a,y,b,rfl,h1,h2,h3⟩
   ·refine .inl ⟨by simp[idxG,hx,h1],λy hy=>?_⟩
    rcases List.mem_cons.1 hy with rfl |hy
    ·exact hx
    ·exact h2 y hy
   ·refine .inr ⟨x::a,y,b,rfl,?_,h2,λz hz=>?_⟩
    ·simp only[idxG,hx,Bool.false_eq_true,if_false,h1,List.length_cons]
     omega
    ·rcases List.mem_cons.1 hz with rfl |hz
     ·exact hx
     ·exact h3 z hz
def zfw(own:Stub)(F:List Stub):Nat:=if idxG (λy=>decide (own.at_<y.at_)) 0 F<0 then F.length else(idxG (λy=>decide (own.at_<y.at_)) 0 F).toNat
theorem zsr(own:Stub)(F:List Stub):zfw own F<=F.length:=by
 unfold zfw
 rcases zlv (λy=>decide (own.at_<y.at_)) F 0 with⟨h1,_⟩ |⟨a,y,b,rfl,h1,_⟩
 ·rw[h1];simp
 ·rw[h1,if_neg (by omega)]
  simp
theorem zevb(own:Stub)(F:List Stub):F.take (zfw own F)++own::F.drop (zfw own F)=insL own F:=by
 unfold zfw insL
 rcases zlv (λy=>decide (own.at_<y.at_)) F 0 with⟨h1,h2⟩ |⟨a,y,b,rfl,h1,h2,h3⟩
 ·rw[h1,if_pos (by omega)]
  have:insR own F=(false,F):=by
   have:=zmr own F [] λy hy=>by have:=h2 y hy;simpa using this
   simpa[insR]using this
  rw[this]
  simp
 ·have h4:=zwy own y a b (λz hz=>by have:=h3 z hz;simpa using this) (by simpa using h2)
  rw[h1,h4,if_neg (by omega)]
  simp
end
section
theorem Vstep.thenSub{P:Program}{S:St}{o:Oper}{K:St->Prop}(h:Vstep P S o λS1=>∃S2,Sub S1 S2/\K S2):Vstep P S o K:=by
 obtain⟨ι,S1,hy,h⟩:=h
 exact⟨ι,λi=>(h i).choose,λB N a w k Q hs0 hd=>Oper.wp_mono (λa' w' ⟨i,k',hk'⟩=>⟨i,(h i).choose_spec.1 B N a' w' k' hk'⟩) (hy B N a w k Q hs0 hd),λi=>(h i).choose_spec.2⟩
end
end Go.Proofs.YtpdllgbfemnemaaGreat.Sx
