import Derived.Test.YtpdllgbfemnemaaGreatZKs
import Derived.Test.YtpdllgbfemnemaaGreatZSxY
namespace Go.Proofs.YtpdllgbfemnemaaGreat.Sx
open Go.RowKit
theorem z6o{S:St}(t:Nat)(e:TypeId)(sz:Nat)(hf:fget S.F t=some (.r (.x (.slice none 0 0)))):Sub S {F:=(t, .own S.nx)::S.F,O:=(S.nx,some (.ch e sz 0 [] false))::S.O,nx:=S.nx+1}:=by
 rintro B N a w k ⟨g,hs⟩
 have hv:=(hs.facts t _ hf).2
 simp only[TF.at_,RV.at_]at hv
 have hlt:t<a.tmps.size:=by
  rcases Nat.lt_or_ge t a.tmps.size with h |h
  ·exact h
  ·rw[Array.getD_eq_getD_getElem?,Array.getElem?_eq_none h]at hv
   simp[undef]at hv
 have h:=hs.adopt (dst:=some t) (λd hd=>by cases hd;rw[<-hs.size];exact hlt) (o:= .ch e sz 0 [] false) (vb:=(.slice none 0 0,none)) trivial ⟨by simp, .inl ⟨rfl, .inl ⟨rfl,none,rfl⟩⟩⟩ (λb hb=>by cases hb) (λi o' b _ hb=>by cases hb)
 have e1:a.put (some t) (.slice none 0 0)=a:=by
  simp only[Act.put]
  have:a.tmps.setIfInBounds t (.slice none 0 0)=a.tmps:=by
   apply Array.ext
   ·simp
   ·intro i h1 h2
    by_cases hi:t=i
    ·subst hi
     rw[Array.getElem_setIfInBounds_self]
     rw[Array.getD_eq_getD_getElem?,Array.getElem?_eq_getElem hlt]at hv
     exact hv.symm
    ·rw[Array.getElem_setIfInBounds_ne _ hi]
  rw[this]
 rw[e1]at h
 exact⟨k,_,h⟩
theorem zj1{S:St}{id:Nat}{e:TypeId}{sz n:Nat}{cells:List RV}(ho:oget S.O id=some (.ch e sz n cells false)):Sub S ⟨S.F,(id,some (.ch e sz n cells true))::S.O,S.nx⟩:=by
 rintro B N a w k ⟨g,hs⟩
 obtain⟨q1,q2,q3,q4⟩:=hs.owns id _ ho
 simp only[Ow.at_]at q3
 let k1:Kp:=match(g id).2 with
  |some b=>kset k b (n*sz)
  |none=>k
 have hw:Wrote w k w k1 (g id).2:=by
  refine⟨rfl,rfl,rfl,Nat.le_refl _,λb hb hne=>⟨rfl,?_⟩,λb hb=>?_⟩
  ·simp only[k1]
   cases hob:(g id).2 with
   |none=>rfl
   |some b'=>simp only[kset];rw[if_neg (λh=>hne (by rw[hob,h]))]
  ·have hkb:=(q3.blk hb.symm).1
   simp only[Bool.false_eq_true,if_false]at hkb
   exact⟨by omega,λ_ _=>rfl,λh=>by omega⟩
 have hle:=hw.le
 have h2:chAt w k1 e sz n cells true (g id).1 (g id).2:=by
  refine⟨q3.1,?_⟩
  rcases q3.2 with⟨h,h' |⟨_,h',_⟩⟩ |⟨b,cap,cur,h1,h2,h3,h4,h5,h6,h7,h8⟩
  ·exact .inl ⟨h, .inl h'⟩
  ·cases h'
  ·refine .inr ⟨b,cap,cur,h1,h2,h3,h4,h5,h6,?_,RV.list_mono hle _ _ h8⟩
   simp only[k1,h1,zc1,if_true]
 have h1:=hs.wrote hw (id:=some id) ⟨⟨_,ho⟩,rfl⟩
 have up: ∀i o',oget ((id,some (Ow.ch e sz n cells true))::S.O) i=some o'->(i=id/\o'= .ch e sz n cells true)\/(id≠i/\oget (S.strike (some id)).O i=some o'):=λi o' h=>by
  rcases zav h with⟨rfl,e'⟩ |⟨hne,h⟩
  ·cases e';exact .inl ⟨rfl,rfl⟩
  ·refine .inr ⟨hne,?_⟩
   simp only[St.strike,St.set,oget]
   split
   ·rename_i hb;exact absurd (Nat.eq_of_beq_eq_true hb) hne
   ·exact h
 refine⟨k1,g,h1.size,h1.defers,h1.keep,h1.kk,h1.facts,λi o' h=>?_,λi j o1 o2 b' hi hj hne hbi=>?_⟩
 ·rcases up i o' h with⟨rfl,rfl⟩ |⟨hne,h⟩
  ·exact⟨q1,trivial,h2,q4⟩
  ·exact h1.owns i o' h
 ·have old: ∀x ox,oget ((id,some (Ow.ch e sz n cells true))::S.O) x=some ox->∃ox',oget S.O x=some ox':=λx ox hx=>by
   rcases zav hx with⟨rfl,_⟩ |⟨_,hx⟩
   ·exact⟨_,ho⟩
   ·exact⟨ox,hx⟩
  obtain⟨p1,hp1⟩:=old i o1 hi
  obtain⟨p2,hp2⟩:=old j o2 hj
  exact hs.apart i j p1 p2 b' hp1 hp2 hne hbi
theorem zfwb{ρ:List (Nat×Nat)}{S:St}{e:TypeId}{l m:List Int}(h:l=m):cvOw ρ S (.ch e 1 l.length (l.map I) false) (.ch e 1 m.length (m.map I) false):=by
 subst h;exact⟨rfl,rfl,rfl,rfl,zn _⟩
theorem zdbb{e:TypeId}{l m:List Int}(h:l=m):some (Ow.ch e 1 l.length (l.map I) false)=some (Ow.ch e 1 m.length (m.map I) false):=by rw[h]
theorem z77(x n:Int):zaf Tryz.prog 57 [I x,I n] (.own 3 1 (zau x n).length ((zau x n).map I)):=by
 refine zac (T:=Tab) mixed Tab_ok Tryz.func57 rfl (by kernel_rfl) ?_
 obtain⟨C,hC⟩: ∃C,C=zau x n:=⟨_,rfl⟩
 obtain⟨P,hP⟩: ∃P,P=za4 x n:=⟨_,rfl⟩
 have hlen:C.length=P.length:=by rw[hC,hP];exact zee x n
 have hpl:P.length<=17:=hP▸zd2 x n
 rw[<-hC]
 refine ze (zun x n) ?_
 refine zy (λi:Nat×Int×Nat=>{F:=[(0, .r (I i.2.1)),(1, .r (I n)),(5, .own 0),(10, .r (is P)),(11, .r (I P.length)),(12, .r (I i.1))],O:=[(0,some (.ch 3 1 (C.take i.1).length ((C.take i.1).map I) false))],nx:=1})
  (λi=>i.1<=P.length/\P.drop i.1=zeg n i.2.2 i.2.1/\C.drop i.1=zdi n i.2.2 i.2.1) (λi=>P.length-i.1) (0,x,17) ⟨by simp,by simp[hP,za4],by simp[hC,zau]⟩
  ((z6o 5 3 1 rfl).trans (zad [(0,1)] rfl ⟨cr,cr,rfl,zf (by subst hP;rfl),zf (by subst hP;rfl),cr,trivial⟩ ⟨⟨rfl,rfl,rfl,rfl,zn _⟩,trivial⟩)) ?_
 rintro⟨j,y,k⟩ ⟨hj,hp,hc⟩
 simp only at hj hp hc
 have hcl:(C.take j).length<=17:=by rw[List.length_take];omega
 refine zh (λh=>zq ?_) (λh=>zt ?_)
 ·simp only[zb]at h
  have hj':j<P.length:=by omega
  obtain⟨k',rfl,e1,e2,e3,_⟩:=zrs hp hj'
  rw[zdi,if_neg (by omega),List.drop_eq_getElem_cons (by omega)]at hc
  have hc1:=(List.cons.inj hc).1
  have hc2:=(List.cons.inj hc).2
  have hsn:C.take (j+1)=C.take j++[sibI y n]:=by rw[List.take_add_one,List.getElem?_eq_getElem (by omega),hc1];rfl
  refine zm (by omega) (by omega) (zai rfl hj') (zg rfl ?_)
  refine ze (z9j y n) ?_
  refine zx ?_
  refine Vapp.mk' (j:=(C.take (j+1)).length) (zs:=(C.take (j+1)).map I) (by simp only[maxLen];omega) (by simp;omega) (by rw[hsn];simp) (by rw[hsn];simp[zb8,cellsOf]) ?_
  refine zd (m:=((j+1:Nat):Int)) (by omega) (by omega) ?_
  exact⟨(j+1,parI y n,k'),⟨hj',e3,hc2⟩,by simp only;omega,zad [(0,_)] rfl ⟨zf (by rw[e1]),cr,rfl,cr,cr,cr,trivial⟩ ⟨zfwb rfl,trivial⟩⟩
 ·simp only[zb]at h
  exact zdbb (List.take_of_length_le (by omega))
theorem z8s(s:Lean_)(c:Int)(b:Bool):zaf Tryz.prog 102 [I c, .ptr (zce s), .ptr [.b b]] (.r (.b (!((zae s.opn c).isSome==b)))):=by
 refine zac (T:=Tab) mixed Tab_ok Tryz.func102 rfl (by kernel_rfl) ?_
 refine zg rfl ?_
 refine Vstep.node2 rfl rfl rfl (λm hm=>?_) (λhm=>?_)
 ·refine zg rfl ?_
  exact Vcmp.mk' rfl (zf (by rw[hm];rfl))
 ·refine zg rfl ?_
  exact Vcmp.mk' rfl (zf (by rw[hm];rfl))
theorem Vadr.mk''{i:Int}{n:Nat}{K:Nat->Prop}(j:Nat)(h:i=(j:Int))(hj:j<n)(hK:K j):Vadr i n K:=by
 subst h
 exact⟨by omega,by omega,by rw[Int.toNat_natCast];exact hK⟩
theorem zawb{L:List Int}{i:Nat}{v:Int}(hi:i<L.length):(L.set i v).take (i+1)=L.take i++[v]:=by
 rw[List.take_add_one,List.getElem?_set_self hi,List.take_set_of_le (Nat.le_refl _)];rfl
theorem zb0b{L:List Int}{i j:Nat}{v:Int}(h:i<j):(L.set i v).drop j=L.drop j:=by
 rw[List.drop_set_of_lt h]
theorem zx6(q:Int->Bool): ∀(l:List Int) (j:Nat),(idxF q j l= -1/\l.filter (λx=> !q x)=l)\/∃i:Nat,i<l.length/\idxF q j l=((j+i:Nat):Int)/\(l.take i).filter (λx=> !q x)=l.take i/\∀h:i<l.length,q l[i]=true
 |[],j=> .inl ⟨rfl,rfl⟩
 |x::r,j=>by
  rw[idxF]
  by_cases hq:q x=true
  ·rw[if_pos hq]
   exact .inr ⟨0,by simp,by simp,by simp,λ_=>hq⟩
  ·rw[if_neg hq]
   have hx:(!q x)=true:=by simpa using hq
   rcases zx6 q r (j+1)with⟨h1,h2⟩ |⟨i,h1,h2,h3,h4⟩
   ·exact .inl ⟨h1,by rw[List.filter_cons,if_pos hx,h2]⟩
   ·refine .inr ⟨i+1,by simpa using h1,by rw[h2];omega,by rw[List.take_succ_cons,List.filter_cons,if_pos hx,h3],λh=>by simpa using h4 h1⟩
theorem zy9(l:List Int)(D:Int->Prop)(q:Int->Bool)(hl:l.length<=1000000000)(hD: ∀x∈l,D x):
  z67 Tryz.prog 101 3 1 l.length (l.map I) [.s (cloS Tryz.prog I D q)] (l.filter λx=> !q x).length ((l.filter λx=> !q x).map I):=by
 refine z0h (T:=Tab) (rt:=4) mixed Tab_ok Tryz.func101 rfl (by kernel_rfl) rfl ?_
 refine Vstep.peek rfl rfl rfl rfl rfl (λ_ _ _ _ _ h=>by simpa[RV.at_]using h) (zr1 l D q hl hD) ?_
 rcases zx6 q l 0 with⟨h1,h2⟩ |⟨i0,h1,h2,h3,h4⟩
 ·refine zu (by rw[h1];rfl) (zq ?_)
  refine⟨.inl rfl,_,rfl,?_⟩
  rw[h2]
  rfl
 rw[Nat.zero_add]at h2
 rw[h2]
 refine zw (by simp only[zb];omega) (zt ?_)
 refine zd (m:=((i0+1:Nat):Int)) (by omega) (by omega) ?_
 have hq0:=h4 h1
 refine zy (λp:Nat×Nat×List Int=>{F:=[(0, .own 0),(1, .r (.s (cloS Tryz.prog I D q))),(5, .r (I p.1)),(6, .r (I p.2.1))],O:=[(0,some (.ch 3 1 l.length (p.2.2.map I) false))],nx:=1})
  (λp=>p.1<p.2.1/\p.2.1<=l.length/\p.2.2.length=l.length/\p.2.2.take p.1=(l.take p.2.1).filter (λx=> !q x)/\p.2.2.drop p.2.1=l.drop p.2.1) (λp=>l.length-p.2.1) (i0,i0+1,l)
  ⟨by simp,h1,rfl,by
   simp only
   rw[List.take_add_one,List.getElem?_eq_getElem h1,List.filter_append,h3]
   simp[hq0],rfl⟩
  (zad [(0,0)] rfl ⟨rfl,cr,cr,cr,trivial⟩ ⟨⟨rfl,rfl,rfl,rfl,zn _⟩,trivial⟩) ?_
 rintro⟨i,j,L⟩ ⟨hij,hjn,hL,ht,hd⟩
 simp only at hij hjn hL ht hd
 refine zh (λh=>zq ?_) (λh=>zt ?_)
 ·simp only[zb]at h
  have hj':j<l.length:=by omega
  have hLj:L[j]'(by omega)=l[j]:=by
   rw[List.drop_eq_getElem_cons (by omega),List.drop_eq_getElem_cons hj']at hd
   exact(List.cons.inj hd).1
  have hd1:L.drop (j+1)=l.drop (j+1):=by
   rw[List.drop_eq_getElem_cons (by omega),List.drop_eq_getElem_cons hj']at hd
   exact(List.cons.inj hd).2
  refine Vadr.mk'' j rfl (by omega) ?_
  refine zg (f:=I l[j]) (by rw[Nat.mul_one,List.getElem?_map,List.getElem?_eq_getElem (show j<L.length by omega),hLj];rfl) ?_
  have hts:(l.take (j+1)).filter (λx=> !q x)=if q l[j]then(l.take j).filter (λx=> !q x)else(l.take j).filter (λx=> !q x)++[l[j]]:=by
   rw[List.take_add_one,List.getElem?_eq_getElem hj',List.filter_append]
   cases hq:q l[j]<;>simp[hq]
  refine Vstep.cloB l[j] rfl rfl rfl rfl (cr) (hD _ (List.getElem_mem hj')) (λhq=>?_) (λhq=>?_)
  ·refine zw rfl (zt ?_)
   refine zd (m:=((j+1:Nat):Int)) (by dsimp only;omega) (by dsimp only;omega) ?_
   rw[if_pos hq]at hts
   exact⟨(i,j+1,L),⟨by simp only;omega,hj',hL,by rw[hts];exact ht,hd1⟩,by simp only;omega,zad [(0,0)] rfl ⟨rfl,cr,cr,cr,trivial⟩ ⟨⟨rfl,rfl,rfl,rfl,zn _⟩,trivial⟩⟩
  ·refine zu rfl (zq ?_)
   rw[if_neg (by simp[hq])]at hts
   refine Vadr.mk'' i rfl (by omega) ?_
   refine⟨by simp;omega,(L.set i l[j]).map I,?_,?_⟩
   ·rw[List.map_set]
    simp only[zb8,cellsOf,Nat.mul_one,List.length_singleton]
    rw[List.set_eq_take_append_cons_drop,if_pos (by simp;omega)]
    simp
   refine zd (m:=((i+1:Nat):Int)) (by omega) (by omega) ?_
   refine zd (m:=((j+1:Nat):Int)) (by dsimp only;omega) (by dsimp only;omega) ?_
   exact⟨(i+1,j+1,L.set i l[j]),⟨by simp only;omega,hj',by simp only[List.length_set];exact hL,by simp only;rw[zawb (by omega),ht,hts],by simp only;rw[zb0b (by omega)];exact hd1⟩,by simp only;omega,zad [(0,0)] rfl ⟨rfl,cr,cr,cr,trivial⟩ ⟨⟨rfl,rfl,rfl,rfl,zn _⟩,trivial⟩⟩
 ·simp only[zb]at h
  rw[show l.take j=l from List.take_of_length_le (by omega)]at ht
  refine z5k (n:=l.length) (i:=i) Tab_ok rfl ⟨rfl,rfl,rfl⟩ ⟨rfl,rfl,rfl⟩ ⟨rfl,rfl,rfl⟩ ⟨rfl,rfl,rfl⟩ rfl rfl rfl rfl rfl (by decide) rfl rfl rfl (by omega) ?_
  refine Vstep.head (i:=i) Tab_ok rfl rfl rfl rfl rfl rfl rfl rfl (by omega) ?_
  refine⟨.inl rfl,_,rfl,?_⟩
  have hlen:(l.filter λx=> !q x).length=i:=by rw[<-ht,List.length_take];omega
  rw[hlen,<-ht]
  refine congrArg some ?_
  have:(((L.map I).take i++List.replicate (l.length-i) (RV.i .i64 0)).take (i*1))=(L.take i).map I:=by
   rw[Nat.mul_one,List.take_append_of_le_length (by simp;omega),List.take_take,Nat.min_self,List.map_take]
  rw[<-this]
theorem ztg(s:Lean_)(hs:s.fitN)(hl:s.lookOk=true)(ho:0<=s.own/\s.own<=1000000)(b:Bool):zaf Tryz.prog 60 [.ag s.c, .b b] (.r (is (zan s b))):=by
 refine zyp (T:=Tab) mixed Tab_ok Tryz.func60 rfl (by kernel_rfl) ?_
 have glook:=zny s (by have:=hs.1;omega) (by have:=hs.2.1;omega)
 simp only[zkm,hl,if_true]at glook
 refine za rfl rfl ?_
 refine ze glook ?_
 refine zd rfl (by omega) ?_
 refine ze (z77 _ _) ?_
 have hcl:(zau (2*s.own) s.leaves).length<=17:=by rw[zee];exact zd2 _ _
 refine Vstep.sub (Sub.trans (ze4 (t:=5) (zce s) rfl rfl) (ze4 (t:=3) [.b b] rfl rfl)) (Vstep.mkfun I (λ_=>True) (λc=> !((zae s.opn c).isSome==b)) rfl rfl (λc _=>z8s s c b) ?_)
 refine Vstep.take rfl rfl rfl rfl rfl (zn _) (zy9 _ (λ_=>True) _ (by omega) λ_ _=>trivial) ?_
 refine⟨_,zj1 (id:=4) rfl,?_⟩
 refine zf ?_
 have:(λx=> !!((zae s.opn x).isSome==b))= λc=>(zae s.opn c).isSome==b:=by funext x;simp
 rw[this]
 rfl
theorem zdxb(s:Lean_)(hs:s.fitN):zaf Tryz.prog 18 [.ag s.c] (.r (is (if zbf s then zan s false else[]))):=by
 refine zac (T:=Tab) mixed Tab_ok Tryz.func18 rfl (by kernel_rfl) ?_
 refine za rfl rfl ?_
 refine Vcall.bool (ztb s hs) (λh=>zw rfl (zt ?_)) (λh=>zu rfl (zq ?_))
 ·have hp:=h
  simp only[zbf,Bool.and_eq_true,decide_eq_true_eq]at hp
  have hb:=zc4 hp.2.1
  refine za rfl rfl ?_
  refine ze (ztg s hs hp.1 ⟨hp.2.2.1,by omega⟩ false) ?_
  rw[if_pos h]
  exact cr
 ·rw[if_neg (by simp[h])]
  exact Cv.nil 1
end Go.Proofs.YtpdllgbfemnemaaGreat.Sx
