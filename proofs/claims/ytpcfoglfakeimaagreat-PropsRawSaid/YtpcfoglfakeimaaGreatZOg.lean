import Derived.Test.YtpcfoglfakeimaaGreatZCh
import Derived.Test.YtpcfoglfakeimaaGreatZOb
namespace Go.Proofs.YtpcfoglfakeimaaGreat.Sx
open Go.RowKit
theorem zfe{t:List Node}{x:Nat}(h:t.length<=x):nT t x=Node.zero:=by
 unfold nT;rw[List.getD_eq_getElem?_getD,List.getElem?_eq_none h];rfl
theorem zwu{f:Nat->Node}{n x:Nat}:nT ((List.range n).map f) x=if x<n then f x else Node.zero:=by
 unfold nT
 rw[List.getD_eq_getElem?_getD,List.getElem?_map]
 by_cases h:x<n
 ·rw[if_pos h,List.getElem?_range h];rfl
 ·rw[if_neg h,List.getElem?_eq_none (by simp;omega)];rfl
theorem zcyb{t u:List Node}(hl:t.length=u.length)(h: ∀x,x<t.length->nT t x=nT u x):t=u:=by
 apply List.ext_getElem hl
 intro i h1 h2
 have:=h i h1
 rw[<-ze5 h1,<-ze5 h2]at this
 exact this
theorem z42{t:List Node}{j x:Nat}{z:Node}:nT (t.set j z) x=if x=j/\j<t.length then z else nT t x:=by
 unfold nT
 rw[List.getD_eq_getElem?_getD,List.getD_eq_getElem?_getD,List.getElem?_set]
 by_cases h:j=x
 ·subst h
  by_cases h2:j<t.length
  ·rw[if_pos rfl,if_pos h2,if_pos ⟨rfl,h2⟩];rfl
  ·rw[if_pos rfl,if_neg h2,if_neg (λq=>h2 q.2),List.getElem?_eq_none (by omega)]
 ·rw[if_neg h,if_neg (λq=>h q.1.symm)]
theorem zbrb{t:List Node}{n x:Nat}:nT (t.take n) x=if x<n then nT t x else Node.zero:=by
 unfold nT
 rw[List.getD_eq_getElem?_getD,List.getD_eq_getElem?_getD,List.getElem?_take]
 by_cases h:x<n
 ·rw[if_pos h,if_pos h]
 ·rw[if_neg h,if_neg h];rfl
theorem zxw: ∀(p:List Int) (t:List Node) (x:Nat),(∀y∈p,0<=y)->nT (setZ t p) x=if(x:Int)∈p then Node.zero else nT t x
 |[],t,x,_=>by simp[setZ]
 |y::r,t,x,h=>by
  show nT (setZ (t.set y.toNat Node.zero) r) x=_
  rw[zxw r _ x (λz hz=>h z (by simp[hz])),z42]
  have hy:=h y (by simp)
  by_cases h1:(x:Int)∈r
  ·rw[if_pos h1,if_pos (by simp[h1])]
  ·rw[if_neg h1]
   by_cases h2:(x:Int)=y
   ·rw[if_pos (show(x:Int)∈y::r by simp[h2])]
    by_cases h3:x=y.toNat/\y.toNat<t.length
    ·rw[if_pos h3]
    ·rw[if_neg h3]
     exact zfe (Nat.le_of_not_lt λh4=>h3 ⟨by omega,by omega⟩)
   ·rw[if_neg (show¬((x:Int)∈y::r)by simp[h1,h2]),if_neg (λq=>h2 (by omega))]
theorem zlz:Node.zero.right=true:=by decide
theorem zua:Node.zero.par.late=[]:=rfl
theorem zc2:Node.zero.kind.toNat=0:=rfl
theorem zhp{t:List Node}{n:Int}{j:Nat}:zel t n j=true↔∃i,i<j/\(nT t i).kind.toNat=1/\(n=1\/n<=(i:Int)):=by
 unfold zel
 rw[List.any_eq_true]
 constructor
 ·rintro⟨i,h1,h2⟩
  exact⟨i,List.mem_range.1 h1,of_decide_eq_true h2⟩
 ·rintro⟨i,h1,h2⟩
  exact⟨i,List.mem_range.2 h1,decide_eq_true h2⟩
theorem zch{u:List Node}(hn:zae u≠0): ∃d,d<=16/\zae u=((2^d:Nat):Int)/\u.length=2*2^d-1:=by
 obtain⟨hl1,hl2,hl3⟩:=zbg hn
 obtain⟨d,hd,e⟩:=zdn hl2
 exact⟨d,hd,e,by omega⟩
theorem zmz{u:List Node}{d:Nat}(hd:d<=16)(h:u.length=2*2^d-1):zae u=((2^d:Nat):Int):=by
 have:=zai d
 unfold zae
 rw[h,show(2*2^d-1+1)/2=2^d by omega,if_pos ⟨zev d hd,by omega⟩]
theorem zsm{d o x:Nat}(hd:d<=16)(ho:o<2^d)(hx:x<2*2^d-1)(h:zb1 x o=true):x%2=1:=by
 obtain⟨p,e,h1,_⟩:=zpn hd ho ((zlk hd ho hx).2 h)
 have:x=p:=by exact_mod_cast e
 rw[this];exact h1
theorem zjm{x o:Nat}:zb1 x o=true↔x≠2*o/\zb3 (2*(o:Int)) x=true:=by
 unfold zb1
 rw[Bool.and_eq_true,decide_eq_true_eq]
 exact⟨λh=>⟨λe=>h.1 (by omega),h.2⟩,λh=>⟨λe=>h.1 (by omega),h.2⟩⟩
theorem zgw{u:List Node}{o x:Nat}{y:Node}(hx:x<u.length):nT (setT u (o:Int) y) x=if(x:Int)=2*(o:Int)then y else if zb1 x o=true then Node.zero else nT u x:=by
 unfold setT setN
 rw[zwu,if_pos hx]
theorem zd9{u:List Node}{i:Int}{y:Node}:(setT u i y).length=u.length:=zxv _ _ _ _
theorem zst{u:List Node}{o:Nat}{y:Node}(hn:zae u≠0)(ho:(o:Int)<zae u):(zcv u (o:Int)).set (2*(o:Int)).toNat y=setT u (o:Int) y:=by
 obtain⟨d,hd,e,hlen⟩:=zch hn
 have ho':o<2^d:=by omega
 have hpos: ∀z∈zb4 (2*(o:Int)) (zae u),0<=z:=λz hz=>by
  rw[e]at hz
  obtain⟨p,e1,_⟩:=zpn hd ho' hz
  omega
 have hbl:(zcv u (o:Int)).length=u.length:=zi0 _ _
 apply zcyb
 ·rw[List.length_set,hbl,zd9]
 intro x hx
 rw[List.length_set,hbl]at hx
 rw[zgw hx,z42,hbl,show(2*(o:Int)).toNat=2*o by omega]
 by_cases h:x=2*o
 ·rw[if_pos ⟨h,by omega⟩,if_pos (by omega)]
 ·rw[if_neg (λq=>h q.1),if_neg (by omega)]
  unfold zcv
  rw[zxw _ _ _ hpos,e]
  have hp:=zlk hd ho' (x:=x) (by omega)
  by_cases hm:zb1 x o=true
  ·rw[if_pos (hp.2 hm),if_pos hm]
  ·rw[if_neg (λq=>hm (hp.1 q)),if_neg hm]
structure SetOk (u v:List Node) (o:Nat) (y:Node):Prop where
 leaves:zae v=zae u
 len:v.length=u.length
 ok: ∀j,j<v.length->okT v j
 late: ∀j,j<v.length->∀w∈(nT v j).par.late,zcg v (zae v) j w
 at_:nT v (2*o)=y
 leaf: ∀m,m≠o->nT v (2*m)=nT u (2*m)
theorem zxx{u:List Node}{o:Nat}{y:Node}(r:RightT u)(ho:(o:Int)<zae u)(hy:y.right=true)(hk:y.kind.toNat=0\/y.kind.toNat=1):SetOk u (setT u (o:Int) y) o y:=by
 obtain⟨d,hd,e,hlen⟩:=zch r.n
 have ho':o<2^d:=by omega
 have hl:zae (setT u (o:Int) y)=zae u:=zoq zd9
 have hyl:y.par.late=[]:=(zd2 hy).2.2 (by omega)
 have hleaf: ∀m,m≠o->nT (setT u (o:Int) y) (2*m)=nT u (2*m):=λm hm=>by
  by_cases hx:2*m<u.length
  ·rw[zgw hx,if_neg (by omega),if_neg]
   intro ha
   have:=zsm hd ho' (by omega) ha
   omega
  ·rw[zfe (by rw[zd9];omega),zfe (by omega)]
 refine⟨hl,zd9,λj hj=>?_,λj hj w hw=>?_,?_,hleaf⟩
 ·rw[zd9]at hj
  unfold okT
  rw[zgw hj]
  by_cases h1:(j:Int)=2*(o:Int)
  ·rw[if_pos h1]
   exact⟨hy,by omega,by omega⟩
  ·rw[if_neg h1]
   by_cases h2:zb1 j o=true
   ·rw[if_pos h2]
    exact⟨zlz,by rw[zc2];omega,by rw[zc2];omega⟩
   ·rw[if_neg h2]
    exact r.ok j hj
 ·rw[zd9]at hj
  rw[zgw hj]at hw
  by_cases h1:(j:Int)=2*(o:Int)
  ·rw[if_pos h1,hyl]at hw;cases hw
  rw[if_neg h1]at hw
  by_cases h2:zb1 j o=true
  ·rw[if_pos h2,zua]at hw;cases hw
  rw[if_neg h2]at hw
  obtain⟨l1,l2,l3,l4⟩:=r.late j hj w hw
  have hw0:0<=w:=by
   have:=(zgi.1 l3).1.1
   have:=zcl.1 this
   omega
  obtain⟨W,rfl⟩: ∃W:Nat,w=(W:Int):=⟨w.toNat,by omega⟩
  have hne:W≠o:=λe2=>by
   subst e2
   exact h2 (zjm.2 ⟨by omega,l3⟩)
  rw[hl]
  refine⟨l1,?_,l3,λz hz=>?_⟩
  ·rw[show(2*(W:Int)).toNat=2*W by omega]at l2⊢
   rw[hleaf W hne];exact l2
  ·rw[zd9]at hz
   have l5:=l4 z hz
   unfold zn6 at l5⊢
   rw[zgw hz]
   by_cases h3:(z:Int)=2*(o:Int)
   ·rw[if_pos h3];omega
   ·rw[if_neg h3]
    by_cases h4:zb1 z o=true
    ·rw[if_pos h4,zc2];omega
    ·rw[if_neg h4];exact l5
 ·rw[zgw (by omega),if_pos (by omega)]
theorem z5x{u:List Node}{o:Nat}{y:Node}(r:RightT u)(ho:(o:Int)<zae u)(hy:y.right=true)(hk:y.kind.toNat=1):RightT (setT u (o:Int) y):=by
 have s:=zxx r ho hy (.inr hk)
 refine⟨by rw[s.leaves];exact r.n,s.ok,?_,s.late⟩
 rw[zhp,s.leaves,s.len]
 obtain⟨i,h1,h2,h3⟩:=zhp.1 r.some
 refine⟨i,h1,?_,h3⟩
 have hi:i%2=0:=by
  have:=(r.ok i h1).2.2
  rcases Nat.mod_two_eq_zero_or_one i with h |h
  ·exact h
  ·exact absurd ⟨h,h2⟩ this
 have e:i=2*(i/2):=by omega
 by_cases h4:i/2=o
 ·rw[e,h4,s.at_];exact hk
 ·rw[e,s.leaf _ h4,<-e];exact h2
theorem zt9(q:Int): ∀(f k:Nat),∃e,upTo q f (2^k)=2^e/\k<=e/\e<=k+f/\(e=k\/((2^(e-1):Nat):Int)<=q)/\(q< ((2^e:Nat):Int)\/e=k+f)
 |0,k=>⟨k,rfl,Nat.le_refl _,by omega, .inl rfl, .inr rfl⟩
 |f+1,k=>by
  unfold upTo
  by_cases h:((2^k:Nat):Int)<=q
  ·rw[if_pos h,show 2*2^k=2^(k+1)by rw[Nat.pow_succ];omega]
   obtain⟨e,h1,h2,h3,h4,h5⟩:=zt9 q f (k+1)
   refine⟨e,h1,by omega,by omega, .inr ?_,h5.imp id (by omega)⟩
   rcases h4 with h4 |h4
   ·rw[h4];exact h
   ·exact h4
  ·rw[if_neg h]
   exact⟨k,rfl,Nat.le_refl _,by omega, .inl rfl, .inl (by omega)⟩
theorem z72{l:List Int}{q:Int}(hp:l.Pairwise (· < ·))(h:l.getLast?=some q): ∀x∈l,x<=q:=by
 obtain⟨ys,rfl⟩:=List.getLast?_eq_some_iff.1 h
 intro x hx
 rw[List.pairwise_append]at hp
 rcases List.mem_append.1 hx with h1 |h1
 ·exact Int.le_of_lt (hp.2.2 x h1 q (by simp))
 ·simp at h1;omega
theorem zo4{v:List Node}(hn:zae v≠0)(hm: ∃x,x∈zaf v): ∃e Q:Nat,cutN v=2^e/\((2^e:Nat):Int)<=zae v/\e<=16/\(Q:Int)∈zaf v/\Q<2^e/\(e=0\/2^e<=2*Q)/\(∀m:Nat,(m:Int)∈zaf v->m<2^e):=by
 obtain⟨d,hd,e1,hlen⟩:=zch hn
 obtain⟨x,hx⟩:=hm
 obtain⟨q,hq⟩: ∃q,(zaf v).getLast?=some q:=by
  cases h:(zaf v).getLast? with
  |some q=>exact⟨q,rfl⟩
  |none=>rw[List.getLast?_eq_none_iff]at h;rw[h]at hx;cases hx
 have hmem:=List.mem_of_getLast? hq
 obtain⟨Q,rfl,hQ1,hQ2⟩:=za8 hmem
 have hlast:zfj v=(Q:Int):=by unfold zfj;rw[hq];rfl
 obtain⟨e,h1,h2,h3,h4,h5⟩:=zt9 (zfj v) 20 0
 have h16:=(zgb hd).2
 have hQd:Q<2^d:=by omega
 rw[hlast]at h1 h4 h5
 have he:e<=d:=by
  rcases h4 with h4 |h4
  ·omega
  ·rcases Nat.lt_or_ge d e with hlt |hge
   ·exfalso
    have:2^d<=2^(e-1):=Nat.pow_le_pow_right (by omega) (by omega)
    omega
   ·exact hge
 have hQe:Q<2^e:=by
  rcases h5 with h5 |h5
  ·omega
  ·omega
 have hmax: ∀m:Nat,(m:Int)∈zaf v->m<2^e:=λm hm=>by
  have:=z72 (zm2 v) hq _ hm
  omega
 refine⟨e,Q,by unfold cutN;rw[hlast];exact h1,?_,by omega,hmem,hQe,?_,hmax⟩
 ·rw[e1]
  have:2^e<=2^d:=Nat.pow_le_pow_right (by omega) he
  omega
 ·rcases h4 with h4 |h4
  ·exact .inl h4
  ·rcases Nat.eq_zero_or_pos e with h6 |h6
   ·exact .inl h6
   ·right
    have:2^e=2*2^(e-1):=by
     conv=>lhs;rw[show e=e-1+1 by omega]
     rw[Nat.pow_succ];omega
    omega
theorem z2v{v:List Node}(hn:zae v≠0)(hok: ∀j,j<v.length->okT v j)(hlate: ∀j,j<v.length->∀w∈(nT v j).par.late,zcg v (zae v) j w)(hm: ∃x,x∈zaf v):
  RightT (cutT v)/\(∀m:Nat,(m:Int)∈zaf (cutT v)↔(m:Int)∈zaf v):=by
 obtain⟨e,Q,h1,h2,h3,h4,h5,h6,h7⟩:=zo4 hn hm
 obtain⟨d,hd,e1,hlen⟩:=zch hn
 have hp:=zai e
 have hl:(cutT v).length=2*2^e-1:=by
  unfold cutT
  rw[List.length_take,h1]
  omega
 have hlv:=zmz h3 hl
 have hat: ∀x,x<2*2^e-1->nT (cutT v) x=nT v x:=λx hx=>by
  unfold cutT
  rw[zbrb,h1,if_pos hx]
 have hle:2*2^e-1<=v.length:=by omega
 obtain⟨Q',hQ0,hQ1,hQ2⟩:=za8 h4
 have hQ0':Q=Q':=by exact_mod_cast hQ0
 subst hQ0'
 refine⟨⟨by rw[hlv];omega,λj hj=>?_,?_,λj hj w hw=>?_⟩,λm=>?_⟩
 ·rw[hl]at hj
  unfold okT
  rw[hat j hj]
  exact hok j (by omega)
 ·rw[zhp,hl,hlv]
  refine⟨2*Q,by omega,by rw[hat _ (by omega)];exact hQ2,?_⟩
  rcases h6 with h6 |h6
  ·left;rw[h6];rfl
  ·right;omega
 ·rw[hl]at hj
  rw[hat j hj]at hw
  obtain⟨l1,l2,l3,l4⟩:=hlate j (by omega) w hw
  have hw0:0<=w:=by
   have:=zcl.1 (zgi.1 l3).1.1
   omega
  obtain⟨W,rfl⟩: ∃W:Nat,w=(W:Int):=⟨w.toNat,by omega⟩
  rw[show(2*(W:Int)).toNat=2*W by omega]at l2
  have hW:W<2^e:=h7 W (zba.2 ⟨W,rfl,by omega,l2⟩)
  refine⟨by rw[hlv];omega,by rw[show(2*(W:Int)).toNat=2*W by omega,hat _ (by omega)];exact l2,l3,λz hz=>?_⟩
  rw[hl]at hz
  have:=l4 z (by omega)
  unfold zn6 at this⊢
  rw[hat z hz]
  exact this
 ·rw[zba,zba]
  constructor
  ·rintro⟨o,e2,h8,h9⟩
   have:m=o:=by exact_mod_cast e2
   subst this
   rw[hl]at h8
   rw[hat _ (by omega)]at h9
   exact⟨m,rfl,by omega,h9⟩
  ·rintro⟨o,e2,h8,h9⟩
   have:m=o:=by exact_mod_cast e2
   subst this
   have hW:=h7 m (zba.2 ⟨m,rfl,h8,h9⟩)
   exact⟨m,rfl,by rw[hl];omega,by rw[hat _ (by omega)];exact h9⟩
theorem z2b{v:List Node}(hn:zae v≠0)(hok: ∀j,j<v.length->okT v j)(hm: ∃x,x∈zaf v):zc6 17 v=cutT v:=by
 obtain⟨e,Q,h1,h2,h3,h4,h5,h6,h7⟩:=zo4 hn hm
 obtain⟨d,hd,e1,hlen⟩:=zch hn
 obtain⟨Q',hQ0,hQ1,hQ2⟩:=za8 h4
 have hQ0':Q=Q':=by exact_mod_cast hQ0
 subst hQ0'
 have hed:e<=d:=by
  rcases Nat.lt_or_ge d e with h |h
  ·have:2^d<2^e:=Nat.pow_lt_pow_right (by omega) h
   omega
  ·exact h
 have key: ∀f g,e<=g->g<=d->g-e<f->zc6 f (v.take (2*2^g-1))=v.take (2*2^e-1):=by
  intro f
  induction f with
  |zero=>intro g _ _ h;omega
  |succ f ih=>
   intro g hg1 hg2 hf
   have hgd:2^g<=2^d:=Nat.pow_le_pow_right (by omega) hg2
   have hpg:=zai g
   have hl:(v.take (2*2^g-1)).length=2*2^g-1:=by rw[List.length_take];omega
   have hlv:=zmz (by omega:g<=16) hl
   have hany:((v.take (2*2^g-1)).drop (zae (v.take (2*2^g-1))).toNat).any isLf=true↔∃x,2^g<=x/\x<2*2^g-1/\(nT v x).kind.toNat=1:=by
    rw[hlv,Int.toNat_natCast,List.any_eq_true]
    constructor
    ·rintro⟨n,hmem,hk⟩
     obtain⟨i,hi,rfl⟩:=List.getElem_of_mem hmem
     rw[List.length_drop,hl]at hi
     refine⟨2^g+i,by omega,by omega,?_⟩
     rw[List.getElem_drop,List.getElem_take]at hk
     simp only[isLf,decide_eq_true_eq]at hk
     rw[ze5]at hk
     exact hk
    ·rintro⟨x,hx1,hx2,hx3⟩
     have hxv:x<v.length:=by omega
     refine⟨v[x],?_,by simp only[isLf,decide_eq_true_eq];rw[ze5 hxv];exact hx3⟩
     rw[List.mem_drop_iff_getElem]
     refine⟨x-2^g,by rw[hl];omega,?_⟩
     rw[List.getElem_take]
     congr 1
     omega
   unfold zc6
   rcases Nat.lt_or_ge e g with hlt |hge
   ·have hno:((v.take (2*2^g-1)).drop (zae (v.take (2*2^g-1))).toNat).any isLf=false:=by
     rw[Bool.eq_false_iff]
     intro h
     obtain⟨x,hx1,hx2,hx3⟩:=hany.1 h
     have hxe:x%2=0:=by
      have:=(hok x (by omega)).2.2
      rcases Nat.mod_two_eq_zero_or_one x with h |h
      ·exact h
      ·exact absurd ⟨h,hx3⟩ this
     have hW:=h7 (x/2) (zba.2 ⟨x/2,rfl,by omega,by rw[show 2*(x/2)=x by omega];exact hx3⟩)
     have:2*2^e<=2^g:=by
      have:2^(e+1)<=2^g:=Nat.pow_le_pow_right (by omega) hlt
      rw[Nat.pow_succ]at this;omega
     omega
    have h2g:2^g=2*2^(g-1):=by
     conv=>lhs;rw[show g=g-1+1 by omega]
     rw[Nat.pow_succ];omega
    have hp1:=zai (g-1)
    rw[if_pos ⟨by rw[hlv];omega,hno⟩,hlv,Int.toNat_natCast,List.take_take,show min (2^g-1) (2*2^g-1)=2*2^(g-1)-1 by omega]
    exact ih (g-1) (by omega) (by omega) (by omega)
   ·obtain rfl:g=e:=by omega
    rw[if_neg]
    rintro⟨q1,q2⟩
    rcases h6 with h6 |h6
    ·rw[hlv,h6]at q1;simp at q1
    ·have:=hany.2 ⟨2*Q,h6,by omega,hQ2⟩
     rw[this]at q2;cases q2
 have:=key 17 d hed (Nat.le_refl _) (by omega)
 rw[List.take_of_length_le (by omega)]at this
 rw[this]
 unfold cutT
 rw[h1]
theorem zk1(t:List Node)(n:Nat): ∀k,k<=n->n-k<=zcn t n k/\(zcn t n k<n->(nT t (2*zcn t n k)).kind.toNat=0)/\∀j,n-k<=j->j<zcn t n k->(nT t (2*j)).kind.toNat≠0
 |0,_=>by
  unfold zcn
  exact⟨by omega,λh=>absurd h (Nat.lt_irrefl _),λj h1 h2=>by omega⟩
 |k+1,hk=>by
  obtain⟨h1,h2,h3⟩:=zk1 t n k (by omega)
  unfold zcn
  by_cases h:(nT t (2*(n-1-k))).kind.toNat=0
  ·rw[if_pos h]
   exact⟨by omega,λ_=>h,λj q1 q2=>by omega⟩
  ·rw[if_neg h]
   refine⟨by omega,h2,λj q1 q2=>?_⟩
   rcases Nat.lt_or_ge j (n-k)with h4 |h4
   ·obtain rfl:j=n-1-k:=by omega
    exact h
   ·exact h3 j h4 q2
theorem zmy: ∀{l:List Int} {b:Int},zca b l=true↔(∀x∈l,b<x/\x<65536)/\l.Pairwise (· < ·)
 |[],b=>by simp[zca]
 |x::r,b=>by
  simp only[zca,Bool.and_eq_true,decide_eq_true_eq]
  rw[zmy (l:=r) (b:=x),List.pairwise_cons]
  constructor
  ·rintro⟨⟨h1,h2⟩,h3,h4⟩
   refine⟨λy hy=>?_,λy hy=>(h3 y hy).1,h4⟩
   rcases List.mem_cons.1 hy with rfl |hy
   ·exact⟨h1,h2⟩
   ·have:=h3 y hy;omega
  ·rintro⟨h1,h2,h3⟩
   exact⟨h1 x (by simp),λy hy=>⟨h2 y hy,(h1 y (by simp[hy])).2⟩,h3⟩
theorem zj9{l:List Int}{q w:Int}:w∈putI l q↔w=q\/w∈l:=by
 rw[zm9]
 simp only[List.mem_append,List.mem_filter,List.mem_singleton,decide_eq_true_eq]
 constructor
 ·rintro((⟨h,_⟩ |h) |⟨h,_⟩)
  ·exact .inr h
  ·exact .inl h
  ·exact .inr h
 ·rintro(h |h)
  ·exact .inl (.inr h)
  ·rcases Int.lt_trichotomy w q with h2 |h2 |h2
   ·exact .inl (.inl ⟨h,h2⟩)
   ·exact .inl (.inr h2)
   ·exact .inr ⟨h,h2⟩
theorem z4o{l:List Int}{b q:Int}(h:zca b l=true)(hb:b<q)(hq:q<65536):zca b (putI l q)=true:=by
 obtain⟨h1,h2⟩:=zmy.1 h
 refine zmy.2 ⟨λx hx=>?_,?_⟩
 ·rcases zj9.1 hx with rfl |hx
  ·exact⟨hb,hq⟩
  ·exact h1 x hx
 ·rw[zm9,List.append_assoc,List.pairwise_append]
  refine⟨h2.filter _,?_,λx hx y hy=>?_⟩
  ·rw[List.pairwise_append]
   refine⟨by simp,h2.filter _,λx hx y hy=>?_⟩
   rw[List.mem_singleton]at hx
   rw[List.mem_filter,decide_eq_true_eq]at hy
   omega
  ·rw[List.mem_filter,decide_eq_true_eq]at hx
   rw[List.mem_append,List.mem_singleton,List.mem_filter,decide_eq_true_eq]at hy
   omega
theorem z5e{n:Node}{q:Int}(h:n.right=true)(hk:n.kind.toNat=2)(hb:0<=q)(hq:q<65536):({n with par:={n.par with late:=putI n.par.late q}}:Node).right=true:=by
 unfold Node.right at h⊢
 rw[if_neg (by omega),if_neg (by omega),if_pos hk]at h
 rw[if_neg (by show¬n.kind.toNat=0;omega),if_neg (by show¬n.kind.toNat=1;omega),if_pos hk]
 rw[Bool.and_eq_true]at h⊢
 refine⟨h.1,?_⟩
 have h2:=h.2
 unfold Par.right at h2⊢
 rw[Bool.and_eq_true]at h2⊢
 exact⟨z4o h2.1 (by omega) hq,h2.2⟩
theorem z2m{u:List Node}{lf:Leaf}(r:RightT u)(hlr:lf.right=true)(hb: ¬(zaw u=(zae u).toNat/\zae u=65536)):
  RightT (addN u lf (zaw u) (zdc u))/\(∀m:Nat,(m:Int)∈zaf (addN u lf (zaw u) (zdc u))↔m=zaw u\/(m:Int)∈zaf u)/\zaw u<65536/\∀x,x<u.length->(nT u x).par.late.length<=65536:=by
 obtain⟨d,hd,e,hlen⟩:=zch r.n
 have hn:(zae u).toNat=2^d:=by omega
 have hA:zaw u=zcn u (2^d) (2^d):=by unfold zaw;rw[hn]
 obtain⟨_,f3,f4⟩:=zk1 u (2^d) (2^d) (Nat.le_refl _)
 have f2:=zo8 u (2^d) (2^d)
 rw[<-hA]at f2 f3 f4
 have hsz0:zdc u=if zaw u=2^d then 4*2^d-1 else u.length:=by unfold zdc;rw[hn]
 rw[hn]at hb
 generalize zaw u=a at*
 clear hA
 have hpd:=zai d
 obtain⟨d2,hd2,hsz,ha,hdd,hfull⟩: ∃d2,d2<=16/\zdc u=2*2^d2-1/\a<2^d2/\2^d<=2^d2/\((a=2^d/\2^d2=2*2^d)\/(a<2^d/\d2=d)):=by
  by_cases h:a=2^d
  ·have e2:2^(d+1)=2*2^d:=by rw[Nat.pow_succ];omega
   refine⟨d+1,?_,by rw[hsz0,if_pos h,e2];omega,by omega,by omega, .inl ⟨h,e2⟩⟩
   rcases Nat.lt_or_ge d 16 with h2 |h2
   ·omega
   ·exfalso
    obtain rfl:d=16:=by omega
    exact hb ⟨h,by rw[e];rfl⟩
  ·exact⟨d,hd,by rw[hsz0,if_neg h];omega,by omega,Nat.le_refl _, .inr ⟨by omega,rfl⟩⟩
 have h16:=(zgb hd2).2
 rw[hsz]
 clear hsz hsz0 hb
 obtain⟨v,hv⟩: ∃v,v=addN u lf a (2*2^d2-1):=⟨_,rfl⟩
 have hvl:v.length=2*2^d2-1:=by rw[hv];exact zih _ _ _ _
 have hlv:=zmz hd2 hvl
 have hat: ∀x,x<2*2^d2-1->nT v x=addY u lf a x:=λx hx=>by rw[hv];unfold addN;rw[zwu,if_pos hx]
 rw[<-hv]
 clear hv
 have y1:nT v (2*a)=L1 lf:=by rw[hat _ (by omega)];exact zgj (by omega)
 have y2: ∀x,x<u.length->x≠2*a->nT v x=if(nT u x).kind.toNat=2/\zb1 x a=true then{nT u x with par:={(nT u x).par with late:=putI (nT u x).par.late a}}else nT u x:=λx hx hne=>by
  rw[hat x (by omega)];exact zjv (by omega) hx
 have y3: ∀x,u.length<=x->x≠2*a->nT v x=Node.zero:=λx hx hne=>by
  by_cases h:x<2*2^d2-1
  ·rw[hat x h];exact zii (by omega) (by omega)
  ·exact zfe (by omega)
 have yk: ∀x,x≠2*a->(nT v x).kind=(nT u x).kind:=λx hne=>by
  by_cases h:x<u.length
  ·rw[y2 x h hne];split<;>rfl
  ·rw[y3 x (by omega) hne,zfe (by omega)]
 have yl: ∀m,m≠a->nT v (2*m)=nT u (2*m):=λm hne=>by
  by_cases h:2*m<u.length
  ·rw[y2 _ h (by omega),if_neg]
   rintro⟨_,h2⟩
   have:=zsm hd2 ha (by omega) h2
   omega
  ·rw[y3 _ (by omega) (by omega),zfe (by omega)]
 have hna: ∀x,x<u.length->(a:Int)∉(nT u x).par.late:=λx hx hin=>by
  obtain⟨l1,l2,_,_⟩:=r.late x hx _ hin
  rw[show(2*(a:Int)).toNat=2*a by omega]at l2
  have:=f3 (by omega)
  omega
 have hsub: ∀x,x<u.length->x≠2*a->∀w∈(nT u x).par.late,w∈(nT v x).par.late:=λx hx hne w hw=>by
  rw[y2 x hx hne]
  split
  ·exact zj9.2 (.inr hw)
  ·exact hw
 have hmem: ∀m:Nat,(m:Int)∈zaf v↔m=a\/(m:Int)∈zaf u:=λm=>by
  rw[zba,zba]
  constructor
  ·rintro⟨o,e2,h8,h9⟩
   have:m=o:=by exact_mod_cast e2
   subst this
   by_cases h:m=a
   ·exact .inl h
   ·right
    rw[yl m h]at h9
    refine⟨m,rfl,?_,h9⟩
    rcases Nat.lt_or_ge (2*m) u.length with h5 |h5
    ·omega
    ·rw[zfe h5,zc2]at h9;omega
  ·rintro(rfl |⟨o,e2,h8,h9⟩)
   ·exact⟨m,rfl,by omega,by rw[y1];rfl⟩
   ·have:m=o:=by exact_mod_cast e2
    subst this
    refine⟨m,rfl,by omega,?_⟩
    by_cases h:m=a
    ·subst h;rw[y1];rfl
    ·rw[yl m h];exact h9
 refine⟨⟨by rw[hlv];omega,λj hj=>?_,?_,λj hj w hw=>?_⟩,hmem,by omega,λx hx=>Node.late_lenC (r.ok x hx).1⟩
 ·rw[hvl]at hj
  by_cases h1:j=2*a
  ·subst h1
   unfold okT
   rw[y1]
   exact⟨zko hlr,λq=>absurd q.2 (by show¬(1:UInt8).toNat=2;decide),λq=>by omega⟩
  ·by_cases h2:j<u.length
   ·obtain⟨o1,o2,o3⟩:=r.ok j h2
    refine⟨?_,by rw[yk j h1];exact o2,by rw[yk j h1];exact o3⟩
    rw[y2 j h2 h1]
    split
    ·rename_i c
     exact z5e o1 c.1 (by omega) (by omega)
    ·exact o1
   ·unfold okT
    rw[y3 j (by omega) h1]
    exact⟨zlz,by rw[zc2];omega,by rw[zc2];omega⟩
 ·rw[zhp,hvl,hlv]
  rcases hfull with⟨q1,q2⟩ |⟨q1,q2⟩
  ·exact⟨2*a,by omega,by rw[y1];rfl, .inr (by omega)⟩
  ·subst q2
   obtain⟨i,h1,h2,h3⟩:=zhp.1 r.some
   refine⟨i,by omega,?_,by rw[<-e];exact h3⟩
   rw[yk i (λh=>?_)]
   ·exact h2
   ·subst h
    have:=f3 q1
    omega
 ·rw[hvl]at hj
  by_cases h1:j=2*a
  ·subst h1
   rw[y1]at hw;cases hw
  by_cases h2:j<u.length
  ·have hw':(w=(a:Int)/\(nT u j).kind.toNat=2/\zb1 j a=true)\/w∈(nT u j).par.late:=by
    rw[y2 j h2 h1]at hw
    split at hw
    ·rename_i c
     rcases zj9.1 hw with h |h
     ·exact .inl ⟨h,c⟩
     ·exact .inr h
    ·exact .inr hw
   rcases hw' with⟨rfl,c1,c2⟩ |hw'
   ·refine⟨by rw[hlv];omega,by rw[show(2*(a:Int)).toNat=2*a by omega,y1];rfl,(zjm.1 c2).2,λz hz=>?_⟩
    rintro⟨q1,q2,q3,q4⟩
    rw[hvl]at hz
    by_cases hz1:z=2*a
    ·subst hz1;rw[y1]at q1;exact absurd q1 (by show¬(1:UInt8).toNat=2;decide)
    ·by_cases hz2:z<u.length
     ·rw[yk z hz1]at q1
      apply q4
      rw[y2 z hz2 hz1,if_pos ⟨q1,zjm.2 ⟨hz1,q2⟩⟩]
      exact zj9.2 (.inl rfl)
     ·rw[y3 z (by omega) hz1,zc2]at q1;omega
   ·obtain⟨l1,l2,l3,l4⟩:=r.late j h2 w hw'
    have hw0:0<=w:=by
     have:=zcl.1 (zgi.1 l3).1.1
     omega
    obtain⟨W,rfl⟩: ∃W:Nat,w=(W:Int):=⟨w.toNat,by omega⟩
    rw[show(2*(W:Int)).toNat=2*W by omega]at l2
    have hWa:W≠a:=λh=>hna j h2 (by rw[<-h];exact hw')
    refine⟨by rw[hlv];omega,by rw[show(2*(W:Int)).toNat=2*W by omega,yl W hWa];exact l2,l3,λz hz=>?_⟩
    rintro⟨q1,q2,q3,q4⟩
    rw[hvl]at hz
    by_cases hz1:z=2*a
    ·subst hz1;rw[y1]at q1;exact absurd q1 (by show¬(1:UInt8).toNat=2;decide)
    ·by_cases hz2:z<u.length
     ·rw[yk z hz1]at q1
      exact l4 z hz2 ⟨q1,q2,q3,λh=>q4 (hsub z hz2 hz1 _ h)⟩
     ·rw[y3 z (by omega) hz1,zc2]at q1;omega
  ·rw[y3 j (by omega) h1,zua]at hw;cases hw
theorem zdq{u:List Node}{m:Nat}:(m:Int)∈zaf u↔(nT u (2*m)).kind.toNat=1:=by
 rw[zba]
 constructor
 ·rintro⟨o,e,_,h⟩
  have:m=o:=by exact_mod_cast e
  rw[this];exact h
 ·intro h
  refine⟨m,rfl,?_,h⟩
  rcases Nat.lt_or_ge (2*m) u.length with h5 |h5
  ·omega
  ·rw[zfe h5,zc2]at h;omega
def cntM(u:List Node):Nat:=(List.range 131072).countP λm=>decide ((nT u (2*m)).kind.toNat=1)
theorem zs0{α:Type}{p q r:α->Bool}(h: ∀x,p x=true->q x=true\/r x=true): ∀l:List α,l.countP p<=l.countP q+l.countP r
 |[]=>by simp
 |x::l=>by
  have ih:=zs0 h l
  have hx:=h x
  rw[List.countP_cons,List.countP_cons,List.countP_cons]
  cases hp:p x<;>cases hq:q x<;>cases hr:r x<;>simp_all<;>omega
theorem zl0(a:Nat): ∀m,(List.range m).countP (λx=>decide (x=a))=if a<m then 1 else 0
 |0=>by simp
 |m+1=>by
  rw[List.range_succ,List.countP_append,zl0 a m,List.countP_cons,List.countP_nil]
  by_cases h1:m=a
  ·subst h1;simp
  ·by_cases h2:a<m
   ·have h3:a<m+1:=by omega
    rw[if_pos h2,if_pos h3,if_neg (by simpa using h1)]
   ·have h3: ¬a<m+1:=by omega
    rw[if_neg h2,if_neg h3,if_neg (by simpa using h1)]
theorem z2u{p:Nat->Bool}{n:Nat}(h: ∀j,j<n->p j=true): ∀m,n<=m->n<=(List.range m).countP p:=by
 intro m hm
 obtain⟨k,rfl⟩:=Nat.exists_eq_add_of_le hm
 induction k with
 |zero=>
  have:(List.range (n+0)).countP p=(List.range (n+0)).length:=List.countP_eq_length.2 λa ha=>h a (by simpa using ha)
  rw[this];simp
 |succ k ih=>
  rw[<-Nat.add_assoc,List.range_succ,List.countP_append]
  have:=ih (by omega)
  omega
theorem zsy{p:Nat->Bool}{n:Nat}(h: ∀x,p x=true->x<n): ∀m,(List.range m).countP p<=min m n
 |0=>by simp
 |m+1=>by
  have ih:=zsy h m
  rw[List.range_succ,List.countP_append,List.countP_cons,List.countP_nil]
  cases hp:p m with
  |true=>have:=h m hp;simp only[if_true];omega
  |false=>simp only[Bool.false_eq_true,if_false];omega
theorem z97{u v:List Node}(h: ∀m:Nat,(m:Int)∈zaf v->(m:Int)∈zaf u):cntM v<=cntM u:=by
 unfold cntM
 refine List.countP_mono_left λm _ hm=>?_
 rw[decide_eq_true_eq]at hm⊢
 exact zdq.1 (h m (zdq.2 hm))
theorem z96{u v:List Node}{a:Nat}(h: ∀m:Nat,(m:Int)∈zaf v↔m=a\/(m:Int)∈zaf u):cntM v<=cntM u+1:=by
 have h1:cntM v<=(List.range 131072).countP (λm=>decide ((nT u (2*m)).kind.toNat=1))+(List.range 131072).countP (λm=>decide (m=a)):=by
  unfold cntM
  refine zs0 (λm hm=>?_) _
  rw[decide_eq_true_eq]at hm
  rcases(h m).1 (zdq.2 hm)with h2 |h2
  ·right;rw[decide_eq_true_eq];exact h2
  ·left;rw[decide_eq_true_eq];exact zdq.1 h2
 have h2:=zl0 a 131072
 rw[h2]at h1
 have:(if a<131072 then 1 else 0)<=1:=by split<;>omega
 exact Nat.le_trans h1 (Nat.add_le_add_left this _)
theorem z6f{u:List Node}(r:RightT u)(h:zaw u=(zae u).toNat):(zae u).toNat<=cntM u:=by
 obtain⟨d,hd,e,hlen⟩:=zch r.n
 have hn:(zae u).toNat=2^d:=by omega
 have hA:zaw u=zcn u (2^d) (2^d):=by unfold zaw;rw[hn]
 obtain⟨_,_,f4⟩:=zk1 u (2^d) (2^d) (Nat.le_refl _)
 rw[<-hA,h,hn]at f4
 rw[hn]
 have h16:=(zgb hd).2
 unfold cntM
 refine z2u (λj hj=>?_) _ (by omega)
 rw[decide_eq_true_eq]
 have ok:=r.ok (2*j) (by omega)
 have hk:=(zd2 ok.1).1
 have h0:=f4 j (by omega) hj
 have h2:=ok.2.1
 rcases hk with k |k |k
 ·exact absurd k h0
 ·exact k
 ·exact absurd ⟨by omega,k⟩ h2
theorem zu8{u:List Node}:cntM u<=(u.length+1)/2:=by
 unfold cntM
 refine Nat.le_trans (zsy (n:=(u.length+1)/2) (λm hm=>?_) _) (Nat.min_le_right _ _)
 rw[decide_eq_true_eq]at hm
 obtain⟨o,e,h,_⟩:=za8 (zdq.2 hm)
 have:m=o:=by exact_mod_cast e
 omega
theorem zly:Node.zero.fit:=⟨⟨Nat.zero_le _,Nat.zero_le _,Nat.zero_le _,Nat.zero_le _,Nat.zero_le _⟩,Nat.zero_le _,Nat.zero_le _,Nat.zero_le _,λx h=>by cases h⟩
theorem z26{v:List Node}(h: ∀i,i<v.length->(nT v i).fit): ∀x∈v,x.fit:=λx hx=>by
 obtain⟨i,hi,rfl⟩:=List.getElem_of_mem hx
 rw[ze5 hi];exact h i hi
theorem zvh{u:List Node}(h: ∀x∈u,x.fit)(i:Nat):(nT u i).fit:=by
 rcases Nat.lt_or_ge i u.length with h1 |h1
 ·exact h _ (zf9 h1)
 ·rw[zfe h1];exact zly
theorem z0a{u:List Node}{o:Nat}{y:Node}(h: ∀x∈u,x.fit)(hy:y.fit): ∀x∈setT u (o:Int) y,x.fit:=z26 λi hi=>by
 rw[zd9]at hi
 rw[zgw hi]
 split
 ·exact hy
 ·split
  ·exact zly
  ·exact zvh h i
theorem z98{v:List Node}(h: ∀x∈v,x.fit): ∀x∈cutT v,x.fit:=λx hx=>h x (List.mem_of_mem_take hx)
theorem z9z{u:List Node}{lf:Leaf}{a n:Nat}(h: ∀x∈u,x.fit)(hl:lf.fit)(ha:a<65536)(hll: ∀x,x<u.length->(nT u x).par.late.length<=65536): ∀x∈addN u lf a n,x.fit:=z26 λi hi=>by
 rw[zih]at hi
 unfold addN
 rw[zwu,if_pos hi]
 by_cases h1:(i:Int)=2*(a:Int)
 ·rw[zgj h1];exact zl2 hl
 ·by_cases h2:i<u.length
  ·rw[zjv h1 h2]
   split
   ·obtain⟨g1,g2,g3,g4,g5⟩:=zvh h i
    refine⟨g1,g2,g3,?_,λx hx=>?_⟩
    ·show(putI (nT u i).par.late a).length<=_
     rw[zm9]
     have b1:=List.length_filter_le (λy=>decide (y< (a:Int))) (nT u i).par.late
     have b2:=List.length_filter_le (λy=>decide ((a:Int)<y)) (nT u i).par.late
     have b3:=hll i h2
     simp only[aL,List.length_singleton]
     omega
    ·rcases zj9.1 hx with rfl |hx
     ·unfold i64;omega
     ·exact g5 x hx
   ·exact zvh h i
  ·rw[zii h1 h2];exact zly
end Go.Proofs.YtpcfoglfakeimaaGreat.Sx
