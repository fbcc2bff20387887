import Derived.Test.YtoegdgbghdnnfaaGreatZCa
import Derived.Test.YtoegdgbghdnnfaaGreatZSxPt
import Derived.Test.YtoegdgbghdnnfaaGreatZHi
namespace Go.Proofs.YtoegdgbghdnnfaaGreat.Sx
open Go.RowKit
theorem zsg: ∀(l:List Int) (a:Int),zeg a l=true->(∀x∈l,a<x)/\l.Pairwise (· < ·)
 |[],a,_=>⟨λx h=>(by cases h),List.Pairwise.nil⟩
 |y::r,a,h=>by
  simp only[zeg,Bool.and_eq_true,decide_eq_true_eq]at h
  obtain⟨h1,h2⟩:=zsg r y h.2
  refine⟨λx hx=>?_,List.pairwise_cons.2 ⟨h1,h2⟩⟩
  rcases List.mem_cons.1 hx with rfl |hx
  ·exact h.1.1
  ·exact Int.lt_trans h.1.1 (h1 x hx)
theorem zsf: ∀(l:List Int) (a:Int),zeg a l=true->a<65536->(l.length:Int)+a<=65535
 |[],a,_,h=>by simp;omega
 |x::l,a,h,_=>by
  simp only[zeg,Bool.and_eq_true,decide_eq_true_eq]at h
  have:=zsf l x h.2 h.1.2
  simp only[List.length_cons]
  omega
theorem Node.late_lenC{n:Node}(h:n.right=true):n.par.late.length<=65536:=by
 unfold Node.right at h
 split at h
 ·simp only[Bool.and_eq_true,Par.none,decide_eq_true_eq]at h;omega
 ·split at h
  ·simp only[Bool.and_eq_true,Par.none,decide_eq_true_eq]at h;omega
  ·split at h
   ·simp only[Bool.and_eq_true,Par.right]at h
    have:=zsf _ _ h.2.1 (by omega)
    omega
   ·cases h
theorem zkd{n:Node}(h:n.right=true):(n.kind.toNat=0\/n.kind.toNat=1\/n.kind.toNat=2)/\n.par.late.Pairwise (· < ·)/\(n.kind.toNat≠2->n.par.late=[]):=by
 unfold Node.right at h
 split at h
 ·simp only[Bool.and_eq_true,Par.none,decide_eq_true_eq,List.length_eq_zero_iff]at h
  rw[h.2.2.2]
  exact⟨.inl (by assumption),List.Pairwise.nil,λ_=>rfl⟩
 ·split at h
  ·simp only[Bool.and_eq_true,Par.none,decide_eq_true_eq,List.length_eq_zero_iff]at h
   rw[h.2.2.2]
   exact⟨.inr (.inl (by assumption)),List.Pairwise.nil,λ_=>rfl⟩
  ·split at h
   ·simp only[Bool.and_eq_true,Par.right]at h
    exact⟨.inr (.inr (by assumption)),(zsg _ _ h.2.1).2,λk=>absurd (by assumption) k⟩
   ·cases h
theorem z7y{t:List Node}{d j m h:Nat}(hd:d<=16)(hn:zat t=((2^d:Nat):Int))(hok: ∀i,i<t.length->okT t i)(hm:m<2^d)(hj:j=nd h (m/2^h))(hh1:1<=h)(hhd:h<=d)(hu:(m:Int)∈(nT t j).par.late)(hk:(nT t (2*m)).kind.toNat=1):
  zdv t (zat t) j m↔∀i,1<=i->i<h->(nT t (nd i (m/2^i))).kind.toNat≠0->(m:Int)∈(nT t (nd i (m/2^i))).par.late:=by
 have hlen:=(zff (t:=t) (by rw[hn];have:=zag d;omega)).1
 rw[hn]at hlen
 have hm16:m<65536:=Nat.lt_of_lt_of_le hm (zpf hd).2
 have hdiv: ∀i,i<=d->m/2^i<2^(d-i):=λi hi=>by
  rw[Nat.div_lt_iff_lt_mul (zag i),<-Nat.pow_add,show d-i+i=d by omega];exact hm
 have hdiv16: ∀i,i<=d->m/2^i<2^(16-i):=λi hi=>Nat.lt_of_lt_of_le (hdiv i hi) (Nat.pow_le_pow_right (by omega) (by omega))
 have hin: ∀i,i<=d->nd i (m/2^i)<t.length:=λi hi=>by have:=(zsm hi).2 (hdiv i hi);omega
 have hund: ∀i,i<=d->za2 (2*(m:Int)) (nd i (m/2^i):Int)=true:=λi hi=>(zdi (by omega) (hdiv16 i hi) hm16).2 rfl
 constructor
 ·rintro⟨_,_,_,h4⟩ i hi1 hi2 hk0
  have hlt:=hin i (by omega)
  have h5:=h4 _ hlt
  have ok:=hok _ hlt
  have hodd:nd i (m/2^i)%2=1:=by
   obtain⟨g,rfl⟩: ∃g,i=g+1:=⟨i-1,by omega⟩
   rw[z14];omega
  have hkk:=(zkd ok.1).1
  have hk1:=ok.2.2
  have hk2:(nT t (nd i (m/2^i))).kind.toNat=2:=by
   rcases hkk with k |k |k
   ·exact absurd k hk0
   ·exact absurd ⟨hodd,k⟩ hk1
   ·exact k
  refine Classical.byContradiction λhno=>h5 ⟨hk2,hund i (by omega),?_,hno⟩
  rw[hj,zis (d:=d) hd hhd (hdiv h hhd) (zeb hd (by omega) (hdiv i (by omega))),zdj]
  refine⟨by omega,?_⟩
  rw[Nat.div_div_eq_div_mul,<-Nat.pow_add,show i+(h-i)=h by omega]
 ·intro hp
  refine⟨by rw[hn];omega,?_,?_,λy hy=>?_⟩
  ·rw[show(2*(m:Int)).toNat=2*m by omega];exact hk
  ·rw[hj];exact hund h hhd
  ·rintro⟨k1,k2,k3,k4⟩
   obtain⟨d',i,q,hd',e1,hi,hq,e2⟩:=ze6 (x:=(y:Int)) (n:=((2^d:Nat):Int)) (ze5.2 ⟨zce d hd,by omega,by omega⟩)
   obtain rfl:d'=d:=(Nat.pow_right_inj (by omega)).1 (Int.ofNat.inj e1).symm
   have e3:y=nd i q:=Int.ofNat.inj e2
   subst e3
   have e4:m/2^i=q:=(zdi (by omega) (lt16 hd hq) hm16).1 k2
   subst e4
   rw[hj,zis (d:=d') hd hhd (hdiv h hhd) (zeb hd hi hq),zdj]at k3
   rcases Nat.eq_zero_or_pos i with h0 |hpos
   ·subst h0
    rw[zde]at k1
    simp only[Nat.pow_zero,Nat.div_one]at k1
    omega
   ·rcases Nat.lt_or_ge i h with h6 |h6
    ·exact k4 (hp i hpos h6 (by omega))
    ·obtain rfl:i=h:=by omega
     exact k4 (hj▸hu)
theorem zg4b(t:List Node)(ht:t.length<=1000000)(hfit: ∀x∈t,x.fit)(hok: ∀i,i<t.length->okT t i)(hn0:zat t≠0)(j:Nat)(hj:j<t.length):
  ∃b:Bool,(b=true↔∀u∈(nT t j).par.late,zdv t (zat t) j u)/\bG 122 [nods t,I j] (.r (.b b)):=by
 classical
 refine⟨decide (∀u∈(nT t j).par.late,zdv t (zat t) j u),decide_eq_true_iff,?_⟩
 refine bT Tryz.func122 rfl ?_
 obtain⟨hl1,hl2,hl3⟩:=zff hn0
 obtain⟨d,hd,hn⟩:=zet hl2
 have hp16:=(zpf hd).2
 have hR:=(hok j hj).1
 have hlb: ∀u∈(nT t j).par.late,za6 u:=Node.right_late hR
 have hll:(nT t j).par.late.length<=65536:=Node.late_lenC hR
 have no: ∀u∈(nT t j).par.late,¬zdv t (zat t) j u->Cv (.b false) (.b (decide (∀u∈(nT t j).par.late,zdv t (zat t) j u))):=λu hu h=>zf (congrArg RV.b (Eq.symm (decide_eq_false λk=>h (k u hu))))
 refine ze (znu t ht) ?_
 refine zm (by omega) (by omega) (zbs rfl hj) ?_
 refine zg rfl ?_
 refine Vloop.mk' (λi:Nat=>⟨[(0, .r (nods t)),(1, .r (I j)),(5, .r (I (zat t))),(19, .r (is (nT t j).par.late)),(20, .r (I (nT t j).par.late.length)),(21, .r (I i))],[],0⟩) (λi=>i<=(nT t j).par.late.length/\∀u∈(nT t j).par.late.take i,zdv t (zat t) j u) (λi=>(nT t j).par.late.length-i) 0
  ⟨by omega,by simp⟩ (zac [] rfl ⟨cr,cr,cr,cr,cr,cr,trivial⟩ trivial) ?_
 rintro i ⟨hi,hall⟩
 refine zh (λh=>zq ?_) (λh=>zt ?_)
 ·simp only[zb]at h
  have hi':i< (nT t j).par.late.length:=by omega
  have hmem:=List.getElem_mem hi'
  obtain⟨m,hu,hm16,_⟩:=znz (hlb _ hmem)
  refine zm (by omega) (by omega) (zaj rfl hi') (zg rfl ?_)
  have hkk:=zkd hR
  obtain⟨d',h,q,hd',e1,hhd,hq,e2⟩:=ze6 (x:=(j:Int)) (n:=((2^d:Nat):Int)) (ze5.2 ⟨zce d hd,by omega,by omega⟩)
  obtain rfl:d'=d:=(Nat.pow_right_inj (by omega)).1 (Int.ofNat.inj e1).symm
  have e3:j=nd h q:=Int.ofNat.inj e2
  have hk2:(nT t j).kind.toNat=2:=Classical.byContradiction λk=>by rw[hkk.2.2 k]at hi';simp at hi'
  have hh1:1<=h:=by
   rcases Nat.eq_zero_or_pos h with h0 |h0
   ·subst h0
    rw[zde]at e3
    exact absurd ⟨by omega,hk2⟩ (hok j hj).2.1
   ·exact h0
  have next:zdv t (zat t) j m->∀u∈(nT t j).par.late.take (i+1),zdv t (zat t) j u:=λhlt u hu'=>by
   rw[List.take_succ_eq_append_getElem hi',List.mem_append]at hu'
   rcases hu' with hu' |hu'
   ·exact hall u hu'
   ·rw[List.mem_singleton.1 hu',hu];exact hlt
  rw[hu]at hmem⊢
  have bad:=no m hmem
  refine zh (λc1=>zq ?_) (λc1=>?_)
  ·simp only[zb]at c1
   exact bad λk=>by have:=k.1;omega
  simp only[zb]at c1
  have hm:m<2^d':=by omega
  refine zd rfl (by omega) ?_
  refine Vcall.bool (zk4 (2*(m:Int)) j) (λc2=>zw rfl ?_) (λc2=>zu rfl (zq ?_))
  rotate_left
  ·exact bad λk=>by have:=k.2.2.1;rw[c2]at this;cases this
  refine zd rfl (by omega) ?_
  have h2m:2*m<t.length:=by omega
  refine zm (by omega) (by omega) (zbs (j:=2*m) (by omega) h2m) ?_
  refine zg rfl ?_
  refine zh (λc3=>zq ?_) (λc3=>zt ?_)
  ·simp only[zb]at c3
   exact bad λk=>by have:=k.2.1;rw[show(2*(m:Int)).toNat=2*m by omega]at this;omega
  simp only[zb]at c3
  have hk1:(nT t (2*m)).kind.toNat=1:=by
   have ok:=hok _ h2m
   have:=(zkd ok.1).1
   have:=ok.2.1
   omega
  have hmq:m/2^h=q:=(zdi (by omega) (lt16 hd hq) hm16).1 (by rw[<-e3];exact c2)
  subst hmq
  have hlp:=z7y hd hn hok hm e3 hh1 hhd hmem hk1
  have hpath:zc1 (2*(m:Int)) (zat t)=(List.range d').map λi=>(nd (i+1) (m/2^(i+1)):Int):=by
   rw[hn,<-zmj hd hm,zde];rfl
  have hdiv: ∀i,i<=d'->m/2^i<2^(d'-i):=λi hi=>by
   rw[Nat.div_lt_iff_lt_mul (zag i),<-Nat.pow_add,show d'-i+i=d' by omega];exact hm
  have hin: ∀i,i<=d'->nd i (m/2^i)<t.length:=λi hi=>by have:=(zsm hi).2 (hdiv i hi);omega
  refine zd rfl (by omega) ?_
  refine ze (zgtb _ _) ?_
  obtain⟨P,hP⟩: ∃P,zc1 (2*(m:Int)) (zat t)=P:=⟨_,rfl⟩
  rw[hP]at hpath⊢
  have hPl:P.length=d':=by rw[hpath];simp
  refine Vloop.mk' (λk:Nat=>⟨[(0, .r (nods t)),(1, .r (I j)),(5, .r (I (zat t))),(7, .r (I m)),(19, .r (is (nT t j).par.late)),(20, .r (I (nT t j).par.late.length)),(21, .r (I i)),(47, .r (is P)),(48, .r (I P.length)),(49, .r (I k))],[],0⟩)
   (λk=>k<h/\∀i,1<=i->i<=k->(nT t (nd i (m/2^i))).kind.toNat≠0->(m:Int)∈(nT t (nd i (m/2^i))).par.late) (λk=>h-k) 0 ⟨by omega,λi h1 h2=>by omega⟩
   (zac [] rfl ⟨cr,cr,cr,cr,cr,cr,cr,cr,cr,cr,trivial⟩ trivial) ?_
  rintro k ⟨hkh,hkall⟩
  refine zh (λc4=>zq ?_) (λc4=>?_)
  rotate_left
  ·simp only[zb]at c4
   omega
  have hkP:k<P.length:=by omega
  have hPk:P[k]=(nd (k+1) (m/2^(k+1)):Int):=by simp only[hpath,List.getElem_map,List.getElem_range]
  have hpin:=hin (k+1) (by omega)
  refine zm (by omega) (by omega) (zaj rfl hkP) (zg rfl ?_)
  rw[hPk]
  refine zh (λc5=>zq ?_) (λc5=>zt ?_)
  ·simp only[zb]at c5
   have e5:nd (k+1) (m/2^(k+1))=nd h (m/2^h):=by omega
   obtain rfl:k+1=h:=(zfz (by omega) (by omega) e5).1
   refine zd (m:=((i+1:Nat):Int)) (by omega) (by omega) ?_
   exact⟨i+1,⟨hi',next (hlp.2 λi h1 h2=>hkall i h1 (by omega))⟩,by omega,zac [] rfl ⟨cr,cr,cr,cr,cr,cr,trivial⟩ trivial⟩
  simp only[zb]at c5
  have hk1h:k+1<h:=by
   rcases Nat.lt_or_ge (k+1) h with h5 |h5
   ·exact h5
   ·obtain rfl:k+1=h:=by omega
    exact absurd (by omega) c5
  have okp:=hok _ hpin
  obtain⟨_,hsorted,_⟩:=zkd okp.1
  have hfp:=(hfit _ (zci hpin)).2.2.2.1
  have gb:=z56 (nT t (nd (k+1) (m/2^(k+1)))).par.late m (by omega) hsorted
  refine zm (by omega) (by omega) (zbs rfl hpin) ?_
  refine zg rfl ?_
  refine ze gb ?_
  refine zm (by omega) (by omega) (zbs rfl hpin) ?_
  refine zg rfl ?_
  have step:((nT t (nd (k+1) (m/2^(k+1)))).kind.toNat≠0->(m:Int)∈(nT t (nd (k+1) (m/2^(k+1)))).par.late)->∀i,1<=i->i<=k+1->(nT t (nd i (m/2^i))).kind.toNat≠0->(m:Int)∈(nT t (nd i (m/2^i))).par.late:=λhs i h1 h2=>by
   rcases Nat.lt_or_ge i (k+1)with h5 |h5
   ·exact hkall i h1 (by omega)
   ·obtain rfl:i=k+1:=by omega
    exact hs
  refine zh (λc6=>?_) (λc6=>zt ?_)
  ·simp only[zb]at c6
   by_cases hmm:(m:Int)∈(nT t (nd (k+1) (m/2^(k+1)))).par.late
   ·rw[decide_eq_true hmm]
    refine zw rfl (zt ?_)
    refine zd (m:=((k+1:Nat):Int)) (by omega) (by omega) ?_
    exact⟨k+1,⟨hk1h,step λ_=>hmm⟩,by omega,zac [] rfl ⟨cr,cr,cr,cr,cr,cr,cr,cr,cr,cr,trivial⟩ trivial⟩
   ·rw[decide_eq_false hmm]
    refine zu rfl (zq ?_)
    exact bad λk=>hmm (hlp.1 k _ (by omega) hk1h (by omega))
  ·simp only[zb]at c6
   refine zd (m:=((k+1:Nat):Int)) (by omega) (by omega) ?_
   exact⟨k+1,⟨hk1h,step λk=>absurd (by omega) k⟩,by omega,zac [] rfl ⟨cr,cr,cr,cr,cr,cr,cr,cr,cr,cr,trivial⟩ trivial⟩
 ·simp only[zb]at h
  rw[List.take_of_length_le (by omega)]at hall
  exact zf (congrArg RV.b (Eq.symm (decide_eq_true hall)))
theorem z07{α:Type}{f:α->List RV}{sz:Nat}(h: ∀x,(f x).length=sz): ∀l:List α,(l.flatMap f).length=l.length*sz
 |[]=>by simp
 |x::r=>by rw[List.flatMap_cons,bL,h,z07 h r,List.length_cons,Nat.add_mul];omega
theorem z06{α:Type}{f:α->List RV}{sz:Nat}(h: ∀x,(f x).length=sz): ∀{l:List α} {n:Nat},(l.flatMap f).drop (n*sz)=(l.drop n).flatMap f
 |[],n=>by simp
 |x::r,0=>by simp
 |x::r,n+1=>by rw[List.flatMap_cons,Nat.add_mul,Nat.one_mul,Nat.add_comm,<-List.drop_drop,List.drop_left' (h x),List.drop_succ_cons,z06 h]
theorem zjx(t:List Node)(ht:t.length<=1000000)(hfit: ∀x∈t,x.fit):bG 72 [nods t] (.r (.b (rightT t))):=by
 obtain⟨b,hb,gp⟩:=zaob t ht hfit
 refine bT Tryz.func72 rfl ?_
 have no: ¬RightT t->Cv (.b false) (.b (rightT t)):=λh=>zf (congrArg RV.b (zvv h).symm)
 refine ze (znu t ht) ?_
 refine zh (λc1=>zq ?_) (λc1=>?_)
 ·simp only[zb]at c1
  exact no λr=>r.n c1
 simp only[zb]at c1
 obtain⟨hl1,hl2,hl3⟩:=zff c1
 have hlb:=zdc hl2
 cases b with
 |false=>
  refine ze gp (zu rfl (zq ?_))
  exact no λr=>by have:=hb.2 r.ok;cases this
 |true=>
 have hok:=hb.1 rfl
 refine ze gp (zw rfl ?_)
 have hsome:zf9 t (zat t) t.length=true↔(zat t=1->t.any isLf=true)/\(zat t≠1->(t.drop (zat t).toNat).any isLf=true):=by
  simp only[zf9,List.any_eq_true,List.mem_range,decide_eq_true_eq,isLf]
  constructor
  ·rintro⟨i,hi,k1,k2⟩
   refine⟨λ_=>⟨nT t i,zci hi,k1⟩,λh1=>⟨nT t i,?_,k1⟩⟩
   rw[<-zh9 hi,List.mem_drop_iff_getElem]
   exact⟨i-(zat t).toNat,by omega,by congr 1;omega⟩
  ·rintro⟨h1,h2⟩
   by_cases h:zat t=1
   ·obtain⟨n,hn,hk⟩:=h1 h
    obtain⟨i,hi,rfl⟩:=List.getElem_of_mem hn
    exact⟨i,hi,by rw[<-zh9 hi];exact hk, .inl h⟩
   ·obtain⟨n,hn,hk⟩:=h2 h
    rw[List.mem_drop_iff_getElem]at hn
    obtain⟨i,hi,rfl⟩:=hn
    exact⟨(zat t).toNat+i,by omega,by rw[<-zh9 (by omega)];exact hk, .inr (by omega)⟩
 have hR:zf9 t (zat t) t.length=true->((∀j,j<t.length->∀u∈(nT t j).par.late,zdv t (zat t) j u)↔RightT t):=λhs=>⟨λhh=>⟨c1,hok,hs,hh⟩,λr=>r.late⟩
 have body:zf9 t (zat t) t.length=true->∀j,j<=t.length->(∀i,i<j->∀u∈(nT t i).par.late,zdv t (zat t) i u)->(j<t.length->∃b:Bool,(b=false->¬RightT t)/\(b=true->∀i,i<j+1->∀u∈(nT t i).par.late,zdv t (zat t) i u)/\bG 122 [nods t,I j] (.r (.b b)))/\(t.length<=j->RightT t):=λhs j hj hall=>by
  refine⟨λhj'=>?_,λhj'=>(hR hs).1 λi hi=>hall i (by omega)⟩
  obtain⟨b,hb,g⟩:=zg4b t ht hfit hok c1 j hj'
  refine⟨b,λh r=>(by rw[hb.2 (r.late j hj')]at h;cases h),λh i hi=>?_,g⟩
  rcases Nat.lt_or_ge i j with h5 |h5
  ·exact hall i h5
  ·obtain rfl:i=j:=by omega
   exact hb.1 h
 refine zh (λc2=>?_) (λc2=>?_)
 ·simp only[zb]at c2
  refine Vcall.bool (ztu t (by omega)) (λhs=>zw rfl ?_) (λhs=>zu rfl (zq ?_))
  ·have hs':=hsome.2 ⟨λ_=>hs,λk=>absurd c2 k⟩
   refine zw (by simp only[zb];omega) (zt ?_)
   refine Vloop.mk' (λj:Nat=>⟨[(0, .r (nods t)),(34, .r (nods t)),(35, .r (I t.length)),(36, .r (I j))],[],0⟩) (λj=>j<=t.length/\∀i,i<j->∀u∈(nT t i).par.late,zdv t (zat t) i u) (λj=>t.length-j) 0 ⟨by omega,by omega⟩ (zac [] rfl ⟨cr,cr,cr,cr,trivial⟩ trivial) ?_
   rintro j ⟨hj,hall⟩
   obtain⟨b1,b2⟩:=body hs' j hj hall
   refine zh (λc4=>zq ?_) (λc4=>zt ?_)
   ·simp only[zb]at c4
    obtain⟨b,k1,k2,g⟩:=b1 (by omega)
    cases b with
    |false=>exact ze g (zu rfl (zq (no (k1 rfl))))
    |true=>
     refine ze g (zw rfl (zt ?_))
     refine zd (m:=((j+1:Nat):Int)) (by omega) (by omega) ?_
     exact⟨j+1,⟨by omega,k2 rfl⟩,by omega,zac [] rfl ⟨cr,cr,cr,cr,trivial⟩ trivial⟩
   ·simp only[zb]at c4
    exact zf (congrArg RV.b (zeq.2 (b2 (by omega))).symm)
  ·exact no λr=>by have:=(hsome.1 r.some).1 c2;rw[hs]at this;cases this
 ·simp only[zb]at c2
  refine zu (by simp only[zb];omega) ?_
  refine⟨by omega,by omega,by omega,(t.drop (zat t).toNat).length,(t.drop (zat t).toNat).flatMap Node.c,by rw[List.length_drop];omega,by rw[z06 (f:=Node.c) (sz:=10) (λ_=>rfl),List.take_of_length_le (by rw[z07 (f:=Node.c) (sz:=10) (λ_=>rfl),List.length_drop];omega)],?_⟩
  refine Vcall.bool (ztu (t.drop (zat t).toNat) (by rw[List.length_drop];omega)) (λhs=>zw rfl (zt ?_)) (λhs=>zu rfl (zq ?_))
  ·have hs':=hsome.2 ⟨λk=>absurd k c2,λ_=>hs⟩
   refine Vloop.mk' (λj:Nat=>⟨[(0, .r (nods t)),(34, .r (nods t)),(35, .r (I t.length)),(36, .r (I j))],[],0⟩) (λj=>j<=t.length/\∀i,i<j->∀u∈(nT t i).par.late,zdv t (zat t) i u) (λj=>t.length-j) 0 ⟨by omega,by omega⟩ (zac [] rfl ⟨cr,cr,cr,cr,trivial⟩ trivial) ?_
   rintro j ⟨hj,hall⟩
   obtain⟨b1,b2⟩:=body hs' j hj hall
   refine zh (λc4=>zq ?_) (λc4=>zt ?_)
   ·simp only[zb]at c4
    obtain⟨b,k1,k2,g⟩:=b1 (by omega)
    cases b with
    |false=>exact ze g (zu rfl (zq (no (k1 rfl))))
    |true=>
     refine ze g (zw rfl (zt ?_))
     refine zd (m:=((j+1:Nat):Int)) (by omega) (by omega) ?_
     exact⟨j+1,⟨by omega,k2 rfl⟩,by omega,zac [] rfl ⟨cr,cr,cr,cr,trivial⟩ trivial⟩
   ·simp only[zb]at c4
    exact zf (congrArg RV.b (zeq.2 (b2 (by omega))).symm)
  ·exact no λr=>by have:=(hsome.1 r.some).2 c2;rw[hs]at this;cases this
theorem z0s{O:List Spot}{x z:Int}{a:List Int×Bool}(h:a.1.Nodup):(zbq O x a z).1.Nodup:=by
 unfold zbq
 split
 ·rename_i hz
  rw[List.nodup_append]
  refine⟨h,by simp,λp hp q hq e=>?_⟩
  rw[mem1 hq]at e
  exact hz.2.2 (e▸hp)
 ·exact h
theorem zox{O:List Spot}{x:Int}: ∀(l:List Int) (a:List Int×Bool),a.1.Nodup->(l.foldl (zbq O x) a).1.Nodup
 |[],_,h=>h
 |z::l,a,h=>by rw[List.foldl_cons];exact zox l _ (z0s h)
theorem zks{O:List Spot}{x n:Int}: ∀(late:List Int) (a:List Int×Bool),a.1.Nodup->(zc8 O x n late a).1.Nodup
 |[],_,h=>h
 |u::late,a,h=>by
  unfold zc8
  rw[List.foldl_cons]
  exact zks late _ (zox _ _ h)
theorem zku{O:List Spot}{d:Nat}(hd:d<=16)(hF: ∀x n,zaf O x=some n->zcy x n=true): ∀(h k:Nat),h<=d->k<2^(d-h)->(zax O ((2^d:Nat):Int) h k).2=true->
  (zax O ((2^d:Nat):Int) h k).1.Nodup/\∀z∈(zax O ((2^d:Nat):Int) h k).1,inR h k z
 |h,k,hh,hk,hw=>by
  have hin: ∀z∈(zax O ((2^d:Nat):Int) h k).1,inR h k z:=λz hz=>
   (zsy O h k true [] (by omega) (lt16 hd hk)).ra z (((zf3 hd hF h k hh hk).2 hw z).1 hz)
  refine⟨?_,hin⟩
  match h,hh,hk,hw with
  |0,hh,hk,hw=>
   unfold zax
   cases hf:zaf O (nd 0 k)with
   |none=>simp
   |some n=>exact zks _ _ (by simp)
  |h+1,hh,hk,hw=>
   have hk2:2^(d-h)=2*2^(d-(h+1)):=by rw[show d-h=(d-(h+1))+1 by omega,Nat.pow_succ];omega
   unfold zax at hw⊢
   cases hf:zaf O (nd (h+1) k)with
   |none=>simp
   |some n=>
    simp only[hf]at hw⊢
    split
    ·rename_i h0
     rw[if_pos h0]at hw
     simp only[Bool.and_eq_true]at hw
     obtain⟨n1,i1⟩:=zku hd hF h (2*k) (by omega) (by omega) hw.1
     obtain⟨n2,i2⟩:=zku hd hF h (2*k+1) (by omega) (by omega) hw.2
     simp only
     rw[List.nodup_append,List.nodup_append]
     refine⟨⟨by simp,n1,λp hp q hq e=>?_⟩,n2,λp hp q hq e=>?_⟩
     ·rw[mem1 hp]at e
      have:=(zcb (i1 q hq)).2
      omega
     ·have h2:=(zcc (i2 q hq)).2
      rcases List.mem_append.1 hp with hp |hp
      ·rw[mem1 hp]at e;omega
      ·have h1:=(zcb (i1 p hp)).2;omega
    ·exact zks _ _ (by simp)
theorem zrs{f:Int->List Int}: ∀{l:List Int},(∀x∈l,(f x).Nodup)->l.Pairwise (λx y=>∀z∈f x,z∉f y)->(l.flatMap f).Nodup
 |[],_,_=>by simp
 |x::l,h1,h2=>by
  rw[List.pairwise_cons]at h2
  rw[List.flatMap_cons,List.nodup_append]
  refine⟨h1 x (by simp),zrs (λy hy=>h1 y (by simp[hy])) h2.2,λp hp q hq e=>?_⟩
  obtain⟨y,hy,hq⟩:=List.mem_flatMap.1 hq
  exact h2.1 y hy p hp (e▸hq)
theorem z0k{O:List Spot}{d o:Nat}(hd:d<=16)(ho:o<2^d)(hF: ∀x n,zaf O x=some n->zcy x n=true)(hw: ∀c∈zb6 (2*(o:Int)) ((2^d:Nat):Int),(zbf O ((2^d:Nat):Int) c).2=true):(zb4 O ((2^d:Nat):Int) (o:Int)).Nodup:=by
 have e0:2*(o:Int)=(nd 0 o:Int):=by rw[zde];omega
 have hwh: ∀i,i<d->(zbf O ((2^d:Nat):Int) (nd i (sibN (o/2^i)))).1.Nodup/\∀z∈(zbf O ((2^d:Nat):Int) (nd i (sibN (o/2^i)))).1,inR i (sibN (o/2^i)) z:=λi hi=>by
  have hs:=zec ho hi
  have h1:=hw (nd i (sibN (o/2^i))) (by rw[e0,zft hd ho];exact List.mem_map.2 ⟨i,List.mem_range.2 hi,rfl⟩)
  rw[zit _ _ (by omega) (lt16 hd hs)]at h1⊢
  exact zku hd hF i _ (by omega) hs h1
 unfold zb4
 rw[e0,zmj hd ho,zft hd ho,List.nodup_append]
 refine⟨?_,?_,?_⟩
 ·rw[List.nodup_cons]
  refine⟨λhm=>?_,?_⟩
  ·obtain⟨i,hi,e⟩:=List.mem_map.1 hm
   have e':nd (i+1) (o/2^(i+1))=nd 0 o:=Int.ofNat.inj e
   have:=(zfz (by have:=List.mem_range.1 hi;omega) (by omega) e').1
   omega
  ·have: ∀(l:List Nat),l.Nodup->(∀i∈l,i<d)->(l.map λh=>(nd (h+1) (o/2^(h+1)):Int)).Nodup:=by
    intro l
    induction l with
    |nil=>intro _ _;simp
    |cons i l ih=>
     intro hn hl
     rw[List.nodup_cons]at hn
     rw[List.map_cons,List.nodup_cons]
     refine⟨λhm=>?_,ih hn.2 λj hj=>hl j (by simp[hj])⟩
     obtain⟨j,hj,e⟩:=List.mem_map.1 hm
     have hi:=hl i (by simp)
     have hj2:=hl j (by simp[hj])
     have e':nd (j+1) (o/2^(j+1))=nd (i+1) (o/2^(i+1)):=Int.ofNat.inj e
     have:=(zfz (by omega) (by omega) e').1
     exact hn.1 ((show j=i by omega)▸hj)
   exact this _ List.nodup_range λi hi=>List.mem_range.1 hi
 ·refine zrs (λc hc=>?_) ?_
  ·obtain⟨i,hi,rfl⟩:=List.mem_map.1 hc
   exact(hwh i (List.mem_range.1 hi)).1
  ·rw[List.pairwise_map]
   have: ∀(l:List Nat),l.Nodup->(∀i∈l,i<d)->l.Pairwise λi j=>∀z∈(zbf O ((2^d:Nat):Int) (nd i (sibN (o/2^i)))).1,z∉(zbf O ((2^d:Nat):Int) (nd j (sibN (o/2^j)))).1:=by
    intro l
    induction l with
    |nil=>intro _ _;simp
    |cons i l ih=>
     intro hn hl
     rw[List.nodup_cons]at hn
     rw[List.pairwise_cons]
     refine⟨λj hj z hz hz2=>?_,ih hn.2 λj hj=>hl j (by simp[hj])⟩
     have:=z8v ((hwh i (hl i (by simp))).2 z hz) ((hwh j (hl j (by simp[hj]))).2 z hz2)
     exact hn.1 (this▸hj)
   exact this _ List.nodup_range λi hi=>List.mem_range.1 hi
 ·intro p hp q hq e
  obtain⟨c,hc,hq⟩:=List.mem_flatMap.1 hq
  obtain⟨i,hi,rfl⟩:=List.mem_map.1 hc
  have hin:=(hwh i (List.mem_range.1 hi)).2 q hq
  have: ∃j,p=(nd j (o/2^j):Int):=by
   rcases List.mem_cons.1 hp with rfl |hp
   ·exact⟨0,by simp⟩
   ·obtain⟨j,_,rfl⟩:=List.mem_map.1 hp
    exact⟨j+1,rfl⟩
  obtain⟨j,rfl⟩:=this
  exact zsn (e▸hin)
theorem ztz{x y:Int}(hx:zbt x=true)(hy:zbt y=true):(0<=zbw x->zbw x=zbw y->x=y)/\(0<=zbw x->zbw x≠zbo y)/\(0<=zbo x->zbo x=zbo y->x=y)/\(0<=zbo x->zbo x≠zbw y):=by
 obtain⟨h,k,hh,hk,rfl,_⟩:=zjl hx
 obtain⟨h',k',hh',hk',rfl,_⟩:=zjl hy
 match h,h',hh,hh',hk,hk' with
 |0,_,_,_,hk,_=>
  have:=zla (d:=16) (k:=k) (by omega) (by simpa using hk)
  rw[this.1,this.2]
  exact⟨by omega,by omega,by omega,by omega⟩
 |h+1,0,hh,_,hk,hk'=>
  have:=zla (d:=16) (k:=k') (by omega) (by simpa using hk')
  rw[this.1,this.2]
  exact⟨by omega,by omega,by omega,by omega⟩
 |h+1,h'+1,hh,hh',hk,hk'=>
  rw[zd4 (d:=16) (by omega) hh hk,zdn (d:=16) (by omega) hh hk,zd4 (d:=16) (by omega) hh' hk',zdn (d:=16) (by omega) hh' hk']
  have key: ∀a b:Nat,(nd h a:Int)=(nd h' b:Int)->h=h'/\a=b:=λa b e=>zfz (by omega) (by omega) (by omega)
  refine⟨λ_ e=>?_,λ_ e=>?_,λ_ e=>?_,λ_ e=>?_⟩
  ·obtain⟨rfl,e2⟩:=key _ _ e
   rw[show k=k' by omega]
  ·have:=(key _ _ e).2;omega
  ·obtain⟨rfl,e2⟩:=key _ _ e
   rw[show k=k' by omega]
  ·have:=(key _ _ e).2;omega
theorem zrg{all acc:List Int}{c:Int}(h:acc.Nodup)(hc:0<=c->c∉acc):(addK all acc c).Nodup/\∀z,z∈addK all acc c->z∈acc\/(z=c/\0<=c):=by
 unfold addK
 split
 ·rename_i h1
  refine⟨?_,λz hz=>?_⟩
  ·rw[List.nodup_append]
   refine⟨h,by simp,λp hp q hq e=>?_⟩
   rw[mem1 hq]at e
   exact hc h1.1 (e▸hp)
  ·rcases List.mem_append.1 hz with hz |hz
   ·exact .inl hz
   ·exact .inr ⟨mem1 hz,h1.1⟩
 ·exact⟨h,λz hz=> .inl hz⟩
theorem zsb{all:List Int}: ∀(l acc:List Int),l.Nodup->(∀x∈l,zbt x=true)->acc.Nodup->(∀z∈acc,0<=z/\∀x∈l,z≠zbw x/\z≠zbo x)->(l.foldl (zee all) acc).Nodup
 |[],_,_,_,h,_=>h
 |x::l,acc,hn,hl,h,hz=>by
  rw[List.nodup_cons]at hn
  rw[List.foldl_cons]
  have hx:=hl x (by simp)
  obtain⟨a1,a2⟩:=zrg (all:=all) (c:=zbw x) h λh0 hm=>((hz _ hm).2 x (by simp)).1 rfl
  obtain⟨b1,b2⟩:=zrg (all:=all) (c:=zbo x) a1 λh0 hm=>by
   rcases a2 _ hm with hm |⟨e,h1⟩
   ·exact((hz _ hm).2 x (by simp)).2 rfl
   ·exact(ztz hx hx).2.2.2 h0 e
  refine zsb l _ hn.2 (λy hy=>hl y (by simp[hy])) b1 λz hz2=>?_
  have fresh: ∀y∈l,x≠y:=λy hy e=>hn.1 (e▸hy)
  rcases b2 z hz2 with hz2 |⟨rfl,h0⟩
  ·rcases a2 z hz2 with hz2 |⟨rfl,h0⟩
   ·exact⟨(hz z hz2).1,λy hy=>(hz z hz2).2 y (by simp[hy])⟩
   ·refine⟨h0,λy hy=>?_⟩
    have k:=ztz hx (hl y (by simp[hy]))
    exact⟨λe=>fresh y hy (k.1 h0 e),k.2.1 h0⟩
  ·refine⟨h0,λy hy=>?_⟩
   have k:=ztz hx (hl y (by simp[hy]))
   exact⟨k.2.2.2 h0,λe=>fresh y hy (k.2.2.1 h0 e)⟩
theorem zmq(O:List Spot): ∀(h k:Nat) (w:Bool) (l:List Int),(nd h k:Int)∈(shP O h k w l).1
 |0,_,_,_=>by simp[shP]
 |h+1,k,w,l=>by
  unfold shP
  cases zaf O (nd (h+1) k)<;>simp
theorem zok{O O':List Spot}: ∀(h k:Nat) (w:Bool) (l:List Int),(∀z∈(shP O h k w l).1,zaf O' z=zaf O z)->shP O' h k w l=shP O h k w l
 |0,_,_,_,_=>rfl
 |h+1,k,w,l,hz=>by
  have hself:=hz _ (zmq O (h+1) k w l)
  have kid: ∀all late j,(∀z∈(kidS (λj w l=>shP O h j w l) h all late j).1,zaf O' z=zaf O z)->kidS (λj w l=>shP O' h j w l) h all late j=kidS (λj w l=>shP O h j w l) h all late j:=λall late j hzj=>by
   unfold kidS at hzj⊢
   split
   ·rename_i h1
    rw[if_pos h1]at hzj
    exact zok h j true [] hzj
   ·rename_i h1
    rw[if_neg h1]at hzj
    split
    ·rename_i h2
     rw[if_pos h2]at hzj
     exact zok h j false late hzj
    ·rfl
  unfold shP at hz⊢
  rw[hself]
  cases hf:zaf O (nd (h+1) k)with
  |none=>rfl
  |some n=>
   simp only[hf,List.mem_append]at hz⊢
   rw[kid _ _ (2*k) λz h1=>hz z (.inl (.inl h1)),kid _ _ (2*k+1) λz h1=>hz z (.inr h1)]
theorem z4j{O O':List Spot}{o i:Nat}(hf:found O (nd i (sibN (o/2^i)))=true)(hz: ∀z∈(kidT O o i).1,zaf O' z=zaf O z):kidT O' o i=kidT O o i:=by
 unfold kidT at hz⊢
 rw[if_pos hf]at hz⊢
 have:found O' (nd i (sibN (o/2^i)))=true:=by
  unfold found
  rw[hz _ (zmq _ _ _ _ _)]
  exact hf
 rw[if_pos this]
 exact zok _ _ _ _ hz
theorem zs4{O O':List Spot}{o:Nat}: ∀h,(∀i,i<h->found O (nd i (sibN (o/2^i)))=true)->(∀z∈(topS O o h).1,zaf O' z=zaf O z)->topS O' o h=topS O o h
 |0,_,_=>rfl
 |h+1,hf,hz=>by
  have e1:=zs4 h (λi hi=>hf i (by omega)) λz h1=>hz z (by
   unfold topS
   split<;>simp[h1])
  have e2:=z4j (O':=O') (hf h (by omega)) λz h1=>hz z (by
   unfold topS
   split<;>simp[h1])
  unfold topS
  rw[e1,e2]
theorem zfa(t:List Node): ∀(l:List Int) (z:Int),zaf (l.map (zbp t)) z=if z∈l then some (nT t z.toNat)else none
 |[],z=>by simp[zaf]
 |x::l,z=>by
  have ih:=zfa t l z
  unfold zaf at ih⊢
  rw[List.map_cons,List.find?_cons]
  by_cases h:x=z
  ·subst h
   simp[zbp]
  ·have:decide ((zbp t x).at_=z)=false:=by simp[zbp,h]
   rw[this]
   simp only
   rw[ih]
   have:z≠x:=λe=>h e.symm
   simp[this]
theorem zzl(t:List Node): ∀(l:List Int) (z:Int),ze1 (l.map (zb8 t)) z=if z∈l then some (zi4 t z)else none
 |[],z=>by simp[ze1]
 |x::l,z=>by
  have ih:=zzl t l z
  unfold ze1 at ih⊢
  rw[List.map_cons,List.find?_cons]
  by_cases h:x=z
  ·subst h
   simp[zb8]
  ·have:decide ((zb8 t x).at_=z)=false:=by simp[zb8,h]
   rw[this]
   simp only
   rw[ih]
   have:z≠x:=λe=>h e.symm
   simp[this]
structure TreeOk (t:List Node) (d:Nat):Prop where
 hd:d<=16
 len:t.length+1=2^(d+1)
 fine: ∀x n,zaf (zan t t.length) x=some n->zcy x n=true
 right: ∀x∈t,x.right=true
 fit: ∀x∈t,x.fit
theorem zfqb{t:List Node}(r:RightT t)(hfit: ∀x∈t,x.fit): ∃d,TreeOk t d/\zat t=((2^d:Nat):Int):=by
 obtain⟨hl,hf,hpos⟩:=zff r.n
 obtain⟨d,hd,e⟩:=zet hf
 have e2:2^(d+1)=2*2^d:=by rw[Nat.pow_succ];omega
 have hright: ∀x∈t,x.right=true:=λx hx=>by
  obtain⟨j,hj,rfl⟩:=List.mem_iff_getElem.1 hx
  rw[zh9 hj];exact(r.ok j hj).1
 refine⟨d,⟨hd,by omega,λx n hx=>?_,hright,hfit⟩,e⟩
 rw[zg7]at hx
 split at hx
 ·rename_i h
  injection hx with hx
  subst hx
  have hj:x.toNat<t.length:=by omega
  obtain⟨a1,a2,a3⟩:=r.ok _ hj
  simp only[zcy,Bool.and_eq_true,decide_eq_true_eq,List.all_eq_true]
  refine⟨a1,?_,λu hu=>?_⟩
  ·have hm:x.tmod 2=((x.toNat%2:Nat):Int):=by rw[Int.tmod_eq_emod_of_nonneg h.1];omega
   unfold zf0
   rw[hm]
   split<;>omega
  ·have:=(r.late _ hj u hu).2.2.1
   rwa[show((x.toNat:Nat):Int)=x by omega]at this
 ·cases hx
theorem TreeOk.found{t:List Node}{d:Nat}(k:TreeOk t d){z:Int}(hz:inR d 0 z):found (zan t t.length) z=true:=by
 have:=k.len
 unfold inR at hz
 simp only[Sx.found,zg7]
 rw[if_pos (by omega)]
 rfl
theorem zna{t:List Node}{d o:Nat}(k:TreeOk t d)(ho:o<2^d):
  cutA t ((2^d:Nat):Int) o=(topS (zan t t.length) o d).1/\cutB t ((2^d:Nat):Int) o=(topS (zan t t.length) o d).2/\
  (∀z,z∈zb4 (zan t t.length) ((2^d:Nat):Int) o↔z∈(topS (zan t t.length) o d).1)/\(∀z,z∈zdq (zan t t.length) ((2^d:Nat):Int) o↔z∈(topS (zan t t.length) o d).2)/\
  (zb4 (zan t t.length) ((2^d:Nat):Int) o).length=(topS (zan t t.length) o d).1.length/\(zdq (zan t t.length) ((2^d:Nat):Int) o).length=(topS (zan t t.length) o d).2.length:=by
 have hd:=k.hd
 obtain⟨O,hO⟩: ∃O,O=zan t t.length:=⟨_,rfl⟩
 have hF:=k.fine
 have hfo: ∀z:Int,inR d 0 z->found O z=true:=λz hz=>hO▸k.found hz
 unfold cutA cutB
 rw[<-hO]at hF⊢
 obtain⟨s0,hs0⟩: ∃s0:Lean_,s0=⟨((2^d:Nat):Int),(o:Int),O,[]⟩:=⟨_,rfl⟩
 have eO:s0.opn=O:=by rw[hs0]
 have hn:s0.leaves=((2^d:Nat):Int):=by rw[hs0]
 have he:s0.own=(o:Int):=by rw[hs0]
 have sh:=zpu O hd ho d (Nat.le_refl _)
 have h0:o/2^d=0:=Nat.div_eq_of_lt ho
 rw[h0]at sh
 have hfd: ∀z∈(topS O o d).1,found O z=true:=λz hz=>hfo z (sh.ra z hz)
 obtain⟨f1,f2⟩:=(z51 (s:=s0) hd ho hn he (by rw[eO];exact hF)).1 (by rw[eO];exact hfd)
 have hop:zg1 s0 true=zb6 (2*(o:Int)) ((2^d:Nat):Int):=by
  unfold zg1
  rw[hn,he,List.filter_eq_self]
  intro c hc
  rw[show 2*(o:Int)=(nd 0 o:Int)by rw[zde];omega,zft hd ho]at hc
  obtain⟨i,hi,rfl⟩:=List.mem_map.1 hc
  have hi:=List.mem_range.1 hi
  have hin:inR d 0 (nd i (sibN (o/2^i))):=zdj.2 ⟨by omega,Nat.div_eq_of_lt (zec ho hi)⟩
  have:=hfo _ hin
  rw[eO]
  simpa[found]using this
 have hall:allL s0=zb4 O ((2^d:Nat):Int) o:=by
  unfold allL ownL zb4
  rw[hop,hn,he,eO]
 have hm:=zesb (s:=s0) hd ho hn he (by rw[eO];exact hF) f2
 have hs:=zyj (s:=s0) hd ho (by rw[eO];exact hfd) hm
 have hsl:zpo s0=zdq O ((2^d:Nat):Int) o:=by unfold zpo zdq;rw[hall]
 rw[hall,eO]at hm
 rw[hsl,eO]at hs
 have n1:(zb4 O ((2^d:Nat):Int) o).Nodup:=z0k hd ho hF λc hc=>by
  have:=f2 c (by rw[hop];exact hc)
  rwa[hn,eO]at this
 have hnode:=zko (O:=O) (n:=((2^d:Nat):Int)) (own:=(o:Int)) (zce d hd) (by omega) (by omega)
 have n2:(zdq O ((2^d:Nat):Int) o).Nodup:=zsb _ _ n1 hnode (by simp) (by simp)
 have e1:za8 (zb4 O ((2^d:Nat):Int) o)=(topS O o d).1:=by
  rw[zst n1]
  exact zj2 (zpk _) sh.pa λz=>by rw[zmc,hm]
 have e2:za8 (zdq O ((2^d:Nat):Int) o)=(topS O o d).2:=by
  rw[zst n2]
  exact zj2 (zpk _) sh.pb λz=>by rw[zmc,hs]
 have l1:(za8 (zb4 O ((2^d:Nat):Int) o)).length=(zb4 O ((2^d:Nat):Int) o).length:=by unfold za8;rw[ze7];simp
 have l2:(za8 (zdq O ((2^d:Nat):Int) o)).length=(zdq O ((2^d:Nat):Int) o).length:=by unfold za8;rw[ze7];simp
 exact⟨e1,e2,hm,hs,by rw[<-l1,e1],by rw[<-l2,e2]⟩
theorem zne(t:List Node): ∀(h k:Nat) (l:List (List UInt8)) (x:Nat),¬inR h k (x:Int)->(zcx t l h k)[x]?=l[x]?
 |0,k,l,x,hx=>by
  unfold zcx
  exact List.getElem?_set_ne λe:nd 0 k=x=>hx (by rw[<-e];exact zbn 0 k)
 |h+1,k,l,x,hx=>by
  unfold zcx
  rw[List.getElem?_set_ne (λe:nd (h+1) k=x=>hx (by rw[<-e];exact zbn (h+1) k)),zne t h _ _ x λq=>hx (zcc q).1,zne t h _ _ x λq=>hx (zcb q).1]
theorem zqo(t:List Node): ∀(H K:Nat) (l:List (List UInt8)) {h k:Nat},(K+1)*2^(H+1)<=l.length+1->inR H K (nd h k:Int)->(zcx t l H K)[nd h k]?=some (zas t h k)
 |0,K,l,h,k,hl,hx=>by
  obtain⟨h1,h2⟩:=zdj.1 hx
  obtain rfl:h=0:=by omega
  obtain rfl:k=K:=by simpa using h2
  unfold zcx
  have:=zbn 0 k
  unfold inR at this
  rw[Nat.add_mul]at hl
  exact List.getElem?_set_self (by omega)
 |H+1,K,l,h,k,hl,hx=>by
  obtain⟨h1,h2⟩:=zdj.1 hx
  have e2:(K+1)*2^(H+1+1)=K*2^(H+1+1)+2^(H+1+1):=by rw[Nat.add_mul,Nat.one_mul]
  have e3:2^(H+1+1)=2*2^(H+1):=by rw[Nat.pow_succ 2 (H+1)];omega
  have e4:(K+1)*(2*2^(H+1))=(2*K+1)*2^(H+1)+2^(H+1):=by rw[Nat.mul_left_comm,Nat.add_mul,Nat.add_mul,Nat.mul_assoc];omega
  have e5:(2*K+1+1)*2^(H+1)=(2*K+1)*2^(H+1)+2^(H+1):=by rw[Nat.add_mul (2*K+1),Nat.one_mul]
  have hl2:(2*K+1)*2^(H+1)+2^(H+1)<=l.length+1:=by rw[e3,e4]at hl;exact hl
  unfold zcx
  rcases Nat.lt_or_ge H h with g |g
  ·obtain rfl:h=H+1:=by omega
   obtain rfl:k=K:=by simpa using h2
   have:=zbn (H+1) k
   unfold inR at this
   exact List.getElem?_set_self (by rw[zd0,zd0];omega)
  ·have hs:k/2^(H-h)/2=K:=by rw[<-h2,show H+1-h=(H-h)+1 by omega,Nat.pow_succ,Nat.div_div_eq_div_mul]
   have hne:nd (H+1) K≠nd h k:=λe=>by
    have:=zbn (H+1) K
    rw[e]at this
    rcases(show k/2^(H-h)=2*K\/k/2^(H-h)=2*K+1 by omega)with q |q
    ·have:=(zcb (zdj.2 ⟨g,q⟩)).2;rw[e]at this;omega
    ·have:=(zcc (zdj.2 ⟨g,q⟩)).2;rw[e]at this;omega
   rw[List.getElem?_set_ne hne]
   rcases(show k/2^(H-h)=2*K\/k/2^(H-h)=2*K+1 by omega)with q |q
   ·rw[zne t H (2*K+1) _ _ (λz=>by have:=(zdj.1 z).2;omega)]
    exact zqo t H (2*K) l (by omega) (zdj.2 ⟨g,q⟩)
   ·exact zqo t H (2*K+1) _ (by rw[zd0];omega) (zdj.2 ⟨g,q⟩)
def allH(t:List Node)(d:Nat):List (List UInt8):=zcx t (List.replicate t.length []) d 0
theorem zw5(t:List Node)(d:Nat):(allH t d).length=t.length:=by unfold allH;rw[zd0,List.length_replicate]
theorem z0v{t:List Node}{d h k:Nat}(hl:t.length+1=2^(d+1))(hx:inR d 0 (nd h k:Int)):(allH t d)[nd h k]?=some (zas t h k):=zqo t d 0 _ (by rw[List.length_replicate,Nat.zero_add,Nat.one_mul];omega) hx
abbrev nlA:RV:= .x (.slice none 0 0)
theorem z8a: ∀n,Cvs (List.replicate n nlA) ((List.replicate n ([]:List UInt8)).map bs)
 |0=>Cvs.nil
 |n+1=>zk (Cv.nil 1) (z8a n)
section
variable {t:List Node} {d:Nat} (k:TreeOk t d) (ht:t.length<=1000000) (hr:rightT t=true)
include k in
theorem TreeOk.mid:t.length/2=nd d 0:=by
 have:=k.len
 have:0<2^d:=Nat.pow_pos (by omega)
 have e:2^(d+1)=2*2^d:=by rw[Nat.pow_succ];omega
 unfold nd
 omega
theorem z8s{t:List Node}(hr:rightT t=true): ∀j,j<t.length->okT t j:=(zeq.1 hr).ok
include k ht hr in
theorem z3p:bG 56 [nods t] (.r (.tu [bss (allH t d),Er 0])):=by
 refine zar (T:=Tab) mixed Tab_ok Tryz.func56 rfl (by kernel_rfl) ?_
 have c:=zjx t ht k.fit
 rw[hr]at c
 have hm:=k.mid
 have hlen:=k.len
 refine ze c ?_
 refine zw rfl (zt ?_)
 refine⟨rfl,by omega,by show(t.length:Int).toNat*24<=_;omega,by show(t.length:Int).toNat<=_;simp only[maxLen];omega,t.length,List.replicate t.length nlA,by omega,?_,Vpub.own ?_⟩
 ·show(List.replicate (t.length:Int).toNat [nlA]).flatten=_
  rw[Int.toNat_natCast]
  simp
 refine⟨by decide,(nd d 0:Nat),?_,?_⟩
 ·rw[Int.tdiv_eq_ediv_of_nonneg (by omega),show((t.length:Int))/2=(nd d 0:Nat)by omega]
  exact wrap_i64 (by omega)
 have hf:=λv=>zg0b t ht k.fit (z8s hr) d 0 (List.replicate t.length []) v k.hd (Nat.pow_pos (by omega)) (by rw[Nat.zero_add,Nat.one_mul];omega) (by rw[List.length_replicate])
 change∀v,Acts _ _ _ _ _ _ _ (aA (allH t d)) _ at hf
 generalize allH t d=L at hf⊢
 generalize zas t d 0=g at hf
 refine zj [(0,0)] [0] (λvs _=>hf (vs 0)) (zi rfl ⟨_,_,rfl,cr,_,_,rfl,cr,_,_,rfl,rfl,rfl⟩) rfl ⟨⟨rfl,rfl,List.length_replicate.symm,rfl,z8a _⟩,trivial⟩ ⟨zaq,trivial⟩ ?_
 refine⟨_,zbr (id:=0) rfl,?_⟩
 exact⟨_,rfl,cr⟩
include k ht hr in
theorem z1i:bG 26 [nods t] (.r (.tu [bs (zas t d 0),Er 0])):=by
 refine bT Tryz.func26 rfl ?_
 have hm:=k.mid
 have hlen:=k.len
 have hat:=z0v hlen (zbn d 0)
 have hal:=zw5 t d
 have hlt:nd d 0< (allH t d).length:=by have:=zbn d 0;unfold inR at this;omega
 have e:(allH t d)[nd d 0]=zas t d 0:=by rw[List.getElem?_eq_getElem hlt]at hat;exact Option.some.inj hat
 refine ze (z3p k ht hr) ?_
 refine zw rfl (zt ?_)
 refine⟨by decide,(nd d 0:Nat),?_,?_⟩
 ·rw[Int.tdiv_eq_ediv_of_nonneg (by omega),show((t.length:Int))/2=(nd d 0:Nat)by omega]
  exact wrap_i64 (by omega)
 refine zm (by omega) (by omega) (zaj rfl hlt) ?_
 refine zg rfl ?_
 rw[e]
 exact⟨_,rfl,cr⟩
end
theorem zafb(t:List Node)(ht:t.length<=1000000)(hfit: ∀x∈t,x.fit)(hr:rightT t=false):bG 56 [nods t] (.r (.tu [bss [],Er 12])):=by
 refine bT Tryz.func56 rfl ?_
 have c:=zjx t ht hfit
 rw[hr]at c
 refine ze c ?_
 refine zu rfl (zq ?_)
 exact⟨_,rfl,Cv.tu (zk (Cv.nil 1) (zn _))⟩
theorem z3u(t:List Node)(ht:t.length<=1000000)(hfit: ∀x∈t,x.fit)(hr:rightT t=false):bG 26 [nods t] (.r (.tu [bs [],Er 12])):=by
 refine bT Tryz.func26 rfl ?_
 refine ze (zafb t ht hfit hr) ?_
 refine zu rfl (zq ?_)
 exact⟨_,rfl,Cv.tu (zk (Cv.nil 1) (zn _))⟩
end Go.Proofs.YtoegdgbghdnnfaaGreat.Sx
