import Derived.Test.YtpcfoglfakeimaaGreatZNm
import Derived.Test.YtpcfoglfakeimaaGreatZCd
import Derived.Test.YtpcfoglfakeimaaGreatZCf
import Derived.Test.YtpcfoglfakeimaaGreatZCg
import Derived.Test.YtpcfoglfakeimaaGreatZSxPt
namespace Go.Proofs.YtpcfoglfakeimaaGreat.Sx
open Go.RowKit
theorem zx1{α:Type}{A B:List α}{n:Nat}(h:A.length=n):(A++B).take n=A:=by subst h;exact List.take_left
theorem zmf{α:Type}{A B:List α}{n:Nat}(h:A.length=n):(A++B).drop n=B:=by subst h;exact List.drop_left
theorem zik{f:Nat->List RV}(h: ∀x,(f x).length=10){i n:Nat}(hi:i<n): ∃B,zap f n=zap f i++f i++B/\∀g:Nat->List RV,(∀x,x≠i->g x=f x)->zap g n=zap f i++g i++B:=by
 induction n with
 |zero=>omega
 |succ n ih=>
  rcases Nat.lt_or_ge i n with hlt |hge
  ·obtain⟨B,e1,e2⟩:=ih hlt
   refine⟨B++f n,by rw[zbo,e1];simp,λg hg=>by rw[zbo,e2 g hg,hg n (by omega)];simp⟩
  ·obtain rfl:i=n:=by omega
   exact⟨[],by rw[zbo];simp,λg hg=>by rw[zbo,zc8 (h:=f) λx hx=>hg x (by omega)];simp⟩
theorem zku{f:Nat->List RV}(h: ∀x,(f x).length=10){i n r:Nat}(hi:i<n)(hr:r<10):(zap f n)[i*10+r]?=(f i)[r]?:=by
 obtain⟨B,e,_⟩:=zik h hi
 have hl:=zde h i
 rw[e,List.append_assoc,List.getElem?_append_right (by omega),hl,show i*10+r-i*10=r by omega,List.getElem?_append_left (by rw[h];exact hr)]
theorem zyi{f:Nat->List RV}(h: ∀x,(f x).length=10){i n:Nat}(hi:i<n){new:List RV}(hn:new.length=10):zbx (zap f n) (i*10) new=zap (updN f i new) n:=by
 obtain⟨B,e,e2⟩:=zik h hi
 have hl:=zde h i
 rw[e2 (updN f i new) (λx hx=>zfy hx),zfx,e]
 unfold zbx
 have e3:(zap f i++f i++B).take (i*10)=zap f i:=by rw[List.append_assoc];exact zx1 hl
 rw[hn,e3,zmf (by rw[aL,hl,h])]
theorem z0q{f:Nat->List RV}(h: ∀x,(f x).length=10){i n:Nat}(hi:i<n)(c:RV):zbx (zap f n) (i*10+9) [c]=zap (updN f i ((f i).take 9++[c])) n:=by
 obtain⟨B,e,e2⟩:=zik h hi
 have hl:=zde h i
 have hfi:=h i
 rw[e2 (updN f i ((f i).take 9++[c])) (λx hx=>zfy hx),zfx,e]
 unfold zbx
 have e3:(zap f i++f i++B).take (i*10+9)=zap f i++(f i).take 9:=by
  rw[List.append_assoc,<-hl,List.take_length_add_append,List.take_append_of_le_length (by omega)]
 rw[e3,List.length_singleton,zmf (by rw[aL,hl,h])]
 simp
theorem zmb(f:Nat->List RV)(z:List RV)(n:Nat): ∀m,zap f n++(List.replicate m z).flatten=zap (λx=>if x<n then f x else z) (n+m)
 |0=>by simp only[List.replicate_zero,List.flatten_nil,List.append_nil,Nat.add_zero];exact zc8 λx hx=>(if_pos hx).symm
 |m+1=>by
  rw[List.replicate_succ',List.flatten_append,<-List.append_assoc,zmb f z n m,<-Nat.add_assoc,zbo,if_neg (by omega)]
  simp
theorem zp6{f g:Nat->List RV}: ∀{n:Nat},(∀x,x<n->Cvs (f x) (g x))->Cvs (zap f n) (zap g n)
 |0,_=>Cvs.nil
 |n+1,h=>by rw[zbo,zbo];exact Cvs.appC (zp6 λx hx=>h x (by omega)) (h n (by omega))
theorem zok{f g:Nat->List RV}{w:World}{k:Kp}: ∀{n:Nat} {us:List Value},(∀x,x<n->∀us,RV.listAt w k (f x) us->RV.listAt w k (g x) us)->RV.listAt w k (zap f n) us->RV.listAt w k (zap g n) us
 |0,us,_,h=>h
 |n+1,us,hx,h=>by
  rw[zbo]at h⊢
  have h1:=zbp h (zap f n).length
  have h2:=zb7 h (zap f n).length
  rw[List.take_left]at h1
  rw[List.drop_left]at h2
  have:=za6 (zok (λx hx'=>hx x (by omega)) h1) (hx n (by omega) _ h2)
  rwa[List.take_append_drop]at this
theorem z18{d o:Nat}(hd:d<=16)(ho:o<2^d): ∀(m:Nat) (x:Int),(zb4 (2*(o:Int)) ((2^d:Nat):Int))[m]?=some x->x∉(zb4 (2*(o:Int)) ((2^d:Nat):Int)).take m:=by
 intro m x hx hm
 have e:=zhz hd ho
 rw[ze6]at e
 push_cast at e hx hm
 rw[e]at hx hm
 rw[List.getElem?_map]at hx
 obtain⟨h,h1,h2⟩:=Option.map_eq_some_iff.1 hx
 have hmd:m<d:=by have:=(List.getElem?_eq_some_iff.1 h1).1;simpa using this
 rw[List.getElem?_range hmd]at h1
 cases h1
 rw[<-List.map_take,List.take_range]at hm
 obtain⟨j,hj,e2⟩:=List.mem_map.1 hm
 rw[List.mem_range]at hj
 rw[<-h2]at e2
 have:=(zka (h:=j+1) (h':=m+1) (by omega) (by omega) (by exact_mod_cast e2)).1
 omega
theorem zlk{d o:Nat}(hd:d<=16)(ho:o<2^d){x:Nat}(hx:x<2*2^d-1):(x:Int)∈zb4 (2*(o:Int)) ((2^d:Nat):Int)↔zb1 x o=true:=by
 have hp:=zai d
 have hp16:=(zgb hd).2
 obtain⟨h,kk,hh,hk,e,_,_⟩:=zbsb (x:=(x:Int)) (zcl.2 (by omega))
 have e':x=nd h kk:=by exact_mod_cast e
 subst e'
 have hhd:h<=d:=by
  rcases Nat.lt_or_ge d h with hlt |hge
  ·exfalso
   have h1:2^(d+1)<=2^h:=Nat.pow_le_pow_right (by omega) hlt
   rw[Nat.pow_succ]at h1
   unfold nd at hx
   omega
  ·exact hge
 have hkd:kk<2^(d-h):=(zlg hhd).1 (by omega)
 have e:=zhz hd ho
 rw[ze6]at e
 push_cast at e⊢
 rw[e]
 unfold zb1
 rw[Bool.and_eq_true,decide_eq_true_eq,zh1 hh hk (by omega),List.mem_map]
 constructor
 ·rintro⟨j,hj,e2⟩
  rw[List.mem_range]at hj
  obtain⟨e3,e4⟩:=zka (h:=j+1) (h':=h) (by omega) (by omega) (by exact_mod_cast e2)
  subst e3
  exact⟨λe5=>by rw[zsf]at e5;omega,e4⟩
 ·rintro⟨h1,h2⟩
  rcases h with _ |h
  ·exfalso
   apply h1
   rw[ze6,<-h2];simp
  ·exact⟨h,by rw[List.mem_range];omega,by rw[h2]⟩
theorem zpn{d o:Nat}(hd:d<=16)(ho:o<2^d){y:Int}(hy:y∈zb4 (2*(o:Int)) ((2^d:Nat):Int)): ∃p:Nat,y=(p:Int)/\p%2=1/\p<2*2^d-1:=by
 have e:=zhz hd ho
 rw[ze6]at e
 push_cast at e hy
 rw[e,List.mem_map]at hy
 obtain⟨j,hj,e2⟩:=hy
 rw[List.mem_range]at hj
 have hb:=(zlg (h:=j+1) (k:=o/2^(j+1)) (d:=d) (by omega)).2 (by rw[Nat.div_lt_iff_lt_mul (zai (j+1)),<-Nat.pow_add,show d-(j+1)+(j+1)=d by omega];exact ho)
 have:=zai d
 exact⟨_,e2.symm,by rw[zsf];omega,by omega⟩
theorem zm9(l:List Int)(q:Int):putI l q=l.filter (λy=>decide (y<q))++[q]++l.filter (λy=>decide (q<y)):=by
 unfold putI putQ zbs zh3
 rw[List.take_length]
theorem zz5: ∀{l:List Int} {q:Int},l.Pairwise (· < ·)->q∉l->posL l q<=l.length/\l.take (posL l q)++[q]++l.drop (posL l q)=putI l q
 |[],q,_,_=>⟨Nat.le_refl _,rfl⟩
 |a::r,q,hs,hq=>by
  rw[List.pairwise_cons]at hs
  rw[zm9]
  by_cases h:a<q
  ·have ih:=zz5 (l:=r) (q:=q) hs.2 (λh=>hq (by simp[h]))
   rw[zm9]at ih
   have e:posL (a::r) q=posL r q+1:=by unfold posL;rw[List.takeWhile_cons_of_pos (by simpa using h)];rfl
   rw[e,List.take_succ_cons,List.drop_succ_cons,List.filter_cons_of_pos (by simpa using h),List.filter_cons_of_neg (by simp;omega),List.cons_append,List.cons_append,ih.2]
   exact⟨by simpa using ih.1,by simp⟩
  ·have hne:a≠q:=λe=>hq (by simp[e])
   have e:posL (a::r) q=0:=by unfold posL;rw[List.takeWhile_cons_of_neg (by simpa using h)];rfl
   rw[e,List.take_zero,List.drop_zero]
   refine⟨Nat.zero_le _,?_⟩
   rw[List.filter_eq_nil_iff.2 (λy hy=>by
    rcases List.mem_cons.1 hy with rfl |hy
    ·simpa using h
    ·have:=hs.1 y hy;simp;omega),List.filter_eq_self.2 (λy hy=>by
    rcases List.mem_cons.1 hy with rfl |hy
    ·simp;omega
    ·have:=hs.1 y hy;simp;omega)]
theorem zvj{t:List Node}{n i:Nat}(hi:i<=n)(h1: ∀j,j<i->(nT t (2*j)).kind.toNat≠0)(h2:i<n->(nT t (2*i)).kind.toNat=0): ∀k,k<=n->n-k<=i->zcn t n k=i
 |0,_,h=>by unfold zcn;omega
 |k+1,hk,h=>by
  unfold zcn
  by_cases e:n-1-k=i
  ·rw[e,if_pos (h2 (by omega))]
  ·rw[if_neg (h1 _ (by omega))]
   exact zvj hi h1 h2 k (by omega) (by omega)
open Classical in
noncomputable def addPR (t:List Node)(lf:Leaf):RV:=
 if rightT t=false then .tu [nods [],I 0,Er 12]else if lf.right=false then .tu [nods [],I 0,Er 3]else if zaw t=(zae t).toNat/\zae t=65536 then .tu [nods [],I 0,Er 6]else .tu [nods (addN t lf (zaw t) (zdc t)),I (zaw t),Er 0]
def lsM(t:List Node)(a:Nat)(l:List Int)(m x:Nat):List Int:=if(x:Int)∈l.take m/\(nT t x).kind.toNat=2 then putI (zcp t x) a else zcp t x
def nX(t:List Node)(a:Nat)(l:List Int)(m x:Nat):Node:={nT t x with par:={(nT t x).par with late:=lsM t a l m x}}
def rowM(t:List Node)(lf:Leaf)(a:Nat)(l:List Int)(m:Nat)(τ:Nat->Option Addr×Nat)(x:Nat):List RV:=if x=2*a then(L1 lf).c else if x<t.length then(nX t a l m x).cx (τ x)else Node.zero.c
theorem zgs{t:List Node}{lf:Leaf}{a:Nat}{l:List Int}{m:Nat}{τ:Nat->Option Addr×Nat}(x:Nat):(rowM t lf a l m τ x).length=10:=by
 unfold rowM;split
 ·rfl
 ·split<;>rfl
theorem zwl{t:List Node}{a:Nat}{l:List Int}{x:Nat}:lsM t a l 0 x=zcp t x:=by unfold lsM;simp
theorem ztm{t:List Node}{a:Nat}{l:List Int}{m x:Nat}(h: ¬(nT t x).kind.toNat=2):lsM t a l m x=zcp t x:=by unfold lsM;rw[if_neg (λh2=>h h2.2)]
theorem zrj{l:List Int}{m:Nat}{p:Int}(h:l[m]?=some p):l.take (m+1)=l.take m++[p]:=by
 obtain⟨hm,e⟩:=List.getElem?_eq_some_iff.1 h
 rw[List.take_succ_eq_append_getElem hm,e]
theorem zwk{t:List Node}{a:Nat}{l:List Int}{m x p:Nat}(h:l[m]?=some (p:Int))(hx:x≠p):lsM t a l (m+1) x=lsM t a l m x:=by
 have:((x:Int)∈l.take (m+1))=((x:Int)∈l.take m):=by
  rw[zrj h,List.mem_append,List.mem_singleton]
  exact propext ⟨λh=>h.elim id λh=>absurd (by exact_mod_cast h) hx, .inl⟩
 unfold lsM
 simp only[this]
theorem zd9b{t:List Node}{a:Nat}{l:List Int}{m p:Nat}(h:l[m]?=some (p:Int))(hk:(nT t p).kind.toNat=2):lsM t a l (m+1) p=putI (zcp t p) a:=by
 unfold lsM
 rw[if_pos ⟨by rw[zrj h];simp,hk⟩]
theorem zblb{t:List Node}{a:Nat}{l:List Int}{m p:Nat}(h:(p:Int)∉l.take m):lsM t a l m p=zcp t p:=by
 unfold lsM
 rw[if_neg (λh2=>h h2.1)]
theorem z5l{t:List Node}{lf:Leaf}{a:Nat}{l:List Int}{m:Nat}{τ:Nat->Option Addr×Nat}{p:Nat}(hp:p≠2*a):(rowM t lf a l m τ p)[0]?=some (U8 (nT t p).kind):=by
 unfold rowM
 rw[if_neg hp]
 split
 ·rfl
 ·rename_i h
  rw[show nT t p=Node.zero by unfold nT;rw[List.getD_eq_getElem?_getD,List.getElem?_eq_none (by omega)];rfl]
  rfl
theorem zt1{t:List Node}{lf:Leaf}{a:Nat}{l:List Int}{m:Nat}{τ:Nat->Option Addr×Nat}{p:Nat}(hp:p≠2*a)(hpt:p<t.length):(rowM t lf a l m τ p)[9]?=some (.x (.slice (τ p).1 (lsM t a l m p).length (τ p).2)):=by
 unfold rowM
 rw[if_neg hp,if_pos hpt]
 rfl
theorem zt2{t:List Node}{lf:Leaf}{a:Nat}{l:List Int}{m m':Nat}{τ τ':Nat->Option Addr×Nat}{x:Nat}(h:lsM t a l m' x=lsM t a l m x)(h':τ' x=τ x):rowM t lf a l m' τ' x=rowM t lf a l m τ x:=by
 unfold rowM nX
 rw[h,h']
theorem z8p{t:List Node}{lf:Leaf}{a:Nat}{l:List Int}{m:Nat}{τ:Nat->Option Addr×Nat}{p:Nat}{v:Option Addr×Nat}(hp:p≠2*a)(hpt:p<t.length):
  rowM t lf a l (m+1) (updN τ p v) p=(rowM t lf a l m τ p).take 9++[.x (.slice v.1 (lsM t a l (m+1) p).length v.2)]:=by
 unfold rowM
 rw[if_neg hp,if_pos hpt,if_neg hp,if_pos hpt,zfx]
 rfl
theorem cx_c{n:Node}{v:Option Addr×Nat}{w:World}{k:Kp}{us:List Value}(h:RV.listAt w k (n.cx v) us)(hr:(is n.par.late).at_ w k (.slice v.1 n.par.late.length v.2)):RV.listAt w k n.c us:=by
 have h1:=zbp h 9
 have h2:=zb7 h 9
 have h3:RV.listAt w k [is n.par.late] (us.drop 9):=by
  have h4:RV.listAt w k [.x (.slice v.1 n.par.late.length v.2)] (us.drop 9):=h2
  simp only[RV.listAt]at h4⊢
  obtain⟨u,r,e,h5,h6,h7⟩:=h4
  refine⟨u,r,e,h5,?_,h7⟩
  simp only[RV.at_]at h6
  rw[h6]
  exact hr
 have:=za6 (fs:=(n.cx v).take 9) h1 h3
 rw[List.take_append_drop]at this
 exact this
abbrev rowZ(t:List Node)(lf:Leaf)(a:Nat)(τ:Nat->Option Addr×Nat)(z:List RV):Nat->List RV:=updN (λx=>if x<t.length then(nT t x).cx (τ x)else z) (2*a) (L1 lf).c
theorem zdsb(t:List Node)(lf:Leaf)(ht:t.length<=1000000)(hfit: ∀x∈t,x.fit)(hlf:lf.fit):aG 47 [nods t, .ag lf.c] (.r (addPR t lf)):=by
 have g:=zir t ht hfit
 have nil: ∀e:Nat,Cv (.tu [.x (.slice none 0 0),I 0,Er e]) (.tu [nods [],I 0,Er e]):=λe=>Cv.tu (zk (Cv.nil 10) (zn _))
 refine zuh Tab_ok Tryz.func47 rfl (by kernel_rfl) (Vcode.seqv mixed Tab_ok (Vcode.seqv mixed Tab_ok ?_))
 refine ze g ?_
 unfold addPR
 cases hr:rightT t with
 |false=>exact zu rfl (zq ⟨_,zo _,⟨_,rfl,nil 12⟩⟩)
 |true=>
 have r:=zbr.1 hr
 obtain⟨hl1,hl2,hl3⟩:=zbg r.n
 have hb:=zcc hl2
 refine zw rfl (zt ?_)
 refine za rfl rfl ?_
 refine ze (zmr lf hlf) ?_
 cases hlr:lf.right with
 |false=>exact zu rfl (zq ⟨_,zo _,⟨_,rfl,nil 3⟩⟩)
 |true=>
 refine zw rfl (zt ?_)
 rw[if_neg (by simp),if_neg (by simp)]
 obtain⟨d,hd,hnd⟩:=zdn hl2
 obtain⟨n,hn⟩: ∃n:Nat,zae t=(n:Int):=⟨_,hnd⟩
 have hn1:(zae t).toNat=n:=by omega
 have hsz:zdc t=if zaw t=n then 4*n-1 else t.length:=by unfold zdc;rw[hn1]
 rw[hn1,hn]
 have hA:zaw t=zcn t n n:=by unfold zaw;rw[hn1]
 refine Vcode.seqv mixed Tab_ok ?_
 refine ze (zeq t ht) ?_
 rw[hn]
 refine Vcode.seqv mixed Tab_ok ?_
 refine Vcode.mid (ι:=Unit) mixed Tab_ok (λ_=>⟨[(0, .r (nods t)),(3, .own 0),(7, .r (I n)),(8, .r (I (zaw t)))],[(0,some (.box (lf.c.map .r)))],1⟩) (λ_=>zaw t<=n/\(zaw t<n->(nT t (2*zaw t)).kind.toNat=0)) ?_ λ_ hfree=>?_
 ·refine Vloop.mk' (λi:Nat=>⟨[(0, .r (nods t)),(3, .own 0),(7, .r (I n)),(8, .r (I i))],[(0,some (.box (lf.c.map .r)))],1⟩) (λi=>i<=n/\∀j,j<i->(nT t (2*j)).kind.toNat=1) (λi=>n-i) 0 ⟨by omega,λj h=>by omega⟩ (zac [(0,0)] rfl ⟨cr,rfl,cr,cr,trivial⟩ ⟨zad lf.c,trivial⟩) ?_
  rintro i ⟨hi,hall⟩
  have fin:(i<n->(nT t (2*i)).kind.toNat=0)->zaw t=i:=λh=>by rw[hA];exact zvj hi (λj hj=>by rw[hall j hj];decide) h n (Nat.le_refl _) (by omega)
  refine zh (λh=>?_) (λh=>?_)
  ·simp only[zb]at h
   refine zd rfl (by omega) ?_
   refine zm (by omega) (by omega) (zbf (j:=2*i) (by omega) (by omega)) (zg rfl ?_)
   refine zh (λh2=>zq ?_) (λh2=>zt ?_)
   ·simp only[zb]at h2
    refine zd (m:=((i+1:Nat):Int)) (by omega) (by omega) ?_
    exact⟨i+1,⟨by omega,λj hj=>by
     rcases Nat.lt_or_ge j i with h3 |h3
     ·exact hall j h3
     ·obtain rfl:j=i:=by omega
      omega⟩,by omega,zac [(0,0)] rfl ⟨cr,rfl,cr,cr,trivial⟩ ⟨zad lf.c,trivial⟩⟩
   ·simp only[zb]at h2
    have ok:=r.ok (2*i) (by omega)
    have hk:=(zd2 ok.1).1
    have hk2:=ok.2.1
    have hk0:(nT t (2*i)).kind.toNat=0:=by
     rcases hk with k |k |k
     ·exact k
     ·omega
     ·exact absurd ⟨by omega,k⟩ hk2
    have e:=fin λ_=>hk0
    exact⟨(),⟨by omega,λ_=>by rw[e];exact hk0⟩,zac [(0,0)] rfl ⟨cr,rfl,cr,zf (congrArg I (by rw[e])),trivial⟩ ⟨zad lf.c,trivial⟩⟩
  ·simp only[zb]at h
   have e:=fin (λh=>by omega)
   exact zt ⟨(),⟨by omega,λh=>by omega⟩,zac [(0,0)] rfl ⟨cr,rfl,cr,zf (congrArg I (by rw[e])),trivial⟩ ⟨zad lf.c,trivial⟩⟩
 obtain⟨ha1,ha2⟩:=hfree
 generalize zaw t=a at*
 clear hA
 obtain⟨n2,hn2⟩: ∃n2,n2=if a=n then 2*n else n:=⟨_,rfl⟩
 refine Vcode.mid (ι:=Unit) mixed Tab_ok (λ_=>⟨[(0, .r (nods t)),(3, .own 0),(7, .r (I n2)),(8, .r (I a))],[(0,some (.box (lf.c.map .r)))],1⟩) (λ_=>¬(a=n/\n=65536)) ?_ λ_ hbig=>?_
 ·refine zh (λh=>zq ?_) (λh=>zt ?_)
  ·simp only[zb]at h
   refine zh (λh2=>zq ?_) (λh2=>zt ?_)
   ·simp only[zb]at h2
    rw[if_pos ⟨by omega,by omega⟩]
    exact⟨_,zo _,⟨_,rfl,nil 6⟩⟩
   ·simp only[zb]at h2
    refine zd rfl (by omega) ?_
    exact⟨(),by omega,zac [(0,0)] rfl ⟨cr,rfl,zf (congrArg I (by rw[hn2,if_pos (by omega)];omega)),cr,trivial⟩ ⟨zad lf.c,trivial⟩⟩
  ·simp only[zb]at h
   exact⟨(),by omega,zac [(0,0)] rfl ⟨cr,rfl,zf (congrArg I (by rw[hn2,if_neg (by omega)])),cr,trivial⟩ ⟨zad lf.c,trivial⟩⟩
 rw[if_neg (by omega)]
 have hn2b:n2=n\/n2=2*n:=by rw[hn2];split<;>simp
 have ha:a<n2:=by rw[hn2];split<;>omega
 obtain⟨d2,hd2,hnd2⟩: ∃d2,d2<=16/\n2=2^d2:=by
  have hn':n=2^d:=by omega
  rcases hn2b with e |e
  ·exact⟨d,hd,by omega⟩
  ·refine⟨d+1,?_,by rw[Nat.pow_succ];omega⟩
   rcases Nat.lt_or_ge d 16 with h |h
   ·omega
   ·exfalso
    obtain rfl:d=16:=by omega
    have:n=65536:=by rw[hn']
    by_cases han:a=n
    ·exact hbig ⟨han,this⟩
    ·rw[if_neg han]at hn2;omega
 have hsz2:(if a=n then 4*n-1 else t.length)=2*n2-1:=by rw[hn2];split<;>omega
 rw[hsz,hsz2]
 have h16:=(zgb hd2).2
 obtain⟨m0,hm0⟩: ∃m0,m0=2*n2-1-t.length:=⟨_,rfl⟩
 have hN:t.length+m0=2*n2-1:=by omega
 have hrz: ∀(τ:Nat->Option Addr×Nat) (z:List RV),z.length=10->∀x,((λx=>if x<t.length then(nT t x).cx (τ x)else z) x).length=10:=λτ z hz x=>by
  show(if x<t.length then(nT t x).cx (τ x)else z).length=10
  split
  ·rfl
  ·exact hz
 have hrow: ∀(τ:Nat->Option Addr×Nat),Cvs (zap (λx=>(nT t x).cx (τ x)) t.length++(List.replicate m0 zc).flatten) (zap (λx=>if x<t.length then(nT t x).cx (τ x)else Node.zero.c) (2*n2-1)):=λτ=>by
  rw[zmb,hN]
  refine zp6 λx hx=>?_
  show Cvs (if x<t.length then(nT t x).cx (τ x)else zc) (if x<t.length then(nT t x).cx (τ x)else Node.zero.c)
  split
  ·exact zn _
  ·exact zcC
 refine Vcode.midc (ι:=Nat->Option Addr×Nat) (λτ=>⟨[(3, .own 0),(7, .r (I n2)),(8, .r (I a)),(9, .own 1)],[(0,some (.box (lf.c.map .r))),(1,some (nodX (zap (λx=>if x<t.length then(nT t x).cx (τ x)else Node.zero.c) (2*n2-1)) (2*n2-1)))]++tO 2 τ (zcp t) t.length,1000002⟩) (λ_=>True) ?_ λτ _=>?_
 ·refine Vcode.steps (Vstep.step Tab_ok ?_)
  refine Vstep.callT rfl rfl (zn _) (z7q t ht hfit) (λ_=>trivial) (by omega) 1 1000002 rfl (by decide) λτ=>?_
  refine Vstep.step Tab_ok (Vstep.step Tab_ok ?_)
  refine zd rfl (by omega) ?_
  refine Vstep.step Tab_ok (zd rfl (by omega) ?_)
  refine Vstep.step Tab_ok (Vstep.step Tab_ok (Vstep.step Tab_ok (zd (m:=((m0:Nat):Int)) (by omega) (by omega) ?_)))
  refine Vstep.appZN (m:=m0) Tab_ok rfl rfl rfl rfl (by decide) rfl rfl rfl rfl rfl (by omega) (by simp only[maxLen];omega) (by show(_+m0)*208<=_;omega) ?_
  refine Vstep.step Tab_ok ?_
  refine⟨τ,trivial,zgy [(0,0),(1,1000002)] id (O':=[(0,some (.box (lf.c.map .r))),(1,some (nodX (zap (λx=>if x<t.length then(nT t x).cx (τ x)else Node.zero.c) (2*n2-1)) (2*n2-1)))]) rfl ⟨rfl,cr,cr,rfl,trivial⟩ ⟨zad lf.c,⟨rfl,rfl,hN,rfl,hrow τ⟩,trivial⟩ ?_ ?_⟩
  ·intro id o h
   obtain⟨x,hx,rfl,rfl⟩:=zc4 h
   refine⟨by omega,trivial,by rw[zex (by omega),zex (by omega)];rfl,?_,λy hy=>?_⟩
   ·show oget ((1000002,_)::(1,_)::(1,_)::(0,_)::tO 2 τ (zcp t) t.length) (x+2)=_
    rw[zbm (by omega),zbm (by omega),zbm (by omega),zbm (by omega)]
    exact zby hx
   ·simp at hy
    rcases hy with rfl |rfl<;>simp<;>omega
  ·intro a b o o' _ _ h;exact h
 refine Vcode.vcg mixed Tab_ok ?_
 refine zd rfl (by omega) ?_
 refine za rfl rfl ?_
 refine ze (z3s lf hlf) ?_
 refine Vadr.mk' (2*a) (by omega) (by omega) ?_
 refine⟨by rw[zde (hrz τ _ rfl)];show 2*a*10+10<=_;omega,zap (rowZ t lf a τ Node.zero.c) (2*n2-1),zyi (hrz τ _ rfl) (by omega) rfl,?_⟩
 refine zd rfl (by omega) ?_
 refine ze (zvq _ _) ?_
 have hnn:(n2:Int)=((2^d2:Nat):Int):=by rw[hnd2]
 have ha':a<2^d2:=by omega
 have hp1:=z18 hd2 ha'
 have hp2:=λy=>zpn (y:=y) hd2 ha'
 have hp3:=λx=>zlk (x:=x) hd2 ha'
 have hpl:=ztv (2*(a:Int)) (n2:Int)
 rw[<-hnn]at hp1 hp2 hp3
 rw[<-hnd2]at hp2 hp3
 generalize zb4 (2*(a:Int)) (n2:Int)=l at*
 refine⟨.inr (Vcode.loop (ι:=Nat×(Nat->Option Addr×Nat)) (λi=>⟨[(8, .r (I a)),(9, .own 0),(63, .r (is l)),(64, .r (I l.length)),(65, .r (I i.1))],(0,some (nodX (zap (rowM t lf a l i.1 i.2) (2*n2-1)) (2*n2-1)))::tO 2 i.2 (lsM t a l i.1) t.length,1000002⟩) (λi=>i.1<=l.length) (λi=>l.length-i.1) (0,τ) (Nat.zero_le _)
  (zgy [(0,1)] id (O':=[(0,some (nodX (zap (rowM t lf a l 0 τ) (2*n2-1)) (2*n2-1)))]) (tl:=tO 2 τ (lsM t a l 0) t.length) rfl ⟨cr,rfl,cr,cr,cr,trivial⟩ ⟨⟨rfl,rfl,rfl,rfl,Cvs.of_eq (zc8 λx hx=>?_)⟩,trivial⟩ ?_ ?_) ?_)⟩
 ·unfold rowZ rowM
  by_cases e:x=2*a
  ·rw[if_pos e,e,zfx]
  ·rw[zfy e,if_neg e]
   unfold nX
   rw[zwl]
 ·intro id o h
  obtain⟨x,hx,rfl,rfl⟩:=zc4 h
  refine⟨by omega,trivial,by rw[zex (by omega)];rfl,?_,λy hy=>?_⟩
  ·show oget (_::_::_::_::tO 2 τ (zcp t) t.length) (x+2)=_
   rw[zbm (by omega),zbm (by omega),zbm (by omega),zbm (by omega),zwl]
   exact zby hx
  ·simp at hy;subst hy;simp
 ·intro a b o o' _ _ h;exact h
 rintro⟨m,σ⟩ hm
 replace hm:m<=l.length:=hm
 refine Vcode.seqv mixed Tab_ok ?_
 refine zh (λh=>?_) (λh=>?_)
 ·simp only[zb]at h
  have hm':m<l.length:=by omega
  obtain⟨p,ep,hpo,hpN⟩:=hp2 _ (List.getElem_mem hm')
  have hlm:l[m]?=some (p:Int):=by rw[List.getElem?_eq_getElem hm',ep]
  have hp2a:p≠2*a:=by omega
  have hnow:=zblb (t:=t) (a:=a) (hp1 m _ hlm)
  refine Vcode.seqv mixed Tab_ok (zq ?_)
  refine Vcode.midc (ι:=Nat->Option Addr×Nat) (λσ'=>⟨[(8, .r (I a)),(9, .own 0),(63, .r (is l)),(64, .r (I l.length)),(65, .r (I m))],(0,some (nodX (zap (rowM t lf a l (m+1) σ') (2*n2-1)) (2*n2-1)))::tO 2 σ' (lsM t a l (m+1)) t.length,1000002⟩) (λ_=>True) (Vcode.block (Vcode.seqv mixed Tab_ok ?_)) λσ' _=>?_
  ·refine zm (by omega) (by omega) (zan rfl hm') (zg rfl ?_)
   rw[ep]
   refine Vcode.seqv mixed Tab_ok ?_
   refine Vadr.mk' p (by omega) (by omega) (zg ((zku (f:=rowM t lf a l m σ) zgs hpN (r:=0) (by omega)).trans (z5l hp2a)) ?_)
   refine zh (λh2=>?_) (λh2=>?_)
   ·simp only[zb]at h2
    have hk2:(nT t p).kind.toNat=2:=by omega
    have hpt:p<t.length:=by
     rcases Nat.lt_or_ge p t.length with h |h
     ·exact h
     ·rw[show nT t p=Node.zero by unfold nT;rw[List.getD_eq_getElem?_getD,List.getElem?_eq_none h];rfl]at hk2
      exact absurd hk2 (by decide)
    have hok:=r.ok p hpt
    have hsort:=(zd2 hok.1).2.1
    have hll:=Node.late_lenC hok.1
    have hq:(a:Int)∉zcp t p:=λhin=>by
     have hlt:=r.late p hpt a hin
     rw[hn]at hlt
     have h0:=ha2 (by have:=hlt.1;omega)
     have h1:=hlt.2.1
     rw[show(2*(a:Int)).toNat=2*a by omega]at h1
     omega
    obtain⟨hps1,hps2⟩:=zz5 hsort hq
    refine Vcode.cond rfl (zq (Vcode.seqc (Vcode.steps (Vstep.step Tab_ok (Vstep.step Tab_ok (Vstep.step Tab_ok ?_))))))
    refine Vadr.mk' p (by omega) (by omega) (Vstep.step Tab_ok (Vstep.step Tab_ok (Vstep.step Tab_ok (zg ((zku (f:=rowM t lf a l m σ) zgs hpN (r:=9) (by omega)).trans (zt1 hp2a hpt)) ?_))))
    refine Vstep.step Tab_ok ?_
    refine Vstep.peekT (r:= .tu [I (posL (zcp t p) a), .b (decide ((a:Int)∈zcp t p))]) (id:=p+2) (l:=lsM t a l m p) (v:=σ p) rfl rfl rfl (by
     show oget (_::tO 2 σ (lsM t a l m) t.length) (p+2)=_
     rw[zbm (by omega)]
     exact zby hpt) rfl (λ_ _ _ _ _ h=>by simpa[RV.at_,RV.partsAt]using h) (by rw[hnow];exact zs6 (zcp t p) a (by show(nT t p).par.late.length<=_;omega) hsort) ?_
    refine Vstep.step Tab_ok (Vstep.step Tab_ok (Vstep.step Tab_ok (Vstep.step Tab_ok (Vstep.step Tab_ok (Vcode.vcg mixed Tab_ok ?_)))))
    refine Vadr.mk' p (by omega) (by omega) (zg ((zku (f:=rowM t lf a l m σ) zgs hpN (r:=9) (by omega)).trans (zt1 hp2a hpt)) ?_)
    refine Vpub.own ?_
    refine Vstep.insT (id:=p+2) (id2:=1000002) (l:=lsM t a l m p) (l':=lsM t a l (m+1) p) (v:=σ p) (q:=a) (i:=posL (zcp t p) a) rfl rfl (by
     show oget (_::_::tO 2 σ (lsM t a l m) t.length) (p+2)=_
     rw[zbm (by omega),zbm (by omega)]
     exact zby hpt) rfl rfl rfl (by omega) (by rw[hnow];exact hps1) (by rw[hnow];show(nT t p).par.late.length<=_;omega) (by rw[hnow,zd9b hlm hk2];exact hps2.symm) λv'=>?_
    refine Vadr.mk' p (by omega) (by omega) ?_
    refine⟨by rw[zde zgs];show p*10+7+2+1<=_;omega,zap (updN (rowM t lf a l m σ) p ((rowM t lf a l m σ p).take 9++[.x (.slice v'.1 (lsM t a l (m+1) p).length v'.2)])) (2*n2-1),z0q zgs hpN _,?_⟩
    refine⟨updN σ p v',trivial,zgy [(0,0)] (λi=>if i=p+2 then 1000003 else i) (O':=[(0,some (nodX (zap (rowM t lf a l (m+1) (updN σ p v')) (2*n2-1)) (2*n2-1)))]) (tl:=tO 2 (updN σ p v') (lsM t a l (m+1)) t.length) rfl ⟨cr,rfl,cr,cr,cr,trivial⟩ ⟨⟨rfl,rfl,rfl,rfl,Cvs.of_eq (zc8 λx hx=>?_)⟩,trivial⟩ ?_ ?_⟩
    ·by_cases e:x=p
     ·subst e
      rw[zfx,z8p hp2a hpt]
     ·rw[zfy e]
      exact(zt2 (zwk hlm e) (zfy e)).symm
    ·intro id o ho
     obtain⟨x,hx,rfl,rfl⟩:=zc4 ho
     have e0:(if x+2=p+2 then 1000003 else x+2:Nat)≠0:=by split<;>omega
     refine⟨by omega,trivial,by rw[zex (by omega)];rfl,?_,λy hy=>?_⟩
     ·show oget ((0,_)::(1000003,some (.gen (zdi (lsM t a l (m+1) p) v')))::(p+2,none)::(1000002,_)::(0,_)::tO 2 σ (lsM t a l m) t.length) (if x+2=p+2 then 1000003 else x+2)=_
      by_cases e:x=p
      ·subst e
       rw[if_pos rfl,zfx]
       rfl
      ·rw[if_neg (by omega),zfy e,zwk hlm e]
       repeat rw[zbm (by omega)]
       exact zby hx
     ·simp at hy;subst hy;exactλe=>e0 e.symm
    ·intro i j o o' hi hj e
     obtain⟨x,hx,rfl,_⟩:=zc4 hi
     obtain⟨y,hy,rfl,_⟩:=zc4 hj
     replace e:(if x+2=p+2 then 1000003 else x+2:Nat)=(if y+2=p+2 then 1000003 else y+2):=e
     split at e<;>split at e<;>omega
   ·simp only[zb]at h2
    have hls: ∀x,lsM t a l (m+1) x=lsM t a l m x:=λx=>by
     by_cases e:x=p
     ·subst e
      rw[ztm (by omega),ztm (by omega)]
     ·exact zwk hlm e
    refine Vcode.cond rfl (zt (Vcode.vcg mixed Tab_ok ?_))
    refine⟨σ,trivial,zgy [(0,0)] id (O':=[(0,some (nodX (zap (rowM t lf a l (m+1) σ) (2*n2-1)) (2*n2-1)))]) (tl:=tO 2 σ (lsM t a l (m+1)) t.length) rfl ⟨cr,rfl,cr,cr,cr,trivial⟩ ⟨⟨rfl,rfl,rfl,rfl,Cvs.of_eq (zc8 λx hx=>(zt2 (hls x) rfl).symm)⟩,trivial⟩ ?_ ?_⟩
    ·intro id o ho
     obtain⟨x,hx,rfl,rfl⟩:=zc4 ho
     refine⟨by omega,trivial,by rw[zex (by omega)];rfl,?_,λy hy=>?_⟩
     ·show oget (_::tO 2 σ (lsM t a l m) t.length) (x+2)=_
      rw[zbm (by omega),hls]
      exact zby hx
     ·simp at hy;subst hy;simp
    ·intro i j o o' _ _ h;exact h
  ·refine Vcode.vcg mixed Tab_ok ?_
   refine zd (m:=((m+1:Nat):Int)) (by omega) (by omega) ?_
   refine⟨(m+1,σ'),by show m+1<=l.length;omega,by show l.length-(m+1)<l.length-m;omega,zgy [(0,0)] id (O':=[(0,some (nodX (zap (rowM t lf a l (m+1) σ') (2*n2-1)) (2*n2-1)))]) (tl:=tO 2 σ' (lsM t a l (m+1)) t.length) rfl ⟨cr,rfl,cr,cr,cr,trivial⟩ ⟨⟨rfl,rfl,rfl,rfl,zn _⟩,trivial⟩ ?_ ?_⟩
   ·intro id o ho
    obtain⟨x,hx,rfl,rfl⟩:=zc4 ho
    refine⟨by omega,trivial,by rw[zex (by omega)];rfl,?_,λy hy=>?_⟩
    ·show oget (_::tO 2 σ' (lsM t a l (m+1)) t.length) (x+2)=_
     rw[zbm (by omega)]
     exact zby hx
    ·simp at hy;subst hy;simp
   ·intro i j o o' _ _ h;exact h
 ·simp only[zb]at h
  obtain rfl:m=l.length:=by omega
  refine Vcode.vcg mixed Tab_ok (zt ?_)
  have hal:=zih t lf a (2*n2-1)
  have hfl:(addN t lf a (2*n2-1)).flatMap Node.c=zap (λx=>(addY t lf a x).c) (2*n2-1):=by
   unfold addN zap
   rw[List.flatMap_map]
  have hlate: ∀x,x<t.length->x≠2*a->addY t lf a x=nX t a l l.length x:=λx hx hne=>by
   rw[zjv (by omega) hx]
   unfold nX lsM
   rw[List.take_length]
   by_cases c:(nT t x).kind.toNat=2/\zb1 x a=true
   ·rw[if_pos c,if_pos ⟨(hp3 x (by omega)).2 c.2,c.1⟩]
   ·rw[if_neg c,if_neg (λh=>c ⟨h.2,(hp3 x (by omega)).1 h.1⟩)]
  refine⟨_,z80 (id0:=0) (base:=2) (m:=t.length) (τ:=σ) (ls:=lsM t a l l.length) (cells':=(addN t lf a (2*n2-1)).flatMap Node.c) (O':=[(0,some (nodX ((addN t lf a (2*n2-1)).flatMap Node.c) (2*n2-1)))]) rfl (λx hx=>?_) (λx hx=>by omega) (λid o ho hne=>?_) rfl ?_ ?_,?_⟩
  ·show oget (_::tO 2 σ (lsM t a l l.length) t.length) (x+2)=_
   rw[zbm (by omega)]
   exact zby hx
  ·rcases zal ho with⟨rfl,_⟩ |⟨_,ho⟩
   ·exact absurd rfl hne
   ·cases ho
  ·rw[hfl,zde (λ_=>rfl),zde zgs]
  ·intro w k us hrd hus
   rw[hfl]
   refine zok (λx hx us hus=>?_) hus
   unfold rowM at hus
   split at hus
   ·rename_i e
    rw[zgj (by omega)]
    exact hus
   ·rename_i e
    split at hus
    ·rename_i hxt
     rw[hlate x hxt e]
     exact cx_c hus (hrd x hxt)
    ·rw[zii (by omega) (by omega)]
     exact hus
  ·have e:nods (addN t lf a (2*n2-1))= .sl 10 (2*n2-1) ((addN t lf a (2*n2-1)).flatMap Node.c):=by unfold nods;rw[hal]
   rw[e]
   exact⟨_,za7 (id:=0) rfl,⟨_,rfl,cr⟩⟩
theorem zpv{S:St}{t:Nat}{f:TF}{r:RV}(hf:fget S.F t=some f)(hr:S.rv f=some r):Sub S ⟨(t, .r r)::S.F,S.O,S.nx⟩:=by
 intro B N a w k ⟨g,hs⟩
 have h:=zdm hs hr (hs.facts t _ hf).2
 refine⟨k,g,hs.size,hs.defers,hs.keep,hs.kk,λt' f' hf'=>?_,hs.owns,hs.apart⟩
 rcases za5 hf' with⟨rfl,rfl⟩ |⟨_,hf'⟩
 ·exact⟨trivial,by simp only[TF.at_];exact h⟩
 ·exact hs.facts t' f' hf'
section
variable {P:Program} {T:TT} {S:St} {o:Oper}
theorem Vstep.clipR{t e:TypeId}{ti te:TI}{x y z:Operand}{f:TF}{sz n:Nat}{cells:List RV}{K:St->Prop}(hT:TOk P T)(hop:o.op= .slice t x none (some y) (some z))(hti:tget T t=some ti)(hk:ti.k= .slice e)(hte:tget T e=some te)(hsz:te.sz=sz)
  (hx:opr S x=some f) (hr:S.rv f=some (.sl sz n cells)) (hy:opr S y=some (.r (.i .i64 n))) (hz:opr S z=some (.r (.i .i64 n))) (hn:0<n)
  (hK:newK S o.dst (.r (.sl sz n cells)) none K):Vstep P S o K:=by
 rw[zat]at hK
 refine Vstep.one (λB N a w k Q ⟨g,hs⟩ hd=>?_) hK
 have hxv:=zdm hs hr (zag hs hx).2
 have hyv:=(zag hs hy).2
 have hzv:=(zag hs hz).2
 simp only[TF.at_,RV.at_]at hxv hyv hzv
 obtain⟨p,c,e1,hnc,hcm,hcl,hpp⟩:=hxv
 obtain⟨b,o',e2,hb,hca⟩:=hpp hn
 obtain⟨q,hq⟩:=hT.get hti
 obtain⟨d,hdd,hko,_⟩:=q.desc
 rw[hq]at hdd
 rw[hk]at hko
 simp only[KOk]at hko
 subst hko
 obtain⟨qe,hqe⟩:=hT.get hte
 have hsize:=za3 (w:=w) qe hqe
 have hrun:(Instr.sliceAt t (a.eval x) none (some (a.eval y)) (some (a.eval z))).run P w= .ok (.slice (some ⟨b,o',none⟩) n n) w:=by
  rw[hyv,hzv,e1,e2]
  have hne: ¬n=0:=by omega
  simp[Instr.sliceAt,Instr.slice,Instr.sliceBounds,Instr.sliceBound,asIntOf,run_underlying hdd w,hsize,hnc,hne,Addr.add]
 refine za0 (v:= .slice (some ⟨b,o',none⟩) n n) (w':=w) (by simp[execOp,hop,hrun]) ⟨k,g,hs.put hd trivial ?_⟩
 simp only[TF.at_,RV.at_]
 exact⟨_,n,rfl,Nat.le_refl _,by omega,hcl,λ_=>⟨b,o',rfl,hb,hca⟩⟩
end
theorem z3q(t:List Node)(h0:0<t.length):aG 89 [nods t] (.r (nods t)):=by
 refine aT Tryz.func89 rfl ?_
 refine Vstep.clipR Tab_ok rfl rfl rfl rfl rfl rfl rfl rfl rfl h0 ?_
 exact cr
theorem zyr{t:List Node}(hn:zae t≠0)(h1:1<zae t):zae (t.take ((zae t).toNat-1))*2=zae t:=by
 obtain⟨hl1,hl2,hl3⟩:=zbg hn
 obtain⟨d,hd,e⟩:=zdn hl2
 obtain⟨d,rfl⟩: ∃g,d=g+1:=⟨d-1,by
  rcases Nat.eq_zero_or_pos d with h |h
  ·subst h;rw[e]at h1;simp at h1
  ·omega⟩
 have e2:2^(d+1)=2*2^d:=by rw[Nat.pow_succ];omega
 have hp:=zai d
 have hl:(t.take ((zae t).toNat-1)).length=2^(d+1)-1:=by rw[List.length_take];omega
 rw[zae,hl,if_pos ⟨by rw[show(2^(d+1)-1+1)/2=2^d by omega];exact zev d (by omega),by omega⟩,e]
 omega
def zc6:Nat->List Node->List Node
 |0,t=>t
 |f+1,t=>if 1<zae t/\(t.drop (zae t).toNat).any isLf=false then zc6 f (t.take ((zae t).toNat-1))else t
def remT(t:List Node)(i:Int):List Node:=zc6 17 ((zcv t i).set (2*i).toNat Node.zero)
open Classical in
noncomputable def remR (t:List Node)(i:Int):RV:=
 if rightT t=false then .tu [nods [],Er 12]else if i∈zaf t then(if(zaf t).length=1 then .tu [nods [],Er 1]else .tu [nods (remT t i),Er 0])else .tu [nods [],Er 7]
theorem zoq{t u:List Node}(h:t.length=u.length):zae t=zae u:=by unfold zae;rw[h]
theorem z7j(t:List Node)(i:Int)(ht:t.length<=1000000)(hfit: ∀x∈t,x.fit):aG 46 [nods t,I i] (.r (remR t i)):=by
 have g:=zir t ht hfit
 have nil: ∀e:Nat,Cv (.tu [.x (.slice none 0 0),Er e]) (.tu [nods [],Er e]):=λe=>Cv.tu (zk (Cv.nil 10) (zn _))
 refine aT Tryz.func46 rfl ?_
 refine ze g ?_
 unfold remR
 cases hr:rightT t with
 |false=>exact zu rfl (zq ⟨_,rfl,nil 12⟩)
 |true=>
 have r:=zbr.1 hr
 obtain⟨hl1,hl2,hl3⟩:=zbg r.n
 have hb:=zcc hl2
 refine zw rfl (zt ?_)
 refine Vcall.bool (ztf t i ht r.n) (λh=>?_) (λh=>?_)
 rotate_left
 ·replace h:=of_decide_eq_false h
  rw[if_neg (by simp),if_neg h]
  exact zu rfl (zq ⟨_,rfl,nil 7⟩)
 replace h:=of_decide_eq_true h
 rw[if_neg (by simp),if_pos h]
 obtain⟨o,rfl,ho,hk⟩:=zba.1 h
 have hbl:(zcv t (o:Int)).length=t.length:=zi0 _ _
 refine zw rfl (zt ?_)
 refine ze (z9i t ht) ?_
 have em:memA t t.length=zaf t:=by
  have:=zn4 r.ok ((t.length+1)/2) (by omega)
  rw[show 2*((t.length+1)/2)-1=t.length by omega]at this
  exact this
 rw[em]
 refine zh (λh1=>zq ?_) (λh1=>zt ?_)
 ·simp only[zb]at h1
  rw[if_pos (by omega)]
  exact⟨_,rfl,nil 1⟩
 simp only[zb]at h1
 rw[if_neg (by omega)]
 refine ze (ztc t (o:Int) ht hfit r.n (by omega)) ?_
 refine zd rfl (by omega) ?_
 refine Vadr.mk' (2*o) (by omega) (by omega) ?_
 refine⟨by rw[zh6 (f:=Node.c) (sz:=10) (λ_=>rfl)];show 2*o*10+10<=_;omega,((zcv t (o:Int)).take (2*o)).flatMap Node.c++zc++((zcv t (o:Int)).drop (2*o+1)).flatMap Node.c,zk0 zc rfl,?_⟩
 obtain⟨X,hX⟩: ∃X,X=(zcv t (o:Int)).set (2*o) Node.zero:=⟨_,rfl⟩
 have hXl:X.length=t.length:=by rw[hX,List.length_set,hbl]
 have hXn:zae X=zae t:=zoq hXl
 have hR:remT t (o:Int)=zc6 17 X:=by unfold remT;rw[show(2*(o:Int)).toNat=2*o by omega,hX]
 rw[hR]
 refine Vstep.sub (Sub.trans (za7 (id:=0) rfl) (Sub.trans (zac (S':=⟨[(6, .own 0),(30, .own 0)],[(0,some (.ch 60 10 X.length (X.flatMap Node.c) true))],1⟩) [(0,0)] rfl ⟨rfl,rfl,trivial⟩ ⟨⟨rfl,rfl,hXl.symm,rfl,by rw[hX,zng (by omega)];exact Cvs.appC (Cvs.appC (zn _) zcC) (zn _)⟩,trivial⟩) (Sub.trans (zpv (t:=6) rfl rfl) (zpv (t:=30) rfl rfl)))) (Vstep.val Tab_ok ?_)
 refine ze (zeq X (by omega)) ?_
 refine Vloop.mk' (λq:List Node×Nat=>⟨[(6, .r (nods q.1)),(7, .r (I (zae q.1)))],[],0⟩) (λq=>zc6 q.2 q.1=zc6 17 X/\zae q.1≠0/\q.1.length<=1000000/\zae q.1<=((2^q.2:Nat):Int)) (λq=>q.2) (X,17) ⟨rfl,by rw[hXn];exact r.n,by dsimp only;omega,by dsimp only;rw[hXn];have h17:2^17=131072:=rfl;omega⟩
  (zac [] rfl ⟨cr,cr,trivial⟩ trivial) ?_
 rintro⟨Y,f⟩ ⟨e1,e2,e3,e4⟩
 dsimp only at e1 e2 e3 e4
 obtain⟨y1,y2,y3⟩:=zbg e2
 have yb:=zcc y2
 refine zh (λc1=>?_) (λc1=>?_)
 ·simp only[zb]at c1
  have hdl:(Y.drop (zae Y).toNat).length=Y.length-(zae Y).toNat:=List.length_drop
  refine⟨by dsimp only;omega,by dsimp only;omega,by dsimp only;omega,(Y.drop (zae Y).toNat).length,(Y.drop (zae Y).toNat).flatMap Node.c,by dsimp only;omega,by rw[znu (f:=Node.c) (sz:=10) (λ_=>rfl),List.take_of_length_le (by rw[zh6 (f:=Node.c) (sz:=10) (λ_=>rfl),hdl];omega)],?_⟩
  refine Vcall.bool (znx (Y.drop (zae Y).toNat) (by omega)) (λhs=>zw rfl (zt ?_)) (λhs=>zu rfl (zq ?_))
  ·have e:zc6 f Y=Y:=by
    cases f with
    |zero=>rfl
    |succ f=>rw[zc6,if_neg (by rw[hs];simp)]
   rw[<-e1,e]
   exact ze (z3q Y y3) ⟨_,rfl,cr⟩
  ·obtain⟨f,rfl⟩: ∃g,f=g+1:=⟨f-1,by
    rcases Nat.eq_zero_or_pos f with h |h
    ·subst h;simp at e4;omega
    ·omega⟩
   rw[zc6,if_pos ⟨c1,hs⟩]at e1
   have hh:=zyr e2 c1
   have htl:(Y.take ((zae Y).toNat-1)).length=(zae Y).toNat-1:=by rw[List.length_take];omega
   have e5:2^(f+1)=2*2^f:=by rw[Nat.pow_succ];omega
   refine zd (m:=zae Y-1) rfl (by dsimp only;omega) ?_
   refine⟨by omega,by omega,by dsimp only;omega,(Y.take ((zae Y).toNat-1)).length,(Y.take ((zae Y).toNat-1)).flatMap Node.c,by omega,by rw[show((0:Int).toNat*10)=0 from rfl,List.drop_zero,htl];exact zji (f:=Node.c) (sz:=10) (λ_=>rfl) Y _,?_⟩
   refine ze (zeq (Y.take ((zae Y).toNat-1)) (by omega)) ?_
   exact⟨(Y.take ((zae Y).toNat-1),f),⟨e1,by dsimp only;omega,by dsimp only;omega,by dsimp only;omega⟩,by dsimp only;omega,zac [] rfl ⟨cr,cr,trivial⟩ trivial⟩
 ·simp only[zb]at c1
  have e:zc6 f Y=Y:=by
   cases f with
   |zero=>rfl
   |succ f=>rw[zc6,if_neg (by omega)]
  refine zt ?_
  rw[<-e1,e]
  exact ze (z3q Y y3) ⟨_,rfl,cr⟩
end Go.Proofs.YtpcfoglfakeimaaGreat.Sx
