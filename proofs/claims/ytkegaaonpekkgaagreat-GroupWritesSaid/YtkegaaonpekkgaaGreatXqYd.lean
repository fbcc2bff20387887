import Derived.Test.YtkegaaonpekkgaaGreatXqSxA
namespace Go.Proofs.YtkegaaonpekkgaaGreat.Sx
def xm(n:Nat):Prop:=1<n/\∀a b:Nat,n∣a*b->n∣a\/n∣b
def dY(g n:Nat):Nat->Nat->Nat
 |0,_=>1%n
 |f+1,e=>if e=0 then 1%n else
   let h:=dY g n f (e/2)
   let s:=h*h%n
   if e%2=1 then s*g%n else s
theorem nP(g n:Nat): ∀f e,e<2^f->dY g n f e=g^e%n
 |0,e,h=>by
  have:e=0:=by omega
  subst this;simp[dY]
 |f+1,e,h=>by
  rw[dY]
  split
  ·next h0=>subst h0;simp
  ·have h2:e/2<2^f:=by rw[Nat.pow_succ]at h;omega
   have hh:=nP g n f (e/2) h2
   dsimp only
   rw[hh]
   have e1:g^(e/2)%n*(g^(e/2)%n)%n=g^(e/2+e/2)%n:=by rw[<-Nat.mul_mod,Nat.pow_add]
   rw[e1]
   split
   ·next h1=>
    rw[Nat.mod_mul_mod,<-Nat.pow_succ]
    congr 2;omega
   ·next h1=>congr 2;omega
theorem ru{g n m:Nat}(h:g^m%n=1%n)(k:Nat):g^(m*k)%n=1%n:=by
 rw[Nat.pow_mul,Nat.pow_mod,h]
 rw[<-Nat.pow_mod,Nat.one_pow]
theorem HW{g n:Nat}(a b:Nat):g^a%n=1%n->g^b%n=1%n->g^(Nat.gcd a b)%n=1%n:=by
 induction a,b using Nat.gcd.induction with
 |H0 b=>intro _ h;simpa using h
 |H1 a b ha ih=>
  intro h1 h2
  rw[Nat.gcd_rec]
  refine ih ?_ h1
  have e:b=a*(b/a)+b%a:=(Nat.div_add_mod b a).symm
  rw[e,Nat.pow_add,Nat.mul_mod,ru h1]at h2
  rw[<-Nat.mul_mod,Nat.one_mul]at h2
  exact h2
def ur:List Nat->Nat
 |[]=>1
 |q::l=>q*ur l
theorem UW: ∀{l:List Nat},(∀q∈l,xm q)->0<ur l
 |[],_=>by simp[ur]
 |q::l,h=>by
  have h1:=(h q (by simp)).1
  have h2:=UW (l:=l) λx hx=>h x (by simp[hx])
  rw[ur]
  exact Nat.mul_pos (by omega) h2
theorem Vo: ∀(l:List Nat),(∀q∈l,xm q)->∀G,G∣ur l->G≠ur l->∃q∈l,G∣ur l/q
 |[],_,G,h,hn=>by
  simp only[ur]at h hn
  exact absurd (Nat.dvd_one.1 h) hn
 |q::l,h,G,⟨c,hc⟩,hn=>by
  have hq:=h q (by simp)
  have hl: ∀x∈l,xm x:=λx hx=>h x (by simp[hx])
  have hp:=UW hl
  have q0:0<q:=by have:=hq.1;omega
  rw[ur]at hc
  rcases hq.2 G c ⟨ur l,hc.symm⟩with⟨G',hG⟩ |⟨c',hc'⟩
  ·subst hG
   have e:ur l=G'*c:=by
    rw[Nat.mul_assoc]at hc
    exact Nat.eq_of_mul_eq_mul_left q0 hc
   have hne:G'≠ur l:=λhx=>hn (by rw[ur,hx])
   obtain⟨r,hr,hd⟩:=Vo l hl G' ⟨c,e⟩ hne
   refine⟨r,by simp[hr],?_⟩
   have hrd:r∣ur l:=mem_dvd l r hr
   rw[ur,Nat.mul_div_assoc _ hrd]
   exact Nat.mul_dvd_mul_left q hd
  ·subst hc'
   refine⟨q,by simp,?_⟩
   rw[ur,Nat.mul_div_cancel_left _ q0]
   refine⟨c',?_⟩
   refine Nat.eq_of_mul_eq_mul_left q0 ?_
   rw[hc,<-Nat.mul_assoc,Nat.mul_comm G q,Nat.mul_assoc]
where
 mem_dvd: ∀(l:List Nat) (r:Nat),r∈l->r∣ur l
  |q::l,r,h=>by
   rw[ur]
   rcases List.mem_cons.1 h with rfl |h
   ·exact Nat.dvd_mul_right _ _
   ·exact Nat.dvd_trans (mem_dvd l r h) (Nat.dvd_mul_left _ _)
theorem UR: ∀(N:Nat) (f:Nat->Nat),(∀k,k<N->f k<N)->(∀i j,i<N->j<N->f i=f j->i=j)->∀v,v<N->∃k,k<N/\f k=v
 |0,_,_,_,v,hv=>absurd hv (by omega)
 |N+1,f,hf,hi,v,hv=>by
  by_cases hN:f N=v
  ·exact⟨N,by omega,hN⟩
  ·let g:Nat->Nat:=λk=>if f k=N then f N else f k
   have hg: ∀k,k<N->g k<N:=by
    intro k hk
    show(if f k=N then f N else f k)<N
    have a:=hf k (by omega)
    have b:=hf N (by omega)
    split
    ·next e=>
     have:f N≠N:=λx=>by have:=hi k N (by omega) (by omega) (by omega);omega
     omega
    ·omega
   have hgi: ∀i j,i<N->j<N->g i=g j->i=j:=by
    intro i j h1 h2 h
    have h:(if f i=N then f N else f i)=(if f j=N then f N else f j):=h
    split at h<;>split at h
    ·next a b=>exact hi i j (by omega) (by omega) (by omega)
    ·have:=hi N j (by omega) (by omega) h;omega
    ·have:=hi i N (by omega) (by omega) h;omega
    ·exact hi i j (by omega) (by omega) h
   by_cases hv2:v=N
   ·have hfN:f N<N:=by have:=hf N (by omega);omega
    obtain⟨k,hk,e⟩:=UR N g hg hgi (f N) hfN
    have e:(if f k=N then f N else f k)=f N:=e
    split at e
    ·next x=>exact⟨k,by omega,by omega⟩
    ·have:=hi k N (by omega) (by omega) e;omega
   ·obtain⟨k,hk,e⟩:=UR N g hg hgi v (by omega)
    have e:(if f k=N then f N else f k)=v:=e
    split at e
    ·exact absurd e hN
    ·exact⟨k,by omega,e⟩
theorem V9(n g:Nat)(l:List Nat)(hn:1<n)(hl: ∀q∈l,xm q)(hp:ur l=n-1)(h1:g^(n-1)%n=1)(h2: ∀q∈l,g^((n-1)/q)%n≠1): ∀x,x%n≠0->∃k,g^k%n=x%n:=by
 have one:1%n=1:=bS hn
 have ord: ∀m,0<m->m<n-1->g^m%n≠1:=by
  intro m m0 m1 hm
  have hg:=HW (g:=g) (n:=n) m (n-1) (by rw[hm,one]) (by rw[h1,one])
  have hd:Nat.gcd m (n-1)∣ur l:=hp▸Nat.gcd_dvd_right _ _
  have hne:Nat.gcd m (n-1)≠ur l:=by
   have:=Nat.le_of_dvd m0 (Nat.gcd_dvd_left m (n-1))
   omega
  obtain⟨q,hq,c,hc⟩:=Vo l hl _ hd hne
  refine h2 q hq ?_
  rw[<-hp,hc,ru hg,one]
 have nz: ∀k,g^k%n≠0:=by
  intro k hk
  have:g^(k*(n-1))%n=0:=by
   rw[Nat.pow_mul,Nat.pow_mod,hk,Nat.zero_pow (by omega)]
   exact Nat.zero_mod n
  rw[Nat.mul_comm,ru (by rw[h1,one]),one]at this
  omega
 have inj: ∀i j,i<j->j<n-1->g^i%n≠g^j%n:=by
  intro i j hij hj e
  have e1:(g^i%n*(g^(n-1-i)%n))%n=1:=by
   rw[<-Nat.mul_mod,<-Nat.pow_add,show i+(n-1-i)=n-1 by omega,h1]
  rw[e,<-Nat.mul_mod,<-Nat.pow_add,show j+(n-1-i)=(n-1)+(j-i)by omega,Nat.pow_add,Nat.mul_mod,h1,Nat.one_mul,Nat.mod_mod]at e1
  exact ord (j-i) (by omega) (by omega) e1
 intro x hx
 obtain⟨k, -,hk⟩:=UR (n-1) (λk=>g^k%n-1)
  (λk _=>by have:=Nat.mod_lt (g^k) (show 0<n by omega);have:=nz k;show g^k%n-1<n-1;omega)
  (λi j hi hj h=>by
   have a:=nz i;have b:=nz j
   have h:g^i%n-1=g^j%n-1:=h
   rcases Nat.lt_trichotomy i j with c |c |c
   ·exact absurd (show g^i%n=g^j%n by omega) (inj i j c hj)
   ·exact c
   ·exact absurd (show g^j%n=g^i%n by omega) (inj j i c hi))
  (x%n-1) (by have:=Nat.mod_lt x (show 0<n by omega);omega)
 have:=nz k
 exact⟨k,by have hk:g^k%n-1=x%n-1:=hk;omega⟩
theorem DP(n g:Nat)(l:List Nat)(hn:1<n)(hl: ∀q∈l,xm q)(hp:ur l=n-1)(h1:g^(n-1)%n=1)(h2: ∀q∈l,g^((n-1)/q)%n≠1):xm n:=by
 refine⟨hn,λa b h=>?_⟩
 by_cases ha:a%n=0
 ·exact .inl (Nat.dvd_of_mod_eq_zero ha)
 by_cases hb:b%n=0
 ·exact .inr (Nat.dvd_of_mod_eq_zero hb)
 exfalso
 obtain⟨i,hi⟩:=V9 n g l hn hl hp h1 h2 a ha
 obtain⟨j,hj⟩:=V9 n g l hn hl hp h1 h2 b hb
 have e:=Nat.mod_eq_zero_of_dvd h
 rw[Nat.mul_mod,<-hi,<-hj,<-Nat.mul_mod,<-Nat.pow_add]at e
 have e2:g^((i+j)*(n-1))%n=0:=by
  rw[Nat.pow_mul,Nat.pow_mod,e,Nat.zero_pow (by omega)]
  exact Nat.zero_mod n
 rw[Nat.mul_comm,ru (by rw[h1,bS hn]),bS hn]at e2
 omega
def chk(n g f:Nat)(l:List Nat):Bool:=Nat.ble 2 n&&Nat.beq (ur l) (n-1)&&Nat.beq (dY g n f (n-1)) 1&&l.all λq=> !(Nat.beq (dY g n f ((n-1)/q)) 1)
theorem yw{n:Nat}(g f:Nat)(l:List Nat)(hf:n<2^f)(hl: ∀q∈l,xm q)(h:chk n g f l=true):xm n:=by
 simp only[chk,bB,Nat.ble_eq,List.all_eq_true,Bool.not_eq_true']at h
 obtain⟨⟨⟨a,b⟩,c⟩,d⟩:=h
 have b:=bI b
 have c:=bI c
 rw[nP g n f _ (by omega)]at c
 refine DP n g l (by omega) hl b c λq hq e=>?_
 have d:=d q hq
 rw[nP g n f _ (by have:=Nat.div_le_self (n-1) q;omega),e]at d
 exact absurd d (by decide)
theorem all_nil: ∀q∈([]:List Nat),xm q:=λq h=>absurd h (by simp)
theorem all_cons{a:Nat}{l:List Nat}(h:xm a)(hl: ∀q∈l,xm q): ∀q∈a::l,xm q:=λq hq=>by
 rcases List.mem_cons.1 hq with rfl |hq
 ·exact h
 ·exact hl q hq
theorem yx:xm 2:=⟨by decide,λa b h=>by
 rcases Nat.mod_two_eq_zero_or_one a with ha |ha
 ·exact .inl (Nat.dvd_of_mod_eq_zero ha)
 rcases Nat.mod_two_eq_zero_or_one b with hb |hb
 ·exact .inr (Nat.dvd_of_mod_eq_zero hb)
 have:=Nat.mod_eq_zero_of_dvd h
 rw[Nat.mul_mod,ha,hb]at this
 omega⟩
theorem xp:xm 3:=yw 2 2 [2] (by decide+kernel) (all_cons yx (all_nil)) (by decide+kernel)
theorem PN:xm 17:=yw 3 5 [2,2,2,2] (by decide+kernel) (all_cons yx (all_cons yx (all_cons yx (all_cons yx (all_nil))))) (by decide+kernel)
theorem ot:xm 7:=yw 3 3 [2,3] (by decide+kernel) (all_cons yx (all_cons xp (all_nil))) (by decide+kernel)
theorem B7:xm 239:=yw 7 8 [2,7,17] (by decide+kernel) (all_cons yx (all_cons ot (all_cons PN (all_nil)))) (by decide+kernel)
theorem B8:xm 479:=yw 13 9 [2,239] (by decide+kernel) (all_cons yx (all_cons B7 (all_nil))) (by decide+kernel)
theorem B9:xm 32573:=yw 2 15 [2,2,17,479] (by decide+kernel) (all_cons yx (all_cons yx (all_cons PN (all_cons B8 (all_nil))))) (by decide+kernel)
theorem BA:xm 65147:=yw 2 16 [2,32573] (by decide+kernel) (all_cons yx (all_cons B9 (all_nil))) (by decide+kernel)
theorem rx:xm 5:=yw 2 3 [2,2] (by decide+kernel) (all_cons yx (all_cons yx (all_nil))) (by decide+kernel)
theorem ZM:xm 11:=yw 2 4 [2,5] (by decide+kernel) (all_cons yx (all_cons rx (all_nil))) (by decide+kernel)
theorem DQ:xm 353:=yw 3 9 [2,2,2,2,2,11] (by decide+kernel) (all_cons yx (all_cons yx (all_cons yx (all_cons yx (all_cons yx (all_cons ZM (all_nil))))))) (by decide+kernel)
theorem MB:xm 29:=yw 2 5 [2,2,7] (by decide+kernel) (all_cons yx (all_cons yx (all_cons ot (all_nil)))) (by decide+kernel)
theorem DR:xm 59:=yw 2 6 [2,29] (by decide+kernel) (all_cons yx (all_cons MB (all_nil))) (by decide+kernel)
theorem DS:xm 487:=yw 3 9 [2,3,3,3,3,3] (by decide+kernel) (all_cons yx (all_cons xp (all_cons xp (all_cons xp (all_cons xp (all_cons xp (all_nil))))))) (by decide+kernel)
theorem DT:xm 57467:=yw 2 16 [2,59,487] (by decide+kernel) (all_cons yx (all_cons DR (all_cons DS (all_nil)))) (by decide+kernel)
theorem UT:xm 13:=yw 2 4 [2,2,3] (by decide+kernel) (all_cons yx (all_cons yx (all_cons xp (all_nil)))) (by decide+kernel)
theorem DU:xm 131:=yw 2 8 [2,5,13] (by decide+kernel) (all_cons yx (all_cons rx (all_cons UT (all_nil)))) (by decide+kernel)
theorem DV:xm 132049:=yw 26 18 [2,2,2,2,3,3,7,131] (by decide+kernel) (all_cons yx (all_cons yx (all_cons yx (all_cons yx (all_cons xp (all_cons xp (all_cons ot (all_cons DU (all_nil))))))))) (by decide+kernel)
theorem MC:xm 43:=yw 3 6 [2,3,7] (by decide+kernel) (all_cons yx (all_cons xp (all_cons ot (all_nil)))) (by decide+kernel)
theorem MD:xm 23:=yw 5 5 [2,11] (by decide+kernel) (all_cons yx (all_cons ZM (all_nil))) (by decide+kernel)
theorem DW:xm 3727:=yw 3 12 [2,3,3,3,3,23] (by decide+kernel) (all_cons yx (all_cons xp (all_cons xp (all_cons xp (all_cons xp (all_cons MD (all_nil))))))) (by decide+kernel)
theorem DX:xm 1923133:=yw 2 21 [2,2,3,43,3727] (by decide+kernel) (all_cons yx (all_cons yx (all_cons xp (all_cons MC (all_cons DW (all_nil)))))) (by decide+kernel)
theorem DY:xm 31:=yw 3 5 [2,3,5] (by decide+kernel) (all_cons yx (all_cons xp (all_cons rx (all_nil)))) (by decide+kernel)
theorem DZ:xm 53:=yw 2 6 [2,2,13] (by decide+kernel) (all_cons yx (all_cons yx (all_cons UT (all_nil)))) (by decide+kernel)
theorem Ca:xm 107:=yw 2 7 [2,53] (by decide+kernel) (all_cons yx (all_cons DZ (all_nil))) (by decide+kernel)
theorem Cb:xm 37:=yw 2 6 [2,2,3,3] (by decide+kernel) (all_cons yx (all_cons yx (all_cons xp (all_cons xp (all_nil))))) (by decide+kernel)
theorem Cc:xm 223:=yw 3 8 [2,3,37] (by decide+kernel) (all_cons yx (all_cons xp (all_cons Cb (all_nil)))) (by decide+kernel)
theorem Cd:xm 173:=yw 2 8 [2,2,43] (by decide+kernel) (all_cons yx (all_cons yx (all_cons MC (all_nil)))) (by decide+kernel)
theorem Ce:xm 4153:=yw 5 13 [2,2,2,3,173] (by decide+kernel) (all_cons yx (all_cons yx (all_cons yx (all_cons xp (all_cons Cd (all_nil)))))) (by decide+kernel)
theorem ME:xm 41:=yw 6 6 [2,2,2,5] (by decide+kernel) (all_cons yx (all_cons yx (all_cons yx (all_cons rx (all_nil))))) (by decide+kernel)
theorem Cf:xm 1723:=yw 3 11 [2,3,7,41] (by decide+kernel) (all_cons yx (all_cons xp (all_cons ot (all_cons ME (all_nil))))) (by decide+kernel)
theorem Cg:xm 430751:=yw 17 19 [2,5,5,5,1723] (by decide+kernel) (all_cons yx (all_cons rx (all_cons rx (all_cons rx (all_cons Cf (all_nil)))))) (by decide+kernel)
theorem Ch:xm 31757755568855353:=yw 10 55 [2,2,2,3,31,107,223,4153,430751] (by decide+kernel) (all_cons yx (all_cons yx (all_cons yx (all_cons xp (all_cons DY (all_cons Ca (all_cons Cc (all_cons Ce (all_cons Cg (all_nil)))))))))) (by decide+kernel)
theorem UU:xm 19:=yw 2 5 [2,3,3] (by decide+kernel) (all_cons yx (all_cons xp (all_cons xp (all_nil)))) (by decide+kernel)
theorem Ci:xm 83:=yw 2 7 [2,41] (by decide+kernel) (all_cons yx (all_cons ME (all_nil))) (by decide+kernel)
theorem Cj:xm 9463:=yw 3 14 [2,3,19,83] (by decide+kernel) (all_cons yx (all_cons xp (all_cons UU (all_cons Ci (all_nil))))) (by decide+kernel)
theorem Ck:xm 37853:=yw 2 16 [2,2,9463] (by decide+kernel) (all_cons yx (all_cons yx (all_cons Cj (all_nil)))) (by decide+kernel)
theorem Cl:xm 75707:=yw 2 17 [2,37853] (by decide+kernel) (all_cons yx (all_cons Ck (all_nil))) (by decide+kernel)
theorem Cm:xm 2437:=yw 2 12 [2,2,3,7,29] (by decide+kernel) (all_cons yx (all_cons yx (all_cons xp (all_cons ot (all_cons MB (all_nil)))))) (by decide+kernel)
theorem Cn:xm 97:=yw 5 7 [2,2,2,2,2,3] (by decide+kernel) (all_cons yx (all_cons yx (all_cons yx (all_cons yx (all_cons yx (all_cons xp (all_nil))))))) (by decide+kernel)
theorem Co:xm 419:=yw 2 9 [2,11,19] (by decide+kernel) (all_cons yx (all_cons ZM (all_cons UU (all_nil)))) (by decide+kernel)
theorem Cp:xm 569003:=yw 2 20 [2,7,97,419] (by decide+kernel) (all_cons yx (all_cons ot (all_cons Cn (all_cons Co (all_nil))))) (by decide+kernel)
theorem Cq:xm 2773320623:=yw 5 32 [2,2437,569003] (by decide+kernel) (all_cons yx (all_cons Cm (all_cons Cp (all_nil)))) (by decide+kernel)
theorem Cr:xm 72106336199:=yw 7 37 [2,13,2773320623] (by decide+kernel) (all_cons yx (all_cons UT (all_cons Cq (all_nil)))) (by decide+kernel)
theorem MF:xm 47:=yw 5 6 [2,23] (by decide+kernel) (all_cons yx (all_cons MD (all_nil))) (by decide+kernel)
theorem Ct:xm 127:=yw 3 7 [2,3,3,7] (by decide+kernel) (all_cons yx (all_cons xp (all_cons xp (all_cons ot (all_nil))))) (by decide+kernel)
theorem Cu:xm 103:=yw 5 7 [2,3,17] (by decide+kernel) (all_cons yx (all_cons xp (all_cons PN (all_nil)))) (by decide+kernel)
theorem Cw:xm 991:=yw 6 10 [2,3,3,5,11] (by decide+kernel) (all_cons yx (all_cons xp (all_cons xp (all_cons rx (all_cons ZM (all_nil)))))) (by decide+kernel)
theorem Cx:xm 8574133:=yw 2 24 [2,2,3,7,103,991] (by decide+kernel) (all_cons yx (all_cons yx (all_cons xp (all_cons ot (all_cons Cu (all_cons Cw (all_nil))))))) (by decide+kernel)
theorem Cy:xm 1919519569386763:=yw 2 51 [2,3,7,19,47,47,127,8574133] (by decide+kernel) (all_cons yx (all_cons xp (all_cons ot (all_cons UU (all_cons MF (all_cons MF (all_cons Ct (all_cons Cx (all_nil))))))))) (by decide+kernel)
theorem Cz:xm 75445702479781427272750846543864801:=yw 7 116 [2,2,2,2,2,3,3,5,5,75707,72106336199,1919519569386763] (by decide+kernel) (all_cons yx (all_cons yx (all_cons yx (all_cons yx (all_cons yx (all_cons xp (all_cons xp (all_cons rx (all_cons rx (all_cons Cl (all_cons Cr (all_cons Cy (all_nil))))))))))))) (by decide+kernel)
theorem C0:xm 74058212732561358302231226437062788676166966415465897661863160754340907:=yw 2 236 [2,3,353,57467,132049,1923133,31757755568855353,75445702479781427272750846543864801] (by decide+kernel) (all_cons yx (all_cons xp (all_cons DQ (all_cons DT (all_cons DV (all_cons DX (all_cons Ch (all_cons Cz (all_nil))))))))) (by decide+kernel)
structure Fld (n:Nat) [NeZero n]:Prop where
 dom: ∀a b:Fin n,a*b=0->a=0\/b=0
 inv: ∀a:Fin n,a≠0->∃b,a*b=1
 two:(2:Fin n)≠0
structure EdC (n:Nat) [NeZero n] (d i:Fin n):Prop extends Fld n where
 ii:i*i= -1
 ns: ∀s t:Fin n,s*s=d*(t*t)->t=0
section
variable {n:Nat} [NeZero n]
theorem Fld.canc(h:Fld n){a b c:Fin n}(ha:a≠0)(e:a*b=a*c):b=c:=by
 rcases h.dom a (b-c) (by grind)with x |x
 ·exact absurd x ha
 ·grind
theorem Fld.mul_ne(h:Fld n){a b:Fin n}(ha:a≠0)(hb:b≠0):a*b≠0:=λe=>by
 rcases h.dom a b e with x |x
 ·exact ha x
 ·exact hb x
theorem Fld.sq(h:Fld n){a:Fin n}(e:a*a=0):a=0:=by
 rcases h.dom a a e with x |x<;>exact x
def On(d x y:Fin n):Prop:=y*y=1+x*x+d*(x*x)*(y*y)
theorem BM{d i:Fin n}(h:EdC n d i){x1 y1 x2 y2 e:Fin n}(h1:On d x1 y1)(h2:On d x2 y2)(he:e*e=1)(hd:d*x1*x2*y1*y2=e):False:=by
 unfold On at h1 h2
 have a1:(i*x1+e*y1)*(i*x1+e*y1)=d*((x1*y1*(i*x2+y2))*(x1*y1*(i*x2+y2))):=by
  have:=h.ii
  grind
 have a2:(i*x1-e*y1)*(i*x1-e*y1)=d*((x1*y1*(i*x2-y2))*(x1*y1*(i*x2-y2))):=by
  have:=h.ii
  grind
 have e0:(0:Fin n)≠1:=λx=>h.two (by grind)
 have b1:=h.ns _ _ a1
 have b2:=h.ns _ _ a2
 have c:2*(x1*y1*y2)=0:=by clear a1 a2 e0 hd he h1 h2;grind
 rcases h.dom _ _ c with c |c
 ·exact h.two c
 ·have:e=0:=by clear a1 a2 e0 h1 h2 b1 b2 he;grind
  clear a1 a2 h1 h2 b1 b2 hd;grind
structure EPt (d:Fin n)where
 x:Fin n
 y:Fin n
 on:On d x y
theorem EPt.ext{d:Fin n}{p q:EPt d}(h1:p.x=q.x)(h2:p.y=q.y):p=q:=by
 cases p;cases q;cases h1;cases h2;rfl
theorem Qm{d i:Fin n}(h:EdC n d i)(p q:EPt d):1+d*p.x*q.x*p.y*q.y≠0:=λe=>BM h p.on q.on (e:= -1) (by grind) (by grind)
theorem Qo{d i:Fin n}(h:EdC n d i)(p q:EPt d):1-d*p.x*q.x*p.y*q.y≠0:=λe=>BM h p.on q.on (e:=1) (by grind) (by grind)
theorem Tz{d i:Fin n}(h:EdC n d i)(p q:EPt d): ∃r:EPt d,r.x*(1+d*p.x*q.x*p.y*q.y)=p.x*q.y+q.x*p.y/\r.y*(1-d*p.x*q.x*p.y*q.y)=p.y*q.y+p.x*q.x:=by
 have n1:=Qm h p q
 have n2:=Qo h p q
 obtain⟨a,ha⟩:=h.inv _ n1
 obtain⟨b,hb⟩:=h.inv _ n2
 have hp:=p.on
 have hq:=q.on
 unfold On at hp hq
 refine⟨⟨(p.x*q.y+q.x*p.y)*a,(p.y*q.y+p.x*q.x)*b,?_⟩,by grind,by grind⟩
 unfold On
 have cl:(p.y*q.y+p.x*q.x)^2*(1+d*p.x*q.x*p.y*q.y)^2-(p.x*q.y+q.x*p.y)^2*(1-d*p.x*q.x*p.y*q.y)^2=(1+d*p.x*q.x*p.y*q.y)^2*(1-d*p.x*q.x*p.y*q.y)^2+d*(p.x*q.y+q.x*p.y)^2*(p.y*q.y+p.x*q.x)^2:=by
  generalize p.x=x1 at*
  generalize p.y=y1 at*
  generalize q.x=x2 at*
  generalize q.y=y2 at*
  clear ha hb n1 n2
  grind
 generalize p.y*q.y+p.x*q.x=u at*
 generalize p.x*q.y+q.x*p.y=v at*
 generalize d*p.x*q.x*p.y*q.y=m at*
 have:(u*b)*(u*b)-(v*a)*(v*a)=1+d*((v*a)*(v*a))*((u*b)*(u*b)):=by
  have e1:(u^2*(1+m)^2-v^2*(1-m)^2)*(a*a*b*b)=((1+m)^2*(1-m)^2+d*v^2*u^2)*(a*a*b*b):=by rw[cl]
  have e2:u^2*(1+m)^2*(a*a*b*b)=(u*b)*(u*b)*(((1+m)*a)*((1+m)*a)):=by grind
  have e3:v^2*(1-m)^2*(a*a*b*b)=(v*a)*(v*a)*(((1-m)*b)*((1-m)*b)):=by grind
  have e4:(1+m)^2*(1-m)^2*(a*a*b*b)=(((1+m)*a)*((1+m)*a))*(((1-m)*b)*((1-m)*b)):=by grind
  rw[ha]at e2 e4
  rw[hb]at e3 e4
  grind
 grind
noncomputable def EPt.add {d i:Fin n}(h:EdC n d i)(p q:EPt d):EPt d:=(Tz h p q).choose
theorem jm{d i:Fin n}(h:EdC n d i)(p q:EPt d):(p.add h q).x*(1+d*p.x*q.x*p.y*q.y)=p.x*q.y+q.x*p.y:=(Tz h p q).choose_spec.1
theorem jo{d i:Fin n}(h:EdC n d i)(p q:EPt d):(p.add h q).y*(1-d*p.x*q.x*p.y*q.y)=p.y*q.y+p.x*q.x:=(Tz h p q).choose_spec.2
theorem Oy{d i:Fin n}(h:EdC n d i){p q r:EPt d}(h1:r.x*(1+d*p.x*q.x*p.y*q.y)=p.x*q.y+q.x*p.y)(h2:r.y*(1-d*p.x*q.x*p.y*q.y)=p.y*q.y+p.x*q.x):p.add h q=r:=by
 have n1:=Qm h p q
 have n2:=Qo h p q
 have a:=jm h p q
 have b:=jo h p q
 refine EPt.ext (h.canc n1 ?_) (h.canc n2 ?_)
 ·exact(Fin.mul_comm _ _).trans ((a.trans h1.symm).trans (Fin.mul_comm _ _))
 ·exact(Fin.mul_comm _ _).trans ((b.trans h2.symm).trans (Fin.mul_comm _ _))
theorem add_comm{d i:Fin n}(h:EdC n d i)(p q:EPt d):p.add h q=q.add h p:=by
 refine Oy h ?_ ?_
 ·have:=jm h q p
  grind
 ·have:=jo h q p
  grind
def EPt.zero(d:Fin n):EPt d:=⟨0,1,by unfold On;grind⟩
theorem add_zero{d i:Fin n}(h:EdC n d i)(p:EPt d):p.add h (.zero d)=p:=by
 refine Oy h ?_ ?_<;>simp only[EPt.zero]<;>grind
theorem A5(d x1 y1 x2 y2 x3 y3:Fin n)(h1:On d x1 y1)(h2:On d x2 y2)(h3:On d x3 y3):
 ((x1*y2+x2*y1)*(1-d*x1*x2*y1*y2)*y3+x3*(y1*y2+x1*x2)*(1+d*x1*x2*y1*y2))*((1+d*x2*x3*y2*y3)*(1-d*x2*x3*y2*y3)+d*x1*y1*(x2*y3+x3*y2)*(y2*y3+x2*x3))
 =(x1*(y2*y3+x2*x3)*(1+d*x2*x3*y2*y3)+(x2*y3+x3*y2)*(1-d*x2*x3*y2*y3)*y1)*((1+d*x1*x2*y1*y2)*(1-d*x1*x2*y1*y2)+d*x3*y3*(x1*y2+x2*y1)*(y1*y2+x1*x2)):=by
 unfold On at h1 h2 h3
 grind
theorem A6(d x1 y1 x2 y2 x3 y3:Fin n)(h1:On d x1 y1)(h2:On d x2 y2)(h3:On d x3 y3):
 ((y1*y2+x1*x2)*(1+d*x1*x2*y1*y2)*y3+(x1*y2+x2*y1)*(1-d*x1*x2*y1*y2)*x3)*((1+d*x2*x3*y2*y3)*(1-d*x2*x3*y2*y3)-d*x1*y1*(x2*y3+x3*y2)*(y2*y3+x2*x3))
 =(y1*(y2*y3+x2*x3)*(1+d*x2*x3*y2*y3)+x1*(x2*y3+x3*y2)*(1-d*x2*x3*y2*y3))*((1+d*x1*x2*y1*y2)*(1-d*x1*x2*y1*y2)-d*x3*y3*(x1*y2+x2*y1)*(y1*y2+x1*x2)):=by
 unfold On at h1 h2 h3
 grind
theorem add_assoc{d i:Fin n}(h:EdC n d i)(p q r:EPt d):(p.add h q).add h r=p.add h (q.add h r):=by
 have nn: ∀p q:EPt d,1+d*p.x*q.x*p.y*q.y≠0/\1-d*p.x*q.x*p.y*q.y≠0:=λp q=>⟨Qm h p q,Qo h p q⟩
 have A:=A5 d p.x p.y q.x q.y r.x r.y p.on q.on r.on
 have B:=A6 d p.x p.y q.x q.y r.x r.y p.on q.on r.on
 obtain⟨m1,m2⟩:=nn p q
 obtain⟨m3,m4⟩:=nn q r
 obtain⟨m5,m6⟩:=nn (p.add h q) r
 obtain⟨m7,m8⟩:=nn p (q.add h r)
 have a1:=jm h p q
 have a2:=jo h p q
 have a3:=jm h q r
 have a4:=jo h q r
 have a5:=jm h (p.add h q) r
 have a6:=jo h (p.add h q) r
 have a7:=jm h p (q.add h r)
 have a8:=jo h p (q.add h r)
 rw[<-a1,<-a2,<-a3,<-a4]at A B
 generalize (p.add h q).add h r=s at*
 generalize p.add h (q.add h r)=t at*
 generalize p.add h q=u at*
 generalize q.add h r=v at*
 clear a1 a2 a3 a4
 generalize 1+d*p.x*q.x*p.y*q.y=D1 at*
 generalize 1-d*p.x*q.x*p.y*q.y=D2 at*
 generalize 1+d*q.x*r.x*q.y*r.y=D3 at*
 generalize 1-d*q.x*r.x*q.y*r.y=D4 at*
 have A':(u.x*r.y+r.x*u.y)*(1+d*p.x*v.x*p.y*v.y)*(D1*D2*(D3*D4))=(p.x*v.y+v.x*p.y)*(1+d*u.x*r.x*u.y*r.y)*(D1*D2*(D3*D4)):=by
  clear a5 a6 a7 a8 B
  grind
 have B':(u.y*r.y+u.x*r.x)*(1-d*p.x*v.x*p.y*v.y)*(D1*D2*(D3*D4))=(p.y*v.y+p.x*v.x)*(1-d*u.x*r.x*u.y*r.y)*(D1*D2*(D3*D4)):=by
  clear a5 a6 a7 a8 A
  grind
 have nD:D1*D2*(D3*D4)≠0:=h.mul_ne (h.mul_ne m1 m2) (h.mul_ne m3 m4)
 clear A B
 generalize D1*D2*(D3*D4)=D at*
 rw[<-a5,<-a7]at A'
 rw[<-a6,<-a8]at B'
 generalize 1+d*p.x*v.x*p.y*v.y=E1 at*
 generalize 1-d*p.x*v.x*p.y*v.y=E2 at*
 generalize 1+d*u.x*r.x*u.y*r.y=E3 at*
 generalize 1-d*u.x*r.x*u.y*r.y=E4 at*
 refine EPt.ext (h.canc (h.mul_ne nD (h.mul_ne m5 m7)) (by grind)) (h.canc (h.mul_ne nD (h.mul_ne m6 m8)) (by grind))
noncomputable def smul {d i:Fin n}(h:EdC n d i)(p:EPt d):Nat->EPt d
 |0=> .zero d
 |k+1=>(smul h p k).add h p
theorem sH{d i:Fin n}(h:EdC n d i)(p:EPt d)(a:Nat): ∀b,smul h p (a+b)=(smul h p a).add h (smul h p b)
 |0=>(add_zero h _).symm
 |b+1=>by
  show(smul h p (a+b)).add h p=_
  rw[sH h p a b,add_assoc]
  rfl
theorem Wo{d i:Fin n}(h:EdC n d i): ∀k,smul h (.zero d) k= .zero d
 |0=>rfl
 |k+1=>by rw[smul,Wo h k,add_zero]
theorem bf{d i:Fin n}(h:EdC n d i)(p:EPt d)(a:Nat): ∀b,smul h p (a*b)=smul h (smul h p a) b
 |0=>rfl
 |b+1=>by rw[Nat.mul_succ,sH,bf h p a b];rfl
theorem Jn{d i:Fin n}(h:EdC n d i)(p:EPt d)(a:Nat):smul h p (2*a)=(smul h p a).add h (smul h p a):=by
 rw[Nat.two_mul,sH]
end
structure Gen (n g:Nat):Prop where
 lt:1<n
 one:g^(n-1)%n=1
 all: ∀x,x%n≠0->∃k,g^k%n=x%n
theorem HX{n:Nat}(g f:Nat)(l:List Nat)(hf:n<2^f)(hl: ∀q∈l,xm q)(h:chk n g f l=true):Gen n g:=by
 simp only[chk,bB,Nat.ble_eq,List.all_eq_true,Bool.not_eq_true']at h
 obtain⟨⟨⟨a,b⟩,c⟩,d⟩:=h
 have b:=bI b
 have c:=bI c
 rw[nP g n f _ (by omega)]at c
 refine⟨by omega,c,V9 n g l (by omega) hl b c λq hq e=>?_⟩
 have d:=d q hq
 rw[nP g n f _ (by have:=Nat.div_le_self (n-1) q;omega),e]at d
 exact absurd d (by decide)
theorem Gen.fermat{n g:Nat}(h:Gen n g){x:Nat}(hx:x%n≠0):x^(n-1)%n=1:=by
 obtain⟨k,hk⟩:=h.all x hx
 rw[Nat.pow_mod,<-hk,<-Nat.pow_mod,<-Nat.pow_mul,Nat.mul_comm,ru (by rw[h.one,bS h.lt]),bS h.lt]
theorem Gen.dom{n g:Nat}(h:Gen n g){a b:Nat}(e:a*b%n=0):a%n=0\/b%n=0:=by
 by_cases ha:a%n=0
 ·exact .inl ha
 by_cases hb:b%n=0
 ·exact .inr hb
 exfalso
 have e1:=h.fermat ha
 have e2:=h.fermat hb
 have e3:(a*b)^(n-1)%n=0:=by
  rw[Nat.pow_mod,e,Nat.zero_pow (by have:=h.lt;omega)]
  exact Nat.zero_mod n
 rw[Nat.mul_pow,Nat.mul_mod,e1,e2,bS (by have:=h.lt;omega)]at e3
 omega
theorem Gen.ns{n g:Nat}(h:Gen n g){d s t:Nat}(h2:(n-1)/2*2=n-1)(hd:d^((n-1)/2)%n=n-1)(hn:2<n)(e:s*s%n=d*(t*t)%n):t%n=0:=by
 refine Decidable.byContradiction λht=>?_
 have d0:d%n≠0:=by
  intro x
  rw[Nat.pow_mod,x,Nat.zero_pow (by omega),Nat.zero_mod]at hd
  omega
 have e1:(s*s)^((n-1)/2)%n=(d*(t*t))^((n-1)/2)%n:=by rw[Nat.pow_mod,e,<-Nat.pow_mod]
 rw[Nat.mul_pow d,<-Nat.pow_two,<-Nat.pow_two,<-Nat.pow_mul,<-Nat.pow_mul,Nat.mul_comm 2,h2,Nat.mul_mod,hd,h.fermat ht,cL,bS (show n-1<n by omega)]at e1
 by_cases hs:s%n=0
 ·rw[Nat.pow_mod,hs,Nat.zero_pow (by omega),Nat.zero_mod]at e1
  omega
 ·rw[h.fermat hs]at e1
  omega
section
variable {n:Nat} [NeZero n]
theorem Yz{a:Fin n}:a=0↔a.val=0:=by
 constructor
 ·rintro rfl;rfl
 ·intro h;exact Fin.ext (by rw[h];rfl)
theorem Gen.fld{g:Nat}(h:Gen n g)(hn:2<n):Fld n:=by
 have ml: ∀a:Fin n,a.val%n=a.val:=λa=>bS a.isLt
 refine⟨λa b e=>?_,λa ha=>?_,λe=>?_⟩
 ·have e:(a*b).val=0:=Yz.1 e
  rw[Fin.val_mul]at e
  rcases h.dom e with x |x<;>rw[ml]at x
  ·exact .inl (Yz.2 x)
  ·exact .inr (Yz.2 x)
 ·have e:=h.fermat (x:=a.val) (by rw[ml];exactλx=>ha (Yz.2 x))
  refine⟨Fin.ofNat n (a.val^(n-2)),Fin.ext ?_⟩
  rw[Fin.val_mul]
  show a.val*(a.val^(n-2)%n)%n=1%n
  rw[Nat.mul_mod_mod,Nat.mul_comm,<-Nat.pow_succ,show(n-2).succ=n-1 by omega,e,bS (by omega)]
 ·have e:(2:Fin n).val=0:=Yz.1 e
  have:(2:Fin n).val=2%n:=rfl
  rw[this,bS hn]at e
  omega
theorem Gen.edc{g:Nat}(h:Gen n g)(hn:2<n)(h2:(n-1)/2*2=n-1)(d i:Nat)(hd:d^((n-1)/2)%n=n-1)(hi:i*i%n=n-1):EdC n (Fin.ofNat n d) (Fin.ofNat n i):=by
 refine⟨h.fld hn,Fin.ext ?_,λs t e=>?_⟩
 ·have e1:(-1:Fin n).val=(n-1%n)%n:=rfl
  rw[e1,Fin.val_mul]
  show(i%n)*(i%n)%n=_
  rw[<-Nat.mul_mod,hi,bS (show 1<n by omega),bS (by omega)]
 ·have e:=cR Fin.val e
  rw[Fin.val_mul,Fin.val_mul,Fin.val_mul]at e
  have e:s.val*s.val%n=(d%n)*(t.val*t.val%n)%n:=e
  rw[<-Nat.mul_mod]at e
  have:=h.ns h2 hd hn e
  rw[bS t.isLt]at this
  exact Yz.2 this
end
def pC:Nat:=57896044618658097711785492504343953926634992332820282019728792003956564819949
instance :NeZero pC:=⟨by decide+kernel⟩
def dN:Nat:=37095705934669439343138083508754565189542113879843219016388785533085940283555
def iC:Nat:=19681161376707505956807079304988542015446066515923890162744021073123829784752
theorem genC:Gen pC 2:=HX 2 255 [2,2,3,65147,74058212732561358302231226437062788676166966415465897661863160754340907] (by decide+kernel) (all_cons yx (all_cons yx (all_cons xp (all_cons BA (all_cons C0 (all_nil)))))) (by decide+kernel)
theorem MA(n f d e r:Nat)(h:e<2^f)(hr:dY d n f e=r):d^e%n=r:=by rw[<-nP d n f e h,hr]
theorem edC:EdC pC (Fin.ofNat pC dN) (Fin.ofNat pC iC):=genC.edc (by decide+kernel) (by decide+kernel) dN iC (MA _ 255 _ _ _ (by decide+kernel) (by decide+kernel)) (by decide+kernel)
section
variable {n:Nat} [NeZero n]
structure Rep4 {d:Fin n} (x y z t:Fin n) (p:EPt d):Prop where
 ne:z≠0
 hx:x=p.x*z
 hy:y=p.y*z
 ht:t=p.x*p.y*z
theorem Ti{d i:Fin n}(h:EdC n d i){p q:EPt d}{x1 y1 z1 t1 x2 y2 z2 t2:Fin n}(r1:Rep4 x1 y1 z1 t1 p)(r2:Rep4 x2 y2 z2 t2 q){a b c e:Fin n}(ha:a=(y1-x1)*(y2-x2))(hb:b=(y1+x1)*(y2+x2))(hc:c=t1*(d+d)*t2)(he:e=(z1+z1)*z2):
  Rep4 ((b-a)*(e-c)) ((e+c)*(b+a)) ((e-c)*(e+c)) ((b-a)*(b+a)) (p.add h q):=by
 have ax:=jm h p q
 have ay:=jo h p q
 have n1:=Qm h p q
 have n2:=Qo h p q
 generalize p.add h q=s at*
 obtain⟨ne1,rfl,rfl,rfl⟩:=r1
 obtain⟨ne2,rfl,rfl,rfl⟩:=r2
 have zz:(2:Fin n)*(z1*z2)≠0:=h.mul_ne h.two (h.mul_ne ne1 ne2)
 have f1:b-a=2*(z1*z2)*(p.x*q.y+q.x*p.y):=by rw[ha,hb];clear ax ay n1 n2 zz;grind
 have i1:b+a=2*(z1*z2)*(p.y*q.y+p.x*q.x):=by rw[ha,hb];clear ax ay n1 n2 zz;grind
 have g1:e-c=2*(z1*z2)*(1-d*p.x*q.x*p.y*q.y):=by rw[he,hc];clear ax ay n1 n2 zz f1 i1 ha hb;grind
 have h1:e+c=2*(z1*z2)*(1+d*p.x*q.x*p.y*q.y):=by rw[he,hc];clear ax ay n1 n2 zz f1 i1 ha hb;grind
 rw[f1,i1,g1,h1,<-ax,<-ay]
 generalize d*p.x*q.x*p.y*q.y=m at*
 generalize 2*(z1*z2)=w at*
 clear f1 i1 g1 h1 ha hb hc he ax ay
 refine⟨h.mul_ne (h.mul_ne zz n2) (h.mul_ne zz n1),?_,?_,?_⟩<;>clear n1 n2 zz<;>grind
theorem Wj(d:Fin n)(h1:(1:Fin n)≠0):Rep4 0 1 1 0 (EPt.zero d):=⟨h1,by simp only[EPt.zero];grind,by simp only[EPt.zero];grind,by simp only[EPt.zero];grind⟩
theorem Fm{d i:Fin n}(h:EdC n d i){p:EPt d}{x y z t:Fin n}(r:Rep4 x y z t p)(hx:x=0)(hy:y=z):p= .zero d:=by
 refine EPt.ext ?_ ?_
 ·have:=r.hx
  rw[hx]at this
  rcases h.dom _ _ this.symm with c |c
  ·exact c
  ·exact absurd c r.ne
 ·refine h.canc r.ne ?_
  have:=r.hy
  rw[hy]at this
  simp only[EPt.zero]
  clear hx hy
  grind
structure Q4 where
 x:Nat
 y:Nat
 z:Nat
 t:Nat
def Q4.k(q:Q4){α:Type}(f:Nat->Nat->Nat->Nat->α):α:=f q.x q.y q.z q.t
def PO(m dd x1 y1 z1 t1 x2 y2 z2 t2:Nat):Q4:=
 let a:=(y1+(m-x1))*(y2+(m-x2))%m
 let b:=(y1+x1)*(y2+x2)%m
 let c:=t1*dd%m*t2%m
 let e:=(z1+z1)*z2%m
 let f:=b+(m-a)
 let g:=e+(m-c)
 let h:=e+c
 let i:=b+a
 ⟨f*g%m,h*i%m,g*h%m,f*i%m⟩
structure QR {d:Fin n} (q:Q4) (p:EPt d):Prop where
 rep:Rep4 (Fin.ofNat n q.x) (Fin.ofNat n q.y) (Fin.ofNat n q.z) (Fin.ofNat n q.t) p
 lx:q.x<n
 ly:q.y<n
 lz:q.z<n
 lt:q.t<n
theorem mz(a b:Nat):Fin.ofNat n (a+b)=Fin.ofNat n a+Fin.ofNat n b:=by
 apply Fin.ext
 rw[Fin.val_add]
 show(a+b)%n=(a%n+b%n)%n
 rw[<-Nat.add_mod]
theorem tH(a b:Nat):Fin.ofNat n (a*b)=Fin.ofNat n a*Fin.ofNat n b:=by
 apply Fin.ext
 rw[Fin.val_mul]
 show(a*b)%n=(a%n*(b%n))%n
 rw[<-Nat.mul_mod]
theorem ZH(a:Nat):Fin.ofNat n (a%n)=Fin.ofNat n a:=Fin.ext (Nat.mod_mod _ _)
theorem Fb:Fin.ofNat n n=0:=Fin.ext (by show n%n=0;exact Nat.mod_self n)
theorem UJ{a b:Nat}(h:b<=n):Fin.ofNat n (a+(n-b))=Fin.ofNat n a-Fin.ofNat n b:=by
 have e:=mz (n:=n) b (n-b)
 rw[show b+(n-b)=n by omega,Fb]at e
 rw[mz]
 generalize Fin.ofNat n b=u at*
 generalize Fin.ofNat n (n-b)=v at*
 generalize Fin.ofNat n a=w at*
 grind
theorem R8{d i:Fin n}(h:EdC n d i){a b:Q4}{p q:EPt d}{dd:Nat}(hd:Fin.ofNat n dd=d+d)(ra:QR a p)(rb:QR b q):QR (PO n dd a.x a.y a.z a.t b.x b.y b.z b.t) (p.add h q):=by
 have n0:0<n:=Nat.pos_of_ne_zero (NeZero.ne n)
 have ml: ∀k,k%n<=n:=λk=>Nat.le_of_lt (Nat.mod_lt _ n0)
 refine⟨?_,Nat.mod_lt _ n0,Nat.mod_lt _ n0,Nat.mod_lt _ n0,Nat.mod_lt _ n0⟩
 have:=Ti h ra.rep rb.rep rfl rfl rfl rfl
 have hx1:=Nat.le_of_lt ra.lx
 have hx2:=Nat.le_of_lt rb.lx
 simp only[PO,ZH,tH,mz,UJ hx1,UJ hx2,UJ (ml _),hd]
 exact this
def PP(m dd:Nat)(q:Q4):Nat->Nat->Q4
 |0,_=>⟨0,1,1,0⟩
 |f+1,e=>
  if e=0 then⟨0,1,1,0⟩else
  (PP m dd q f (e/2)).k λx y z t=>(PO m dd x y z t x y z t).k λx y z t=>
   if e%2=1 then PO m dd x y z t q.x q.y q.z q.t else⟨x,y,z,t⟩
theorem R9{d i:Fin n}(h:EdC n d i){q:Q4}{p:EPt d}{dd:Nat}(hd:Fin.ofNat n dd=d+d)(h1:1<n)(r:QR q p): ∀f e,e<2^f->QR (PP n dd q f e) (smul h p e)
 |0,e,he=>by
  have:e=0:=by omega
  subst this
  have o:(1:Fin n)≠0:=λx=>by have:=cR Fin.val x;have e1:(1:Fin n).val=1%n:=rfl;rw[e1,bS h1]at this;exact absurd this (by simp)
  exact⟨Wj d o,by show 0<n;omega,h1,h1,by show 0<n;omega⟩
 |f+1,e,he=>by
  rw[PP]
  split
  ·next e0=>
   subst e0
   have o:(1:Fin n)≠0:=λx=>by have:=cR Fin.val x;have e1:(1:Fin n).val=1%n:=rfl;rw[e1,bS h1]at this;exact absurd this (by simp)
   exact⟨Wj d o,by show 0<n;omega,h1,h1,by show 0<n;omega⟩
  ·have ih:=R9 h hd h1 r f (e/2) (by rw[Nat.pow_succ]at he;omega)
   have d1:=R8 h hd ih ih
   rw[<-sH]at d1
   show QR (if e%2=1 then _ else _) _
   split
   ·next e1=>
    have:=R8 h hd d1 r
    have e2:e=e/2+e/2+1:=by omega
    have e3:smul h p e=(smul h p (e/2+e/2)).add h p:=(cR (smul h p) e2).trans rfl
    rw[e3]
    exact this
   ·have e2:e=e/2+e/2:=by omega
    rw[e2]
    rw[show(e/2+e/2)/2=e/2 by omega]
    exact d1
end
def Ec:Nat:=(dN+dN)%pC
def xB:Nat:=15112221349535400772501151409588531511454012693041857206046113283949847762202
def yB:Nat:=46316835694926478169428394003475163141307993866256225615783033603165251855960
def lC:Nat:=7237005577332262213973186563042994240857116359379907606001950938285454250989
def qB:Q4:=⟨xB,yB,1,xB*yB%pC⟩
theorem DB{n:Nat}[NeZero n](d x y:Nat)(h:y*y%n=(1+x*x+d*(x*x)*(y*y))%n):On (Fin.ofNat n d) (Fin.ofNat n x) (Fin.ofNat n y):=by
 have e:=cR (Fin.ofNat n) h
 rw[ZH,ZH]at e
 simp only[tH,mz]at e
 exact e
def bP:EPt (Fin.ofNat pC dN):=⟨Fin.ofNat pC xB,Fin.ofNat pC yB,DB dN xB yB (by decide+kernel)⟩
theorem BB:QR qB bP:=⟨⟨(λx=>absurd (cR Fin.val x) (by decide+kernel)),Fin.ext (by decide+kernel),Fin.ext (by decide+kernel),Fin.ext (by decide+kernel)⟩,by decide+kernel,by decide+kernel,by decide+kernel,by decide+kernel⟩
theorem Mv:(let q:=PP pC Ec qB 253 lC;Nat.beq q.x 0&&Nat.beq q.y q.z)=true:=by decide+kernel
theorem Lr:smul edC bP lC= .zero _:=by
 have h:=Mv
 have r:=R9 edC (dd:=Ec) (by rw[Ec,ZH,mz]) (by decide+kernel) BB 253 lC (by decide+kernel)
 simp only[bB]at h
 have hx:=bI h.1
 have hy:=bI h.2
 exact Fm edC r.rep (by rw[hx];rfl) (by rw[hy])
end Go.Proofs.YtkegaaonpekkgaaGreat.Sx
