import Derived.Test.YtpdllgbfemnemaaGreatZKt
namespace Go.Proofs.YtpdllgbfemnemaaGreat.Sx
open Go.RowKit
section
def inR(h k:Nat)(x:Int):Prop:=((k*2^(h+1):Nat):Int)<=x/\x+2<=((k*2^(h+1)+2^(h+1):Nat):Int)
theorem zwo(k h:Nat):2*k*2^(h+1)=k*2^(h+1+1):=by rw[Nat.pow_succ 2 (h+1),Nat.mul_comm 2 k,Nat.mul_assoc,Nat.mul_comm 2]
theorem z1f(k h:Nat):(2*k+1)*2^(h+1)=k*2^(h+1+1)+2^(h+1):=by rw[Nat.add_mul,zwo,Nat.one_mul]
theorem za9(h k:Nat):inR h k (nd h k):=by
 have hp:=zag h
 unfold inR nd
 rw[Nat.pow_succ 2 h]
 generalize k*(2^h*2)=q
 omega
theorem zbs{h k:Nat}{x:Int}(hx:inR h (2*k) x):inR (h+1) k x/\x< (nd (h+1) k:Int):=by
 unfold inR nd at*
 rw[zwo]at hx
 have hp:=zag (h+1)
 rw[Nat.pow_succ 2 (h+1)]at*
 generalize k*(2^(h+1)*2)=q at*
 omega
theorem zbv{h k:Nat}{x:Int}(hx:inR h (2*k+1) x):inR (h+1) k x/\(nd (h+1) k:Int)<x:=by
 unfold inR nd at*
 rw[z1f]at hx
 have hp:=zag (h+1)
 rw[Nat.pow_succ 2 (h+1)]at*
 generalize k*(2^(h+1)*2)=q at*
 omega
theorem ziz{h k:Nat}{x:Int}(hx:inR h k x):0<=x:=by unfold inR at hx;omega
structure Sh (O:List Spot) (h k:Nat) (A B:List Int):Prop where
 ra: ∀x∈A,inR h k x
 rb: ∀x∈B,inR h k x
 pa:A.Pairwise (· < ·)
 pb:B.Pairwise (· < ·)
 dj: ∀x∈A,x∉B
 kids: ∀x∈A,(zae O x).isSome=true->(0<=zbj x->zbj x∈A\/zbj x∈B)/\(0<=zbi x->zbi x∈A\/zbi x∈B)
 back: ∀y∈B,y=(nd h k:Int)\/∃x∈A,zbj x=y\/zbi x=y
 root:(nd h k:Int)∈A\/(nd h k:Int)∈B
theorem Sh.join{O:List Spot}{h k:Nat}{A1 B1 A2 B2:List Int}(hh:h+1<=16)(hk:k<2^(16-(h+1)))(h1:Sh O h (2*k) A1 B1)(h2:Sh O h (2*k+1) A2 B2):
  Sh O (h+1) k (A1++[(nd (h+1) k:Int)]++A2) (B1++B2):=by
 have hl:=zdk (d:=16) (by omega) hh hk
 have hr:=zc7 (d:=16) (by omega) hh hk
 have mA: ∀x,x∈A1++[(nd (h+1) k:Int)]++A2↔(x∈A1\/x=(nd (h+1) k:Int))\/x∈A2:=λx=>by simp only[List.mem_append,List.mem_cons,List.not_mem_nil,or_false]
 have mB: ∀x,x∈B1++B2↔x∈B1\/x∈B2:=λx=>by simp
 refine⟨λx hx=>?_,λx hx=>?_,?_,?_,λx hx hb=>?_,λx hx hf=>?_,λy hy=>?_, .inl ((mA _).2 (.inl (.inr rfl)))⟩
 ·rcases(mA x).1 hx with(hx |rfl) |hx
  ·exact(zbs (h1.ra x hx)).1
  ·exact za9 _ _
  ·exact(zbv (h2.ra x hx)).1
 ·rcases(mB x).1 hx with hx |hx
  ·exact(zbs (h1.rb x hx)).1
  ·exact(zbv (h2.rb x hx)).1
 ·rw[List.pairwise_append,List.pairwise_append]
  refine⟨⟨h1.pa,by simp,λx hx y hy=>?_⟩,h2.pa,λx hx y hy=>?_⟩
  ·simp at hy;subst hy;exact(zbs (h1.ra x hx)).2
  ·have hy2:=(zbv (h2.ra y hy)).2
   rcases List.mem_append.1 hx with hx |hx
   ·have:=(zbs (h1.ra x hx)).2;omega
   ·simp at hx;subst hx;exact hy2
 ·rw[List.pairwise_append]
  exact⟨h1.pb,h2.pb,λx hx y hy=>by
   have:=(zbs (h1.rb x hx)).2
   have:=(zbv (h2.rb y hy)).2
   omega⟩
 ·rcases(mA x).1 hx with(hx |rfl) |hx<;>rcases(mB _).1 hb with hb |hb
  ·exact h1.dj x hx hb
  ·have:=(zbs (h1.ra x hx)).2;have:=(zbv (h2.rb x hb)).2;omega
  ·have:=(zbs (h1.rb _ hb)).2;omega
  ·have:=(zbv (h2.rb _ hb)).2;omega
  ·have:=(zbv (h2.ra x hx)).2;have:=(zbs (h1.rb x hb)).2;omega
  ·exact h2.dj x hx hb
 ·have up: ∀{c:Int} {A B:List Int},(∀z∈A,z∈A1++[(nd (h+1) k:Int)]++A2)->(∀z∈B,z∈B1++B2)->(c∈A\/c∈B)->c∈A1++[(nd (h+1) k:Int)]++A2\/c∈B1++B2:=λha hb hc=>hc.imp (ha _) (hb _)
  have u1a: ∀z∈A1,z∈A1++[(nd (h+1) k:Int)]++A2:=λz hz=>(mA z).2 (.inl (.inl hz))
  have u2a: ∀z∈A2,z∈A1++[(nd (h+1) k:Int)]++A2:=λz hz=>(mA z).2 (.inr hz)
  have u1b: ∀z∈B1,z∈B1++B2:=λz hz=>(mB z).2 (.inl hz)
  have u2b: ∀z∈B2,z∈B1++B2:=λz hz=>(mB z).2 (.inr hz)
  rcases(mA x).1 hx with(hx |rfl) |hx
  ·exact⟨λh0=>up u1a u1b ((h1.kids x hx hf).1 h0),λh0=>up u1a u1b ((h1.kids x hx hf).2 h0)⟩
  ·rw[hl,hr]
   exact⟨λ_=>up u1a u1b h1.root,λ_=>up u2a u2b h2.root⟩
  ·exact⟨λh0=>up u2a u2b ((h2.kids x hx hf).1 h0),λh0=>up u2a u2b ((h2.kids x hx hf).2 h0)⟩
 ·right
  rcases(mB y).1 hy with hy |hy
  ·rcases h1.back y hy with rfl |⟨x,hx,e⟩
   ·exact⟨_,(mA _).2 (.inl (.inr rfl)), .inl hl⟩
   ·exact⟨x,(mA x).2 (.inl (.inl hx)),e⟩
  ·rcases h2.back y hy with rfl |⟨x,hx,e⟩
   ·exact⟨_,(mA _).2 (.inl (.inr rfl)), .inr hr⟩
   ·exact⟨x,(mA x).2 (.inr hx),e⟩
theorem mem1{x y:Int}(h:x∈[y]):x=y:=by simpa using h
theorem Sh.stub(O:List Spot)(h k:Nat):Sh O h k [] [(nd h k:Int)]where
 ra:=by simp
 rb:=λx hx=>by rw[mem1 hx];exact za9 h k
 pa:=by simp
 pb:=by simp
 dj:=by simp
 kids:=by simp
 back:=λy hy=> .inl (mem1 hy)
 root:= .inr (by simp)
theorem Sh.miss{O:List Spot}{h k:Nat}(hx:zae O (nd h k)=none):Sh O h k [(nd h k:Int)] []where
 ra:=λx hx=>by rw[mem1 hx];exact za9 h k
 rb:=by simp
 pa:=by simp
 pb:=by simp
 dj:=by simp
 kids:=λx hm hf=>by rw[mem1 hm,hx]at hf;cases hf
 back:=by simp
 root:= .inl (by simp)
theorem Sh.leaf(O:List Spot){k:Nat}(hk:k<65536):Sh O 0 k [(nd 0 k:Int)] []where
 ra:=λx hx=>by rw[mem1 hx];exact za9 0 k
 rb:=by simp
 pa:=by simp
 pb:=by simp
 dj:=by simp
 kids:=λx hm _=>by
  have h1:=znj (d:=16) (by omega) (show k<2^16 from hk)
  rw[mem1 hm,h1.1,h1.2]
  exact⟨λh=>by omega,λh=>by omega⟩
 back:=by simp
 root:= .inl (by simp)
def kidS(p:Nat->Bool->List Int->List Int×List Int)(h:Nat)(all:Bool)(late:List Int)(j:Nat):List Int×List Int:=
 if all then p j true []else if late.any (λu=>zal (2*u) (nd h j))then p j false late else([],[(nd h j:Int)])
def shP(O:List Spot):Nat->Nat->Bool->List Int->List Int×List Int
 |0,k,_,_=>([(nd 0 k:Int)],[])
 |h+1,k,whole,late=>match zae O (nd (h+1) k)with
  |none=>([(nd (h+1) k:Int)],[])
  |some n=>
   let a:=kidS (λj w l=>shP O h j w l) h (whole&&decide (n.kind.toNat=0)) (if whole then n.par.late else late) (2*k)
   let b:=kidS (λj w l=>shP O h j w l) h (whole&&decide (n.kind.toNat=0)) (if whole then n.par.late else late) (2*k+1)
   (a.1++[(nd (h+1) k:Int)]++b.1,a.2++b.2)
theorem zqr{h k:Nat}(hh:h+1<=16)(hk:k<2^(16-(h+1))):2*k+1<2^(16-h):=by
 have:2^(16-h)=2*2^(16-(h+1)):=by rw[show 16-h=(16-(h+1))+1 by omega,Nat.pow_succ];omega
 omega
theorem zu0(O:List Spot): ∀(h k:Nat) (w:Bool) (l:List Int),h<=16->k<2^(16-h)->Sh O h k (shP O h k w l).1 (shP O h k w l).2
 |0,k,w,l,_,hk=>Sh.leaf O (by simpa using hk)
 |h+1,k,w,l,hh,hk=>by
  have hk2:=zqr hh hk
  have kid: ∀all late j,j<2^(16-h)->Sh O h j (kidS (λj w l=>shP O h j w l) h all late j).1 (kidS (λj w l=>shP O h j w l) h all late j).2:=λall late j hj=>by
   unfold kidS
   split
   ·exact zu0 O h j true [] (by omega) hj
   ·split
    ·exact zu0 O h j false late (by omega) hj
    ·exact Sh.stub O h j
  unfold shP
  cases hf:zae O (nd (h+1) k)with
  |none=>exact Sh.miss hf
  |some n=>exact Sh.join hh hk (kid _ _ (2*k) (by omega)) (kid _ _ (2*k+1) hk2)
def zcn(H:List Stub)(x:Int):Bool:=match zcc H x with
 |some h=>decide (h.length=32)
 |none=>false
theorem z0m(H:List Stub)(x:Int):zfu H x=if zcn H x then 1 else zbh:=by
 unfold zfu zcn
 cases zcc H x with
 |none=>simp
 |some h=>by_cases e:h.length=32<;>simp[e]
def okO(O:List Spot)(x:Int):Bool:=match zae O x with
 |some n=>za2 x n
 |none=>false
theorem ztn(O:List Spot)(H:List Stub): ∀(h k:Nat) (w:Bool) (l:List Int),
  ((shP O h k w l).1.length+(shP O h k w l).2.length<=2^(h+1)-1)/\
  (if(shP O h k w l).1.all (okO O)&&(shP O h k w l).2.all (zcn H)then zbp O H h k w l=((shP O h k w l).1.length+(shP O h k w l).2.length:Nat)else zbp O H h k w l<=zbh+2^(h+1)-1)
 |0,k,w,l=>by
  unfold shP zbp
  simp only[List.all_cons,List.all_nil,Bool.and_true,okO]
  cases zae O (nd 0 k)with
  |none=>simp[zbh]
  |some n=>cases hfp:za2 (nd 0 k) n<;>simp[zbh,hfp]
 |h+1,k,w,l=>by
  have hp:=zag h
  have e1:2^(h+1+1)=4*2^h:=by rw[Nat.pow_succ,Nat.pow_succ];omega
  have e2:2^(h+1)=2*2^h:=by rw[Nat.pow_succ];omega
  have e1':(2:Int)^(h+1+1)=((2^(h+1+1):Nat):Int):=by simp
  have e2':(2:Int)^(h+1)=((2^(h+1):Nat):Int):=by simp
  unfold shP zbp
  cases hf:zae O (nd (h+1) k)with
  |none=>simp only[List.all_cons,List.all_nil,Bool.and_true,okO,hf];simp[zbh];omega
  |some n=>
   have kid: ∀all late j,((kidS (λj w l=>shP O h j w l) h all late j).1.length+(kidS (λj w l=>shP O h j w l) h all late j).2.length<=2^(h+1)-1)/\
     (if(kidS (λj w l=>shP O h j w l) h all late j).1.all (okO O)&&(kidS (λj w l=>shP O h j w l) h all late j).2.all (zcn H)then kidP H (λj w l=>zbp O H h j w l) h all late j=((kidS (λj w l=>shP O h j w l) h all late j).1.length+(kidS (λj w l=>shP O h j w l) h all late j).2.length:Nat)else kidP H (λj w l=>zbp O H h j w l) h all late j<=zbh+2^(h+1)-1):=λall late j=>by
    unfold kidS kidP
    split
    ·exact ztn O H h j true []
    ·split
     ·exact ztn O H h j false late
     ·refine⟨by simp;omega,?_⟩
      rw[z0m]
      simp only[List.all_nil,List.all_cons,Bool.and_true,Bool.true_and]
      split
      ·simp
      ·rw[e2'];simp only[zbh];omega
   have k1:=kid (w&&decide (n.kind.toNat=0)) (if w then n.par.late else l) (2*k)
   have k2:=kid (w&&decide (n.kind.toNat=0)) (if w then n.par.late else l) (2*k+1)
   have b1:=znp (ziy O H h) (w&&decide (n.kind.toNat=0)) (if w then n.par.late else l) (2*k)
   have b2:=znp (ziy O H h) (w&&decide (n.kind.toNat=0)) (if w then n.par.late else l) (2*k+1)
   simp only
   generalize kidS (λj w l=>shP O h j w l) h (w&&decide (n.kind.toNat=0)) (if w then n.par.late else l) (2*k)=s1 at*
   generalize kidS (λj w l=>shP O h j w l) h (w&&decide (n.kind.toNat=0)) (if w then n.par.late else l) (2*k+1)=s2 at*
   generalize kidP H (λj w l=>zbp O H h j w l) h (w&&decide (n.kind.toNat=0)) (if w then n.par.late else l) (2*k)=p1 at*
   generalize kidP H (λj w l=>zbp O H h j w l) h (w&&decide (n.kind.toNat=0)) (if w then n.par.late else l) (2*k+1)=p2 at*
   have hall:((s1.1++[(nd (h+1) k:Int)]++s2.1).all (okO O)&&(s1.2++s2.2).all (zcn H))=(za2 (nd (h+1) k) n&&((s1.1.all (okO O)&&s1.2.all (zcn H))&&(s2.1.all (okO O)&&s2.2.all (zcn H)))):=by
    simp only[List.all_append,List.all_cons,List.all_nil,Bool.and_true,okO,hf]
    cases s1.1.all (okO O)<;>cases s1.2.all (zcn H)<;>cases s2.1.all (okO O)<;>cases s2.2.all (zcn H)<;>cases za2 (nd (h+1) k) n<;>rfl
   rw[hall]
   have hlen:(s1.1++[(nd (h+1) k:Int)]++s2.1).length+(s1.2++s2.2).length=1+(s1.1.length+s1.2.length)+(s2.1.length+s2.2.length):=by simp;omega
   rw[hlen]
   refine⟨by omega,?_⟩
   cases hfp:za2 (nd (h+1) k) n with
   |false=>simp only[Bool.false_and,Bool.false_eq_true,if_false,zbh];omega
   |true=>
    simp only[Bool.true_and,if_true]
    cases hb1:(s1.1.all (okO O)&&s1.2.all (zcn H))<;>cases hb2:(s2.1.all (okO O)&&s2.2.all (zcn H))<;>simp only[hb1,hb2,Bool.false_eq_true,if_false,if_true,Bool.and_true,Bool.and_false,Bool.true_and,Bool.false_and]at* <;>simp only[zbh]at* <;>omega
end
section
theorem zgg{i j h k:Nat}:inR h k (nd i j)↔i<=h/\j/2^(h-i)=k:=by
 constructor
 ·intro hr
  have hih:i<=h:=by
   rcases Nat.lt_or_ge h i with hlt |hge
   ·exfalso
    obtain⟨e,rfl⟩: ∃e,i=h+1+e:=⟨i-(h+1),by omega⟩
    unfold inR nd at hr
    have e1:2^(h+1+e)=2^(h+1)*2^e:=Nat.pow_add ..
    have e2:j*2^(h+1+e+1)=2^(h+1)*(j*(2^e*2)):=by rw[Nat.pow_succ 2 (h+1+e),e1,Nat.mul_assoc,Nat.mul_left_comm]
    have e3:k*2^(h+1)=2^(h+1)*k:=Nat.mul_comm ..
    rw[e1,e2,e3]at hr
    have hp:=zag (h+1)
    have hq:=zag e
    generalize 2^(h+1)=q at*
    generalize j*(2^e*2)=r at*
    generalize 2^e=t at*
    have hle1:q*k<=q*r+q*t-1:=by
     have:0<q*t:=Nat.mul_pos hp hq
     omega
    have h1:q*k+1<=q*(r+t):=by rw[Nat.mul_add];have:0<q*t:=Nat.mul_pos hp hq;omega
    have h2:q*(r+t)+1<=q*k+q:=by rw[Nat.mul_add];omega
    have h3:k<r+t:=by
     rcases Nat.lt_or_ge k (r+t)with h |h
     ·exact h
     ·have:=Nat.mul_le_mul_left q h;omega
    have h4:r+t<k+1:=by
     rcases Nat.lt_or_ge (r+t) (k+1)with h |h
     ·exact h
     ·have:=Nat.mul_le_mul_left q h;rw[Nat.mul_add q k 1,Nat.mul_one]at this;omega
    omega
   ·exact hge
  refine⟨hih,?_⟩
  have hn:=z7e i j (h-i)
  rw[show i+(h-i)+1=h+1 by omega]at hn
  unfold inR at hr
  have hp:=zag (h+1)
  generalize j/2^(h-i)=k' at*
  have e: ∀a b:Nat,a*2^(h+1)+1<=b*2^(h+1)+2^(h+1)->a<=b:=λa b hab=>by
   rcases Nat.lt_or_ge b a with hba |hba
   ·have:=Nat.mul_le_mul_right (2^(h+1)) (show b+1<=a from hba)
    rw[Nat.add_mul,Nat.one_mul]at this
    omega
   ·exact hba
  have a1:=e k' k (by omega)
  have a2:=e k k' (by omega)
  omega
 ·rintro⟨hih,rfl⟩
  have hn:=z7e i j (h-i)
  rw[show i+(h-i)+1=h+1 by omega]at hn
  unfold inR
  omega
theorem zfr{x:Int}{d h k:Nat}(hd:d<=16)(hh:h<=d)(hk:k<2^(d-h))(hx:za1 x=true):zal x (nd h k)=true↔inR h k x:=by
 rw[zty hd hh hk hx]
 unfold inR trip
 simp only[Bool.and_eq_true,decide_eq_true_eq]
 have hp:=zag h
 rw[Nat.pow_succ 2 h]
 omega
theorem zwt{u:Int}(h:za6 u): ∃m:Nat,u=m/\m<65536/\2*u=(nd 0 m:Int):=by
 unfold za6 at h
 obtain⟨m,rfl⟩:=Int.eq_ofNat_of_zero_le h.1
 exact⟨m,rfl,by omega,by rw[zd1];omega⟩
theorem zih{h k m:Nat}(hh:h<=16)(hk:k<2^(16-h))(hm:m<65536):zal (2*(m:Int)) (nd h k)=true↔m/2^h=k:=by
 rw[show 2*(m:Int)=(nd 0 m:Int)by rw[zd1];omega,zfr (d:=16) (by omega) hh hk (zcg (d:=16) (by omega) (by omega) (by simpa using hm)),zgg]
 simp
abbrev found(O:List Spot)(z:Int):Bool:=(zae O z).isSome
def Lset(late:List Int)(h k:Nat)(z:Int):Prop:=∃m:Nat,(m:Int)∈late/\m/2^h=k/\∃i,i<=h/\z=(nd i (m/2^i):Int)
theorem zk3{late:List Int}{h k:Nat}{z:Int}:Lset late (h+1) k z↔(z=(nd (h+1) k:Int)/\∃m:Nat,(m:Int)∈late/\m/2^(h+1)=k)\/Lset late h (2*k) z\/Lset late h (2*k+1) z:=by
 have key: ∀m:Nat,m/2^(h+1)=m/2^h/2:=λm=>by rw[Nat.pow_succ,Nat.div_div_eq_div_mul]
 constructor
 ·rintro⟨m,hm,hk,i,hi,rfl⟩
  rcases Nat.eq_or_lt_of_le hi with rfl |hlt
  ·exact .inl ⟨by rw[hk],m,hm,hk⟩
  ·right
   rw[key]at hk
   rcases Nat.mod_two_eq_zero_or_one (m/2^h)with h0 |h0
   ·exact .inl ⟨m,hm,by omega,i,by omega,rfl⟩
   ·exact .inr ⟨m,hm,by omega,i,by omega,rfl⟩
 ·rintro(⟨rfl,m,hm,hk⟩ |⟨m,hm,hk,i,hi,rfl⟩ |⟨m,hm,hk,i,hi,rfl⟩)
  ·exact⟨m,hm,hk,h+1,Nat.le_refl _,by rw[hk]⟩
  ·exact⟨m,hm,by rw[key];omega,i,by omega,rfl⟩
  ·exact⟨m,hm,by rw[key];omega,i,by omega,rfl⟩
theorem zq3{late:List Int}(hl: ∀u∈late,za6 u){h k:Nat}(hh:h<=16)(hk:k<2^(16-h)):late.any (λu=>zal (2*u) (nd h k))=true↔∃m:Nat,(m:Int)∈late/\m/2^h=k:=by
 rw[List.any_eq_true]
 constructor
 ·rintro⟨u,hu,h1⟩
  obtain⟨m,rfl,hm,_⟩:=zwt (hl u hu)
  exact⟨m,hu,(zih hh hk hm).1 h1⟩
 ·rintro⟨m,hm,h1⟩
  have:=hl _ hm
  unfold za6 at this
  exact⟨m,hm,(zih hh hk (by omega)).2 h1⟩
theorem zxe(O:List Spot){late:List Int}(hl: ∀u∈late,za6 u): ∀(h k:Nat),h<=16->k<2^(16-h)->late.any (λu=>zal (2*u) (nd h k))=true->
  ((shP O h k false late).1.all (found O)=true↔∀z,Lset late h k z->found O z=true)/\((shP O h k false late).1.all (found O)=true->∀z,z∈(shP O h k false late).1↔Lset late h k z)
 |0,k,hh,hk,ha=>by
  obtain⟨m,hm,hmk⟩:=(zq3 hl hh hk).1 ha
  have hL: ∀z,Lset late 0 k z↔z=(nd 0 k:Int):=λz=>by
   constructor
   ·rintro⟨m',_,e,i,hi,rfl⟩
    have:i=0:=by omega
    subst this
    rw[e]
   ·rintro rfl
    exact⟨m,hm,hmk,0,Nat.le_refl _,by rw[hmk]⟩
  simp only[hL,shP]
  simp
 |h+1,k,hh,hk,ha=>by
  obtain⟨m,hm,hmk⟩:=(zq3 hl hh hk).1 ha
  have hk2:=zqr hh hk
  have hx:Lset late (h+1) k (nd (h+1) k):=zk3.2 (.inl ⟨rfl,m,hm,hmk⟩)
  unfold shP
  cases hf:zae O (nd (h+1) k)with
  |none=>
   simp only[List.all_cons,List.all_nil,Bool.and_true,found,hf]
   refine⟨⟨λg=>(by cases g),λg=>?_⟩,λg=>(by cases g)⟩
   have:=g _ hx
   simp[found,hf]at this
  |some n=>
   simp only[Bool.false_and,Bool.false_eq_true,if_false]
   have kid: ∀j,j<2^(16-h)->((kidS (λj w l=>shP O h j w l) h false late j).1.all (found O)=true↔∀z,Lset late h j z->found O z=true)/\((kidS (λj w l=>shP O h j w l) h false late j).1.all (found O)=true->∀z,z∈(kidS (λj w l=>shP O h j w l) h false late j).1↔Lset late h j z):=λj hj=>by
    unfold kidS
    simp only[Bool.false_eq_true,if_false]
    split
    ·rename_i hany
     exact zxe O hl h j (by omega) hj hany
    ·rename_i hany
     have hno: ∀z,¬Lset late h j z:=by
      rintro z ⟨m',hm',e,_⟩
      exact hany ((zq3 hl (by omega) hj).2 ⟨m',hm',e⟩)
     simp[hno]
   obtain⟨a1,a2⟩:=kid (2*k) (by omega)
   obtain⟨b1,b2⟩:=kid (2*k+1) hk2
   generalize kidS (λj w l=>shP O h j w l) h false late (2*k)=s1 at*
   generalize kidS (λj w l=>shP O h j w l) h false late (2*k+1)=s2 at*
   have hall:(s1.1++[(nd (h+1) k:Int)]++s2.1).all (found O)=true↔s1.1.all (found O)=true/\s2.1.all (found O)=true:=by
    simp only[List.all_append,List.all_cons,List.all_nil,Bool.and_true,Bool.and_eq_true,found,hf,Option.isSome_some,and_true]
   rw[hall,a1,b1]
   refine⟨⟨λ⟨u,v⟩ z hz=>?_,λhz=>⟨λz h=>hz z (zk3.2 (.inr (.inl h))),λz h=>hz z (zk3.2 (.inr (.inr h)))⟩⟩,λ⟨u,v⟩ z=>?_⟩
   ·rcases zk3.1 hz with⟨rfl,_⟩ |hz |hz
    ·simp[found,hf]
    ·exact u z hz
    ·exact v z hz
   ·have m1:=a2 (a1.2 u) z
    have m2:=b2 (b1.2 v) z
    rw[List.mem_append,List.mem_append,m1,m2,zk3]
    constructor
    ·rintro((h |h) |h)
     ·exact .inr (.inl h)
     ·exact .inl ⟨by simpa using h,m,hm,hmk⟩
     ·exact .inr (.inr h)
    ·rintro(⟨rfl,_⟩ |h |h)
     ·exact .inl (.inr (by simp))
     ·exact .inl (.inl h)
     ·exact .inr h
def Winv(O:List Spot)(x:Int)(a:List Int×Bool):Prop:=a.2=true↔∀z∈a.1,z≠x->found O z=true
theorem z9l{O:List Spot}{x z:Int}{a:List Int×Bool}(h:Winv O x a):Winv O x (zby O x a z):=by
 unfold zby Winv at*
 split
 ·rename_i hc
  simp only[Bool.and_eq_true]
  rw[h]
  constructor
  ·rintro⟨h1,h2⟩ y hy hne
   rcases List.mem_append.1 hy with hy |hy
   ·exact h1 y hy hne
   ·rw[mem1 hy];exact h2
  ·intro h1
   exact⟨λy hy hne=>h1 y (List.mem_append_left _ hy) hne,h1 z (by simp) hc.1⟩
 ·exact h
theorem z7j{O:List Spot}{x z y:Int}{a:List Int×Bool}:y∈(zby O x a z).1↔y∈a.1\/(y=z/\z≠x/\zal z x=true):=by
 unfold zby
 split
 ·rename_i hc
  rw[List.mem_append]
  constructor
  ·rintro(h |h)
   ·exact .inl h
   ·exact .inr ⟨mem1 h,hc.1,hc.2.1⟩
  ·rintro(h |⟨rfl,_⟩)
   ·exact .inl h
   ·exact .inr (by simp)
 ·rename_i hc
  constructor
  ·exact .inl
  ·rintro(h |⟨rfl,h1,h2⟩)
   ·exact h
   ·by_cases hm:y∈a.1
    ·exact hm
    ·exact absurd ⟨h1,h2,hm⟩ hc
theorem zf0b{O:List Spot}{x:Int}: ∀(l:List Int) (a:List Int×Bool),Winv O x a->Winv O x (l.foldl (zby O x) a)/\∀y,y∈(l.foldl (zby O x) a).1↔y∈a.1\/(y∈l/\y≠x/\zal y x=true):=by
 intro l
 induction l with
 |nil=>intro a h;exact⟨h,λy=>by simp⟩
 |cons z l ih=>
  intro a h
  obtain⟨h1,h2⟩:=ih (zby O x a z) (z9l h)
  refine⟨h1,λy=>?_⟩
  rw[List.foldl_cons,h2,z7j,List.mem_cons]
  constructor
  ·rintro((h |⟨rfl,h3⟩) |⟨h3,h4⟩)
   ·exact .inl h
   ·exact .inr ⟨.inl rfl,h3⟩
   ·exact .inr ⟨.inr h3,h4⟩
  ·rintro(h |⟨rfl |h3,h4⟩)
   ·exact .inl (.inl h)
   ·exact .inl (.inr ⟨rfl,h4⟩)
   ·exact .inr ⟨h3,h4⟩
theorem z82{O:List Spot}{x n:Int}: ∀(late:List Int) (a:List Int×Bool),Winv O x a->Winv O x (zd5 O x n late a)/\∀y,y∈(zd5 O x n late a).1↔y∈a.1\/((∃u∈late,y∈upL n u)/\y≠x/\zal y x=true):=by
 intro late
 induction late with
 |nil=>intro a h;exact⟨h,λy=>by simp[zd5]⟩
 |cons u late ih=>
  intro a h
  obtain⟨h1,h2⟩:=zf0b (upL n u) a h
  obtain⟨h3,h4⟩:=ih _ h1
  refine⟨h3,λy=>?_⟩
  have:zd5 O x n (u::late) a=zd5 O x n late ((upL n u).foldl (zby O x) a):=rfl
  rw[this,h4,h2]
  constructor
  ·rintro((h |⟨h5,h6⟩) |⟨⟨u',hu',h5⟩,h6⟩)
   ·exact .inl h
   ·exact .inr ⟨⟨u,by simp,h5⟩,h6⟩
   ·exact .inr ⟨⟨u',by simp[hu'],h5⟩,h6⟩
  ·rintro(h |⟨⟨u',hu',h5⟩,h6⟩)
   ·exact .inl (.inl h)
   ·rcases List.mem_cons.1 hu' with rfl |hu'
    ·exact .inl (.inr ⟨h5,h6⟩)
    ·exact .inr ⟨⟨u',hu',h5⟩,h6⟩
theorem zwr{d m:Nat}(hd:d<=16)(hm:m<2^d)(z:Int):z∈upL ((2^d:Nat):Int) m↔∃i,i<=d/\z=(nd i (m/2^i):Int):=by
 have e:2*(m:Int)=(nd 0 m:Int):=by rw[zd1];omega
 unfold upL
 rw[e,zoo hd hm,List.mem_cons,List.mem_map]
 constructor
 ·rintro(rfl |⟨i,hi,rfl⟩)
  ·exact⟨0,by omega,by simp⟩
  ·rw[List.mem_range]at hi
   exact⟨i+1,by omega,rfl⟩
 ·rintro⟨i,hi,rfl⟩
  cases i with
  |zero=>left;simp
  |succ i=>exact .inr ⟨i,List.mem_range.2 (by omega),rfl⟩
theorem zhr{d:Nat}(hd:d<=16):2^d<=65536:=Nat.pow_le_pow_right (n:=2) (by omega) (show d<=16 from hd)
theorem lt16{d h k:Nat}(hd:d<=16)(hk:k<2^(d-h)):k<2^(16-h):=Nat.lt_of_lt_of_le hk (Nat.pow_le_pow_right (by omega) (by omega))
theorem z6l{d h k:Nat}(hd:d<=16)(hh:h<=d)(hk:k<2^(d-h)){late:List Int}(hl: ∀u∈late,za6 u)(hu: ∀u∈late,zal (2*u) (nd h k)=true)(y:Int):
  ((∃u∈late,y∈upL ((2^d:Nat):Int) u)/\y≠(nd h k:Int)/\zal y (nd h k)=true)↔Lset late h k y/\y≠(nd h k:Int):=by
 have hm: ∀m:Nat,(m:Int)∈late->m<65536/\m/2^h=k:=λm hm=>by
  have h1:=hl _ hm
  unfold za6 at h1
  exact⟨by omega,(zih (by omega) (lt16 hd hk) (by omega)).1 (hu _ hm)⟩
 have hmd: ∀m:Nat,(m:Int)∈late->m<2^d:=λm hml=>by
  have h1:=(hm m hml).2
  have h2:m< (k+1)*2^h:=by
   have:=Nat.lt_div_mul_add (a:=m) (zag h)
   rw[h1]at this
   rw[Nat.add_mul];omega
  have h3:(k+1)*2^h<=2^(d-h)*2^h:=Nat.mul_le_mul_right _ hk
  rw[<-Nat.pow_add,show d-h+h=d by omega]at h3
  omega
 constructor
 ·rintro⟨⟨u,hul,hy⟩,hne,hun⟩
  obtain⟨m,rfl,_,_⟩:=zwt (hl u hul)
  obtain⟨i,hi,rfl⟩:=(zwr hd (hmd m hul) y).1 hy
  have hr:=(zfr hd hh hk (zcg hd hi (zep (hmd m hul) hi))).1 hun
  obtain⟨hih,_⟩:=zgg.1 hr
  exact⟨⟨m,hul,(hm m hul).2,i,hih,rfl⟩,hne⟩
 ·rintro⟨⟨m,hml,e,i,hi,rfl⟩,hne⟩
  refine⟨⟨m,hml,(zwr hd (hmd m hml) _).2 ⟨i,by omega,rfl⟩⟩,hne,?_⟩
  refine(zfr hd hh hk (zcg hd (by omega) (zep (hmd m hml) (by omega)))).2 (zgg.2 ⟨hi,?_⟩)
  rw[Nat.div_div_eq_div_mul,<-Nat.pow_add,show i+(h-i)=h by omega]
  exact e
theorem ze7b{n:Node}(hr:n.right=true)(hk:n.kind.toNat≠2):n.par.late=[]:=by
 unfold Node.right at hr
 split at hr
 ·simp only[Bool.and_eq_true,Par.none,decide_eq_true_eq,List.length_eq_zero_iff]at hr
  exact hr.2.2.2
 ·split at hr
  ·simp only[Bool.and_eq_true,Par.none,decide_eq_true_eq,List.length_eq_zero_iff]at hr
   exact hr.2.2.2
  ·cases hr
theorem zgr{O:List Spot}{d:Nat}(hd:d<=16)(hF: ∀x n,zae O x=some n->za2 x n=true): ∀(h k:Nat),h<=d->k<2^(d-h)->
  ((zay O ((2^d:Nat):Int) h k).2=true↔(shP O h k true []).1.all (found O)=true)/\((zay O ((2^d:Nat):Int) h k).2=true->∀z,z∈(zay O ((2^d:Nat):Int) h k).1↔z∈(shP O h k true []).1)
 |0,k,hh,hk=>by
  unfold zay shP
  cases hf:zae O (nd 0 k)with
  |none=>simp[found,hf]
  |some n=>
   have hfp:=hF _ _ hf
   simp only[za2,Bool.and_eq_true,decide_eq_true_eq]at hfp
   have hl:=ze7b hfp.1 (by have:=hfp.2.1;simp only[zco,zck]at this;simpa using this)
   simp only[hl,zd5,List.foldl_nil]
   simp[found,hf]
 |h+1,k,hh,hk=>by
  have hk16:=lt16 hd hk
  have hk2:2^(d-h)=2*2^(d-(h+1)):=by rw[show d-h=(d-(h+1))+1 by omega,Nat.pow_succ];omega
  unfold zay shP
  cases hf:zae O (nd (h+1) k)with
  |none=>simp[found,hf]
  |some n=>
   have hfp:=hF _ _ hf
   simp only[za2,Bool.and_eq_true,decide_eq_true_eq,List.all_eq_true]at hfp
   have hl:=Node.right_late hfp.1
   by_cases h0:n.kind.toNat=0
   ·obtain⟨a1,a2⟩:=zgr hd hF h (2*k) (by omega) (by omega)
    obtain⟨b1,b2⟩:=zgr hd hF h (2*k+1) (by omega) (by omega)
    simp only[h0,if_true,decide_true,Bool.and_true,kidS]
    generalize zay O ((2^d:Nat):Int) h (2*k)=s1 at*
    generalize zay O ((2^d:Nat):Int) h (2*k+1)=s2 at*
    simp only[Bool.and_eq_true,List.all_append,List.all_cons,List.all_nil,Bool.and_true,found,hf,Option.isSome_some,and_true]
    refine⟨by rw[a1,b1],λ⟨u,v⟩ z=>?_⟩
    simp only[List.mem_append,a2 u z,b2 v z]
    constructor
    ·rintro((h |h) |h)
     ·exact .inl (.inr h)
     ·exact .inl (.inl h)
     ·exact .inr h
    ·rintro((h |h) |h)
     ·exact .inl (.inr h)
     ·exact .inl (.inl h)
     ·exact .inr h
   ·obtain⟨w1,w2⟩:=z82 (O:=O) (x:=(nd (h+1) k:Int)) (n:=((2^d:Nat):Int)) n.par.late ([(nd (h+1) k:Int)],true) (by unfold Winv;simp)
    simp only[h0,if_false,decide_false,Bool.and_false,if_true]
    unfold Winv at w1
    have w2': ∀y,y∈(zd5 O (nd (h+1) k) ((2^d:Nat):Int) n.par.late ([(nd (h+1) k:Int)],true)).1↔y=(nd (h+1) k:Int)\/(Lset n.par.late h (2*k) y\/Lset n.par.late h (2*k+1) y):=λy=>by
     rw[w2,z6l hd hh hk hl hfp.2.2 y,zk3]
     simp only[List.mem_cons,List.not_mem_nil,or_false]
     constructor
     ·rintro(g |⟨⟨g,_⟩ |g,_⟩)
      ·exact .inl g
      ·exact .inl g
      ·exact .inr g
     ·rintro(g |g)
      ·exact .inl g
      ·by_cases hy:y=(nd (h+1) k:Int)
       ·exact .inl hy
       ·exact .inr ⟨.inr g,hy⟩
    have kid: ∀j,j<2^(16-h)->((kidS (λj w l=>shP O h j w l) h false n.par.late j).1.all (found O)=true↔∀z,Lset n.par.late h j z->found O z=true)/\((kidS (λj w l=>shP O h j w l) h false n.par.late j).1.all (found O)=true->∀z,z∈(kidS (λj w l=>shP O h j w l) h false n.par.late j).1↔Lset n.par.late h j z):=λj hj=>by
     unfold kidS
     simp only[Bool.false_eq_true,if_false]
     split
     ·rename_i hany
      exact zxe O hl h j (by omega) hj hany
     ·rename_i hany
      have hno: ∀z,¬Lset n.par.late h j z:=by
       rintro z ⟨m',hm',e,_⟩
       exact hany ((zq3 hl (by omega) hj).2 ⟨m',hm',e⟩)
      simp[hno]
    obtain⟨a1,a2⟩:=kid (2*k) (by have:=zqr (by omega) hk16;omega)
    obtain⟨b1,b2⟩:=kid (2*k+1) (zqr (by omega) hk16)
    generalize kidS (λj w l=>shP O h j w l) h false n.par.late (2*k)=s1 at*
    generalize kidS (λj w l=>shP O h j w l) h false n.par.late (2*k+1)=s2 at*
    generalize zd5 O (nd (h+1) k) ((2^d:Nat):Int) n.par.late ([(nd (h+1) k:Int)],true)=r at*
    have hall:(s1.1++[(nd (h+1) k:Int)]++s2.1).all (found O)=true↔s1.1.all (found O)=true/\s2.1.all (found O)=true:=by
     simp only[List.all_append,List.all_cons,List.all_nil,Bool.and_true,Bool.and_eq_true,found,hf,Option.isSome_some,and_true]
    have hx:found O (nd (h+1) k)=true:=by simp[found,hf]
    have e1:r.2=true↔s1.1.all (found O)=true/\s2.1.all (found O)=true:=by
     rw[w1,a1,b1]
     constructor
     ·intro g
      refine⟨λz hz=>?_,λz hz=>?_⟩
      ·by_cases hzx:z=(nd (h+1) k:Int)
       ·rw[hzx];exact hx
       ·exact g z ((w2' z).2 (.inr (.inl hz))) hzx
      ·by_cases hzx:z=(nd (h+1) k:Int)
       ·rw[hzx];exact hx
       ·exact g z ((w2' z).2 (.inr (.inr hz))) hzx
     ·rintro⟨u,v⟩ z hz hne
      rcases(w2' z).1 hz with g |g |g
      ·exact absurd g hne
      ·exact u z g
      ·exact v z g
    rw[hall]
    refine⟨e1,λg z=>?_⟩
    obtain⟨u,v⟩:=e1.1 g
    rw[w2',List.mem_append,List.mem_append,a2 u z,b2 v z]
    simp only[List.mem_cons,List.not_mem_nil,or_false]
    constructor
    ·rintro(h |h |h)
     ·exact .inl (.inr h)
     ·exact .inl (.inl h)
     ·exact .inr h
    ·rintro((h |h) |h)
     ·exact .inr (.inl h)
     ·exact .inl h
     ·exact .inr (.inr h)
end
section
theorem zi7{h k:Nat}(hh:h<=16)(hk:k<2^(16-h)):lv ((nd h k:Int)).toNat=h/\((nd h k:Int)).toNat/2^(lv ((nd h k:Int)).toNat+1)=k:=by
 have hn:=zcg (d:=16) (by omega) hh hk
 obtain⟨h',k',hh',hk',e,e1,e2⟩:=zfm hn
 obtain⟨rfl,rfl⟩:=zfk hh hh' (Int.ofNat.inj e)
 exact⟨e1,e2⟩
theorem zbib(O:List Spot)(H:List Stub){h k:Nat}(hh:h<=16)(hk:k<2^(16-h)):zkw O H (nd h k)=zbp O H h k true []:=by
 obtain⟨e1,e2⟩:=zi7 hh hk
 unfold zkw
 rw[e2,e1]
theorem zh7(O:List Spot)(n:Int){h k:Nat}(hh:h<=16)(hk:k<2^(16-h)):zbl O n (nd h k)=zay O n h k:=by
 obtain⟨e1,e2⟩:=zi7 hh hk
 unfold zbl
 rw[e2,e1]
def kidT(O:List Spot)(o h:Nat):List Int×List Int:=if found O (nd h (sibN (o/2^h)))then shP O h (sibN (o/2^h)) true []else([],[(nd h (sibN (o/2^h)):Int)])
def topS(O:List Spot)(o:Nat):Nat->List Int×List Int
 |0=>([(nd 0 o:Int)],[])
 |h+1=>if(o/2^h)%2=0 then((topS O o h).1++[(nd (h+1) (o/2^(h+1)):Int)]++(kidT O o h).1,(topS O o h).2++(kidT O o h).2)
  else((kidT O o h).1++[(nd (h+1) (o/2^(h+1)):Int)]++(topS O o h).1,(kidT O o h).2++(topS O o h).2)
theorem zcv{d o h:Nat}(ho:o<2^d)(hh:h<d):sibN (o/2^h)<2^(d-h):=by
 rw[show d-h=d-h-1+1 by omega]
 exact z2t (by rw[show d-h-1+1=d-h by omega];exact zep ho (by omega))
theorem zlm(o h:Nat):o/2^(h+1)=o/2^h/2:=by rw[Nat.pow_succ,Nat.div_div_eq_div_mul]
theorem zns(O:List Spot){d o h:Nat}(hd:d<=16)(ho:o<2^d)(hh:h<d):Sh O h (sibN (o/2^h)) (kidT O o h).1 (kidT O o h).2:=by
 have hs:=lt16 hd (zcv ho hh)
 unfold kidT
 split
 ·exact zu0 O h _ true [] (by omega) hs
 ·exact Sh.stub O h _
theorem zdz(O:List Spot){d o:Nat}(hd:d<=16)(ho:o<2^d): ∀h,h<=d->Sh O h (o/2^h) (topS O o h).1 (topS O o h).2
 |0,_=>by
  have:=zhr hd
  simpa[topS]using Sh.leaf O (k:=o) (by omega)
 |h+1,hh=>by
  have ih:=zdz O hd ho h (by omega)
  have kd:=zns O hd ho (show h<d by omega)
  have hk:=lt16 hd (zep ho hh)
  have hp:=zlm o h
  unfold topS
  split
  ·rename_i he
   have e1:2*(o/2^(h+1))=o/2^h:=by omega
   have e2:2*(o/2^(h+1))+1=sibN (o/2^h):=by unfold sibN;rw[if_pos he];omega
   exact Sh.join (by omega) hk (by rw[e1];exact ih) (by rw[e2];exact kd)
  ·rename_i he
   have e1:2*(o/2^(h+1))=sibN (o/2^h):=by unfold sibN;rw[if_neg he];omega
   have e2:2*(o/2^(h+1))+1=o/2^h:=by omega
   exact Sh.join (by omega) hk (by rw[e1];exact kd) (by rw[e2];exact ih)
theorem zcs(O:List Spot)(o:Nat): ∀h (z:Int),(z∈(topS O o h).1↔(∃i,i<=h/\z=(nd i (o/2^i):Int))\/∃i,i<h/\z∈(kidT O o i).1)/\(z∈(topS O o h).2↔∃i,i<h/\z∈(kidT O o i).2)
 |0,z=>by
  unfold topS
  constructor
  ·constructor
   ·intro hz;exact .inl ⟨0,Nat.le_refl _,by rw[mem1 hz];simp⟩
   ·rintro(⟨i,hi,rfl⟩ |⟨i,hi,_⟩)
    ·have:i=0:=by omega
     subst this;simp
    ·omega
  ·constructor
   ·intro hz;simp at hz
   ·rintro⟨i,hi,_⟩;omega
 |h+1,z=>by
  obtain⟨i1,i2⟩:=zcs O o h z
  have hA:z∈(topS O o (h+1)).1↔z∈(topS O o h).1\/z=(nd (h+1) (o/2^(h+1)):Int)\/z∈(kidT O o h).1:=by
   simp only[topS]
   split
   ·simp only[List.mem_append,List.mem_cons,List.not_mem_nil,or_false,or_assoc]
   ·simp only[List.mem_append,List.mem_cons,List.not_mem_nil,or_false]
    constructor
    ·rintro((g |g) |g)
     ·exact .inr (.inr g)
     ·exact .inr (.inl g)
     ·exact .inl g
    ·rintro(g |g |g)
     ·exact .inr g
     ·exact .inl (.inr g)
     ·exact .inl (.inl g)
  have hB:z∈(topS O o (h+1)).2↔z∈(topS O o h).2\/z∈(kidT O o h).2:=by
   simp only[topS]
   split
   ·simp only[List.mem_append]
   ·simp only[List.mem_append];exact Or.comm
  rw[hA,hB,i1,i2]
  constructor
  ·constructor
   ·rintro((⟨i,hi,g⟩ |⟨i,hi,g⟩) |g |g)
    ·exact .inl ⟨i,by omega,g⟩
    ·exact .inr ⟨i,by omega,g⟩
    ·exact .inl ⟨h+1,Nat.le_refl _,g⟩
    ·exact .inr ⟨h,by omega,g⟩
   ·rintro(⟨i,hi,g⟩ |⟨i,hi,g⟩)
    ·rcases Nat.eq_or_lt_of_le hi with rfl |hlt
     ·exact .inr (.inl g)
     ·exact .inl (.inl ⟨i,by omega,g⟩)
    ·rcases Nat.eq_or_lt_of_le (Nat.le_of_lt_succ hi)with rfl |hlt
     ·exact .inr (.inr g)
     ·exact .inl (.inr ⟨i,hlt,g⟩)
  ·constructor
   ·rintro(⟨i,hi,g⟩ |g)
    ·exact⟨i,by omega,g⟩
    ·exact⟨h,by omega,g⟩
   ·rintro⟨i,hi,g⟩
    rcases Nat.eq_or_lt_of_le (Nat.le_of_lt_succ hi)with rfl |hlt
    ·exact .inr g
    ·exact .inl ⟨i,hlt,g⟩
theorem zft: ∀{l m:List Int},l.Pairwise (· < ·)->m.Pairwise (· < ·)->(∀x∈l,x∈m)->l.length<=m.length/\(l.length=m.length->l=m)
 |[],[],_,_,_=>⟨Nat.le_refl _,λ_=>rfl⟩
 |[],y::m,_,_,_=>⟨by simp,λh=>by simp at h⟩
 |x::l,[],_,_,h=>by have:=h x (by simp);cases this
 |x::l,y::m,hl,hm,h=>by
  rw[List.pairwise_cons]at hl hm
  by_cases hxy:x=y
  ·subst hxy
   obtain⟨a,b⟩:=zft hl.2 hm.2 λz hz=>by
    rcases List.mem_cons.1 (h z (List.mem_cons_of_mem _ hz))with e |hz'
    ·have:=hl.1 z hz;omega
    ·exact hz'
   exact⟨by simpa using a,λe=>by rw[b (by simpa using e)]⟩
  ·have hxm:x∈m:=by
    rcases List.mem_cons.1 (h x (by simp))with e |hx
    ·exact absurd e hxy
    ·exact hx
   have hyx:=hm.1 x hxm
   obtain⟨a,b⟩:=zft (l:=x::l) (m:=m) (List.pairwise_cons.2 hl) hm.2 λz hz=>by
    rcases List.mem_cons.1 (h z hz)with e |hz'
    ·rcases List.mem_cons.1 hz with e' |hz2
     ·omega
     ·have:=hl.1 z hz2;omega
    ·exact hz'
   exact⟨by simp only[List.length_cons]at*;omega,λe=>by simp only[List.length_cons]at*;omega⟩
theorem zgd: ∀{l:List Int} {a:Int},zgb a l=true↔l.Pairwise (· < ·)/\∀x∈l,a<x
 |[],a=>by simp[zgb]
 |x::r,a=>by
  rw[zgb,Bool.and_eq_true,decide_eq_true_eq,zgd,List.pairwise_cons]
  constructor
  ·rintro⟨h1,h2,h3⟩
   refine⟨⟨h3,h2⟩,λy hy=>?_⟩
   rcases List.mem_cons.1 hy with rfl |hy
   ·exact h1
   ·have:=h3 y hy;omega
  ·rintro⟨⟨h1,h2⟩,h3⟩
   exact⟨h3 x (by simp),h2,h1⟩
theorem zc9{l:List Spot}{x:Int}:found l x=true↔x∈l.map (·.at_):=by
 constructor
 ·intro h
  obtain⟨n,hn⟩:=Option.isSome_iff_exists.1 h
  obtain⟨sp,hsp,e,_⟩:=za7 hn
  exact List.mem_map.2 ⟨sp,hsp,e⟩
 ·intro h
  obtain⟨sp,hsp,e⟩:=List.mem_map.1 h
  simp only[found,zae,Option.isSome_map,List.find?_isSome,decide_eq_true_eq]
  exact⟨sp,hsp,e⟩
theorem zhm{α:Type}{f:α->Int}: ∀{l:List α},(l.map f).Pairwise (· < ·)->∀{x y:α},x∈l->y∈l->f x=f y->x=y
 |[],_,_,_,hx,_,_=>by cases hx
 |a::l,h,x,y,hx,hy,e=>by
  rw[List.map_cons,List.pairwise_cons]at h
  rcases List.mem_cons.1 hx with ex |hx1
  ·rcases List.mem_cons.1 hy with ey |hy1
   ·rw[ex,ey]
   ·have:=h.1 _ (List.mem_map_of_mem hy1);rw[ex]at e;omega
  ·rcases List.mem_cons.1 hy with ey |hy1
   ·have:=h.1 _ (List.mem_map_of_mem hx1);rw[ey]at e;omega
   ·exact zhm h.2 hx1 hy1 e
theorem zka{l:List Spot}(h:(l.map (·.at_)).Pairwise (· < ·)){x:Spot}(hx:x∈l):zae l x.at_=some x.node:=by
 obtain⟨n,hn⟩:=Option.isSome_iff_exists.1 (zc9.2 (List.mem_map_of_mem (f:=(·.at_)) hx))
 obtain⟨sp,hsp,e,e2⟩:=za7 hn
 have:=zhm h hsp hx e
 rw[hn,<-e2,this]
theorem zl8{l:List Stub}{x:Int}:(zcc l x).isSome=true↔x∈l.map (·.at_):=by
 constructor
 ·intro h
  obtain⟨n,hn⟩:=Option.isSome_iff_exists.1 h
  obtain⟨_,sp,hsp,e,_⟩:=zc0 hn
  exact List.mem_map.2 ⟨sp,hsp,e⟩
 ·intro h
  obtain⟨sp,hsp,e⟩:=List.mem_map.1 h
  simp only[zcc,Option.isSome_map,List.find?_isSome,decide_eq_true_eq]
  exact⟨sp,hsp,e⟩
theorem zfp{l:List Stub}(h:(l.map (·.at_)).Pairwise (· < ·)){x:Stub}(hx:x∈l):zcc l x.at_=some x.hash:=by
 obtain⟨n,hn⟩:=Option.isSome_iff_exists.1 (zl8.2 (List.mem_map_of_mem (f:=(·.at_)) hx))
 obtain⟨_,sp,hsp,e,e2⟩:=zc0 hn
 have:=zhm h hsp hx e
 rw[hn,<-e2,this]
theorem za1b{all:List Int}: ∀(l acc:List Int) (z:Int),z∈l.foldl (zgt all) acc↔z∈acc\/((∃x∈l,zbj x=z\/zbi x=z)/\0<=z/\z∉all):=by
 have one: ∀(acc:List Int) (c z:Int),z∈addK all acc c↔z∈acc\/(c=z/\0<=z/\z∉all):=by
  intro acc c z
  unfold addK
  split
  ·rename_i hc
   rw[List.mem_append]
   constructor
   ·rintro(g |g)
    ·exact .inl g
    ·rw[mem1 g];exact .inr ⟨rfl,hc⟩
   ·rintro(g |⟨rfl,_⟩)
    ·exact .inl g
    ·exact .inr (by simp)
  ·rename_i hc
   constructor
   ·exact .inl
   ·rintro(g |⟨rfl,g⟩)
    ·exact g
    ·exact absurd g hc
 intro l
 induction l with
 |nil=>intro acc z;simp
 |cons y l ih=>
  intro acc z
  rw[List.foldl_cons,ih,zgt,one,one]
  constructor
  ·rintro(((g |⟨g,h⟩) |⟨g,h⟩) |⟨⟨x,hx,g⟩,h⟩)
   ·exact .inl g
   ·exact .inr ⟨⟨y,by simp, .inl g⟩,h⟩
   ·exact .inr ⟨⟨y,by simp, .inr g⟩,h⟩
   ·exact .inr ⟨⟨x,by simp[hx],g⟩,h⟩
  ·rintro(g |⟨⟨x,hx,g⟩,h⟩)
   ·exact .inl (.inl (.inl g))
   ·rcases List.mem_cons.1 hx with rfl |hx
    ·rcases g with g |g
     ·exact .inl (.inl (.inr ⟨g,h⟩))
     ·exact .inl (.inr ⟨g,h⟩)
    ·exact .inr ⟨⟨x,hx,g⟩,h⟩
def zjt(s:Lean_)(o h:Nat):Bool:=(kidT s.opn o h).1.all (okO s.opn)&&(kidT s.opn o h).2.all (zcn s.shut)
theorem z1s(s:Lean_){d o h:Nat}(hd:d<=16)(ho:o<2^d)(hh:h<d):if zjt s o h then valP s (nd h (sibN (o/2^h)))=((kidT s.opn o h).1.length+(kidT s.opn o h).2.length:Nat)else valP s (nd h (sibN (o/2^h)))<0:=by
 have hs:=lt16 hd (zcv ho hh)
 unfold zjt kidT valP
 cases hf:zae s.opn (nd h (sibN (o/2^h)))with
 |none=>
  simp only[found,hf,Option.isSome_none,Bool.false_eq_true,if_false,List.all_nil,List.all_cons,Bool.and_true,Bool.true_and,z0m]
  split
  ·simp
  ·simp[zbh]
 |some n=>
  simp only[found,hf,Option.isSome_some,if_true]
  rw[zbib _ _ (by omega) hs]
  have h1:=(ztn s.opn s.shut h (sibN (o/2^h)) true []).2
  have e':(2:Int)^(h+1)=((2^(h+1):Nat):Int):=by simp
  have h2:=ztt (h:=h) (by omega)
  split
  ·rename_i hg
   rw[if_pos hg]at h1
   exact h1
  ·rename_i hg
   rw[if_neg hg]at h1
   simp only[zbh]at h1
   omega
theorem zjx{f:Int->Int}: ∀{l m:List Int},sumI f (l++m)=sumI f l+sumI f m
 |[],m=>by simp[sumI]
 |x::l,m=>by simp only[List.cons_append,sumI,zjx];omega
theorem zoj(s:Lean_){d o:Nat}(hd:d<=16)(ho:o<2^d): ∀h,h<=d->(∀i,i<h->zjt s o i=true)->1+(h:Int)+sumI (valP s) ((List.range h).map λi=>(nd i (sibN (o/2^i)):Int))=((topS s.opn o h).1.length+(topS s.opn o h).2.length:Nat)
 |0,_,_=>by simp[topS,sumI]
 |h+1,hh,hg=>by
  have ih:=zoj s hd ho h (by omega) λi hi=>hg i (by omega)
  have hv:=z1s s hd ho (show h<d by omega)
  rw[if_pos (hg h (by omega))]at hv
  have hl:(topS s.opn o (h+1)).1.length+(topS s.opn o (h+1)).2.length=((topS s.opn o h).1.length+(topS s.opn o h).2.length)+1+((kidT s.opn o h).1.length+(kidT s.opn o h).2.length):=by
   simp only[topS]
   split<;>simp<;>omega
  rw[hl,List.range_succ,List.map_append,zjx]
  simp only[List.map_cons,List.map_nil,sumI]
  omega
theorem zou{s:Lean_}{d o:Nat}(hd:d<=16)(ho:o<2^d)(hn:s.leaves=((2^d:Nat):Int))(he:s.own=(o:Int))(z:Int):z∈ownL s↔∃i,i<=d/\z=(nd i (o/2^i):Int):=by
 have:=zwr hd ho z
 unfold ownL
 rw[hn,he]
 exact this
theorem zhb{s:Lean_}{d o:Nat}(hd:d<=16)(ho:o<2^d)(hn:s.leaves=((2^d:Nat):Int))(he:s.own=(o:Int)):zau (2*s.own) s.leaves=(List.range d).map λi=>(nd i (sibN (o/2^i)):Int):=by
 rw[hn,he,show 2*(o:Int)=(nd 0 o:Int)by rw[zd1];omega,zgl hd ho]
theorem za9b{s:Lean_}{d o:Nat}(hd:d<=16)(ho:o<2^d)(hn:s.leaves=((2^d:Nat):Int))(he:s.own=(o:Int)):(za4 (2*s.own) s.leaves).length=d:=by
 rw[hn,he,show 2*(o:Int)=(nd 0 o:Int)by rw[zd1];omega,zoo hd ho];simp
theorem zkq(s:Lean_){d o:Nat}(hd:d<=16)(ho:o<2^d)(hn:s.leaves=((2^d:Nat):Int))(he:s.own=(o:Int)):
  zbf s=true↔s.lookOk=true/\ze6 s=true/\(∀z∈(topS s.opn o d).1,okO s.opn z=true)/\(∀z∈(topS s.opn o d).2,zcn s.shut z=true)/\(topS s.opn o d).1.length+(topS s.opn o d).2.length=s.opn.length+s.shut.length:=by
 have hf:za0 s.leaves=true:=by rw[hn];exact zdd d hd
 have h0:0<=s.own/\s.own<s.leaves:=by rw[hn,he];omega
 have hown:=zou hd ho hn he
 have hcop:=zhb hd ho hn he
 have hpl:=za9b hd ho hn he
 have hgood: ∀i,i<d->(zjt s o i=true↔0<=valP s (nd i (sibN (o/2^i)))):=λi hi=>by
  have hv:=z1s s hd ho hi
  constructor
  ·intro g;rw[if_pos g]at hv;omega
  ·intro g
   cases hg:zjt s o i with
   |true=>rfl
   |false=>rw[hg,if_neg (by simp)]at hv;omega
 have hall:((∀z∈(topS s.opn o d).1,okO s.opn z=true)/\(∀z∈(topS s.opn o d).2,zcn s.shut z=true))↔(∀z∈ownL s,okN s z=true)/\∀i,i<d->zjt s o i=true:=by
  have eok:okN s=okO s.opn:=rfl
  rw[eok]
  constructor
  ·rintro⟨a,b⟩
   refine⟨λz hz=>a z (((zcs s.opn o d z).1).2 (.inl ((hown z).1 hz))),λi hi=>?_⟩
   simp only[zjt,Bool.and_eq_true,List.all_eq_true]
   exact⟨λz hz=>a z (((zcs s.opn o d z).1).2 (.inr ⟨i,hi,hz⟩)),λz hz=>b z (((zcs s.opn o d z).2).2 ⟨i,hi,hz⟩)⟩
  ·rintro⟨a,b⟩
   refine⟨λz hz=>?_,λz hz=>?_⟩
   ·rcases((zcs s.opn o d z).1).1 hz with g |⟨i,hi,g⟩
    ·exact a z ((hown z).2 g)
    ·have:=b i hi
     simp only[zjt,Bool.and_eq_true,List.all_eq_true]at this
     exact this.1 z g
   ·obtain⟨i,hi,g⟩:=((zcs s.opn o d z).2).1 hz
    have:=b i hi
    simp only[zjt,Bool.and_eq_true,List.all_eq_true]at this
    exact this.2 z g
 have hdef:zbf s=(s.lookOk&&(ze6 s&&((ownL s).all (okN s)&&((zau (2*s.own) s.leaves).all (λc=>decide (0<=valP s c))&&decide (1+(za4 (2*s.own) s.leaves).length+sumI (valP s) (zau (2*s.own) s.leaves)=s.opn.length+s.shut.length))))):=by
  simp only[zbf,hf,h0.1,h0.2,decide_true,Bool.true_and];rfl
 rw[hdef]
 simp only[Bool.and_eq_true,List.all_eq_true,decide_eq_true_eq]
 rw[hcop,hpl]
 constructor
 ·rintro⟨a,b,c,e,f⟩
  have g: ∀i,i<d->zjt s o i=true:=λi hi=>(hgood i hi).2 (e _ (List.mem_map.2 ⟨i,List.mem_range.2 hi,rfl⟩))
  obtain⟨p,q⟩:=hall.2 ⟨c,g⟩
  refine⟨a,b,p,q,?_⟩
  have:=zoj s hd ho d (Nat.le_refl _) g
  omega
 ·rintro⟨a,b,p,q,f⟩
  obtain⟨c,g⟩:=hall.1 ⟨p,q⟩
  have:=zoj s hd ho d (Nat.le_refl _) g
  refine⟨a,b,c,λx hx=>?_,by omega⟩
  obtain⟨i,hi,rfl⟩:=List.mem_map.1 hx
  exact(hgood i (List.mem_range.1 hi)).1 (g i (List.mem_range.1 hi))
end
section
theorem zh9{O:List Spot}{z:Int}(h:okO O z=true):found O z=true:=by
 unfold okO at h
 split at h
 ·rename_i n hn;simp[found,hn]
 ·cases h
theorem zog{O:List Spot}{z:Int}{n:Node}(h:okO O z=true)(hn:zae O z=some n):za2 z n=true:=by
 unfold okO at h
 rw[hn]at h
 exact h
theorem zri{n:Int}{x:Spot}(h0:0<=x.at_):okR n x=true↔x.at_<=2*n-2/\za2 x.at_ x.node=true:=by
 have hm:x.at_.tmod 2=0\/x.at_.tmod 2=1:=by rw[Int.tmod_eq_emod_of_nonneg h0];omega
 rcases hm with hm |hm
 ·have e:zco x.at_=2:=by simp[zco,hm]
  simp only[okR,za2,e,Bool.and_eq_true,Bool.not_eq_true',Bool.and_eq_false_iff,decide_eq_true_eq,decide_eq_false_iff_not]
  constructor
  ·rintro⟨_,b,c,q1,q2,q3⟩;exact⟨b,c,by omega,q3⟩
  ·rintro⟨b,c,q1,q3⟩;exact⟨h0,b,c,by omega,by omega,q3⟩
 ·have e:zco x.at_=1:=by simp[zco,hm]
  simp only[okR,za2,e,Bool.and_eq_true,Bool.not_eq_true',Bool.and_eq_false_iff,decide_eq_true_eq,decide_eq_false_iff_not]
  constructor
  ·rintro⟨_,b,c,q1,q2,q3⟩;exact⟨b,c,by omega,q3⟩
  ·rintro⟨b,c,q1,q3⟩;exact⟨h0,b,c,by omega,by omega,q3⟩
theorem zy7{n:Int}{x:Spot}(h:okR n x=true):0<=x.at_:=by
 simp only[okR,Bool.and_eq_true,decide_eq_true_eq]at h
 exact h.1
theorem zgx{s:Lean_}{d o:Nat}(hd:d<=16)(ho:o<2^d)(hn:s.leaves=((2^d:Nat):Int))(he:s.own=(o:Int))(c:Int):c∈zan s true↔∃i,i<d/\c=(nd i (sibN (o/2^i)):Int)/\found s.opn c=true:=by
 unfold zan
 rw[zhb hd ho hn he,List.mem_filter,List.mem_map]
 simp only[beq_iff_eq,List.mem_range]
 constructor
 ·rintro⟨⟨i,hi,rfl⟩,h⟩;exact⟨i,hi,rfl,h⟩
 ·rintro⟨i,hi,rfl,h⟩;exact⟨⟨i,hi,rfl⟩,h⟩
theorem zgi{s:Lean_}{d o:Nat}(hd:d<=16)(ho:o<2^d)(hn:s.leaves=((2^d:Nat):Int))(he:s.own=(o:Int))(hF: ∀x n,zae s.opn x=some n->za2 x n=true):
  (∀z∈(topS s.opn o d).1,found s.opn z=true)↔(∀z∈ownL s,found s.opn z=true)/\∀c∈zan s true,(zbl s.opn s.leaves c).2=true:=by
 have hown:=zou hd ho hn he
 constructor
 ·intro h
  refine⟨λz hz=>h z (((zcs s.opn o d z).1).2 (.inl ((hown z).1 hz))),λc hc=>?_⟩
  obtain⟨i,hi,rfl,hf⟩:=(zgx hd ho hn he c).1 hc
  rw[zh7 _ _ (by omega) (lt16 hd (zcv ho hi)),hn]
  refine((zgr hd hF i _ (by omega) (zcv ho hi)).1).2 ?_
  rw[List.all_eq_true]
  intro z hz
  refine h z (((zcs s.opn o d z).1).2 (.inr ⟨i,hi,?_⟩))
  unfold kidT
  rw[if_pos hf]
  exact hz
 ·rintro⟨a,b⟩ z hz
  rcases((zcs s.opn o d z).1).1 hz with g |⟨i,hi,g⟩
  ·exact a z ((hown z).2 g)
  ·unfold kidT at g
   split at g
   ·rename_i hf
    have h1:=b _ ((zgx hd ho hn he _).2 ⟨i,hi,rfl,hf⟩)
    rw[zh7 _ _ (by omega) (lt16 hd (zcv ho hi)),hn]at h1
    have h2:=((zgr hd hF i _ (by omega) (zcv ho hi)).1).1 h1
    rw[List.all_eq_true]at h2
    exact h2 z g
   ·simp at g
theorem zrn{s:Lean_}{d o:Nat}(hd:d<=16)(ho:o<2^d)(hn:s.leaves=((2^d:Nat):Int))(he:s.own=(o:Int))(hF: ∀x n,zae s.opn x=some n->za2 x n=true)(hw: ∀c∈zan s true,(zbl s.opn s.leaves c).2=true)(z:Int):z∈allL s↔z∈(topS s.opn o d).1:=by
 have hown:=zou hd ho hn he
 rw[(zcs s.opn o d z).1]
 unfold allL
 rw[List.mem_append,hown,List.mem_flatMap]
 refine or_congr Iff.rfl ?_
 constructor
 ·rintro⟨c,hc,hz⟩
  obtain⟨i,hi,rfl,hf⟩:=(zgx hd ho hn he c).1 hc
  have h1:=hw _ hc
  rw[zh7 _ _ (by omega) (lt16 hd (zcv ho hi)),hn]at h1 hz
  have h2:=(zgr hd hF i _ (by omega) (zcv ho hi)).2 h1 z
  refine⟨i,hi,?_⟩
  unfold kidT
  rw[if_pos hf]
  exact h2.1 hz
 ·rintro⟨i,hi,g⟩
  unfold kidT at g
  split at g
  ·rename_i hf
   have hc:=(zgx hd ho hn he _).2 ⟨i,hi,rfl,hf⟩
   have h1:=hw _ hc
   refine⟨_,hc,?_⟩
   rw[zh7 _ _ (by omega) (lt16 hd (zcv ho hi)),hn]at h1⊢
   exact((zgr hd hF i _ (by omega) (zcv ho hi)).2 h1 z).2 g
  ·simp at g
theorem zov{s:Lean_}{d o:Nat}(hd:d<=16)(ho:o<2^d)(hf: ∀z∈(topS s.opn o d).1,found s.opn z=true)(hm: ∀z,z∈allL s↔z∈(topS s.opn o d).1)(z:Int):z∈zjm s↔z∈(topS s.opn o d).2:=by
 have sh:=zdz s.opn hd ho d (Nat.le_refl _)
 unfold zjm
 rw[za1b]
 have h0:o/2^d=0:=Nat.div_eq_of_lt ho
 rw[h0]at sh
 constructor
 ·rintro(g |⟨⟨x,hx,g⟩,hz,hna⟩)
  ·cases g
  ·rw[hm]at hx hna
   have hk:=sh.kids x hx (hf x hx)
   rcases g with rfl |rfl
   ·exact(hk.1 hz).resolve_left hna
   ·exact(hk.2 hz).resolve_left hna
 ·intro hz
  right
  have hna:z∉allL s:=λh=>sh.dj z ((hm z).1 h) hz
  refine⟨?_,ziz (sh.rb z hz),hna⟩
  rcases sh.back z hz with rfl |⟨x,hx,g⟩
  ·exfalso
   refine sh.dj _ (((zcs s.opn o d _).1).2 (.inl ⟨d,Nat.le_refl _,by rw[h0]⟩)) hz
  ·exact⟨x,(hm x).2 hx,g⟩
theorem zip{s:Lean_}{d o:Nat}(hd:d<=16)(ho:o<2^d)(hn:s.leaves=((2^d:Nat):Int))(he:s.own=(o:Int)):zll s=true↔(∀x∈s.opn,okR s.leaves x=true)/\(∀x∈s.shut,x.hash.length=32)/\(∀z∈ownL s,z∈s.opn.map (·.at_))/\(∀c∈zan s true,(zbl s.opn s.leaves c).2=true)/\ze6 s=true/\s.opn.map (·.at_)=rise (allL s)/\s.shut.map (·.at_)=rise (zjm s):=by
 have hf:za0 s.leaves=true:=by rw[hn];exact zdd d hd
 have h0:0<=s.own/\s.own<s.leaves:=by rw[hn,he];omega
 simp only[zll,hf,h0.1,h0.2,decide_true,Bool.true_and,Bool.and_eq_true,List.all_eq_true,decide_eq_true_eq]
theorem z7l{s:Lean_}{d o:Nat}(hd:d<=16)(ho:o<2^d)(hn:s.leaves=((2^d:Nat):Int))(he:s.own=(o:Int)):zbf s=true↔zll s=true:=by
 have sh:=zdz s.opn hd ho d (Nat.le_refl _)
 have h0:o/2^d=0:=Nat.div_eq_of_lt ho
 rw[h0]at sh
 have hown:=zou hd ho hn he
 rw[zkq s hd ho hn he,zip hd ho hn he]
 constructor
 ·rintro⟨hl,hk,hA,hB,hc⟩
  simp only[Lean_.lookOk,Bool.and_eq_true,zgd]at hl
  obtain⟨⟨po,no⟩,ps,ns⟩:=hl
  obtain⟨la,ea⟩:=zft sh.pa po λz hz=>zc9.1 (zh9 (hA z hz))
  obtain⟨lb,eb⟩:=zft sh.pb ps λz hz=>zl8.1 (by
   have:=hB z hz
   unfold zcn at this
   split at this
   ·rename_i h hh;simp[hh]
   ·cases this)
  rw[List.length_map]at la ea lb eb
  have ea:=ea (by omega)
  have eb:=eb (by omega)
  have hF: ∀x n,zae s.opn x=some n->za2 x n=true:=λx n hx=>zog (hA x (by rw[ea];exact zc9.1 (by simp[found,hx]))) hx
  have hfd: ∀z∈(topS s.opn o d).1,found s.opn z=true:=λz hz=>zh9 (hA z hz)
  obtain⟨f1,f2⟩:=(zgi hd ho hn he hF).1 hfd
  have hm:=zrn hd ho hn he hF f2
  have hs:=zov hd ho hfd hm
  refine⟨λx hx=>?_,λx hx=>?_,λz hz=>zc9.1 (f1 z hz),f2,hk,?_,?_⟩
  ·have hxa:x.at_∈(topS s.opn o d).1:=by rw[ea];exact List.mem_map_of_mem hx
   have hnn:=no x.at_ (List.mem_map_of_mem hx)
   rw[zri (by omega)]
   refine⟨?_,zog (hA _ hxa) (zka po hx)⟩
   have:=sh.ra _ hxa
   unfold inR at this
   rw[hn]
   rw[Nat.pow_succ]at this
   omega
  ·have hxb:x.at_∈(topS s.opn o d).2:=by rw[eb];exact List.mem_map_of_mem hx
   have:=hB _ hxb
   unfold zcn at this
   rw[zfp ps hx]at this
   simpa using this
  ·exact zeb po (zf7 _) λz=>by rw[zfc,hm,ea]
  ·exact zeb ps (zf7 _) λz=>by rw[zfc,hs,eb]
 ·rintro⟨hO,hH,hP,hW,hk,eO,eS⟩
  have po:(s.opn.map (·.at_)).Pairwise (· < ·):=by rw[eO];exact zf7 _
  have ps:(s.shut.map (·.at_)).Pairwise (· < ·):=by rw[eS];exact zf7 _
  have hF: ∀x n,zae s.opn x=some n->za2 x n=true:=λx n hx=>by
   obtain⟨sp,hsp,rfl,rfl⟩:=za7 hx
   exact((zri (zy7 (hO sp hsp))).1 (hO sp hsp)).2
  have hfd:=(zgi hd ho hn he hF).2 ⟨λz hz=>zc9.2 (hP z hz),hW⟩
  have hm:=zrn hd ho hn he hF hW
  have hs:=zov hd ho hfd hm
  have ea:s.opn.map (·.at_)=(topS s.opn o d).1:=zeb po sh.pa λz=>by rw[eO,zfc,hm]
  have eb:s.shut.map (·.at_)=(topS s.opn o d).2:=zeb ps sh.pb λz=>by rw[eS,zfc,hs]
  refine⟨?_,hk,λz hz=>?_,λz hz=>?_,?_⟩
  ·simp only[Lean_.lookOk,Bool.and_eq_true,zgd]
   refine⟨⟨po,λz hz=>?_⟩,ps,λz hz=>?_⟩
   ·obtain⟨x,hx,rfl⟩:=List.mem_map.1 hz
    have:=zy7 (hO x hx)
    omega
   ·rw[eb]at hz
    have:=ziz (sh.rb z hz)
    omega
  ·obtain⟨n,hnn⟩:=Option.isSome_iff_exists.1 (hfd z hz)
   unfold okO
   rw[hnn]
   exact hF z n hnn
  ·rw[<-eb]at hz
   obtain⟨x,hx,rfl⟩:=List.mem_map.1 hz
   unfold zcn
   rw[zfp ps hx]
   simpa using hH x hx
  ·rw[<-ea,<-eb,List.length_map,List.length_map]
theorem z1x{s:Lean_}{d o:Nat}(hd:d<=16)(ho:o<2^d)(hn:s.leaves=((2^d:Nat):Int))(he:s.own=(o:Int))(hr:zbf s=true):
  (∀h k,h<=d->k<2^(d-h)->((nd h k:Int)∈(topS s.opn o d).1\/(nd h k:Int)∈(topS s.opn o d).2)->zaj s h k=zar s h k/\(zaj s h k).length=32)/\∀z:Int,found s.opn z=true->z∈(topS s.opn o d).1:=by
 have sh:=zdz s.opn hd ho d (Nat.le_refl _)
 have h0:o/2^d=0:=Nat.div_eq_of_lt ho
 rw[h0]at sh
 obtain⟨hl,hk,hA,hB,hc⟩:=(zkq s hd ho hn he).1 hr
 simp only[Lean_.lookOk,Bool.and_eq_true,zgd]at hl
 obtain⟨⟨po,no⟩,ps,ns⟩:=hl
 obtain⟨la,ea⟩:=zft sh.pa po λz hz=>zc9.1 (zh9 (hA z hz))
 obtain⟨lb,eb⟩:=zft sh.pb ps λz hz=>zl8.1 (by
  have:=hB z hz
  unfold zcn at this
  split at this
  ·rename_i h hh;simp[hh]
  ·cases this)
 rw[List.length_map]at la ea lb eb
 have ea:=ea (by omega)
 have key: ∀h k,h<=d->k<2^(d-h)->((nd h k:Int)∈(topS s.opn o d).1\/(nd h k:Int)∈(topS s.opn o d).2)->zaj s h k=zar s h k/\(zaj s h k).length=32:=by
  have none_case: ∀z:Int,zae s.opn z=none->(z∈(topS s.opn o d).1\/z∈(topS s.opn o d).2)->(zbe s.shut z).length=32:=λz hz hm=>by
   rcases hm with hm |hm
   ·have:=zh9 (hA z hm)
    simp[found,hz]at this
   ·have:=hB z hm
    unfold zcn at this
    split at this
    ·rename_i h hh
     rw[(zc0 hh).1]
     simpa using this
    ·cases this
  have inA: ∀(z:Int) (n:Node),zae s.opn z=some n->z∈(topS s.opn o d).1:=λz n hz=>by rw[ea];exact zc9.1 (by simp[found,hz])
  intro h
  induction h with
  |zero=>
   intro k _ hkk hm
   have hk16:=lt16 hd hkk
   cases hf:zae s.opn (nd 0 k)with
   |none=>
    have e1:zaj s 0 k=zbe s.shut (nd 0 k):=by simp[zaj,hf]
    have e2:zar s 0 k=zbe s.shut (nd 0 k):=by simp[zar,hf]
    rw[e1,e2]
    exact⟨rfl,none_case _ hf hm⟩
   |some n=>
    have hfp:=zog (hA _ (inA _ _ hf)) hf
    simp only[za2,Bool.and_eq_true,decide_eq_true_eq]at hfp
    have e1:zaj s 0 k=shaB (zfz k n):=by simp[zaj,hf]
    have e2:zar s 0 k=shaB ([1]++beB 4 k++zaq n):=by simp[zar,hf]
    have hne:n.kind.toNat≠2:=by have:=hfp.2.1;simp only[zco,zck]at this;simpa using this
    have e3:zfz k n=[1]++beB 4 k++zaq n:=by
     unfold zfz
     rw[if_neg (by simp at hk16;omega),if_neg (by simp[hfp.1,hne])]
     simp[zmm]
    rw[e1,e2,e3]
    exact⟨rfl,zff _⟩
  |succ h ih=>
   intro k hh hkk hm
   have hk16:=lt16 hd hkk
   have hk2:2^(d-h)=2*2^(d-(h+1)):=by rw[show d-h=(d-(h+1))+1 by omega,Nat.pow_succ];omega
   cases hf:zae s.opn (nd (h+1) k)with
   |none=>
    have e1:zaj s (h+1) k=zbe s.shut (nd (h+1) k):=by simp[zaj,hf]
    have e2:zar s (h+1) k=zbe s.shut (nd (h+1) k):=by simp[zar,hf]
    rw[e1,e2]
    exact⟨rfl,none_case _ hf hm⟩
   |some n=>
    have hzA:=inA _ _ hf
    have hfp:=zog (hA _ hzA) hf
    simp only[za2,Bool.and_eq_true,decide_eq_true_eq]at hfp
    have hne:n.kind.toNat≠1:=by have:=hfp.2.1;simp only[zco,zc5]at this;simpa using this
    have hkids:=sh.kids _ hzA (by simp[hf])
    rw[zdk hd (by omega) hkk,zc7 hd (by omega) hkk]at hkids
    obtain⟨a1,a2⟩:=ih (2*k) (by omega) (by omega) (hkids.1 (by omega))
    obtain⟨b1,b2⟩:=ih (2*k+1) (by omega) (by omega) (hkids.2 (by omega))
    have e1:zaj s (h+1) k=shaB (zf2 n (zaj s h (2*k)) (zaj s h (2*k+1))):=by simp[zaj,hf]
    have e2:zar s (h+1) k=shaB ([2]++zaq n++(vecB (zar s h (2*k))++vecB (zar s h (2*k+1)))):=by simp[zar,hf]
    have e3:zf2 n (zaj s h (2*k)) (zaj s h (2*k+1))=[2]++zaq n++(vecB (zar s h (2*k))++vecB (zar s h (2*k+1))):=by
     unfold zf2
     rw[if_neg (by simp[hfp.1,hne]),if_neg (by simp[a2,b2]),a1,b1]
     simp[ziw]
    rw[e1,e2,e3]
    exact⟨rfl,zff _⟩
 exact⟨key,λz hz=>by rw[ea];exact zc9.1 hz⟩
theorem ztf{s:Lean_}{d o:Nat}(hd:d<=16)(ho:o<2^d)(hn:s.leaves=((2^d:Nat):Int))(he:s.own=(o:Int))(hr:zbf s=true):zaj s d 0=zar s d 0/\(zaj s d 0).length=32:=by
 have sh:=zdz s.opn hd ho d (Nat.le_refl _)
 have h0:o/2^d=0:=Nat.div_eq_of_lt ho
 rw[h0]at sh
 exact(z1x hd ho hn he hr).1 d 0 (Nat.le_refl _) (zag _) sh.root
theorem zod(s:Lean_):zbf s=zll s:=by
 cases hf:za0 s.leaves with
 |false=>simp[zbf,zll,hf]
 |true=>
  by_cases h0:0<=s.own
  ·by_cases h1:s.own<s.leaves
   ·obtain⟨d,o,hd,hn,ho,he,_⟩:=zoz hf h0 h1
    rw[Bool.eq_iff_iff]
    exact z7l hd ho hn he
   ·simp[zbf,zll,h1]
  ·simp[zbf,zll,h0]
end
end Go.Proofs.YtpdllgbfemnemaaGreat.Sx
