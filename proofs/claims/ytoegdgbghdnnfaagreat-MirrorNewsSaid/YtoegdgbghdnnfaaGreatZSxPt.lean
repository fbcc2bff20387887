import Derived.Test.YtoegdgbghdnnfaaGreatZLa
import Derived.Test.YtoegdgbghdnnfaaGreatZKu
import Derived.Test.YtoegdgbghdnnfaaGreatZSxNm
import Derived.Test.YtoegdgbghdnnfaaGreatZKc
import Derived.Test.YtoegdgbghdnnfaaGreatZSha
namespace Go.Proofs.YtoegdgbghdnnfaaGreat.Sx
open Go.RowKit
theorem zdj{i j h k:Nat}:inR h k (nd i j)↔i<=h/\j/2^(h-i)=k:=by
 constructor
 ·intro hr
  have hih:i<=h:=by
   rcases Nat.lt_or_ge h i with hlt |hge
   ·exfalso
    obtain⟨e,rfl⟩: ∃e,i=h+1+e:=⟨i-(h+1),by omega⟩
    unfold inR nd at hr
    have e1:2^(h+1+e)=2^(h+1)*2^e:=Nat.pow_add ..
    have e2:j*2^(h+1+e+1)=2^(h+1)*(j*(2^e*2)):=by rw[Nat.pow_succ 2 (h+1+e),e1,Nat.mul_assoc,Nat.mul_left_comm]
    have e3:k*2^(h+1)=2^(h+1)*k:=Nat.mul_comm ..
    rw[e1,e2,e3]at hr
    have hp:=zag (h+1)
    have hq:=zag e
    generalize 2^(h+1)=q at*
    generalize j*(2^e*2)=r at*
    generalize 2^e=t at*
    have hle1:q*k<=q*r+q*t-1:=by
     have:0<q*t:=Nat.mul_pos hp hq
     omega
    have h1:q*k+1<=q*(r+t):=by rw[Nat.mul_add];have:0<q*t:=Nat.mul_pos hp hq;omega
    have h2:q*(r+t)+1<=q*k+q:=by rw[Nat.mul_add];omega
    have h3:k<r+t:=by
     rcases Nat.lt_or_ge k (r+t)with h |h
     ·exact h
     ·have:=Nat.mul_le_mul_left q h;omega
    have h4:r+t<k+1:=by
     rcases Nat.lt_or_ge (r+t) (k+1)with h |h
     ·exact h
     ·have:=Nat.mul_le_mul_left q h;rw[Nat.mul_add q k 1,Nat.mul_one]at this;omega
    omega
   ·exact hge
  refine⟨hih,?_⟩
  have hn:=z4q i j (h-i)
  rw[show i+(h-i)+1=h+1 by omega]at hn
  unfold inR at hr
  have hp:=zag (h+1)
  generalize j/2^(h-i)=k' at*
  have e: ∀a b:Nat,a*2^(h+1)+1<=b*2^(h+1)+2^(h+1)->a<=b:=λa b hab=>by
   rcases Nat.lt_or_ge b a with hba |hba
   ·have:=Nat.mul_le_mul_right (2^(h+1)) (show b+1<=a from hba)
    rw[Nat.add_mul,Nat.one_mul]at this
    omega
   ·exact hba
  have a1:=e k' k (by omega)
  have a2:=e k k' (by omega)
  omega
 ·rintro⟨hih,rfl⟩
  have hn:=z4q i j (h-i)
  rw[show i+(h-i)+1=h+1 by omega]at hn
  unfold inR
  omega
theorem zis{x:Int}{d h k:Nat}(hd:d<=16)(hh:h<=d)(hk:k<2^(d-h))(hx:zbt x=true):za2 x (nd h k)=true↔inR h k x:=by
 rw[zs5 hd hh hk hx]
 unfold inR trip
 simp only[Bool.and_eq_true,decide_eq_true_eq]
 have hp:=zag h
 rw[Nat.pow_succ 2 h]
 omega
theorem znz{u:Int}(h:za6 u): ∃m:Nat,u=m/\m<65536/\2*u=(nd 0 m:Int):=by
 unfold za6 at h
 obtain⟨m,rfl⟩:=Int.eq_ofNat_of_zero_le h.1
 exact⟨m,rfl,by omega,by rw[zde];omega⟩
theorem zdi{h k m:Nat}(hh:h<=16)(hk:k<2^(16-h))(hm:m<65536):za2 (2*(m:Int)) (nd h k)=true↔m/2^h=k:=by
 rw[show 2*(m:Int)=(nd 0 m:Int)by rw[zde];omega,zis (d:=16) (by omega) hh hk (zeb (d:=16) (by omega) (by omega) (by simpa using hm)),zdj]
 simp
abbrev found(O:List Spot)(z:Int):Bool:=(zaf O z).isSome
def Lset(late:List Int)(h k:Nat)(z:Int):Prop:=∃m:Nat,(m:Int)∈late/\m/2^h=k/\∃i,i<=h/\z=(nd i (m/2^i):Int)
theorem zjg{late:List Int}{h k:Nat}{z:Int}:Lset late (h+1) k z↔(z=(nd (h+1) k:Int)/\∃m:Nat,(m:Int)∈late/\m/2^(h+1)=k)\/Lset late h (2*k) z\/Lset late h (2*k+1) z:=by
 have key: ∀m:Nat,m/2^(h+1)=m/2^h/2:=λm=>by rw[Nat.pow_succ,Nat.div_div_eq_div_mul]
 constructor
 ·rintro⟨m,hm,hk,i,hi,rfl⟩
  rcases Nat.eq_or_lt_of_le hi with rfl |hlt
  ·exact .inl ⟨by rw[hk],m,hm,hk⟩
  ·right
   rw[key]at hk
   rcases Nat.mod_two_eq_zero_or_one (m/2^h)with h0 |h0
   ·exact .inl ⟨m,hm,by omega,i,by omega,rfl⟩
   ·exact .inr ⟨m,hm,by omega,i,by omega,rfl⟩
 ·rintro(⟨rfl,m,hm,hk⟩ |⟨m,hm,hk,i,hi,rfl⟩ |⟨m,hm,hk,i,hi,rfl⟩)
  ·exact⟨m,hm,hk,h+1,Nat.le_refl _,by rw[hk]⟩
  ·exact⟨m,hm,by rw[key];omega,i,by omega,rfl⟩
  ·exact⟨m,hm,by rw[key];omega,i,by omega,rfl⟩
theorem zoz{late:List Int}(hl: ∀u∈late,za6 u){h k:Nat}(hh:h<=16)(hk:k<2^(16-h)):late.any (λu=>za2 (2*u) (nd h k))=true↔∃m:Nat,(m:Int)∈late/\m/2^h=k:=by
 rw[List.any_eq_true]
 constructor
 ·rintro⟨u,hu,h1⟩
  obtain⟨m,rfl,hm,_⟩:=znz (hl u hu)
  exact⟨m,hu,(zdi hh hk hm).1 h1⟩
 ·rintro⟨m,hm,h1⟩
  have:=hl _ hm
  unfold za6 at this
  exact⟨m,hm,(zdi hh hk (by omega)).2 h1⟩
theorem zvg(O:List Spot){late:List Int}(hl: ∀u∈late,za6 u): ∀(h k:Nat),h<=16->k<2^(16-h)->late.any (λu=>za2 (2*u) (nd h k))=true->
  ((shP O h k false late).1.all (found O)=true↔∀z,Lset late h k z->found O z=true)/\((shP O h k false late).1.all (found O)=true->∀z,z∈(shP O h k false late).1↔Lset late h k z)
 |0,k,hh,hk,ha=>by
  obtain⟨m,hm,hmk⟩:=(zoz hl hh hk).1 ha
  have hL: ∀z,Lset late 0 k z↔z=(nd 0 k:Int):=λz=>by
   constructor
   ·rintro⟨m',_,e,i,hi,rfl⟩
    have:i=0:=by omega
    subst this
    rw[e]
   ·rintro rfl
    exact⟨m,hm,hmk,0,Nat.le_refl _,by rw[hmk]⟩
  simp only[hL,shP]
  simp
 |h+1,k,hh,hk,ha=>by
  obtain⟨m,hm,hmk⟩:=(zoz hl hh hk).1 ha
  have hk2:=zsa hh hk
  have hx:Lset late (h+1) k (nd (h+1) k):=zjg.2 (.inl ⟨rfl,m,hm,hmk⟩)
  unfold shP
  cases hf:zaf O (nd (h+1) k)with
  |none=>
   simp only[List.all_cons,List.all_nil,Bool.and_true,found,hf]
   refine⟨⟨λg=>(by cases g),λg=>?_⟩,λg=>(by cases g)⟩
   have:=g _ hx
   simp[found,hf]at this
  |some n=>
   simp only[Bool.false_and,Bool.false_eq_true,if_false]
   have kid: ∀j,j<2^(16-h)->((kidS (λj w l=>shP O h j w l) h false late j).1.all (found O)=true↔∀z,Lset late h j z->found O z=true)/\((kidS (λj w l=>shP O h j w l) h false late j).1.all (found O)=true->∀z,z∈(kidS (λj w l=>shP O h j w l) h false late j).1↔Lset late h j z):=λj hj=>by
    unfold kidS
    simp only[Bool.false_eq_true,if_false]
    split
    ·rename_i hany
     exact zvg O hl h j (by omega) hj hany
    ·rename_i hany
     have hno: ∀z,¬Lset late h j z:=by
      rintro z ⟨m',hm',e,_⟩
      exact hany ((zoz hl (by omega) hj).2 ⟨m',hm',e⟩)
     simp[hno]
   obtain⟨a1,a2⟩:=kid (2*k) (by omega)
   obtain⟨b1,b2⟩:=kid (2*k+1) hk2
   generalize kidS (λj w l=>shP O h j w l) h false late (2*k)=s1 at*
   generalize kidS (λj w l=>shP O h j w l) h false late (2*k+1)=s2 at*
   have hall:(s1.1++[(nd (h+1) k:Int)]++s2.1).all (found O)=true↔s1.1.all (found O)=true/\s2.1.all (found O)=true:=by
    simp only[List.all_append,List.all_cons,List.all_nil,Bool.and_true,Bool.and_eq_true,found,hf,Option.isSome_some,and_true]
   rw[hall,a1,b1]
   refine⟨⟨λ⟨u,v⟩ z hz=>?_,λhz=>⟨λz h=>hz z (zjg.2 (.inr (.inl h))),λz h=>hz z (zjg.2 (.inr (.inr h)))⟩⟩,λ⟨u,v⟩ z=>?_⟩
   ·rcases zjg.1 hz with⟨rfl,_⟩ |hz |hz
    ·simp[found,hf]
    ·exact u z hz
    ·exact v z hz
   ·have m1:=a2 (a1.2 u) z
    have m2:=b2 (b1.2 v) z
    rw[List.mem_append,List.mem_append,m1,m2,zjg]
    constructor
    ·rintro((h |h) |h)
     ·exact .inr (.inl h)
     ·exact .inl ⟨by simpa using h,m,hm,hmk⟩
     ·exact .inr (.inr h)
    ·rintro(⟨rfl,_⟩ |h |h)
     ·exact .inl (.inr (by simp))
     ·exact .inl (.inl h)
     ·exact .inr h
def Winv(O:List Spot)(x:Int)(a:List Int×Bool):Prop:=a.2=true↔∀z∈a.1,z≠x->found O z=true
theorem z9g{O:List Spot}{x z:Int}{a:List Int×Bool}(h:Winv O x a):Winv O x (zbq O x a z):=by
 unfold zbq Winv at*
 split
 ·rename_i hc
  simp only[Bool.and_eq_true]
  rw[h]
  constructor
  ·rintro⟨h1,h2⟩ y hy hne
   rcases List.mem_append.1 hy with hy |hy
   ·exact h1 y hy hne
   ·rw[mem1 hy];exact h2
  ·intro h1
   exact⟨λy hy hne=>h1 y (List.mem_append_left _ hy) hne,h1 z (by simp) hc.1⟩
 ·exact h
theorem z9h{O:List Spot}{x z y:Int}{a:List Int×Bool}:y∈(zbq O x a z).1↔y∈a.1\/(y=z/\z≠x/\za2 z x=true):=by
 unfold zbq
 split
 ·rename_i hc
  rw[List.mem_append]
  constructor
  ·rintro(h |h)
   ·exact .inl h
   ·exact .inr ⟨mem1 h,hc.1,hc.2.1⟩
  ·rintro(h |⟨rfl,_⟩)
   ·exact .inl h
   ·exact .inr (by simp)
 ·rename_i hc
  constructor
  ·exact .inl
  ·rintro(h |⟨rfl,h1,h2⟩)
   ·exact h
   ·by_cases hm:y∈a.1
    ·exact hm
    ·exact absurd ⟨h1,h2,hm⟩ hc
theorem ziub{O:List Spot}{x:Int}: ∀(l:List Int) (a:List Int×Bool),Winv O x a->Winv O x (l.foldl (zbq O x) a)/\∀y,y∈(l.foldl (zbq O x) a).1↔y∈a.1\/(y∈l/\y≠x/\za2 y x=true):=by
 intro l
 induction l with
 |nil=>intro a h;exact⟨h,λy=>by simp⟩
 |cons z l ih=>
  intro a h
  obtain⟨h1,h2⟩:=ih (zbq O x a z) (z9g h)
  refine⟨h1,λy=>?_⟩
  rw[List.foldl_cons,h2,z9h,List.mem_cons]
  constructor
  ·rintro((h |⟨rfl,h3⟩) |⟨h3,h4⟩)
   ·exact .inl h
   ·exact .inr ⟨.inl rfl,h3⟩
   ·exact .inr ⟨.inr h3,h4⟩
  ·rintro(h |⟨rfl |h3,h4⟩)
   ·exact .inl (.inl h)
   ·exact .inl (.inr ⟨rfl,h4⟩)
   ·exact .inr ⟨h3,h4⟩
theorem z9a{O:List Spot}{x n:Int}: ∀(late:List Int) (a:List Int×Bool),Winv O x a->Winv O x (zc8 O x n late a)/\∀y,y∈(zc8 O x n late a).1↔y∈a.1\/((∃u∈late,y∈upL n u)/\y≠x/\za2 y x=true):=by
 intro late
 induction late with
 |nil=>intro a h;exact⟨h,λy=>by simp[zc8]⟩
 |cons u late ih=>
  intro a h
  obtain⟨h1,h2⟩:=ziub (upL n u) a h
  obtain⟨h3,h4⟩:=ih _ h1
  refine⟨h3,λy=>?_⟩
  have:zc8 O x n (u::late) a=zc8 O x n late ((upL n u).foldl (zbq O x) a):=rfl
  rw[this,h4,h2]
  constructor
  ·rintro((h |⟨h5,h6⟩) |⟨⟨u',hu',h5⟩,h6⟩)
   ·exact .inl h
   ·exact .inr ⟨⟨u,by simp,h5⟩,h6⟩
   ·exact .inr ⟨⟨u',by simp[hu'],h5⟩,h6⟩
  ·rintro(h |⟨⟨u',hu',h5⟩,h6⟩)
   ·exact .inl (.inl h)
   ·rcases List.mem_cons.1 hu' with rfl |hu'
    ·exact .inl (.inr ⟨h5,h6⟩)
    ·exact .inr ⟨⟨u',hu',h5⟩,h6⟩
theorem zt3{d m:Nat}(hd:d<=16)(hm:m<2^d)(z:Int):z∈upL ((2^d:Nat):Int) m↔∃i,i<=d/\z=(nd i (m/2^i):Int):=by
 have e:2*(m:Int)=(nd 0 m:Int):=by rw[zde];omega
 unfold upL
 rw[e,zmj hd hm,List.mem_cons,List.mem_map]
 constructor
 ·rintro(rfl |⟨i,hi,rfl⟩)
  ·exact⟨0,by omega,by simp⟩
  ·rw[List.mem_range]at hi
   exact⟨i+1,by omega,rfl⟩
 ·rintro⟨i,hi,rfl⟩
  cases i with
  |zero=>left;simp
  |succ i=>exact .inr ⟨i,List.mem_range.2 (by omega),rfl⟩
theorem zc2{d:Nat}(hd:d<=16):2^d<=65536:=Nat.pow_le_pow_right (n:=2) (by omega) (show d<=16 from hd)
theorem lt16{d h k:Nat}(hd:d<=16)(hk:k<2^(d-h)):k<2^(16-h):=Nat.lt_of_lt_of_le hk (Nat.pow_le_pow_right (by omega) (by omega))
theorem z5e{d h k:Nat}(hd:d<=16)(hh:h<=d)(hk:k<2^(d-h)){late:List Int}(hl: ∀u∈late,za6 u)(hu: ∀u∈late,za2 (2*u) (nd h k)=true)(y:Int):
  ((∃u∈late,y∈upL ((2^d:Nat):Int) u)/\y≠(nd h k:Int)/\za2 y (nd h k)=true)↔Lset late h k y/\y≠(nd h k:Int):=by
 have hm: ∀m:Nat,(m:Int)∈late->m<65536/\m/2^h=k:=λm hm=>by
  have h1:=hl _ hm
  unfold za6 at h1
  exact⟨by omega,(zdi (by omega) (lt16 hd hk) (by omega)).1 (hu _ hm)⟩
 have hmd: ∀m:Nat,(m:Int)∈late->m<2^d:=λm hml=>by
  have h1:=(hm m hml).2
  have h2:m< (k+1)*2^h:=by
   have:=Nat.lt_div_mul_add (a:=m) (zag h)
   rw[h1]at this
   rw[Nat.add_mul];omega
  have h3:(k+1)*2^h<=2^(d-h)*2^h:=Nat.mul_le_mul_right _ hk
  rw[<-Nat.pow_add,show d-h+h=d by omega]at h3
  omega
 constructor
 ·rintro⟨⟨u,hul,hy⟩,hne,hun⟩
  obtain⟨m,rfl,_,_⟩:=znz (hl u hul)
  obtain⟨i,hi,rfl⟩:=(zt3 hd (hmd m hul) y).1 hy
  have hr:=(zis hd hh hk (zeb hd hi (ze9 (hmd m hul) hi))).1 hun
  obtain⟨hih,_⟩:=zdj.1 hr
  exact⟨⟨m,hul,(hm m hul).2,i,hih,rfl⟩,hne⟩
 ·rintro⟨⟨m,hml,e,i,hi,rfl⟩,hne⟩
  refine⟨⟨m,hml,(zt3 hd (hmd m hml) _).2 ⟨i,by omega,rfl⟩⟩,hne,?_⟩
  refine(zis hd hh hk (zeb hd (by omega) (ze9 (hmd m hml) (by omega)))).2 (zdj.2 ⟨hi,?_⟩)
  rw[Nat.div_div_eq_div_mul,<-Nat.pow_add,show i+(h-i)=h by omega]
  exact e
theorem zevb{n:Node}(hr:n.right=true)(hk:n.kind.toNat≠2):n.par.late=[]:=by
 unfold Node.right at hr
 split at hr
 ·simp only[Bool.and_eq_true,Par.none,decide_eq_true_eq,List.length_eq_zero_iff]at hr
  exact hr.2.2.2
 ·split at hr
  ·simp only[Bool.and_eq_true,Par.none,decide_eq_true_eq,List.length_eq_zero_iff]at hr
   exact hr.2.2.2
  ·cases hr
theorem zf3{O:List Spot}{d:Nat}(hd:d<=16)(hF: ∀x n,zaf O x=some n->zcy x n=true): ∀(h k:Nat),h<=d->k<2^(d-h)->
  ((zax O ((2^d:Nat):Int) h k).2=true↔(shP O h k true []).1.all (found O)=true)/\((zax O ((2^d:Nat):Int) h k).2=true->∀z,z∈(zax O ((2^d:Nat):Int) h k).1↔z∈(shP O h k true []).1)
 |0,k,hh,hk=>by
  unfold zax shP
  cases hf:zaf O (nd 0 k)with
  |none=>simp[found,hf]
  |some n=>
   have hfp:=hF _ _ hf
   simp only[zcy,Bool.and_eq_true,decide_eq_true_eq]at hfp
   have hl:=zevb hfp.1 (by have:=hfp.2.1;simp only[zf0,zcn]at this;simpa using this)
   simp only[hl,zc8,List.foldl_nil]
   simp[found,hf]
 |h+1,k,hh,hk=>by
  have hk16:=lt16 hd hk
  have hk2:2^(d-h)=2*2^(d-(h+1)):=by rw[show d-h=(d-(h+1))+1 by omega,Nat.pow_succ];omega
  unfold zax shP
  cases hf:zaf O (nd (h+1) k)with
  |none=>simp[found,hf]
  |some n=>
   have hfp:=hF _ _ hf
   simp only[zcy,Bool.and_eq_true,decide_eq_true_eq,List.all_eq_true]at hfp
   have hl:=Node.right_late hfp.1
   by_cases h0:n.kind.toNat=0
   ·obtain⟨a1,a2⟩:=zf3 hd hF h (2*k) (by omega) (by omega)
    obtain⟨b1,b2⟩:=zf3 hd hF h (2*k+1) (by omega) (by omega)
    simp only[h0,if_true,decide_true,Bool.and_true,kidS]
    generalize zax O ((2^d:Nat):Int) h (2*k)=s1 at*
    generalize zax O ((2^d:Nat):Int) h (2*k+1)=s2 at*
    simp only[Bool.and_eq_true,List.all_append,List.all_cons,List.all_nil,Bool.and_true,found,hf,Option.isSome_some,and_true]
    refine⟨by rw[a1,b1],λ⟨u,v⟩ z=>?_⟩
    simp only[List.mem_append,a2 u z,b2 v z]
    constructor
    ·rintro((h |h) |h)
     ·exact .inl (.inr h)
     ·exact .inl (.inl h)
     ·exact .inr h
    ·rintro((h |h) |h)
     ·exact .inl (.inr h)
     ·exact .inl (.inl h)
     ·exact .inr h
   ·obtain⟨w1,w2⟩:=z9a (O:=O) (x:=(nd (h+1) k:Int)) (n:=((2^d:Nat):Int)) n.par.late ([(nd (h+1) k:Int)],true) (by unfold Winv;simp)
    simp only[h0,if_false,decide_false,Bool.and_false,if_true]
    unfold Winv at w1
    have w2': ∀y,y∈(zc8 O (nd (h+1) k) ((2^d:Nat):Int) n.par.late ([(nd (h+1) k:Int)],true)).1↔y=(nd (h+1) k:Int)\/(Lset n.par.late h (2*k) y\/Lset n.par.late h (2*k+1) y):=λy=>by
     rw[w2,z5e hd hh hk hl hfp.2.2 y,zjg]
     simp only[List.mem_cons,List.not_mem_nil,or_false]
     constructor
     ·rintro(g |⟨⟨g,_⟩ |g,_⟩)
      ·exact .inl g
      ·exact .inl g
      ·exact .inr g
     ·rintro(g |g)
      ·exact .inl g
      ·by_cases hy:y=(nd (h+1) k:Int)
       ·exact .inl hy
       ·exact .inr ⟨.inr g,hy⟩
    have kid: ∀j,j<2^(16-h)->((kidS (λj w l=>shP O h j w l) h false n.par.late j).1.all (found O)=true↔∀z,Lset n.par.late h j z->found O z=true)/\((kidS (λj w l=>shP O h j w l) h false n.par.late j).1.all (found O)=true->∀z,z∈(kidS (λj w l=>shP O h j w l) h false n.par.late j).1↔Lset n.par.late h j z):=λj hj=>by
     unfold kidS
     simp only[Bool.false_eq_true,if_false]
     split
     ·rename_i hany
      exact zvg O hl h j (by omega) hj hany
     ·rename_i hany
      have hno: ∀z,¬Lset n.par.late h j z:=by
       rintro z ⟨m',hm',e,_⟩
       exact hany ((zoz hl (by omega) hj).2 ⟨m',hm',e⟩)
      simp[hno]
    obtain⟨a1,a2⟩:=kid (2*k) (by have:=zsa (by omega) hk16;omega)
    obtain⟨b1,b2⟩:=kid (2*k+1) (zsa (by omega) hk16)
    generalize kidS (λj w l=>shP O h j w l) h false n.par.late (2*k)=s1 at*
    generalize kidS (λj w l=>shP O h j w l) h false n.par.late (2*k+1)=s2 at*
    generalize zc8 O (nd (h+1) k) ((2^d:Nat):Int) n.par.late ([(nd (h+1) k:Int)],true)=r at*
    have hall:(s1.1++[(nd (h+1) k:Int)]++s2.1).all (found O)=true↔s1.1.all (found O)=true/\s2.1.all (found O)=true:=by
     simp only[List.all_append,List.all_cons,List.all_nil,Bool.and_true,Bool.and_eq_true,found,hf,Option.isSome_some,and_true]
    have hx:found O (nd (h+1) k)=true:=by simp[found,hf]
    have e1:r.2=true↔s1.1.all (found O)=true/\s2.1.all (found O)=true:=by
     rw[w1,a1,b1]
     constructor
     ·intro g
      refine⟨λz hz=>?_,λz hz=>?_⟩
      ·by_cases hzx:z=(nd (h+1) k:Int)
       ·rw[hzx];exact hx
       ·exact g z ((w2' z).2 (.inr (.inl hz))) hzx
      ·by_cases hzx:z=(nd (h+1) k:Int)
       ·rw[hzx];exact hx
       ·exact g z ((w2' z).2 (.inr (.inr hz))) hzx
     ·rintro⟨u,v⟩ z hz hne
      rcases(w2' z).1 hz with g |g |g
      ·exact absurd g hne
      ·exact u z g
      ·exact v z g
    rw[hall]
    refine⟨e1,λg z=>?_⟩
    obtain⟨u,v⟩:=e1.1 g
    rw[w2',List.mem_append,List.mem_append,a2 u z,b2 v z]
    simp only[List.mem_cons,List.not_mem_nil,or_false]
    constructor
    ·rintro(h |h |h)
     ·exact .inl (.inr h)
     ·exact .inl (.inl h)
     ·exact .inr h
    ·rintro((h |h) |h)
     ·exact .inr (.inl h)
     ·exact .inl h
     ·exact .inr (.inr h)
theorem z15{h k:Nat}(hh:h<=16)(hk:k<2^(16-h)):lv ((nd h k:Int)).toNat=h/\((nd h k:Int)).toNat/2^(lv ((nd h k:Int)).toNat+1)=k:=by
 have hn:=zeb (d:=16) (by omega) hh hk
 obtain⟨h',k',hh',hk',e,e1,e2⟩:=zjl hn
 obtain⟨rfl,rfl⟩:=zfz hh hh' (Int.ofNat.inj e)
 exact⟨e1,e2⟩
theorem zit(O:List Spot)(n:Int){h k:Nat}(hh:h<=16)(hk:k<2^(16-h)):zbf O n (nd h k)=zax O n h k:=by
 obtain⟨e1,e2⟩:=z15 hh hk
 unfold zbf
 rw[e2,e1]
def kidT(O:List Spot)(o h:Nat):List Int×List Int:=if found O (nd h (sibN (o/2^h)))then shP O h (sibN (o/2^h)) true []else([],[(nd h (sibN (o/2^h)):Int)])
def topS(O:List Spot)(o:Nat):Nat->List Int×List Int
 |0=>([(nd 0 o:Int)],[])
 |h+1=>if(o/2^h)%2=0 then((topS O o h).1++[(nd (h+1) (o/2^(h+1)):Int)]++(kidT O o h).1,(topS O o h).2++(kidT O o h).2)
  else((kidT O o h).1++[(nd (h+1) (o/2^(h+1)):Int)]++(topS O o h).1,(kidT O o h).2++(topS O o h).2)
theorem zec{d o h:Nat}(ho:o<2^d)(hh:h<d):sibN (o/2^h)<2^(d-h):=by
 rw[show d-h=d-h-1+1 by omega]
 exact z2f (by rw[show d-h-1+1=d-h by omega];exact ze9 ho (by omega))
theorem zl1(o h:Nat):o/2^(h+1)=o/2^h/2:=by rw[Nat.pow_succ,Nat.div_div_eq_div_mul]
theorem zenb(O:List Spot){d o h:Nat}(hd:d<=16)(ho:o<2^d)(hh:h<d):Sh O h (sibN (o/2^h)) (kidT O o h).1 (kidT O o h).2:=by
 have hs:=lt16 hd (zec ho hh)
 unfold kidT
 split
 ·exact zsy O h _ true [] (by omega) hs
 ·exact Sh.stub O h _
theorem zpu(O:List Spot){d o:Nat}(hd:d<=16)(ho:o<2^d): ∀h,h<=d->Sh O h (o/2^h) (topS O o h).1 (topS O o h).2
 |0,_=>by
  have:=zc2 hd
  simpa[topS]using Sh.leaf O (k:=o) (by omega)
 |h+1,hh=>by
  have ih:=zpu O hd ho h (by omega)
  have kd:=zenb O hd ho (show h<d by omega)
  have hk:=lt16 hd (ze9 ho hh)
  have hp:=zl1 o h
  unfold topS
  split
  ·rename_i he
   have e1:2*(o/2^(h+1))=o/2^h:=by omega
   have e2:2*(o/2^(h+1))+1=sibN (o/2^h):=by unfold sibN;rw[if_pos he];omega
   exact Sh.join (by omega) hk (by rw[e1];exact ih) (by rw[e2];exact kd)
  ·rename_i he
   have e1:2*(o/2^(h+1))=sibN (o/2^h):=by unfold sibN;rw[if_neg he];omega
   have e2:2*(o/2^(h+1))+1=o/2^h:=by omega
   exact Sh.join (by omega) hk (by rw[e1];exact kd) (by rw[e2];exact ih)
theorem zey(O:List Spot)(o:Nat): ∀h (z:Int),(z∈(topS O o h).1↔(∃i,i<=h/\z=(nd i (o/2^i):Int))\/∃i,i<h/\z∈(kidT O o i).1)/\(z∈(topS O o h).2↔∃i,i<h/\z∈(kidT O o i).2)
 |0,z=>by
  unfold topS
  constructor
  ·constructor
   ·intro hz;exact .inl ⟨0,Nat.le_refl _,by rw[mem1 hz];simp⟩
   ·rintro(⟨i,hi,rfl⟩ |⟨i,hi,_⟩)
    ·have:i=0:=by omega
     subst this;simp
    ·omega
  ·constructor
   ·intro hz;simp at hz
   ·rintro⟨i,hi,_⟩;omega
 |h+1,z=>by
  obtain⟨i1,i2⟩:=zey O o h z
  have hA:z∈(topS O o (h+1)).1↔z∈(topS O o h).1\/z=(nd (h+1) (o/2^(h+1)):Int)\/z∈(kidT O o h).1:=by
   simp only[topS]
   split
   ·simp only[List.mem_append,List.mem_cons,List.not_mem_nil,or_false,or_assoc]
   ·simp only[List.mem_append,List.mem_cons,List.not_mem_nil,or_false]
    constructor
    ·rintro((g |g) |g)
     ·exact .inr (.inr g)
     ·exact .inr (.inl g)
     ·exact .inl g
    ·rintro(g |g |g)
     ·exact .inr g
     ·exact .inl (.inr g)
     ·exact .inl (.inl g)
  have hB:z∈(topS O o (h+1)).2↔z∈(topS O o h).2\/z∈(kidT O o h).2:=by
   simp only[topS]
   split
   ·simp only[List.mem_append]
   ·simp only[List.mem_append];exact Or.comm
  rw[hA,hB,i1,i2]
  constructor
  ·constructor
   ·rintro((⟨i,hi,g⟩ |⟨i,hi,g⟩) |g |g)
    ·exact .inl ⟨i,by omega,g⟩
    ·exact .inr ⟨i,by omega,g⟩
    ·exact .inl ⟨h+1,Nat.le_refl _,g⟩
    ·exact .inr ⟨h,by omega,g⟩
   ·rintro(⟨i,hi,g⟩ |⟨i,hi,g⟩)
    ·rcases Nat.eq_or_lt_of_le hi with rfl |hlt
     ·exact .inr (.inl g)
     ·exact .inl (.inl ⟨i,by omega,g⟩)
    ·rcases Nat.eq_or_lt_of_le (Nat.le_of_lt_succ hi)with rfl |hlt
     ·exact .inr (.inr g)
     ·exact .inl (.inr ⟨i,hlt,g⟩)
  ·constructor
   ·rintro(⟨i,hi,g⟩ |g)
    ·exact⟨i,by omega,g⟩
    ·exact⟨h,by omega,g⟩
   ·rintro⟨i,hi,g⟩
    rcases Nat.eq_or_lt_of_le (Nat.le_of_lt_succ hi)with rfl |hlt
    ·exact .inr g
    ·exact .inl ⟨i,hlt,g⟩
theorem zbdb{all:List Int}: ∀(l acc:List Int) (z:Int),z∈l.foldl (zee all) acc↔z∈acc\/((∃x∈l,zbw x=z\/zbo x=z)/\0<=z/\z∉all):=by
 have one: ∀(acc:List Int) (c z:Int),z∈addK all acc c↔z∈acc\/(c=z/\0<=z/\z∉all):=by
  intro acc c z
  unfold addK
  split
  ·rename_i hc
   rw[List.mem_append]
   constructor
   ·rintro(g |g)
    ·exact .inl g
    ·rw[mem1 g];exact .inr ⟨rfl,hc⟩
   ·rintro(g |⟨rfl,_⟩)
    ·exact .inl g
    ·exact .inr (by simp)
  ·rename_i hc
   constructor
   ·exact .inl
   ·rintro(g |⟨rfl,g⟩)
    ·exact g
    ·exact absurd g hc
 intro l
 induction l with
 |nil=>intro acc z;simp
 |cons y l ih=>
  intro acc z
  rw[List.foldl_cons,ih,zee,one,one]
  constructor
  ·rintro(((g |⟨g,h⟩) |⟨g,h⟩) |⟨⟨x,hx,g⟩,h⟩)
   ·exact .inl g
   ·exact .inr ⟨⟨y,by simp, .inl g⟩,h⟩
   ·exact .inr ⟨⟨y,by simp, .inr g⟩,h⟩
   ·exact .inr ⟨⟨x,by simp[hx],g⟩,h⟩
  ·rintro(g |⟨⟨x,hx,g⟩,h⟩)
   ·exact .inl (.inl (.inl g))
   ·rcases List.mem_cons.1 hx with rfl |hx
    ·rcases g with g |g
     ·exact .inl (.inl (.inr ⟨g,h⟩))
     ·exact .inl (.inr ⟨g,h⟩)
    ·exact .inr ⟨⟨x,hx,g⟩,h⟩
theorem zmi{s:Lean_}{d o:Nat}(hd:d<=16)(ho:o<2^d)(hn:s.leaves=((2^d:Nat):Int))(he:s.own=(o:Int))(z:Int):z∈ownL s↔∃i,i<=d/\z=(nd i (o/2^i):Int):=by
 have:=zt3 hd ho z
 unfold ownL
 rw[hn,he]
 exact this
theorem zz5{s:Lean_}{d o:Nat}(hd:d<=16)(ho:o<2^d)(hn:s.leaves=((2^d:Nat):Int))(he:s.own=(o:Int)):zb6 (2*s.own) s.leaves=(List.range d).map λi=>(nd i (sibN (o/2^i)):Int):=by
 rw[hn,he,show 2*(o:Int)=(nd 0 o:Int)by rw[zde];omega,zft hd ho]
theorem zg9{s:Lean_}{d o:Nat}(hd:d<=16)(ho:o<2^d)(hn:s.leaves=((2^d:Nat):Int))(he:s.own=(o:Int))(c:Int):c∈zg1 s true↔∃i,i<d/\c=(nd i (sibN (o/2^i)):Int)/\found s.opn c=true:=by
 unfold zg1
 rw[zz5 hd ho hn he,List.mem_filter,List.mem_map]
 simp only[beq_iff_eq,List.mem_range]
 constructor
 ·rintro⟨⟨i,hi,rfl⟩,h⟩;exact⟨i,hi,rfl,h⟩
 ·rintro⟨i,hi,rfl,h⟩;exact⟨⟨i,hi,rfl⟩,h⟩
theorem z51{s:Lean_}{d o:Nat}(hd:d<=16)(ho:o<2^d)(hn:s.leaves=((2^d:Nat):Int))(he:s.own=(o:Int))(hF: ∀x n,zaf s.opn x=some n->zcy x n=true):
  (∀z∈(topS s.opn o d).1,found s.opn z=true)↔(∀z∈ownL s,found s.opn z=true)/\∀c∈zg1 s true,(zbf s.opn s.leaves c).2=true:=by
 have hown:=zmi hd ho hn he
 constructor
 ·intro h
  refine⟨λz hz=>h z (((zey s.opn o d z).1).2 (.inl ((hown z).1 hz))),λc hc=>?_⟩
  obtain⟨i,hi,rfl,hf⟩:=(zg9 hd ho hn he c).1 hc
  rw[zit _ _ (by omega) (lt16 hd (zec ho hi)),hn]
  refine((zf3 hd hF i _ (by omega) (zec ho hi)).1).2 ?_
  rw[List.all_eq_true]
  intro z hz
  refine h z (((zey s.opn o d z).1).2 (.inr ⟨i,hi,?_⟩))
  unfold kidT
  rw[if_pos hf]
  exact hz
 ·rintro⟨a,b⟩ z hz
  rcases((zey s.opn o d z).1).1 hz with g |⟨i,hi,g⟩
  ·exact a z ((hown z).2 g)
  ·unfold kidT at g
   split at g
   ·rename_i hf
    have h1:=b _ ((zg9 hd ho hn he _).2 ⟨i,hi,rfl,hf⟩)
    rw[zit _ _ (by omega) (lt16 hd (zec ho hi)),hn]at h1
    have h2:=((zf3 hd hF i _ (by omega) (zec ho hi)).1).1 h1
    rw[List.all_eq_true]at h2
    exact h2 z g
   ·simp at g
theorem zesb{s:Lean_}{d o:Nat}(hd:d<=16)(ho:o<2^d)(hn:s.leaves=((2^d:Nat):Int))(he:s.own=(o:Int))(hF: ∀x n,zaf s.opn x=some n->zcy x n=true)(hw: ∀c∈zg1 s true,(zbf s.opn s.leaves c).2=true)(z:Int):z∈allL s↔z∈(topS s.opn o d).1:=by
 have hown:=zmi hd ho hn he
 rw[(zey s.opn o d z).1]
 unfold allL
 rw[List.mem_append,hown,List.mem_flatMap]
 refine or_congr Iff.rfl ?_
 constructor
 ·rintro⟨c,hc,hz⟩
  obtain⟨i,hi,rfl,hf⟩:=(zg9 hd ho hn he c).1 hc
  have h1:=hw _ hc
  rw[zit _ _ (by omega) (lt16 hd (zec ho hi)),hn]at h1 hz
  have h2:=(zf3 hd hF i _ (by omega) (zec ho hi)).2 h1 z
  refine⟨i,hi,?_⟩
  unfold kidT
  rw[if_pos hf]
  exact h2.1 hz
 ·rintro⟨i,hi,g⟩
  unfold kidT at g
  split at g
  ·rename_i hf
   have hc:=(zg9 hd ho hn he _).2 ⟨i,hi,rfl,hf⟩
   have h1:=hw _ hc
   refine⟨_,hc,?_⟩
   rw[zit _ _ (by omega) (lt16 hd (zec ho hi)),hn]at h1⊢
   exact((zf3 hd hF i _ (by omega) (zec ho hi)).2 h1 z).2 g
  ·simp at g
theorem zyj{s:Lean_}{d o:Nat}(hd:d<=16)(ho:o<2^d)(hf: ∀z∈(topS s.opn o d).1,found s.opn z=true)(hm: ∀z,z∈allL s↔z∈(topS s.opn o d).1)(z:Int):z∈zpo s↔z∈(topS s.opn o d).2:=by
 have sh:=zpu s.opn hd ho d (Nat.le_refl _)
 unfold zpo
 rw[zbdb]
 have h0:o/2^d=0:=Nat.div_eq_of_lt ho
 rw[h0]at sh
 constructor
 ·rintro(g |⟨⟨x,hx,g⟩,hz,hna⟩)
  ·cases g
  ·rw[hm]at hx hna
   have hk:=sh.kids x hx (hf x hx)
   rcases g with rfl |rfl
   ·exact(hk.1 hz).resolve_left hna
   ·exact(hk.2 hz).resolve_left hna
 ·intro hz
  right
  have hna:z∉allL s:=λh=>sh.dj z ((hm z).1 h) hz
  refine⟨?_,z1w (sh.rb z hz),hna⟩
  rcases sh.back z hz with rfl |⟨x,hx,g⟩
  ·exfalso
   refine sh.dj _ (((zey s.opn o d _).1).2 (.inl ⟨d,Nat.le_refl _,by rw[h0]⟩)) hz
  ·exact⟨x,(hm x).2 hx,g⟩
theorem zb1{S:St}(pub:Bool)(id i:Nat)(e:TypeId)(sz:Nat){cells:List TF}(ho:oget S.O id=some (.box cells))(hc:cells[i]?=some (.r (.x (.slice none 0 0)))):
  Sub S {F:=S.F,O:=(id,some (.box (cells.set i (.own S.nx))))::(S.nx,some (.ch e sz 0 [] pub))::S.O,nx:=S.nx+1}:=by
 rintro B N a w k ⟨g,hs⟩
 have h:=hs.adopt (dst:=none) (λd hd=>by cases hd) (o:= .ch e sz 0 [] pub) (vb:=(.slice none 0 0,none)) trivial ⟨by simp, .inl ⟨rfl, .inl ⟨rfl,none,rfl⟩⟩⟩ (λb hb=>by cases hb) (λi o' b _ hb=>by cases hb)
 have e0:a.put none (.slice none 0 0)=a:=rfl
 simp only[St.mk_]at h
 rw[e0]at h
 obtain⟨p1,p2,p3,p4⟩:=hs.owns id _ ho
 have hid:oget ((S.nx,some (Ow.ch e sz 0 [] pub))::S.O) id=some (.box cells):=by
  simp only[oget]
  split
  ·rename_i hb;have:=Nat.eq_of_beq_eq_true hb;omega
  ·exact ho
 have hg:(g.set S.nx ((Value.slice none 0 0),none)) S.nx=((Value.slice none 0 0),none):=by rw[Env.set_eq]
 have old: ∀x ox,oget ((id,some (Ow.box (cells.set i (.own S.nx))))::(S.nx,some (Ow.ch e sz 0 [] pub))::S.O) x=some ox->∃ox',oget ((S.nx,some (Ow.ch e sz 0 [] pub))::S.O) x=some ox':=λx ox hx=>by
  rcases zav hx with⟨rfl,_⟩ |⟨_,h'⟩
  ·exact⟨_,hid⟩
  ·exact⟨_,h'⟩
 refine⟨k,_,h.size,h.defers,h.keep,h.kk,h.facts,λj o' ho'=>?_,λx y ox oy b hx hy hne hb=>?_⟩
 ·rcases zav ho' with⟨rfl,e'⟩ |⟨hne,h'⟩
  ·cases e'
   obtain⟨q1,q2,q3,q4⟩:=h.owns _ _ hid
   refine⟨q1,λf hf=>?_,?_,q4⟩
   ·rcases List.mem_or_eq_of_mem_set hf with hf |rfl
    ·exact q2 f hf
    ·exact Nat.lt_succ_self _
   ·obtain⟨b,cur,t,e1,e2,e3,e4,e5⟩:=q3
    refine⟨b,cur,t,e1,e2,e3,by simpa using e4,λj f u hf hu=>?_⟩
    rw[List.getElem?_set]at hf
    split at hf
    ·rename_i hij
     subst hij
     split at hf
     ·cases hf
      obtain⟨u1,u2⟩:=e5 i _ u hc hu
      simp only[TF.at_,RV.at_]at u2
      exact⟨u1,by simp only[TF.at_];rw[hg];exact u2⟩
     ·cases hf
    ·exact e5 j f u hf hu
  ·exact h.owns j o' h'
 ·obtain⟨ox',hx'⟩:=old x ox hx
  obtain⟨oy',hy'⟩:=old y oy hy
  exact h.apart x y ox' oy' b hx' hy' hne hb
theorem cvc{ρ:List (Nat×Nat)}{S:St}{f g:TF}{fs gs:List TF}(h:cvTF ρ S f g)(r:zgv ρ S fs gs):zgv ρ S (f::fs) (g::gs):=⟨_,_,rfl,h,r⟩
abbrev zc3(L:List Spot):Ow:= .ch 132 11 L.length (L.flatMap Spot.c) true
abbrev zda(L:List Stub):Ow:= .ch 134 2 L.length (L.flatMap Stub.c) true
abbrev zero4:List RV:=[I 0,I 0, .x (.slice none 0 0), .x (.slice none 0 0)]
theorem zk1(n:Node)(hn:n.fit)(hcl:bG 96 [.ag n.leaf.c] (.r (.ag n.leaf.c))):bG 57 [.ag n.c] (.r (.ag n.c)):=by
 refine bT Tryz.func57 rfl ?_
 obtain⟨h1,h2⟩:=hn
 refine za rfl rfl ?_
 refine ze hcl ?_
 refine bV ?_
 refine ze (zcj n.par.box (by have:=h2.1;omega)) ?_
 refine ze (zcj n.par.hash (by have:=h2.2.1;omega)) ?_
 refine ze (z9v n.par.late (by have:=h2.2.2.1;omega)) ?_
 refine za rfl rfl ?_
 refine za rfl rfl ?_
 exact cr
section
variable {P:Program} {T:TT} {B:Bs} {N:Nat} {S:St} {a:Act} {w:World} {k:Kp} {g:Env} {o:Oper}
theorem Vstep.sto{t:TypeId}{x y:Operand}{K:St->Prop}(hT:TOk P T)(hop:o.op= .store t x y)(h:Sx.sto T S o.dst t x y K):Vstep P S o K:=
 ⟨{S':St//K S'},λi=>i.1,λB N a w k Q ⟨g,hs⟩ _=>Oper.wp_mono (λa' w' ⟨S',k',hK,hs'⟩=>⟨⟨S',hK⟩,k',hs'⟩) (zop (Q:=Q) hT hs hop h),λi=>i.2⟩
theorem Vstep.nmB(id t:Nat){cells:List TF}(ho:oget S.O id=some (.box cells)){K:St->Prop}(h: ∀b:Nat,Vstep P ⟨(t, .nm id (.pointer (some ⟨b,0,none⟩)))::S.F,S.O,S.nx⟩ o K):Vstep P S o K:=by
 refine⟨Σ b:Nat,(h b).out.choose,λx=>(h x.1).out.choose_spec.choose x.2,λB N a w k Q hs0 hd=>?_,λx=>(h x.1).out.choose_spec.choose_spec.2 x.2⟩
 obtain⟨g,hs⟩:=hs0
 obtain⟨hid,_,hat,_⟩:=hs.owns id _ ho
 simp only[Ow.at_]at hat
 obtain⟨b,cur,ty,e,_⟩:=hat
 have hs1:Sat B N ⟨(t, .nm id (.pointer (some ⟨b,0,none⟩)))::S.F,S.O,S.nx⟩ a w k:=by
  refine⟨g,hs.size,hs.defers,hs.keep,hs.kk,λt' f hf=>?_,hs.owns,hs.apart⟩
  rcases zbd hf with⟨rfl,rfl⟩ |⟨_,hf⟩
  ·exact⟨hid,by simp only[TF.at_];rw[e]⟩
  ·exact hs.facts t' f hf
 refine Oper.wp_mono ?_ ((h b).out.choose_spec.choose_spec.1 B N a w k Q hs1 hd)
 rintro a' w' ⟨i,k',hs'⟩
 exact⟨⟨b,i⟩,k',hs'⟩
theorem zq9{id t tn b off:Nat}{cells:List TF}(ho:oget S.O id=some (.box cells))(hn:fget S.F tn=some (.nm id (.pointer (some ⟨b,0,none⟩))))(ht:fget S.F t=some (.r (.x (.pointer (some ⟨b,off,none⟩))))):Sub S ⟨(t, .adr id off)::S.F,S.O,S.nx⟩:=by
 intro B N a w k ⟨g,hs⟩
 obtain⟨hid,_,hat,_⟩:=hs.owns id _ ho
 simp only[Ow.at_]at hat
 obtain⟨b',cur,ty,e,_⟩:=hat
 have h1:=(hs.facts tn _ hn).2
 simp only[TF.at_]at h1
 rw[e]at h1
 simp only[Value.pointer.injEq,Option.some.injEq,Addr.mk.injEq,and_true]at h1
 have h2:=(hs.facts t _ ht).2
 simp only[TF.at_,RV.at_]at h2
 refine⟨k,g,hs.size,hs.defers,hs.keep,hs.kk,λt' f hf=>?_,hs.owns,hs.apart⟩
 rcases zbd hf with⟨rfl,rfl⟩ |⟨_,hf⟩
 ·exact⟨hid,by simp only[TF.at_];exact⟨b,by rw[e,h1],h2⟩⟩
 ·exact hs.facts t' f hf
theorem Vstep.callX{x:Operand}{ts:Array TypeId}{f:FuncId}{id tn b:Nat}{r:RV}{K:St->Prop}(hop:o.op= .call {callee:= .value (.func f),args:= #[x],argTypes:=ts}) (hx:opr S x=some (.own id)) (hn:fget S.F tn=some (.nm id (.pointer (some ⟨b,0,none⟩)))) (hg:zab P f [.x (.pointer (some ⟨b,0,none⟩))] (.r r)) (hK:newK S o.dst (.r r) none K):Vstep P S o K:=by
 rw[za4]at hK
 refine Vstep.one (λB N a w k Q ⟨g,hs⟩ hd=>?_) hK
 have h1:=(zah hs hx).2
 have h2:=(hs.facts tn _ hn).2
 simp only[TF.at_]at h1 h2
 rw[h2]at h1
 have:=zix (o:=o) (Q:=Q) (K:=λf ow=>f= .r r/\ow=none) hs (us:=[a.eval x]) (vs:=[.x (.pointer (some ⟨b,0,none⟩))]) (by simp only[RV.partsAt,RV.at_];exact⟨_,_,rfl,h1,rfl⟩) (zn _) hg (by simp[execOp,hop,resolve,Act.eval,Deferred.ofValue,invoke]) ⟨rfl,rfl⟩
 refine Oper.wp_mono ?_ this
 rintro a' w' ⟨f',ow,u,k',⟨rfl,rfl⟩,rfl,hl⟩
 exact⟨k',hl.sat hs hd⟩
theorem Vcode.nmB(id t:Nat){cells:List TF}(ho:oget S.O id=some (.box cells)){c:Code}{Q:Exit->St->Prop}(h: ∀b:Nat,Vcode P c ⟨(t, .nm id (.pointer (some ⟨b,0,none⟩)))::S.F,S.O,S.nx⟩ Q):Vcode P c S Q:=by
 refine⟨λB N a w k Q' ⟨g,hs⟩ hd hQ=>?_⟩
 obtain⟨hid,_,hat,_⟩:=hs.owns id _ ho
 simp only[Ow.at_]at hat
 obtain⟨b,cur,ty,e,_⟩:=hat
 refine(h b).out B N a w k Q' ⟨g,hs.size,hs.defers,hs.keep,hs.kk,λt' f hf=>?_,hs.owns,hs.apart⟩ hd hQ
 rcases zbd hf with⟨rfl,rfl⟩ |⟨_,hf⟩
 ·exact⟨hid,by simp only[TF.at_];rw[e]⟩
 ·exact hs.facts t' f hf
theorem Vcode.subp(hm:P.follows .mixedOrders=true)(hT:TOk P T){c:Code}{S':St}{Q:Exit->St->Prop}(hs:Sub S S')(h:Sx.vcg P T c S' Q):Vcode P c S Q:=
 ⟨λB N a w k Q' hh hd hQ=>by obtain⟨k',h'⟩:=hs B N a w k hh;exact za3 hm hT c S' Q h B N a w k' Q' h' hd hQ⟩
theorem zfob{id t tn b off:Nat}{cells:List TF}(ho:oget S.O id=some (.box cells))(hn:fget S.F tn=some (.nm id (.pointer (some ⟨b,0,none⟩))))(ht:fget S.F t=some (.adr id off)):Sub S ⟨(t, .r (.x (.pointer (some ⟨b,off,none⟩))))::S.F,S.O,S.nx⟩:=by
 intro B N a w k ⟨g,hs⟩
 obtain⟨hid,_,hat,_⟩:=hs.owns id _ ho
 simp only[Ow.at_]at hat
 obtain⟨b',cur,ty,e,_⟩:=hat
 have h1:=(hs.facts tn _ hn).2
 simp only[TF.at_]at h1
 rw[e]at h1
 simp only[Value.pointer.injEq,Option.some.injEq,Addr.mk.injEq,and_true]at h1
 have h2:=(hs.facts t _ ht).2
 simp only[TF.at_]at h2
 obtain⟨b2,e2,h2⟩:=h2
 rw[e]at e2
 simp only[Option.some.injEq]at e2
 refine⟨k,g,hs.size,hs.defers,hs.keep,hs.kk,λt' f hf=>?_,hs.owns,hs.apart⟩
 rcases zbd hf with⟨rfl,rfl⟩ |⟨_,hf⟩
 ·exact⟨trivial,by simp only[TF.at_,RV.at_];rw[h2,<-e2,h1]⟩
 ·exact hs.facts t' f hf
theorem zfpb{id t tn:Nat}{v:Value}(hn:fget S.F tn=some (.nm id v))(ht:fget S.F t=some (.own id)):Sub S ⟨(t, .r (.x v))::S.F,S.O,S.nx⟩:=by
 intro B N a w k ⟨g,hs⟩
 have h1:=(hs.facts tn _ hn).2
 have h2:=(hs.facts t _ ht).2
 simp only[TF.at_]at h1 h2
 refine⟨k,g,hs.size,hs.defers,hs.keep,hs.kk,λt' f hf=>?_,hs.owns,hs.apart⟩
 rcases zbd hf with⟨rfl,rfl⟩ |⟨_,hf⟩
 ·exact⟨trivial,by simp only[TF.at_,RV.at_];rw[h2,h1]⟩
 ·exact hs.facts t' f hf
theorem zb1b{id t tn:Nat}{v:Value}(hn:fget S.F tn=some (.nm id v))(ht:fget S.F t=some (.r (.x v))):Sub S ⟨(t, .own id)::S.F,S.O,S.nx⟩:=by
 intro B N a w k ⟨g,hs⟩
 have h1:=hs.facts tn _ hn
 have h2:=(hs.facts t _ ht).2
 have h3:=h1.1
 have h1:=h1.2
 simp only[TF.at_,RV.at_]at h1 h2
 refine⟨k,g,hs.size,hs.defers,hs.keep,hs.kk,λt' f hf=>?_,hs.owns,hs.apart⟩
 rcases zbd hf with⟨rfl,rfl⟩ |⟨_,hf⟩
 ·exact⟨h3,by simp only[TF.at_];rw[h2,h1]⟩
 ·exact hs.facts t' f hf
theorem zjw{f:FuncId}{args:List RV}{e:TypeId}{sz n:Nat}{cells:List RV}(h:zab P f args (.ch e sz n cells)):zab P f args (.r (.sl sz n cells)):=
 ⟨h.1,λw k vs hp=>(h.2 w k vs hp).mono λ_ _ ⟨v,he,hx,k',hk,hr⟩=>⟨v,he,hx,k',hk,by obtain⟨ob,hc,_⟩:=hr;exact chAt.sl hc⟩⟩
def adrs(id:Nat)(l:List Nat):List TF:=l.map (TF.adr id)
def zoa(S:St):Nat->List (Nat×Operand)->List TF->Prop
 |_,[],fs=>fs=[]
 |i,(j,x)::r,fs=>∃id off gs,j=i/\opr S x=some (.adr id off)/\fs= .adr id off::gs/\zoa S (i+1) r gs
theorem zxf(hs:SatE B N S a w k g): ∀(parts:List (Nat×Operand)) (i:Nat) (fs:List TF) (vs:Array Value),zoa S i parts fs->i+parts.length<=vs.size->
  ∃vs',Instr.fill (λi=>some (i*1,1)) vs (parts.map λ(i,x)=>(i,a.eval x))=some vs'/\vs'.size=vs.size/\(∀j,j<i->vs'[j]?=vs[j]?)/\(∀f∈fs,f.lt S.nx)/\fs.length=parts.length/\
   ∀(j:Nat) (f:TF) (u:Value),fs[j]?=some f->vs'[i+j]?=some u->u.oneCell'=true/\f.at_ w k g u
 |[],i,fs,vs,h,hl=>by
  simp only[zoa]at h
  subst h
  exact⟨vs,rfl,rfl,λ_ _=>rfl,by simp,rfl,λj f u hf=>by simp at hf⟩
 |(j0,x)::r,i,fs,vs,h,hl=>by
  simp only[zoa]at h
  obtain⟨id,off,gs,rfl,hx,rfl,hr⟩:=h
  obtain⟨hlt,hat⟩:=zah hs hx
  have hat':=hat
  simp only[TF.at_]at hat
  obtain⟨b,hb,e⟩:=hat
  simp only[List.length_cons]at hl
  obtain⟨vs',h1,h2,h3,h4,h5,h6⟩:=zxf hs r (j0+1) gs (vs.setIfInBounds j0 (a.eval x)) hr (by simp;omega)
  refine⟨vs',?_,by simpa using h2,λj hj=>?_,?_,by simp[h5],λj f u hf hu=>?_⟩
  ·simp only[List.map_cons,Instr.fill]
   rw[if_neg (by simp[e,Value.cells];omega)]
   rw[<-h1]
   congr 1
   simp[e,Value.cells]
  ·rw[h3 j (by omega),Array.getElem?_setIfInBounds_ne (by omega)]
  ·intro f hf
   rcases List.mem_cons.1 hf with rfl |hf
   ·exact hlt
   ·exact h4 f hf
  ·cases j with
   |zero=>
    simp only[List.getElem?_cons_zero,Option.some.injEq]at hf
    subst hf
    rw[Nat.add_zero,h3 j0 (by omega)]at hu
    have hj:j0<vs.size:=by omega
    simp[hj]at hu
    subst hu
    exact⟨by rw[e];rfl,hat'⟩
   |succ j=>exact h6 j f u (by simpa using hf) (by rw[<-hu];congr 1;omega)
theorem Vstep.bsl{t e:TypeId}{ti te:TI}{n:Nat}{parts:Array (Nat×Operand)}(fs:List TF){K:St->Prop}(hT:TOk P T)(hop:o.op= .buildSlice t n parts)(hti:tget T t=some ti)(hk:ti.k= .slice e)(hte:tget T e=some te)(hsz:te.sz=1)
  (hn:parts.toList.length=n) (hsm:n<=16777216) (hp:zoa S 0 parts.toList fs) (hK:K (({S with O:=(S.nx,some (.box fs))::S.O,nx:=S.nx+1}:St).put o.dst (.cut S.nx 0 n))):Vstep P S o K:=by
 refine Vstep.one (λB N a w k Q ⟨g,hs⟩ hd=>?_) hK
 obtain⟨q,hq⟩:=hT.get hti
 obtain⟨d,hdd,hko,_⟩:=q.desc
 rw[hq]at hdd
 rw[hk]at hko
 simp only[KOk]at hko
 subst hko
 obtain⟨qe,hqe⟩:=hT.get hte
 obtain⟨i,hi,hsi,_,z,hz,hzc⟩:=qe.info
 rw[hqe]at hi
 have hms:(madeCells z.cells (n*te.sz)).size=n:=by rw[hsz];simp[madeCells]
 obtain⟨vs,h1,h2,_,h4,h5,h6⟩:=zxf hs parts.toList 0 fs (madeCells z.cells (n*te.sz)) hp (by rw[hms,hn];omega)
 have hr:=zkj (w:=w) (n:=n) (parts:=parts.map λ(i,x)=>(i,a.eval x)) hdd hi hsi hz (by rw[hsz];omega) (vs:=vs) (by rw[hsz,Array.toList_map];rw[hsz]at h1;exact h1)
 rw[hms]at h2
 have hle:=zqx w k (.cells vs e) 0
 obtain⟨k',he,hkk,hl⟩:=zhr (t:=e) hs (cells:=fs) (cs:=vs) h4 (by rw[h2,h5,hn]) (λj f u hf hu=>h6 j f u hf (by rw[Nat.zero_add];exact hu))
 obtain⟨ob,hob,h7,h8,h9⟩:=hl
 have hs2:=hs.make (dst:=none) (λd h=>by cases h) he hkk (vb:=(.pointer (some ⟨w.heap.size,0,none⟩),ob)) h7 h8 h9
 refine za0 (v:= .slice (some ⟨w.heap.size,0,none⟩) n n) (by simp only[execOp,hop,Sem.run_bind,hr];rfl) ⟨k',_,hs2.put hd (Nat.lt_succ_self S.nx) ?_⟩
 simp only[TF.at_,Env.set_eq]
 refine⟨w.heap.size,n,?_,rfl,Nat.le_refl _,by simp only[maxLen];omega⟩
 simp only[Ow.at_]at h8
 obtain⟨b,cur,ty,e1,_⟩:=h8
 simp only[Prod.mk.injEq,Value.pointer.injEq,Option.some.injEq,Addr.mk.injEq,and_true]at e1
 rw[e1.2,e1.1]
end
end Go.Proofs.YtoegdgbghdnnfaaGreat.Sx
