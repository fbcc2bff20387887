import Derived.Test.YtpdllgbfemnemaaGreatZKr
namespace Go.Proofs.YtpdllgbfemnemaaGreat.Sx
open Go.RowKit
def okR(n:Int)(x:Spot):Bool:=decide (0<=x.at_)&&(decide (x.at_<=2*n-2)&&(x.node.right&&(!(decide (x.at_.tmod 2=0)&&decide (x.node.kind.toNat=2))&&(!(decide (x.at_.tmod 2=1)&&decide (x.node.kind.toNat=1))&&x.node.par.late.all λu=>zal (2*u) x.at_))))
def zbl(O:List Spot)(n c:Int):List Int×Bool:=zay O n (lv c.toNat) (c.toNat/2^(lv c.toNat+1))
def addK(all acc:List Int)(c:Int):List Int:=if 0<=c/\c∉all then acc++[c]else acc
def zgt(all:List Int)(acc:List Int)(x:Int):List Int:=addK all (addK all acc (zbj x)) (zbi x)
def ownL(s:Lean_):List Int:=2*s.own::za4 (2*s.own) s.leaves
def allL(s:Lean_):List Int:=ownL s++(zan s true).flatMap λc=>(zbl s.opn s.leaves c).1
def zjm(s:Lean_):List Int:=(allL s).foldl (zgt (allL s)) []
def zll(s:Lean_):Bool:=
 za0 s.leaves&&(decide (0<=s.own)&&(decide (s.own<s.leaves)&&(s.opn.all (okR s.leaves)&&(s.shut.all (λx=>decide (x.hash.length=32))&&((ownL s).all (λx=>decide (x∈s.opn.map (·.at_)))&&((zan s true).all (λc=>(zbl s.opn s.leaves c).2)&&
  (ze6 s&&(decide (s.opn.map (·.at_)=rise (allL s))&&decide (s.shut.map (·.at_)=rise (zjm s))))))))))
theorem z98(O:List Spot)(hO:O.length<=1000000)(hOl:zh8 O)(n x:Int)(hx:za1 x=true):zaf Tryz.prog 48 [spots O,I x,I n] (.r (.tu [is (zbl O n x).1, .b (zbl O n x).2])):=by
 obtain⟨h,k,hh,hk,e,e1,e2⟩:=zfm hx
 unfold zbl
 rw[e1]at e2⊢
 rw[e2]
 have:=zeib O hO hOl n h k hh hk
 rw[<-e]at this
 exact this
theorem zt8(O:List Spot)(hOl:zh8 O)(n x:Int)(hx:za1 x=true):(zbl O n x).1.length<=190000000000:=by
 obtain⟨h,k,hh,hk,e,e1,e2⟩:=zfm hx
 unfold zbl
 have:=ziu O hOl n (lv x.toNat) (x.toNat/2^(lv x.toNat+1))
 have:=ztt (h:=lv x.toNat) (by omega)
 omega
theorem z5f{O:List Spot}{x:Int}: ∀(l:List Int) (a:List Int×Bool),(∀z∈a.1,za1 z=true)->∀z∈(l.foldl (zby O x) a).1,za1 z=true:=by
 intro l
 induction l with
 |nil=>intro a h;exact h
 |cons y l ih=>
  intro a h
  refine ih _ ?_
  unfold zby
  split
  ·rename_i hc
   intro z hz
   rcases List.mem_append.1 hz with hz |hz
   ·exact h z hz
   ·simp at hz;subst hz
    have:=hc.2.1
    rw[zky]at this
    exact this.1.1
  ·exact h
theorem zu3{O:List Spot}{x n:Int}: ∀(late:List Int) (a:List Int×Bool),(∀z∈a.1,za1 z=true)->∀z∈(zd5 O x n late a).1,za1 z=true:=by
 intro late
 induction late with
 |nil=>intro a h;exact h
 |cons u late ih=>
  intro a h
  exact ih _ (z5f _ _ h)
theorem zmv(O:List Spot)(n:Int): ∀(h k:Nat),h<=16->k<2^(16-h)->∀z∈(zay O n h k).1,za1 z=true
 |0,k,hh,hk=>by
  unfold zay
  split
  ·simp
  ·exact zu3 _ _ (by intro z hz;simp at hz;subst hz;exact zcg (d:=16) (by omega) hh hk)
 |h+1,k,hh,hk=>by
  have hk2:2^(16-h)=2*2^(16-(h+1)):=by rw[show 16-h=(16-(h+1))+1 by omega,Nat.pow_succ];omega
  have i1:=zmv O n h (2*k) (by omega) (by omega)
  have i2:=zmv O n h (2*k+1) (by omega) (by omega)
  have i0:=zcg (d:=16) (by omega) hh hk
  unfold zay
  split
  ·simp
  ·split
   ·intro z hz
    simp only[List.mem_append,List.mem_cons,List.not_mem_nil,or_false]at hz
    rcases hz with(rfl |hz) |hz
    ·exact i0
    ·exact i1 z hz
    ·exact i2 z hz
   ·exact zu3 _ _ (by intro z hz;simp at hz;subst hz;exact i0)
theorem z16(O:List Spot)(n x:Int)(hx:za1 x=true): ∀z∈(zbl O n x).1,za1 z=true:=by
 obtain⟨h,k,hh,hk,e,e1,e2⟩:=zfm hx
 unfold zbl
 rw[e1]at e2⊢
 rw[e2]
 exact zmv O n h k hh hk
theorem z70{s:Lean_}(hf:za0 s.leaves=true)(h0:0<=s.own)(h1:s.own<s.leaves): ∀x∈ownL s,za1 x=true:=by
 have hb:=zc4 hf
 intro x hx
 rcases List.mem_cons.1 hx with rfl |hx
 ·rw[zdl];omega
 ·have:=z0z hx
  rw[zdl];omega
theorem z1e(all acc:List Int)(c:Int):(addK all acc c).length<=acc.length+1:=by unfold addK;split<;>simp
theorem z3m{all acc:List Int}{c:Int}(h: ∀x∈acc,0<=x): ∀x∈addK all acc c,0<=x:=by
 unfold addK
 split
 ·rename_i hc
  intro x hx
  rcases List.mem_append.1 hx with hx |hx
  ·exact h x hx
  ·simp at hx;subst hx;exact hc.1
 ·exact h
theorem zbgb{all:List Int}: ∀(l acc:List Int),(∀x∈acc,0<=x)->(∀x∈l.foldl (zgt all) acc,0<=x)/\(l.foldl (zgt all) acc).length<=acc.length+2*l.length:=by
 intro l
 induction l with
 |nil=>intro acc h;exact⟨h,by simp⟩
 |cons y l ih=>
  intro acc h
  have h1:=ih (zgt all acc y) (z3m (z3m h))
  have h2:=z1e all (addK all acc (zbj y)) (zbi y)
  have h3:=z1e all acc (zbj y)
  refine⟨h1.1,?_⟩
  have:=h1.2
  simp only[List.foldl_cons,List.length_cons,zgt]at*
  omega
theorem zte{f:Int->List Int}{b:Nat}: ∀(l:List Int),(∀x∈l,(f x).length<=b)->(l.flatMap f).length<=b*l.length
 |[],_=>by simp
 |x::l,h=>by
  have h1:=h x (by simp)
  have h2:=zte l λy hy=>h y (by simp[hy])
  simp only[List.flatMap_cons,List.length_append,List.length_cons,Nat.mul_add]
  omega
theorem z9m{f:Int->List Int}{l:List Int}{j:Nat}(hj:j<l.length):(l.take (j+1)).flatMap f=(l.take j).flatMap f++f l[j]:=by
 rw[List.take_add_one,List.getElem?_eq_getElem hj,List.flatMap_append];simp
theorem z4p(s:Lean_)(b:Bool):(zan s b).length<=17:=by
 have h1:=List.length_filter_le (λc=>(zae s.opn c).isSome==b) (zau (2*s.own) s.leaves)
 have h2:=zee (2*s.own) s.leaves
 have h3:=zd2 (2*s.own) s.leaves
 unfold zan
 omega
end Go.Proofs.YtpdllgbfemnemaaGreat.Sx
