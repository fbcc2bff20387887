import Derived.Test.YtpdllgbfemnemaaGreatZPg
namespace Go.Proofs.YtpdllgbfemnemaaGreat.Sx
open Go.RowKit
set_option linter.unusedVariables false
section
def zdp(s:Lean_)(x:Int):List UInt8:=zaj s (lv x.toNat) (x.toNat/2^(lv x.toNat+1))
theorem z7x(s:Lean_){h k:Nat}(hh:h<=16)(hk:k<2^(16-h)):zdp s (nd h k)=zaj s h k:=by
 obtain⟨e1,e2⟩:=zi7 hh hk
 unfold zdp
 rw[e2,e1]
def zjz(s:Lean_):Nat:=s.opn.length+s.shut.length
structure GoodS (s:Lean_) (d o:Nat):Prop where
 right:zbf s=true
 fit:s.fitN
 cnt:zjz s<=1000000
 hd:d<=16
 ho:o<2^d
 hn:s.leaves=((2^d:Nat):Int)
 he:s.own=(o:Int)
theorem GoodS.own{s:Lean_}{d o:Nat}(g:GoodS s d o):za0 s.leaves=true/\0<=s.own/\s.own<s.leaves/\s.lookOk=true:=by
 have hp:=g.right
 simp only[zbf,Bool.and_eq_true,decide_eq_true_eq]at hp
 exact⟨hp.2.1,hp.2.2.1,hp.2.2.2.1,hp.1⟩
theorem zpm{s:Lean_}{d o:Nat}(g:GoodS s d o){x:Int}(hx:x∈zan s true):
  (∃h k,h<=16/\k<2^(16-h)/\x=(nd h k:Int)/\zaj s h k=zar s h k/\zdp s x=zaj s h k)/\GoodS (zbm s x (zdp s x)) d o/\zjz (zbm s x (zdp s x))<=zjz s/\
  zan (zbm s x (zdp s x)) true=(zan s true).filter (λc=>decide (c≠x))/\(zan (zbm s x (zdp s x)) true).length< (zan s true).length/\zaj (zbm s x (zdp s x)) d 0=zaj s d 0/\
  (zbm s x (zdp s x)).opn.length<s.opn.length:=by
 obtain⟨hd,ho,hn,he⟩:=(⟨g.hd,g.ho,g.hn,g.he⟩:_/\_/\_/\_)
 obtain⟨i,hi,rfl,hf⟩:=(zgx hd ho hn he x).1 hx
 have hs:=zcv ho hi
 have r:=(zsx hd ho hn he).1 g.right
 obtain⟨k1,k2⟩:=z1x hd ho hn he g.right
 obtain⟨e1,e2⟩:=k1 i _ (by omega) hs (.inl (k2 _ hf))
 have ea:=z7x s (show i<=16 by omega) (lt16 hd hs)
 rw[ea]
 obtain⟨rT,p1,p3⟩:=z3d hd ho hn he hi hf e2 r
 have hroot:=zvy hd ho hn he hi hf e2 r rfl
 have hT:zbf (zbm s (nd i (sibN (o/2^i))) (zaj s i (sibN (o/2^i))))=true:=(zsx (s:=zbm s (nd i (sibN (o/2^i))) (zaj s i (sibN (o/2^i)))) hd ho hn he).2 rT
 have hin:(nd i (sibN (o/2^i)):Int)∈s.opn.map (·.at_):=zc9.1 hf
 obtain⟨y,hy,hyx⟩:=List.mem_map.1 hin
 have hlt:(s.opn.filter λy=> !zal y.at_ (nd i (sibN (o/2^i)))).length<s.opn.length:=by
  rw[List.length_filter_lt_length_iff_exists]
  refine⟨y,hy,?_⟩
  have:zal y.at_ (nd i (sibN (o/2^i)))=true:=by
   rw[hyx]
   exact(zfr hd (by omega) hs (zcg hd (by omega) hs)).2 (za9 _ _)
  simp[this]
 have hle:=List.length_filter_le (λy:Stub=> !zal y.at_ (nd i (sibN (o/2^i)))) s.shut
 have hcnt:zjz (zbm s (nd i (sibN (o/2^i))) (zaj s i (sibN (o/2^i))))<=zjz s:=by
  unfold zjz
  rw[<-p3]
  show(s.opn.filter λy=> !zal y.at_ (nd i (sibN (o/2^i)))).length+_<=_
  omega
 have hcop:zan (zbm s (nd i (sibN (o/2^i))) (zaj s i (sibN (o/2^i)))) true=(zan s true).filter (λc=>decide (c≠(nd i (sibN (o/2^i)):Int))):=by
  have hc:=zhb hd ho hn he
  unfold zan
  rw[show zau (2*(zbm s (nd i (sibN (o/2^i))) (zaj s i (sibN (o/2^i)))).own) (zbm s (nd i (sibN (o/2^i))) (zaj s i (sibN (o/2^i)))).leaves=zau (2*s.own) s.leaves from rfl,hc,List.filter_filter]
  apply List.filter_congr
  intro c hcm
  obtain⟨j,hj,rfl⟩:=List.mem_map.1 hcm
  rw[List.mem_range]at hj
  have hsj:=zcv ho hj
  rw[zma hd ho hi _ (zcg hd (by omega) hsj)]
  by_cases hji:j=i
  ·subst hji
   rw[if_pos (za9 _ _)]
   simp
  ·have hno: ¬inR i (sibN (o/2^i)) (nd j (sibN (o/2^j))):=λh=>hji (zkf (za9 _ _) h)
   have hne:(nd j (sibN (o/2^j)):Int)≠(nd i (sibN (o/2^i)):Int):=λe=>hji (zfk (by omega) (by omega) (Int.ofNat.inj e)).1
   rw[if_neg hno]
   simp[hne]
 refine⟨⟨i,_,by omega,lt16 hd hs,rfl,e1,rfl⟩,⟨hT,⟨?_,?_,λz hz=>?_,λz hz=>?_⟩,by have:=g.cnt;omega,hd,ho,hn,he⟩,hcnt,hcop,?_,hroot,hlt⟩
 ·have:=g.fit.1
  show(s.opn.filter λy=> !zal y.at_ (nd i (sibN (o/2^i)))).length<=_
  omega
 ·have:=g.cnt;unfold zjz at this hcnt;omega
 ·exact g.fit.2.2.1 z (List.mem_filter.1 hz).1
 ·have hk:sibN (o/2^i)<2^(d-i):=hs
  have pF:((s.shut.filter λy=> !zal y.at_ (nd i (sibN (o/2^i)))).map (·.at_)).Pairwise (· < ·):=r.ps.sublist (List.filter_sublist.map _)
  have hne: ∀y∈s.shut.filter (λy=> !zal y.at_ (nd i (sibN (o/2^i)))),y.at_≠(nd i (sibN (o/2^i)):Int):=λy hy e=>by
   have h2:=(List.mem_filter.1 hy).2
   rw[e,(zfr hd (by omega) hk (zcg hd (by omega) hk)).2 (za9 _ _)]at h2
   cases h2
  obtain⟨_,p2,_⟩:=zl1 ⟨(nd i (sibN (o/2^i)):Int),zaj s i (sibN (o/2^i))⟩ _ pF hne
  rcases(p2 z).1 hz with rfl |hz
  ·show(zaj s i (sibN (o/2^i))).length<=_
   omega
  ·exact g.fit.2.2.2 z (List.mem_filter.1 hz).1
 ·rw[hcop,List.length_filter_lt_length_iff_exists]
  exact⟨_,hx,by simp⟩
end
section
theorem z9d{s:Lean_}{d o:Nat}(g:GoodS s d o){x:Int}(hx:x∈zan s true):zaf Tryz.prog 63 [.ag s.c,I x] (.r (.ag (zbm s x (zdp s x)).c)):=by
 obtain⟨⟨h,k,hh,hk,rfl,_,ea⟩,_⟩:=zpm g hx
 refine zc4b s g.fit g.own.2.2.2 _ _ (λl hl=>zvh l hl) ?_
 rw[ea]
 exact zs2 s g.fit h k hh hk
end
end Go.Proofs.YtpdllgbfemnemaaGreat.Sx
