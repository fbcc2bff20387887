import Derived.Test.YtoegdgbghdnnfaaGreatZOnes
namespace Go.Proofs.YtoegdgbghdnnfaaGreat
structure D3 where
 at_:Int
 lo:Int
 hi:Int
def zg6(x:Int):Nat->Int->Int->List D3
 |0,_,_=>[]
 |f+1,lo,hi=>⟨(lo+hi)/2,lo,hi⟩::(if(lo+hi)/2=x then[]else if x< (lo+hi)/2 then zg6 x f lo ((lo+hi)/2-1)else zg6 x f ((lo+hi)/2+1) hi)
def zbj(x n:Int):List D3:=if ofI x n then zg6 x 17 0 (2*n-2)else[]
def trip(h k:Nat):D3:=⟨(nd h k:Int),((k*2^(h+1):Nat):Int),((k*2^(h+1)+2^(h+1)-2:Nat):Int)⟩
def upT:Nat->Nat->Nat->List D3
 |0,h,k=>[trip h k]
 |m+1,h,k=>trip h k::upT m (h+1) (k/2)
theorem zrb: ∀(m h k:Nat),upT (m+1) h k=upT m h k++[trip (h+(m+1)) (k/2^(m+1))]
 |0,h,k=>by simp[upT]
 |m+1,h,k=>by
  rw[upT,zrb m (h+1) (k/2),<-List.cons_append]
  congr 2
  rw[Nat.div_div_eq_div_mul,<-Nat.pow_succ',show h+1+(m+1)=h+(m+1+1)by omega]
theorem zlh: ∀(m h k:Nat),(upT m h k).length=m+1
 |0,_,_=>rfl
 |m+1,h,k=>by rw[upT,List.length_cons,zlh]
theorem z4q(h k i:Nat):(k/2^i)*2^(h+i+1)<=nd h k/\nd h k+2<=(k/2^i)*2^(h+i+1)+2^(h+i+1):=by
 have hp:=zag h
 have e1:2^(h+i+1)=2^i*2^(h+1):=by rw[<-Nat.pow_add];congr 1;omega
 have e2:2^(h+1)=2*2^h:=by rw[Nat.pow_succ];omega
 have h1:=Nat.div_mul_le_self k (2^i)
 have h2:k< (k/2^i+1)*2^i:=by
  have:=Nat.lt_div_mul_add (a:=k) (zag i)
  rw[Nat.add_mul];omega
 have h3:=Nat.mul_le_mul_right (2^(h+1)) h1
 have h4:=Nat.mul_le_mul_right (2^(h+1)) (show k+1<=(k/2^i+1)*2^i from h2)
 rw[Nat.mul_assoc]at h3 h4
 rw[Nat.add_mul,Nat.add_mul]at h4
 unfold nd
 rw[e1]
 omega
theorem z79(h k:Nat):(((k*2^(h+1):Nat):Int)+((k*2^(h+1)+2^(h+1)-2:Nat):Int))/2=(nd h k:Int):=by
 have hp:=zag h
 have e2:2^(h+1)=2*2^h:=by rw[Nat.pow_succ];omega
 unfold nd
 generalize k*2^(h+1)=q
 omega
theorem zxa(h k:Nat): ∀(i f:Nat),h+i<=16->i<f->
  zg6 (nd h k:Int) f (((k/2^i)*2^(h+i+1):Nat):Int) (((k/2^i)*2^(h+i+1)+2^(h+i+1)-2:Nat):Int)=(upT i h k).reverse
 |0,f,hi,hf=>by
  obtain⟨f,rfl⟩: ∃g,f=g+1:=⟨f-1,by omega⟩
  rw[zg6]
  have:=z79 h k
  simp only[Nat.pow_zero,Nat.div_one,Nat.add_zero]at this⊢
  rw[this,if_pos rfl]
  rfl
 |i+1,f,hi,hf=>by
  obtain⟨f,rfl⟩: ∃g,f=g+1:=⟨f-1,by omega⟩
  have hne:(nd (h+(i+1)) (k/2^(i+1)):Int)≠(nd h k:Int):=by
   intro e
   have:=(zfz (by omega) (by omega) (Int.ofNat.inj e)).1
   omega
  rw[zg6,z79,if_neg hne,zrb,List.reverse_append,List.reverse_singleton]
  show _::_=trip (h+(i+1)) (k/2^(i+1))::(upT i h k).reverse
  congr 1
  obtain⟨b1,b2⟩:=z4q h k i
  have e1:k/2^(i+1)=k/2^i/2:=by rw[Nat.pow_succ,Nat.div_div_eq_div_mul]
  have e2:2^(h+(i+1)+1)=2*2^(h+i+1):=by rw[show h+(i+1)+1=h+i+1+1 by omega,Nat.pow_succ];omega
  have e3:2^(h+(i+1))=2^(h+i+1):=by congr 1
  have hp:=zag (h+i+1)
  rw[e1]
  have ih:=zxa h k i f (by omega) (by omega)
  generalize k/2^i=q at*
  have hnd:nd (h+(i+1)) (q/2)=q/2*(2*2^(h+i+1))+2^(h+i+1)-1:=by unfold nd;rw[e2,e3]
  rw[hnd,e2]
  generalize 2^(h+i+1)=Q at*
  rcases Nat.mod_two_eq_zero_or_one q with hq |hq
  ·have eq:q=2*(q/2):=by omega
   generalize q/2=r at*
   subst eq
   have e4:2*r*Q=r*(2*Q):=by rw[Nat.mul_comm 2 r,Nat.mul_assoc]
   rw[e4]at b1 b2 ih
   rw[if_pos (by omega),<-ih]
   congr 1
   omega
  ·have eq:q=2*(q/2)+1:=by omega
   generalize q/2=r at*
   subst eq
   have e4:(2*r+1)*Q=r*(2*Q)+Q:=by rw[Nat.add_mul,Nat.mul_comm 2 r,Nat.mul_assoc,Nat.one_mul]
   rw[e4]at b1 b2 ih
   rw[if_neg (by omega),<-ih]
   congr 1<;>omega
theorem zjt{d h k:Nat}(hd:d<=16)(hh:h<=d)(hk:k<2^(d-h)):zbj (nd h k:Int) ((2^d:Nat):Int)=(upT (d-h) h k).reverse:=by
 unfold zbj
 rw[if_pos (z4s hd hh hk)]
 have:=zxa h k (d-h) 17 (by omega) (by omega)
 rw[Nat.div_eq_of_lt hk,show h+(d-h)=d by omega]at this
 rw[<-this]
 have hp:=zag d
 congr 1<;>first|omega|(rw[Nat.pow_succ];omega)
theorem zf5{x n:Int}(h:ofI x n=false):zbj x n=[]:=by simp[zbj,h]
theorem zyw{d:Nat}(hd:d<=16): ∀(m f h k:Nat),h+m=d->k<2^m->m<f->zdx ((2^d:Nat):Int) f (nd h k:Int)=(upT m h k).tail.map (·.at_)
 |0,f,h,k,hm,hk,hf=>by
  obtain⟨f,rfl⟩: ∃g,f=g+1:=⟨f-1,by omega⟩
  obtain rfl:h=d:=by omega
  have:k=0:=by simpa using hk
  subst this
  rw[zdx,zim];rfl
 |m+1,f,h,k,hm,hk,hf=>by
  obtain⟨f,rfl⟩: ∃g,f=g+1:=⟨f-1,by omega⟩
  have hk2:k/2<2^m:=by rw[Nat.pow_succ]at hk;omega
  rw[zdx,zjn hd (by omega) (by rw[show d-h=m+1 by omega];exact hk),if_neg (by omega),zyw hd m f (h+1) (k/2) (by omega) hk2 (by omega)]
  cases m with
  |zero=>rfl
  |succ m=>rfl
theorem zyy{d h k:Nat}(hd:d<=16)(hh:h<=d)(hk:k<2^(d-h)):zc1 (nd h k:Int) ((2^d:Nat):Int)=(upT (d-h) h k).tail.map (·.at_):=
 zyw hd (d-h) 17 h k (by omega) hk (by omega)
theorem z4w{x n:Int}(h:ofI x n=false):zc1 x n=[]:=by
 unfold zc1 zdx
 rw[if_pos (by have:parI x n= -1:=(by simp[parI,h]);omega)]
theorem zuu(x n:Int):((zbj x n).dropLast.reverse).map (·.at_)=zc1 x n:=by
 rcases ho:ofI x n with _ |_
 ·rw[zf5 ho,z4w ho];rfl
 ·obtain⟨d,h,k,hd,rfl,hh,hk,rfl⟩:=ze6 ho
  rw[zjt hd hh hk,zyy hd hh hk]
  congr 1
  rw[List.dropLast_reverse,List.reverse_reverse]
theorem z5u{x n:Int}(ho:ofI x n=true): ∃d h k,d<=16/\h<=d/\k<2^(d-h)/\n=((2^d:Nat):Int)/\x=(nd h k:Int)/\(zbj x n).length=d-h+1/\(zbj x n).getLast?=some (trip h k):=by
 obtain⟨d,h,k,hd,rfl,hh,hk,rfl⟩:=ze6 ho
 refine⟨d,h,k,hd,hh,hk,rfl,rfl,?_,?_⟩
 ·rw[zjt hd hh hk,List.length_reverse,zlh]
 ·rw[zjt hd hh hk,List.getLast?_reverse]
  cases d-h<;>rfl
theorem zme{x:Int}:zbt x=ofI x 65536:=by
 rw[Bool.eq_iff_iff,zdk,ze5]
 have:zck 65536=true:=by decide
 constructor
 ·intro h;exact⟨this,by omega⟩
 ·intro h;omega
theorem zfvb{d h k:Nat}(hd:d<=16)(hh:h<=d)(hk:k<2^(d-h)):zjf (nd h k:Int)=((2^h-1:Nat):Int):=by
 have hp:=zag h
 rw[zzx,zn2 hd hh hk,Int.toNat_natCast,show(2:Int)^h=((2^h:Nat):Int)by simp]
 omega
theorem zs5{x:Int}{h k d:Nat}(hd:d<=16)(hh:h<=d)(hk:k<2^(d-h))(hx:zbt x=true):za2 x (nd h k:Int)=(decide ((trip h k).lo<=x)&&decide (x<=(trip h k).hi)):=by
 rw[Bool.eq_iff_iff,zmw,zfvb hd hh hk,Bool.and_eq_true,decide_eq_true_eq,decide_eq_true_eq,hx,zeb hd hh hk]
 have hp:=zag h
 have e2:2^(h+1)=2*2^h:=by rw[Nat.pow_succ];omega
 simp only[trip,nd,e2]
 generalize k*(2*2^h)=q
 constructor
 ·rintro⟨_,h1,h2⟩
  omega
 ·rintro⟨h1,h2⟩
  exact⟨⟨trivial,trivial⟩,by omega,by omega⟩
theorem zty{d h k:Nat}(hd:d<=16)(hh:h<=d)(hk:k<2^(d-h)):zek (nd h k:Int)=if h=0 then 0 else((2^(h-1):Nat):Int):=by
 unfold zek
 rw[zn2 hd hh hk]
 rcases Nat.eq_zero_or_pos h with rfl |hp
 ·simp
 ·rw[if_pos (by omega),if_neg (by omega),show((h:Int)-1).toNat=h-1 by omega];simp
theorem zd4{d h k:Nat}(hd:d<=16)(hh:h+1<=d)(hk:k<2^(d-(h+1))):zbw (nd (h+1) k:Int)=(nd h (2*k):Int):=by
 unfold zbw
 rw[zty hd hh hk,if_neg (by omega: ¬h+1=0)]
 have hp:=zag h
 simp only[Nat.add_sub_cancel]
 rw[if_neg (by omega)]
 unfold nd
 rw[Nat.pow_succ 2 (h+1),Nat.pow_succ 2 h,show 2*k*(2^h*2)=k*(2^h*2*2)by rw[Nat.mul_comm 2 k,Nat.mul_assoc,Nat.mul_comm 2]]
 omega
theorem zdn{d h k:Nat}(hd:d<=16)(hh:h+1<=d)(hk:k<2^(d-(h+1))):zbo (nd (h+1) k:Int)=(nd h (2*k+1):Int):=by
 unfold zbo
 rw[zty hd hh hk,if_neg (by omega: ¬h+1=0)]
 have hp:=zag h
 simp only[Nat.add_sub_cancel]
 rw[if_neg (by omega)]
 unfold nd
 rw[Nat.pow_succ 2 (h+1),Nat.pow_succ 2 h,Nat.add_mul,show 2*k*(2^h*2)=k*(2^h*2*2)by rw[Nat.mul_comm 2 k,Nat.mul_assoc,Nat.mul_comm 2]]
 omega
theorem zla{d k:Nat}(hd:d<=16)(hk:k<2^d):zbw (nd 0 k:Int)= -1/\zbo (nd 0 k:Int)= -1:=by
 unfold zbw zbo
 rw[zty hd (Nat.zero_le _) (by simpa using hk)]
 simp
theorem zv9{d h k:Nat}(hd:d<=16)(hh:h<=d)(hk:k<2^(d-h)):
  (if(trip h k).lo=(trip h k).hi then((-1:Int),(-1:Int))else(((trip h k).lo+(nd h k:Int)-1)/2,((nd h k:Int)+1+(trip h k).hi)/2))=(zbw (nd h k:Int),zbo (nd h k:Int)):=by
 rcases Nat.eq_zero_or_pos h with rfl |hp
 ·rw[(zla hd (by simpa using hk)).1,(zla hd (by simpa using hk)).2,if_pos (by simp[trip])]
 ·obtain⟨h,rfl⟩: ∃g,h=g+1:=⟨h-1,by omega⟩
  rw[zd4 hd hh hk,zdn hd hh hk]
  have hp:=zag h
  have e1:2^(h+1+1)=4*2^h:=by rw[Nat.pow_succ,Nat.pow_succ];omega
  have e2:2^(h+1)=2*2^h:=by rw[Nat.pow_succ];omega
  simp only[trip,nd,e1,e2]
  have e3:2*k*(2*2^h)=k*(4*2^h):=by rw[Nat.mul_comm 2 k,Nat.mul_assoc,<-Nat.mul_assoc 2 2]
  rw[Nat.add_mul (2*k),e3]
  generalize k*(4*2^h)=q
  generalize 2^h=p at*
  rw[if_neg (by omega)]
  congr 1<;>omega
theorem z5o{d h k:Nat}(hd:d<=16)(hh:h<d)(hk:k<2^(d-h)):
  ((nd h k:Int)< (nd (h+1) (k/2):Int)↔zbw (nd (h+1) (k/2):Int)=(nd h k:Int))/\¬(nd h k:Int)=(nd (h+1) (k/2):Int):=by
 rw[zd4 hd hh (zk8 hh hk)]
 have hp:=zag h
 have e2:2^(h+1)=2*2^h:=by rw[Nat.pow_succ];omega
 have hne:nd h k≠nd (h+1) (k/2):=λe=>by
  have:=(zfz (by omega) (by omega) e).1
  omega
 refine⟨⟨λh1=>?_,λh1=>?_⟩,λe=>hne (by omega)⟩
 ·rcases Nat.mod_two_eq_zero_or_one k with hq |hq
  ·rw[show 2*(k/2)=k by omega]
  ·exfalso
   unfold nd at h1
   rw[Nat.pow_succ 2 (h+1),e2]at h1
   have e3:k*(2*2^h)=k/2*(2*2^h*2)+2*2^h:=by
    conv=>lhs;rw[show k=2*(k/2)+1 by omega]
    rw[Nat.add_mul,Nat.mul_comm 2 (k/2),Nat.mul_assoc,Nat.mul_comm 2 (2*2^h)];omega
   rw[e3]at h1
   omega
 ·have h2:nd h (2*(k/2))=nd h k:=by omega
  have h3:=(zfz (by omega) (by omega) h2).2
  unfold nd
  rw[Nat.pow_succ 2 (h+1),e2]
  have e3:k*(2*2^h)=k/2*(2*2^h*2):=by
   conv=>lhs;rw[<-h3]
   rw[Nat.mul_comm 2 (k/2),Nat.mul_assoc,Nat.mul_comm 2 (2*2^h)]
  rw[e3]
  omega
theorem zol(x n:Int):(if parI x n<0 then-1 else if zbw (parI x n)=x then zbo (parI x n)else zbw (parI x n))=sibI x n:=by
 unfold sibI
 by_cases h0:parI x n<0
 ·rw[if_pos h0,if_pos h0]
 ·rw[if_neg h0,if_neg h0]
  obtain⟨h1,_,_,_⟩:=zn8 (x:=x) (n:=n) (by omega)
  obtain⟨d,h,k,hd,rfl,hh,hk,rfl⟩:=ze6 h1
  rcases Nat.lt_or_ge h d with hlt |hge
  ·rw[zjn hd hlt hk]
   have:=(z5o hd hlt hk).1
   by_cases h2:zbw (nd (h+1) (k/2):Int)=(nd h k:Int)
   ·rw[if_pos h2,if_pos (this.2 h2)]
   ·rw[if_neg h2,if_neg (λh3=>h2 (this.1 h3))]
  ·obtain rfl:h=d:=by omega
   have:k=0:=by simpa using hk
   subst this
   rw[zim]at h0
   omega
theorem zblb(x n:Int):(if(zbj x n).length<2 then-1 else(((zbj x n)[(zbj x n).length-2]?).map (·.at_)).getD 0)=parI x n:=by
 rcases ho:ofI x n with _ |_
 ·rw[zf5 ho,if_pos (by simp)];simp[parI,ho]
 ·obtain⟨d,h,k,hd,rfl,hh,hk,rfl⟩:=ze6 ho
  rw[zjt hd hh hk,List.length_reverse,zlh]
  rcases Nat.lt_or_ge h d with hlt |hge
  ·rw[if_neg (by omega),zjn hd hlt hk,List.getElem?_reverse (by rw[zlh];omega),zlh,show d-h+1-1-(d-h+1-2)=1 by omega]
   obtain⟨m,hm⟩: ∃m,d-h=m+1:=⟨d-h-1,by omega⟩
   rw[hm]
   cases m<;>rfl
  ·obtain rfl:h=d:=by omega
   have:k=0:=by simpa using hk
   subst this
   rw[if_pos (by omega),zim]
theorem zlo{d:Nat}(hd:d<=16): ∀(m f h k:Nat),h+m=d->k<2^m->m<f->zf4 ((2^d:Nat):Int) f (nd h k:Int)=(upT m h k).dropLast.map (λt=>sibI t.at_ ((2^d:Nat):Int))
 |0,f,h,k,hm,hk,hf=>by
  obtain⟨f,rfl⟩: ∃g,f=g+1:=⟨f-1,by omega⟩
  obtain rfl:h=d:=by omega
  have:k=0:=by simpa using hk
  subst this
  rw[zf4,zim];rfl
 |m+1,f,h,k,hm,hk,hf=>by
  obtain⟨f,rfl⟩: ∃g,f=g+1:=⟨f-1,by omega⟩
  have hk2:k/2<2^m:=by rw[Nat.pow_succ]at hk;omega
  rw[zf4,zjn hd (by omega) (by rw[show d-h=m+1 by omega];exact hk),if_neg (by omega),zlo hd m f (h+1) (k/2) (by omega) hk2 (by omega),upT]
  rw[List.dropLast_cons_of_ne_nil (by cases m<;>simp[upT])]
  rfl
theorem zp2(x n:Int):((zbj x n).tail.reverse).map (λt=>sibI t.at_ n)=zb6 x n:=by
 rcases ho:ofI x n with _ |_
 ·rw[zf5 ho]
  unfold zb6 zf4
  rw[if_pos (by have:parI x n= -1:=(by simp[parI,ho]);omega)]
  rfl
 ·obtain⟨d,h,k,hd,rfl,hh,hk,rfl⟩:=ze6 ho
  unfold zb6
  rw[zlo hd (d-h) 17 h k (by omega) hk (by omega),zjt hd hh hk,List.tail_reverse,List.reverse_reverse]
end Go.Proofs.YtoegdgbghdnnfaaGreat

namespace Go.Proofs.YtoegdgbghdnnfaaGreat.Sx
open Go.RowKit
theorem z9x(n:Nat)(hn:n<=65536):bG 234 [.i .u64 n] (.r (I (zwv n))):=by
 refine bT Tryz.func234 rfl ?_
 obtain⟨a0,ha0,l0⟩: ∃a,(n/2&&&6148914691236517205)=a/\a<=65536:=⟨_,rfl,Nat.le_trans Nat.and_le_left (by omega)⟩
 obtain⟨a1,ha1,l1⟩: ∃a,(n&&&6148914691236517205)=a/\a<=65536:=⟨_,rfl,Nat.le_trans Nat.and_le_left (by omega)⟩
 obtain⟨b0,hb0,m0⟩: ∃a,((a0+a1)/4&&&3689348814741910323)=a/\a<=131072:=⟨_,rfl,Nat.le_trans Nat.and_le_left (by omega)⟩
 obtain⟨b1,hb1,m1⟩: ∃a,(a0+a1&&&3689348814741910323)=a/\a<=131072:=⟨_,rfl,Nat.le_trans Nat.and_le_left (by omega)⟩
 obtain⟨c0,hc0,p0⟩: ∃a,((b0+b1)/16+(b0+b1)&&&1085102592571150095)=a/\a<=1048576:=⟨_,rfl,Nat.le_trans Nat.and_le_left (by omega)⟩
 refine Vshr.nat (.inl rfl) n 1 (n/2) rfl rfl (by decide) rfl ?_
 refine Vbits.nat (.inl rfl) (n/2) 6148914691236517205 a0 rfl rfl (by omega) (by decide) (by omega) ha0 ?_
 refine Vbits.nat (.inl rfl) n 6148914691236517205 a1 rfl rfl (by omega) (by decide) (by omega) ha1 ?_
 refine Vint.nat (.inl rfl) (a0+a1) (by omega) (by omega) ?_
 refine Vshr.nat (.inl rfl) (a0+a1) 2 ((a0+a1)/4) rfl rfl (by decide) rfl ?_
 refine Vbits.nat (.inl rfl) ((a0+a1)/4) 3689348814741910323 b0 rfl rfl (by omega) (by decide) (by omega) hb0 ?_
 refine Vbits.nat (.inl rfl) (a0+a1) 3689348814741910323 b1 rfl rfl (by omega) (by decide) (by omega) hb1 ?_
 refine Vint.nat (.inl rfl) (b0+b1) (by omega) (by omega) ?_
 refine Vshr.nat (.inl rfl) (b0+b1) 4 ((b0+b1)/16) rfl rfl (by decide) rfl ?_
 refine Vint.nat (.inl rfl) ((b0+b1)/16+(b0+b1)) (by omega) (by omega) ?_
 refine Vbits.nat (.inl rfl) ((b0+b1)/16+(b0+b1)) 1085102592571150095 c0 rfl rfl (by omega) (by decide) (by omega) hc0 ?_
 refine Vshr.nat (.inl rfl) c0 8 (c0/256) rfl rfl (by decide) rfl ?_
 refine Vint.nat (.inl rfl) (c0+c0/256) (by omega) (by omega) ?_
 obtain⟨d,hd⟩: ∃d,c0+c0/256=d:=⟨_,rfl⟩
 rw[hd]
 refine Vshr.nat (.inl rfl) d 16 (d/65536) rfl rfl (by decide) rfl ?_
 refine Vint.nat (.inl rfl) (d+d/65536) (by omega) (by omega) ?_
 obtain⟨e,he⟩: ∃e,d+d/65536=e:=⟨_,rfl⟩
 rw[he]
 refine Vshr.nat (.inl rfl) e 32 (e/4294967296) rfl rfl (by decide) rfl ?_
 refine Vint.nat (.inl rfl) (e+e/4294967296) (by omega) (by omega) ?_
 refine Vint.nat (.inr rfl) (e+e/4294967296) rfl (by omega) ?_
 refine Vbits.nat (.inr rfl) (e+e/4294967296) 127 _ rfl rfl (by omega) (by decide) (Nat.lt_of_le_of_lt Nat.and_le_left (by omega:e+e/4294967296<_)) rfl ?_
 subst he hd hc0 hb0 hb1 ha0 ha1
 exact cr
theorem zgsb(n:Nat)(hn:n<=65536):bG 186 [.i .u64 n] (.r (I (zwv n))):=by
 refine bT Tryz.func186 rfl ?_
 refine zt ?_
 exact ze (z9x n hn) (cr)
theorem zxg{n:Int}(h: ¬(1<=n/\n<=65536)):zck n=false:=by
 rcases hf:zck n with _ |_
 ·rfl
 ·exact absurd (zdc hf) h
theorem zni(n:Int):bG 133 [I n] (.r (.b (zck n))):=by
 refine bT Tryz.func133 rfl ?_
 refine zh (λh1=>?_) (λh1=>?_)
 ·refine zh (λh2=>?_) (λh2=>?_)
  ·simp only[zb]at h1 h2
   obtain⟨m,rfl⟩:=Int.eq_ofNat_of_zero_le (show 0<=n by omega)
   have h:=zbgb (n:=m) (by omega) (by omega)
   refine Vint.nat (.inl rfl) m rfl (by omega) ?_
   refine ze (zgsb m (by omega)) ?_
   refine zh (λh3=>?_) (λh3=>?_)
   ·simp only[zb]at h3
    exact zf (congrArg RV.b (Eq.symm (h.1 (by omega))))
   ·simp only[zb]at h3
    exact zf (congrArg RV.b (Eq.symm (Bool.eq_false_iff.2 λh4=>h3 (by rw[h.2 h4];rfl))))
  ·simp only[zb]at h2
   exact zf (congrArg RV.b (Eq.symm (zxg (by omega))))
 ·simp only[zb]at h1
  exact zf (congrArg RV.b (Eq.symm (zxg (by omega))))
theorem zrz(x:Int):bG 215 [I x] (.r (.b (zbt x))):=by
 refine bT Tryz.func215 rfl ?_
 (repeat' (first|refine zh (λh=>?_) (λh=>?_)|refine zf ?_|refine zq ?_|refine zt ?_))
 all_goals refine congrArg RV.b (Eq.symm ?_)
 all_goals simp only[zbt,Bool.and_eq_true,Bool.and_eq_false_iff,zb]at*
 all_goals omega
theorem g_of(x n:Int):bG 283 [I x,I n] (.r (.b (ofI x n))):=by
 refine bT Tryz.func283 rfl ?_
 refine Vcall.bool (zni n) (λhf=>?_) (λhf=>zf (by simp[ofI,hf,ofC]))
 have hb:=zdc hf
 refine zh (λh1=>?_) (λh1=>?_)
 ·refine zd rfl (by omega) (zd rfl (by omega) ?_)
  refine zh (λh2=>?_) (λh2=>?_)
  all_goals refine zf (congrArg RV.b (Eq.symm ?_))
  all_goals simp only[zb]at h1 h2
  all_goals simp[ofI,hf]
  all_goals omega
 ·simp only[zb]at h1
  refine zf (congrArg RV.b (Eq.symm ?_))
  simp[ofI,hf]
  omega
theorem zhwb{m k:Nat}(hm:m<=131070)(hk:k<=lv m):m/2^k%2=if k<lv m then 1 else 0:=by
 obtain⟨h1,h2,h0⟩:=zgy hm
 generalize lv m=l at*
 rcases Nat.lt_or_ge k l with hk' |hk'
 ·rw[if_pos hk']
  obtain⟨j,rfl⟩: ∃j,l=k+(j+1):=⟨l-k-1,by omega⟩
  have h3:m%2^(k+(j+1))/2^k%2=m/2^k%2:=by
   rw[Nat.pow_add,Nat.mod_mul_right_div_self,Nat.pow_succ,Nat.mul_comm,Nat.mod_mul_right_mod]
  have hp:=zag k
  have hj:=zag j
  have e1:2^(k+(j+1))-1=2^k*(2*2^j-1)+(2^k-1):=by
   rw[Nat.pow_add,Nat.pow_succ,Nat.mul_comm (2^j) 2,Nat.mul_sub,Nat.mul_one]
   have:2^k*1<=2^k*(2*2^j):=Nat.mul_le_mul_left _ (by omega)
   omega
  rw[<-h3,h2,e1,Nat.mul_add_div hp,Nat.div_eq_of_lt (by omega)]
  omega
 ·obtain rfl:k=l:=by omega
  rw[if_neg (by omega)];exact h0
theorem ztt(x:Int):bG 216 [I x] (.r (I (lvI x))):=by
 refine bT Tryz.func216 rfl ?_
 cases hx:zbt x with
 |false=>
  refine Vcode.scope mixed Tab_ok 0 (λk:Nat=>{F:=[],O:=[],nx:=0}) (λ_=>False) (λ_=>0) rfl ?_ λ_ h=>h.elim
  refine ze (zrz x) ?_
  rw[hx]
  exact zu rfl (zq (zf (congrArg I (zl8 hx).symm)))
 |true=>
 have hl:=zl7 hx
 have hg:=zrz x
 rw[hx]at hg
 rw[zdk]at hx
 obtain⟨m,rfl⟩:=Int.eq_ofNat_of_zero_le hx.1
 rw[Int.toNat_natCast]at hl
 have hm:m<=131070:=by omega
 have h16:=(zgy hm).1
 have hb: ∀k,k<=lv m->m/2^k%2=(if k<lv m then 1 else 0)/\m/2^k<9223372036854775808:=λk hk=>⟨zhwb hm hk,Nat.lt_of_le_of_lt (Nat.div_le_self _ _) (by omega)⟩
 rw[hl]
 refine Vcode.scope mixed Tab_ok 0 (λk:Nat=>{F:=[(0, .r (I m)),(3, .r (I k))],O:=[],nx:=0}) (λk=>k<=lv m) (λk=>lv m-k) rfl ?_ ?_
 ·refine ze hg (zw rfl (zt ?_))
  have hb:=hb 0 (by omega)
  refine Vshr.nat (.inr rfl) m 0 (m/2^0) rfl rfl (by omega) rfl ?_
  refine Vbits.nat (.inr rfl) (m/2^0) 1 (m/2^0%2) rfl rfl hb.2 (by decide) (by omega) (Nat.and_one_is_mod _) ?_
  refine zh (λh=>zq ?_) (λh=>zt ?_)<;>simp only[zb]at h<;>split at hb<;>try omega
  ·refine zd (m:=((1:Nat):Int)) rfl (by omega) ?_
   exact⟨1,by omega,zac [] rfl ⟨cr,cr,trivial⟩ trivial⟩
  ·exact zf (congrArg I (by omega))
 ·intro k hk
  have hb:=hb k hk
  refine Vshr.nat (.inr rfl) m k (m/2^k) rfl rfl (by omega) rfl ?_
  refine Vbits.nat (.inr rfl) (m/2^k) 1 (m/2^k%2) rfl rfl hb.2 (by decide) (by omega) (Nat.and_one_is_mod _) ?_
  refine zh (λh=>zq ?_) (λh=>zt ?_)<;>simp only[zb]at h<;>split at hb<;>try omega
  ·refine zd (m:=((k+1:Nat):Int)) (by omega) (by omega) ?_
   exact⟨k+1,by omega,by omega,zac [] rfl ⟨cr,cr,trivial⟩ trivial⟩
  ·exact zf (congrArg I (by omega))
theorem znl(n:Int):bG 78 [I n] (.r (I (zi8 n))):=by
 refine bT Tryz.func78 rfl ?_
 refine Vcall.bool (zni n) (λhf=>zw rfl (zt ?_)) (λhf=>zu rfl (zq (zf (by simp[zi8,hf,ofC]))))
 have:=zdc hf
 exact zd rfl (by omega) (zf (by simp[zi8,hf]))
theorem zpf{d:Nat}(h:d<=16):1<=2^d/\2^d<=65536:=⟨zag d,Nat.le_trans (Nat.pow_le_pow_right (by omega) h) (by decide)⟩
theorem zx2(x:Int):0<=zek x/\zek x<=32768:=by
 have:=zn1 x
 unfold zek
 split
 ·have h1:=zag (lvI x-1).toNat
  have h2:2^(lvI x-1).toNat<=2^15:=Nat.pow_le_pow_right (by omega) (by omega)
  have e:(2:Int)^(lvI x-1).toNat=((2^(lvI x-1).toNat:Nat):Int):=by simp
  omega
 ·omega
theorem z6b(x:Int):bG 185 [I x] (.r (I (zek x))):=by
 refine bT Tryz.func185 rfl ?_
 refine ze (ztt x) ?_
 have hb:=zn1 x
 refine zh (λh=>zq ?_) (λh=>zt ?_)
 ·simp only[zb]at h
  refine zd rfl (by omega) ?_
  have:=zpf (d:=(lvI x-1).toNat) (by omega)
  refine Vshl.nat (.inr rfl) 1 (lvI x-1).toNat _ rfl (by omega) (by omega) (Nat.one_mul _) (by omega) ?_
  exact zf (congrArg I (by unfold zek;rw[if_pos h];simp))
 ·simp only[zb]at h
  exact zf (congrArg I (by unfold zek;rw[if_neg h]))
theorem zk2(x:Int):bG 129 [I x] (.r (I (zbw x))):=by
 refine bT Tryz.func129 rfl ?_
 refine ze (z6b x) ?_
 have hb:=zx2 x
 refine zh (λh=>zq ?_) (λh=>zt ?_)
 ·simp only[zb]at h
  exact zf (congrArg I (by unfold zbw;rw[if_pos h]))
 ·simp only[zb]at h
  have hx:0<=x/\x<=131070:=by
   rcases hn:zbt x with _ |_
   ·exact absurd (by simp[zek,zl8 hn]) h
   ·rwa[zdk]at hn
  exact zd rfl (by omega) (zf (congrArg I (by unfold zbw;rw[if_neg h])))
theorem zjj(x:Int):bG 130 [I x] (.r (I (zbo x))):=by
 refine bT Tryz.func130 rfl ?_
 refine ze (z6b x) ?_
 have hb:=zx2 x
 refine zh (λh=>zq ?_) (λh=>zt ?_)
 ·simp only[zb]at h
  exact zf (congrArg I (by unfold zbo;rw[if_pos h]))
 ·simp only[zb]at h
  have hx:0<=x/\x<=131070:=by
   rcases hn:zbt x with _ |_
   ·exact absurd (by simp[zek,zl8 hn]) h
   ·rwa[zdk]at hn
  exact zd rfl (by omega) (zf (congrArg I (by unfold zbo;rw[if_neg h])))
theorem zk4(x y:Int):bG 159 [I x,I y] (.r (.b (za2 x y))):=by
 refine bT Tryz.func159 rfl ?_
 refine Vcall.bool (zrz x) (λhx=>zw rfl ?_) (λhx=>zu rfl (zq (zf (by simp[za2,hx,ofC]))))
 refine Vcall.bool (zrz y) (λhy=>zw rfl (zt ?_)) (λhy=>zu rfl (zq (zf (by simp[za2,hx,hy,ofC]))))
 refine ze (ztt y) ?_
 have hl:0<=lvI y:=by rw[zl7 hy];omega
 have hb:=zn1 y
 have hp:=zpf (d:=(lvI y).toNat) (by omega)
 have hw:zjf y=((2^(lvI y).toNat:Nat):Int)-1:=by rw[zzx];simp
 have hx':=zdk.1 hx
 have hy':=zdk.1 hy
 refine Vshl.nat (.inr rfl) 1 (lvI y).toNat _ rfl (by omega) (by omega) (Nat.one_mul _) (by omega) ?_
 refine zd rfl (by omega) ?_
 refine zd rfl (by omega) ?_
 have fin: ∀b:Bool,(b=true↔y-zjf y<=x/\x<=y+zjf y)->b=za2 x y:=λb h=>by
  rw[Bool.eq_iff_iff,zmw,h]
  exact⟨λh=>⟨⟨hx,hy⟩,h⟩,λh=>h.2⟩
 refine zh (λh1=>?_) (λh1=>?_)
 ·refine zd rfl (by omega) ?_
  refine zh (λh2=>?_) (λh2=>?_)
  all_goals simp only[zb]at h1 h2
  all_goals refine zf (congrArg RV.b (fin _ ?_))
  ·exact⟨λ_=>by omega,λ_=>rfl⟩
  ·exact⟨λh=>(by cases h),λ_=>by omega⟩
 ·simp only[zb]at h1
  exact zf (congrArg RV.b (fin _ ⟨λh=>(by cases h),λ_=>by omega⟩))
theorem zys{x n:Int}(h:ofI x n=true):0<=x/\x<=131070/\1<=n/\n<=65536/\x<=2*n-2:=by
 rw[ze5]at h
 have:=zdc h.1
 omega
theorem zvp{x n:Int}(h:ofI x n=false\/x=n-1):parI x n= -1:=by
 rcases h with h |h<;>simp[parI,h]
theorem zepb{m d:Nat}(hd:d<=16)(hm:m<=2*2^d-2)(hne:m≠2^d-1):lv m<d:=by
 have h16:2^d<=2^16:=Nat.pow_le_pow_right (by omega) hd
 obtain⟨_,h1,h2⟩:=zgy (x:=m) (by omega)
 have hp:=zag d
 rcases Nat.lt_or_ge (lv m) d with h |h
 ·exact h
 ·exfalso
  have h3:2^d<=2^lv m:=Nat.pow_le_pow_right (by omega) h
  have h4:=Nat.div_add_mod m (2^lv m)
  rw[h1]at h4
  rcases Nat.eq_zero_or_pos (m/2^lv m)with h5 |h5
  ·rw[h5]at h4
   have:2^lv m<2^(d+1):=by rw[Nat.pow_succ];omega
   have:lv m<d+1:=(Nat.pow_lt_pow_iff_right (by omega)).1 this
   have:lv m=d:=by omega
   rw[this]at h4
   omega
  ·have:2^lv m*1<=2^lv m*(m/2^lv m):=Nat.mul_le_mul_left _ h5
   omega
theorem ze5b{m l:Nat}(hm:m<=131070)(hl:l=lv m)(h16:l<16):(m|||2^l)=m+2^l/\(m+2^l)&&&(18446744073709551615-2^(l+1))=upN m:=by
 obtain⟨_,h1,h2⟩:=zgy hm
 rw[<-hl]at h1 h2
 have hp:=zag l
 have hb:2^(l+1)<=2^16:=Nat.pow_le_pow_right (by omega) (by omega)
 have e2:2^(l+1)=2*2^l:=by rw[Nat.pow_succ];omega
 refine⟨z8e h2,?_⟩
 rw[show 18446744073709551615-2^(l+1)=2^64-(2^(l+1)+1)by omega,z5q (by omega) (by omega)]
 have hd:(m+2^l)/2^(l+1)=m/2^(l+1):=by
  have e4:=Nat.div_add_mod m (2^(l+1))
  have e5:m%2^(l+1)=2^l-1:=by
   rw[Nat.pow_succ,Nat.mod_mul,h1,h2];omega
  rw[e5]at e4
  have e6:m+2^l=(2^(l+1)-1)+m/2^(l+1)*2^(l+1):=by rw[Nat.mul_comm (m/2^(l+1))];omega
  rw[e6,Nat.add_mul_div_right _ _ (zag _),Nat.div_eq_of_lt (by omega)]
  omega
 rw[hd]
 unfold upN
 rw[<-hl]
 have hge:m/2^(l+1)%2=1->2^(l+1)<=m:=λh=>by
  rcases Nat.lt_or_ge m (2^(l+1))with h3 |h3
  ·rw[Nat.div_eq_of_lt h3]at h;omega
  ·exact h3
 rcases Nat.mod_two_eq_zero_or_one (m/2^(l+1))with h |h
 ·rw[h];simp
 ·have:=hge h
  rw[h,if_neg (by omega)]
  omega
theorem zxm(x n:Int):bG 224 [I x,I n] (.r (I (parI x n))):=by
 refine bT Tryz.func224 rfl ?_
 refine Vcall.bool (g_of x n) (λho=>zw rfl ?_) (λho=>zu rfl (zq (zf (congrArg I (zvp (.inl ho)).symm))))
 obtain⟨b1,b2,b3,b4,b5⟩:=zys ho
 refine zd rfl (by omega) ?_
 refine zh (λh=>zq ?_) (λh=>zt ?_)
 ·simp only[zb]at h
  exact zf (congrArg I (zvp (.inr h)).symm)
 simp only[zb]at h
 refine ze (ztt x) ?_
 obtain⟨m,rfl⟩:=Int.eq_ofNat_of_zero_le b1
 have hl:lvI (m:Int)=((lv m:Nat):Int):=by rw[zl7 (zdk.2 (by omega)),Int.toNat_natCast]
 obtain⟨d,hd,hn⟩:=zet (ze5.1 ho).1
 have h16:lv m<16:=by have:=zepb (m:=m) hd (by omega) (by have:=zag d;omega);omega
 obtain⟨e1,e2⟩:=ze5b (m:=m) (by omega) rfl h16
 have hp:=zpf (d:=lv m) (by omega)
 have hp2:2^(lv m+1)=2*2^lv m:=by rw[Nat.pow_succ];omega
 rw[hl]
 refine bV ?_
 refine Vshl.nat (.inr rfl) 1 (lv m) _ rfl rfl (by omega) (Nat.one_mul _) (by omega) ?_
 refine Vbits.nat (.inr rfl) m (2^lv m) (m+2^lv m) rfl rfl (by omega) (by omega) (by omega) e1 ?_
 refine zd (m:=((lv m+1:Nat):Int)) (by omega) (by omega) ?_
 refine Vshl.nat (.inr rfl) 1 (lv m+1) _ rfl rfl (by omega) (Nat.one_mul _) (by omega) ?_
 refine Vbits.nat (.inr rfl) (m+2^lv m) (2^(lv m+1)) (upN m) rfl rfl (by omega) (by omega) (by rw[<-e2];exact Nat.lt_of_le_of_lt Nat.and_le_left (by omega)) e2 ?_
 refine zf (congrArg I ?_)
 unfold parI
 rw[ho,Bool.true_and,if_pos (by rw[decide_eq_true_eq];exact h),Int.toNat_natCast]
theorem zyx{n:Int}: ∀(f:Nat) (x:Int),∀y∈zdx n f x,ofI y n=true/\0<=y/\y<=131070
 |0,x,y,h=>by simp[zdx]at h
 |f+1,x,y,h=>by
  unfold zdx at h
  split at h
  ·simp at h
  ·obtain⟨h1,h2,_⟩:=zn8 (x:=x) (n:=n) (by omega)
   rcases List.mem_cons.1 h with rfl |h
   ·have:=zys h2;exact⟨h2,by omega,by omega⟩
   ·exact zyx f _ y h
theorem zbob{x n:Int}{y:Int}(h:y∈zc1 x n):ofI y n=true/\0<=y/\y<=131070:=zyx 17 x y h
theorem zvq{n:Int}: ∀(f:Nat) (x:Int),(zdx n f x).length<=f
 |0,x=>by simp[zdx]
 |f+1,x=>by
  unfold zdx
  split
  ·simp
  ·simp only[List.length_cons];have:=zvq (n:=n) f (parI x n);omega
theorem zin(x n:Int):(zc1 x n).length<=17:=zvq 17 x
theorem zgtb(x n:Int):bG 171 [I x,I n] (ich (zc1 x n)):=by
 refine bT Tryz.func171 rfl ?_
 refine ze (zxm x n) ?_
 refine Vloop.mk' (λi:List Int×Int=>{F:=[(0, .r (I (parI i.2 n))),(1, .r (I n)),(5, .own 0)],O:=[(0,some (.ch 3 1 i.1.length (i.1.map I) true))],nx:=1}) (λi=>∃f,i.1++zdx n f i.2=zc1 x n/\i.1.length+f=17/\(i.1.length:Int)<=lvI i.2+1) (λi=>17-i.1.length) ([],x)
  ⟨17,rfl,rfl,by have:=zn1 x;show(0:Int)<=lvI x+1;omega⟩ ((zb7 5 3 1 rfl).trans (zac [(0,0)] rfl ⟨cr,cr,rfl,trivial⟩ ⟨⟨rfl,rfl,rfl,rfl,zn _⟩,trivial⟩)) ?_
 rintro⟨l,y⟩ ⟨f,h1,h2,h3⟩
 dsimp only at h1 h2 h3⊢
 refine zh (λh=>zq ?_) (λh=>zt ?_)
 ·simp only[zb]at h
  obtain⟨_,_,h5,h6⟩:=zn8 (x:=y) (n:=n) h
  have h7:=zn1 (parI y n)
  obtain⟨f,rfl⟩: ∃g,f=g+1:=⟨f-1,by omega⟩
  rw[zdx,if_neg (by omega)]at h1
  refine zy ?_
  refine Vapp.mk' (j:=(l++[parI y n]).length) (zs:=(l++[parI y n]).map I) (by simp only[maxLen];omega) (by show(l.length+1)*8<=_;omega) (by simp) (by simp[zbl,cellsOf]) ?_
  refine ze (zxm _ n) ?_
  exact⟨(l++[parI y n],parI y n),⟨f,by rw[<-h1];simp,by simp;omega,by simp;omega⟩,by simp;omega,zac [(0,_)] rfl ⟨cr,cr,rfl,trivial⟩ ⟨zau rfl,trivial⟩⟩
 ·simp only[zb]at h
  have e:zdx n f y=[]:=by
   cases f with
   |zero=>rfl
   |succ f=>rw[zdx,if_pos (by omega)]
  rw[e,List.append_nil]at h1
  subst h1
  exact rfl
def zcs(x n:Int):D3:=((zbj x n).getLast?).getD ⟨0,0,0⟩
theorem znb(x:Int): ∀(f:Nat) (a b:Int),(zg6 x f a b).length<=f
 |0,a,b=>Nat.le_refl _
 |f+1,a,b=>by
  unfold zg6
  simp only[List.length_cons]
  have h1:=znb x f a ((a+b)/2-1)
  have h2:=znb x f ((a+b)/2+1) b
  split
  ·simp
  ·split<;>omega
theorem zj6(x n:Int):(zbj x n).length<=17:=by
 unfold zbj
 split
 ·exact znb _ _ _ _
 ·simp
theorem z5t{x n:Int}:0< (zbj x n).length↔ofI x n=true:=by
 unfold zbj
 split
 ·rename_i h;exact⟨λ_=>h,λ_=>by unfold zg6;exact Nat.succ_pos _⟩
 ·rename_i h;simp[h]
theorem zjy{x n:Int}(ho:ofI x n=true): ∃d h k,d<=16/\h<=d/\k<2^(d-h)/\n=((2^d:Nat):Int)/\x=(nd h k:Int)/\zcs x n=trip h k:=by
 obtain⟨d,h,k,hd,hh,hk,rfl,rfl,_,hl⟩:=z5u ho
 exact⟨d,h,k,hd,hh,hk,rfl,rfl,by unfold zcs;rw[hl];rfl⟩
theorem zsd{x n:Int}(ho:ofI x n=false):zcs x n=⟨0,0,0⟩:=by unfold zcs;rw[zf5 ho];rfl
theorem za8b{x n:Int}:0<=(zcs x n).lo/\(zcs x n).lo<=131070/\0<=(zcs x n).hi/\(zcs x n).hi<=131070/\(zcs x n).lo<=(zcs x n).hi:=by
 rcases ho:ofI x n with _ |_
 ·rw[zsd ho];simp
 ·obtain⟨d,h,k,hd,hh,hk,rfl,rfl,hl⟩:=zjy ho
  rw[hl]
  have hp:=zag h
  have e2:2^(h+1)=2*2^h:=by rw[Nat.pow_succ];omega
  have h1:(k+1)*2^(h+1)<=2^(d+1):=by
   have:=Nat.mul_le_mul_right (2^(h+1)) (show k+1<=2^(d-h)from hk)
   rw[<-Nat.pow_add,show d-h+(h+1)=d+1 by omega]at this
   exact this
  have h2:2^(d+1)<=2^17:=Nat.pow_le_pow_right (by omega) (by omega)
  rw[Nat.add_mul]at h1
  simp only[trip,e2]at*
  generalize k*(2*2^h)=q at*
  omega
theorem z7w{x n:Int}(ho:ofI x n=true)(h:(zcs x n).lo≠(zcs x n).hi):1<=x:=by
 obtain⟨d,g,k,hd,hh,hk,rfl,rfl,hl⟩:=zjy ho
 rw[hl]at h
 rcases Nat.eq_zero_or_pos g with rfl |hg
 ·simp[trip]at h
 ·have:2^1<=2^g:=Nat.pow_le_pow_right (by omega) hg
  unfold nd
  omega
abbrev d3r(t:D3):List RV:=[I t.at_,I t.lo,I t.hi]
def ds(l:List D3):RV:= .sl 3 l.length (l.flatMap d3r)
theorem zwo{l:List D3}{i:Int}{j:Nat}(h:i=j)(hj:j<l.length):((l.flatMap d3r).drop (i.toNat*3)).take 3=d3r l[j]:=zhp (sz:=3) (λ_=>rfl) h hj
theorem z9u(n:Int):bG 146 [I n] (.r (.b (zck n))):=by
 refine bT Tryz.func146 rfl ?_
 refine Vloop.mk' (λj:Nat=>{F:=[(0, .r (I n)),(3, .r (I ((2^j:Nat):Int)))],O:=[],nx:=0}) (λj=>j<=17/\∀i,i<j->n≠((2^i:Nat):Int)) (λj=>17-j) 0 ⟨by omega,by omega⟩ (zac [] rfl ⟨cr,cr,trivial⟩ trivial) ?_
 rintro j ⟨hj,hn⟩
 have hp:=zag j
 have e2:2^(j+1)=2*2^j:=by rw[Nat.pow_succ];omega
 have hpj:2^j<=2^17:=Nat.pow_le_pow_right (by omega) hj
 refine zh (λh=>zq ?_) (λh=>zt ?_)
 ·simp only[zb]at h
  have hj':j<17:=by
   rcases Nat.lt_or_ge j 17 with h' |h'
   ·exact h'
   ·obtain rfl:j=17:=by omega
    omega
  refine zh (λh2=>zq ?_) (λh2=>zt ?_)
  ·simp only[zb]at h2
   exact zf (congrArg RV.b (by rw[<-h2,zce j (by omega)]))
  ·simp only[zb]at h2
   refine zd (m:=((2^(j+1):Nat):Int)) (by omega) (by omega) ?_
   refine⟨j+1,⟨by omega,λi hi=>?_⟩,by omega,zac [] rfl ⟨cr,cr,trivial⟩ trivial⟩
   rcases Nat.lt_or_ge i j with h3 |h3
   ·exact hn i h3
   ·obtain rfl:i=j:=by omega
    exactλe=>h2 e.symm
 ·simp only[zb]at h
  refine zf (congrArg RV.b (Eq.symm (Bool.eq_false_iff.2 λhf=>?_)))
  obtain⟨d,hd,e⟩:=zet hf
  rcases Nat.lt_or_ge d j with h3 |h3
  ·exact hn d h3 e
  ·have:=Nat.pow_le_pow_right (n:=2) (by omega) h3
   have:=(zpf hd).2
   omega
theorem zry(x n:Int):bG 89 [I x,I n] (.r (ds (zbj x n))):=by
 refine bT Tryz.func89 rfl ?_
 have out:ofI x n=false->Cv (.x (.slice none 0 0)) (ds (zbj x n)):=λho=>by rw[zf5 ho];exact Cv.nil 3
 refine Vcall.bool (z9u n) (λhf=>zw rfl ?_) (λhf=>zu rfl (zq (out (by simp[ofI,hf]))))
 have hb:=zdc hf
 refine zh (λh=>zq ?_) (λh=>?_)
 ·simp only[zb]at h
  exact out (by simp[ofI,hf];omega)
 simp only[zb]at h
 refine zd rfl (by omega) (zd rfl (by omega) ?_)
 refine zh (λh2=>zq ?_) (λh2=>zt ?_)
 ·simp only[zb]at h2
  exact out (by simp[ofI,hf];omega)
 simp only[zb]at h2
 refine zd rfl (by omega) (zd rfl (by omega) ?_)
 have ho:ofI x n=true:=ze5.2 ⟨hf,by omega,by omega⟩
 refine Vloop.mk' (λi:List D3×Nat×Int×Int=>{F:=[(0, .r (I x)),(5, .r (I i.2.2.1)),(6, .r (I i.2.2.2)),(7, .own 0)],O:=[(0,some (.ch 117 3 i.1.length (i.1.flatMap d3r) true))],nx:=1})
  (λi=>zbj x n=i.1++zg6 x i.2.1 i.2.2.1 i.2.2.2/\i.1.length+i.2.1<=17/\0<=i.2.2.1/\i.2.2.1<=x/\x<=i.2.2.2/\i.2.2.2<=131070/\i.2.2.2-i.2.2.1+2<=((2^i.2.1:Nat):Int)) (λi=>i.2.1) ([],17,0,2*n-2)
  ⟨by simp[zbj,ho],by simp,by simp,by dsimp only;omega,by dsimp only;omega,by dsimp only;omega,by dsimp only;omega⟩ ((zb7 7 117 3 rfl).trans (zac [(0,0)] rfl ⟨cr,cr,cr,rfl,trivial⟩ ⟨⟨rfl,rfl,rfl,rfl,zn _⟩,trivial⟩)) ?_
 rintro⟨l,f,a,b⟩ ⟨e1,e2,e3,e4,e5,e6,e7⟩
 dsimp only at e1 e2 e3 e4 e5 e6 e7⊢
 obtain⟨f,rfl⟩: ∃g,f=g+1:=⟨f-1,by
  rcases Nat.eq_zero_or_pos f with h |h
  ·subst h;omega
  ·omega⟩
 have e8:2^(f+1)=2*2^f:=by rw[Nat.pow_succ];omega
 rw[zg6]at e1
 refine zd rfl (by omega) ?_
 refine⟨by decide,(a+b)/2,by rw[Int.tdiv_eq_ediv_of_nonneg (by omega)];exact wrap_i64 (by omega),?_⟩
 refine zy ?_
 refine Vapp.mk' (j:=(l++[(⟨(a+b)/2,a,b⟩:D3)]).length) (zs:=(l++[(⟨(a+b)/2,a,b⟩:D3)]).flatMap d3r) (by simp only[maxLen];omega) (by show(l.length+1)*24<=_;omega) (by simp) (by rw[List.flatMap_append];rfl) ?_
 refine zh (λh3=>zq ?_) (λh3=>zt ?_)
 ·simp only[zb]at h3
  rw[if_pos h3]at e1
  rw[e1]
  exact cr
 simp only[zb]at h3
 rw[if_neg h3]at e1
 refine zh (λh4=>zq ?_) (λh4=>zt ?_)
 ·simp only[zb]at h4
  rw[if_pos h4]at e1
  refine zd rfl (by omega) ?_
  exact⟨(l++[⟨(a+b)/2,a,b⟩],f,a,(a+b)/2-1),⟨by rw[e1];simp,by simp;omega,by dsimp only;omega,by dsimp only;omega,by dsimp only;omega,by dsimp only;omega,by dsimp only;omega⟩,by dsimp only;omega,zac [(0,_)] rfl ⟨cr,cr,cr,rfl,trivial⟩ ⟨⟨rfl,rfl,rfl,rfl,zn _⟩,trivial⟩⟩
 ·simp only[zb]at h4
  rw[if_neg h4]at e1
  refine zd rfl (by omega) ?_
  exact⟨(l++[⟨(a+b)/2,a,b⟩],f,(a+b)/2+1,b),⟨by rw[e1];simp,by simp;omega,by dsimp only;omega,by dsimp only;omega,by dsimp only;omega,by dsimp only;omega,by dsimp only;omega⟩,by dsimp only;omega,zac [(0,_)] rfl ⟨cr,cr,cr,rfl,trivial⟩ ⟨⟨rfl,rfl,rfl,rfl,zn _⟩,trivial⟩⟩
theorem zqs(x n:Int):bG 53 [I x,I n] (.r (.tu [.ag (d3r (zcs x n)), .b (ofI x n)])):=by
 refine bT Tryz.func53 rfl ?_
 refine ze (zry x n) ?_
 have hlen:=zj6 x n
 have hpos:=z5t (x:=x) (n:=n)
 cases ho:ofI x n with
 |false=>
  have e:=zf5 ho
  rw[e,zsd ho]
  exact zu rfl (zq (za rfl rfl ⟨_,rfl,cr⟩))
 |true=>
  have h0:=hpos.2 ho
  refine zw (by simp only[zb];omega) (zt ?_)
  refine zd (m:=(((zbj x n).length-1:Nat):Int)) (by omega) (by omega) ?_
  refine zm (by omega) (by omega) (zwo rfl (show(zbj x n).length-1<_ by omega)) ?_
  have e:(zbj x n)[(zbj x n).length-1]=zcs x n:=by
   unfold zcs
   rw[List.getLast?_eq_getElem?,List.getElem?_eq_getElem (by omega)]
   rfl
  rw[e]
  refine za rfl rfl ?_
  exact za rfl rfl ⟨_,rfl,cr⟩
theorem z4k{x:Int}(ho:ofI x 65536=true):(if(zcs x 65536).lo=(zcs x 65536).hi then((-1:Int),(-1:Int))else(((zcs x 65536).lo+x-1)/2,(x+1+(zcs x 65536).hi)/2))=(zbw x,zbo x):=by
 obtain⟨d,h,k,hd,hh,hk,_,e,hl⟩:=zjy ho
 rw[hl,e]
 exact zv9 hd hh hk
theorem z4a{x:Int}(h:zbt x=false):zek x=0:=by simp[zek,zl8 h]
theorem ze4(x:Int):bG 94 [I x] (.r (.tu [I (zbw x),I (zbo x)])):=by
 refine bT Tryz.func94 rfl ?_
 obtain⟨b1,b2,b3,b4,b5⟩:=za8b (x:=x) (n:=65536)
 refine ze (zqs x 65536) ?_
 cases ho:ofI x 65536 with
 |false=>
  have h0:zek x=0:=z4a (by rw[zme];exact ho)
  refine zu rfl (zq ⟨_,rfl,zf ?_⟩)
  simp[zbw,zbo,h0,ofC]
 |true=>
  have hx:=zys ho
  have hc:=z4k ho
  have h1:=z7w ho
  generalize zcs x 65536=T at*
  refine zw rfl ?_
  refine zh (λh=>zq ?_) (λh=>zt ?_)
  ·simp only[zb]at h
   rw[if_pos h]at hc
   injection hc with e1 e2
   exact⟨_,rfl,zf (by rw[<-e1,<-e2];rfl)⟩
  ·simp only[zb]at h
   have h2:=h1 h
   rw[if_neg h]at hc
   injection hc with e1 e2
   refine bV ?_
   refine zd rfl (by omega) (zd rfl (by omega) ?_)
   refine⟨by decide,zbw x,by rw[<-e1,Int.tdiv_eq_ediv_of_nonneg (by omega)];exact wrap_i64 (by omega),?_⟩
   refine zd rfl (by omega) (zd rfl (by omega) ?_)
   refine⟨by decide,zbo x,by rw[<-e2,Int.tdiv_eq_ediv_of_nonneg (by omega)];exact wrap_i64 (by omega),?_⟩
   exact⟨_,rfl,cr⟩
theorem z95(l m:List Int)(hl: ∀x∈l,i64 x)(hm: ∀x∈m,i64 x):bG 88 [is l,is m] (.r (.b (decide (l=m)))):=by
 refine znn (zfe Tryz.func88 rfl (by kernel_rfl)) λhml=>?_
 refine bT Tryz.func88 rfl ?_
 refine zh (λh=>zq ?_) (λh=>zt ?_)
 ·simp only[zb]at h
  exact zf (congrArg RV.b (Eq.symm (decide_eq_false λe=>h (by rw[e]))))
 simp only[zb]at h
 refine Vloop.mk' (λi:Nat=>⟨[(0, .r (is l)),(1, .r (is m)),(5, .r (I i))],[],0⟩) (λi=>i<=l.length/\l.take i=m.take i) (λi=>l.length-i) 0 ⟨by omega,by simp⟩ (zac [] rfl ⟨cr,cr,cr,trivial⟩ trivial) ?_
 rintro i ⟨hi,he⟩
 refine zh (λh3=>zq ?_) (λh3=>zt ?_)
 ·simp only[zb]at h3
  have h1:i<l.length:=by omega
  have h2:i<m.length:=by omega
  refine bV ?_
  refine zm (by omega) (by omega) (zaj rfl h1) (zg rfl ?_)
  refine zm (by omega) (by omega) (zaj rfl h2) (zg rfl ?_)
  refine zh (λh4=>zq ?_) (λh4=>zt ?_)
  ·simp only[zb]at h4
   refine zf (congrArg RV.b (Eq.symm (decide_eq_false λe=>?_)))
   subst e;exact h4 rfl
  ·simp only[zb]at h4
   refine zd (m:=((i+1:Nat):Int)) (by omega) (by omega) ?_
   refine⟨i+1,⟨h1,?_⟩,by omega,zac [] rfl ⟨cr,cr,cr,trivial⟩ trivial⟩
   rw[List.take_succ_eq_append_getElem h1,List.take_succ_eq_append_getElem h2,he,h4]
 ·simp only[zb]at h3
  refine zf (congrArg RV.b (Eq.symm ?_))
  rw[decide_eq_true_eq,<-List.take_of_length_le (show l.length<=i by omega),he,List.take_of_length_le (by omega)]
end Go.Proofs.YtoegdgbghdnnfaaGreat.Sx

namespace Go.Proofs.YtoegdgbghdnnfaaGreat
def beB:Nat->Nat->List UInt8
 |0,_=>[]
 |s+1,n=>UInt8.ofNat (n/256^s)::beB s n
theorem zao: ∀(s n:Nat),(beB s n).length=s
 |0,_=>rfl
 |s+1,n=>by rw[beB,List.length_cons,zao s n]
def lenB(n:Nat):List UInt8:=if n<64 then beB 1 n else if n<16384 then beB 2 (16384+n)else beB 4 (2147483648+n)
def zh8(n:Nat):Nat:=if n<64 then 1 else if n<16384 then 2 else 4
theorem zqy(n:Nat):(lenB n).length=zh8 n:=by
 unfold lenB zh8
 split
 ·exact zao _ _
 ·split<;>exact zao _ _
theorem zjz(n:Nat):1<=zh8 n/\zh8 n<=4:=by unfold zh8;split<;>(try split)<;>omega
def vecB(v:List UInt8):List UInt8:=lenB v.length++v
theorem zrc(v:List UInt8):(vecB v).length=zh8 v.length+v.length:=by rw[vecB,List.length_append,zqy]
theorem zal(v:List UInt8):(vecB v).length<=v.length+4:=by rw[zrc];have:=zjz v.length;omega
theorem z8k(i:Nat):2^(8*i)=256^i:=by rw[Nat.pow_mul]
end Go.Proofs.YtoegdgbghdnnfaaGreat
