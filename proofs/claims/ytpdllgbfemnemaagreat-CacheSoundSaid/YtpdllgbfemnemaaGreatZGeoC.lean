import Derived.Test.YtpdllgbfemnemaaGreatZOnes
namespace Go.Proofs.YtpdllgbfemnemaaGreat
set_option linter.unusedVariables false
section
structure D3 where
 at_:Int
 lo:Int
 hi:Int
def zg3(x:Int):Nat->Int->Int->List D3
 |0,_,_=>[]
 |f+1,lo,hi=>⟨(lo+hi)/2,lo,hi⟩::(if(lo+hi)/2=x then[]else if x< (lo+hi)/2 then zg3 x f lo ((lo+hi)/2-1)else zg3 x f ((lo+hi)/2+1) hi)
def zbx(x n:Int):List D3:=if ofI x n then zg3 x 17 0 (2*n-2)else[]
def trip(h k:Nat):D3:=⟨(nd h k:Int),((k*2^(h+1):Nat):Int),((k*2^(h+1)+2^(h+1)-2:Nat):Int)⟩
def upT:Nat->Nat->Nat->List D3
 |0,h,k=>[trip h k]
 |m+1,h,k=>trip h k::upT m (h+1) (k/2)
theorem zs4: ∀(m h k:Nat),upT (m+1) h k=upT m h k++[trip (h+(m+1)) (k/2^(m+1))]
 |0,h,k=>by simp[upT]
 |m+1,h,k=>by
  rw[upT,zs4 m (h+1) (k/2),<-List.cons_append]
  congr 2
  rw[Nat.div_div_eq_div_mul,<-Nat.pow_succ',show h+1+(m+1)=h+(m+1+1)by omega]
theorem zfj: ∀(m h k:Nat),(upT m h k).length=m+1
 |0,_,_=>rfl
 |m+1,h,k=>by rw[upT,List.length_cons,zfj]
theorem z7e(h k i:Nat):(k/2^i)*2^(h+i+1)<=nd h k/\nd h k+2<=(k/2^i)*2^(h+i+1)+2^(h+i+1):=by
 have hp:=zag h
 have e1:2^(h+i+1)=2^i*2^(h+1):=by rw[<-Nat.pow_add];congr 1;omega
 have e2:2^(h+1)=2*2^h:=by rw[Nat.pow_succ];omega
 have h1:=Nat.div_mul_le_self k (2^i)
 have h2:k< (k/2^i+1)*2^i:=by
  have:=Nat.lt_div_mul_add (a:=k) (zag i)
  rw[Nat.add_mul];omega
 have h3:=Nat.mul_le_mul_right (2^(h+1)) h1
 have h4:=Nat.mul_le_mul_right (2^(h+1)) (show k+1<=(k/2^i+1)*2^i from h2)
 rw[Nat.mul_assoc]at h3 h4
 rw[Nat.add_mul,Nat.add_mul]at h4
 unfold nd
 rw[e1]
 omega
theorem z8e(h k:Nat):(((k*2^(h+1):Nat):Int)+((k*2^(h+1)+2^(h+1)-2:Nat):Int))/2=(nd h k:Int):=by
 have hp:=zag h
 have e2:2^(h+1)=2*2^h:=by rw[Nat.pow_succ];omega
 unfold nd
 generalize k*2^(h+1)=q
 omega
theorem zzj(h k:Nat): ∀(i f:Nat),h+i<=16->i<f->
  zg3 (nd h k:Int) f (((k/2^i)*2^(h+i+1):Nat):Int) (((k/2^i)*2^(h+i+1)+2^(h+i+1)-2:Nat):Int)=(upT i h k).reverse
 |0,f,hi,hf=>by
  obtain⟨f,rfl⟩: ∃g,f=g+1:=⟨f-1,by omega⟩
  rw[zg3]
  have:=z8e h k
  simp only[Nat.pow_zero,Nat.div_one,Nat.add_zero]at this⊢
  rw[this,if_pos rfl]
  rfl
 |i+1,f,hi,hf=>by
  obtain⟨f,rfl⟩: ∃g,f=g+1:=⟨f-1,by omega⟩
  have hne:(nd (h+(i+1)) (k/2^(i+1)):Int)≠(nd h k:Int):=by
   intro e
   have:=(zfk (by omega) (by omega) (Int.ofNat.inj e)).1
   omega
  rw[zg3,z8e,if_neg hne,zs4,List.reverse_append,List.reverse_singleton]
  show _::_=trip (h+(i+1)) (k/2^(i+1))::(upT i h k).reverse
  congr 1
  obtain⟨b1,b2⟩:=z7e h k i
  have e1:k/2^(i+1)=k/2^i/2:=by rw[Nat.pow_succ,Nat.div_div_eq_div_mul]
  have e2:2^(h+(i+1)+1)=2*2^(h+i+1):=by rw[show h+(i+1)+1=h+i+1+1 by omega,Nat.pow_succ];omega
  have e3:2^(h+(i+1))=2^(h+i+1):=by congr 1
  have hp:=zag (h+i+1)
  rw[e1]
  have ih:=zzj h k i f (by omega) (by omega)
  generalize k/2^i=q at*
  have hnd:nd (h+(i+1)) (q/2)=q/2*(2*2^(h+i+1))+2^(h+i+1)-1:=by unfold nd;rw[e2,e3]
  rw[hnd,e2]
  generalize 2^(h+i+1)=Q at*
  rcases Nat.mod_two_eq_zero_or_one q with hq |hq
  ·have eq:q=2*(q/2):=by omega
   generalize q/2=r at*
   subst eq
   have e4:2*r*Q=r*(2*Q):=by rw[Nat.mul_comm 2 r,Nat.mul_assoc]
   rw[e4]at b1 b2 ih
   rw[if_pos (by omega),<-ih]
   congr 1
   omega
  ·have eq:q=2*(q/2)+1:=by omega
   generalize q/2=r at*
   subst eq
   have e4:(2*r+1)*Q=r*(2*Q)+Q:=by rw[Nat.add_mul,Nat.mul_comm 2 r,Nat.mul_assoc,Nat.one_mul]
   rw[e4]at b1 b2 ih
   rw[if_neg (by omega),<-ih]
   congr 1<;>omega
theorem zjd{d h k:Nat}(hd:d<=16)(hh:h<=d)(hk:k<2^(d-h)):zbx (nd h k:Int) ((2^d:Nat):Int)=(upT (d-h) h k).reverse:=by
 unfold zbx
 rw[if_pos (zys hd hh hk)]
 have:=zzj h k (d-h) 17 (by omega) (by omega)
 rw[Nat.div_eq_of_lt hk,show h+(d-h)=d by omega]at this
 rw[<-this]
 have hp:=zag d
 congr 1<;>first |omega |(rw[Nat.pow_succ];omega)
theorem zit{x n:Int}(h:ofI x n=false):zbx x n=[]:=by simp[zbx,h]
theorem z1n{d:Nat}(hd:d<=16): ∀(m f h k:Nat),h+m=d->k<2^m->m<f->zeg ((2^d:Nat):Int) f (nd h k:Int)=(upT m h k).tail.map (·.at_)
 |0,f,h,k,hm,hk,hf=>by
  obtain⟨f,rfl⟩: ∃g,f=g+1:=⟨f-1,by omega⟩
  obtain rfl:h=d:=by omega
  have:k=0:=by simpa using hk
  subst this
  rw[zeg,zkd];rfl
 |m+1,f,h,k,hm,hk,hf=>by
  obtain⟨f,rfl⟩: ∃g,f=g+1:=⟨f-1,by omega⟩
  have hk2:k/2<2^m:=by rw[Nat.pow_succ]at hk;omega
  rw[zeg,zk7 hd (by omega) (by rw[show d-h=m+1 by omega];exact hk),if_neg (by omega),z1n hd m f (h+1) (k/2) (by omega) hk2 (by omega)]
  cases m with
  |zero=>rfl
  |succ m=>rfl
theorem zi2{d h k:Nat}(hd:d<=16)(hh:h<=d)(hk:k<2^(d-h)):za4 (nd h k:Int) ((2^d:Nat):Int)=(upT (d-h) h k).tail.map (·.at_):=
 z1n hd (d-h) 17 h k (by omega) hk (by omega)
theorem z4q{x n:Int}(h:ofI x n=false):za4 x n=[]:=by
 unfold za4 zeg
 rw[if_pos (by have:parI x n= -1:=(by simp[parI,h]);omega)]
theorem zx3(x n:Int):((zbx x n).dropLast.reverse).map (·.at_)=za4 x n:=by
 rcases ho:ofI x n with _ |_
 ·rw[zit ho,z4q ho];rfl
 ·obtain⟨d,h,k,hd,rfl,hh,hk,rfl⟩:=zex ho
  rw[zjd hd hh hk,zi2 hd hh hk]
  congr 1
  rw[List.dropLast_reverse,List.reverse_reverse]
theorem z75{x n:Int}(ho:ofI x n=true): ∃d h k,d<=16/\h<=d/\k<2^(d-h)/\n=((2^d:Nat):Int)/\x=(nd h k:Int)/\(zbx x n).length=d-h+1/\(zbx x n).getLast?=some (trip h k):=by
 obtain⟨d,h,k,hd,rfl,hh,hk,rfl⟩:=zex ho
 refine⟨d,h,k,hd,hh,hk,rfl,rfl,?_,?_⟩
 ·rw[zjd hd hh hk,List.length_reverse,zfj]
 ·rw[zjd hd hh hk,List.getLast?_reverse]
  cases d-h<;>rfl
theorem zk9{x:Int}:za1 x=ofI x 65536:=by
 rw[Bool.eq_iff_iff,zdl,zey]
 have:za0 65536=true:=by decide
 constructor
 ·intro h;exact⟨this,by omega⟩
 ·intro h;omega
theorem ze9b{d h k:Nat}(hd:d<=16)(hh:h<=d)(hk:k<2^(d-h)):zq7 (nd h k:Int)=((2^h-1:Nat):Int):=by
 have hp:=zag h
 rw[ztj,zkb hd hh hk,Int.toNat_natCast,show(2:Int)^h=((2^h:Nat):Int)by simp]
 omega
theorem zty{x:Int}{h k d:Nat}(hd:d<=16)(hh:h<=d)(hk:k<2^(d-h))(hx:za1 x=true):zal x (nd h k:Int)=(decide ((trip h k).lo<=x)&&decide (x<=(trip h k).hi)):=by
 rw[Bool.eq_iff_iff,zky,ze9b hd hh hk,Bool.and_eq_true,decide_eq_true_eq,decide_eq_true_eq,hx,zcg hd hh hk]
 have hp:=zag h
 have e2:2^(h+1)=2*2^h:=by rw[Nat.pow_succ];omega
 simp only[trip,nd,e2]
 generalize k*(2*2^h)=q
 constructor
 ·rintro⟨_,h1,h2⟩
  omega
 ·rintro⟨h1,h2⟩
  exact⟨⟨trivial,trivial⟩,by omega,by omega⟩
theorem zv8{d h k:Nat}(hd:d<=16)(hh:h<=d)(hk:k<2^(d-h)):zdo (nd h k:Int)=if h=0 then 0 else((2^(h-1):Nat):Int):=by
 unfold zdo
 rw[zkb hd hh hk]
 rcases Nat.eq_zero_or_pos h with rfl |hp
 ·simp
 ·rw[if_pos (by omega),if_neg (by omega),show((h:Int)-1).toNat=h-1 by omega];simp
theorem zdk{d h k:Nat}(hd:d<=16)(hh:h+1<=d)(hk:k<2^(d-(h+1))):zbj (nd (h+1) k:Int)=(nd h (2*k):Int):=by
 unfold zbj
 rw[zv8 hd hh hk,if_neg (by omega: ¬h+1=0)]
 have hp:=zag h
 simp only[Nat.add_sub_cancel]
 rw[if_neg (by omega)]
 unfold nd
 rw[Nat.pow_succ 2 (h+1),Nat.pow_succ 2 h,show 2*k*(2^h*2)=k*(2^h*2*2)by rw[Nat.mul_comm 2 k,Nat.mul_assoc,Nat.mul_comm 2]]
 omega
theorem zc7{d h k:Nat}(hd:d<=16)(hh:h+1<=d)(hk:k<2^(d-(h+1))):zbi (nd (h+1) k:Int)=(nd h (2*k+1):Int):=by
 unfold zbi
 rw[zv8 hd hh hk,if_neg (by omega: ¬h+1=0)]
 have hp:=zag h
 simp only[Nat.add_sub_cancel]
 rw[if_neg (by omega)]
 unfold nd
 rw[Nat.pow_succ 2 (h+1),Nat.pow_succ 2 h,Nat.add_mul,show 2*k*(2^h*2)=k*(2^h*2*2)by rw[Nat.mul_comm 2 k,Nat.mul_assoc,Nat.mul_comm 2]]
 omega
theorem znj{d k:Nat}(hd:d<=16)(hk:k<2^d):zbj (nd 0 k:Int)= -1/\zbi (nd 0 k:Int)= -1:=by
 unfold zbj zbi
 rw[zv8 hd (Nat.zero_le _) (by simpa using hk)]
 simp
theorem zyq{d h k:Nat}(hd:d<=16)(hh:h<=d)(hk:k<2^(d-h)):
  (if(trip h k).lo=(trip h k).hi then((-1:Int),(-1:Int))else(((trip h k).lo+(nd h k:Int)-1)/2,((nd h k:Int)+1+(trip h k).hi)/2))=(zbj (nd h k:Int),zbi (nd h k:Int)):=by
 rcases Nat.eq_zero_or_pos h with rfl |hp
 ·rw[(znj hd (by simpa using hk)).1,(znj hd (by simpa using hk)).2,if_pos (by simp[trip])]
 ·obtain⟨h,rfl⟩: ∃g,h=g+1:=⟨h-1,by omega⟩
  rw[zdk hd hh hk,zc7 hd hh hk]
  have hp:=zag h
  have e1:2^(h+1+1)=4*2^h:=by rw[Nat.pow_succ,Nat.pow_succ];omega
  have e2:2^(h+1)=2*2^h:=by rw[Nat.pow_succ];omega
  simp only[trip,nd,e1,e2]
  have e3:2*k*(2*2^h)=k*(4*2^h):=by rw[Nat.mul_comm 2 k,Nat.mul_assoc,<-Nat.mul_assoc 2 2]
  rw[Nat.add_mul (2*k),e3]
  generalize k*(4*2^h)=q
  generalize 2^h=p at*
  rw[if_neg (by omega)]
  congr 1<;>omega
theorem z8t{d h k:Nat}(hd:d<=16)(hh:h<d)(hk:k<2^(d-h)):
  ((nd h k:Int)< (nd (h+1) (k/2):Int)↔zbj (nd (h+1) (k/2):Int)=(nd h k:Int))/\¬(nd h k:Int)=(nd (h+1) (k/2):Int):=by
 rw[zdk hd hh (znr hh hk)]
 have hp:=zag h
 have e2:2^(h+1)=2*2^h:=by rw[Nat.pow_succ];omega
 have hne:nd h k≠nd (h+1) (k/2):=λe=>by
  have:=(zfk (by omega) (by omega) e).1
  omega
 refine⟨⟨λh1=>?_,λh1=>?_⟩,λe=>hne (by omega)⟩
 ·rcases Nat.mod_two_eq_zero_or_one k with hq |hq
  ·rw[show 2*(k/2)=k by omega]
  ·exfalso
   unfold nd at h1
   rw[Nat.pow_succ 2 (h+1),e2]at h1
   have e3:k*(2*2^h)=k/2*(2*2^h*2)+2*2^h:=by
    conv=>lhs;rw[show k=2*(k/2)+1 by omega]
    rw[Nat.add_mul,Nat.mul_comm 2 (k/2),Nat.mul_assoc,Nat.mul_comm 2 (2*2^h)];omega
   rw[e3]at h1
   omega
 ·have h2:nd h (2*(k/2))=nd h k:=by omega
  have h3:=(zfk (by omega) (by omega) h2).2
  unfold nd
  rw[Nat.pow_succ 2 (h+1),e2]
  have e3:k*(2*2^h)=k/2*(2*2^h*2):=by
   conv=>lhs;rw[<-h3]
   rw[Nat.mul_comm 2 (k/2),Nat.mul_assoc,Nat.mul_comm 2 (2*2^h)]
  rw[e3]
  omega
theorem zqj(x n:Int):(if parI x n<0 then-1 else if zbj (parI x n)=x then zbi (parI x n)else zbj (parI x n))=sibI x n:=by
 unfold sibI
 by_cases h0:parI x n<0
 ·rw[if_pos h0,if_pos h0]
 ·rw[if_neg h0,if_neg h0]
  obtain⟨h1,_,_,_⟩:=zl3 (x:=x) (n:=n) (by omega)
  obtain⟨d,h,k,hd,rfl,hh,hk,rfl⟩:=zex h1
  rcases Nat.lt_or_ge h d with hlt |hge
  ·rw[zk7 hd hlt hk]
   have:=(z8t hd hlt hk).1
   by_cases h2:zbj (nd (h+1) (k/2):Int)=(nd h k:Int)
   ·rw[if_pos h2,if_pos (this.2 h2)]
   ·rw[if_neg h2,if_neg (λh3=>h2 (this.1 h3))]
  ·obtain rfl:h=d:=by omega
   have:k=0:=by simpa using hk
   subst this
   rw[zkd]at h0
   omega
theorem zapb(x n:Int):(if(zbx x n).length<2 then-1 else(((zbx x n)[(zbx x n).length-2]?).map (·.at_)).getD 0)=parI x n:=by
 rcases ho:ofI x n with _ |_
 ·rw[zit ho,if_pos (by simp)];simp[parI,ho]
 ·obtain⟨d,h,k,hd,rfl,hh,hk,rfl⟩:=zex ho
  rw[zjd hd hh hk,List.length_reverse,zfj]
  rcases Nat.lt_or_ge h d with hlt |hge
  ·rw[if_neg (by omega),zk7 hd hlt hk,List.getElem?_reverse (by rw[zfj];omega),zfj,show d-h+1-1-(d-h+1-2)=1 by omega]
   obtain⟨m,hm⟩: ∃m,d-h=m+1:=⟨d-h-1,by omega⟩
   rw[hm]
   cases m<;>rfl
  ·obtain rfl:h=d:=by omega
   have:k=0:=by simpa using hk
   subst this
   rw[if_pos (by omega),zkd]
theorem zo1{d:Nat}(hd:d<=16): ∀(m f h k:Nat),h+m=d->k<2^m->m<f->zdi ((2^d:Nat):Int) f (nd h k:Int)=(upT m h k).dropLast.map (λt=>sibI t.at_ ((2^d:Nat):Int))
 |0,f,h,k,hm,hk,hf=>by
  obtain⟨f,rfl⟩: ∃g,f=g+1:=⟨f-1,by omega⟩
  obtain rfl:h=d:=by omega
  have:k=0:=by simpa using hk
  subst this
  rw[zdi,zkd];rfl
 |m+1,f,h,k,hm,hk,hf=>by
  obtain⟨f,rfl⟩: ∃g,f=g+1:=⟨f-1,by omega⟩
  have hk2:k/2<2^m:=by rw[Nat.pow_succ]at hk;omega
  rw[zdi,zk7 hd (by omega) (by rw[show d-h=m+1 by omega];exact hk),if_neg (by omega),zo1 hd m f (h+1) (k/2) (by omega) hk2 (by omega),upT]
  rw[List.dropLast_cons_of_ne_nil (by cases m<;>simp[upT])]
  rfl
theorem z14(x n:Int):((zbx x n).tail.reverse).map (λt=>sibI t.at_ n)=zau x n:=by
 rcases ho:ofI x n with _ |_
 ·rw[zit ho]
  unfold zau zdi
  rw[if_pos (by have:parI x n= -1:=(by simp[parI,ho]);omega)]
  rfl
 ·obtain⟨d,h,k,hd,rfl,hh,hk,rfl⟩:=zex ho
  unfold zau
  rw[zo1 hd (d-h) 17 h k (by omega) hk (by omega),zjd hd hh hk,List.tail_reverse,List.reverse_reverse]
end
section
theorem zj4: ∀(m h k:Nat),upT m h k=(List.range (m+1)).map λi=>trip (h+i) (k/2^i)
 |0,h,k=>by simp[upT]
 |m+1,h,k=>by
  rw[zs4,zj4 m h k,List.range_succ (n:=m+1),List.map_append]
  rfl
def sibN(k:Nat):Nat:=if k%2=0 then k+1 else k-1
theorem zc8b{d h k:Nat}(hd:d<=16)(hh:h<d)(hk:k<2^(d-h)):sibI (nd h k:Int) ((2^d:Nat):Int)=(nd h (sibN k):Int):=by
 rw[<-zqj,zk7 hd hh hk,if_neg (by omega),zdk hd hh (znr hh hk),zc7 hd hh (znr hh hk)]
 unfold sibN
 by_cases he:k%2=0
 ·rw[if_pos he,show 2*(k/2)=k by omega,if_pos rfl]
 ·rw[if_neg he,if_neg (λe=>by
   have:=(zfk (h:=h) (h':=h) (by omega) (by omega) (by omega:nd h (2*(k/2))=nd h k)).2
   omega),show 2*(k/2)=k-1 by omega]
theorem z2t{m k:Nat}(hk:k<2^(m+1)):sibN k<2^(m+1):=by
 rw[Nat.pow_succ]at*
 unfold sibN
 split<;>omega
theorem zoo{d o:Nat}(hd:d<=16)(ho:o<2^d):za4 (nd 0 o:Int) ((2^d:Nat):Int)=(List.range d).map λh=>(nd (h+1) (o/2^(h+1)):Int):=by
 rw[zi2 hd (Nat.zero_le _) (by simpa using ho),zj4,Nat.sub_zero,List.range_succ_eq_map,List.map_cons,List.tail_cons,List.map_map,List.map_map]
 apply List.map_congr_left
 intro h _
 simp[trip]
theorem zgl{d o:Nat}(hd:d<=16)(ho:o<2^d):zau (nd 0 o:Int) ((2^d:Nat):Int)=(List.range d).map λh=>(nd h (sibN (o/2^h)):Int):=by
 unfold zau
 rw[zo1 hd d 17 0 o (by omega) ho (by omega),zj4,List.range_succ,List.map_append,List.map_cons,List.map_nil,List.dropLast_concat,List.map_map]
 apply List.map_congr_left
 intro h hh
 rw[List.mem_range]at hh
 simp only[Function.comp_apply,trip,Nat.zero_add]
 refine zc8b hd hh ?_
 rw[Nat.div_lt_iff_lt_mul (zag h),<-Nat.pow_add]
 rwa[show d-h+h=d by omega]
theorem zep{d o h:Nat}(ho:o<2^d)(hh:h<=d):o/2^h<2^(d-h):=by
 rw[Nat.div_lt_iff_lt_mul (zag h),<-Nat.pow_add]
 rwa[show d-h+h=d by omega]
end
end Go.Proofs.YtpdllgbfemnemaaGreat
