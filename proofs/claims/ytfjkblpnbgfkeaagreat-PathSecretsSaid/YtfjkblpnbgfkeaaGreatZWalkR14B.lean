import Derived.Test.YtfjkblpnbgfkeaaGreatZWireB
import Derived.Test.YtfjkblpnbgfkeaaGreatZWalkW
namespace Go.Proofs.YtfjkblpnbgfkeaaGreat
open Go.RowKit
set_option linter.unusedVariables false
section
structure D3 where
 at_:Int
 lo:Int
 hi:Int
def ze7(x:Int):Nat->Int->Int->List D3
 |0,_,_=>[]
 |f+1,lo,hi=>⟨(lo+hi)/2,lo,hi⟩::(if(lo+hi)/2=x then[]else if x< (lo+hi)/2 then ze7 x f lo ((lo+hi)/2-1)else ze7 x f ((lo+hi)/2+1) hi)
def zck(x n:Int):List D3:=if ofI x n then ze7 x 17 0 (2*n-2)else[]
def trip(h k:Nat):D3:=⟨(nd h k:Int),((k*2^(h+1):Nat):Int),((k*2^(h+1)+2^(h+1)-2:Nat):Int)⟩
def upT:Nat->Nat->Nat->List D3
 |0,h,k=>[trip h k]
 |m+1,h,k=>trip h k::upT m (h+1) (k/2)
theorem zpe: ∀(m h k:Nat),upT (m+1) h k=upT m h k++[trip (h+(m+1)) (k/2^(m+1))]
 |0,h,k=>by simp[upT]
 |m+1,h,k=>by
  rw[upT,zpe m (h+1) (k/2),<-List.cons_append]
  congr 2
  rw[Nat.div_div_eq_div_mul,<-Nat.pow_succ',show h+1+(m+1)=h+(m+1+1)by omega]
theorem zkn: ∀(m h k:Nat),(upT m h k).length=m+1
 |0,_,_=>rfl
 |m+1,h,k=>by rw[upT,List.length_cons,zkn]
theorem zfmb(h k i:Nat):(k/2^i)*2^(h+i+1)<=nd h k/\nd h k+2<=(k/2^i)*2^(h+i+1)+2^(h+i+1):=by
 have hp:=zag h
 have e1:2^(h+i+1)=2^i*2^(h+1):=by rw[<-Nat.pow_add];congr 1;omega
 have e2:2^(h+1)=2*2^h:=by rw[Nat.pow_succ];omega
 have h1:=Nat.div_mul_le_self k (2^i)
 have h2:k< (k/2^i+1)*2^i:=by
  have:=Nat.lt_div_mul_add (a:=k) (zag i)
  rw[Nat.add_mul];omega
 have h3:=Nat.mul_le_mul_right (2^(h+1)) h1
 have h4:=Nat.mul_le_mul_right (2^(h+1)) (show k+1<=(k/2^i+1)*2^i from h2)
 rw[Nat.mul_assoc]at h3 h4
 rw[Nat.add_mul,Nat.add_mul]at h4
 unfold nd
 rw[e1]
 omega
theorem z4z(h k:Nat):(((k*2^(h+1):Nat):Int)+((k*2^(h+1)+2^(h+1)-2:Nat):Int))/2=(nd h k:Int):=by
 have hp:=zag h
 have e2:2^(h+1)=2*2^h:=by rw[Nat.pow_succ];omega
 unfold nd
 generalize k*2^(h+1)=q
 omega
theorem zu9(h k:Nat): ∀(i f:Nat),h+i<=16->i<f->
  ze7 (nd h k:Int) f (((k/2^i)*2^(h+i+1):Nat):Int) (((k/2^i)*2^(h+i+1)+2^(h+i+1)-2:Nat):Int)=(upT i h k).reverse
 |0,f,hi,hf=>by
  obtain⟨f,rfl⟩: ∃g,f=g+1:=⟨f-1,by omega⟩
  rw[ze7]
  have:=z4z h k
  simp only[Nat.pow_zero,Nat.div_one,Nat.add_zero]at this⊢
  rw[this,if_pos rfl]
  rfl
 |i+1,f,hi,hf=>by
  obtain⟨f,rfl⟩: ∃g,f=g+1:=⟨f-1,by omega⟩
  have hne:(nd (h+(i+1)) (k/2^(i+1)):Int)≠(nd h k:Int):=by
   intro e
   have:=(ziy (by omega) (by omega) (Int.ofNat.inj e)).1
   omega
  rw[ze7,z4z,if_neg hne,zpe,List.reverse_append,List.reverse_singleton]
  show _::_=trip (h+(i+1)) (k/2^(i+1))::(upT i h k).reverse
  congr 1
  obtain⟨b1,b2⟩:=zfmb h k i
  have e1:k/2^(i+1)=k/2^i/2:=by rw[Nat.pow_succ,Nat.div_div_eq_div_mul]
  have e2:2^(h+(i+1)+1)=2*2^(h+i+1):=by rw[show h+(i+1)+1=h+i+1+1 by omega,Nat.pow_succ];omega
  have e3:2^(h+(i+1))=2^(h+i+1):=by congr 1
  have hp:=zag (h+i+1)
  rw[e1]
  have ih:=zu9 h k i f (by omega) (by omega)
  generalize k/2^i=q at*
  have hnd:nd (h+(i+1)) (q/2)=q/2*(2*2^(h+i+1))+2^(h+i+1)-1:=by unfold nd;rw[e2,e3]
  rw[hnd,e2]
  generalize 2^(h+i+1)=Q at*
  rcases Nat.mod_two_eq_zero_or_one q with hq |hq
  ·have eq:q=2*(q/2):=by omega
   generalize q/2=r at*
   subst eq
   have e4:2*r*Q=r*(2*Q):=by rw[Nat.mul_comm 2 r,Nat.mul_assoc]
   rw[e4]at b1 b2 ih
   rw[if_pos (by omega),<-ih]
   congr 1
   omega
  ·have eq:q=2*(q/2)+1:=by omega
   generalize q/2=r at*
   subst eq
   have e4:(2*r+1)*Q=r*(2*Q)+Q:=by rw[Nat.add_mul,Nat.mul_comm 2 r,Nat.mul_assoc,Nat.one_mul]
   rw[e4]at b1 b2 ih
   rw[if_neg (by omega),<-ih]
   congr 1<;>omega
theorem zil{d h k:Nat}(hd:d<=16)(hh:h<=d)(hk:k<2^(d-h)):zck (nd h k:Int) ((2^d:Nat):Int)=(upT (d-h) h k).reverse:=by
 unfold zck
 rw[if_pos (z1l hd hh hk)]
 have:=zu9 h k (d-h) 17 (by omega) (by omega)
 rw[Nat.div_eq_of_lt hk,show h+(d-h)=d by omega]at this
 rw[<-this]
 have hp:=zag d
 congr 1<;>first |omega |(rw[Nat.pow_succ];omega)
theorem zgk{x n:Int}(h:ofI x n=false):zck x n=[]:=by simp[zck,h]
theorem zwn{d:Nat}(hd:d<=16): ∀(m f h k:Nat),h+m=d->k<2^m->m<f->zda ((2^d:Nat):Int) f (nd h k:Int)=(upT m h k).tail.map (·.at_)
 |0,f,h,k,hm,hk,hf=>by
  obtain⟨f,rfl⟩: ∃g,f=g+1:=⟨f-1,by omega⟩
  obtain rfl:h=d:=by omega
  have:k=0:=by simpa using hk
  subst this
  rw[zda,zhv];rfl
 |m+1,f,h,k,hm,hk,hf=>by
  obtain⟨f,rfl⟩: ∃g,f=g+1:=⟨f-1,by omega⟩
  have hk2:k/2<2^m:=by rw[Nat.pow_succ]at hk;omega
  rw[zda,zih hd (by omega) (by rw[show d-h=m+1 by omega];exact hk),if_neg (by omega),zwn hd m f (h+1) (k/2) (by omega) hk2 (by omega)]
  cases m with
  |zero=>rfl
  |succ m=>rfl
theorem z8f{d h k:Nat}(hd:d<=16)(hh:h<=d)(hk:k<2^(d-h)):zb2 (nd h k:Int) ((2^d:Nat):Int)=(upT (d-h) h k).tail.map (·.at_):=
 zwn hd (d-h) 17 h k (by omega) hk (by omega)
theorem z1q{x n:Int}(h:ofI x n=false):zb2 x n=[]:=by
 unfold zb2 zda
 rw[if_pos (by have:parI x n= -1:=(by simp[parI,h]);omega)]
theorem z2z(x n:Int):((zck x n).dropLast.reverse).map (·.at_)=zb2 x n:=by
 rcases ho:ofI x n with _ |_
 ·rw[zgk ho,z1q ho];rfl
 ·obtain⟨d,h,k,hd,rfl,hh,hk,rfl⟩:=zga ho
  rw[zil hd hh hk,z8f hd hh hk]
  congr 1
  rw[List.dropLast_reverse,List.reverse_reverse]
theorem z2y{x n:Int}(ho:ofI x n=true): ∃d h k,d<=16/\h<=d/\k<2^(d-h)/\n=((2^d:Nat):Int)/\x=(nd h k:Int)/\(zck x n).length=d-h+1/\(zck x n).getLast?=some (trip h k):=by
 obtain⟨d,h,k,hd,rfl,hh,hk,rfl⟩:=zga ho
 refine⟨d,h,k,hd,hh,hk,rfl,rfl,?_,?_⟩
 ·rw[zil hd hh hk,List.length_reverse,zkn]
 ·rw[zil hd hh hk,List.getLast?_reverse]
  cases d-h<;>rfl
theorem zlf{x:Int}:za6 x=ofI x 65536:=by
 rw[Bool.eq_iff_iff,zdo,zf8]
 have:zbj 65536=true:=by decide
 constructor
 ·intro h;exact⟨this,by omega⟩
 ·intro h;omega
theorem zcsb{d h k:Nat}(hd:d<=16)(hh:h<=d)(hk:k<2^(d-h)):zn0 (nd h k:Int)=((2^h-1:Nat):Int):=by
 have hp:=zag h
 rw[zph,zmo hd hh hk,Int.toNat_natCast,show(2:Int)^h=((2^h:Nat):Int)by simp]
 omega
theorem z16{x:Int}{h k d:Nat}(hd:d<=16)(hh:h<=d)(hk:k<2^(d-h))(hx:za6 x=true):zbh x (nd h k:Int)=(decide ((trip h k).lo<=x)&&decide (x<=(trip h k).hi)):=by
 rw[Bool.eq_iff_iff,zic,zcsb hd hh hk,Bool.and_eq_true,decide_eq_true_eq,decide_eq_true_eq,hx,zg8 hd hh hk]
 have hp:=zag h
 have e2:2^(h+1)=2*2^h:=by rw[Nat.pow_succ];omega
 simp only[trip,nd,e2]
 generalize k*(2*2^h)=q
 constructor
 ·rintro⟨_,h1,h2⟩
  omega
 ·rintro⟨h1,h2⟩
  exact⟨⟨trivial,trivial⟩,by omega,by omega⟩
theorem zr4{d h k:Nat}(hd:d<=16)(hh:h<=d)(hk:k<2^(d-h)):zco (nd h k:Int)=if h=0 then 0 else((2^(h-1):Nat):Int):=by
 unfold zco
 rw[zmo hd hh hk]
 rcases Nat.eq_zero_or_pos h with rfl |hp
 ·simp
 ·rw[if_pos (by omega),if_neg (by omega),show((h:Int)-1).toNat=h-1 by omega];simp
theorem zif{d h k:Nat}(hd:d<=16)(hh:h+1<=d)(hk:k<2^(d-(h+1))):zbl (nd (h+1) k:Int)=(nd h (2*k):Int):=by
 unfold zbl
 rw[zr4 hd hh hk,if_neg (by omega: ¬h+1=0)]
 have hp:=zag h
 simp only[Nat.add_sub_cancel]
 rw[if_neg (by omega)]
 unfold nd
 rw[Nat.pow_succ 2 (h+1),Nat.pow_succ 2 h,show 2*k*(2^h*2)=k*(2^h*2*2)by rw[Nat.mul_comm 2 k,Nat.mul_assoc,Nat.mul_comm 2]]
 omega
theorem zi3{d h k:Nat}(hd:d<=16)(hh:h+1<=d)(hk:k<2^(d-(h+1))):zby (nd (h+1) k:Int)=(nd h (2*k+1):Int):=by
 unfold zby
 rw[zr4 hd hh hk,if_neg (by omega: ¬h+1=0)]
 have hp:=zag h
 simp only[Nat.add_sub_cancel]
 rw[if_neg (by omega)]
 unfold nd
 rw[Nat.pow_succ 2 (h+1),Nat.pow_succ 2 h,Nat.add_mul,show 2*k*(2^h*2)=k*(2^h*2*2)by rw[Nat.mul_comm 2 k,Nat.mul_assoc,Nat.mul_comm 2]]
 omega
theorem zzc{d k:Nat}(hd:d<=16)(hk:k<2^d):zbl (nd 0 k:Int)= -1/\zby (nd 0 k:Int)= -1:=by
 unfold zbl zby
 rw[zr4 hd (Nat.zero_le _) (by simpa using hk)]
 simp
theorem zt5{d h k:Nat}(hd:d<=16)(hh:h<=d)(hk:k<2^(d-h)):
  (if(trip h k).lo=(trip h k).hi then((-1:Int),(-1:Int))else(((trip h k).lo+(nd h k:Int)-1)/2,((nd h k:Int)+1+(trip h k).hi)/2))=(zbl (nd h k:Int),zby (nd h k:Int)):=by
 rcases Nat.eq_zero_or_pos h with rfl |hp
 ·rw[(zzc hd (by simpa using hk)).1,(zzc hd (by simpa using hk)).2,if_pos (by simp[trip])]
 ·obtain⟨h,rfl⟩: ∃g,h=g+1:=⟨h-1,by omega⟩
  rw[zif hd hh hk,zi3 hd hh hk]
  have hp:=zag h
  have e1:2^(h+1+1)=4*2^h:=by rw[Nat.pow_succ,Nat.pow_succ];omega
  have e2:2^(h+1)=2*2^h:=by rw[Nat.pow_succ];omega
  simp only[trip,nd,e1,e2]
  have e3:2*k*(2*2^h)=k*(4*2^h):=by rw[Nat.mul_comm 2 k,Nat.mul_assoc,<-Nat.mul_assoc 2 2]
  rw[Nat.add_mul (2*k),e3]
  generalize k*(4*2^h)=q
  generalize 2^h=p at*
  rw[if_neg (by omega)]
  congr 1<;>omega
theorem z2q{d h k:Nat}(hd:d<=16)(hh:h<d)(hk:k<2^(d-h)):
  ((nd h k:Int)< (nd (h+1) (k/2):Int)↔zbl (nd (h+1) (k/2):Int)=(nd h k:Int))/\¬(nd h k:Int)=(nd (h+1) (k/2):Int):=by
 rw[zif hd hh (zkc hh hk)]
 have hp:=zag h
 have e2:2^(h+1)=2*2^h:=by rw[Nat.pow_succ];omega
 have hne:nd h k≠nd (h+1) (k/2):=λe=>by
  have:=(ziy (by omega) (by omega) e).1
  omega
 refine⟨⟨λh1=>?_,λh1=>?_⟩,λe=>hne (by omega)⟩
 ·rcases Nat.mod_two_eq_zero_or_one k with hq |hq
  ·rw[show 2*(k/2)=k by omega]
  ·exfalso
   unfold nd at h1
   rw[Nat.pow_succ 2 (h+1),e2]at h1
   have e3:k*(2*2^h)=k/2*(2*2^h*2)+2*2^h:=by
    conv=>lhs;rw[show k=2*(k/2)+1 by omega]
    rw[Nat.add_mul,Nat.mul_comm 2 (k/2),Nat.mul_assoc,Nat.mul_comm 2 (2*2^h)];omega
   rw[e3]at h1
   omega
 ·have h2:nd h (2*(k/2))=nd h k:=by omega
  have h3:=(ziy (by omega) (by omega) h2).2
  unfold nd
  rw[Nat.pow_succ 2 (h+1),e2]
  have e3:k*(2*2^h)=k/2*(2*2^h*2):=by
   conv=>lhs;rw[<-h3]
   rw[Nat.mul_comm 2 (k/2),Nat.mul_assoc,Nat.mul_comm 2 (2*2^h)]
  rw[e3]
  omega
theorem zm4(x n:Int):(if parI x n<0 then-1 else if zbl (parI x n)=x then zby (parI x n)else zbl (parI x n))=sibI x n:=by
 unfold sibI
 by_cases h0:parI x n<0
 ·rw[if_pos h0,if_pos h0]
 ·rw[if_neg h0,if_neg h0]
  obtain⟨h1,_,_,_⟩:=zje (x:=x) (n:=n) (by omega)
  obtain⟨d,h,k,hd,rfl,hh,hk,rfl⟩:=zga h1
  rcases Nat.lt_or_ge h d with hlt |hge
  ·rw[zih hd hlt hk]
   have:=(z2q hd hlt hk).1
   by_cases h2:zbl (nd (h+1) (k/2):Int)=(nd h k:Int)
   ·rw[if_pos h2,if_pos (this.2 h2)]
   ·rw[if_neg h2,if_neg (λh3=>h2 (this.1 h3))]
  ·obtain rfl:h=d:=by omega
   have:k=0:=by simpa using hk
   subst this
   rw[zhv]at h0
   omega
theorem z8c(x n:Int):(if(zck x n).length<2 then-1 else(((zck x n)[(zck x n).length-2]?).map (·.at_)).getD 0)=parI x n:=by
 rcases ho:ofI x n with _ |_
 ·rw[zgk ho,if_pos (by simp)];simp[parI,ho]
 ·obtain⟨d,h,k,hd,rfl,hh,hk,rfl⟩:=zga ho
  rw[zil hd hh hk,List.length_reverse,zkn]
  rcases Nat.lt_or_ge h d with hlt |hge
  ·rw[if_neg (by omega),zih hd hlt hk,List.getElem?_reverse (by rw[zkn];omega),zkn,show d-h+1-1-(d-h+1-2)=1 by omega]
   obtain⟨m,hm⟩: ∃m,d-h=m+1:=⟨d-h-1,by omega⟩
   rw[hm]
   cases m<;>rfl
  ·obtain rfl:h=d:=by omega
   have:k=0:=by simpa using hk
   subst this
   rw[if_pos (by omega),zhv]
theorem zku{d:Nat}(hd:d<=16): ∀(m f h k:Nat),h+m=d->k<2^m->m<f->zcz ((2^d:Nat):Int) f (nd h k:Int)=(upT m h k).dropLast.map (λt=>sibI t.at_ ((2^d:Nat):Int))
 |0,f,h,k,hm,hk,hf=>by
  obtain⟨f,rfl⟩: ∃g,f=g+1:=⟨f-1,by omega⟩
  obtain rfl:h=d:=by omega
  have:k=0:=by simpa using hk
  subst this
  rw[zcz,zhv];rfl
 |m+1,f,h,k,hm,hk,hf=>by
  obtain⟨f,rfl⟩: ∃g,f=g+1:=⟨f-1,by omega⟩
  have hk2:k/2<2^m:=by rw[Nat.pow_succ]at hk;omega
  rw[zcz,zih hd (by omega) (by rw[show d-h=m+1 by omega];exact hk),if_neg (by omega),zku hd m f (h+1) (k/2) (by omega) hk2 (by omega),upT]
  rw[List.dropLast_cons_of_ne_nil (by cases m<;>simp[upT])]
  rfl
theorem zxw(x n:Int):((zck x n).tail.reverse).map (λt=>sibI t.at_ n)=zbz x n:=by
 rcases ho:ofI x n with _ |_
 ·rw[zgk ho]
  unfold zbz zcz
  rw[if_pos (by have:parI x n= -1:=(by simp[parI,ho]);omega)]
  rfl
 ·obtain⟨d,h,k,hd,rfl,hh,hk,rfl⟩:=zga ho
  unfold zbz
  rw[zku hd (d-h) 17 h k (by omega) hk (by omega),zil hd hh hk,List.tail_reverse,List.reverse_reverse]
end
section
def d3c(t:D3):List Value:=[iv t.at_,iv t.lo,iv t.hi]
def d3s(l:List D3):List Value:=l.flatMap d3c
theorem zc7b{l:List D3}{k:Nat}(h:k<l.length):(d3s l)[k*3]?=some (iv l[k].at_)/\(d3s l)[k*3+1]?=some (iv l[k].lo)/\(d3s l)[k*3+2]?=some (iv l[k].hi):=by
 induction l generalizing k with
 |nil=>simp at h
 |cons x l ih=>
  cases k with
  |zero=>simp[d3s,d3c]
  |succ k=>
   have:=ih (k:=k) (by simpa using h)
   simp only[d3s,List.flatMap_cons]at*
   rw[show(k+1)*3=k*3+3 by omega]
   simpa[d3c]using this
theorem zakb(l:List D3): ∀u∈d3s l,u.oneCell'=true:=by
 intro u hu
 obtain⟨t,_,ht⟩:=List.mem_flatMap.1 hu
 simp[d3c]at ht
 rcases ht with rfl |rfl |rfl<;>rfl
theorem Tryz.infoD3:(Tryz.prog.info? 190).map (λi=>(i.zero,i.size,i.bytes))=some (some (.agg #[.int .i64 0, .int .i64 0, .int .i64 0]),3,24):=by kernel_rfl
def OwD(w':World)(base:Nat)(v:Value)(l:List D3)(g:Option Nat):Prop:=Ow w' base 190 3 v l.length (d3s l) g
theorem OwD.form{w:World}{base:Nat}{v:Value}{l:List D3}{g:Option Nat}(h:OwD w base v l g): ∃a c,v= .slice a l.length c:=by obtain⟨p,e,_⟩:=Ow.sl h;exact⟨p.a,p.c,e⟩
def zz3(n:Int)(k:Value)(w wr:World):Prop:=∃d,d<=17/\k= .int .i64 ((2^d:Nat):Int)/\(∀e,e<d->n≠((2^e:Nat):Int))/\w=wr
theorem zhm(n:Int)(w:World):
  Calls Tryz.prog 204 #[.int .i64 n] w λe w'=>e= .returned (.bool (zbj n))/\w=w':=by
 go_enter Tryz.func204,Tryz.ntmps204
 go_wp2_with fail
 go_loopw [3] (λk wr=>zz3 n k w wr) (λk _=>131073-(intOf k).toNat)
 case atStart=>exact⟨0,by omega,rfl,λe h=>by omega,rfl⟩
 case round=>
  obtain⟨d,hd,rfl,hn,rfl⟩:=hrel
  have HN:=Lib.hid hn
  clear hn
  by_cases h17:d=17
  ·subst h17
   have HF:Hid (zbj n=false):=Lib.hid (by
    rcases hf:zbj n with _ |_
    ·rfl
    ·obtain⟨e,he,h⟩:=zfy hf
     exact absurd h (HN.out e (by omega)))
   go_wp2_with fail
   go_ret
   exact⟨zcp HF.out.symm,rfl⟩
  ·have hp:2^d<=2^16:=Nat.pow_le_pow_right (by omega) (by omega)
   have hp0:=zag d
   have HD:Hid ((2^(d+1):Nat)=2*2^d):=Lib.hid (by rw[Nat.pow_succ];omega)
   obtain⟨P,hP⟩: ∃P,P=2^d:=⟨_,rfl⟩
   have HP:=Lib.hid hP
   rw[<-hP]at hp hp0 HD
   rw[<-hP]
   clear hP
   by_cases he:n=(P:Int)
   ·have HF:Hid (zbj n=true):=Lib.hid (by rw[he,HP.out];exact zi1 d (by omega))
    have ht:((P:Int)==n)=true:=by simp[he]
    clear he
    go_wp2_with fail
    go_ret
    exact⟨zcp HF.out.symm,rfl⟩
   ·have ht:((P:Int)==n)=false:=by simpa usingλh=>he h.symm
    have HE:=Lib.hid he
    clear he
    go_wp2_with fail
    go_roundw
    case rel=>
     refine⟨d+1,by omega,by rw[HD.out];simp,λe he h=>?_,rfl⟩
     rcases Nat.lt_or_ge e d with h1 |h1
     ·exact HN.out e h1 h
     ·obtain rfl:e=d:=by omega
      rw[<-HP.out]at h
      exact HE.out h
    case measure=>simp[intOf];omega
def zyi(x n:Int)(w:World)(k:Nat)(lo hi out:Value)(wr:World):Prop:=
 ∃(a b:Int) (Q:Nat) (done:List D3) (g:Option Nat),lo= .int .i64 a/\hi= .int .i64 b/\0<=a/\a<=x/\x<=b/\b<=131070/\Q=2^k/\b-a+2<=(Q:Int)/\k+done.length<=17/\zck x n=done++ze7 x k a b/\
  OwD wr w.heap.size out done g/\Ext w wr
theorem zwi(w:World)(a b c:Int)(e:TypeId):Sl (w.alloc (.cells #[.int .i64 a, .int .i64 b, .int .i64 c] e)) (λ_=>True) 3 ⟨some ⟨w.heap.size,0,none⟩,1⟩ [D3.mk a b c].length (d3s [D3.mk a b c]):=
 Sl.block (heap_alloc_new w _) trivial rfl (Nat.le_refl _) (by decide)
section
variable {w:World} {ops:Array Oper} {rest:List Oper} {o:Oper} {a:Act} {Q:Exit->Act->World->Prop}
theorem zjz(hgd:o.guard=none)(s x:Operand)(ho:o.op= .call {callee:= .builtin .append,args:= #[s,x],argTypes:= #[187,187]})
  {base:Nat} {v:Value} {l:List D3} {g:Option Nat} (hs:a.eval s=v) (hown:OwD w base v l g)
  {qa:Option Addr} {qc m:Nat} {l2:List D3} {S:Nat->Prop} (hx:a.eval x= .slice qa m qc) (hm:m=l2.length) (hsrc:Sl w S 3 ⟨qa,qc⟩ l2.length (d3s l2))
  (hsmall:l.length+l2.length<=1099511627776) (hbase:base<=w.heap.size)
  (h: ∀a' c' g' w',OwD w' base (.slice a' (l.length+m) c') (l++l2) g'->w.grownBy w' g->(g'=g\/g'=some w.heap.size)->wpList Tryz.prog ops Q rest (a.put o.dst (.slice a' (l.length+m) c')) w'):
  wpList Tryz.prog ops Q (o::rest) a w:=by
 subst hm
 obtain⟨i0,hi,hz0,hz1,hz2⟩:=info_parts Tryz.infoD3
 refine zlx w hgd s x 187 ho base 190 i0 _ 3 24 Tryz.underlying187 hi hz0 hz1 hz2 rfl (by decide) v l.length (d3s l) g hs hown qa l2.length qc (d3s l2) hx hsrc (zakb _) (by simp only[maxLen];omega) (by omega) hbase ?_
 intro a' c' g' w' h1 h2 h3
 refine h a' c' g' w' ?_ h2 h3
 unfold OwD
 rw[List.length_append,show d3s (l++l2)=d3s l++d3s l2 by simp[d3s]]
 exact h1
end
theorem zg1(x n:Int)(w:World):
  Calls Tryz.prog 130 #[.int .i64 x, .int .i64 n] w (Ret w λw' v=>∃g,OwD w' w.heap.size v (zck x n) g):=by
 rcases ho:ofI x n with _ |_
 ·have HD:=Lib.hid (zgk ho)
  rcases hf:zbj n with _ |_
  ·have HF:=Lib.hid hf
   clear hf ho
   go_enter Tryz.func130,Tryz.ntmps130
   go_wp2_with fail
   refine(zhm n _).mono ?_
   rintro e w' ⟨rfl,rfl⟩
   rw[HF.out]
   go_wp2_with fail
   go_ret
   exact⟨_,rfl,Ext.refl _,none,by rw[HD.out];exact Ow.nil _ _ _ _⟩
  ·have hb:=ze8 hf
   have HF:=Lib.hid hf
   have hx:x<0\/2*n-2<x:=by
    rcases Int.lt_or_le x 0 with h |h
    ·exact .inl h
    ·refine .inr ?_
     rcases Int.lt_or_le (2*n-2) x with h2 |h2
     ·exact h2
     ·have:ofI x n=true:=zf8.2 ⟨hf,h,h2⟩
      rw[ho]at this;cases this
   clear hf ho
   rcases Int.lt_or_le x 0 with h |h
   ·clear hx
    go_enter Tryz.func130,Tryz.ntmps130
    go_wp2_with fail
    refine(zhm n _).mono ?_
    rintro e w' ⟨rfl,rfl⟩
    rw[HF.out]
    go_wp2_with fail
    go_ret
    exact⟨_,rfl,Ext.refl _,none,by rw[HD.out];exact Ow.nil _ _ _ _⟩
   ·have h2:2*n-2<x:=by omega
    clear hx
    go_enter Tryz.func130,Tryz.ntmps130
    go_wp2_with fail
    refine(zhm n _).mono ?_
    rintro e w' ⟨rfl,rfl⟩
    rw[HF.out]
    go_wp2_with fail
    go_ret
    exact⟨_,rfl,Ext.refl _,none,by rw[HD.out];exact Ow.nil _ _ _ _⟩
 ·obtain⟨b1,b2,b3,b4,b5⟩:=zqp ho
  have HF:=Lib.hid (zf8.1 ho).1
  have HD:Hid (zyi x n w 17 (.int .i64 0) (.int .i64 (2*n-2)) (.slice none 0 0) w):=Lib.hid (by
   refine⟨0,2*n-2,2^17,[],none,rfl,rfl,by omega,b1,b5,by omega,rfl,by omega,by simp,?_,Ow.nil _ _ _ _,Ext.refl _⟩
   simp[zck,ho])
  clear ho
  go_enter Tryz.func130,Tryz.ntmps130
  go_wp2_with fail
  refine(zhm n _).mono ?_
  rintro e w' ⟨rfl,rfl⟩
  rw[HF.out]
  go_wp2_with fail
  go_loopg [5,6,7] 17 (λk lo hi out wr=>zyi x n w k lo hi out wr)
  case atStart=>exact HD.out
  case round=>
   obtain⟨a,b,Q,done,g,rfl,rfl,e1,e2,e3,e4,e5,e6,e7,e8,e9,e10⟩:=hrel
   have hk:gk≠0:=λh=>by subst h;omega
   obtain⟨j,rfl⟩: ∃j,gk=j+1:=⟨gk-1,by omega⟩
   have E8:=Lib.hid e8
   have E5:=Lib.hid (show Q=2*2^j by rw[e5,Nat.pow_succ];omega)
   obtain⟨A,c,rfl⟩:=OwD.form e9
   clear e5 e8 hk
   by_cases hm:(a+b)/2=x
   ·have ht:((a+b)/2==x)=true:=by simp[hm]
    have HM:=Lib.hid hm
    clear hm
    go_wp2_with (first |(at_builtin;refine zc5 ?_))
    refine zc3 (zjz rfl (.tmp 30) (.tmp 35) rfl rfl (Ow.ext e9 (zar _ _)) rfl rfl (zwi _ _ _ _ _) ?_ ?_ ?_)
    ·simp;omega
    ·have:=e10.le;simp;omega
    intro a' c' g' w' r1 r2 r3
    have r4:=(Ow.ext e9 (zar _ _)).grown r2 (e10.alloc _) (Nat.le_refl _)
    go_wp2_with fail
    go_ret
    refine⟨_,rfl,r4,g',?_⟩
    have h1:zck x n=done++[⟨(a+b)/2,a,b⟩]:=by rw[E8.out,ze7,if_pos HM.out]
    rw[h1];exact r1
   ·have ht:((a+b)/2==x)=false:=by simpa using hm
    have HM:=Lib.hid hm
    by_cases hlt:x< (a+b)/2
    ·clear hm
     go_wp2_with (first |(at_builtin;refine zc5 ?_))
     refine zc3 (zjz rfl (.tmp 30) (.tmp 35) rfl rfl (Ow.ext e9 (zar _ _)) rfl rfl (zwi _ _ _ _ _) ?_ ?_ ?_)
     ·simp;omega
     ·have:=e10.le;simp;omega
     intro a' c' g' w' r1 r2 r3
     have r4:=(Ow.ext e9 (zar _ _)).grown r2 (e10.alloc _) (Nat.le_refl _)
     go_wp2_with fail
     have E5':=E5.out
     go_roundg j
     case measure=>omega
     case rel=>
      refine⟨a,(a+b)/2-1,2^j,_,g',rfl,rfl,e1,e2,by omega,by omega,rfl,by omega,by simp;omega,?_,r1,r4⟩
      rw[E8.out,ze7,if_neg HM.out,if_pos hlt,List.append_assoc];rfl
    ·have hgt:(a+b)/2<x:=by omega
     clear hm
     go_wp2_with (first |(at_builtin;refine zc5 ?_))
     refine zc3 (zjz rfl (.tmp 30) (.tmp 35) rfl rfl (Ow.ext e9 (zar _ _)) rfl rfl (zwi _ _ _ _ _) ?_ ?_ ?_)
     ·simp;omega
     ·have:=e10.le;simp;omega
     intro a' c' g' w' r1 r2 r3
     have r4:=(Ow.ext e9 (zar _ _)).grown r2 (e10.alloc _) (Nat.le_refl _)
     go_wp2_with fail
     have E5':=E5.out
     go_roundg j
     case measure=>omega
     case rel=>
      refine⟨(a+b)/2+1,b,2^j,_,g',rfl,rfl,by omega,by omega,e3,e4,rfl,by omega,by simp;omega,?_,r1,r4⟩
      rw[E8.out,ze7,if_neg HM.out,if_neg (by omega),List.append_assoc];rfl
def zbs(x n:Int):D3:=((zck x n).getLast?).getD ⟨0,0,0⟩
theorem OwD.sl{w:World}{base:Nat}{v:Value}{l:List D3}{g:Option Nat}(h:OwD w base v l g): ∃p:AC,v= .slice p.a l.length p.c/\Sl w (base<= ·) 3 p l.length (d3s l):=Ow.sl h
theorem zne{w:World}{S:Nat->Prop}{p:AC}{l:List D3}(h:Sl w S 3 p l.length (d3s l)){k:Nat}{t:D3}(hk:l[k]?=some t): ∃b o,p.a=some ⟨b,o,none⟩/\
  w.cell? ⟨b,o+k*3,none⟩=some (iv t.at_)/\w.cell? ⟨b,o+k*3+1,none⟩=some (iv t.lo)/\w.cell? ⟨b,o+k*3+2,none⟩=some (iv t.hi):=by
 obtain⟨hlt,rfl⟩:=List.getElem?_eq_some_iff.1 hk
 obtain⟨b,o,e,_,_,hc⟩:=h.at_ (by omega)
 obtain⟨h0,h1,h2⟩:=zc7b hlt
 exact⟨b,o,e,hc _ _ h0,by rw[Nat.add_assoc];exact hc _ _ h1,by rw[Nat.add_assoc];exact hc _ _ h2⟩
theorem zl8(x:Int): ∀(f:Nat) (a b:Int),(ze7 x f a b).length<=f
 |0,a,b=>Nat.le_refl _
 |f+1,a,b=>by
  unfold ze7
  simp only[List.length_cons]
  have h1:=zl8 x f a ((a+b)/2-1)
  have h2:=zl8 x f ((a+b)/2+1) b
  split
  ·simp
  ·split<;>omega
theorem zi6(x n:Int):(zck x n).length<=17:=by
 unfold zck
 split
 ·exact zl8 _ _ _ _
 ·simp
theorem z2x{x n:Int}:0< (zck x n).length↔ofI x n=true:=by
 unfold zck
 split
 ·rename_i h;exact⟨λ_=>h,λ_=>by unfold ze7;exact Nat.succ_pos _⟩
 ·rename_i h;simp[h]
theorem zds(x n:Int)(w:World):
  Calls Tryz.prog 133 #[.int .i64 x, .int .i64 n] w (Ret w λ_ v=>v= .tuple #[.agg #[.int .i64 (zbs x n).at_, .int .i64 (zbs x n).lo, .int .i64 (zbs x n).hi], .bool (ofI x n)]):=by
 have hlen:=zi6 x n
 have hpos:=Lib.hid (z2x (x:=x) (n:=n))
 obtain⟨L,hL⟩: ∃L,L=zck x n:=⟨_,rfl⟩
 have HL:=Lib.hid hL
 rw[<-hL]at hlen hpos
 clear hL
 by_cases h0:L.length=0
 ·have HF:Hid (zbs x n=⟨0,0,0⟩/\ofI x n=false):=Lib.hid (by
   have hp:=hpos.out
   refine⟨by unfold zbs;rw[<-HL.out,List.eq_nil_of_length_eq_zero h0];rfl,?_⟩
   rcases ho:ofI x n with _ |_
   ·rfl
   ·have:=hp.2 ho;omega)
  have H0:=Lib.hid h0
  clear h0
  go_enter Tryz.func133,Tryz.ntmps133
  go_wp2_with fail
  refine(zg1 x n _).mono ?_
  rintro e w1 ⟨v,rfl,hb,g,ho⟩
  rw[<-HL.out]at ho
  obtain⟨p,rfl,hs⟩:=ho.sl
  obtain⟨hc,hf⟩:=hb.cells
  rw[H0.out]
  clear hs ho
  go_wp2_with fail
  refine bodyPost_ret (v:= .tuple #[.agg #[.int .i64 0, .int .i64 0, .int .i64 0], .bool false]) (by simp[results,Tryz.results133,go_sem,hc]) rfl ⟨_,rfl,?_,?_⟩
  ·(repeat (first |exact Ext.refl _ |refine Ext.drew ?_ |refine Ext.drewN ?_ _ |refine Ext.alloc ?_ _ |(refine Ext.setCell ?_ (by first |omega |(simp;done) |(simp;omega)) _) |refine Ext.trans ?_ (by assumption)))
  ·rw[HF.out.1,HF.out.2]
 ·have HF:Hid (ofI x n=true):=Lib.hid (hpos.out.1 (by omega))
  obtain⟨m,hm⟩: ∃m,L.length=m+1:=⟨L.length-1,by omega⟩
  have HM:=Lib.hid hm
  have hm16:m<=16:=by omega
  have HT:Hid (L[m]?=some (zbs x n)):=Lib.hid (by
   unfold zbs
   rw[<-HL.out,List.getLast?_eq_getElem?,hm,Nat.add_sub_cancel]
   obtain⟨t,ht⟩: ∃t,L[m]?=some t:=⟨_,List.getElem?_eq_getElem (by omega)⟩
   rw[ht];rfl)
  clear h0 hm
  obtain⟨T,hT⟩: ∃T,T=zbs x n:=⟨_,rfl⟩
  have HTT:=Lib.hid hT
  rw[<-hT]at HT
  rw[<-hT]
  clear hT
  go_enter Tryz.func133,Tryz.ntmps133
  go_wp2_with fail
  refine(zg1 x n _).mono ?_
  rintro e w1 ⟨v,rfl,hb,g,ho⟩
  rw[<-HL.out]at ho
  obtain⟨p,rfl,hs⟩:=ho.sl
  obtain⟨hc,hf⟩:=hb.cells
  obtain⟨b,o,hp,c0,c1,c2⟩:=zne hs HT.out
  rw[HM.out,hp]
  clear hs ho hp
  go_wp2_with fail
  refine bodyPost_ret (v:= .tuple #[.agg #[.int .i64 T.at_, .int .i64 T.lo, .int .i64 T.hi], .bool true]) (by simp[results,Tryz.results133,go_sem,hc]) rfl ⟨_,rfl,?_,?_⟩
  ·(repeat (first |exact Ext.refl _ |refine Ext.drew ?_ |refine Ext.drewN ?_ _ |refine Ext.alloc ?_ _ |(refine Ext.setCell ?_ (by first |omega |(simp;done) |(simp;omega)) _) |refine Ext.trans ?_ (by assumption)))
  ·rw[HF.out]
theorem ziu{x n:Int}(ho:ofI x n=true): ∃d h k,d<=16/\h<=d/\k<2^(d-h)/\n=((2^d:Nat):Int)/\x=(nd h k:Int)/\zbs x n=trip h k:=by
 obtain⟨d,h,k,hd,hh,hk,rfl,rfl,_,hl⟩:=z2y ho
 exact⟨d,h,k,hd,hh,hk,rfl,rfl,by unfold zbs;rw[hl];rfl⟩
theorem z1d{x n:Int}(ho:ofI x n=false):zbs x n=⟨0,0,0⟩:=by unfold zbs;rw[zgk ho];rfl
theorem zvx{x n:Int}:0<=(zbs x n).lo/\(zbs x n).lo<=131070/\0<=(zbs x n).hi/\(zbs x n).hi<=131070/\(zbs x n).lo<=(zbs x n).hi:=by
 rcases ho:ofI x n with _ |_
 ·rw[z1d ho];simp
 ·obtain⟨d,h,k,hd,hh,hk,rfl,rfl,hl⟩:=ziu ho
  rw[hl]
  have hp:=zag h
  have e2:2^(h+1)=2*2^h:=by rw[Nat.pow_succ];omega
  have h1:(k+1)*2^(h+1)<=2^(d+1):=by
   have:=Nat.mul_le_mul_right (2^(h+1)) (show k+1<=2^(d-h)from hk)
   rw[<-Nat.pow_add,show d-h+(h+1)=d+1 by omega]at this
   exact this
  have h2:2^(d+1)<=2^17:=Nat.pow_le_pow_right (by omega) (by omega)
  rw[Nat.add_mul]at h1
  simp only[trip,e2]at*
  generalize k*(2*2^h)=q at*
  omega
theorem z4q{x n:Int}(ho:ofI x n=true)(h:(zbs x n).lo≠(zbs x n).hi):1<=x:=by
 obtain⟨d,g,k,hd,hh,hk,rfl,rfl,hl⟩:=ziu ho
 rw[hl]at h
 rcases Nat.eq_zero_or_pos g with rfl |hg
 ·simp[trip]at h
 ·have:2^1<=2^g:=Nat.pow_le_pow_right (by omega) hg
  unfold nd
  omega
end
section
theorem zij(x:Int)(w:World):
  Calls Tryz.prog 80 #[.int .i64 x] w (Ret w λ_ v=>v= .tuple #[.int .i64 (zbl x), .int .i64 (zby x)]):=by
 obtain⟨b1,b2,b3,b4,b5⟩:=zvx (x:=x) (n:=65536)
 rcases ho:ofI x 65536 with _ |_
 ·have HO:=Lib.hid ho
  have HC:Hid (zbl x= -1/\zby x= -1):=Lib.hid (by
   have:zco x=0:=zk3 (by rw[zlf];exact ho)
   simp[zbl,zby,this])
  clear ho
  go_enter Tryz.func80,Tryz.ntmps80
  go_wp2_with fail
  refine(zds x 65536 _).mono ?_
  rintro e w1 ⟨v,rfl,hb,rfl⟩
  rw[HO.out]
  go_wp2_with fail
  go_ret2
  exact⟨_,rfl,by(repeat (first |exact Ext.refl _ |refine Ext.drew ?_ |refine Ext.drewN ?_ _ |refine Ext.alloc ?_ _ |(refine Ext.setCell ?_ (by first |omega |(simp;done) |(simp;omega)) _) |refine Ext.trans ?_ (by assumption))),by rw[HC.out.1,HC.out.2];rfl⟩
 ·have hx:=zqp ho
  have hx1:=hx.1
  have hx2:=hx.2.1
  have HO:=Lib.hid ho
  have HC:Hid ((if(zbs x 65536).lo=(zbs x 65536).hi then((-1:Int),(-1:Int))else(((zbs x 65536).lo+x-1)/2,(x+1+(zbs x 65536).hi)/2))=(zbl x,zby x)):=Lib.hid (by
   obtain⟨d,h,k,hd,hh,hk,_,e,hl⟩:=ziu ho
   rw[hl,e]
   exact zt5 hd hh hk)
  obtain⟨T,hT⟩: ∃T,T=zbs x 65536:=⟨_,rfl⟩
  have HT:=Lib.hid hT
  have H1:=Lib.hid (z4q ho)
  rw[<-hT]at HC b1 b2 b3 b4 b5 H1
  clear ho hT hx
  by_cases he:T.lo=T.hi
  ·have ht:(T.lo==T.hi)=true:=by simp[he]
   have HE:=Lib.hid he
   clear he
   go_enter Tryz.func80,Tryz.ntmps80
   go_wp2_with fail
   refine(zds x 65536 _).mono ?_
   rintro e w1 ⟨v,rfl,hb,rfl⟩
   rw[HO.out,<-HT.out]
   go_wp2_with fail
   go_ret2
   have:=HC.out
   rw[if_pos HE.out]at this
   injection this with h1 h2
   exact⟨_,rfl,by(repeat (first |exact Ext.refl _ |refine Ext.drew ?_ |refine Ext.drewN ?_ _ |refine Ext.alloc ?_ _ |(refine Ext.setCell ?_ (by first |omega |(simp;done) |(simp;omega)) _) |refine Ext.trans ?_ (by assumption))),by rw[<-h1,<-h2];rfl⟩
  ·have ht:(T.lo==T.hi)=false:=by simpa using he
   have hx3:=H1.out he
   have HE:=Lib.hid he
   clear he
   go_enter Tryz.func80,Tryz.ntmps80
   go_wp2_with fail
   refine(zds x 65536 _).mono ?_
   rintro e w1 ⟨v,rfl,hb,rfl⟩
   rw[HO.out,<-HT.out]
   go_wp2_with fail
   go_quiet (fail)
   go_wp2_with fail
   go_ret2
   have:=HC.out
   rw[if_neg HE.out]at this
   injection this with h1 h2
   exact⟨_,rfl,by(repeat (first |exact Ext.refl _ |refine Ext.drew ?_ |refine Ext.drewN ?_ _ |refine Ext.alloc ?_ _ |(refine Ext.setCell ?_ (by first |omega |(simp;done) |(simp;omega)) _) |refine Ext.trans ?_ (by assumption))),by rw[<-h1,<-h2];rfl⟩
theorem zh0(x n:Int)(w:World):
  Calls Tryz.prog 205 #[.int .i64 x, .int .i64 n] w (Ret w λ_ v=>v= .int .i64 (parI x n)):=by
 have hlen:=zi6 x n
 have HP:=Lib.hid (z8c x n)
 obtain⟨L,hL⟩: ∃L,L=zck x n:=⟨_,rfl⟩
 have HL:=Lib.hid hL
 rw[<-hL]at hlen HP
 clear hL
 by_cases h0:L.length<2
 ·have H0:=Lib.hid h0
  go_enter Tryz.func205,Tryz.ntmps205
  go_wp2_with fail
  refine(zg1 x n _).mono ?_
  rintro e w1 ⟨v,rfl,hb,g,ho⟩
  rw[<-HL.out]at ho
  obtain⟨a,c,rfl⟩:=OwD.form ho
  go_wp2_with fail
  go_ret
  have:=HP.out
  rw[if_pos H0.out]at this
  exact⟨_,rfl,by(repeat (first |exact Ext.refl _ |refine Ext.drew ?_ |refine Ext.drewN ?_ _ |refine Ext.alloc ?_ _ |(refine Ext.setCell ?_ (by first |omega |(simp;done) |(simp;omega)) _) |refine Ext.trans ?_ (by assumption))),by rw[<-this];rfl⟩
 ·obtain⟨m,hm⟩: ∃m,L.length=m+2:=⟨L.length-2,by omega⟩
  have HM:=Lib.hid hm
  have hm15:m<=15:=by omega
  obtain⟨T,hT⟩: ∃T,L[m]?=some T:=⟨_,List.getElem?_eq_getElem (by omega)⟩
  have HT:Hid (L[m]?=some T):=Lib.hid hT
  have HQ:Hid (T.at_=parI x n):=Lib.hid (by
   have:=HP.out
   rw[if_neg h0,hm,Nat.add_sub_cancel,hT]at this
   exact this)
  clear h0 hm hT hlen
  go_enter Tryz.func205,Tryz.ntmps205
  go_wp2_with fail
  refine(zg1 x n _).mono ?_
  rintro e w1 ⟨v,rfl,hb,g,ho⟩
  rw[<-HL.out]at ho
  obtain⟨p,rfl,hs⟩:=ho.sl
  obtain⟨b,o,hp,c0,c1,c2⟩:=zne hs HT.out
  rw[HM.out,hp]
  clear hs ho hp
  go_wp2_with fail
  go_ret
  exact⟨_,rfl,by(repeat (first |exact Ext.refl _ |refine Ext.drew ?_ |refine Ext.drewN ?_ _ |refine Ext.alloc ?_ _ |(refine Ext.setCell ?_ (by first |omega |(simp;done) |(simp;omega)) _) |refine Ext.trans ?_ (by assumption))),by rw[<-HQ.out];rfl⟩
theorem zse(x n:Int)(w:World):
  Calls Tryz.prog 131 #[.int .i64 x, .int .i64 n] w (Ret w λ_ v=>v= .int .i64 (sibI x n)):=by
 have HS:=Lib.hid (zm4 x n)
 obtain⟨P,hP⟩: ∃P,P=parI x n:=⟨_,rfl⟩
 have HP:=Lib.hid hP
 rw[<-hP]at HS
 clear hP
 by_cases h0:P<0
 ·go_enter Tryz.func131,Tryz.ntmps131
  go_wp2_with fail
  refine(zh0 x n _).mono ?_
  rintro e w1 ⟨v,rfl,hb,rfl⟩
  rw[<-HP.out]
  go_wp2_with fail
  go_ret
  have:=HS.out
  rw[if_pos h0]at this
  exact⟨_,rfl,by(repeat (first |exact Ext.refl _ |refine Ext.drew ?_ |refine Ext.drewN ?_ _ |refine Ext.alloc ?_ _ |(refine Ext.setCell ?_ (by first |omega |(simp;done) |(simp;omega)) _) |refine Ext.trans ?_ (by assumption))),by rw[<-this];rfl⟩
 ·by_cases h1:zbl P=x
  ·have ht:(zbl P==x)=true:=by simp[h1]
   have H1:=Lib.hid h1
   clear h1
   go_enter Tryz.func131,Tryz.ntmps131
   go_wp2_with fail
   refine(zh0 x n _).mono ?_
   rintro e w1 ⟨v,rfl,hb,rfl⟩
   rw[<-HP.out]
   go_wp2_with fail
   refine(zij P _).mono ?_
   rintro e w2 ⟨v,rfl,hb2,rfl⟩
   go_wp2_with fail
   go_ret
   have:=HS.out
   rw[if_neg (by omega),if_pos H1.out]at this
   exact⟨_,rfl,by(repeat (first |exact Ext.refl _ |refine Ext.drew ?_ |refine Ext.drewN ?_ _ |refine Ext.alloc ?_ _ |(refine Ext.setCell ?_ (by first |omega |(simp;done) |(simp;omega)) _) |refine Ext.trans ?_ (by assumption))),by rw[<-this];rfl⟩
  ·have ht:(zbl P==x)=false:=by simpa using h1
   have H1:=Lib.hid h1
   clear h1
   go_enter Tryz.func131,Tryz.ntmps131
   go_wp2_with fail
   refine(zh0 x n _).mono ?_
   rintro e w1 ⟨v,rfl,hb,rfl⟩
   rw[<-HP.out]
   go_wp2_with fail
   refine(zij P _).mono ?_
   rintro e w2 ⟨v,rfl,hb2,rfl⟩
   go_wp2_with fail
   go_ret
   have:=HS.out
   rw[if_neg (by omega),if_neg H1.out]at this
   exact⟨_,rfl,by(repeat (first |exact Ext.refl _ |refine Ext.drew ?_ |refine Ext.drewN ?_ _ |refine Ext.alloc ?_ _ |(refine Ext.setCell ?_ (by first |omega |(simp;done) |(simp;omega)) _) |refine Ext.trans ?_ (by assumption))),by rw[<-this];rfl⟩
theorem zwv(x y:Int)(w:World):
  Calls Tryz.prog 132 #[.int .i64 x, .int .i64 y] w (Ret w λ_ v=>v= .bool (zbh x y)):=by
 have hx:=zvx (x:=x) (n:=65536)
 have HX:Hid (ofI x 65536=true->(zbs x 65536).at_=x):=Lib.hid (λh=>by
  obtain⟨d,g,k,hd,hh,hk,_,e,hl⟩:=ziu h
  rw[hl,e];rfl)
 have HU:Hid (ofI x 65536=true->ofI y 65536=true->zbh x y=(decide ((zbs y 65536).lo<=x)&&decide (x<=(zbs y 65536).hi))):=Lib.hid (λh h'=>by
  obtain⟨d,g,k,hd,hh,hk,_,e,hl⟩:=ziu h'
  rw[hl,e]
  exact z16 hd hh hk (by rw[zlf];exact h))
 have HN:Hid (ofI x 65536=false\/ofI y 65536=false->zbh x y=false):=Lib.hid (λh=>by
  rcases h with h |h<;>simp[zbh,zlf,h])
 obtain⟨A,hA⟩: ∃T,T=zbs x 65536:=⟨_,rfl⟩
 obtain⟨B,hB⟩: ∃T,T=zbs y 65536:=⟨_,rfl⟩
 have HA:=Lib.hid hA
 have HB:=Lib.hid hB
 rw[<-hA]at HX
 rw[<-hB]at HU
 clear hA hB hx
 rcases ho:ofI x 65536 with _ |_
 ·have HO:=Lib.hid ho
  clear ho
  go_enter Tryz.func132,Tryz.ntmps132
  go_wp2_with fail
  refine(zds x 65536 _).mono ?_
  rintro e w1 ⟨v,rfl,hb,rfl⟩
  rw[HO.out,<-HA.out]
  go_wp2_with fail
  refine(zds y 65536 _).mono ?_
  rintro e w2 ⟨v,rfl,hb2,rfl⟩
  rw[<-HB.out]
  go_wp2_with fail
  go_ret
  exact⟨_,rfl,by(repeat (first |exact Ext.refl _ |refine Ext.drew ?_ |refine Ext.drewN ?_ _ |refine Ext.alloc ?_ _ |(refine Ext.setCell ?_ (by first |omega |(simp;done) |(simp;omega)) _) |refine Ext.trans ?_ (by assumption))),by rw[HN.out (.inl HO.out)];rfl⟩
 ·have HO:=Lib.hid ho
  clear ho
  rcases hy:ofI y 65536 with _ |_
  ·have HY:=Lib.hid hy
   clear hy
   go_enter Tryz.func132,Tryz.ntmps132
   go_wp2_with fail
   refine(zds x 65536 _).mono ?_
   rintro e w1 ⟨v,rfl,hb,rfl⟩
   rw[HO.out,<-HA.out]
   go_wp2_with fail
   refine(zds y 65536 _).mono ?_
   rintro e w2 ⟨v,rfl,hb2,rfl⟩
   rw[HY.out,<-HB.out]
   go_wp2_with fail
   go_ret
   exact⟨_,rfl,by(repeat (first |exact Ext.refl _ |refine Ext.drew ?_ |refine Ext.drewN ?_ _ |refine Ext.alloc ?_ _ |(refine Ext.setCell ?_ (by first |omega |(simp;done) |(simp;omega)) _) |refine Ext.trans ?_ (by assumption))),by rw[HN.out (.inr HY.out)];rfl⟩
  ·have HY:=Lib.hid hy
   clear hy
   by_cases hl:B.lo<=x
   ·go_enter Tryz.func132,Tryz.ntmps132
    go_wp2_with fail
    refine(zds x 65536 _).mono ?_
    rintro e w1 ⟨v,rfl,hb,rfl⟩
    rw[HO.out,<-HA.out,HX.out HO.out]
    go_wp2_with fail
    refine(zds y 65536 _).mono ?_
    rintro e w2 ⟨v,rfl,hb2,rfl⟩
    rw[HY.out,<-HB.out]
    obtain⟨hc,hf⟩:=hb2.cells
    have hz:w1.heap.size<w2.heap.size:=(by have:=(hb2).le;simp at this;omega)
    go_wp2_with fail
    go_ret
    exact⟨_,rfl,by(repeat (first |exact Ext.refl _ |refine Ext.drew ?_ |refine Ext.drewN ?_ _ |refine Ext.alloc ?_ _ |(refine Ext.setCell ?_ (by first |omega |(simp;done) |(simp;omega)) _) |refine Ext.trans ?_ (by assumption))),by rw[HU.out HO.out HY.out];simp[hl]⟩
   ·go_enter Tryz.func132,Tryz.ntmps132
    go_wp2_with fail
    refine(zds x 65536 _).mono ?_
    rintro e w1 ⟨v,rfl,hb,rfl⟩
    rw[HO.out,<-HA.out,HX.out HO.out]
    go_wp2_with fail
    refine(zds y 65536 _).mono ?_
    rintro e w2 ⟨v,rfl,hb2,rfl⟩
    rw[HY.out,<-HB.out]
    obtain⟨hc,hf⟩:=hb2.cells
    have hz:w1.heap.size<w2.heap.size:=(by have:=(hb2).le;simp at this;omega)
    go_wp2_with fail
    go_ret
    exact⟨_,rfl,by(repeat (first |exact Ext.refl _ |refine Ext.drew ?_ |refine Ext.drewN ?_ _ |refine Ext.alloc ?_ _ |(refine Ext.setCell ?_ (by first |omega |(simp;done) |(simp;omega)) _) |refine Ext.trans ?_ (by assumption))),by rw[HU.out HO.out HY.out];simp;omega⟩
end
end Go.Proofs.YtfjkblpnbgfkeaaGreat
