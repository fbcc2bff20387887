import Derived.Test.YtpdllgbfemnemaaGreatZTs
import Derived.Test.YtpdllgbfemnemaaGreatZUc
import Derived.Test.YtpdllgbfemnemaaGreatZWc
import Derived.Test.YtpdllgbfemnemaaGreatZUg
namespace Go.Proofs.YtpdllgbfemnemaaGreat.Sx
open Go.RowKit
set_option linter.unusedVariables false
section
theorem zhk{x:Nat}{c:UInt8}(h:x%256=c.toNat):UInt8.ofNat x=c:=by
 apply UInt8.toNat_inj.1
 rw[UInt8.toNat_ofNat']
 exact h
theorem zkg(x:Nat):(UInt8.ofNat x).toNat=x%256:=by rw[UInt8.toNat_ofNat']
theorem beB1(n:Nat):beB 1 n=[UInt8.ofNat n]:=by simp[beB]
theorem beB2(n:Nat):beB 2 n=[UInt8.ofNat (n/256),UInt8.ofNat n]:=by simp[beB]
theorem beB4(n:Nat):beB 4 n=[UInt8.ofNat (n/16777216),UInt8.ofNat (n/65536),UInt8.ofNat (n/256),UInt8.ofNat n]:=by simp[beB]
theorem z5n{n:Nat}(hn:n<1073741824)(r:List UInt8):lenP (lenB n++r)= .ok n r:=by
 unfold lenB
 split
 ·rename_i h
  rw[beB1]
  have hc:(UInt8.ofNat n).toNat=n:=by rw[zkg];omega
  have hm:zaz (UInt8.ofNat n)=0:=by unfold zaz;rw[hc,if_neg (by omega),if_neg (by omega)]
  have hz:zb4 n=1:=by unfold zb4;rw[if_pos h]
  simp only[List.cons_append,List.nil_append,lenP,hm,hc,List.take_zero,List.drop_zero]
  rw[if_neg (by omega),if_neg (by omega)]
  have:numA (n%64) []=n:=by simp only[numA,List.foldl_nil];omega
  rw[this,hz]
  simp
 split
 ·rename_i h0 h
  rw[beB2]
  have hc:(UInt8.ofNat ((16384+n)/256)).toNat=64+n/256:=by rw[zkg];omega
  have hd:(UInt8.ofNat (16384+n)).toNat=n%256:=by rw[zkg];omega
  have hm:zaz (UInt8.ofNat ((16384+n)/256))=1:=by unfold zaz;rw[hc,if_neg (by omega),if_pos (by omega)]
  have hz:zb4 n=2:=by unfold zb4;rw[if_neg h0,if_pos h]
  simp only[List.cons_append,List.nil_append,lenP,hm,hc]
  rw[if_neg (by omega),if_neg (by simp)]
  have:numA ((64+n/256)%64) ((UInt8.ofNat (16384+n)::r).take 1)=n:=by simp only[List.take_succ_cons,List.take_zero,numA,List.foldl_cons,List.foldl_nil,hd];omega
  rw[this,hz]
  simp
 ·rename_i h0 h1
  rw[beB4]
  have hc:(UInt8.ofNat ((2147483648+n)/16777216)).toNat=128+n/16777216:=by rw[zkg];omega
  have h2:(UInt8.ofNat ((2147483648+n)/65536)).toNat=n/65536%256:=by rw[zkg];omega
  have h3:(UInt8.ofNat ((2147483648+n)/256)).toNat=n/256%256:=by rw[zkg];omega
  have h4:(UInt8.ofNat (2147483648+n)).toNat=n%256:=by rw[zkg];omega
  have hm:zaz (UInt8.ofNat ((2147483648+n)/16777216))=3:=by unfold zaz;rw[hc,if_pos (by omega)]
  have hz:zb4 n=4:=by unfold zb4;rw[if_neg h0,if_neg h1]
  simp only[List.cons_append,List.nil_append,lenP,hm,hc]
  rw[if_neg (by omega),if_neg (by simp)]
  have:numA ((128+n/16777216)%64) ((UInt8.ofNat ((2147483648+n)/65536)::UInt8.ofNat ((2147483648+n)/256)::UInt8.ofNat (2147483648+n)::r).take 3)=n:=by
   simp only[List.take_succ_cons,List.take_zero,numA,List.foldl_cons,List.foldl_nil,h2,h3,h4];omega
  rw[this,hz]
  simp
theorem z5i{l r:List UInt8}{n:Nat}(h:lenP l= .ok n r):l=lenB n++r/\n<1073741824:=by
 have hlt:=(ztc h).choose_spec.2.2.2
 refine⟨?_,hlt⟩
 cases l with
 |nil=>cases h
 |cons c s=>
  simp only[lenP]at h
  split at h
  ·cases h
  split at h
  ·cases h
  split at h
  ·cases h
  rename_i h1 h2 h3
  injection h with e1 e2
  have hz:zb4 n=zaz c+1:=by rw[<-e1];omega
  have hcl:=c.toNat_lt
  by_cases c1:128<=c.toNat
  ·have hm:zaz c=3:=by unfold zaz;rw[if_pos c1]
   rw[hm]at e1 e2 h2 hz
   obtain⟨a,b,d,t,rfl⟩: ∃a b d t,s=a::b::d::t:=by
    match s,h2 with
    |a::b::d::t,_=>exact⟨a,b,d,t,rfl⟩
    |[],h=>simp at h
    |[_],h=>simp at h
    |[_,_],h=>simp at h
   simp only[List.take_succ_cons,List.take_zero,List.drop_succ_cons,List.drop_zero,numA,List.foldl_cons,List.foldl_nil]at e1 e2
   subst e2
   have la:=a.toNat_lt
   have lb:=b.toNat_lt
   have ld:=d.toNat_lt
   have hn1: ¬n<64/\¬n<16384:=by
    unfold zb4 at hz
    split at hz
    ·omega
    ·split at hz<;>omega
   unfold lenB
   rw[if_neg hn1.1,if_neg hn1.2,beB4,zhk (c:=c) (by omega),zhk (c:=a) (by omega),zhk (c:=b) (by omega),zhk (c:=d) (by omega)]
   rfl
  ·by_cases c2:64<=c.toNat
   ·have hm:zaz c=1:=by unfold zaz;rw[if_neg c1,if_pos c2]
    rw[hm]at e1 e2 h2 hz
    obtain⟨a,t,rfl⟩: ∃a t,s=a::t:=by
     match s,h2 with
     |a::t,_=>exact⟨a,t,rfl⟩
     |[],h=>simp at h
    simp only[List.take_succ_cons,List.take_zero,List.drop_succ_cons,List.drop_zero,numA,List.foldl_cons,List.foldl_nil]at e1 e2
    subst e2
    have la:=a.toNat_lt
    have hn1: ¬n<64/\n<16384:=by
     unfold zb4 at hz
     split at hz
     ·omega
     ·split at hz<;>omega
    unfold lenB
    rw[if_neg hn1.1,if_pos hn1.2,beB2,zhk (c:=c) (by omega),zhk (c:=a) (by omega)]
    rfl
   ·have hm:zaz c=0:=by unfold zaz;rw[if_neg c1,if_neg c2]
    rw[hm]at e1 e2 hz
    simp only[List.take_zero,List.drop_zero,numA,List.foldl_nil]at e1 e2
    subst e2
    unfold lenB
    rw[if_pos (by omega),beB1,zhk (c:=c) (by omega)]
    rfl
theorem zer{v:List UInt8}(hv:v.length<1073741824)(r:List UInt8):vecP (vecB v++r)= .ok v r:=by
 unfold vecP vecB
 rw[List.append_assoc,z5n hv]
 simp only
 rw[if_neg (by simp),List.take_left,List.drop_left]
theorem zic{l v r:List UInt8}(h:vecP l= .ok v r):l=vecB v++r/\v.length<1073741824:=by
 unfold vecP at h
 cases hl:lenP l with
 |err e=>rw[hl]at h;cases h
 |ok n s=>
  rw[hl]at h
  obtain⟨e,hn⟩:=z5i hl
  simp only at h
  split at h
  ·cases h
  ·rename_i hs
   injection h with e1 e2
   have hlen:v.length=n:=by rw[<-e1,List.length_take];omega
   subst e1;subst e2
   refine⟨?_,by omega⟩
   unfold vecB
   rw[hlen,List.append_assoc,List.take_append_drop]
   exact e
end
section
theorem zsm{a b c:List UInt8}(ha:a.length<1073741824)(hb:b.length<1073741824)(hc:c.length<1073741824)(r:List UInt8):zbw 3 (vecB a++(vecB b++(vecB c++r)))= .ok [a,b,c] r:=by
 simp only[zbw,zer ha,zer hb,zer hc]
theorem zsc{l r:List UInt8}{vs:List (List UInt8)}(h:zbw 3 l= .ok vs r): ∃a b c,vs=[a,b,c]/\l=vecB a++(vecB b++(vecB c++r)):=by
 simp only[zbw]at h
 cases h1:vecP l with
 |err e=>rw[h1]at h;cases h
 |ok a s=>
  rw[h1]at h
  simp only at h
  cases h2:vecP s with
  |err e=>rw[h2]at h;cases h
  |ok b t=>
   rw[h2]at h
   simp only at h
   cases h3:vecP t with
   |err e=>rw[h3]at h;cases h
   |ok c u=>
    rw[h3]at h
    injection h with e1 e2
    refine⟨a,b,c,e1.symm,?_⟩
    rw[(zic h1).1,(zic h2).1,(zic h3).1,e2]
def zo2(l:Leaf):List UInt8:=zdh l++vecB l.sig
theorem zwz(l:Leaf)(r:List UInt8):zo2 l++r=vecB l.box++(vecB l.sign++(vecB l.ident++(l.src::((if l.src.toNat=3 then vecB l.parent else[])++(vecB l.sig++r))))):=by
 simp[zo2,zdh]
theorem z13{l:Leaf}(hr:l.right=true)(r:List UInt8):zej (zo2 l++r)= .ok l r:=by
 have hr':=hr
 simp only[Leaf.right,decide_eq_true_eq]at hr'
 obtain⟨h1,h2,h3,h4,h5,h6,h7,h8⟩:=hr'
 rw[zwz]
 unfold zej
 rw[zsm (by omega) (by omega) (by omega)]
 simp only[zhc]
 rw[if_neg (by omega)]
 have hp:zd7 l.src ((if l.src.toNat=3 then vecB l.parent else[])++(vecB l.sig++r))= .ok l.parent (vecB l.sig++r):=by
  unfold zd7
  by_cases h:l.src.toNat=3
  ·rw[if_pos h,if_pos h,zer (by omega)]
  ·rw[if_neg h,if_neg h,List.eq_nil_of_length_eq_zero (show l.parent.length=0 by omega)]
   rfl
 rw[hp]
 simp only[zhf]
 rw[zer (by omega)]
 have e:zil [l.box,l.sign,l.ident] l.src l.parent l.sig=l:=rfl
 simp only[e]
 rw[if_pos hr]
theorem z2f{l r:List UInt8}{x:Leaf}(h:zej l= .ok x r):l=zo2 x++r/\x.right=true:=by
 unfold zej at h
 cases hv:zbw 3 l with
 |err e'=>rw[hv]at h;cases h
 |ok vs q=>
  rw[hv]at h
  obtain⟨a,b,c,rfl,hl⟩:=zsc hv
  simp only at h
  cases q with
  |nil=>cases h
  |cons d q=>
   simp only[zhc]at h
   split at h
   ·cases h
   rename_i hd
   cases hp:zd7 d q with
   |err e'=>rw[hp]at h;cases h
   |ok par s=>
    rw[hp]at h
    simp only[zhf]at h
    cases hs:vecP s with
    |err e'=>rw[hs]at h;cases h
    |ok sig t=>
     rw[hs]at h
     simp only at h
     split at h
     ·rename_i hr
      injection h with e1 e2
      subst e1
      subst e2
      refine⟨?_,hr⟩
      rw[zwz]
      show l=vecB a++(vecB b++(vecB c++(d::((if d.toNat=3 then vecB par else[])++(vecB sig++t)))))
      rw[hl,<-(zic hs).1]
      have:q=(if d.toNat=3 then vecB par else[])++s:=by
       unfold zd7 at hp
       by_cases h3:d.toNat=3
       ·rw[if_pos h3]at hp⊢
        exact(zic hp).1
       ·rw[if_neg h3]at hp⊢
        injection hp
      rw[this]
     ·cases h
theorem z3v{x:Nat}(h:x<4294967296):numA 0 (beB 4 x)=x:=by
 rw[beB4]
 simp only[numA,List.foldl_cons,List.foldl_nil,zkg]
 omega
theorem z39{l:List UInt8}(h:l.length=4):beB 4 (numA 0 l)=l:=by
 match l,h with
 |[a,b,c,d],_=>
  have la:=a.toNat_lt
  have lb:=b.toNat_lt
  have lc:=c.toNat_lt
  have ld:=d.toNat_lt
  rw[beB4]
  simp only[numA,List.foldl_cons,List.foldl_nil]
  rw[zhk (c:=a) (by omega),zhk (c:=b) (by omega),zhk (c:=c) (by omega),zhk (c:=d) (by omega)]
theorem zuq(l:List Int):(zbq l).length=4*l.length:=by
 induction l with
 |nil=>rfl
 |cons x l ih=>
  show(beB 4 x.toNat++zbq l).length=_
  rw[List.length_append,zaw,ih,List.length_cons];omega
theorem zvi: ∀(l:List Int),(∀x∈l,0<=x/\x<65536)->zdc (zbq l) l.length=l
 |[],_=>rfl
 |x::l,h=>by
  have hx:=h x (by simp)
  have ih:=zvi l λy hy=>h y (by simp[hy])
  unfold zdc at ih⊢
  rw[List.length_cons,List.range_succ_eq_map,List.map_cons,List.map_map]
  have e0:zbq (x::l)=beB 4 x.toNat++zbq l:=rfl
  have hd:((zbq (x::l)).drop (4*0)).take 4=beB 4 x.toNat:=by
   rw[e0,Nat.mul_zero,List.drop_zero,List.take_append_of_le_length (by rw[zaw];omega),List.take_of_length_le (by rw[zaw];omega)]
  rw[hd,z3v (by omega)]
  have e1:((x.toNat:Nat):Int)=x:=by omega
  rw[e1]
  refine congrArg (x:: ·) ?_
  conv=>rhs;rw[<-ih]
  refine List.map_congr_left λi _=>?_
  simp only[Function.comp]
  rw[e0,show 4*Nat.succ i=(beB 4 x.toNat).length+4*i by rw[zaw];omega,List.drop_append,List.drop_eq_nil_of_le (by omega),List.nil_append,Nat.add_sub_cancel_left]
theorem zt9: ∀(j:Nat) (v:List UInt8),v.length=4*j->zbq (zdc v j)=v
 |0,v,h=>by
  have:v=[]:=List.eq_nil_of_length_eq_zero (by omega)
  subst this;rfl
 |j+1,v,h=>by
  have ih:=zt9 j (v.drop 4) (by rw[List.length_drop];omega)
  have e:zdc v (j+1)=((numA 0 (v.take 4):Nat):Int)::zdc (v.drop 4) j:=by
   unfold zdc
   rw[List.range_succ_eq_map,List.map_cons,List.map_map]
   congr 1
   refine List.map_congr_left λi _=>?_
   simp only[Function.comp]
   rw[List.drop_drop,show 4+4*i=4*Nat.succ i by omega]
  rw[e]
  show beB 4 (((numA 0 (v.take 4):Nat):Int)).toNat++zbq (zdc (v.drop 4) j)=v
  rw[ih,Int.toNat_natCast,z39 (by rw[List.length_take];omega),List.take_append_drop]
theorem zr2{p:Par}(hr:p.right=true):(Node.right ⟨2,zl,p⟩)=true:=by
 unfold Node.right
 rw[if_neg (show¬(2:UInt8).toNat=0 by decide),if_neg (show¬(2:UInt8).toNat=1 by decide),if_pos (show(2:UInt8).toNat=2 by decide)]
 simp only[Bool.and_eq_true]
 exact⟨by decide,hr⟩
theorem z2k{x:Leaf}(hr:x.right=true):(Node.right ⟨1,x,zp⟩)=true:=by
 unfold Node.right
 rw[if_neg (show¬(1:UInt8).toNat=0 by decide),if_pos (show(1:UInt8).toNat=1 by decide)]
 simp only[Bool.and_eq_true]
 exact⟨hr,by decide⟩
theorem z4z{p:Par}(hr:p.right=true)(r:List UInt8):parP (parB p++r)= .ok ⟨2,zl,p⟩ r:=by
 have hr':=hr
 simp only[Par.right,Bool.and_eq_true,decide_eq_true_eq]at hr'
 obtain⟨h1,h2,h3⟩:=hr'
 have hlen:=zx0 _ _ h1 (by omega)
 have hD: ∀x∈p.late,0<=x/\x<65536:=λx hx=>by
  have:=Node.right_late (n:=⟨2,zl,p⟩) (zr2 hr) x hx
  exact this
 have hlb:=zuq p.late
 have e0:parB p++r=vecB p.box++(vecB p.hash++(vecB (zbq p.late)++r)):=by simp[parB]
 rw[e0]
 unfold parP
 rw[zsm (by omega) (by omega) (by omega)]
 have e2:([p.box,p.hash,zbq p.late]:List (List UInt8)).getD 2 []=zbq p.late:=rfl
 have e:zgc [p.box,p.hash,zbq p.late]=p:=by
  unfold zgc
  rw[e2,hlb,show 4*p.late.length/4=p.late.length by omega,zvi _ hD]
  rfl
 simp only[e,e2]
 rw[if_pos ⟨by omega,hr⟩]
theorem z6w{l r:List UInt8}{n:Node}(h:parP l= .ok n r): ∃p:Par,n=⟨2,zl,p⟩/\p.right=true/\l=parB p++r:=by
 unfold parP at h
 cases hv:zbw 3 l with
 |err e'=>rw[hv]at h;cases h
 |ok vs q=>
  rw[hv]at h
  obtain⟨a,b,c,rfl,hl⟩:=zsc hv
  simp only at h
  split at h
  ·rename_i hr
   injection h with e1 e2
   subst e2
   refine⟨_,e1.symm,hr.2,?_⟩
   have e2:([a,b,c]:List (List UInt8)).getD 2 []=c:=rfl
   rw[e2]at hr
   have e3:zbq (zgc [a,b,c]).late=c:=zt9 _ c (by show c.length=4*(c.length/4);omega)
   rw[hl]
   show _=vecB a++vecB b++vecB (zbq (zgc [a,b,c]).late)++q
   rw[e3]
   simp
  ·cases h
theorem zf4{n:Node}(hr:n.right=true)(r:List UInt8):zbz (zaq n++r)= .ok n r:=by
 obtain⟨k,lf,pr⟩:=n
 unfold Node.right at hr
 simp only at hr
 have hk: ∀m:Nat,m<256->k.toNat=m->k=UInt8.ofNat m:=λm hm h=>(zhk (by omega)).symm
 split at hr
 ·rename_i h0
  simp only[Bool.and_eq_true,zqv,zs5,decide_eq_true_eq]at hr
  obtain⟨rfl,rfl⟩:=hr
  have:=hk 0 (by omega) h0
  subst this
  rfl
 split at hr
 ·rename_i h0 h1
  simp only[Bool.and_eq_true,zs5,decide_eq_true_eq]at hr
  obtain⟨hl,rfl⟩:=hr
  have:=hk 1 (by omega) h1
  subst this
  have e:zaq ⟨UInt8.ofNat 1,lf,zp⟩++r=1::(zo2 lf++r):=by simp[zaq,zo2]
  rw[e]
  simp only[zbz]
  rw[if_neg (by decide),if_pos (by decide),z13 hl]
  rfl
 split at hr
 ·rename_i h0 h1 h2
  simp only[Bool.and_eq_true,zqv,decide_eq_true_eq]at hr
  obtain⟨rfl,hp⟩:=hr
  have:=hk 2 (by omega) h2
  subst this
  have e:zaq ⟨UInt8.ofNat 2,zl,pr⟩++r=2::(parB pr++r):=by simp[zaq]
  rw[e]
  simp only[zbz]
  rw[if_neg (by decide),if_neg (by decide),if_pos (by decide),z4z hp]
  rfl
 ·cases hr
theorem zr4{l r:List UInt8}{n:Node}(h:zbz l= .ok n r):l=zaq n++r/\n.right=true:=by
 cases l with
 |nil=>cases h
 |cons c q=>
  simp only[zbz]at h
  split at h
  ·rename_i h0
   injection h with e1 e2
   subst e1;subst e2
   have:c=0:=by apply UInt8.toNat_inj.1;simpa using h0
   subst this
   exact⟨rfl,by decide⟩
  split at h
  ·rename_i h0 h1
   have:c=1:=by apply UInt8.toNat_inj.1;simpa using h1
   subst this
   cases hq:zej q with
   |err e'=>rw[hq]at h;cases h
   |ok x s=>
    rw[hq]at h
    injection h with e1 e2
    subst e1;subst e2
    obtain⟨hl,hr⟩:=z2f hq
    exact⟨by rw[hl];simp[zaq,zo2],z2k hr⟩
  split at h
  ·rename_i h0 h1 h2
   have:c=2:=by apply UInt8.toNat_inj.1;simpa using h2
   subst this
   obtain⟨p,rfl,hr,hl⟩:=z6w h
   exact⟨by rw[hl];simp[zaq],zr2 hr⟩
  ·cases h
end
section
def outS(s:Lean_):Nat->Nat->List Spot×List Stub
 |0,k=>match zae s.opn (nd 0 k)with
  |some n=>([⟨(nd 0 k:Int),n⟩],[])
  |none=>([],[⟨(nd 0 k:Int),zbe s.shut (nd 0 k)⟩])
 |h+1,k=>match zae s.opn (nd (h+1) k)with
  |some n=>((outS s h (2*k)).1++[⟨(nd (h+1) k:Int),n⟩]++(outS s h (2*k+1)).1,(outS s h (2*k)).2++(outS s h (2*k+1)).2)
  |none=>([],[⟨(nd (h+1) k:Int),zbe s.shut (nd (h+1) k)⟩])
def okS(s:Lean_):Nat->Nat->Prop
 |0,k=>match zae s.opn (nd 0 k)with
  |some n=>n.right=true/\n.kind.toNat≠2
  |none=>(zbe s.shut (nd 0 k)).length=32
 |h+1,k=>match zae s.opn (nd (h+1) k)with
  |some n=>n.right=true/\n.kind.toNat≠1/\okS s h (2*k)/\okS s h (2*k+1)
  |none=>(zbe s.shut (nd (h+1) k)).length=32
theorem zxp{v r:List UInt8}(hv:v.length=32):(v++r).take 32=v/\(v++r).drop 32=r/\¬(v++r).length<32:=by
 refine⟨?_,?_,by rw[List.length_append];omega⟩
 ·rw[<-hv,List.take_left]
 ·rw[<-hv,List.drop_left]
theorem zm0(s:Lean_): ∀(h k:Nat) (r:List UInt8),okS s h k->zbn h k (putB s h k++r)= .ok (outS s h k) r
 |0,k,r,hk=>by
  unfold okS at hk
  unfold putB outS
  cases hf:zae s.opn (nd 0 k)with
  |none=>
   rw[hf]at hk
   obtain⟨t1,t2,t3⟩:=zxp (r:=r) hk
   simp only[List.cons_append,List.nil_append,zbn]
   rw[if_neg (by decide),if_pos (by decide),if_neg t3,t1,t2]
  |some n=>
   rw[hf]at hk
   simp only[List.cons_append,List.nil_append,zbn]
   rw[if_neg (by decide),if_neg (by decide),zf4 hk.1]
   simp only
   rw[if_neg hk.2]
 |h+1,k,r,hk=>by
  unfold okS at hk
  unfold putB outS
  cases hf:zae s.opn (nd (h+1) k)with
  |none=>
   rw[hf]at hk
   obtain⟨t1,t2,t3⟩:=zxp (r:=r) hk
   simp only[List.cons_append,List.nil_append,zbn]
   rw[if_neg (by decide),if_pos (by decide),if_neg t3,t1,t2]
  |some n=>
   rw[hf]at hk
   obtain⟨k1,k2,k3,k4⟩:=hk
   have i1:=zm0 s h (2*k) (putB s h (2*k+1)++r) k3
   have i2:=zm0 s h (2*k+1) r k4
   simp only[List.cons_append,List.nil_append,List.append_assoc,zbn]
   rw[if_neg (by decide),if_neg (by decide),zf4 k1]
   simp only
   rw[if_neg k2,i1]
   simp only
   rw[i2]
theorem z2n(s:Lean_): ∀(h k:Nat) {l r:List UInt8} {x:List Spot×List Stub},zbn h k l= .ok x r->(∀a∈x.1,zae s.opn a.at_=some a.node)->(∀a∈x.2,zae s.opn a.at_=none/\zbe s.shut a.at_=a.hash)->l=putB s h k++r:=by
 intro h
 induction h with
 |zero=>
  intro k l r x hq h1 h2
  cases l with
  |nil=>cases hq
  |cons c q=>
   simp only[zbn]at hq
   split at hq
   ·cases hq
   rename_i hc
   split at hq
   ·rename_i hc0
    split at hq
    ·cases hq
    ·rename_i h32
     injection hq with e1 e2
     subst e1;subst e2
     have hc':c=0:=by apply UInt8.toNat_inj.1;simpa using hc0
     obtain⟨a,b⟩:=h2 _ (List.mem_singleton.2 rfl)
     simp only at a b
     unfold putB
     rw[a]
     simp only
     rw[b,hc',List.append_assoc,List.take_append_drop]
     rfl
   rename_i hc0
   have hc':c=1:=by apply UInt8.toNat_inj.1;show c.toNat=1;omega
   cases hn:zbz q with
   |err e'=>rw[hn]at hq;cases hq
   |ok n t=>
    rw[hn]at hq
    simp only at hq
    split at hq
    ·cases hq
    ·injection hq with e1 e2
     subst e1;subst e2
     have a:=h1 _ (List.mem_singleton.2 rfl)
     simp only at a
     unfold putB
     rw[a]
     simp only
     rw[hc',List.append_assoc,<-(zr4 hn).1]
     rfl
 |succ h ih=>
  intro k l r x hq h1 h2
  cases l with
  |nil=>cases hq
  |cons c q=>
   simp only[zbn]at hq
   split at hq
   ·cases hq
   rename_i hc
   split at hq
   ·rename_i hc0
    split at hq
    ·cases hq
    ·rename_i h32
     injection hq with e1 e2
     subst e1;subst e2
     have hc':c=0:=by apply UInt8.toNat_inj.1;simpa using hc0
     obtain⟨a,b⟩:=h2 _ (List.mem_singleton.2 rfl)
     simp only at a b
     unfold putB
     rw[a]
     simp only
     rw[b,hc',List.append_assoc,List.take_append_drop]
     rfl
   rename_i hc0
   have hc':c=1:=by apply UInt8.toNat_inj.1;show c.toNat=1;omega
   cases hn:zbz q with
   |err e'=>rw[hn]at hq;cases hq
   |ok n t=>
    rw[hn]at hq
    simp only at hq
    split at hq
    ·cases hq
    cases ha:zbn h (2*k) t with
    |err e'=>rw[ha]at hq;cases hq
    |ok a u=>
     rw[ha]at hq
     simp only at hq
     cases hb:zbn h (2*k+1) u with
     |err e'=>rw[hb]at hq;cases hq
     |ok b v=>
      rw[hb]at hq
      injection hq with e1 e2
      subst e1;subst e2
      simp only[List.mem_append,List.mem_singleton]at h1 h2
      have i1:=ih (2*k) ha (λz hz=>h1 z (.inl (.inl hz))) (λz hz=>h2 z (.inl hz))
      have i2:=ih (2*k+1) hb (λz hz=>h1 z (.inr hz)) (λz hz=>h2 z (.inr hz))
      have hx:=h1 _ (.inl (.inr rfl))
      simp only at hx
      unfold putB
      rw[hx]
      simp only
      rw[hc',(zr4 hn).1,i1,i2]
      simp
end
section
section
variable {s:Lean_}
def zgw(s:Lean_)(h k:Nat)(S:List Int×List Int):Prop:=(outS s h k).1.map (λx=>x.at_)=S.1/\(outS s h k).2.map (λx=>x.at_)=S.2/\okS s h k
def zq9(s:Lean_)(z:Int):Prop:=zae s.opn z=none/\(zbe s.shut z).length=32
theorem z0k{h k:Nat}(hz:zq9 s (nd h k)):zgw s h k ([],[(nd h k:Int)]):=by
 obtain⟨h1,h2⟩:=hz
 cases h with
 |zero=>unfold zgw outS okS;rw[h1];exact⟨rfl,rfl,h2⟩
 |succ h=>unfold zgw outS okS;rw[h1];exact⟨rfl,rfl,h2⟩
theorem zw0{k:Nat}{n:Node}(h:za2 (nd 0 k) n=true):n.right=true/\n.kind.toNat≠2:=by
 simp only[za2,Bool.and_eq_true,decide_eq_true_eq]at h
 refine⟨h.1,?_⟩
 have:=h.2.1
 simp only[zco,zck]at this
 simpa using this
theorem zelb{h k:Nat}{n:Node}(hh:za2 (nd (h+1) k) n=true):n.right=true/\n.kind.toNat≠1:=by
 simp only[za2,Bool.and_eq_true,decide_eq_true_eq]at hh
 refine⟨hh.1,?_⟩
 have:=hh.2.1
 simp only[zco,zc5]at this
 simpa using this
theorem z1y(hF: ∀x n,zae s.opn x=some n->za2 x n=true){h k:Nat}{n:Node}{A B:List Int×List Int}(hx:zae s.opn (nd (h+1) k)=some n)(ha:zgw s h (2*k) A)(hb:zgw s h (2*k+1) B):zgw s (h+1) k (A.1++[(nd (h+1) k:Int)]++B.1,A.2++B.2):=by
 obtain⟨a1,a2,a3⟩:=ha
 obtain⟨b1,b2,b3⟩:=hb
 obtain⟨f1,f2⟩:=zelb (hF _ _ hx)
 unfold zgw outS okS
 rw[hx]
 refine⟨?_,?_,f1,f2,a3,b3⟩
 ·simp only[List.map_append,List.map_cons,List.map_nil,a1,b1]
 ·simp only[List.map_append,a2,b2]
theorem z1r(hF: ∀x n,zae s.opn x=some n->za2 x n=true): ∀(h k:Nat) (w:Bool) (l:List Int),(∀z∈(shP s.opn h k w l).1,found s.opn z=true)->(∀z∈(shP s.opn h k w l).2,zq9 s z)->zgw s h k (shP s.opn h k w l)
 |0,k,w,l,h1,h2=>by
  have hf:=h1 _ (zi0 s.opn 0 k w l)
  obtain⟨n,hn⟩:=Option.isSome_iff_exists.1 hf
  unfold zgw outS okS
  rw[hn]
  exact⟨rfl,rfl,zw0 (hF _ _ hn)⟩
 |h+1,k,w,l,h1,h2=>by
  have hf:=h1 _ (zi0 s.opn (h+1) k w l)
  obtain⟨n,hn⟩:=Option.isSome_iff_exists.1 hf
  unfold shP at h1 h2⊢
  rw[hn]at h1 h2⊢
  simp only at h1 h2⊢
  have kid: ∀all late j,(∀z∈(kidS (λj w l=>shP s.opn h j w l) h all late j).1,found s.opn z=true)->(∀z∈(kidS (λj w l=>shP s.opn h j w l) h all late j).2,zq9 s z)->zgw s h j (kidS (λj w l=>shP s.opn h j w l) h all late j):=λall late j g1 g2=>by
   unfold kidS at g1 g2⊢
   split
   ·rename_i c1
    rw[if_pos c1]at g1 g2
    exact z1r hF h j true [] g1 g2
   ·rename_i c1
    rw[if_neg c1]at g1 g2
    split
    ·rename_i c2
     rw[if_pos c2]at g1 g2
     exact z1r hF h j false late g1 g2
    ·rename_i c2
     rw[if_neg c2]at g2
     exact z0k (g2 _ (List.mem_singleton.2 rfl))
  simp only[List.mem_append]at h1 h2
  exact z1y hF hn (kid _ _ _ (λz hz=>h1 z (.inl (.inl hz))) (λz hz=>h2 z (.inl hz))) (kid _ _ _ (λz hz=>h1 z (.inr hz)) (λz hz=>h2 z (.inr hz)))
theorem z4d(hF: ∀x n,zae s.opn x=some n->za2 x n=true){d o:Nat}(hd:d<=16)(ho:o<2^d): ∀h,h<=d->(∀z∈(topS s.opn o h).1,found s.opn z=true)->(∀z∈(topS s.opn o h).2,zq9 s z)->zgw s h (o/2^h) (topS s.opn o h)
 |0,_,h1,h2=>by
  rw[Nat.pow_zero,Nat.div_one]
  have hf:=h1 (nd 0 o) (by simp[topS])
  obtain⟨n,hn⟩:=Option.isSome_iff_exists.1 hf
  unfold zgw outS okS topS
  rw[hn]
  exact⟨rfl,rfl,zw0 (hF _ _ hn)⟩
 |h+1,hh,h1,h2=>by
  have hf:=h1 _ (((zcs s.opn o (h+1) _).1).2 (.inl ⟨h+1,Nat.le_refl _,rfl⟩))
  obtain⟨n,hn⟩:=Option.isSome_iff_exists.1 hf
  have hk:o/2^(h+1)=o/2^h/2:=zlm o h
  have kid:(∀z∈(kidT s.opn o h).1,found s.opn z=true)->(∀z∈(kidT s.opn o h).2,zq9 s z)->zgw s h (sibN (o/2^h)) (kidT s.opn o h):=λg1 g2=>by
   unfold kidT at g1 g2⊢
   split
   ·rename_i c1
    rw[if_pos c1]at g1 g2
    exact z1r hF h _ true [] g1 g2
   ·rename_i c1
    rw[if_neg c1]at g2
    exact z0k (g2 _ (List.mem_singleton.2 rfl))
  have ih:=z4d hF hd ho h (by omega)
  unfold topS at h1 h2⊢
  by_cases hp:(o/2^h)%2=0
  ·rw[if_pos hp]at h1 h2⊢
   simp only[List.mem_append]at h1 h2
   have i:=ih (λz hz=>h1 z (.inl (.inl hz))) (λz hz=>h2 z (.inl hz))
   have j:=kid (λz hz=>h1 z (.inr hz)) (λz hz=>h2 z (.inr hz))
   rw[show o/2^h=2*(o/2^(h+1))by omega]at i
   rw[show sibN (o/2^h)=2*(o/2^(h+1))+1 by unfold sibN;rw[if_pos hp];omega]at j
   exact z1y hF hn i j
  ·rw[if_neg hp]at h1 h2⊢
   simp only[List.mem_append]at h1 h2
   have i:=ih (λz hz=>h1 z (.inr hz)) (λz hz=>h2 z (.inr hz))
   have j:=kid (λz hz=>h1 z (.inl (.inl hz))) (λz hz=>h2 z (.inl hz))
   rw[show o/2^h=2*(o/2^(h+1))+1 by omega]at i
   rw[show sibN (o/2^h)=2*(o/2^(h+1))by unfold sibN;rw[if_neg hp];omega]at j
   exact z1y hF hn j i
end
end
section
theorem zth(s:Lean_): ∀h k,(∀e∈(outS s h k).1,zae s.opn e.at_=some e.node)/\∀e∈(outS s h k).2,zbe s.shut e.at_=e.hash
 |0,k=>by
  unfold outS
  cases hf:zae s.opn (nd 0 k)with
  |none=>exact⟨λe he=>by(cases he),λe he=>by rw[List.mem_singleton.1 he]⟩
  |some n=>exact⟨λe he=>by rw[List.mem_singleton.1 he];exact hf,λe he=>by(cases he)⟩
 |h+1,k=>by
  obtain⟨a1,a2⟩:=zth s h (2*k)
  obtain⟨b1,b2⟩:=zth s h (2*k+1)
  unfold outS
  cases hf:zae s.opn (nd (h+1) k)with
  |none=>exact⟨λe he=>by(cases he),λe he=>by rw[List.mem_singleton.1 he]⟩
  |some n=>
   refine⟨λe he=>?_,λe he=>?_⟩
   ·simp only[List.mem_append,List.mem_singleton]at he
    rcases he with(he |rfl) |he
    ·exact a1 e he
    ·exact hf
    ·exact b1 e he
   ·rcases List.mem_append.1 he with he |he
    ·exact a2 e he
    ·exact b2 e he
theorem zhu{α:Type}{f:α->α}: ∀{l:List α},(∀e∈l,f e=e)->l.map f=l
 |[],_=>rfl
 |x::l,h=>by rw[List.map_cons,h x (by simp),zhu λe he=>h e (by simp[he])]
section
variable {s:Lean_} {d o:Nat}
theorem zxk(hd:d<=16)(ho:o<2^d)(h:Part_ s d o): ∀z∈(topS s.opn o d).2,zq9 s z:=λz hz=>by
 have sh:=zdz s.opn hd ho d (Nat.le_refl _)
 have ps:(s.shut.map (·.at_)).Pairwise (· < ·):=by rw[show s.shut.map (·.at_)=_ from h.eb];exact sh.pb
 have hz':=hz
 rw[<-h.eb]at hz'
 obtain⟨st,hst,rfl⟩:=List.mem_map.1 hz'
 refine⟨?_,by rw[(zc0 (zfp ps hst)).1];exact h.okH st hst⟩
 cases hf:zae s.opn st.at_ with
 |none=>rfl
 |some n=>
  exfalso
  have:=zc9.1 (show found s.opn st.at_=true by simp[found,hf])
  rw[show s.opn.map (·.at_)=_ from h.ea]at this
  exact sh.dj _ this hz
theorem z0j(hd:d<=16)(ho:o<2^d)(h:Part_ s d o):outS s d 0=(s.opn,s.shut)/\okS s d 0:=by
 have sh:=zdz s.opn hd ho d (Nat.le_refl _)
 have ps:(s.shut.map (·.at_)).Pairwise (· < ·):=by rw[show s.shut.map (·.at_)=_ from h.eb];exact sh.pb
 have po:(s.opn.map (·.at_)).Pairwise (· < ·):=by rw[show s.opn.map (·.at_)=_ from h.ea];exact sh.pa
 have ht:=z4d (zld h.okO) hd ho d (Nat.le_refl _) h.found (zxk hd ho h)
 rw[Nat.div_eq_of_lt ho]at ht
 obtain⟨t1,t2,t3⟩:=ht
 obtain⟨m1,m2⟩:=zth s d 0
 refine⟨?_,t3⟩
 have e1:(outS s d 0).1=s.opn:=by
  have a:((outS s d 0).1.map λx=>x.at_).map (putN s.opn)=(outS s d 0).1:=by
   rw[List.map_map]
   exact zhu λe he=>by simp only[Function.comp,putN];rw[m1 e he];rfl
  have b:(s.opn.map λx=>x.at_).map (putN s.opn)=s.opn:=by
   rw[List.map_map]
   exact zhu λe he=>by simp only[Function.comp,putN];rw[zka po he];rfl
  rw[<-a,t1,<-h.ea,b]
 have e2:(outS s d 0).2=s.shut:=by
  have a:((outS s d 0).2.map λx=>x.at_).map (putH s.shut)=(outS s d 0).2:=by
   rw[List.map_map]
   exact zhu λe he=>by simp only[Function.comp,putH];rw[m2 e he]
  have b:(s.shut.map λx=>x.at_).map (putH s.shut)=s.shut:=by
   rw[List.map_map]
   exact zhu λe he=>by simp only[Function.comp,putH];rw[(zc0 (zfp ps he)).1]
  rw[<-a,t2,<-h.eb,b]
 exact Prod.ext e1 e2
theorem z81{l r:List UInt8}(h:l.length=4):(l++r).take 4=l/\(l++r).drop 4=r/\¬(l++r).length<4:=by
 refine⟨?_,?_,by rw[List.length_append];omega⟩
 ·rw[<-h,List.take_left]
 ·rw[<-h,List.drop_left]
theorem zsg{q:Nat->Bool}{n:Nat}(hn:n<4294967296)(hq:q n=true)(r:List UInt8):numP 4 q (beB 4 n++r)= .ok n r:=by
 obtain⟨t1,t2,t3⟩:=z81 (r:=r) (zaw 4 n)
 unfold numP
 rw[if_neg t3,t1,t2,z3v hn,if_pos hq]
theorem zsh{q:Nat->Bool}{n:Nat}{l r:List UInt8}(h:numP 4 q l= .ok n r):l=beB 4 n++r/\q n=true:=by
 unfold numP at h
 split at h
 ·cases h
 ·rename_i hl
  split at h
  ·rename_i hq
   injection h with e1 e2
   subst e1;subst e2
   refine⟨?_,hq⟩
   rw[z39 (by rw[List.length_take];omega),List.take_append_drop]
  ·cases h
theorem zr8(s:Lean_)(d:Nat):zid 1 s d=1::(beB 4 s.leaves.toNat++(beB 4 s.own.toNat++putB s d 0)):=by simp[zid]
theorem z6t(hd:d<=16)(ho:o<2^d)(hn:s.leaves=((2^d:Nat):Int))(he:s.own=(o:Int))(h:Part_ s d o)(hb:(zid 1 s d).length<=1048576):refP (zid 1 s d)= .ok s []:=by
 obtain⟨h1,h2⟩:=z0j hd ho h
 have h16:=zhr hd
 have hp:=zm0 s d 0 [] h2
 rw[List.append_nil,h1]at hp
 have hdl:(2^d).log2=d:=Nat.log2_two_pow
 have e1:s.leaves.toNat=2^d:=by omega
 have e2:s.own.toNat=o:=by omega
 have hs:(⟨((2^d:Nat):Int),(o:Int),s.opn,s.shut⟩:Lean_)=s:=by rw[<-hn,<-he]
 have ha:asR s=true:=(zrk hd ho hn he).2 h
 unfold refP
 rw[if_neg (by omega)]
 rw[zr8,e1,e2]
 have h0:numP 1 (λn=>decide ((n:Int)=1)) (1::(beB 4 (2^d)++(beB 4 o++putB s d 0)))= .ok 1 (beB 4 (2^d)++(beB 4 o++putB s d 0)):=by
  unfold numP
  rw[if_neg (by simp)]
  rfl
 rw[h0]
 simp only[ref0]
 rw[zsg (by omega) (zdd d hd)]
 simp only[ref1]
 rw[zsg (by omega) (by simp only[decide_eq_true_eq];omega)]
 simp only[ref2]
 rw[hdl,hp]
 simp only[endR]
 rw[if_pos (show([]:List UInt8).length=0 from rfl),hs,if_pos ha]
theorem z5m{b r:List UInt8}(h:refP b= .ok s r): ∃(d o:Nat),d<=16/\o<2^d/\s.leaves=((2^d:Nat):Int)/\s.own=(o:Int)/\Part_ s d o/\b=zid 1 s d:=by
 unfold refP at h
 split at h
 ·cases h
 rename_i hb
 cases h0:numP 1 (λn=>decide ((n:Int)=1)) b with
 |err e'=>rw[h0]at h;cases h
 |ok m r0=>
  rw[h0]at h
  simp only[ref0]at h
  have hb0:b=1::r0:=by
   cases b with
   |nil=>simp[numP]at h0
   |cons c q=>
    unfold numP at h0
    rw[if_neg (by simp)]at h0
    simp only[zgkb]at h0
    split at h0
    ·rename_i hc
     injection h0 with e1 e2
     simp only[decide_eq_true_eq]at hc
     have:c=1:=by apply UInt8.toNat_inj.1;show c.toNat=1;omega
     rw[this,<-e2];rfl
    ·cases h0
  cases h1:numP 4 (λn=>za0 n) r0 with
  |err e'=>rw[h1]at h;cases h
  |ok n r1=>
   rw[h1]at h
   simp only[ref1]at h
   obtain⟨hr0,hf⟩:=zsh h1
   cases h2:numP 4 (λi=>decide ((i:Int)<n)) r1 with
   |err e'=>rw[h2]at h;cases h
   |ok i r2=>
    rw[h2]at h
    simp only[ref2]at h
    obtain⟨hr1,hi⟩:=zsh h2
    simp only[decide_eq_true_eq]at hi
    obtain⟨d,hd,hnd⟩:=zde hf
    have hn2:n=2^d:=by omega
    have hdl:n.log2=d:=by rw[hn2,Nat.log2_two_pow]
    rw[hdl]at h
    cases h3:zbn d 0 r2 with
    |err e'=>rw[h3]at h;cases h
    |ok x r3=>
     rw[h3]at h
     simp only[endR]at h
     split at h
     ·rename_i h5
      split at h
      ·rename_i hp
       injection h with h4 h6
       have hl2:r2.length<=100000000:=by
        have:b.length=r2.length+9:=by rw[hb0,hr0,hr1];simp[zaw];omega
        omega
       have ho:i<2^d:=by omega
       have hsn:s.leaves=((2^d:Nat):Int):=by rw[<-h4,hn2]
       have hse:s.own=(i:Int):=by rw[<-h4]
       have hpt:Part_ s d i:=(zrk hd ho hsn hse).1 (by rw[<-h4];exact hp)
       refine⟨d,i,hd,ho,hsn,hse,hpt,?_⟩
       have sh:=zdz s.opn hd ho d (Nat.le_refl _)
       have po:(s.opn.map (·.at_)).Pairwise (· < ·):=by rw[show s.opn.map (·.at_)=_ from hpt.ea];exact sh.pa
       have ps:(s.shut.map (·.at_)).Pairwise (· < ·):=by rw[show s.shut.map (·.at_)=_ from hpt.eb];exact sh.pb
       have eO:s.opn=x.1:=by rw[<-h4]
       have eH:s.shut=x.2:=by rw[<-h4]
       have hput:=z2n s d 0 h3 (λa ha=>zka po (by rw[eO];exact ha)) (λa ha=>by
        have ha':a∈s.shut:=by rw[eH];exact ha
        refine⟨(zxk hd ho hpt _ ?_).1,(zc0 (zfp ps ha')).1⟩
        rw[<-hpt.eb]
        exact List.mem_map_of_mem (f:=λx=>x.at_) ha')
       rw[List.eq_nil_of_length_eq_zero h5,List.append_nil]at hput
       rw[zr8,hsn,hse,Int.toNat_natCast,Int.toNat_natCast,<-hput,<-hr1,<-hn2,<-hr0]
       exact hb0
      ·cases h
     ·cases h
end
end
end Go.Proofs.YtpdllgbfemnemaaGreat.Sx
