import Derived.Test.YtpcfoglfakeimaaGreatZCd
import Derived.Test.YtpcfoglfakeimaaGreatZCb
import Derived.Test.YtpcfoglfakeimaaGreatZHb
import Derived.Test.YtpcfoglfakeimaaGreatZSxU
import Derived.Test.YtpcfoglfakeimaaGreatZNk
import Derived.Test.YtpcfoglfakeimaaGreatZSxPt
namespace Go.Proofs.YtpcfoglfakeimaaGreat.Sx
open Go.RowKit
def zcn(t:List Node)(n:Nat):Nat->Nat
 |0=>n
 |k+1=>if(nT t (2*(n-1-k))).kind.toNat=0 then n-1-k else zcn t n k
def zaw(t:List Node):Nat:=zcn t (zae t).toNat (zae t).toNat
theorem zo8(t:List Node)(n:Nat): ∀k,zcn t n k<=n
 |0=>Nat.le_refl _
 |k+1=>by
  unfold zcn
  split
  ·omega
  ·exact zo8 t n k
def zdc(t:List Node):Nat:=if zaw t=(zae t).toNat then 4*(zae t).toNat-1 else t.length
def addY(t:List Node)(l:Leaf)(a x:Nat):Node:=
 let y:=if(x:Int)=2*(a:Int)then L1 l else if x<t.length then nT t x else Node.zero
 if y.kind.toNat=2/\zb1 x a=true then{y with par:={y.par with late:=putI y.par.late a}}else y
theorem zgj{t:List Node}{l:Leaf}{a x:Nat}(h:(x:Int)=2*(a:Int)):addY t l a x=L1 l:=by
 unfold addY
 rw[if_pos h]
 exact if_neg (by rintro⟨h,_⟩;exact absurd h (by show¬(1:UInt8).toNat=2;decide))
theorem zjv{t:List Node}{l:Leaf}{a x:Nat}(h: ¬(x:Int)=2*(a:Int))(hx:x<t.length):addY t l a x=if(nT t x).kind.toNat=2/\zb1 x a=true then{nT t x with par:={(nT t x).par with late:=putI (nT t x).par.late a}}else nT t x:=by
 unfold addY
 rw[if_neg h,if_pos hx]
theorem zii{t:List Node}{l:Leaf}{a x:Nat}(h: ¬(x:Int)=2*(a:Int))(hx: ¬x<t.length):addY t l a x=Node.zero:=by
 unfold addY
 rw[if_neg h,if_neg hx]
 exact if_neg (by rintro⟨h,_⟩;exact absurd h (by decide))
theorem zmw(l:Leaf):Cvs [.i .u8 1,bs l.box,bs l.sign,bs l.ident,U8 l.src,bs l.parent,bs l.sig, .x (.slice none 0 0), .x (.slice none 0 0), .x (.slice none 0 0)] (L1 l).c:=
 zk (cr) (zk (cr) (zk (cr) (zk (cr) (zk (cr) (zk (cr) (zk (cr) (zk (Cv.nil 1) (zk (Cv.nil 1) (zk (Cv.nil 1) Cvs.nil)))))))))
def addN(t:List Node)(l:Leaf)(a n:Nat):List Node:=(List.range n).map (addY t l a)
theorem zsn(t:List Node)(l:Leaf)(a n:Nat):addN t l a (n+1)=addN t l a n++[addY t l a n]:=by
 unfold addN;rw[List.range_succ,List.map_append];rfl
theorem zih(t:List Node)(l:Leaf)(a n:Nat):(addN t l a n).length=n:=by simp[addN]
def addR(t:List Node)(l:Leaf):RV:=
 if zaw t=(zae t).toNat/\zae t=65536 then .tu [nods [],I (-1)]else .tu [nods (addN t l (zaw t) (zdc t)),I (zaw t)]
theorem zaeb(t:List Node)(l:Leaf)(ht:t.length<=1000000)(hn:zae t≠0)(hll: ∀x,(nT t x).par.late.length<=1000000):aG 26 [nods t, .ag l.c] (.r (addR t l)):=by
 obtain⟨hl1,hl2,hl3⟩:=zbg hn
 have hb:=zcc hl2
 refine aT Tryz.func26 rfl ?_
 refine ze (zql t ht) ?_
 have hA:zaw t=zcn t (zae t).toNat (zae t).toNat:=rfl
 obtain⟨n,hn'⟩: ∃n:Nat,zae t=(n:Int):=⟨(zae t).toNat,by omega⟩
 unfold addR zdc
 rw[hn']at hl1 hb hA⊢
 rw[Int.toNat_natCast]at hA⊢
 refine zd rfl (by omega) ?_
 refine Vloop.mk' (λk:Nat=>⟨[(0, .r (nods t)),(3, .own 0),(6, .r (I n)),(7, .r (I (zcn t n k))),(8, .r (I ((n:Int)-1-k)))],[(0,some (.box (l.c.map .r)))],1⟩) (λk=>k<=n) (λk=>n-k) 0 (by omega)
  (zac [(0,0)] rfl ⟨cr,rfl,cr,cr,zf (congrArg I (by simp)),trivial⟩ ⟨zad l.c,trivial⟩) ?_
 intro k hk
 have hfl:=zo8 t n k
 refine zh (λh=>zq ?_) (λh=>zt ?_)
 ·simp only[zb]at h
  refine zd rfl (by omega) ?_
  refine zm (by omega) (by omega) (zbf (j:=2*(n-1-k)) (by omega) (by omega)) (zg rfl ?_)
  refine zh (λh2=>zq ?_) (λh2=>zt ?_)
  ·simp only[zb]at h2
   refine zd rfl (by omega) ?_
   exact⟨k+1,by omega,by omega,zac [(0,0)] rfl ⟨cr,rfl,cr,zf (congrArg I (by rw[zcn,if_pos (by omega)];omega)),zf (congrArg I (by omega)),trivial⟩ ⟨zad l.c,trivial⟩⟩
  ·simp only[zb]at h2
   refine zd rfl (by omega) ?_
   exact⟨k+1,by omega,by omega,zac [(0,0)] rfl ⟨cr,rfl,cr,zf (congrArg I (by rw[zcn,if_neg (by omega)])),zf (congrArg I (by omega)),trivial⟩ ⟨zad l.c,trivial⟩⟩
 simp only[zb]at h
 obtain rfl:k=n:=by omega
 rw[<-hA]at hfl⊢
 generalize zaw t=a at*
 refine zh (λh2=>zq ?_) (λh2=>zt ?_)
 ·simp only[zb]at h2
  refine zh (λh3=>zq ?_) (λh3=>zt ?_)
  ·simp only[zb]at h3
   rw[if_pos ⟨by omega,by omega⟩]
   exact⟨_,rfl,Cv.tu (zk (Cv.nil 10) (zn _))⟩
  ·simp only[zb]at h3
   rw[if_neg (by omega),if_pos (by omega)]
   refine zd rfl (by omega) (zd (m:=((4*k-1:Nat):Int)) (by omega) (by omega) ?_)
   obtain⟨sz,hsz⟩: ∃sz,sz=4*k-1:=⟨_,rfl⟩
   rw[<-hsz]
   have hszb:t.length<=sz/\sz<=300000:=by omega
   clear hsz h2 h3
   refine Vloop.mk' (λx:Nat=>⟨[(0, .r (nods t)),(3, .own 0),(7, .r (I a)),(9, .r (I sz)),(10, .own 1),(11, .r (I x))],[(0,some (.box (l.c.map .r))),(1,some (.ch 60 10 (addN t l a x).length ((addN t l a x).flatMap Node.c) true))],2⟩) (λx=>x<=sz) (λx=>sz-x) 0 (by omega)
    ((zcd 10 60 10 rfl).trans (zac [(0,0),(1,1)] rfl ⟨cr,rfl,cr,cr,rfl,cr,trivial⟩ ⟨zad l.c,⟨rfl,rfl,rfl,rfl,zn _⟩,trivial⟩)) ?_
   intro x hx
   have hal:=zih t l a x
   have hsn:=zsn t l a x
   refine zh (λc1=>zq ?_) (λc1=>zt ?_)
   ·simp only[zb]at c1
    refine zh (λc2=>zq ?_) (λc2=>zt ?_)
    ·simp only[zb]at c2
     have hx':x<t.length:=by omega
     refine zm (by omega) (by omega) (zbf rfl hx') ?_
     refine za rfl rfl ?_
     refine zd rfl (by omega) ?_
     refine zh (λc3=>zq ?_) (λc3=>zt ?_)
     ·simp only[zb]at c3
      refine za rfl rfl ?_
      refine zw rfl (zt ?_)
      refine za rfl rfl ?_
      refine zy ?_
      refine Vapp.mk' (j:=(addN t l a (x+1)).length) (zs:=_) (by show(addN t l a x).length+1<=maxLen;simp only[maxLen];omega) (by show((addN t l a x).length+1)*208<=_;omega) (by rw[hsn];simp) rfl ?_
      refine zd (m:=((x+1:Nat):Int)) (by omega) (by omega) ?_
      exact⟨x+1,by omega,by omega,zac [(0,0),(1,_)] rfl ⟨cr,rfl,cr,cr,rfl,cr,trivial⟩ ⟨zad l.c,⟨rfl,rfl,rfl,rfl,by rw[hsn,List.flatMap_append,List.flatMap_cons,List.flatMap_nil,List.append_nil,zgj c3];exact Cvs.appC (zn _) (zmw l)⟩,trivial⟩⟩
     ·simp only[zb]at c3
      have ey:=zjv (l:=l) c3 hx'
      refine zh (λc4=>?_) (λc4=>zt ?_)
      ·simp only[zb]at c4
       refine Vcall.bool (zmm (x:Int) a (by omega)) (λc5=>zq ?_) (λc5=>zt ?_)
       ·refine ze (zzh (nT t x).par.late a (hll x)) ?_
        refine za rfl rfl ?_
        refine zy ?_
        refine Vapp.mk' (j:=(addN t l a (x+1)).length) (zs:=_) (by show(addN t l a x).length+1<=maxLen;simp only[maxLen];omega) (by show((addN t l a x).length+1)*208<=_;omega) (by rw[hsn];simp) rfl ?_
        refine zd (m:=((x+1:Nat):Int)) (by omega) (by omega) ?_
        exact⟨x+1,by omega,by omega,zac [(0,0),(1,_)] rfl ⟨cr,rfl,cr,cr,rfl,cr,trivial⟩ ⟨zad l.c,⟨rfl,rfl,rfl,rfl,by rw[hsn,List.flatMap_append,List.flatMap_cons,List.flatMap_nil,List.append_nil,ey,if_pos ⟨by omega,c5⟩];exact Cvs.appC (zn _) (zn _)⟩,trivial⟩⟩
       ·skip
        refine za rfl rfl ?_
        refine zy ?_
        refine Vapp.mk' (j:=(addN t l a (x+1)).length) (zs:=_) (by show(addN t l a x).length+1<=maxLen;simp only[maxLen];omega) (by show((addN t l a x).length+1)*208<=_;omega) (by rw[hsn];simp) rfl ?_
        refine zd (m:=((x+1:Nat):Int)) (by omega) (by omega) ?_
        exact⟨x+1,by omega,by omega,zac [(0,0),(1,_)] rfl ⟨cr,rfl,cr,cr,rfl,cr,trivial⟩ ⟨zad l.c,⟨rfl,rfl,rfl,rfl,by rw[hsn,List.flatMap_append,List.flatMap_cons,List.flatMap_nil,List.append_nil,ey,if_neg (by rw[c5];simp)];exact Cvs.appC (zn _) (zn _)⟩,trivial⟩⟩
      ·simp only[zb]at c4
       refine za rfl rfl ?_
       refine zy ?_
       refine Vapp.mk' (j:=(addN t l a (x+1)).length) (zs:=_) (by show(addN t l a x).length+1<=maxLen;simp only[maxLen];omega) (by show((addN t l a x).length+1)*208<=_;omega) (by rw[hsn];simp) rfl ?_
       refine zd (m:=((x+1:Nat):Int)) (by omega) (by omega) ?_
       exact⟨x+1,by omega,by omega,zac [(0,0),(1,_)] rfl ⟨cr,rfl,cr,cr,rfl,cr,trivial⟩ ⟨zad l.c,⟨rfl,rfl,rfl,rfl,by rw[hsn,List.flatMap_append,List.flatMap_cons,List.flatMap_nil,List.append_nil,ey,if_neg (by omega)];exact Cvs.appC (zn _) (zn _)⟩,trivial⟩⟩
    ·simp only[zb]at c2
     refine zd rfl (by omega) ?_
     refine zh (λc3=>zq ?_) (λc3=>zt ?_)
     ·simp only[zb]at c3
      refine za rfl rfl ?_
      refine zw rfl (zt ?_)
      refine za rfl rfl ?_
      refine zy ?_
      refine Vapp.mk' (j:=(addN t l a (x+1)).length) (zs:=_) (by show(addN t l a x).length+1<=maxLen;simp only[maxLen];omega) (by show((addN t l a x).length+1)*208<=_;omega) (by rw[hsn];simp) rfl ?_
      refine zd (m:=((x+1:Nat):Int)) (by omega) (by omega) ?_
      exact⟨x+1,by omega,by omega,zac [(0,0),(1,_)] rfl ⟨cr,rfl,cr,cr,rfl,cr,trivial⟩ ⟨zad l.c,⟨rfl,rfl,rfl,rfl,by rw[hsn,List.flatMap_append,List.flatMap_cons,List.flatMap_nil,List.append_nil,zgj c3];exact Cvs.appC (zn _) (zmw l)⟩,trivial⟩⟩
     ·simp only[zb]at c3
      refine zw rfl (zt ?_)
      refine za rfl rfl ?_
      refine zy ?_
      refine Vapp.mk' (j:=(addN t l a (x+1)).length) (zs:=_) (by show(addN t l a x).length+1<=maxLen;simp only[maxLen];omega) (by show((addN t l a x).length+1)*208<=_;omega) (by rw[hsn];simp) rfl ?_
      refine zd (m:=((x+1:Nat):Int)) (by omega) (by omega) ?_
      exact⟨x+1,by omega,by omega,zac [(0,0),(1,_)] rfl ⟨cr,rfl,cr,cr,rfl,cr,trivial⟩ ⟨zad l.c,⟨rfl,rfl,rfl,rfl,by rw[hsn,List.flatMap_append,List.flatMap_cons,List.flatMap_nil,List.append_nil,zii c3 (by omega)];exact Cvs.appC (zn _) (zcC)⟩,trivial⟩⟩
   ·simp only[zb]at c1
    obtain rfl:x=sz:=by omega
    exact⟨_,rfl,cr⟩
 ·simp only[zb]at h2
  rw[if_neg (by omega),if_neg (by omega)]
  have hszb:t.length<=t.length/\t.length<=300000:=by omega
  refine Vloop.mk' (λx:Nat=>⟨[(0, .r (nods t)),(3, .own 0),(7, .r (I a)),(9, .r (I t.length)),(10, .own 1),(11, .r (I x))],[(0,some (.box (l.c.map .r))),(1,some (.ch 60 10 (addN t l a x).length ((addN t l a x).flatMap Node.c) true))],2⟩) (λx=>x<=t.length) (λx=>t.length-x) 0 (by omega)
   ((zcd 10 60 10 rfl).trans (zac [(0,0),(1,1)] rfl ⟨cr,rfl,cr,cr,rfl,cr,trivial⟩ ⟨zad l.c,⟨rfl,rfl,rfl,rfl,zn _⟩,trivial⟩)) ?_
  intro x hx
  have hal:=zih t l a x
  have hsn:=zsn t l a x
  refine zh (λc1=>zq ?_) (λc1=>zt ?_)
  ·simp only[zb]at c1
   refine zh (λc2=>zq ?_) (λc2=>zt ?_)
   ·simp only[zb]at c2
    have hx':x<t.length:=by omega
    refine zm (by omega) (by omega) (zbf rfl hx') ?_
    refine za rfl rfl ?_
    refine zd rfl (by omega) ?_
    refine zh (λc3=>zq ?_) (λc3=>zt ?_)
    ·simp only[zb]at c3
     refine za rfl rfl ?_
     refine zw rfl (zt ?_)
     refine za rfl rfl ?_
     refine zy ?_
     refine Vapp.mk' (j:=(addN t l a (x+1)).length) (zs:=_) (by show(addN t l a x).length+1<=maxLen;simp only[maxLen];omega) (by show((addN t l a x).length+1)*208<=_;omega) (by rw[hsn];simp) rfl ?_
     refine zd (m:=((x+1:Nat):Int)) (by omega) (by omega) ?_
     exact⟨x+1,by omega,by omega,zac [(0,0),(1,_)] rfl ⟨cr,rfl,cr,cr,rfl,cr,trivial⟩ ⟨zad l.c,⟨rfl,rfl,rfl,rfl,by rw[hsn,List.flatMap_append,List.flatMap_cons,List.flatMap_nil,List.append_nil,zgj c3];exact Cvs.appC (zn _) (zmw l)⟩,trivial⟩⟩
    ·simp only[zb]at c3
     have ey:=zjv (l:=l) c3 hx'
     refine zh (λc4=>?_) (λc4=>zt ?_)
     ·simp only[zb]at c4
      refine Vcall.bool (zmm (x:Int) a (by omega)) (λc5=>zq ?_) (λc5=>zt ?_)
      ·refine ze (zzh (nT t x).par.late a (hll x)) ?_
       refine za rfl rfl ?_
       refine zy ?_
       refine Vapp.mk' (j:=(addN t l a (x+1)).length) (zs:=_) (by show(addN t l a x).length+1<=maxLen;simp only[maxLen];omega) (by show((addN t l a x).length+1)*208<=_;omega) (by rw[hsn];simp) rfl ?_
       refine zd (m:=((x+1:Nat):Int)) (by omega) (by omega) ?_
       exact⟨x+1,by omega,by omega,zac [(0,0),(1,_)] rfl ⟨cr,rfl,cr,cr,rfl,cr,trivial⟩ ⟨zad l.c,⟨rfl,rfl,rfl,rfl,by rw[hsn,List.flatMap_append,List.flatMap_cons,List.flatMap_nil,List.append_nil,ey,if_pos ⟨by omega,c5⟩];exact Cvs.appC (zn _) (zn _)⟩,trivial⟩⟩
      ·skip
       refine za rfl rfl ?_
       refine zy ?_
       refine Vapp.mk' (j:=(addN t l a (x+1)).length) (zs:=_) (by show(addN t l a x).length+1<=maxLen;simp only[maxLen];omega) (by show((addN t l a x).length+1)*208<=_;omega) (by rw[hsn];simp) rfl ?_
       refine zd (m:=((x+1:Nat):Int)) (by omega) (by omega) ?_
       exact⟨x+1,by omega,by omega,zac [(0,0),(1,_)] rfl ⟨cr,rfl,cr,cr,rfl,cr,trivial⟩ ⟨zad l.c,⟨rfl,rfl,rfl,rfl,by rw[hsn,List.flatMap_append,List.flatMap_cons,List.flatMap_nil,List.append_nil,ey,if_neg (by rw[c5];simp)];exact Cvs.appC (zn _) (zn _)⟩,trivial⟩⟩
     ·simp only[zb]at c4
      refine za rfl rfl ?_
      refine zy ?_
      refine Vapp.mk' (j:=(addN t l a (x+1)).length) (zs:=_) (by show(addN t l a x).length+1<=maxLen;simp only[maxLen];omega) (by show((addN t l a x).length+1)*208<=_;omega) (by rw[hsn];simp) rfl ?_
      refine zd (m:=((x+1:Nat):Int)) (by omega) (by omega) ?_
      exact⟨x+1,by omega,by omega,zac [(0,0),(1,_)] rfl ⟨cr,rfl,cr,cr,rfl,cr,trivial⟩ ⟨zad l.c,⟨rfl,rfl,rfl,rfl,by rw[hsn,List.flatMap_append,List.flatMap_cons,List.flatMap_nil,List.append_nil,ey,if_neg (by omega)];exact Cvs.appC (zn _) (zn _)⟩,trivial⟩⟩
   ·simp only[zb]at c2
    refine zd rfl (by omega) ?_
    refine zh (λc3=>zq ?_) (λc3=>zt ?_)
    ·simp only[zb]at c3
     refine za rfl rfl ?_
     refine zw rfl (zt ?_)
     refine za rfl rfl ?_
     refine zy ?_
     refine Vapp.mk' (j:=(addN t l a (x+1)).length) (zs:=_) (by show(addN t l a x).length+1<=maxLen;simp only[maxLen];omega) (by show((addN t l a x).length+1)*208<=_;omega) (by rw[hsn];simp) rfl ?_
     refine zd (m:=((x+1:Nat):Int)) (by omega) (by omega) ?_
     exact⟨x+1,by omega,by omega,zac [(0,0),(1,_)] rfl ⟨cr,rfl,cr,cr,rfl,cr,trivial⟩ ⟨zad l.c,⟨rfl,rfl,rfl,rfl,by rw[hsn,List.flatMap_append,List.flatMap_cons,List.flatMap_nil,List.append_nil,zgj c3];exact Cvs.appC (zn _) (zmw l)⟩,trivial⟩⟩
    ·simp only[zb]at c3
     refine zw rfl (zt ?_)
     refine za rfl rfl ?_
     refine zy ?_
     refine Vapp.mk' (j:=(addN t l a (x+1)).length) (zs:=_) (by show(addN t l a x).length+1<=maxLen;simp only[maxLen];omega) (by show((addN t l a x).length+1)*208<=_;omega) (by rw[hsn];simp) rfl ?_
     refine zd (m:=((x+1:Nat):Int)) (by omega) (by omega) ?_
     exact⟨x+1,by omega,by omega,zac [(0,0),(1,_)] rfl ⟨cr,rfl,cr,cr,rfl,cr,trivial⟩ ⟨zad l.c,⟨rfl,rfl,rfl,rfl,by rw[hsn,List.flatMap_append,List.flatMap_cons,List.flatMap_nil,List.append_nil,zii c3 (by omega)];exact Cvs.appC (zn _) (zcC)⟩,trivial⟩⟩
  ·simp only[zb]at c1
   obtain rfl:x=t.length:=by omega
   exact⟨_,rfl,cr⟩
structure Keys (P:Program) (kt:TypeId) {α:Type} (q:α->Value):Prop where
 desc: ∃kd,P.underlying kt=some kd/\∀a b,Instr.sameNow kd (q a) (q b)=some true/\a=b\/Instr.sameNow kd (q a) (q b)=some false/\a≠b
 bits: ∀a,Instr.sameBits 10000 (q a) (q a)=true
 chk: ∀(w:World) (e:Bool) a,(Instr.checkKey e 10000 kt (q a)).run P w= .ok () w
abbrev qI(n:Int):Value:= .int .i64 n
abbrev qS(l:List UInt8):Value:= .string ⟨l.toArray⟩
section
variable {P:Program} {T:TT} {B:Bs} {N:Nat} {S:St} {a:Act} {w:World} {k:Kp} {g:Env} {o:Oper} {Q:Exit->Act->World->Prop}
theorem zul{m:Nat}(n:Int):Instr.sameBits m (.int .i64 n) (.int .i64 n)=true:=by simp[Instr.sameBits]
theorem beqB(x y:List UInt8):((⟨x.toArray⟩:ByteArray)==⟨y.toArray⟩)=decide (x=y):=by
 show((x.toArray:Array UInt8)==y.toArray)=_
 by_cases h:x=y
 ·subst h;simp
 ·simp[h]
theorem zum{m:Nat}(l:List UInt8):Instr.sameBits m (qS l) (qS l)=true:=by simp[Instr.sameBits,beqB]
theorem zyy{kt:TypeId}{v:Value}{b:Bool}{m:Nat}(hk:P.underlying kt=some .string):(Instr.checkKey b (m+1) kt v).run P w= .ok () w:=by
 simp[Instr.checkKey,run_underlying hk w]
theorem zdp{kt:TypeId}(hk:P.underlying kt=some (.int .i64)):Keys P kt qI:=by
 refine⟨⟨_,hk,λx y=>?_⟩,λx=>zul x,λw e x=>zey hk⟩
 simp only[Instr.sameNow,if_true]
 by_cases h:x=y
 ·exact .inl ⟨by simp[h],h⟩
 ·exact .inr ⟨by simp[h],h⟩
theorem zes{kt:TypeId}(hk:P.underlying kt=some .string):Keys P kt qS:=by
 refine⟨⟨_,hk,λx y=>?_⟩,λx=>zum x,λw e x=>zyy (m:=9999) hk⟩
 simp only[Instr.sameNow]
 by_cases h:x=y
 ·exact .inl ⟨by simp[h,beqB],h⟩
 ·exact .inr ⟨by simp[h,beqB],h⟩
section
variable {α:Type} {q:α->Value}
def entsG(q:α->Value)(w:World)(k:Kp):List (α×RV)->List MapEntry->Prop
 |[],es=>es=[]
 |(n,r)::l,es=>∃e t,es=e::t/\e.key=q n/\r.at_ w k e.val/\entsG q w k l t
theorem entsG.mono{w':World}{k':Kp}(h:Le w k w' k'): ∀{l:List (α×RV)} {es:List MapEntry},entsG q w k l es->entsG q w' k' l es
 |[],_,he=>he
 |(n,r)::l,_,⟨e,t,he,h1,h2,h3⟩=>⟨e,t,he,h1,RV.mono h _ _ h2,entsG.mono h h3⟩
theorem entsG.len: ∀{l:List (α×RV)} {es:List MapEntry},entsG q w k l es->es.length=l.length
 |[],_,he=>by simp only[entsG]at he;subst he;rfl
 |(n,r)::l,_,⟨e,t,he,h1,h2,h3⟩=>by subst he;simp[entsG.len h3]
def mapG(q:α->Value)(ents:List (α×RV)):GOw where
 at_ w k vb:=∃b es c,vb=(.map (some b),some b)/\w.heap[b]?=some (.map es c)/\k b=0/\entsG q w k ents es.toList
 mono:=by
  rintro w k w' k' vb h hb ⟨b,es,c,rfl,hh,hk,he⟩
  have:=hb b rfl
  exact⟨b,es,c,rfl,this.1.trans hh,this.2.trans hk,he.mono h⟩
 len:=some ents.length
 lenOk:=by
  rintro w k vb n h ⟨b,es,c,rfl,hh,_,he⟩
  cases h
  exact⟨b,es,c,rfl,hh,by rw[<-Array.length_toList];exact he.len⟩
 one:=by rintro w k vb ⟨b,es,c,rfl,_⟩;rfl
theorem Yld.mapGMk(q:α->Value){t:TypeId}(hop:o.op= .makeMap t none):Yld P S o (S.new o.dst (.own S.nx) (some (.gen (mapG q [])))):=by
 intro B N a w k Q ⟨g,hs⟩ hd
 refine za0 (v:= .map (some w.heap.size)) (w':=w.alloc (.map #[] 0)) (by simp[execOp,hop,Instr.makeMap,newObj];rfl) ⟨kset k w.heap.size 0,_,hs.make hd (zen w _) (λb hb=>zd5 b hb) (vb:=(.map (some w.heap.size),some w.heap.size)) (o:= .gen (mapG q [])) trivial ?_ λb hb=>?_⟩
 ·simp only[Ow.at_]
  exact⟨w.heap.size, #[],0,rfl,heap_alloc_new w _,zbu,rfl⟩
 ·cases hb
  exact⟨Nat.le_refl _,by simp⟩
theorem Vstep.mapGMk(q:α->Value){t:TypeId}{K:St->Prop}(hop:o.op= .makeMap t none)(hK:newK S o.dst (.own S.nx) (some (.gen (mapG q []))) K):Vstep P S o K:=by
 rw[zat]at hK
 exact Vstep.one (Yld.mapGMk q hop) hK
end
variable {α:Type} [DecidableEq α] {q:α->Value}
def aget:List (α×RV)->α->Option RV
 |[],_=>none
 |(m,r)::l,n=>if m=n then some r else aget l n
def aput:List (α×RV)->α->RV->List (α×RV)
 |[],n,r=>[(n,r)]
 |(m,s)::l,n,r=>if m=n then(m,r)::l else(m,s)::aput l n r
theorem z0u{kt:TypeId}(hK:Keys P kt q){kd:TypeDesc}(hd: ∀a b,Instr.sameNow kd (q a) (q b)=some true/\a=b\/Instr.sameNow kd (q a) (q b)=some false/\a≠b){n:α}{r:RV}{u:Value}(hr:r.at_ w k u):
  ∀{ents:List (α×RV)} {es:List MapEntry} (i:Nat),entsG q w k ents es->
  (aget ents n=none/\Instr.findNow kd (q n) es i=some none/\∀c:Nat,entsG q w k (aput ents n r) (es++[{key:=q n,val:=u,born:=c}]))\/
  (∃s j v,aget ents n=some s/\Instr.findNow kd (q n) es i=some (some (i+j,v))/\s.at_ w k v/\(es[j]?.map (·.key))=some (q n)/\entsG q w k (aput ents n r) (es.modify j λe=>{e with key:=q n,val:=u}))
 |[],es,i,he=>by
  simp only[entsG]at he
  subst he
  exact .inl ⟨rfl,rfl,λc=>⟨_,[],rfl,rfl,hr,rfl⟩⟩
 |(m,s)::l,es,i,he=>by
  obtain⟨e,t,rfl,h1,h2,h3⟩:=he
  rcases hd n m with⟨hs,rfl⟩ |⟨hs,hne⟩
  ·refine .inr ⟨s,0,e.val,by simp[aget],by simp[Instr.findNow,h1,hs],h2,by simp[h1],?_⟩
   simp only[aput,if_true,List.modify_zero_cons]
   exact⟨_,t,rfl,rfl,hr,h3⟩
  ·have hne': ¬m=n:=λe=>hne e.symm
   simp only[aget,aput,if_neg hne',Instr.findNow,h1,hs]
   rcases z0u hK hd hr (i+1) h3 with⟨g1,g2,g3⟩ |⟨s',j,v,g1,g2,g3,g4,g5⟩
   ·exact .inl ⟨g1,g2,λc=>⟨e,_,rfl,h1,h2,g3 c⟩⟩
   ·refine .inr ⟨s',j+1,v,g1,by rw[g2,Nat.add_right_comm,Nat.add_assoc],g3,by simpa using g4,?_⟩
    rw[List.modify_succ_cons]
    exact⟨e,_,rfl,h1,h2,g5⟩
theorem Vstep.lookG{t kt et:TypeId}{x y:Operand}{id:Nat}{n:α}{ents:List (α×RV)}{z:Value}{f:TF}{K:St->Prop}(zr:RV)(hop:o.op= .lookup t x y false)(hx:opr S x=some (.own id))(ho:oget S.O id=some (.gen (mapG q ents)))(hy:opr S y=some f)(hf:S.rv f=some (ofC (q n)))(hq: ∀w k v,(ofC (q n)).at_ w k v->v=q n)
  (hu:P.underlying t=some (.map kt et)) (hk:Keys P kt q) (hz:(P.info? et).bind (·.zero)=some z) (hzr: ∀w k,zr.at_ w k z)
  (hK:newK S o.dst (.r ((aget ents n).getD zr)) none K):Vstep P S o K:=by
 rw[zat]at hK
 refine Vstep.one (λB N a w k Q ⟨g,hs⟩ hd=>?_) hK
 have hv:=(zag hs hx).2
 have hn:=hq _ _ _ (zdm hs hf (zag hs hy).2)
 simp only[TF.at_]at hv
 obtain⟨_,_,hat,_⟩:=hs.owns id _ ho
 simp only[Ow.at_]at hat
 obtain⟨b,es,c,e,hh,hkb,he⟩:=hat
 rw[e]at hv
 obtain⟨i,hi,hz⟩:=Option.bind_eq_some_iff.1 hz
 have zv:(zeroValue et).run P w= .ok z w:=by simp[zeroValue,typeInfo,hi,hz]
 obtain⟨kd,hkd,hd'⟩:=hk.desc
 rcases z0u hk hd' (n:=n) (hzr w k) 0 he with⟨g1,g2,_⟩ |⟨s,j,v,g1,g2,g3,_,_⟩
 ·have hfk:(Instr.findKey kt (q n) es.toList).run P w= .ok none w:=by simp[Instr.findKey,run_underlying hkd w,g2]
  have hrun:(Instr.lookup t (.map (some b)) (q n) false).run P w= .ok z w:=by
   simp[Instr.lookup,run_underlying hu w,hk.chk,hfk,zv,hh,getObj,Sem.run]
  exact za0 (v:=z) (w':=w) (by simp[execOp,hop,hv,hn,hrun]) ⟨k,g,hs.put hd trivial (by rw[g1];exact hzr w k)⟩
 ·have hfk:(Instr.findKey kt (q n) es.toList).run P w= .ok (some (0+j,v)) w:=by simp[Instr.findKey,run_underlying hkd w,g2]
  have hrun:(Instr.lookup t (.map (some b)) (q n) false).run P w= .ok v w:=by
   simp[Instr.lookup,run_underlying hu w,hk.chk,hfk,hh,getObj,Sem.run]
  exact za0 (v:=v) (w':=w) (by simp[execOp,hop,hv,hn,hrun]) ⟨k,g,hs.put hd trivial (by rw[g1];exact g3)⟩
theorem Vstep.putG{t kt et:TypeId}{x y z:Operand}{id:Nat}{n:α}{ents:List (α×RV)}{f fy:TF}{r:RV}{K:St->Prop}(hop:o.op= .mapUpdate t x y z)(hx:opr S x=some (.own id))(ho:oget S.O id=some (.gen (mapG q ents)))(hy:opr S y=some fy)(hf:S.rv fy=some (ofC (q n)))(hq: ∀w k v,(ofC (q n)).at_ w k v->v=q n)(hz:opr S z=some f)(hr:S.rv f=some r)
  (hu:P.underlying t=some (.map kt et)) (hk:Keys P kt q) (hK:setK S id (some (.gen (mapG q (aput ents n r)))) o.dst K):Vstep P S o K:=by
 rw[zct]at hK
 refine Vstep.one (λB N a w k Q ⟨g,hs⟩ hd=>?_) hK
 have hv:=(zag hs hx).2
 have hn:=hq _ _ _ (zdm hs hf (zag hs hy).2)
 have hzv:=zdm hs hr (zag hs hz).2
 simp only[TF.at_]at hv
 obtain⟨_,_,hat,_⟩:=hs.owns id _ ho
 simp only[Ow.at_]at hat
 obtain⟨b,es,c,e,hh,hkb,he⟩:=hat
 rw[e]at hv
 have hb:b<w.heap.size:=(Array.getElem?_eq_some_iff.1 hh).1
 obtain⟨kd,hkd,hd'⟩:=hk.desc
 have fin: ∀(es':Array MapEntry) (c':Nat),entsG q w k (aput ents n r) es'.toList->(Instr.mapUpdate t (.map (some b)) (q n) (a.eval z)).run P w= .ok () {w with heap:=w.heap.setIfInBounds b (.map es' c')}->o.wp P a w (λa' w'=>∃k',Sat B N ((S.set id (some (.gen (mapG q (aput ents n r))))).put o.dst (.r .any)) a' w' k') Q:=λes' c' hen hrun=>by
  let w':World:={w with heap:=w.heap.setIfInBounds b (.map es' c')}
  have hw:Wrote w k w' k (some b):=⟨rfl,rfl,rfl,by simp[w'],λx _ hne=>⟨by simp only[w'];rw[Array.getElem?_setIfInBounds_ne (λh=>hne (by rw[h]))],rfl⟩,λx hx=>by
   cases hx
   exact⟨Nat.le_refl _,λo ho=>by omega,λh=>by omega⟩⟩
  have hnew:(Ow.gen (mapG q (aput ents n r))).at_ w' k g (g id):=by
   simp only[Ow.at_]
   exact⟨b,es',c',e,by simp only[w'];rw[Array.getElem?_setIfInBounds_self_of_lt hb],hkb,hen.mono hw.le⟩
  exact zpy (w':=w') (by simp[execOp,hop,hv,hn,hrun,w']) ⟨k,g,(hs.redo (ow':= .gen (mapG q (aput ents n r))) ho (by rw[e]) hw trivial hnew).drop⟩
 rcases z0u hk hd' (n:=n) hzv 0 he with⟨g1,g2,g3⟩ |⟨s,j,v,g1,g2,_,g4,g5⟩
 ·have hfk:(Instr.findKey kt (q n) es.toList).run P w= .ok none w:=by simp[Instr.findKey,run_underlying hkd w,g2]
  refine fin (es.push {key:=q n,val:=a.eval z,born:=c}) (c+1) (by rw[Array.toList_push];exact g3 c) ?_
  simp[Instr.mapUpdate,run_underlying hu w,hk.chk,hfk,hh,getObj,setObj,Sem.run]
 ·have hfk:(Instr.findKey kt (q n) es.toList).run P w= .ok (some (0+j,v)) w:=by simp[Instr.findKey,run_underlying hkd w,g2]
  refine fin (es.modify j λe=>{e with key:=q n,val:=a.eval z}) c (by rw[Array.toList_modify];exact g5) ?_
  have hkey:((es[j]?).map (·.key))=some (q n):=by rw[<-Array.getElem?_toList];exact g4
  have hst:(Instr.keyThatStays (q n) (q n)).run P w= .ok (q n) w:=by simp[Instr.keyThatStays,hk.bits]
  simp[Instr.mapUpdate,run_underlying hu w,hk.chk,hfk,hh,getObj,setObj,Sem.run,hkey,hst]
end
theorem zox{S:St}{t im gh:Nat}{m:Value}{ents:List (Int×RV)}(ho:oget S.O im=some (.gen (mapO ents)))(hgh:fget S.F gh=some (.nm im m))(ht:fget S.F t=some (.r (.x m))):Sub S ⟨(t, .r (.s (mapS ents)))::S.F,(im,none)::S.O,S.nx⟩:=by
 rintro B N a w k ⟨g0,h0⟩
 have hv:=(h0.facts t _ ht).2
 simp only[TF.at_,RV.at_]at hv
 obtain⟨k',⟨g,hs⟩,hat,_⟩:=zy3 ho hgh ⟨g0,h0⟩
 refine⟨k',g,hs.size,hs.defers,hs.keep,hs.kk,λt' f hf=>?_,hs.owns,hs.apart⟩
 rcases za5 hf with⟨rfl,rfl⟩ |⟨_,hf⟩
 ·exact⟨trivial,by simp only[TF.at_,RV.at_];rw[hv];exact hat⟩
 ·exact hs.facts t' f hf
theorem zhf{S:St}{j i id gh:Nat}{m:Value}{ow:Ow}{cells:List TF}(ho:oget S.O id=some ow)(hgh:fget S.F gh=some (.nm id m))(hj:oget S.O j=some (.box cells))(hi:cells[i]?=some (.r (.x m))):Sub S ⟨S.F,(j,some (.box (cells.set i (.own id))))::S.O,S.nx⟩:=by
 rintro B N a w k ⟨g,hs⟩
 have hnm:=(hs.facts gh _ hgh).2
 simp only[TF.at_]at hnm
 obtain⟨q1,q2,q3,q4⟩:=hs.owns j _ hj
 have hlo:=(hs.owns id _ ho).1
 have hnew:(Ow.box (cells.set i (.own id))).at_ w k g (g j):=by
  simp only[Ow.at_]at q3⊢
  obtain⟨b,cur,t,e1,e2,e3,e4,e5⟩:=q3
  refine⟨b,cur,t,e1,e2,e3,by rw[List.length_set];exact e4,λx f u hf hu=>?_⟩
  by_cases hx:i=x
  ·subst hx
   have hil:=(List.getElem?_eq_some_iff.1 hi).1
   rw[List.getElem?_set_self hil]at hf
   cases hf
   have h0:=e5 i _ u hi hu
   refine⟨h0.1,?_⟩
   have h1:=h0.2
   simp only[TF.at_,RV.at_]at h1⊢
   rw[h1,hnm]
  ·rw[List.getElem?_set_ne hx]at hf
   exact e5 x f u hf hu
 have hlt:(Ow.box (cells.set i (.own id))).lt S.nx:=λf hf=>by
  rcases List.mem_or_eq_of_mem_set hf with hf |rfl
  ·exact q2 f hf
  ·exact hlo
 have up: ∀x o',oget ((j,some (Ow.box (cells.set i (.own id))))::S.O) x=some o'->(x=j/\o'= .box (cells.set i (.own id)))\/(j≠x/\oget S.O x=some o'):=λx o' h=>by
  rcases zal h with⟨rfl,e⟩ |⟨hne,h⟩
  ·cases e;exact .inl ⟨rfl,rfl⟩
  ·exact .inr ⟨hne,h⟩
 have old: ∀x ox,oget ((j,some (Ow.box (cells.set i (.own id))))::S.O) x=some ox->∃ox',oget S.O x=some ox':=λx ox hx=>by
  rcases up x ox hx with⟨rfl,_⟩ |⟨_,hx⟩
  ·exact⟨_,hj⟩
  ·exact⟨ox,hx⟩
 refine⟨k,g,hs.size,hs.defers,hs.keep,hs.kk,hs.facts,λx o' hx=>?_,λx y o1 o2 b' hx hy hne hbx=>?_⟩
 ·rcases up x o' hx with⟨rfl,rfl⟩ |⟨_,hx⟩
  ·exact⟨q1,hlt,hnew,q4⟩
  ·exact hs.owns x o' hx
 ·obtain⟨p1,hp1⟩:=old x o1 hx
  obtain⟨p2,hp2⟩:=old y o2 hy
  exact hs.apart x y p1 p2 b' hp1 hp2 hne hbx
theorem Vstep.mapGMkN{P:Program}{S:St}{o:Oper}{α:Type}(q:α->Value){t:TypeId}{K:St->Prop}(gh:Nat)(hop:o.op= .makeMap t none)(hK: ∀b:Nat,newK ⟨(gh, .nm S.nx (.map (some b)))::S.F,(S.nx,some (.gen (mapG q [])))::S.O,S.nx+1⟩ o.dst (.r (.x (.map (some b)))) none K):Vstep P S o K:=by
 simp only[zat]at hK
 refine⟨Nat,_,λB N a w k Q hs0 hd=>Oper.wp_mono ?_ (show o.wp P a w (λa' w'=>∃b k',Sat B N (St.put ⟨(gh, .nm S.nx (.map (some b)))::S.F,(S.nx,some (.gen (mapG q [])))::S.O,S.nx+1⟩ o.dst (.r (.x (.map (some b))))) a' w' k') Q from ?_),hK⟩
 ·rintro a' w' ⟨b,k',h⟩;exact⟨b,k',h⟩
 obtain⟨g,hs⟩:=hs0
 refine za0 (v:= .map (some w.heap.size)) (w':=w.alloc (.map #[] 0)) (by simp[execOp,hop,Instr.makeMap,newObj];rfl) ⟨w.heap.size,kset k w.heap.size 0,?_⟩
 have hat:Ow.at_ (w.alloc (.map #[] 0)) (kset k w.heap.size 0) g (.map (some w.heap.size),some w.heap.size) (.gen (mapG q [])):=by
  simp only[Ow.at_]
  exact⟨w.heap.size, #[],0,rfl,heap_alloc_new w _,zbu,rfl⟩
 have h:=hs.make (dst:=none) (λd e=>by cases e) (zen w (.map #[] 0)) (λb hb=>zd5 b hb) (vb:=(.map (some w.heap.size),some w.heap.size)) (o:= .gen (mapG q [])) trivial hat (λb hb=>by
  cases hb
  exact⟨Nat.le_refl _,by simp⟩)
 have h2:SatE B N ⟨(gh, .nm S.nx (.map (some w.heap.size)))::S.F,(S.nx,some (.gen (mapG q [])))::S.O,S.nx+1⟩ a (w.alloc (.map #[] 0)) (kset k w.heap.size 0) (g.set S.nx (.map (some w.heap.size),some w.heap.size)):=by
  refine⟨h.size,h.defers,h.keep,h.kk,λt' f hf=>?_,h.owns,h.apart⟩
  rcases za5 hf with⟨rfl,rfl⟩ |⟨_,hf⟩
  ·exact⟨Nat.lt_succ_self _,by simp only[TF.at_,Env.set_eq]⟩
  ·exact h.facts t' f hf
 exact⟨_,h2.put hd trivial (by simp only[TF.at_,RV.at_])⟩
def memA(t:List Node)(n:Nat):List Int:=((List.range n).filter λi=>decide ((nT t i).kind.toNat=1)).map λi:Nat=>((i/2:Nat):Int)
theorem zhn(t:List Node)(n:Nat):memA t (n+1)=if(nT t n).kind.toNat=1 then memA t n++[((n/2:Nat):Int)]else memA t n:=by
 unfold memA
 rw[List.range_succ,List.filter_append]
 by_cases h:(nT t n).kind.toNat=1
 ·simp[h]
 ·simp[h]
theorem z77(t:List Node)(n:Nat):(memA t n).length<=n:=by
 unfold memA
 rw[List.length_map]
 exact Nat.le_trans (List.length_filter_le _ _) (by simp)
theorem zn4{t:List Node}(hok: ∀i,i<t.length->okT t i): ∀n,2*n-1<=t.length->memA t (2*n-1)=zbi t n
 |0,_=>rfl
 |1,h=>by
  rw[show 2*1-1=0+1 by omega,zhn,zf8 t 0]
  rfl
 |n+2,h=>by
  have hodd: ¬(nT t (2*n+1)).kind.toNat=1:=λe=>(hok (2*n+1) (by omega)).2.2 ⟨by omega,e⟩
  rw[show 2*(n+2)-1=2*n+1+1+1 by omega,zhn,zhn t (2*n+1),if_neg hodd,zf8 t (n+1),<-zn4 hok (n+1) (by omega),show 2*n+1+1=2*(n+1)by omega,show 2*(n+1)/2=n+1 by omega,show 2*n+1=2*(n+1)-1 by omega]
theorem z9i(t:List Node)(ht:t.length<=1000000):aG 72 [nods t] (.r (is (memA t t.length))):=by
 refine aT Tryz.func72 rfl ?_
 refine Vloop.mk' (λj:Nat=>⟨[(3, .own 0),(6, .r (nods t)),(7, .r (I t.length)),(8, .r (I j))],[(0,some (.ch 3 1 (memA t j).length ((memA t j).map I) true))],1⟩) (λj=>j<=t.length) (λj=>t.length-j) 0 (by omega)
  ((zcd 3 3 1 rfl).trans (zac [(0,0)] rfl ⟨rfl,cr,cr,cr,trivial⟩ ⟨⟨rfl,rfl,rfl,rfl,zn _⟩,trivial⟩)) ?_
 intro j hj
 have hml:=z77 t j
 refine zh (λh=>zq ?_) (λh=>zt ?_)
 ·simp only[zb]at h
  have hj':j<t.length:=by omega
  refine zm (by omega) (by omega) (zbf rfl hj') ?_
  refine za rfl rfl ?_
  refine zh (λh2=>zq ?_) (λh2=>zt ?_)
  ·simp only[zb]at h2
   have e:memA t (j+1)=memA t j++[((j/2:Nat):Int)]:=by rw[zhn,if_pos (by omega)]
   refine⟨by decide,((j/2:Nat):Int),by rw[Int.tdiv_eq_ediv_of_nonneg (by omega)];exact wrap_i64 (by omega),?_⟩
   refine zy ?_
   refine Vapp.mk' (j:=(memA t (j+1)).length) (zs:=(memA t (j+1)).map I) (by show(memA t j).length+1<=maxLen;simp only[maxLen];omega) (by show((memA t j).length+1)*8<=_;omega) (by rw[e];simp) (by rw[e];simp[zbx,cellsOf]) ?_
   refine zd (m:=((j+1:Nat):Int)) (by omega) (by omega) ?_
   exact⟨j+1,by omega,by omega,zac [(0,_)] rfl ⟨rfl,cr,cr,cr,trivial⟩ ⟨zf2 rfl,trivial⟩⟩
  ·simp only[zb]at h2
   have e:memA t (j+1)=memA t j:=by rw[zhn,if_neg (by omega)]
   refine zd (m:=((j+1:Nat):Int)) (by omega) (by omega) ?_
   exact⟨j+1,by omega,by omega,zac [(0,0)] rfl ⟨rfl,cr,cr,cr,trivial⟩ ⟨zf2 e.symm,trivial⟩⟩
 ·simp only[zb]at h
  obtain rfl:j=t.length:=by omega
  exact cr
theorem z3t(t:List Node)(ht:t.length<=1000000)(hfit: ∀x∈t,x.fit)(hr:rightT t=true):aG 37 [nods t] (.r (is (zaf t))):=by
 have g:=zir t ht hfit
 rw[hr]at g
 have r:=zbr.1 hr
 have hl:=zbg r.n
 refine aT Tryz.func37 rfl ?_
 refine ze g ?_
 refine zw rfl (zt ?_)
 refine ze (z9i t ht) ?_
 have hb:=zcc hl.2.1
 have e:memA t t.length=zaf t:=by
  have:=zn4 r.ok ((t.length+1)/2) (by omega)
  rw[show 2*((t.length+1)/2)-1=t.length by omega]at this
  exact this
 rw[e]
 exact cr
abbrev nodC(l:List RV)(n:Nat):Ow:= .ch 60 10 n l false
theorem zzk(t:List Node)(ht:t.length<=1000000)(hfit: ∀x∈t,x.fit):aG 17 [nods t] (.own 60 10 t.length (t.flatMap Node.c)):=by
 refine aT Tryz.func17 rfl ?_
 refine Vloop.mk' (λj:Nat=>⟨[(3, .own 0),(6, .r (nods t)),(7, .r (I t.length)),(8, .r (I j))],[(0,some (nodC ((t.take j).flatMap Node.c) (t.take j).length))],1⟩) (λj=>j<=t.length) (λj=>t.length-j) 0 (by omega)
  ((zgg 3 60 10 rfl).trans (zac [(0,0)] rfl ⟨rfl,cr,cr,cr,trivial⟩ ⟨⟨rfl,rfl,rfl,rfl,zn _⟩,trivial⟩)) ?_
 intro j hj
 refine zh (λh=>zq ?_) (λh=>zt ?_)
 ·simp only[zb]at h
  have hj':j<t.length:=by omega
  have hx:=hfit _ (zf9 hj')
  have hlt:(t.take j).length=j:=by rw[List.length_take];omega
  have e:t.take (j+1)=t.take j++[nT t j]:=by rw[List.take_succ_eq_append_getElem hj',ze5 hj']
  refine zm (by omega) (by omega) (zbf rfl hj') ?_
  refine za rfl rfl ?_
  refine za rfl rfl ?_
  refine ze (znw (nT t j) hx (zcx _ hx.1)) ?_
  refine zy ?_
  refine Vapp.mk' (j:=(t.take (j+1)).length) (zs:=(t.take (j+1)).flatMap Node.c) (by show(t.take j).length+1<=maxLen;simp only[maxLen];omega) (by show((t.take j).length+1)*208<=_;omega) (by rw[e];simp) (by rw[e,List.flatMap_append];simp) ?_
  refine zd (m:=((j+1:Nat):Int)) (by omega) (by omega) ?_
  exact⟨j+1,by omega,by omega,zac [(0,_)] rfl ⟨rfl,cr,cr,cr,trivial⟩ ⟨⟨rfl,rfl,rfl,rfl,zn _⟩,trivial⟩⟩
 ·simp only[zb]at h
  obtain rfl:j=t.length:=by omega
  rw[List.take_length]
  exact rfl
theorem z82:Tryz.prog.underlying 62=some (.map 3 31):=by kernel_rfl
def memE(t:List Node)(l:List Int):List (Int×RV):=l.map λo=>(o, .ag (nT t (2*o).toNat).leaf.c)
theorem zm2(t:List Node):(zaf t).Pairwise (· < ·):=by
 unfold zaf zbi
 rw[List.pairwise_map]
 exact(List.pairwise_lt_range.filter _).imp λh=>by omega
theorem z1g(t:List Node)(ht:t.length<=1000000)(hfit: ∀x∈t,x.fit)(hr:rightT t=true):aG 15 [nods t] (.r (.s (mapS (memE t (zaf t))))):=by
 refine za1 (T:=Tab) mixed Tab_ok Tryz.func15 rfl (by kernel_rfl) ?_
 refine Vcode.run Tab_ok ?_
 refine Vstep.mapMk 1000001 rfl λb=>?_
 refine ze (z3t t ht hfit hr) ?_
 have hm:=λo (h:o∈zaf t)=>za8 h
 have hp:=zm2 t
 have hml:(zaf t).length<=(t.length+1)/2:=zet t _
 generalize zaf t=m at*
 refine Vloop.mk' (λj:Nat=>⟨[(0, .r (nods t)),(3, .r (.x (.map (some b)))),(8, .r (is m)),(9, .r (I m.length)),(10, .r (I j)),(1000001, .nm 0 (.map (some b)))],[(0,some (.gen (mapO (memE t (m.take j)))))],1⟩) (λj=>j<=m.length) (λj=>m.length-j) 0 (by omega)
  (zac [(0,0)] rfl ⟨cr,cr,cr,cr,cr,⟨rfl,rfl⟩,trivial⟩ ⟨λ_ _ _ hh=>hh,trivial⟩) ?_
 intro j hj
 refine zh (λh=>zq ?_) (λh=>zt ?_)
 ·simp only[zb]at h
  have hj':j<m.length:=by omega
  obtain⟨o,ho,ho2,_⟩:=hm _ (List.getElem_mem hj')
  refine zm (by omega) (by omega) (zan rfl hj') (zg rfl ?_)
  refine zd rfl (by omega) ?_
  refine zm (by omega) (by omega) (zbf (j:=2*o) (by omega) (by omega)) ?_
  refine za rfl rfl ?_
  refine Vstep.mapPut 0 1000001 rfl rfl rfl rfl rfl rfl rfl z82 zdv (zq1 ?_) ?_
  ·intro x hx e
   obtain⟨y,hy,rfl⟩:=List.mem_map.1 hx
   have:=List.pairwise_append.1 ((List.take_append_drop j m).symm▸hp)
   have h5:=this.2.2 y hy m[j] (by rw[List.drop_eq_getElem_cons hj'];exact List.mem_cons_self)
   have h6:y=m[j]:=e
   omega
  refine zd (m:=((j+1:Nat):Int)) (by omega) (by omega) ?_
  have e:memE t (m.take (j+1))=memE t (m.take j)++[(m[j], .ag (nT t (2*o)).leaf.c)]:=by
   unfold memE
   rw[List.take_succ_eq_append_getElem hj',List.map_append,List.map_cons,List.map_nil,show(2*m[j]).toNat=2*o by omega]
  exact⟨j+1,by omega,by omega,zac [(0,0)] rfl ⟨cr,cr,cr,cr,cr,⟨rfl,rfl⟩,trivial⟩ ⟨λ_ _ _ hh=>by rw[e];exact hh,trivial⟩⟩
 ·simp only[zb]at h
  obtain rfl:j=m.length:=by omega
  rw[List.take_length]
  exact⟨_,zox (t:=2) (im:=0) (gh:=1000001) rfl rfl rfl,cr⟩
theorem zba{t:List Node}{i:Int}:i∈zaf t↔∃o:Nat,i=(o:Int)/\o< (t.length+1)/2/\(nT t (2*o)).kind.toNat=1:=by
 refine⟨za8,?_⟩
 rintro⟨o,rfl,h1,h2⟩
 simp only[zaf,zbi,List.mem_map,List.mem_filter,List.mem_range,decide_eq_true_eq]
 exact⟨o,⟨h1,h2⟩,rfl⟩
theorem ztf(t:List Node)(i:Int)(ht:t.length<=1000000)(hn:zae t≠0):aG 86 [nods t,I i] (.r (.b (decide (i∈zaf t)))):=by
 obtain⟨hl1,hl2,hl3⟩:=zbg hn
 have hb:=zcc hl2
 have no: ¬i∈zaf t->Cv (.b false) (.b (decide (i∈zaf t))):=λh=>zf (congrArg RV.b (decide_eq_false h).symm)
 refine aT Tryz.func86 rfl ?_
 refine zh (λh=>?_) (λh=>no λk=>?_)
 rotate_left
 ·simp only[zb]at h
  obtain⟨o,rfl,_⟩:=zba.1 k
  omega
 simp only[zb]at h
 refine ze (zeq t ht) ?_
 refine zh (λh2=>?_) (λh2=>no λk=>?_)
 rotate_left
 ·simp only[zb]at h2
  obtain⟨o,rfl,h3,_⟩:=zba.1 k
  omega
 simp only[zb]at h2
 obtain⟨o,rfl⟩: ∃o:Nat,i=(o:Int):=⟨i.toNat,by omega⟩
 refine zd rfl (by omega) ?_
 refine zm (by omega) (by omega) (zbf (j:=2*o) (by omega) (by omega)) (zg rfl ?_)
 refine zh (λh3=>?_) (λh3=>no λk=>?_)
 ·simp only[zb]at h3
  exact zf (congrArg RV.b (decide_eq_true (zba.2 ⟨o,rfl,by omega,by omega⟩)).symm)
 ·simp only[zb]at h3
  obtain⟨o',e,_,h4⟩:=zba.1 k
  obtain rfl:o'=o:=by omega
  omega
theorem zk0{t:List Node}{j:Nat}(new:List RV)(hn:new.length=10):zbx (t.flatMap Node.c) (j*10) new=(t.take j).flatMap Node.c++new++(t.drop (j+1)).flatMap Node.c:=by
 unfold zbx
 rw[zji (f:=Node.c) (sz:=10) (λ_=>rfl),hn,show j*10+10=(j+1)*10 by omega,znu (f:=Node.c) (sz:=10) (λ_=>rfl)]
theorem zng{t:List Node}{j:Nat}{x:Node}(hj:j<t.length):(t.set j x).flatMap Node.c=(t.take j).flatMap Node.c++x.c++(t.drop (j+1)).flatMap Node.c:=by
 rw[List.set_eq_take_append_cons_drop,if_pos hj,List.flatMap_append,List.flatMap_cons,List.append_assoc]
def setZ(t:List Node)(p:List Int):List Node:=p.foldl (λt x=>t.set x.toNat Node.zero) t
theorem zi0: ∀(p:List Int) (t:List Node),(setZ t p).length=t.length
 |[],t=>rfl
 |x::p,t=>by
  show(setZ (t.set x.toNat Node.zero) p).length=_
  rw[zi0 p,List.length_set]
def zcv(t:List Node)(i:Int):List Node:=setZ t (zb4 (2*i) (zae t))
theorem ztc(t:List Node)(i:Int)(ht:t.length<=1000000)(hfit: ∀x∈t,x.fit)(hn:zae t≠0)(hi:0<=i/\i<=1000000):aG 87 [nods t,I i] (.own 60 10 t.length ((zcv t i).flatMap Node.c)):=by
 obtain⟨hl1,hl2,hl3⟩:=zbg hn
 have hb:=zcc hl2
 refine aT Tryz.func87 rfl ?_
 refine ze (zzk t ht hfit) ?_
 refine zd rfl (by omega) ?_
 refine ze (zeq t ht) ?_
 refine ze (zvq _ _) ?_
 have hp: ∀y∈zb4 (2*i) (zae t),0<=y/\y.toNat<t.length:=λy hy=>by
  obtain⟨h1,h2,h3⟩:=z8i hy
  have:=zwy h1
  omega
 unfold zcv
 have hpl:=ztv (2*i) (zae t)
 generalize zb4 (2*i) (zae t)=p at*
 refine Vloop.mk' (λj:Nat=>⟨[(5, .own 0),(14, .r (is p)),(15, .r (I p.length)),(16, .r (I j))],[(0,some (nodC ((setZ t (p.take j)).flatMap Node.c) t.length))],1⟩) (λj=>j<=p.length) (λj=>p.length-j) 0 (by omega)
  (zac [(0,0)] rfl ⟨rfl,cr,cr,cr,trivial⟩ ⟨⟨rfl,rfl,rfl,rfl,zn _⟩,trivial⟩) ?_
 intro j hj
 have hzl:=zi0 (p.take j) t
 refine zh (λh=>zq ?_) (λh=>zt ?_)
 ·simp only[zb]at h
  have hj':j<p.length:=by omega
  obtain⟨h1,h2⟩:=hp _ (List.getElem_mem hj')
  have e:setZ t (p.take (j+1))=(setZ t (p.take j)).set p[j].toNat Node.zero:=by
   rw[List.take_succ_eq_append_getElem hj',setZ,List.foldl_append];rfl
  refine zm (by omega) (by omega) (zan rfl hj') (zg rfl ?_)
  refine Vadr.mk' p[j].toNat (by omega) (by omega) ?_
  refine⟨by rw[zh6 (f:=Node.c) (sz:=10) (λ_=>rfl)];show p[j].toNat*10+10<=_;omega,((setZ t (p.take j)).take p[j].toNat).flatMap Node.c++zc++((setZ t (p.take j)).drop (p[j].toNat+1)).flatMap Node.c,zk0 zc rfl,?_⟩
  refine zd (m:=((j+1:Nat):Int)) (by omega) (by omega) ?_
  exact⟨j+1,by omega,by omega,zac [(0,0)] rfl ⟨rfl,cr,cr,cr,trivial⟩ ⟨⟨rfl,rfl,rfl,rfl,by rw[e,zng (by omega)];exact Cvs.appC (Cvs.appC (zn _) zcC) (zn _)⟩,trivial⟩⟩
 ·simp only[zb]at h
  obtain rfl:j=p.length:=by omega
  rw[List.take_length]
  exact rfl
end Go.Proofs.YtpcfoglfakeimaaGreat.Sx
