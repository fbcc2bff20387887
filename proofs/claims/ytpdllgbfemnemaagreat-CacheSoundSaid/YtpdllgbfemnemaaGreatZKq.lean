import Derived.Test.YtpdllgbfemnemaaGreatZKo
namespace Go.Proofs.YtpdllgbfemnemaaGreat.Sx
open Go.RowKit
section
def zfz(i:Int)(n:Node):List UInt8:=if i<0\/65536<=i then[]else if n.right=false\/n.kind.toNat=2 then[]else zmm i n
def z9g(i:Int)(n:Node):Int:=if i<0\/65536<=i then 1 else if n.right=false\/n.kind.toNat=2 then 3 else 0
def zf2(n:Node)(l r:List UInt8):List UInt8:=if n.right=false\/n.kind.toNat=1 then[]else if l.length≠32\/r.length≠32 then[]else ziw n l r
def z94(n:Node)(l r:List UInt8):Int:=if n.right=false\/n.kind.toNat=1 then 3 else if l.length≠32\/r.length≠32 then 1 else 0
theorem zrr(i:Int)(n:Node)(hn:n.fit):zaf Tryz.prog 88 [I i, .ag n.c] (.r (.tu [bs (zfz i n), .i .u8 (z9g i n)])):=by
 have:=z6h i n hn
 unfold zfz z9g
 by_cases h1:i<0\/65536<=i
 ·rw[if_pos h1]at this;rw[if_pos h1,if_pos h1];exact this
 ·rw[if_neg h1]at this;rw[if_neg h1,if_neg h1]
  by_cases h2:n.right=false\/n.kind.toNat=2
  ·rw[if_pos h2]at this;rw[if_pos h2,if_pos h2];exact this
  ·rw[if_neg h2]at this;rw[if_neg h2,if_neg h2];exact this
theorem zu5(n:Node)(l r:List UInt8)(hn:n.fit):zaf Tryz.prog 89 [.ag n.c,bs l,bs r] (.r (.tu [bs (zf2 n l r), .i .u8 (z94 n l r)])):=by
 have:=z72 n l r hn
 unfold zf2 z94
 by_cases h1:n.right=false\/n.kind.toNat=1
 ·rw[if_pos h1]at this;rw[if_pos h1,if_pos h1];exact this
 ·rw[if_neg h1]at this;rw[if_neg h1,if_neg h1]
  by_cases h2:l.length≠32\/r.length≠32
  ·rw[if_pos h2]at this;rw[if_pos h2,if_pos h2];exact this
  ·rw[if_neg h2]at this;rw[if_neg h2,if_neg h2];exact this
theorem zxj(i:Int)(n:Node)(hn:n.fit):(zfz i n).length<=50000000000:=by
 have:=zds n hn
 unfold zfz zmm
 split
 ·simp
 ·split
  ·simp
  ·simp[zaw];omega
theorem zxv(n:Node)(l r:List UInt8)(hn:n.fit):(zf2 n l r).length<=50000000000:=by
 have:=zds n hn
 unfold zf2 ziw
 split
 ·simp
 ·split
  ·simp
  ·have a:=zat l
   have b:=zat r
   simp;omega
def zaj(s:Lean_):Nat->Nat->List UInt8
 |0,k=>match zae s.opn (nd 0 k)with
  |some n=>shaB (zfz k n)
  |none=>zbe s.shut (nd 0 k)
 |h+1,k=>match zae s.opn (nd (h+1) k)with
  |some n=>shaB (zf2 n (zaj s h (2*k)) (zaj s h (2*k+1)))
  |none=>zbe s.shut (nd (h+1) k)
theorem zc0{l:List Stub}{x:Int}{m:List UInt8}(h:zcc l x=some m):zbe l x=m/\∃s∈l,s.at_=x/\s.hash=m:=by
 simp only[zcc]at h
 refine⟨by simp[zbe,h],?_⟩
 rw[Option.map_eq_some_iff]at h
 obtain⟨s,hs,rfl⟩:=h
 exact⟨s,List.mem_of_find?_eq_some hs,by simpa using List.find?_some hs,rfl⟩
theorem zkt{l:List Stub}{x:Int}(h:zcc l x=none):zbe l x=[]:=by
 simp only[zcc]at h
 simp[zbe,h]
theorem bss1(l:List UInt8):bss [l]= .sl 1 1 [bs l]:=rfl
theorem zo8(s:Lean_)(hs:s.fitN)(x:Int)(hx:zae s.opn x=none):zaf Tryz.prog 52 [.ag (zce s),I x] (.r (bs (zbe s.shut x))):=by
 refine zac (T:=Tab) mixed Tab_ok Tryz.func52 rfl (by kernel_rfl) ?_
 obtain⟨hs1,hs2,hs3,hs4⟩:=id hs
 refine Vstep.node2 rfl rfl rfl (λn hn=>by rw[hx]at hn;cases hn) (λ_=>?_)
 refine zu rfl (zq ?_)
 refine Vstep.hash1 rfl rfl rfl (λm hm=>?_) (λhm=>?_)
 ·obtain⟨e,sp,hsp,_,rfl⟩:=zc0 hm
  have:=hs4 sp hsp
  refine ze (zfe _ (by omega)) ?_
  exact zf (by rw[e];rfl)
 ·refine Vcall.mk' (zfe [] (by simp)) (zk (Cv.nil 1) Cvs.nil) ?_
  exact zf (by rw[zkt hm];rfl)
theorem zyo(s:Lean_)(hs:s.fitN)(k:Nat)(hk:k<65536):zaf Tryz.prog 52 [.ag (zce s),I (nd 0 k)] (.r (bs (zaj s 0 k))):=by
 cases hx:zae s.opn (nd 0 k)with
 |none=>
  have:=zo8 s hs (nd 0 k) hx
  have e:zaj s 0 k=zbe s.shut (nd 0 k):=by simp[zaj,hx]
  rw[e];exact this
 |some n=>
  have e:zaj s 0 k=shaB (zfz k n):=by simp[zaj,hx]
  rw[e]
  refine zac (T:=Tab) mixed Tab_ok Tryz.func52 rfl (by kernel_rfl) ?_
  refine Vstep.node2 rfl rfl rfl (λm hm=>?_) (λhm=>by rw[hx]at hm;cases hm)
  rw[hx]at hm
  cases hm
  obtain⟨sp,hsp,_,rfl⟩:=za7 hx
  have hfit:=hs.2.2.1 sp hsp
  refine zw rfl (zt ?_)
  refine⟨by decide,_,rfl,?_⟩
  refine zu (by rw[zck];rfl) (zq ?_)
  refine⟨by decide,(k:Int),?_,?_⟩
  ·rw[zd1,Int.tdiv_eq_ediv_of_nonneg (by omega)]
   rw[show(((2*k:Nat):Int))/2=k by omega]
   exact wrap_i64 (by omega)
  refine za rfl rfl ?_
  refine ze (zrr k sp.node hfit) ?_
  have hle:=zxj k sp.node hfit
  refine zx ?_
  refine Vcall.mk' (zyt [zfz k sp.node] (by simp;omega)) (zk (zf (by rw[bss1];rfl)) Cvs.nil) ?_
  exact zf (by simp[bs])
theorem z2e(s:Lean_)(hs:s.fitN)(h:Nat)(hh:h+1<=16)(ih: ∀k,k<2^(16-h)->zaf Tryz.prog 52 [.ag (zce s),I (nd h k)] (.r (bs (zaj s h k))))(k:Nat)(hk:k<2^(16-(h+1))):
  zaf Tryz.prog 52 [.ag (zce s),I (nd (h+1) k)] (.r (bs (zaj s (h+1) k))):=by
 have hleft:=zdk (d:=16) (by omega) (show h+1<=16 by omega) hk
 have hright:=zc7 (d:=16) (by omega) (show h+1<=16 by omega) hk
 have hk2:2^(16-h)=2*2^(16-(h+1)):=by rw[show 16-h=(16-(h+1))+1 by omega,Nat.pow_succ];omega
 cases hx:zae s.opn (nd (h+1) k)with
 |none=>
  have:=zo8 s hs (nd (h+1) k) hx
  have e:zaj s (h+1) k=zbe s.shut (nd (h+1) k):=by simp[zaj,hx]
  rw[e];exact this
 |some n=>
  have e:zaj s (h+1) k=shaB (zf2 n (zaj s h (2*k)) (zaj s h (2*k+1))):=by simp[zaj,hx]
  rw[e]
  refine zac (T:=Tab) mixed Tab_ok Tryz.func52 rfl (by kernel_rfl) ?_
  refine Vstep.node2 rfl rfl rfl (λm hm=>?_) (λhm=>by rw[hx]at hm;cases hm)
  rw[hx]at hm
  cases hm
  obtain⟨sp,hsp,_,rfl⟩:=za7 hx
  have hfit:=hs.2.2.1 sp hsp
  refine zw rfl (zt ?_)
  refine⟨by decide,_,rfl,?_⟩
  refine zw (by rw[zc5];rfl) (zt ?_)
  refine Vdraw.mk' (by kernel_rfl) ?_
  refine za rfl rfl ?_
  refine za rfl rfl ?_
  refine ze (zii _) ?_
  rw[hleft]
  refine ze (ih (2*k) (by omega)) ?_
  refine za rfl rfl ?_
  refine ze (zg5 _) ?_
  rw[hright]
  refine ze (ih (2*k+1) (by omega)) ?_
  refine ze (zu5 sp.node _ _ hfit) ?_
  have hle:=zxv sp.node (zaj s h (2*k)) (zaj s h (2*k+1)) hfit
  refine zx ?_
  refine Vcall.mk' (zyt [zf2 sp.node (zaj s h (2*k)) (zaj s h (2*k+1))] (by simp;omega)) (zk (zf (by rw[bss1];rfl)) Cvs.nil) ?_
  exact zf (by simp[bs])
theorem zs2(s:Lean_)(hs:s.fitN): ∀(h k:Nat),h<=16->k<2^(16-h)->zaf Tryz.prog 52 [.ag (zce s),I (nd h k)] (.r (bs (zaj s h k)))
 |0,k,_,hk=>zyo s hs k (by simpa using hk)
 |h+1,k,hh,hk=>z2e s hs h hh (λk hk=>zs2 s hs h k (by omega) hk) k hk
theorem zewb(s:Lean_)(hs:s.fitN):zaf Tryz.prog 12 [.ag s.c] (.r (.tu [bs (if zbf s then zaj s (lv (s.leaves-1).toNat) 0 else[]), .i .u8 (if zbf s then 0 else 3)])):=by
 refine zac (T:=Tab) mixed Tab_ok Tryz.func12 rfl (by kernel_rfl) ?_
 refine za rfl rfl ?_
 refine Vcall.bool (ztb s hs) (λh=>zw rfl (zt ?_)) (λh=>zu rfl (zq ?_))
 ·have hl:s.lookOk=true/\za0 s.leaves=true:=by
   simp only[zbf,Bool.and_eq_true]at h
   exact⟨h.1,h.2.1⟩
  have glook:=zny s (by have:=hs.1;omega) (by have:=hs.2.1;omega)
  simp only[zkm,hl.1,if_true]at glook
  refine za rfl rfl ?_
  refine ze glook ?_
  refine Vdraw.mk' (by kernel_rfl) ?_
  refine za rfl rfl ?_
  refine ze (zvn _) ?_
  obtain⟨d,hd,hn⟩:=zde hl.2
  have hroot:zgu s.leaves=(nd d 0:Int):=by rw[zgu,hl.2,if_pos rfl,hn,zg0]
  have hlv:lv (s.leaves-1).toNat=d:=by rw[hn,<-zg0,Int.toNat_natCast,zrf hd]
  rw[hroot]
  refine ze (zs2 s hs d 0 hd (zag _)) ?_
  refine⟨_,rfl,zf ?_⟩
  rw[if_pos h,if_pos h,hlv]
  rfl
 ·refine⟨_,rfl,?_⟩
  rw[if_neg (by simp[h]),if_neg (by simp[h])]
  exact Cv.tu (zk (Cv.nil 1) (zn _))
end
section
theorem z2m{p:Int->Bool}{l:List Int}{j:Nat}(hj:j<l.length):(l.take (j+1)).filter p=if p l[j]then(l.take j).filter p++[l[j]]else(l.take j).filter p:=by
 rw[List.take_add_one,List.getElem?_eq_getElem hj]
 simp only[Option.toList,List.filter_append,List.filter_cons,List.filter_nil]
 split<;>simp
theorem zvu{p:Int->Bool}{l:List Int}{j:Nat}:((l.take j).filter p).length<=l.length:=by
 have h1:=List.length_filter_le p (l.take j)
 have h2:(l.take j).length<=l.length:=by rw[List.length_take];omega
 omega
def zan(s:Lean_)(b:Bool):List Int:=(zau (2*s.own) s.leaves).filter λc=>(zae s.opn c).isSome==b
theorem z47(s:Lean_)(b:Bool)(h1:s.opn.length<=1000000000)(ho: -4000000000000000000<=s.own/\s.own<=4000000000000000000):zaf Tryz.prog 22 [.ag s.c, .b b] (.r (is (zan s b))):=by
 refine zac (T:=Tab) mixed Tab_ok Tryz.func22 rfl (by kernel_rfl) ?_
 obtain⟨C,hC⟩: ∃C,C=zau (2*s.own) s.leaves:=⟨_,rfl⟩
 have hcl:C.length<=17:=by rw[hC,zee];exact zd2 _ _
 obtain⟨p,hp⟩: ∃p:Int->Bool,p= λc=>(zae s.opn c).isSome==b:=⟨_,rfl⟩
 have hres:zan s b=C.filter p:=by rw[hC,hp];rfl
 rw[hres]
 refine zd rfl (by omega) ?_
 refine ze (zvd _ _) ?_
 refine zy (λj:Nat=>{F:=[(1, .r (.b b)),(2, .own 0),(5, .own 1),(6, .r (is C)),(7, .r (I j))],O:=[(0,some (.box (s.c.map .r))),(1,some (.ch 3 1 ((C.take j).filter p).length (((C.take j).filter p).map I) true))],nx:=2}) (λj=>j<=C.length) (λj=>C.length-j) 0 (by omega)
  ((zew 5 3 1 rfl).trans (zad [(0,0),(1,2)] rfl ⟨cr,rfl,rfl,zf (by subst hC;rfl),cr,trivial⟩ ⟨zab _,⟨rfl,rfl,rfl,rfl,zn _⟩,trivial⟩)) ?_
 intro j hj
 refine zh (λh=>zq ?_) (λh=>zt ?_)
 ·simp only[zb]at h
  have hj':j<C.length:=by omega
  have hfl:=zvu (p:=p) (l:=C) (j:=j)
  have hsn:=z2m (p:=p) hj'
  refine Vdraw.mk' (by kernel_rfl) ?_
  refine zm (by omega) (by omega) (zai rfl hj') (zg rfl ?_)
  refine ze (ze5 s.opn _ h1) ?_
  have fin: ∀β:Bool,(zae s.opn C[j]).isSome=β->(p C[j]=(β==b)):=λβ hβ=>by rw[hp];simp only[hβ]
  cases hf:zae s.opn C[j]with
  |none=>
   have hpj:=fin false (by rw[hf];rfl)
   refine zh (λh2=>zq ?_) (λh2=>zt ?_)
   ·rw[h2]at hpj
    rw[hpj,if_pos rfl]at hsn
    refine zm (by omega) (by omega) (zai rfl hj') (zg rfl ?_)
    refine zx ?_
    refine Vapp.mk' (j:=((C.take (j+1)).filter p).length) (zs:=((C.take (j+1)).filter p).map I) (by simp only[maxLen];omega) (by simp;omega) (by rw[hsn];simp) (by rw[hsn];simp[zb8,cellsOf]) ?_
    refine zd (m:=((j+1:Nat):Int)) (by omega) (by omega) ?_
    exact⟨j+1,hj',by omega,zad [(0,0),(1,_)] rfl ⟨cr,rfl,rfl,cr,cr,trivial⟩ ⟨zab _,zbg rfl,trivial⟩⟩
   ·rw[h2]at hpj
    rw[hpj,if_neg (by simp)]at hsn
    refine zd (m:=((j+1:Nat):Int)) (by omega) (by omega) ?_
    exact⟨j+1,hj',by omega,zad [(0,0),(1,1)] rfl ⟨cr,rfl,rfl,cr,cr,trivial⟩ ⟨zab _,zbg hsn.symm,trivial⟩⟩
  |some n=>
   have hpj:=fin true (by rw[hf];rfl)
   refine zh (λh2=>zq ?_) (λh2=>zt ?_)
   ·rw[h2]at hpj
    rw[hpj,if_pos rfl]at hsn
    refine zm (by omega) (by omega) (zai rfl hj') (zg rfl ?_)
    refine zx ?_
    refine Vapp.mk' (j:=((C.take (j+1)).filter p).length) (zs:=((C.take (j+1)).filter p).map I) (by simp only[maxLen];omega) (by simp;omega) (by rw[hsn];simp) (by rw[hsn];simp[zb8,cellsOf]) ?_
    refine zd (m:=((j+1:Nat):Int)) (by omega) (by omega) ?_
    exact⟨j+1,hj',by omega,zad [(0,0),(1,_)] rfl ⟨cr,rfl,rfl,cr,cr,trivial⟩ ⟨zab _,zbg rfl,trivial⟩⟩
   ·rw[h2]at hpj
    rw[hpj,if_neg (by simp)]at hsn
    refine zd (m:=((j+1:Nat):Int)) (by omega) (by omega) ?_
    exact⟨j+1,hj',by omega,zad [(0,0),(1,1)] rfl ⟨cr,rfl,rfl,cr,cr,trivial⟩ ⟨zab _,zbg hsn.symm,trivial⟩⟩
 ·simp only[zb]at h
  rw[List.take_of_length_le (by omega)]
  exact cr
end
end Go.Proofs.YtpdllgbfemnemaaGreat.Sx
