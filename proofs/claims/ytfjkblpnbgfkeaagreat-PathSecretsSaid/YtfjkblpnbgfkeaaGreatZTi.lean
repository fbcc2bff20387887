import Derived.Test.YtfjkblpnbgfkeaaGreatZEc
import Derived.Test.YtfjkblpnbgfkeaaGreatZSxU
import Derived.Test.YtfjkblpnbgfkeaaGreatZEs
import Derived.Test.YtfjkblpnbgfkeaaGreatZTm
namespace Go.Proofs.YtfjkblpnbgfkeaaGreat.Sx
open Go.RowKit
set_option linter.unusedVariables false
section
def zcd(t:List Node)(j:Nat):List Spot:=(List.range j).map λi:Nat=>⟨(i:Int),nT t i⟩
theorem z12(t:List Node)(j:Nat):zcd t (j+1)=zcd t j++[⟨(j:Int),nT t j⟩]:=by
 unfold zcd
 rw[List.range_succ,List.map_append]
 rfl
theorem ztw(t:List Node)(j:Nat):(zcd t j).length=j:=by simp[zcd]
theorem zavb(t:List Node)(h1:t.length<=1000000):zab Tryz.prog 33 [nods t] (.r (zc4 (zcd t t.length))):=by
 refine zaa (T:=Tab) mixed Tab_ok Tryz.func33 rfl (by kernel_rfl) ?_
 refine zx (λj:Nat=>{F:=[(0, .r (nods t)),(3, .own 0),(4, .r (I j))],O:=[(0,some (zrc (zcd t j)))],nx:=1}) (λj=>j<=t.length) (λj=>t.length-j) 0 (by omega)
  ((zef 3 96 11 rfl).trans (zac [(0,0)] rfl ⟨cr,rfl,cr,trivial⟩ ⟨⟨rfl,rfl,rfl,rfl,zn _⟩,trivial⟩)) ?_
 intro j hj
 have hsl:=ztw t j
 have hsn:=z12 t j
 refine zh (λh=>zp ?_) (λh=>zq ?_)
 ·simp only[zb]at h
  have hj':j<t.length:=by omega
  refine zm (by omega) (by omega) (zqd rfl hj') ?_
  refine za rfl rfl ?_
  refine zw ?_
  refine Vapp.mk' (j:=(zcd t (j+1)).length) (zs:=(zcd t (j+1)).flatMap Spot.c) (by simp only[maxLen];omega) (by simp;omega) (by rw[hsn,List.length_append];rfl) (by rw[hsn,List.flatMap_append];exact congrArg (List.flatMap Spot.c (zcd t j)++ ·) (by simp[zbb,cellsOf])) ?_
  refine zd (m:=((j+1:Nat):Int)) (by omega) (by omega) ?_
  exact⟨j+1,hj',by omega,zac [(0,_)] rfl ⟨cr,rfl,cr,trivial⟩ ⟨⟨rfl,rfl,rfl,rfl,zn _⟩,trivial⟩⟩
 ·simp only[zb]at h
  have:j=t.length:=by omega
  subst this
  exact cr
def insD(x:Int):List Int->List Int
 |[]=>[x]
 |y::l=>if y<x then y::insD x l else x::y::l
theorem zy9{x:Int}: ∀{l:List Int} {k:Nat},k<=l.length->(∀y∈l.take k,y<x)->(∀h:k<l.length,x<=l[k])->l.take k++[x]++l.drop k=insD x l
 |[],k,hk,_,_=>by
  have:k=0:=by simpa using hk
  subst this;rfl
 |y::l,0,_,_,h2=>by
  have h3:=h2 (by simp)
  simp only[List.getElem_cons_zero]at h3
  simp only[List.take_zero,List.nil_append,List.drop_zero,insD]
  rw[if_neg (by omega)]
  rfl
 |y::l,k+1,hk,h1,h2=>by
  have h3:=h1 y (by simp)
  simp only[insD]
  rw[if_pos h3,<-zy9 (k:=k) (by simpa using hk) (λz hz=>h1 z (by simp[hz])) (λh=>h2 (by simpa using h))]
  rfl
theorem zvu{x:Int}: ∀{l:List Int},(insD x l).length=l.length+1
 |[]=>rfl
 |y::l=>by
  unfold insD
  split
  ·rw[List.length_cons,zvu];rfl
  ·rfl
theorem zwa{x z:Int}: ∀{l:List Int},z∈insD x l↔z=x\/z∈l
 |[]=>by simp[insD]
 |y::l=>by
  unfold insD
  split
  ·simp only[List.mem_cons,zwa]
   exact⟨λh=>by rcases h with h |h |h<;>simp[h],λh=>by rcases h with h |h |h<;>simp[h]⟩
  ·simp
def zcq(l:List Int):List Int:=l.foldl (λa x=>insD x a) []
theorem z1y{l:List Int}{j:Nat}(hj:j<l.length):zcq (l.take (j+1))=insD l[j] (zcq (l.take j)):=by
 unfold zcq
 exact ze9 (f:=λa x=>insD x a) hj
theorem zjh: ∀{l a:List Int},(l.foldl (λa x=>insD x a) a).length=a.length+l.length
 |[],a=>rfl
 |x::l,a=>by rw[List.foldl_cons,zjh,zvu,List.length_cons];omega
theorem zp5(l:List Int)(hl:l.length<=10000000000000):zab Tryz.prog 82 [is l] (.r (is (zcq l))):=by
 refine zaa (T:=Tab) mixed Tab_ok Tryz.func82 rfl (by kernel_rfl) ?_
 refine zx (λi:Nat=>{F:=[(0, .r (is l)),(3, .r (is (zcq (l.take i)))),(4, .r (I i))],O:=[],nx:=0}) (λi=>i<=l.length) (λi=>l.length-i) 0 (by omega)
  (zac [] rfl ⟨cr,Cv.nil 1,cr,trivial⟩ trivial) ?_
 intro i hi
 refine zh (λh=>zp ?_) (λh=>zq ?_)
 rotate_left
 ·simp only[zb]at h
  rw[List.take_of_length_le (by omega)]
  exact cr
 simp only[zb]at h
 have hi':i<l.length:=by omega
 have hst:=z1y hi'
 obtain⟨R,hR⟩: ∃R,R=zcq (l.take i):=⟨_,rfl⟩
 have hRl:R.length=i:=by rw[hR];unfold zcq;rw[zjh,List.length_take];simp;omega
 rw[<-hR]at hst⊢
 refine zx (λk:Nat=>{F:=[(0, .r (is l)),(3, .r (is R)),(4, .r (I i)),(5, .own 0),(6, .r (I k))],O:=[(0,some (.ch 3 1 (R.take k).length ((R.take k).map I) true))],nx:=1}) (λk=>k<=R.length/\∀y∈R.take k,y<l[i]) (λk=>R.length-k) 0 ⟨by omega,by simp⟩
  ((zef 5 3 1 rfl).trans (zac [(0,0)] rfl ⟨cr,cr,cr,rfl,cr,trivial⟩ ⟨⟨rfl,rfl,rfl,rfl,zn _⟩,trivial⟩)) ?_
 rintro k ⟨hk,hlt⟩
 have hend:(∀h:k<R.length,l[i]<=R[k])->R.take k++[l[i]]++R.drop k=zcq (l.take (i+1)):=λhh=>by rw[hst];exact zy9 hk hlt hh
 have htl:(R.take k).length=k:=by rw[List.length_take];omega
 refine Vdraw.mk' (by kernel_rfl) ?_
 refine zh (λh2=>?_) (λh2=>zq ?_)
 ·simp only[zb]at h2
  have hk':k<R.length:=by omega
  refine zm (by omega) (by omega) (zak rfl hk') (zg rfl ?_)
  refine zm (by omega) (by omega) (zak rfl hi') (zg rfl ?_)
  refine zh (λh3=>zp ?_) (λh3=>zq ?_)
  ·simp only[zb]at h3
   refine zm (by omega) (by omega) (zak rfl hk') (zg rfl ?_)
   refine zw ?_
   have e:=zhw hk'
   refine Vapp.mk' (j:=(R.take (k+1)).length) (zs:=(R.take (k+1)).map I) (by simp[maxLen];omega) (by simp;omega) (by rw[e,List.length_append];rfl) (by rw[e,List.map_append];rfl) ?_
   refine zd (m:=((k+1:Nat):Int)) (by omega) (by omega) ?_
   exact⟨k+1,⟨hk',z82 (p:=λy=>y<l[i]) hk' hlt (by omega)⟩,by omega,zac [(0,_)] rfl ⟨cr,cr,cr,rfl,cr,trivial⟩ ⟨za4 rfl,trivial⟩⟩
  ·simp only[zb]at h3
   have he:=hend λhh=>by omega
   refine zm (by omega) (by omega) (zak rfl hi') (zg rfl ?_)
   refine zw ?_
   refine Vapp.mk' (j:=(R.take k++[l[i]]).length) (zs:=(R.take k++[l[i]]).map I) (by simp[maxLen];omega) (by simp;omega) (by simp) (by simp[zbb,cellsOf]) ?_
   refine⟨by omega,by omega,by omega,(R.drop k).length,(R.drop k).map I,?_,?_,?_⟩
   ·rw[List.length_drop];omega
   ·rw[Int.toNat_natCast,<-List.map_drop,List.take_of_length_le (by simp),Nat.mul_one]
   refine Vapp.mk' (j:=(zcq (l.take (i+1))).length) (zs:=(zcq (l.take (i+1))).map I) (by simp[maxLen];omega) (by simp;omega) (by rw[<-he];simp;omega) (by rw[<-he];simp) ?_
   refine zd (m:=((i+1:Nat):Int)) (by omega) (by omega) ?_
   exact⟨i+1,hi',by omega,zac [] rfl ⟨cr,cr,cr,trivial⟩ trivial⟩
 ·simp only[zb]at h2
  have he:=hend λhh=>by omega
  refine zm (by omega) (by omega) (zak rfl hi') (zg rfl ?_)
  refine zw ?_
  refine Vapp.mk' (j:=(R.take k++[l[i]]).length) (zs:=(R.take k++[l[i]]).map I) (by simp[maxLen];omega) (by simp;omega) (by simp) (by simp[zbb,cellsOf]) ?_
  refine⟨by omega,by omega,by omega,(R.drop k).length,(R.drop k).map I,?_,?_,?_⟩
  ·rw[List.length_drop];omega
  ·rw[Int.toNat_natCast,<-List.map_drop,List.take_of_length_le (by simp),Nat.mul_one]
  refine Vapp.mk' (j:=(zcq (l.take (i+1))).length) (zs:=(zcq (l.take (i+1))).map I) (by simp[maxLen];omega) (by simp;omega) (by rw[<-he];simp;omega) (by rw[<-he];simp) ?_
  refine zd (m:=((i+1:Nat):Int)) (by omega) (by omega) ?_
  exact⟨i+1,hi',by omega,zac [] rfl ⟨cr,cr,cr,trivial⟩ trivial⟩
end
section
def zcy(O:List Spot)(n own:Int):List Int:=2*own::zb2 (2*own) n++(zbz (2*own) n).flatMap λc=>(zb3 O n c).1
def z43(O:List Spot)(n own:Int):Bool:=(2*own::zb2 (2*own) n).all (zb0 O)&&(zbz (2*own) n).all λc=>(zb3 O n c).2
def ze5(O:List Spot)(n own:Int):List Int:=(zcy O n own).foldl (zh7 (zcy O n own)) []
theorem zu1{α:Type}{p:α->Bool}{l:List α}{j:Nat}(hj:j<l.length):(l.take (j+1)).all p=((l.take j).all p&&p l[j]):=by
 rw[zhw hj,List.all_append];simp
theorem zx8{O:List Spot}{n own:Int}(hf:zbj n=true)(h0:0<=own)(h1:own<n): ∀x∈zcy O n own,za6 x=true:=λx hx=>by
 rcases List.mem_append.1 hx with h |h
 ·exact z49 (s:=⟨n,own,[],[]⟩) hf h0 h1 x h
 ·obtain⟨c,hc,hx⟩:=List.mem_flatMap.1 h
  exact zyg O n c (zjq hf h0 h1 c hc) x hx
theorem z1p{O:List Spot}(hOl:zf7 O){n own:Int}(hf:zbj n=true)(h0:0<=own)(h1:own<n):(zcy O n own).length<=3300000000000:=by
 have hpl:=zjf (2*own) n
 have hcl:=zn7 (2*own) n
 have:=zou (f:=λc=>(zb3 O n c).1) (b:=190000000000) (zbz (2*own) n) λc hc=>zrm _ hOl _ _ (zjq hf h0 h1 c hc)
 simp only[zcy,List.length_append,List.length_cons]
 omega
set_option maxHeartbeats 1000000 in
theorem zasb(O:List Spot)(n own:Int)(hO:O.length<=1000000)(hOl:zf7 O)(hf:zbj n=true)(h0:0<=own)(h1:own<n):
  zab Tryz.prog 32 [zc4 O,I n,I own, .b false] (.r (.tu [is (zcq (zcy O n own)),is (zcq (ze5 O n own)), .b (z43 O n own)])):=by
 refine zaa (T:=Tab) mixed Tab_ok Tryz.func32 rfl (by kernel_rfl) ?_
 have hn:=ze8 hf
 have hpl:=zjf (2*own) n
 have hcl:=zn7 (2*own) n
 have hcn:=zjq hf h0 h1
 have hLn:=zx8 (O:=O) hf h0 h1
 have hLl:=z1p hOl hf h0 h1
 obtain⟨P,hP⟩: ∃P,P=2*own::zb2 (2*own) n:=⟨_,rfl⟩
 obtain⟨C,hC⟩: ∃C,C=zbz (2*own) n:=⟨_,rfl⟩
 have hPl:P.length<=18:=by rw[hP,List.length_cons];omega
 have hB:z43 O n own=(P.all (zb0 O)&&C.all λc=>(zb3 O n c).2):=by rw[hP,hC];rfl
 have hOL:zcy O n own=P++C.flatMap λc=>(zb3 O n c).1:=by rw[hP,hC];rfl
 refine zd rfl (by omega) ?_
 refine zw ?_
 refine zd rfl (by omega) ?_
 refine ze (zow _ _) ?_
 refine Vapp.mk' (j:=P.length) (zs:=P.map I) (by simp[maxLen];omega) (by simp;omega) (by rw[hP];simp;omega) (by rw[hP];rfl) ?_
 refine zd rfl (by omega) ?_
 refine ze (z0o _ _) ?_
 rw[<-hC]at hcl hcn⊢
 have hCl:C.length<=17:=by omega
 refine zx (λi:Nat×Bool=>{F:=[(0, .r (zc4 O)),(1, .r (I n)),(2, .r (I own)),(3, .r (.b false)),(11, .own 0),(12, .r (is C)),(13, .r (.b i.2)),(14, .r (I i.1))],O:=[(0,some (.ch 3 1 P.length (P.map I) true))],nx:=1})
  (λi=>i.1<=P.length/\i.2=(P.take i.1).all (zb0 O)) (λi=>P.length-i.1) (0,true) ⟨by simp,rfl⟩
  (zac [(0,_)] rfl ⟨cr,cr,cr,cr,rfl,cr,cr,cr,trivial⟩ ⟨za4 rfl,trivial⟩) ?_
 rintro⟨j,β⟩ ⟨hj,hβ⟩
 simp only at hj hβ
 refine zh (λh2=>zp ?_) (λh2=>zq ?_)
 ·simp only[zb]at h2
  have hj':j<P.length:=by omega
  have hsn:=zu1 (p:=zb0 O) hj'
  rw[<-hβ]at hsn
  refine zm (by omega) (by omega) (zak rfl hj') (zg rfl ?_)
  have gf:=zj7 O P[j] (by omega)
  cases hfd:zay O P[j]with
  |none=>
   rw[hfd]at gf
   refine ze gf ?_
   have hfo:zb0 O P[j]=false:=by simp[zb0,hfd]
   rw[hfo]at hsn
   cases β with
   |true=>
    refine zd (m:=((j+1:Nat):Int)) (by omega) (by omega) ?_
    exact⟨(j+1,false),⟨hj',by rw[hsn];rfl⟩,by simp only;omega,zac [(0,_)] rfl ⟨cr,cr,cr,cr,rfl,cr,cr,cr,trivial⟩ ⟨za4 rfl,trivial⟩⟩
   |false=>
    refine zd (m:=((j+1:Nat):Int)) (by omega) (by omega) ?_
    exact⟨(j+1,false),⟨hj',by rw[hsn];rfl⟩,by simp only;omega,zac [(0,_)] rfl ⟨cr,cr,cr,cr,rfl,cr,cr,cr,trivial⟩ ⟨za4 rfl,trivial⟩⟩
  |some y=>
   rw[hfd]at gf
   refine ze gf ?_
   have hfo:zb0 O P[j]=true:=by simp[zb0,hfd]
   rw[hfo]at hsn
   cases β with
   |true=>
    refine zd (m:=((j+1:Nat):Int)) (by omega) (by omega) ?_
    exact⟨(j+1,true),⟨hj',by rw[hsn];rfl⟩,by simp only;omega,zac [(0,_)] rfl ⟨cr,cr,cr,cr,rfl,cr,cr,cr,trivial⟩ ⟨za4 rfl,trivial⟩⟩
   |false=>
    refine zd (m:=((j+1:Nat):Int)) (by omega) (by omega) ?_
    exact⟨(j+1,false),⟨hj',by rw[hsn];rfl⟩,by simp only;omega,zac [(0,_)] rfl ⟨cr,cr,cr,cr,rfl,cr,cr,cr,trivial⟩ ⟨za4 rfl,trivial⟩⟩
 simp only[zb]at h2
 rw[List.take_of_length_le (by omega)]at hβ
 have hWl: ∀c∈C,(zb3 O n c).1.length<=190000000000:=λc hc=>zrm _ hOl _ _ (hcn c hc)
 refine zx (λi:Nat×Bool=>{F:=[(0, .r (zc4 O)),(1, .r (I n)),(2, .r (I own)),(3, .r (.b false)),(11, .own 0),(12, .r (is C)),(13, .r (.b i.2)),(17, .r (I i.1))],O:=[(0,some (.ch 3 1 (P++(C.take i.1).flatMap λc=>(zb3 O n c).1).length ((P++(C.take i.1).flatMap λc=>(zb3 O n c).1).map I) true))],nx:=1})
  (λi=>i.1<=C.length/\i.2=(β&&(C.take i.1).all λc=>(zb3 O n c).2)) (λi=>C.length-i.1) (0,β) ⟨by simp,by simp⟩
  (zac [(0,0)] rfl ⟨cr,cr,cr,cr,rfl,cr,cr,cr,trivial⟩ ⟨za4 (by simp),trivial⟩) ?_
 rintro⟨i,γ⟩ ⟨hi,hγ⟩
 simp only at hi hγ
 have hfl4:=zou (f:=λc=>(zb3 O n c).1) (b:=190000000000) (C.take i) λc hc=>hWl c (List.mem_of_mem_take hc)
 have htl4:(C.take i).length<=17:=by rw[List.length_take];omega
 refine zh (λh5=>?_) (λh5=>zq ?_)
 ·simp only[zb]at h5
  refine zt rfl (zp ?_)
  have hi':i<C.length:=by omega
  have hw:=hWl _ (List.getElem_mem hi')
  have hsn:=z3f (f:=λc=>(zb3 O n c).1) hi'
  have hsa:=zu1 (p:=λc=>(zb3 O n c).2) hi'
  refine zm (by omega) (by omega) (zak rfl hi') (zg rfl ?_)
  refine ze (z7c O hO hOl n _ (hcn _ (List.getElem_mem hi'))) ?_
  obtain⟨W,hW⟩: ∃W,W=P++(C.take (i+1)).flatMap λc=>(zb3 O n c).1:=⟨_,rfl⟩
  have hWe:W=(P++(C.take i).flatMap λc=>(zb3 O n c).1)++(zb3 O n C[i]).1:=by rw[hW,hsn,List.append_assoc]
  refine Vapp.mk' (j:=W.length) (zs:=W.map I) (by simp only[maxLen,List.length_append];omega) (by simp only[List.length_append];omega) (by rw[hWe];simp only[List.length_append]) (by rw[hWe];simp only[List.map_append]) ?_
  cases hb:(zb3 O n C[i]).2 with
  |false=>
   simp only[hb]at hsa
   cases γ with
   |true=>
    refine zd (m:=((i+1:Nat):Int)) (by omega) (by omega) ?_
    exact⟨(i+1,false),⟨hi',by rw[hsa];simp⟩,by simp only;omega,zac [(0,_)] rfl ⟨cr,cr,cr,cr,rfl,cr,zf (by first |rfl |simp),cr,trivial⟩ ⟨za4 hW,trivial⟩⟩
   |false=>
    refine zd (m:=((i+1:Nat):Int)) (by omega) (by omega) ?_
    exact⟨(i+1,false),⟨hi',by rw[hsa];simp⟩,by simp only;omega,zac [(0,_)] rfl ⟨cr,cr,cr,cr,rfl,cr,zf (by first |rfl |simp),cr,trivial⟩ ⟨za4 hW,trivial⟩⟩
  |true=>
   simp only[hb,Bool.and_true]at hsa
   rw[<-hsa]at hγ
   cases γ with
   |true=>
    refine zd (m:=((i+1:Nat):Int)) (by omega) (by omega) ?_
    exact⟨(i+1,true),⟨hi',hγ⟩,by simp only;omega,zac [(0,_)] rfl ⟨cr,cr,cr,cr,rfl,cr,zf (by first |rfl |simp),cr,trivial⟩ ⟨za4 hW,trivial⟩⟩
   |false=>
    refine zd (m:=((i+1:Nat):Int)) (by omega) (by omega) ?_
    exact⟨(i+1,false),⟨hi',hγ⟩,by simp only;omega,zac [(0,_)] rfl ⟨cr,cr,cr,cr,rfl,cr,zf (by first |rfl |simp),cr,trivial⟩ ⟨za4 hW,trivial⟩⟩
 simp only[zb]at h5
 rw[List.take_of_length_le (by omega)]at hγ
 rw[List.take_of_length_le (by omega)]
 rw[hβ,<-hB]at hγ
 rw[<-hOL]
 have hSe:ze5 O n own=(zcy O n own).foldl (zh7 (zcy O n own)) []:=rfl
 obtain⟨L,hL⟩: ∃L,L=zcy O n own:=⟨_,rfl⟩
 rw[<-hL]at hLn hLl hSe⊢
 obtain⟨SH,hSH⟩: ∃SH,SH=ze5 O n own:=⟨_,rfl⟩
 rw[<-hSH]at hSe⊢
 refine zx (λi:Nat×List Int=>{F:=[(0, .r (zc4 O)),(1, .r (I n)),(2, .r (I own)),(3, .r (.b false)),(11, .r (is L)),(13, .r (.b γ)),(20, .own 0),(21, .r (I i.1))],O:=[(0,some (.ch 3 1 i.2.length (i.2.map I) true))],nx:=1})
  (λi=>i.1<=L.length/\(L.take i.1).foldl (zh7 L) []=i.2) (λi=>L.length-i.1) (0,[]) ⟨by simp,rfl⟩
  ((zef 20 3 1 rfl).trans (zac [(0,1)] rfl ⟨cr,cr,cr,cr,cr,cr,rfl,cr,trivial⟩ ⟨⟨rfl,rfl,rfl,rfl,zn _⟩,trivial⟩)) ?_
 rintro⟨i5,acc⟩ ⟨hi5,hacc⟩
 simp only at hi5 hacc
 have hinv:=z7s (all:=L) (L.take i5) [] (by simp)
 rw[hacc]at hinv
 have htl:(L.take i5).length<=L.length:=by rw[List.length_take];omega
 have hal:acc.length<=6600000000000:=by have:=hinv.2;simp at this;omega
 refine zh (λh6=>zp ?_) (λh6=>zq ?_)
 ·simp only[zb]at h6
  have hi':i5<L.length:=by omega
  have hsn:=ze9 (f:=zh7 L) (b:=[]) hi'
  rw[hacc]at hsn
  obtain⟨x,hx⟩: ∃x,x=L[i5]:=⟨_,rfl⟩
  rw[<-hx]at hsn
  refine zm (by omega) (by omega) (zak rfl hi') (zg rfl ?_)
  rw[<-hx]
  refine ze (zin x) ?_
  obtain⟨a,ha⟩: ∃a,a=zbl x:=⟨_,rfl⟩
  obtain⟨b,hb⟩: ∃b,b=zby x:=⟨_,rfl⟩
  have hsn2:(L.take (i5+1)).foldl (zh7 L) []=addK L (addK L acc a) b:=by rw[hsn,ha,hb];rfl
  rw[<-ha,<-hb]
  refine zh (λh7=>?_) (λh7=>zq ?_)
  ·simp only[zb]at h7
   refine zy (zie L a (by omega)) (λh8=>zu rfl (zq ?_)) (λh8=>zt rfl (zp ?_))
   ·simp only[zb]at h8
    have e1:addK L acc a=acc:=by unfold addK;rw[if_neg (λh=>h.2 h8)]
    rw[e1]at hsn2
    refine zh (λh9=>?_) (λh9=>zq ?_)
    ·simp only[zb]at h9
     refine zy (zie L b (by omega)) (λh10=>zu rfl (zq ?_)) (λh10=>zt rfl (zp ?_))
     ·simp only[zb]at h10
      have e2:addK L (acc) b=acc:=by unfold addK;rw[if_neg (λh=>h.2 h10)]
      rw[e2]at hsn2
      refine zd (m:=((i5+1:Nat):Int)) (by omega) (by omega) ?_
      exact⟨(i5+1,acc),⟨hi',hsn2⟩,by simp only;omega,zac [(0,_)] rfl ⟨cr,cr,cr,cr,cr,cr,rfl,cr,trivial⟩ ⟨za4 rfl,trivial⟩⟩
     ·simp only[zb]at h10
      have e2:addK L (acc) b=acc++[b]:=by unfold addK;rw[if_pos ⟨by omega,h10⟩]
      rw[e2]at hsn2
      refine zw ?_
      refine Vapp.mk' (j:=(acc++[b]).length) (zs:=(acc++[b]).map I) (by simp only[maxLen,List.length_append,List.length_cons,List.length_nil];omega) (by simp;omega) (by simp) (by simp[zbb,cellsOf]) ?_
      refine zd (m:=((i5+1:Nat):Int)) (by omega) (by omega) ?_
      exact⟨(i5+1,acc++[b]),⟨hi',hsn2⟩,by simp only;omega,zac [(0,_)] rfl ⟨cr,cr,cr,cr,cr,cr,rfl,cr,trivial⟩ ⟨za4 rfl,trivial⟩⟩
    ·simp only[zb]at h9
     have e2:addK L (acc) b=acc:=by unfold addK;rw[if_neg (λh=>by omega)]
     rw[e2]at hsn2
     refine zd (m:=((i5+1:Nat):Int)) (by omega) (by omega) ?_
     exact⟨(i5+1,acc),⟨hi',hsn2⟩,by simp only;omega,zac [(0,_)] rfl ⟨cr,cr,cr,cr,cr,cr,rfl,cr,trivial⟩ ⟨za4 rfl,trivial⟩⟩
   ·simp only[zb]at h8
    have e1:addK L acc a=acc++[a]:=by unfold addK;rw[if_pos ⟨by omega,h8⟩]
    rw[e1]at hsn2
    refine zw ?_
    refine Vapp.mk' (j:=(acc++[a]).length) (zs:=(acc++[a]).map I) (by simp only[maxLen,List.length_append,List.length_cons,List.length_nil];omega) (by simp;omega) (by simp) (by simp[zbb,cellsOf]) ?_
    refine zh (λh9=>?_) (λh9=>zq ?_)
    ·simp only[zb]at h9
     refine zy (zie L b (by omega)) (λh10=>zu rfl (zq ?_)) (λh10=>zt rfl (zp ?_))
     ·simp only[zb]at h10
      have e2:addK L (acc++[a]) b=acc++[a]:=by unfold addK;rw[if_neg (λh=>h.2 h10)]
      rw[e2]at hsn2
      refine zd (m:=((i5+1:Nat):Int)) (by omega) (by omega) ?_
      exact⟨(i5+1,acc++[a]),⟨hi',hsn2⟩,by simp only;omega,zac [(0,_)] rfl ⟨cr,cr,cr,cr,cr,cr,rfl,cr,trivial⟩ ⟨za4 rfl,trivial⟩⟩
     ·simp only[zb]at h10
      have e2:addK L (acc++[a]) b=acc++[a]++[b]:=by unfold addK;rw[if_pos ⟨by omega,h10⟩]
      rw[e2]at hsn2
      refine zw ?_
      refine Vapp.mk' (j:=(acc++[a]++[b]).length) (zs:=(acc++[a]++[b]).map I) (by simp only[maxLen,List.length_append,List.length_cons,List.length_nil];omega) (by simp;omega) (by simp) (by simp[zbb,cellsOf]) ?_
      refine zd (m:=((i5+1:Nat):Int)) (by omega) (by omega) ?_
      exact⟨(i5+1,acc++[a]++[b]),⟨hi',hsn2⟩,by simp only;omega,zac [(0,_)] rfl ⟨cr,cr,cr,cr,cr,cr,rfl,cr,trivial⟩ ⟨za4 rfl,trivial⟩⟩
    ·simp only[zb]at h9
     have e2:addK L (acc++[a]) b=acc++[a]:=by unfold addK;rw[if_neg (λh=>by omega)]
     rw[e2]at hsn2
     refine zd (m:=((i5+1:Nat):Int)) (by omega) (by omega) ?_
     exact⟨(i5+1,acc++[a]),⟨hi',hsn2⟩,by simp only;omega,zac [(0,_)] rfl ⟨cr,cr,cr,cr,cr,cr,rfl,cr,trivial⟩ ⟨za4 rfl,trivial⟩⟩
  ·simp only[zb]at h7
   have e1:addK L acc a=acc:=by unfold addK;rw[if_neg (λh=>by omega)]
   rw[e1]at hsn2
   refine zh (λh9=>?_) (λh9=>zq ?_)
   ·simp only[zb]at h9
    refine zy (zie L b (by omega)) (λh10=>zu rfl (zq ?_)) (λh10=>zt rfl (zp ?_))
    ·simp only[zb]at h10
     have e2:addK L (acc) b=acc:=by unfold addK;rw[if_neg (λh=>h.2 h10)]
     rw[e2]at hsn2
     refine zd (m:=((i5+1:Nat):Int)) (by omega) (by omega) ?_
     exact⟨(i5+1,acc),⟨hi',hsn2⟩,by simp only;omega,zac [(0,_)] rfl ⟨cr,cr,cr,cr,cr,cr,rfl,cr,trivial⟩ ⟨za4 rfl,trivial⟩⟩
    ·simp only[zb]at h10
     have e2:addK L (acc) b=acc++[b]:=by unfold addK;rw[if_pos ⟨by omega,h10⟩]
     rw[e2]at hsn2
     refine zw ?_
     refine Vapp.mk' (j:=(acc++[b]).length) (zs:=(acc++[b]).map I) (by simp only[maxLen,List.length_append,List.length_cons,List.length_nil];omega) (by simp;omega) (by simp) (by simp[zbb,cellsOf]) ?_
     refine zd (m:=((i5+1:Nat):Int)) (by omega) (by omega) ?_
     exact⟨(i5+1,acc++[b]),⟨hi',hsn2⟩,by simp only;omega,zac [(0,_)] rfl ⟨cr,cr,cr,cr,cr,cr,rfl,cr,trivial⟩ ⟨za4 rfl,trivial⟩⟩
   ·simp only[zb]at h9
    have e2:addK L (acc) b=acc:=by unfold addK;rw[if_neg (λh=>by omega)]
    rw[e2]at hsn2
    refine zd (m:=((i5+1:Nat):Int)) (by omega) (by omega) ?_
    exact⟨(i5+1,acc),⟨hi',hsn2⟩,by simp only;omega,zac [(0,_)] rfl ⟨cr,cr,cr,cr,cr,cr,rfl,cr,trivial⟩ ⟨za4 rfl,trivial⟩⟩
 simp only[zb]at h6
 rw[List.take_of_length_le (by omega)]at hacc
 have hse:acc=SH:=by rw[hSe,<-hacc]
 subst hse
 refine ze (zp5 L (by omega)) ?_
 refine ze (zp5 acc (by omega)) ?_
 rw[<-hγ]
 exact⟨_,rfl,cr⟩
end
section
theorem zc6{P:Program}{f:FuncId}{n0 n1:Nat}{O0 O1:List (Nat×Ow)}{args:List TF}{names names':List (Nat×Value)}{res:TF}(e:names=names')(h:Acts P f n0 O0 args names n1 O1 res):Acts P f n0 O0 args names' n1 O1 res:=e▸h
end
section
theorem z6h:zl.fit:=⟨by decide,by decide,by decide,by decide,by decide⟩
end
section
theorem z3o(u x:Int)(hu:zb9 u):zab Tryz.prog 246 [I u, .ptr [I x]] (.r (.b (!zbh (2*u) x))):=by
 refine zaa (T:=Tab) mixed Tab_ok Tryz.func246 rfl (by kernel_rfl) ?_
 unfold zb9 at hu
 refine zd rfl (by omega) ?_
 refine zg rfl ?_
 refine ze (zng (2*u) x) ?_
 exact Vcmp.mk' rfl (cr)
theorem zaub(u x:Int)(hu:zb9 u):zab Tryz.prog 291 [I u, .ptr [I x]] (.r (.b (zbh (2*u) x))):=by
 refine zaa (T:=Tab) mixed Tab_ok Tryz.func291 rfl (by kernel_rfl) ?_
 unfold zb9 at hu
 refine zd rfl (by omega) ?_
 refine zg rfl ?_
 refine ze (zng (2*u) x) ?_
 exact cr
theorem z3q(l:List Int)(x:Int)(hl:l.length<=1000000000)(hd: ∀u∈l,zb9 u):zab Tryz.prog 248 [is l,I x] (.r (.b (l.any λu=>zbh (2*u) x))):=by
 refine zaa (T:=Tab) mixed Tab_ok Tryz.func248 rfl (by kernel_rfl) ?_
 refine Vstep.sub (zgd (t:=3) [I x] rfl rfl) (Vstep.mkfun I zb9 _ rfl rfl (λu hu=>zaub u x hu) ?_)
 refine ze (zg4 l zb9 _ hl hd) ?_
 exact cr
theorem z65(x:Int)(n:Node)(hn:n.fit):zab Tryz.prog 171 [I x, .ag n.c] (.r (.b (zes x n))):=by
 refine zaa (T:=Tab) mixed Tab_ok Tryz.func171 rfl (by kernel_rfl) ?_
 refine za rfl rfl ?_
 refine ze (z61 n hn) ?_
 have clo:=λ(u:Int) (hu:zb9 u)=>z3o u x hu
 cases hr:n.right with
 |false=>
  refine⟨by decide,_,rfl,?_⟩
  refine zh (λh=>zp ?_) (λh=>zq ?_)
  ·refine zu rfl ?_
   exact zf (congrArg RV.b (by simp[zes,hr]))
  ·refine zu rfl ?_
   exact zf (congrArg RV.b (by simp[zes,hr]))
 |true=>
  have hlate:=Node.right_late hr
  have hll:n.par.late.length<=1000000000:=by have:=hn.2.2.2.1;omega
  have fin: ∀{β:Bool},β=n.par.late.any (λu=> !zbh (2*u) x)->n.kind.toNat≠zgq x->(!β)=zes x n:=λhb hk=>by
   subst hb
   rw[z98]
   simp[zes,hr,hk]
  refine⟨by decide,_,rfl,?_⟩
  refine zh (λh=>zp ?_) (λh=>zq ?_)
  ·simp only[zb]at h
   refine zt rfl ?_
   refine zh (λh2=>?_) (λh2=>?_)
   ·simp only[zb]at h2
    refine Vstep.sub (zgd (t:=2) [I x] rfl rfl) (Vstep.mkfun I zb9 _ rfl rfl clo ?_)
    refine ze (zg4 n.par.late zb9 _ hll hlate) ?_
    exact Vcmp.mk' rfl (zf (congrArg RV.b (fin rfl (by simp[zgq,h];omega))))
   ·simp only[zb]at h2
    refine zf (congrArg RV.b ?_)
    have:n.kind.toNat=zgq x:=by simp[zgq,h];omega
    simp[zes,this]
  ·simp only[zb]at h
   refine zt rfl ?_
   refine zh (λh2=>?_) (λh2=>?_)
   ·simp only[zb]at h2
    refine Vstep.sub (zgd (t:=2) [I x] rfl rfl) (Vstep.mkfun I zb9 _ rfl rfl clo ?_)
    refine ze (zg4 n.par.late zb9 _ hll hlate) ?_
    exact Vcmp.mk' rfl (zf (congrArg RV.b (fin rfl (by simp[zgq,h];omega))))
   ·simp only[zb]at h2
    refine zf (congrArg RV.b ?_)
    have:n.kind.toNat=zgq x:=by simp[zgq,h];omega
    simp[zes,this]
def zcx(O:List Spot)(x:Int):Node:=(zay O x).getD Node.zero
abbrev pbox(leaves own:Int)(O:List Spot)(H:List Stub):Ow:= .box [.r (I leaves), .r (I own), .r (.s (mapS (zdi O))), .r (.s (mapS (zeg H)))]
theorem g_at(pv:Value)(leaves own:Int)(O:List Spot)(H:List Stub)(x:Int):Acts Tryz.prog 173 1 [(0,pbox leaves own O H)] [.r (I x), .own 0] [(0,pv)] 2 [(0,pbox leaves own O H)] (.r (.tu [.ag (zcx O x).c, .b (zb0 O x)])):=by
 refine zb4 (T:=Tab) mixed Tab_ok Tryz.func173 rfl (by kernel_rfl) rfl ⟨⟨_,_,rfl,rfl,zax,zax⟩,trivial⟩ ?_
 refine Vstep.node2 rfl rfl rfl (λm hm=>?_) (λhm=>?_)
 ·refine za rfl rfl ?_
  have e1:zcx O x=m:=by unfold zcx;rw[hm];rfl
  have e2:zb0 O x=true:=by unfold zb0;rw[hm];rfl
  rw[e1,e2]
  exact zbx (.inl rfl) [(0,0),(1,1)] [(3, .own 1),(4, .r (.b true))] [(1,some (.box (m.c.map .r)))] rfl ⟨rfl,cr,⟨rfl,rfl⟩,trivial⟩ ⟨⟨_,_,rfl,cr,_,_,rfl,cr,_,_,rfl,cr,_,_,rfl,cr,rfl⟩,⟨_,_,rfl,cr,_,_,rfl,cr,_,_,rfl,cr,_,_,rfl,cr,_,_,rfl,cr,_,_,rfl,cr,_,_,rfl,cr,_,_,rfl,cr,_,_,rfl,cr,_,_,rfl,cr,rfl⟩,trivial⟩ ⟨⟨1000000,rfl⟩,trivial⟩ (za rfl rfl ⟨_,rfl,cr⟩)
 ·refine za rfl rfl ?_
  have e1:zcx O x=Node.zero:=by unfold zcx;rw[hm];rfl
  have e2:zb0 O x=false:=by unfold zb0;rw[hm];rfl
  rw[e1,e2]
  exact zbx (.inl rfl) [(0,0),(1,1)] [(3, .own 1),(4, .r (.b false))] [(1,some (.box (zc.map .r)))] rfl ⟨rfl,cr,⟨rfl,rfl⟩,trivial⟩ ⟨⟨_,_,rfl,cr,_,_,rfl,cr,_,_,rfl,cr,_,_,rfl,cr,rfl⟩,⟨_,_,rfl,cr,_,_,rfl,cr,_,_,rfl,cr,_,_,rfl,cr,_,_,rfl,cr,_,_,rfl,cr,_,_,rfl,cr,_,_,rfl,cr,_,_,rfl,cr,_,_,rfl,cr,rfl⟩,trivial⟩ ⟨⟨1000000,rfl⟩,trivial⟩ (za rfl rfl ⟨_,rfl,Cv.tu (zk zsj (zn _))⟩)
end
end Go.Proofs.YtfjkblpnbgfkeaaGreat.Sx
