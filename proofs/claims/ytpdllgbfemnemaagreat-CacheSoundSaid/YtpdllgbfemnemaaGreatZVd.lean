import Derived.Test.YtpdllgbfemnemaaGreatZSxV
import Derived.ProofKit
import Derived.Deep.Slices
import Derived.Deep.Fields
import Derived.SizedLaws
import Derived.Test.YtpdllgbfemnemaaGreatRows
import Derived.Below
import Derived.ChangeOld
import Derived.OpenShut
namespace Go.Proofs.YtpdllgbfemnemaaGreat.Sx
section
open Go.RowKit Go.ChangeShapes Go.WideShapes Go.Deep
def allK(w:World):Kp:=λb=>((w.heap[b]?).map λo=>match o with | .cells c _ _=>c.size |_=>0).getD 0
theorem z31{w:World}{b o:Nat}{v:Value}(h:w.cell? ⟨b,o,none⟩=some v):o<allK w b/\b<w.heap.size:=by
 unfold World.cell? at h
 unfold allK
 cases hb:w.heap[b]? with
 |none=>simp[hb]at h
 |some ob=>
  have h1:b<w.heap.size:=(Array.getElem?_eq_some_iff.1 hb).1
  cases ob with
  |cells c t fr=>
   simp[hb]at h
   exact⟨by simpa[hb]using(Array.getElem?_eq_some_iff.1 h).1,h1⟩
  |_=>simp[hb]at h
theorem zed{w:World}{k:Kp}: ∀{xs ys:List RV} {us vs:List Value},RV.listAt w k xs us->RV.listAt w k ys vs->RV.listAt w k (xs++ys) (us++vs)
 |[],_,us,_,h,g=>by
  simp only[RV.listAt]at h
  subst h
  exact g
 |x::xs,_,us,_,h,g=>by
  simp only[RV.listAt]at h
  obtain⟨u,r,rfl,h1,h2,h3⟩:=h
  simp only[List.cons_append,RV.listAt]
  exact⟨u,_,rfl,h1,h2,zed h3 g⟩
theorem zr9{w:World}{k:Kp}{b:Nat}: ∀{xs ys:List RV} {o:Nat},RV.cellsAt w k b o xs->RV.cellsAt w k b (o+xs.length) ys->RV.cellsAt w k b o (xs++ys)
 |[],_,_,_,g=>g
 |x::xs,ys,o,h,g=>by
  simp only[List.cons_append,RV.cellsAt]at h⊢
  exact⟨h.1,zr9 h.2 (by rwa[List.length_cons,show o+(xs.length+1)=o+1+xs.length by omega]at g)⟩
theorem zsb{w:World}{b:Nat}: ∀{fs:List RV} {cs:List Value} {o:Nat},RV.listAt w (allK w) fs cs->(∀j,j<cs.length->w.cell? ⟨b,o+j,none⟩=cs[j]?)->RV.cellsAt w (allK w) b o fs
 |[],_,_,_,_=>by simp[RV.cellsAt]
 |f::fs,cs,o,h,hc=>by
  simp only[RV.listAt]at h
  obtain⟨u,r,rfl,h1,h2,h3⟩:=h
  have h0:=hc 0 (by simp)
  simp only[Nat.add_zero,List.getElem?_cons_zero]at h0
  simp only[RV.cellsAt]
  refine⟨⟨(z31 h0).1,u,h0,h1,h2⟩,zsb h3 λj hj=>?_⟩
  have:=hc (j+1) (by simpa using hj)
  rw[show o+1+j=o+(j+1)by omega]
  simpa using this
structure Rd (P:Program):Type 1 where
 H:Type
 enc:TypeId×Value->H
 w:World
 base:Nat
 spare:Nat->Bool
 held:Bool
def Rd.trod{P:Program}(r:Rd P)(fuel:Nat)(t:TypeId)(cs:List Value):Option (DataW r.H×List MemPlace):=DataW.trod r.enc P r.w r.base r.spare r.held fuel t cs
def Rd.Reads{P:Program}(r:Rd P){σ:Type}(c:σ->List RV)(ok:σ->Prop)(t:TypeId):Prop:=
 ∀fuel cs x,r.trod fuel t cs=some x->∃s,ok s/\RV.listAt r.w (allK r.w) (c s) cs
section
variable {P:Program} {r:Rd P} {t e:TypeId} {σ:Type} {c:σ->List RV} {ok:σ->Prop}
theorem Rd.i64(ht:P.underlying t=some (.int .i64)):r.Reads (λn:Int=>[I n]) i64 t:=λfuel cs x h=>by
 obtain⟨n,rfl,_,hw⟩:=DataW.trod_int ht h
 refine⟨n,?_,by simp only[RV.listAt,RV.at_];exact⟨_,[],rfl,rfl,rfl,rfl⟩⟩
 simp only[Lit.wf,Bool.and_eq_true,decide_eq_true_eq]at hw
 exact⟨hw.1,hw.2⟩
theorem Rd.u8(ht:P.underlying t=some (.int .u8)):r.Reads (λn:UInt8=>[U8 n]) (λ_=>True) t:=λfuel cs x h=>by
 obtain⟨n,rfl,_,hw⟩:=DataW.trod_int ht h
 have hn:0<=n/\n<256:=by
  simp only[Lit.wf,Bool.and_eq_true,decide_eq_true_eq]at hw
  have h1:(0:Int)<=n:=hw.1
  have h2:n<=255:=hw.2
  omega
 refine⟨UInt8.ofNat n.toNat,trivial,?_⟩
 have:((UInt8.ofNat n.toNat).toNat:Int)=n:=by
  rw[UInt8.toNat_ofNat']
  omega
 simp only[RV.listAt,RV.at_]
 exact⟨_,[],rfl,rfl,by rw[this],rfl⟩
theorem Rd.elems{b o:Nat}{sz:Nat}(hl: ∀s,(c s).length=sz): ∀(n i0:Nat),(∀i,i<n->∃cs,(∀j,j<cs.length->r.w.cell? ⟨b,o+(i0+i)*sz+j,none⟩=cs[j]?)/\∃s,ok s/\RV.listAt r.w (allK r.w) (c s) cs)->
  ∃l:List σ,l.length=n/\(∀x∈l,ok x)/\RV.cellsAt r.w (allK r.w) b (o+i0*sz) (l.flatMap c)
 |0,_,_=>⟨[],rfl,by simp,by simp[RV.cellsAt]⟩
 |n+1,i0,h=>by
  obtain⟨cs,hc,s,hs,hq⟩:=h 0 (by omega)
  obtain⟨l,h1,h2,h3⟩:=Rd.elems hl n (i0+1) λi hi=>by
   have:=h (i+1) (by omega)
   rwa[show i0+(i+1)=i0+1+i by omega]at this
  refine⟨s::l,by simp[h1],λx hx=>?_,?_⟩
  ·rcases List.mem_cons.1 hx with rfl |hx
   ·exact hs
   ·exact h2 x hx
  ·rw[List.flatMap_cons]
   refine zr9 (zsb hq (by simpa using hc)) ?_
   rw[hl,show o+i0*sz+sz=o+(i0+1)*sz by rw[Nat.add_mul];omega]
   exact h3
theorem Rd.slice{sz:Nat}(ht:P.underlying t=some (.slice e))(hC:P.cellsOf e=sz)(h0:0<sz)(hl: ∀s,(c s).length=sz)(h:r.Reads c ok e)
  {fuel:Nat} {cs:List Value} {x:DataW r.H×List MemPlace} (hx:r.trod fuel t cs=some x):
  ∃l:List σ,(∀y∈l,ok y)/\RV.listAt r.w (allK r.w) [.sl sz l.length (l.flatMap c)] cs/\(l=[]\/∃E Sp,x.1= .slice E Sp/\E.length=l.length):=by
 have hlen: ∀l:List σ,(l.flatMap c).length=l.length*sz:=λl=>by
  induction l with
  |nil=>simp
  |cons y l ih=>rw[List.flatMap_cons,List.length_append,hl,ih,List.length_cons,Nat.add_mul];omega
 rcases open_slice ht hx with⟨rfl,_⟩ |⟨a,len,cap,m,n,D,Pl,rfl,hb,hlc,hcm,hm,hd,hi⟩
 ·refine⟨[],by simp,?_, .inl rfl⟩
  simp only[RV.listAt,RV.at_]
  exact⟨_,[],rfl,rfl,⟨none,0,rfl,by simp,by simp,by simp,λh=>absurd h (by simp)⟩,rfl⟩
 ·have hlm:len<=m:=by rw[hm];split<;>omega
  rw[hC]at hi
  by_cases hz:len=0
  ·subst hz
   refine⟨[],by simp,?_, .inl rfl⟩
   simp only[RV.listAt,RV.at_]
   exact⟨_,[],rfl,rfl,⟨some a,cap,rfl,by simp,hcm,by simp,λh=>absurd h (by simp)⟩,rfl⟩
  ·obtain⟨b,o,spot⟩:=a
   obtain⟨cs0,hc0,_⟩:=hi 0 (by omega)
   obtain⟨_,hl0,ha0⟩:=World.cells?_some hc0
   have hs0:=ha0 0 h0
   rw[List.getElem?_eq_getElem (by omega)]at hs0
   have hspot:spot=none:=by simpa[Addr.add]using World.cell?_spot hs0
   subst hspot
   have hblk:b<r.w.heap.size:=by
    have:=hs0
    rw[Nat.zero_mul,add_plain,add_plain]at this
    exact(z31 this).2
   obtain⟨l,h1,h2,h3⟩:=Rd.elems (r:=r) (b:=b) (o:=o) (ok:=ok) hl len 0 λi hil=>by
    obtain⟨cs',hc,ht'⟩:=hi i (by omega)
    obtain⟨_,hcl,hat⟩:=World.cells?_some hc
    refine⟨cs',λj hj=>?_,h n cs' _ ht'⟩
    have:=hat j (by omega)
    rw[add_plain,add_plain]at this
    simpa using this
   refine⟨l,h2,?_, .inr ⟨_,_,by rw[hd],by simp[h1]⟩⟩
   simp only[RV.listAt,RV.at_]
   refine⟨_,[],rfl,rfl,⟨_,cap,by rw[h1],by omega,hcm,hlen l,λ_=>⟨b,o,rfl,hblk,by simpa using h3⟩⟩,rfl⟩
theorem zsp{α β:Type}(f:α->β)(l:List α):(l.flatMap λx=>[f x])=l.map f:=by
 induction l with
 |nil=>rfl
 |cons x l ih=>rw[List.flatMap_cons,ih];rfl
theorem Rd.bytes(ht:P.underlying t=some (.slice e))(he:P.underlying e=some (.int .u8))(hC:P.cellsOf e=1):r.Reads (λl:List UInt8=>[bs l]) (λ_=>True) t:=λfuel cs x hx=>by
 obtain⟨l,_,h,_⟩:=Rd.slice ht hC (by omega) (λ_=>rfl) (Rd.u8 he) hx
 refine⟨l,trivial,?_⟩
 rw[zsp]at h
 exact h
theorem Rd.ints(ht:P.underlying t=some (.slice e))(he:P.underlying e=some (.int .i64))(hC:P.cellsOf e=1):r.Reads (λl:List Int=>[is l]) (λl=>∀x∈l,Sx.i64 x) t:=λfuel cs x hx=>by
 obtain⟨l,h1,h,_⟩:=Rd.slice ht hC (by omega) (λ_=>rfl) (Rd.i64 he) hx
 refine⟨l,h1,?_⟩
 rw[zsp]at h
 exact h
theorem Rd.struct{fs:Array Field}{fuel C:Nat}{cs:List Value}{x:DataW r.H×List MemPlace}(ht:P.underlying t=some (.struct fs))(hC:P.cellsOf t=C)(h:r.trod fuel t cs=some x):
  cs.length=C/\∃(xs:List (DataW r.H×List MemPlace)) (n:Nat),x.1= .agg (xs.map (·.1))/\xs.length=fs.size/\∀(i:Nat) (f:Field),fs[i]?=some f->∀m,P.cellsOf f.type=m->r.trod n f.type ((cs.drop f.offset).take m)=xs[i]?:=by
 obtain⟨xs,n,_,hx,hl,hn,hf⟩:=DataW.trod_struct ht h
 exact⟨hl.trans hC,xs,n,by rw[hx],hn,λi f hi m hm=>hm▸hf i f hi⟩
end
end
section
open Go.RowKit Go.ChangeShapes Go.WideShapes Go.Deep
theorem z7a{α:Type}{l:List α}(h:l.length=3): ∃a0 a1 a2,l=[a0,a1,a2]:=by
 match l,h with
 |[a0,a1,a2],_=>exact⟨_,_,_,rfl⟩
theorem zcqb{α:Type}{l:List α}(h:l.length=6): ∃a0 a1 a2 a3 a4 a5,l=[a0,a1,a2,a3,a4,a5]:=by
 match l,h with
 |[a0,a1,a2,a3,a4,a5],_=>exact⟨_,_,_,_,_,_,rfl⟩
theorem zf9b{α:Type}{l:List α}(h:l.length=10): ∃a0 a1 a2 a3 a4 a5 a6 a7 a8 a9,l=[a0,a1,a2,a3,a4,a5,a6,a7,a8,a9]:=by
 match l,h with
 |[a0,a1,a2,a3,a4,a5,a6,a7,a8,a9],_=>exact⟨_,_,_,_,_,_,_,_,_,_,rfl⟩
section
variable {r:Rd Tryz.prog}
theorem Rd.leaf:r.Reads Leaf.c (λ_=>True) 56:=λfuel cs x hx=>by
 obtain⟨hl,xs,n,_,hxl,hf⟩:=Rd.struct (C:=6) Tryz.underlying56 (by kernel_rfl) hx
 obtain⟨a0,a1,a2,a3,a4,a5,rfl⟩:=zcqb hl
 obtain⟨y0,y1,y2,y3,y4,y5,rfl⟩:=zcqb hxl
 have h0:r.trod n 28 [a0]=some y0:=hf 0 _ rfl 1 (by kernel_rfl)
 have h1:r.trod n 28 [a1]=some y1:=hf 1 _ rfl 1 (by kernel_rfl)
 have h2:r.trod n 28 [a2]=some y2:=hf 2 _ rfl 1 (by kernel_rfl)
 have h3:r.trod n 5 [a3]=some y3:=hf 3 _ rfl 1 (by kernel_rfl)
 have h4:r.trod n 28 [a4]=some y4:=hf 4 _ rfl 1 (by kernel_rfl)
 have h5:r.trod n 28 [a5]=some y5:=hf 5 _ rfl 1 (by kernel_rfl)
 obtain⟨s0,k0,g0⟩:=(Rd.bytes Tryz.underlying28 Tryz.underlying5 (by kernel_rfl)) _ _ _ h0
 obtain⟨s1,k1,g1⟩:=(Rd.bytes Tryz.underlying28 Tryz.underlying5 (by kernel_rfl)) _ _ _ h1
 obtain⟨s2,k2,g2⟩:=(Rd.bytes Tryz.underlying28 Tryz.underlying5 (by kernel_rfl)) _ _ _ h2
 obtain⟨s3,k3,g3⟩:=(Rd.u8 Tryz.underlying5) _ _ _ h3
 obtain⟨s4,k4,g4⟩:=(Rd.bytes Tryz.underlying28 Tryz.underlying5 (by kernel_rfl)) _ _ _ h4
 obtain⟨s5,k5,g5⟩:=(Rd.bytes Tryz.underlying28 Tryz.underlying5 (by kernel_rfl)) _ _ _ h5
 exact⟨⟨s0,s1,s2,s3,s4,s5⟩,trivial,zed g0 (zed g1 (zed g2 (zed g3 (zed g4 g5))))⟩
theorem Rd.par:r.Reads Par.c (λp=>∀x∈p.late,Sx.i64 x) 58:=λfuel cs x hx=>by
 obtain⟨hl,xs,n,_,hxl,hf⟩:=Rd.struct (C:=3) Tryz.underlying58 (by kernel_rfl) hx
 obtain⟨a0,a1,a2,rfl⟩:=z7a hl
 obtain⟨y0,y1,y2,rfl⟩:=z7a hxl
 have h0:r.trod n 28 [a0]=some y0:=hf 0 _ rfl 1 (by kernel_rfl)
 have h1:r.trod n 28 [a1]=some y1:=hf 1 _ rfl 1 (by kernel_rfl)
 have h2:r.trod n 34 [a2]=some y2:=hf 2 _ rfl 1 (by kernel_rfl)
 obtain⟨s0,k0,g0⟩:=(Rd.bytes Tryz.underlying28 Tryz.underlying5 (by kernel_rfl)) _ _ _ h0
 obtain⟨s1,k1,g1⟩:=(Rd.bytes Tryz.underlying28 Tryz.underlying5 (by kernel_rfl)) _ _ _ h1
 obtain⟨s2,k2,g2⟩:=(Rd.ints Tryz.underlying34 Tryz.underlying3 (by kernel_rfl)) _ _ _ h2
 exact⟨⟨s0,s1,s2⟩,k2,zed g0 (zed g1 g2)⟩
theorem Rd.node:r.Reads Node.c (λp=>∀x∈p.par.late,Sx.i64 x) 60:=λfuel cs x hx=>by
 obtain⟨hl,xs,n,_,hxl,hf⟩:=Rd.struct (C:=10) Tryz.underlying60 (by kernel_rfl) hx
 obtain⟨a0,a1,a2,a3,a4,a5,a6,a7,a8,a9,rfl⟩:=zf9b hl
 obtain⟨y0,y1,y2,rfl⟩:=z7a hxl
 have h0:r.trod n 5 [a0]=some y0:=hf 0 _ rfl 1 (by kernel_rfl)
 have h1:r.trod n 56 [a1,a2,a3,a4,a5,a6]=some y1:=hf 1 _ rfl 6 (by kernel_rfl)
 have h2:r.trod n 58 [a7,a8,a9]=some y2:=hf 2 _ rfl 3 (by kernel_rfl)
 obtain⟨s0,k0,g0⟩:=(Rd.u8 Tryz.underlying5) _ _ _ h0
 obtain⟨s1,k1,g1⟩:=Rd.leaf _ _ _ h1
 obtain⟨s2,k2,g2⟩:=Rd.par _ _ _ h2
 exact⟨⟨s0,s1,s2⟩,k2,zed g0 (zed g1 g2)⟩
end
end
section
open Go.ChangeShapes Go.WideShapes Go.ChangeAt Go.RowKit
theorem zbxb:ownKnob Tryz.prog.godebug=none:=by kernel_rfl
theorem zsq:laidOutB Tryz.prog=true:=by kernel_rfl
end
section
open Go.ChangeShapes Go.WideShapes Go.ChangeAt Go.RowKit
set_option maxRecDepth 100000 in
theorem zd9b{H:Type}{enc:TypeId×Value->H}{W:World}{base:Nat}{v:Value}{d:DataW H}{p:List MemPlace}(hval:Value.okWide Tryz.prog W .any base 34 v)
  (h:DataW.Trod enc Tryz.prog W 0 (λ_=>true) true 34 v d p) (hw: ∀n∈d.weights Tryz.prog 34,n<=reachBytes):
  ∃l:List Int,(∀x∈l,Sx.i64 x)/\l.length<=maxL/\(is l).at_ W (allK W) v:=by
 obtain⟨a,n,c,rfl⟩:=okWide_slice Tryz.underlying34 hval
 obtain⟨fuel,hf⟩:=h
 obtain⟨l,h1,h2,h3⟩:=Rd.slice (sz:=1) (r:=⟨H,enc,W,0,λ_=>true,true⟩) (fuel:=fuel) (cs:=[.slice a n c]) (x:=(d,p)) Tryz.underlying34 (by kernel_rfl) (by omega) (λ_=>rfl) (Rd.i64 Tryz.underlying3) hf
 refine⟨l,h1,?_,?_⟩
 ·rcases h3 with rfl |⟨E,Sp,he,hlen⟩
  ·simp
  ·have:=hw ((E.length+Sp.length)*Tryz.prog.bytesOf 3) (by rw[show d= .slice E Sp from he];simp[DataW.weights,Tryz.underlying34])
   rw[show Tryz.prog.bytesOf 3=8 by kernel_rfl]at this
   simp only[reachBytes]at this
   unfold maxL
   omega
 ·rw[zsp]at h2
  simp only[RV.listAt]at h2
  obtain⟨u,r,e,_,hat,rfl⟩:=h2
  simp only[List.cons.injEq,and_true]at e
  rw[e]
  exact hat
set_option maxRecDepth 100000 in
theorem za6b{H:Type}{enc:TypeId×Value->H}{W:World}{base:Nat}{v:Value}{d:DataW H}{p:List MemPlace}(hval:Value.okWide Tryz.prog W .any base 28 v)
  (h:DataW.Trod enc Tryz.prog W 0 (λ_=>true) true 28 v d p):
  ∃l:List UInt8,(bs l).at_ W (allK W) v:=by
 obtain⟨a,n,c,rfl⟩:=okWide_slice Tryz.underlying28 hval
 obtain⟨fuel,hf⟩:=h
 obtain⟨l,_,h2⟩:=Rd.bytes (r:=⟨H,enc,W,0,λ_=>true,true⟩) Tryz.underlying28 Tryz.underlying5 (by kernel_rfl) fuel [.slice a n c] (d,p) hf
 refine⟨l,?_⟩
 simp only[RV.listAt]at h2
 obtain⟨u,r,e,_,hat,rfl⟩:=h2
 simp only[List.cons.injEq,and_true]at e
 rw[e]
 exact hat
end
end Go.Proofs.YtpdllgbfemnemaaGreat.Sx
