import Derived.Test.YtkegaaonpekkgaaGreatXqSxV
import Derived.ProofKit
import Derived.Deep.Slices
import Derived.Deep.Fields
import Derived.SizedLaws
import Derived.Test.YtkegaaonpekkgaaGreatRows
import Derived.Below
import Derived.ChangeOld
import Derived.OpenShut
namespace Go.Proofs.YtkegaaonpekkgaaGreat.Sx
open Go.RowKit
section
open Go.RowKit Go.ChangeShapes Go.WideShapes Go.Deep
def tt(w:World):Kp:=λb=>((w.heap[b]?).map λo=>match o with | .cells c _ _=>c.size |_=>0).getD 0
theorem Yh{w:World}{b o:Nat}{v:Value}(h:w.cell? ⟨b,o,none⟩=some v):o<tt w b/\b<w.heap.size:=by
 unfold World.cell? at h
 unfold tt
 cases hb:w.heap[b]? with
 |none=>simp[hb]at h
 |some ob=>
  have h1:b<w.heap.size:=(Array.getElem?_eq_some_iff.1 hb).1
  cases ob with
  |cells c t fr=>
   simp[hb]at h
   exact⟨by simpa[hb]using(Array.getElem?_eq_some_iff.1 h).1,h1⟩
  |_=>simp[hb]at h
theorem yo{w:World}{k:Kp}: ∀{xs ys:List RV} {us vs:List Value},RV.listAt w k xs us->RV.listAt w k ys vs->RV.listAt w k (xs++ys) (us++vs)
 |[],_,us,_,h,g=>by
  simp only[RV.listAt]at h
  subst h
  exact g
 |x::xs,_,us,_,h,g=>by
  simp only[RV.listAt]at h
  obtain⟨u,r,rfl,h1,h2,h3⟩:=h
  simp only[List.cons_append,RV.listAt]
  exact⟨u,_,rfl,h1,h2,yo h3 g⟩
theorem eC{w:World}{k:Kp}{b:Nat}: ∀{xs ys:List RV} {o:Nat},RV.cellsAt w k b o xs->RV.cellsAt w k b (o+xs.length) ys->RV.cellsAt w k b o (xs++ys)
 |[],_,_,_,g=>g
 |x::xs,ys,o,h,g=>by
  simp only[List.cons_append,RV.cellsAt]at h⊢
  exact⟨h.1,eC h.2 (by rwa[bJ,show o+(xs.length+1)=o+1+xs.length by omega]at g)⟩
theorem eD{w:World}{b:Nat}: ∀{fs:List RV} {cs:List Value} {o:Nat},RV.listAt w (tt w) fs cs->(∀j,j<cs.length->w.cell? ⟨b,o+j,none⟩=cs[j]?)->RV.cellsAt w (tt w) b o fs
 |[],_,_,_,_=>by simp[RV.cellsAt]
 |f::fs,cs,o,h,hc=>by
  simp only[RV.listAt]at h
  obtain⟨u,r,rfl,h1,h2,h3⟩:=h
  have h0:=hc 0 (by simp)
  simp only[Nat.add_zero,List.getElem?_cons_zero]at h0
  simp only[RV.cellsAt]
  refine⟨⟨(Yh h0).1,u,h0,h1,h2⟩,eD h3 λj hj=>?_⟩
  have:=hc (j+1) (by simpa using hj)
  rw[show o+1+j=o+(j+1)by omega]
  simpa using this
structure Rd (P:Program):Type 1 where
 H:Type
 enc:TypeId×Value->H
 w:World
 base:Nat
 spare:Nat->Bool
 held:Bool
def Rd.trod{P:Program}(r:Rd P)(fuel:Nat)(t:TypeId)(cs:List Value):Option (DataW r.H×List MemPlace):=DataW.trod r.enc P r.w r.base r.spare r.held fuel t cs
def Rd.Reads{P:Program}(r:Rd P){σ:Type}(c:σ->List RV)(ok:σ->Prop)(t:TypeId):Prop:=
 ∀fuel cs x,r.trod fuel t cs=some x->∃s,ok s/\RV.listAt r.w (tt r.w) (c s) cs
section
variable {P:Program} {r:Rd P} {t e:TypeId} {σ:Type} {c:σ->List RV} {ok:σ->Prop}
theorem Rd.i64(ht:P.underlying t=some (.int .i64)):r.Reads (λn:Int=>[I n]) i64 t:=λfuel cs x h=>by
 obtain⟨n,rfl,_,hw⟩:=DataW.trod_int ht h
 refine⟨n,?_,by simp only[RV.listAt,RV.at_];exact⟨_,[],rfl,rfl,rfl,rfl⟩⟩
 simp only[Lit.wf,bB,decide_eq_true_eq]at hw
 exact⟨hw.1,hw.2⟩
theorem Rd.u8(ht:P.underlying t=some (.int .u8)):r.Reads (λn:UInt8=>[U8 n]) (λ_=>True) t:=λfuel cs x h=>by
 obtain⟨n,rfl,_,hw⟩:=DataW.trod_int ht h
 have hn:0<=n/\n<256:=by
  simp only[Lit.wf,bB,decide_eq_true_eq]at hw
  have h1:(0:Int)<=n:=hw.1
  have h2:n<=255:=hw.2
  omega
 refine⟨UInt8.ofNat n.toNat,trivial,?_⟩
 have:((UInt8.ofNat n.toNat).toNat:Int)=n:=by
  rw[UInt8.toNat_ofNat']
  omega
 simp only[RV.listAt,RV.at_]
 exact⟨_,[],rfl,rfl,by rw[this],rfl⟩
theorem Rd.elems{b o:Nat}{sz:Nat}(hl: ∀s,(c s).length=sz): ∀(n i0:Nat),(∀i,i<n->∃cs,(∀j,j<cs.length->r.w.cell? ⟨b,o+(i0+i)*sz+j,none⟩=cs[j]?)/\∃s,ok s/\RV.listAt r.w (tt r.w) (c s) cs)->
  ∃l:List σ,l.length=n/\(∀x∈l,ok x)/\RV.cellsAt r.w (tt r.w) b (o+i0*sz) (l.flatMap c)
 |0,_,_=>⟨[],rfl,by simp,by simp[RV.cellsAt]⟩
 |n+1,i0,h=>by
  obtain⟨cs,hc,s,hs,hq⟩:=h 0 (by omega)
  obtain⟨l,h1,h2,h3⟩:=Rd.elems hl n (i0+1) λi hi=>by
   have:=h (i+1) (by omega)
   rwa[show i0+(i+1)=i0+1+i by omega]at this
  refine⟨s::l,by simp[h1],λx hx=>?_,?_⟩
  ·rcases List.mem_cons.1 hx with rfl |hx
   ·exact hs
   ·exact h2 x hx
  ·rw[List.flatMap_cons]
   refine eC (eD hq (by simpa using hc)) ?_
   rw[hl,show o+i0*sz+sz=o+(i0+1)*sz by rw[Nat.add_mul];omega]
   exact h3
theorem Rd.slice{sz:Nat}(ht:P.underlying t=some (.slice e))(hC:P.cellsOf e=sz)(h0:0<sz)(hl: ∀s,(c s).length=sz)(h:r.Reads c ok e)
  {fuel:Nat} {cs:List Value} {x:DataW r.H×List MemPlace} (hx:r.trod fuel t cs=some x):
  ∃l:List σ,(∀y∈l,ok y)/\RV.listAt r.w (tt r.w) [.sl sz l.length (l.flatMap c)] cs/\(l=[]\/∃E Sp,x.1= .slice E Sp/\E.length=l.length):=by
 have hlen: ∀l:List σ,(l.flatMap c).length=l.length*sz:=λl=>by
  induction l with
  |nil=>simp
  |cons y l ih=>rw[List.flatMap_cons,aL,hl,ih,bJ,Nat.add_mul];omega
 rcases open_slice ht hx with⟨rfl,_⟩ |⟨a,len,cap,m,n,D,Pl,rfl,hb,hlc,hcm,hm,hd,hi⟩
 ·refine⟨[],by simp,?_,.inl rfl⟩
  simp only[RV.listAt,RV.at_]
  exact⟨_,[],rfl,rfl,⟨none,0,rfl,by simp,by simp,by simp,λh=>absurd h (by simp)⟩,rfl⟩
 ·have hlm:len<=m:=by rw[hm];split<;>omega
  rw[hC]at hi
  by_cases hz:len=0
  ·subst hz
   refine⟨[],by simp,?_,.inl rfl⟩
   simp only[RV.listAt,RV.at_]
   exact⟨_,[],rfl,rfl,⟨some a,cap,rfl,by simp,hcm,by simp,λh=>absurd h (by simp)⟩,rfl⟩
  ·obtain⟨b,o,spot⟩:=a
   obtain⟨cs0,hc0,_⟩:=hi 0 (by omega)
   obtain⟨_,hl0,ha0⟩:=World.cells?_some hc0
   have hs0:=ha0 0 h0
   rw[bA (by omega)]at hs0
   have hspot:spot=none:=by simpa[Addr.add]using World.cell?_spot hs0
   subst hspot
   have hblk:b<r.w.heap.size:=by
    have:=hs0
    rw[Nat.zero_mul,add_plain,add_plain]at this
    exact(Yh this).2
   obtain⟨l,h1,h2,h3⟩:=Rd.elems (r:=r) (b:=b) (o:=o) (ok:=ok) hl len 0 λi hil=>by
    obtain⟨cs',hc,ht'⟩:=hi i (by omega)
    obtain⟨_,hcl,hat⟩:=World.cells?_some hc
    refine⟨cs',λj hj=>?_,h n cs' _ ht'⟩
    have:=hat j (by omega)
    rw[add_plain,add_plain]at this
    simpa using this
   refine⟨l,h2,?_,.inr ⟨_,_,by rw[hd],by simp[h1]⟩⟩
   simp only[RV.listAt,RV.at_]
   refine⟨_,[],rfl,rfl,⟨_,cap,by rw[h1],by omega,hcm,hlen l,λ_=>⟨b,o,rfl,hblk,by simpa using h3⟩⟩,rfl⟩
theorem Vz{α β:Type}(f:α->β)(l:List α):(l.flatMap λx=>[f x])=l.map f:=by
 induction l with
 |nil=>rfl
 |cons x l ih=>rw[List.flatMap_cons,ih];rfl
theorem Rd.bytes(ht:P.underlying t=some (.slice e))(he:P.underlying e=some (.int .u8))(hC:P.cellsOf e=1):r.Reads (λl:cT=>[bs l]) (λ_=>True) t:=λfuel cs x hx=>by
 obtain⟨l,_,h,_⟩:=Rd.slice ht hC (by omega) (λ_=>rfl) (Rd.u8 he) hx
 refine⟨l,trivial,?_⟩
 rw[Vz]at h
 exact h
theorem Rd.struct{fs:Array Field}{fuel C:Nat}{cs:List Value}{x:DataW r.H×List MemPlace}(ht:P.underlying t=some (.struct fs))(hC:P.cellsOf t=C)(h:r.trod fuel t cs=some x):
  cs.length=C/\∃(xs:List (DataW r.H×List MemPlace)) (n:Nat),x.1= .agg (xs.map (·.1))/\xs.length=fs.size/\∀(i:Nat) (f:Field),fs[i]?=some f->∀m,P.cellsOf f.type=m->r.trod n f.type ((cs.drop f.offset).take m)=xs[i]?:=by
 obtain⟨xs,n,_,hx,hl,hn,hf⟩:=DataW.trod_struct ht h
 exact⟨hl.trans hC,xs,n,by rw[hx],hn,λi f hi m hm=>hm▸hf i f hi⟩
end
end
section
open Go.RowKit Go.ChangeShapes Go.WideShapes Go.Deep
theorem B1{α:Type}{l:List α}(h:l.length=3): ∃a0 a1 a2,l=[a0,a1,a2]:=by
 match l,h with
 |[a0,a1,a2],_=>exact⟨_,_,_,rfl⟩
theorem B2{α:Type}{l:List α}(h:l.length=4): ∃a0 a1 a2 a3,l=[a0,a1,a2,a3]:=by
 match l,h with
 |[a0,a1,a2,a3],_=>exact⟨_,_,_,_,rfl⟩
theorem He{α:Type}{l:List α}(h:l.length=6): ∃a0 a1 a2 a3 a4 a5,l=[a0,a1,a2,a3,a4,a5]:=by
 match l,h with
 |[a0,a1,a2,a3,a4,a5],_=>exact⟨_,_,_,_,_,_,rfl⟩
section
variable {r:Rd Tryz.prog}
theorem Rd.leaf:r.Reads Leaf.c (λ_=>True) 29:=λfuel cs x hx=>by
 obtain⟨hl,xs,n,_,hxl,hf⟩:=Rd.struct (C:=6) Tryz.underlying29 (by kernel_rfl) hx
 obtain⟨a0,a1,a2,a3,a4,a5,rfl⟩:=He hl
 obtain⟨y0,y1,y2,y3,y4,y5,rfl⟩:=He hxl
 have h0:r.trod n 22 [a0]=some y0:=hf 0 _ rfl 1 (by kernel_rfl)
 have h1:r.trod n 22 [a1]=some y1:=hf 1 _ rfl 1 (by kernel_rfl)
 have h2:r.trod n 22 [a2]=some y2:=hf 2 _ rfl 1 (by kernel_rfl)
 have h3:r.trod n 5 [a3]=some y3:=hf 3 _ rfl 1 (by kernel_rfl)
 have h4:r.trod n 22 [a4]=some y4:=hf 4 _ rfl 1 (by kernel_rfl)
 have h5:r.trod n 22 [a5]=some y5:=hf 5 _ rfl 1 (by kernel_rfl)
 obtain⟨s0,k0,g0⟩:=(Rd.bytes Tryz.underlying22 Tryz.underlying5 (by kernel_rfl)) _ _ _ h0
 obtain⟨s1,k1,g1⟩:=(Rd.bytes Tryz.underlying22 Tryz.underlying5 (by kernel_rfl)) _ _ _ h1
 obtain⟨s2,k2,g2⟩:=(Rd.bytes Tryz.underlying22 Tryz.underlying5 (by kernel_rfl)) _ _ _ h2
 obtain⟨s3,k3,g3⟩:=(Rd.u8 Tryz.underlying5) _ _ _ h3
 obtain⟨s4,k4,g4⟩:=(Rd.bytes Tryz.underlying22 Tryz.underlying5 (by kernel_rfl)) _ _ _ h4
 obtain⟨s5,k5,g5⟩:=(Rd.bytes Tryz.underlying22 Tryz.underlying5 (by kernel_rfl)) _ _ _ h5
 exact⟨⟨s0,s1,s2,s3,s4,s5⟩,trivial,yo g0 (yo g1 (yo g2 (yo g3 (yo g4 g5))))⟩
end
end
section
open Go.ChangeShapes Go.WideShapes Go.ChangeAt Go.RowKit
theorem yu{g:Nat->Bool}{a b c:Nat}(h:(List.range' a b).all g=true)(k:(List.range' (a+b) c).all g=true):(List.range' a (b+c)).all g=true:=by
 rw[<-List.range'_append_1,List.all_append,h,k];rfl
theorem tm{α:Type}{g:Nat->α}{a b c:Nat}{l m:List α}(h:(List.range' a b).map g=l)(k:(List.range' (a+b) c).map g=m):(List.range' a (b+c)).map g=l++m:=by
 rw[<-List.range'_append_1,bM,h,k]
theorem qu{g:Nat->Bool}{n:Nat}(h:(List.range' 0 n).all g=true):(List.range n).all g=true:=by rw[List.range_eq_range'];exact h
theorem ZE{α β:Type}(l:List α)(d:β)(h:α->β):l.map h=(List.range l.length).map λi=>(l[i]?).elim d h:=by
 apply List.ext_getElem
 ·simp
 ·intro i h1 h2
  simp at h1
  simp[bA h1]
theorem kQ{α:Type}(l:List α)(h:α->Bool):l.all h=(List.range l.length).all λi=>(l[i]?).elim true h:=by
 have e:=ZE l true h
 have: ∀m:List Bool,∀l:List α,l.map h=m->l.all h=m.all id:=λm l hm=>by rw[<-hm,List.all_map];rfl
 rw[this _ _ e,List.all_map];rfl
noncomputable def leadAt (i:Nat):List Nat:=(Tryz.prog.funcs[i]?).elim [] Tryz.prog.leadsTo
def JV:List (List Nat):=[[],[],[1],[6,7,8,9,12,13,11,10,14,15,17,16],[6,18,19,18,20,21,22,23,26,25,27,24,28,29,28,29,30,31,32,34,35,33],[6,36,37,38,39,40,17,16],[41,7,41,38,40,17],[8,42,43,45,46,44,47,48],[45,49,45,49,45,50,51,52,53],[54],[55,57,56,56,56,56,56,56,56,56,56,56],[58,59,12],[60,61,61,62],[],[65,64,64,63,65,63],[61,67,66],[33,68,24,23,24,24],[69],[70,71],[],[72,73,74,75],[42,46,46,76,53,77,78],[13,13,20,79,53,80,14],[81,24,24,24],[],[82],[85,85,86,84,87,88,83,83],[26,89],[90,76,91,77,78,92],[24,20,79,91,80,14,24],[93],[27,24],[94,95],[96,24,24,97,98],[99,42,42,100,44,47,48,101],[20,102,103,11,10,14,15],[21,104],[105,36,25],[106,30,107,108,21,43,34,77,78,104,109,42,69],[110],[111,90,112,28,113,114,115],[],[],[116],[118,117],[119],[],[14],[120,63],[122,121,123],[124,126,125,127],[128,129,130,53],[132,133,131],[136,135],[137,66],[57,59,12],[12],[58],[66,66,66],[85,85,88,84,60,83,88,88,84,83],[],[138],[58],[64,139]]
theorem Db:(List.range' 0 64).map leadAt=JV:=by kernel_rfl
def JW:List (List Nat):=[[140],[63],[141,142],[],[143],[144,145,42,146,42,42],[147,148],[148,70],[149,150,151,152],[150],[149,150],[74,72,153,150],[154,155,131],[154,158,131],[14],[85,85,86,84,59,83],[79,87,83],[24,32,160],[120,120,63],[],[83,83],[60],[88,60,84,161,83,83,162,83,163,83],[88,88,83,88],[61],[61,61,66],[114],[136,164],[],[166,165],[24,95,24],[24,24,24,24,24],[24,24,24],[168],[169],[154,170,131],[63],[42],[85,86,88,84],[67,66],[154,174,131],[45,49,51],[167],[175,176,177,145,178,179,180],[46,181,182,45,183,145,184,45,186,185],[187,188,45,189,190],[45,63,119],[192,194,191],[175,195,196],[25,93],[],[30,107,198,197,199,200,43,34,92],[175,201],[202,42,45,157,203,204,45],[202,157,203],[205,120,120,206],[207],[205,208,206],[208,202],[210,211,209],[210,210,213,212,214,215],[216,217,218,218,219,220,221,220],[222],[216,213,212,211,212,223]]
theorem Dc:(List.range' 64 64).map leadAt=JW:=by kernel_rfl
def JX:List (List Nat):=[[42],[],[224,120,205],[],[225],[134],[172,172,171,226],[50,222,228,227,124,125,127,228,227,230,229,231,64],[120,120],[232,60,233,234,233,232,235,234,233,54,61,54,61,233,233],[],[236,237,238,239],[],[],[240,240,241,240,240,241,240,240,240,240,240,240],[95,24,24,242],[42,243,101],[196],[104,111],[148],[],[150],[95],[152],[244],[152],[245,246,247,248,249],[156,157],[172,172,173],[172,172,171,172,171,171],[156,157,159],[171,171],[95,24,32,24,24,24],[60],[250,83,251,83,161,83],[88,84,162,84,88,83,88,88,84,88,88,84,88,251,84,88,83],[252,253,252,228,227,124,125,125,255,254],[],[167,114],[104,25],[24],[24],[172,173,171],[120],[205],[171,172,172,256,257],[156,159,171],[258,259,260,260,261],[262],[263,264,114,114,114,265],[197,266],[267,268,269,196],[],[101,271,270],[273,274],[275,276,277,278,42,279,280,45,49,51,281,282,196],[258,175,283,284,285],[275,276,196,42,286,280,205,205,119,288,287],[43,157],[289,290,53],[291,291,284,293,292],[294,295,296,297],[298,299,131],[300,302,301]]
theorem Dd:(List.range' 128 64).map leadAt=JX:=by kernel_rfl
def JY:List (List Nat):=[[193],[303,303,304,305,303,305,305,306,307,301,304,304,304],[154],[258],[128,42,42,308],[309],[],[93,311,310],[46,181,312,182,186,313],[314,315,201,317,201,316,63],[14],[119],[],[237,318],[14],[319,237,205],[],[321,322,320],[],[323],[324,325,326],[328,327],[329,210,330,218,212,210,219,213,212,331],[210,212],[217],[210,215],[210,332,210,213,212],[326],[330,330,212,219,219,212,212,212,219,212,330,330,219,219,212,212,212,212],[],[228,227],[323],[120,120],[333],[333],[334,335],[64,336],[337,338],[339,325,325,335],[],[],[],[251,340,60,340,61,340,61,61,340,340],[341],[],[],[],[342,343,344,344,344,344,344,344],[],[],[],[42],[],[],[132,345,346,225,346,345,245],[249],[346,345],[347,348,345,350],[351,88,83],[352,61,340],[322,42,211,114,214,353,332,215],[334,355,354],[216,216,212,212,356,212,212,356],[216,216,218,218,219,220]]
theorem De:(List.range' 192 64).map leadAt=JY:=by kernel_rfl
def JZ:List (List Nat):=[[134,171,226,172],[171,256,171,171,171,171,171,226,171],[357],[358],[359,360],[258,272,284,361],[175,362],[246,363,131],[52,265,114,91],[130,129,91],[],[175,364,195,365,366],[175,195,362,365,258,260,258,367],[175,364,258,145,366,284,361,368],[369],[272],[370,370,371],[116,112,373,372],[375,374,196,376,374,42],[377],[283,284,378,379],[45,380],[45,49],[120,120,120,63],[377,196],[381,382],[196,385,384,196,196,272,42],[284,386],[387,387],[315,285,317,285],[308,389,388],[392,391],[],[42],[393,394,131],[357],[],[272],[393,396,131],[203,203],[397,398,399],[400,403],[404,405],[171,171,171,172,172,172,171,171],[],[],[406],[305,301],[407,406,301],[408,406,301],[305,409,410,305,301],[412,411,414,410,415,411],[],[],[],[114],[182,276,417,286,279,114,145,282],[418,378,286,419,420,280,421,42,281],[358,205],[422],[358,120,120],[422],[],[]]
theorem Df:(List.range' 256 64).map leadAt=JZ:=by kernel_rfl
def Ha:List (List Nat):=[[210,210,423,423,213,212,211],[],[424],[326,326],[339,325,325],[],[],[210,329,212],[425],[212],[326],[328,327,329,356,210,328,327,212,329,356,223,332],[330],[129,224,120],[],[337,338],[426,427,429,428,430],[325],[355,354],[],[],[431],[344,344,344,344],[],[432],[433],[345],[434],[349],[246,248],[225,435,436],[85,85,83,88,251,84],[61,61,340,61,340,340,61,340],[356],[439],[],[323,323],[440],[441,224,120,442],[443],[],[444,445,445],[],[256],[333],[145,258,284],[196],[],[446,447],[],[],[370],[448,450,451],[],[452,453],[454],[455],[456,457],[377,458],[377,459],[45],[461,460],[383],[462,462]]
theorem Dg:(List.range' 320 64).map leadAt=Ha:=by kernel_rfl
def Hb:List (List Nat):=[[],[],[387,317,315],[291,371],[292],[390],[280,464,463],[465,466,296],[208,120,120],[245],[395],[157,171,172],[395,171],[],[237,428,467],[468,469,428,469,470,471,470,471,467,469,470,472],[401,402,205,119,287],[132,473,131],[474,475,131],[],[],[476],[],[477,478],[318,479,480],[303,303,304,410,304],[481,301],[304,300,482,301],[413],[305,306,304,301],[483,406,301],[416],[304,484,411],[265,114,114],[275,188,284,485,280],[421,486],[278,114,380],[487,369],[371],[219,330,219,330,212,212,329,329,330,212,210,212,219,212,219,329,330,329,212],[],[488,489],[],[],[490],[237],[491,492,492,492,492,492,492],[493],[],[494,114,114,114,114,114,114,114],[],[495],[437,438],[],[496],[],[497,498],[499,500,129,500,499,501],[205,120,120,120],[],[462,462],[],[],[502]]
theorem Dh:(List.range' 384 64).map leadAt=Hb:=by kernel_rfl
def Hc:List (List Nat):=[[272,449],[504,503],[315,317],[357],[505],[461,506],[],[],[],[357,507,508,372,375,374,494,376,374,494],[315,458,317,458],[42,314,315,459,317,459,316,63],[509,510,511,512,513,514,515,516,460,460],[517,518],[],[519],[433],[49,520,521],[122,122,64,122,121,121],[237,468],[522,523,524],[],[],[470],[],[134,171,82],[],[171,171,171],[],[479,525,479,480,319,525],[479,42],[525,525],[],[407,407,407,408,406,407,407,406,129],[],[479,525],[304,304],[],[392,526],[],[527,339],[],[],[492,492,492,492],[528],[],[],[],[],[],[],[],[],[],[529,529,529],[292],[272],[],[530,531,532,533,534,535,444,536,537,506,506],[358,538,503],[],[],[539,539],[540,541]]
theorem Di:(List.range' 448 64).map leadAt=Hc:=by kernel_rfl
def Hd:List (List Nat):=[[542,542,542,543],[],[],[],[],[],[],[],[209,544,545],[122,64,121],[546,546,547],[546],[546],[],[548,466,549],[],[],[],[444],[550,550],[540,541],[551,551,551,552],[],[444,444,444],[444,444],[444,444,444,444],[272],[],[461],[],[543],[553,553,553],[554],[],[],[],[520,123,521],[397,399,398],[444,444],[552],[555,555,555],[],[],[444],[],[],[],[],[],[],[],[],[],[],[],[],[],[],[],[],[],[]]
theorem Dj:(List.range' 512 62).map leadAt=Hd:=by kernel_rfl
def leadL:List (List Nat):=(JV++(JW++(JX++(JY++(JZ++(Ha++(Hb++(Hc++Hd))))))))
theorem Us:(List.range' 0 574).map leadAt=leadL:=tm (b:=64) (c:=510) Db (tm (b:=64) (c:=446) Dc (tm (b:=64) (c:=382) Dd (tm (b:=64) (c:=318) De (tm (b:=64) (c:=254) Df (tm (b:=64) (c:=190) Dg (tm (b:=64) (c:=126) Dh (tm (b:=64) (c:=62) Di (Dj))))))))
theorem Ej:(List.range' 0 64).all (rowFine Tryz.prog)=true:=by kernel_rfl
theorem Ek:(List.range' 64 64).all (rowFine Tryz.prog)=true:=by kernel_rfl
theorem El:(List.range' 128 64).all (rowFine Tryz.prog)=true:=by kernel_rfl
theorem Em:(List.range' 192 64).all (rowFine Tryz.prog)=true:=by kernel_rfl
theorem En:(List.range' 256 64).all (rowFine Tryz.prog)=true:=by kernel_rfl
theorem Eo:(List.range' 320 64).all (rowFine Tryz.prog)=true:=by kernel_rfl
theorem Ep:(List.range' 384 64).all (rowFine Tryz.prog)=true:=by kernel_rfl
theorem Es:(List.range' 448 64).all (rowFine Tryz.prog)=true:=by kernel_rfl
theorem Et:(List.range' 512 64).all (rowFine Tryz.prog)=true:=by kernel_rfl
theorem Eu:(List.range' 576 7).all (rowFine Tryz.prog)=true:=by kernel_rfl
theorem LB:(List.range' 0 583).all (rowFine Tryz.prog)=true:=yu (b:=64) (c:=519) Ej (yu (b:=64) (c:=455) Ek (yu (b:=64) (c:=391) El (yu (b:=64) (c:=327) Em (yu (b:=64) (c:=263) En (yu (b:=64) (c:=199) Eo (yu (b:=64) (c:=135) Ep (yu (b:=64) (c:=71) Es (yu (b:=64) (c:=7) Et (Eu)))))))))
noncomputable def mapFine (t:Nat):Bool:=match Tryz.prog.underlying t with |some (.map _ e)=>decide (e<Tryz.prog.types.size) |_=>true
theorem Do:(List.range' 0 64).all mapFine=true:=by kernel_rfl
theorem Dp:(List.range' 64 64).all mapFine=true:=by kernel_rfl
theorem Dq:(List.range' 128 64).all mapFine=true:=by kernel_rfl
theorem Dr:(List.range' 192 64).all mapFine=true:=by kernel_rfl
theorem Ds:(List.range' 256 64).all mapFine=true:=by kernel_rfl
theorem Dt:(List.range' 320 64).all mapFine=true:=by kernel_rfl
theorem Du:(List.range' 384 64).all mapFine=true:=by kernel_rfl
theorem Dv:(List.range' 448 64).all mapFine=true:=by kernel_rfl
theorem Dw:(List.range' 512 64).all mapFine=true:=by kernel_rfl
theorem Dx:(List.range' 576 7).all mapFine=true:=by kernel_rfl
theorem KH:(List.range' 0 583).all mapFine=true:=yu (b:=64) (c:=519) Do (yu (b:=64) (c:=455) Dp (yu (b:=64) (c:=391) Dq (yu (b:=64) (c:=327) Dr (yu (b:=64) (c:=263) Ds (yu (b:=64) (c:=199) Dt (yu (b:=64) (c:=135) Du (yu (b:=64) (c:=71) Dv (yu (b:=64) (c:=7) Dw (Dx)))))))))
noncomputable def keyFine (t:Nat):Bool:=match Tryz.prog.underlying t with |some (.map k _)=>(match Tryz.prog.underlying k with |some (.array _ _) |some (.struct _)=>false |_=>true) |_=>true
theorem ER:(List.range' 0 64).all keyFine=true:=by kernel_rfl
theorem ES:(List.range' 64 64).all keyFine=true:=by kernel_rfl
theorem ET:(List.range' 128 64).all keyFine=true:=by kernel_rfl
theorem EU:(List.range' 192 64).all keyFine=true:=by kernel_rfl
theorem EV:(List.range' 256 64).all keyFine=true:=by kernel_rfl
theorem EW:(List.range' 320 64).all keyFine=true:=by kernel_rfl
theorem EX:(List.range' 384 64).all keyFine=true:=by kernel_rfl
theorem EY:(List.range' 448 64).all keyFine=true:=by kernel_rfl
theorem EZ:(List.range' 512 64).all keyFine=true:=by kernel_rfl
theorem Da:(List.range' 576 7).all keyFine=true:=by kernel_rfl
theorem K7:(List.range' 0 583).all keyFine=true:=yu (b:=64) (c:=519) ER (yu (b:=64) (c:=455) ES (yu (b:=64) (c:=391) ET (yu (b:=64) (c:=327) EU (yu (b:=64) (c:=263) EV (yu (b:=64) (c:=199) EW (yu (b:=64) (c:=135) EX (yu (b:=64) (c:=71) EY (yu (b:=64) (c:=7) EZ (Da)))))))))
noncomputable def parFine (i:Nat):Bool:=(Tryz.prog.funcs.toList[i]?).elim true λf=>f.params.all λt=>decide (t<Tryz.prog.types.size)
theorem DE:(List.range' 0 64).all parFine=true:=by kernel_rfl
theorem DF:(List.range' 64 64).all parFine=true:=by kernel_rfl
theorem DG:(List.range' 128 64).all parFine=true:=by kernel_rfl
theorem DH:(List.range' 192 64).all parFine=true:=by kernel_rfl
theorem DI:(List.range' 256 64).all parFine=true:=by kernel_rfl
theorem DJ:(List.range' 320 64).all parFine=true:=by kernel_rfl
theorem DK:(List.range' 384 64).all parFine=true:=by kernel_rfl
theorem DL:(List.range' 448 64).all parFine=true:=by kernel_rfl
theorem DM:(List.range' 512 62).all parFine=true:=by kernel_rfl
theorem KU:(List.range' 0 574).all parFine=true:=yu (b:=64) (c:=510) DE (yu (b:=64) (c:=446) DF (yu (b:=64) (c:=382) DG (yu (b:=64) (c:=318) DH (yu (b:=64) (c:=254) DI (yu (b:=64) (c:=190) DJ (yu (b:=64) (c:=126) DK (yu (b:=64) (c:=62) DL (DM))))))))
noncomputable def stopFine (i:Nat):Bool:=(Tryz.prog.funcs.toList[i]?).elim true λfn=>(Stop.rowOf fn).isNone|| !fn.norace
theorem Fv:(List.range' 0 64).all stopFine=true:=by kernel_rfl
theorem Fw:(List.range' 64 64).all stopFine=true:=by kernel_rfl
theorem Fx:(List.range' 128 64).all stopFine=true:=by kernel_rfl
theorem Fy:(List.range' 192 64).all stopFine=true:=by kernel_rfl
theorem Fz:(List.range' 256 64).all stopFine=true:=by kernel_rfl
theorem F0:(List.range' 320 64).all stopFine=true:=by kernel_rfl
theorem F2:(List.range' 384 64).all stopFine=true:=by kernel_rfl
theorem F3:(List.range' 448 64).all stopFine=true:=by kernel_rfl
theorem F4:(List.range' 512 62).all stopFine=true:=by kernel_rfl
theorem MT:(List.range' 0 574).all stopFine=true:=yu (b:=64) (c:=510) Fv (yu (b:=64) (c:=446) Fw (yu (b:=64) (c:=382) Fx (yu (b:=64) (c:=318) Fy (yu (b:=64) (c:=254) Fz (yu (b:=64) (c:=190) F0 (yu (b:=64) (c:=126) F2 (yu (b:=64) (c:=62) F3 (F4))))))))
theorem pX:Tryz.prog.funcs.size=574:=by kernel_rfl
theorem lY:Tryz.prog.types.size=583:=by kernel_rfl
theorem ZA:laidOutB Tryz.prog=true:=by
 have h1:(List.range Tryz.prog.types.size).all (rowFine Tryz.prog)=true:=by rw[lY];exact qu LB
 have h2:Tryz.prog.globals.all (λg=>decide (g.type<Tryz.prog.types.size))=true:=by kernel_rfl
 have h3:Tryz.prog.funcs.all (λf=>f.params.all λt=>decide (t<Tryz.prog.types.size))=true:=by
  rw[<-Array.all_toList,kQ,bG,pX];exact qu KU
 unfold laidOutB
 rw[h1,h2,h3];rfl
def U2(P:Program)(t:Nat):Bool:=match P.underlying t with |some (.map _ e)=>decide (e<P.types.size) |_=>true
def Um(P:Program)(t:Nat):Bool:=match P.underlying t with |some (.map k _)=>(match P.underlying k with |some (.array _ _) |some (.struct _)=>false |_=>true) |_=>true
theorem GR{P:Program}{n:Nat}(hn:P.types.size=n)(h:(List.range n).all (U2 P)=true):mapsRowed P=true:=by subst hn;exact h
theorem GJ{P:Program}{n:Nat}(hn:P.types.size=n)(h:(List.range n).all (Um P)=true):P.plainKeys=true:=by subst hn;exact h
theorem P2:mapFine=U2 Tryz.prog:=by kernel_rfl
theorem Pv:keyFine=Um Tryz.prog:=by kernel_rfl
theorem P3:mapsRowed Tryz.prog=true:=GR lY (by rw[<-P2];exact qu KH)
theorem Py:Tryz.prog.plainKeys=true:=GJ lY (by rw[<-Pv];exact qu K7)
theorem SA:Tryz.prog.stopsHeard=true:=by
 unfold Program.stopsHeard
 rw[<-Array.all_toList,kQ,bG,pX];exact qu MT
def ap(L:List (List Nat)):Nat->List Nat->List Nat->List Nat
 |0,_,seen=>seen.reverse
 |_+1,[],seen=>seen.reverse
 |n+1,f::todo,seen=>if seen.contains f then ap L n todo seen else ap L n ((L[f]?).getD []++todo) (f::seen)
theorem Yt{P:Program}{L:List (List Nat)}(h: ∀f:Nat,(P.funcs[f]?).elim [] P.leadsTo=(L[f]?).getD []): ∀(n:Nat) (todo seen:List Nat),P.closureVia n todo seen=ap L n todo seen
 |0,todo,seen=>by cases todo<;>rfl
 |n+1,[],seen=>rfl
 |n+1,f::todo,seen=>by
  unfold Program.closureVia ap
  rw[h f,Yt h n,Yt h n]
theorem K9(f:Nat):(Tryz.prog.funcs[f]?).elim [] Tryz.prog.leadsTo=(leadL[f]?).getD []:=by
 rw[<-Us]
 by_cases h:f<574
 ·rw[bR,List.getElem?_range' h,Nat.zero_add,Nat.one_mul,Option.map_some,Option.getD_some,leadAt]
 ·rw[Array.getElem?_eq_none (by rw[pX];exact Nat.le_of_not_lt h),List.getElem?_eq_none (by rw[bC,List.length_range'];exact Nat.le_of_not_lt h)];rfl
theorem Mb:(Tryz.prog.funcs.toList.map λg=>(Tryz.prog.leadsTo g).length+1)=leadL.map λl=>l.length+1:=by
 rw[ZE _ 1,bG,pX,<-Us,List.map_map,List.range_eq_range']
 refine List.map_congr_left λi _=>?_
 rw[Array.getElem?_toList]
 show _=(leadAt i).length+1
 unfold leadAt
 cases Tryz.prog.funcs[i]?<;>rfl
theorem OA(f:Nat):Tryz.prog.closure f=ap leadL (1+(leadL.map λl=>l.length+1).sum) [f] []:=by
 unfold Program.closure
 rw[Mb,Yt K9]
theorem BY{a b:Bool}(h:a=true)(k:b=true):(a&&b)=true:=by rw[h,k];rfl
end
section
open Go.ChangeShapes Go.WideShapes Go.ChangeAt Go.RowKit
theorem KT:ownKnob Tryz.prog.godebug=none:=by kernel_rfl
theorem rL:laidOutB Tryz.prog=true:=ZA
end
section
open Go.ChangeShapes Go.WideShapes Go.ChangeAt Go.RowKit
set_option maxRecDepth 100000 in
theorem dt{H:Type}{enc:TypeId×Value->H}{W:World}{base:Nat}{v:Value}{d:DataW H}{p:List MemPlace}(hval:Value.okWide aP W .any base 22 v)
  (h:DataW.Trod enc aP W 0 (λ_=>true) true 22 v d p):
  ∃l:cT,(bs l).at_ W (tt W) v:=by
 obtain⟨a,n,c,rfl⟩:=okWide_slice Tryz.underlying22 hval
 obtain⟨fuel,hf⟩:=h
 obtain⟨l,_,h2⟩:=Rd.bytes (r:=⟨H,enc,W,0,λ_=>true,true⟩) Tryz.underlying22 Tryz.underlying5 (by kernel_rfl) fuel [.slice a n c] (d,p) hf
 refine⟨l,?_⟩
 simp only[RV.listAt]at h2
 obtain⟨u,r,e,_,hat,rfl⟩:=h2
 simp only[List.cons.injEq,and_true]at e
 rw[e]
 exact hat
end
structure PackP where
 init:cT
 leaf:Leaf
 sig:cT
 deriving DecidableEq
structure PropP where
 kind:UInt8
 pack:PackP
 leaf:Leaf
 at_:Int
 deriving DecidableEq
abbrev PackP.c(p:PackP):List RV:=[bs p.init,bs p.leaf.box,bs p.leaf.sign,bs p.leaf.ident,U8 p.leaf.src,bs p.leaf.parent,bs p.leaf.sig,bs p.sig]
abbrev PropP.c(p:PropP):List RV:=[U8 p.kind,bs p.pack.init,bs p.pack.leaf.box,bs p.pack.leaf.sign,bs p.pack.leaf.ident,U8 p.pack.leaf.src,bs p.pack.leaf.parent,bs p.pack.leaf.sig,bs p.pack.sig,bs p.leaf.box,bs p.leaf.sign,bs p.leaf.ident,U8 p.leaf.src,bs p.leaf.parent,bs p.leaf.sig,I p.at_]
section
open Go.ChangeShapes Go.WideShapes Go.ChangeAt Go.RowKit
theorem B3{α:Type}{l:List α}(h:l.length=8): ∃a0 a1 a2 a3 a4 a5 a6 a7,l=[a0,a1,a2,a3,a4,a5,a6,a7]:=by
 match l,h with
 |[a0,a1,a2,a3,a4,a5,a6,a7],_=>exact⟨_,_,_,_,_,_,_,_,rfl⟩
theorem Dk{α:Type}{l:List α}(h:l.length=16): ∃a0 a1 a2 a3 a4 a5 a6 a7 a8 a9 b0 b1 b2 b3 b4 b5,l=[a0,a1,a2,a3,a4,a5,a6,a7,a8,a9,b0,b1,b2,b3,b4,b5]:=by
 match l,h with
 |[a0,a1,a2,a3,a4,a5,a6,a7,a8,a9,b0,b1,b2,b3,b4,b5],_=>exact⟨_,_,_,_,_,_,_,_,_,_,_,_,_,_,_,_,rfl⟩
section
variable {r:Rd Tryz.prog}
theorem Rd.pack:r.Reads PackP.c (λ_=>True) 31:=λfuel cs x hx=>by
 obtain⟨hl,xs,n,_,hxl,hf⟩:=Rd.struct (C:=8) Tryz.underlying31 (by kernel_rfl) hx
 obtain⟨a0,a1,a2,a3,a4,a5,a6,a7,rfl⟩:=B3 hl
 obtain⟨y0,y1,y2,rfl⟩:=B1 hxl
 have h0:r.trod n 22 [a0]=some y0:=hf 0 _ rfl 1 (by kernel_rfl)
 have h1:r.trod n 29 [a1,a2,a3,a4,a5,a6]=some y1:=hf 1 _ rfl 6 (by kernel_rfl)
 have h2:r.trod n 22 [a7]=some y2:=hf 2 _ rfl 1 (by kernel_rfl)
 obtain⟨s0,k0,g0⟩:=(Rd.bytes Tryz.underlying22 Tryz.underlying5 (by kernel_rfl)) _ _ _ h0
 obtain⟨s1,k1,g1⟩:=Rd.leaf _ _ _ h1
 obtain⟨s2,k2,g2⟩:=(Rd.bytes Tryz.underlying22 Tryz.underlying5 (by kernel_rfl)) _ _ _ h2
 exact⟨⟨s0,s1,s2⟩,trivial,yo g0 (yo g1 g2)⟩
theorem Rd.prop:r.Reads PropP.c (λp=>Sx.i64 p.at_) 67:=λfuel cs x hx=>by
 obtain⟨hl,xs,n,_,hxl,hf⟩:=Rd.struct (C:=16) Tryz.underlying67 (by kernel_rfl) hx
 obtain⟨a0,a1,a2,a3,a4,a5,a6,a7,a8,a9,b0,b1,b2,b3,b4,b5,rfl⟩:=Dk hl
 obtain⟨y0,y1,y2,y3,rfl⟩:=B2 hxl
 have h0:r.trod n 5 [a0]=some y0:=hf 0 _ rfl 1 (by kernel_rfl)
 have h1:r.trod n 31 [a1,a2,a3,a4,a5,a6,a7,a8]=some y1:=hf 1 _ rfl 8 (by kernel_rfl)
 have h2:r.trod n 29 [a9,b0,b1,b2,b3,b4]=some y2:=hf 2 _ rfl 6 (by kernel_rfl)
 have h3:r.trod n 3 [b5]=some y3:=hf 3 _ rfl 1 (by kernel_rfl)
 obtain⟨s0,k0,g0⟩:=(Rd.u8 Tryz.underlying5) _ _ _ h0
 obtain⟨s1,k1,g1⟩:=Rd.pack _ _ _ h1
 obtain⟨s2,k2,g2⟩:=Rd.leaf _ _ _ h2
 obtain⟨s3,k3,g3⟩:=(Rd.i64 Tryz.underlying3) _ _ _ h3
 exact⟨⟨s0,s1,s2,s3⟩,k3,yo g0 (yo g1 (yo g2 g3))⟩
end
end
section
open Go.ChangeShapes Go.WideShapes Go.ChangeAt Go.RowKit
set_option maxRecDepth 100000 in
theorem GK{H:Type}{enc:TypeId×Value->H}{W:World}{base:Nat}{v:Value}{d:DataW H}{p:List MemPlace}(hval:Value.okWide aP W .any base 29 v)
  (h:DataW.Trod enc aP W 0 (λ_=>true) true 29 v d p):
  ∃s:Leaf,(RV.ag s.c).at_ W (tt W) v:=by
 obtain⟨us,rfl,_⟩:=okWide_struct Tryz.underlying29 hval
 obtain⟨fuel,hf⟩:=h
 obtain⟨s,_,hl⟩:=Rd.leaf (r:=⟨H,enc,W,0,λ_=>true,true⟩) fuel us.toList (d,p) hf
 exact⟨s,by simp only[RV.at_];exact⟨us,rfl,hl⟩⟩
end
end Go.Proofs.YtkegaaonpekkgaaGreat.Sx
