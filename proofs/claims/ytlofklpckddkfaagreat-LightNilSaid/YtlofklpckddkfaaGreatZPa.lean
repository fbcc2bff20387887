import Derived.Test.YtlofklpckddkfaaGreatZSxV
import Derived.ProofKit
import Derived.Deep.Slices
import Derived.Deep.Fields
import Derived.SizedLaws
import Derived.Test.YtlofklpckddkfaaGreatRows
import Derived.Below
import Derived.ChangeOld
import Derived.OpenShut
import Derived.Laws.ComplexArith
namespace Go.Proofs.YtlofklpckddkfaaGreat.Sx
open Go.RowKit
section
open Go.RowKit Go.ChangeShapes Go.WideShapes Go.Deep
def allK(w:World):Kp:=λb=>((w.heap[b]?).map λo=>match o with | .cells c _ _=>c.size |_=>0).getD 0
theorem ztr{w:World}{b o:Nat}{v:Value}(h:w.cell? ⟨b,o,none⟩=some v):o<allK w b/\b<w.heap.size:=by
 unfold World.cell? at h
 unfold allK
 cases hb:w.heap[b]? with
 |none=>simp[hb]at h
 |some ob=>
  have h1:b<w.heap.size:=(Array.getElem?_eq_some_iff.1 hb).1
  cases ob with
  |cells c t fr=>
   simp[hb]at h
   exact⟨by simpa[hb]using(Array.getElem?_eq_some_iff.1 h).1,h1⟩
  |_=>simp[hb]at h
theorem zbu{w:World}{k:Kp}: ∀{xs ys:List RV} {us vs:List Value},RV.listAt w k xs us->RV.listAt w k ys vs->RV.listAt w k (xs++ys) (us++vs)
 |[],_,us,_,h,g=>by
  simp only[RV.listAt]at h
  subst h
  exact g
 |x::xs,_,us,_,h,g=>by
  simp only[RV.listAt]at h
  obtain⟨u,r,rfl,h1,h2,h3⟩:=h
  simp only[List.cons_append,RV.listAt]
  exact⟨u,_,rfl,h1,h2,zbu h3 g⟩
theorem zk3{w:World}{k:Kp}{b:Nat}: ∀{xs ys:List RV} {o:Nat},RV.cellsAt w k b o xs->RV.cellsAt w k b (o+xs.length) ys->RV.cellsAt w k b o (xs++ys)
 |[],_,_,_,g=>g
 |x::xs,ys,o,h,g=>by
  simp only[List.cons_append,RV.cellsAt]at h⊢
  exact⟨h.1,zk3 h.2 (by rwa[List.length_cons,show o+(xs.length+1)=o+1+xs.length by omega]at g)⟩
theorem zk4{w:World}{b:Nat}: ∀{fs:List RV} {cs:List Value} {o:Nat},RV.listAt w (allK w) fs cs->(∀j,j<cs.length->w.cell? ⟨b,o+j,none⟩=cs[j]?)->RV.cellsAt w (allK w) b o fs
 |[],_,_,_,_=>by simp[RV.cellsAt]
 |f::fs,cs,o,h,hc=>by
  simp only[RV.listAt]at h
  obtain⟨u,r,rfl,h1,h2,h3⟩:=h
  have h0:=hc 0 (by simp)
  simp only[Nat.add_zero,List.getElem?_cons_zero]at h0
  simp only[RV.cellsAt]
  refine⟨⟨(ztr h0).1,u,h0,h1,h2⟩,zk4 h3 λj hj=>?_⟩
  have:=hc (j+1) (by simpa using hj)
  rw[show o+1+j=o+(j+1)by omega]
  simpa using this
structure Rd (P:Program):Type 1 where
 H:Type
 enc:TypeId×Value->H
 w:World
 base:Nat
 spare:Nat->Bool
 held:Bool
def Rd.trod{P:Program}(r:Rd P)(fuel:Nat)(t:TypeId)(cs:List Value):Option (DataW r.H×List MemPlace):=DataW.trod r.enc P r.w r.base r.spare r.held fuel t cs
def Rd.Reads{P:Program}(r:Rd P){σ:Type}(c:σ->List RV)(ok:σ->Prop)(t:TypeId):Prop:=
 ∀fuel cs x,r.trod fuel t cs=some x->∃s,ok s/\RV.listAt r.w (allK r.w) (c s) cs
section
variable {P:Program} {r:Rd P} {t e:TypeId} {σ:Type} {c:σ->List RV} {ok:σ->Prop}
theorem Rd.i64(ht:P.underlying t=some (.int .i64)):r.Reads (λn:Int=>[I n]) i64 t:=λfuel cs x h=>by
 obtain⟨n,rfl,_,hw⟩:=DataW.trod_int ht h
 refine⟨n,?_,by simp only[RV.listAt,RV.at_];exact⟨_,[],rfl,rfl,rfl,rfl⟩⟩
 simp only[Lit.wf,Bool.and_eq_true,decide_eq_true_eq]at hw
 exact⟨hw.1,hw.2⟩
theorem Rd.u8(ht:P.underlying t=some (.int .u8)):r.Reads (λn:UInt8=>[U8 n]) (λ_=>True) t:=λfuel cs x h=>by
 obtain⟨n,rfl,_,hw⟩:=DataW.trod_int ht h
 have hn:0<=n/\n<256:=by
  simp only[Lit.wf,Bool.and_eq_true,decide_eq_true_eq]at hw
  have h1:(0:Int)<=n:=hw.1
  have h2:n<=255:=hw.2
  omega
 refine⟨UInt8.ofNat n.toNat,trivial,?_⟩
 have:((UInt8.ofNat n.toNat).toNat:Int)=n:=by
  rw[UInt8.toNat_ofNat']
  omega
 simp only[RV.listAt,RV.at_]
 exact⟨_,[],rfl,rfl,by rw[this],rfl⟩
theorem Rd.elems{b o:Nat}{sz:Nat}(hl: ∀s,(c s).length=sz): ∀(n i0:Nat),(∀i,i<n->∃cs,(∀j,j<cs.length->r.w.cell? ⟨b,o+(i0+i)*sz+j,none⟩=cs[j]?)/\∃s,ok s/\RV.listAt r.w (allK r.w) (c s) cs)->
  ∃l:List σ,l.length=n/\(∀x∈l,ok x)/\RV.cellsAt r.w (allK r.w) b (o+i0*sz) (l.flatMap c)
 |0,_,_=>⟨[],rfl,by simp,by simp[RV.cellsAt]⟩
 |n+1,i0,h=>by
  obtain⟨cs,hc,s,hs,hq⟩:=h 0 (by omega)
  obtain⟨l,h1,h2,h3⟩:=Rd.elems hl n (i0+1) λi hi=>by
   have:=h (i+1) (by omega)
   rwa[show i0+(i+1)=i0+1+i by omega]at this
  refine⟨s::l,by simp[h1],λx hx=>?_,?_⟩
  ·rcases List.mem_cons.1 hx with rfl |hx
   ·exact hs
   ·exact h2 x hx
  ·rw[List.flatMap_cons]
   refine zk3 (zk4 hq (by simpa using hc)) ?_
   rw[hl,show o+i0*sz+sz=o+(i0+1)*sz by rw[Nat.add_mul];omega]
   exact h3
theorem Rd.slice{sz:Nat}(ht:P.underlying t=some (.slice e))(hC:P.cellsOf e=sz)(h0:0<sz)(hl: ∀s,(c s).length=sz)(h:r.Reads c ok e)
  {fuel:Nat} {cs:List Value} {x:DataW r.H×List MemPlace} (hx:r.trod fuel t cs=some x):
  ∃l:List σ,(∀y∈l,ok y)/\RV.listAt r.w (allK r.w) [.sl sz l.length (l.flatMap c)] cs/\(l=[]\/∃E Sp,x.1= .slice E Sp/\E.length=l.length):=by
 have hlen: ∀l:List σ,(l.flatMap c).length=l.length*sz:=λl=>by
  induction l with
  |nil=>simp
  |cons y l ih=>rw[List.flatMap_cons,List.length_append,hl,ih,List.length_cons,Nat.add_mul];omega
 rcases open_slice ht hx with⟨rfl,_⟩ |⟨a,len,cap,m,n,D,Pl,rfl,hb,hlc,hcm,hm,hd,hi⟩
 ·refine⟨[],by simp,?_, .inl rfl⟩
  simp only[RV.listAt,RV.at_]
  exact⟨_,[],rfl,rfl,⟨none,0,rfl,by simp,by simp,by simp,λh=>absurd h (by simp)⟩,rfl⟩
 ·have hlm:len<=m:=by rw[hm];split<;>omega
  rw[hC]at hi
  by_cases hz:len=0
  ·subst hz
   refine⟨[],by simp,?_, .inl rfl⟩
   simp only[RV.listAt,RV.at_]
   exact⟨_,[],rfl,rfl,⟨some a,cap,rfl,by simp,hcm,by simp,λh=>absurd h (by simp)⟩,rfl⟩
  ·obtain⟨b,o,spot⟩:=a
   obtain⟨cs0,hc0,_⟩:=hi 0 (by omega)
   obtain⟨_,hl0,ha0⟩:=World.cells?_some hc0
   have hs0:=ha0 0 h0
   rw[List.getElem?_eq_getElem (by omega)]at hs0
   have hspot:spot=none:=by simpa[Addr.add]using World.cell?_spot hs0
   subst hspot
   have hblk:b<r.w.heap.size:=by
    have:=hs0
    rw[Nat.zero_mul,add_plain,add_plain]at this
    exact(ztr this).2
   obtain⟨l,h1,h2,h3⟩:=Rd.elems (r:=r) (b:=b) (o:=o) (ok:=ok) hl len 0 λi hil=>by
    obtain⟨cs',hc,ht'⟩:=hi i (by omega)
    obtain⟨_,hcl,hat⟩:=World.cells?_some hc
    refine⟨cs',λj hj=>?_,h n cs' _ ht'⟩
    have:=hat j (by omega)
    rw[add_plain,add_plain]at this
    simpa using this
   refine⟨l,h2,?_, .inr ⟨_,_,by rw[hd],by simp[h1]⟩⟩
   simp only[RV.listAt,RV.at_]
   refine⟨_,[],rfl,rfl,⟨_,cap,by rw[h1],by omega,hcm,hlen l,λ_=>⟨b,o,rfl,hblk,by simpa using h3⟩⟩,rfl⟩
theorem z0c{α β:Type}(f:α->β)(l:List α):(l.flatMap λx=>[f x])=l.map f:=by
 induction l with
 |nil=>rfl
 |cons x l ih=>rw[List.flatMap_cons,ih];rfl
theorem Rd.bytes(ht:P.underlying t=some (.slice e))(he:P.underlying e=some (.int .u8))(hC:P.cellsOf e=1):r.Reads (λl:List UInt8=>[bs l]) (λ_=>True) t:=λfuel cs x hx=>by
 obtain⟨l,_,h,_⟩:=Rd.slice ht hC (by omega) (λ_=>rfl) (Rd.u8 he) hx
 refine⟨l,trivial,?_⟩
 rw[z0c]at h
 exact h
theorem Rd.struct{fs:Array Field}{fuel C:Nat}{cs:List Value}{x:DataW r.H×List MemPlace}(ht:P.underlying t=some (.struct fs))(hC:P.cellsOf t=C)(h:r.trod fuel t cs=some x):
  cs.length=C/\∃(xs:List (DataW r.H×List MemPlace)) (n:Nat),x.1= .agg (xs.map (·.1))/\xs.length=fs.size/\∀(i:Nat) (f:Field),fs[i]?=some f->∀m,P.cellsOf f.type=m->r.trod n f.type ((cs.drop f.offset).take m)=xs[i]?:=by
 obtain⟨xs,n,_,hx,hl,hn,hf⟩:=DataW.trod_struct ht h
 exact⟨hl.trans hC,xs,n,by rw[hx],hn,λi f hi m hm=>hm▸hf i f hi⟩
end
end
section
open Go.RowKit Go.ChangeShapes Go.WideShapes Go.Deep
theorem z9k{α:Type}{l:List α}(h:l.length=3): ∃a0 a1 a2,l=[a0,a1,a2]:=by
 match l,h with
 |[a0,a1,a2],_=>exact⟨_,_,_,rfl⟩
theorem z9l{α:Type}{l:List α}(h:l.length=4): ∃a0 a1 a2 a3,l=[a0,a1,a2,a3]:=by
 match l,h with
 |[a0,a1,a2,a3],_=>exact⟨_,_,_,_,rfl⟩
theorem z20{α:Type}{l:List α}(h:l.length=6): ∃a0 a1 a2 a3 a4 a5,l=[a0,a1,a2,a3,a4,a5]:=by
 match l,h with
 |[a0,a1,a2,a3,a4,a5],_=>exact⟨_,_,_,_,_,_,rfl⟩
section
variable {r:Rd Tryz.prog}
theorem Rd.leaf:r.Reads Leaf.c (λ_=>True) 39:=λfuel cs x hx=>by
 obtain⟨hl,xs,n,_,hxl,hf⟩:=Rd.struct (C:=6) Tryz.underlying39 (by kernel_rfl) hx
 obtain⟨a0,a1,a2,a3,a4,a5,rfl⟩:=z20 hl
 obtain⟨y0,y1,y2,y3,y4,y5,rfl⟩:=z20 hxl
 have h0:r.trod n 22 [a0]=some y0:=hf 0 _ rfl 1 (by kernel_rfl)
 have h1:r.trod n 22 [a1]=some y1:=hf 1 _ rfl 1 (by kernel_rfl)
 have h2:r.trod n 22 [a2]=some y2:=hf 2 _ rfl 1 (by kernel_rfl)
 have h3:r.trod n 5 [a3]=some y3:=hf 3 _ rfl 1 (by kernel_rfl)
 have h4:r.trod n 22 [a4]=some y4:=hf 4 _ rfl 1 (by kernel_rfl)
 have h5:r.trod n 22 [a5]=some y5:=hf 5 _ rfl 1 (by kernel_rfl)
 obtain⟨s0,k0,g0⟩:=(Rd.bytes Tryz.underlying22 Tryz.underlying5 (by kernel_rfl)) _ _ _ h0
 obtain⟨s1,k1,g1⟩:=(Rd.bytes Tryz.underlying22 Tryz.underlying5 (by kernel_rfl)) _ _ _ h1
 obtain⟨s2,k2,g2⟩:=(Rd.bytes Tryz.underlying22 Tryz.underlying5 (by kernel_rfl)) _ _ _ h2
 obtain⟨s3,k3,g3⟩:=(Rd.u8 Tryz.underlying5) _ _ _ h3
 obtain⟨s4,k4,g4⟩:=(Rd.bytes Tryz.underlying22 Tryz.underlying5 (by kernel_rfl)) _ _ _ h4
 obtain⟨s5,k5,g5⟩:=(Rd.bytes Tryz.underlying22 Tryz.underlying5 (by kernel_rfl)) _ _ _ h5
 exact⟨⟨s0,s1,s2,s3,s4,s5⟩,trivial,zbu g0 (zbu g1 (zbu g2 (zbu g3 (zbu g4 g5))))⟩
end
end
section
open Go.ChangeShapes Go.WideShapes Go.ChangeAt Go.RowKit
theorem zah{g:Nat->Bool}{a b c:Nat}(h:(List.range' a b).all g=true)(k:(List.range' (a+b) c).all g=true):(List.range' a (b+c)).all g=true:=by
 rw[<-List.range'_append_1,List.all_append,h,k];rfl
theorem zcy{α:Type}{g:Nat->α}{a b c:Nat}{l m:List α}(h:(List.range' a b).map g=l)(k:(List.range' (a+b) c).map g=m):(List.range' a (b+c)).map g=l++m:=by
 rw[<-List.range'_append_1,List.map_append,h,k]
theorem zeo{g:Nat->Bool}{n:Nat}(h:(List.range' 0 n).all g=true):(List.range n).all g=true:=by rw[List.range_eq_range'];exact h
theorem zm1{α β:Type}(l:List α)(d:β)(h:α->β):l.map h=(List.range l.length).map λi=>(l[i]?).elim d h:=by
 apply List.ext_getElem
 ·simp
 ·intro i h1 h2
  simp at h1
  simp[List.getElem?_eq_getElem h1]
theorem zht{α:Type}(l:List α)(h:α->Bool):l.all h=(List.range l.length).all λi=>(l[i]?).elim true h:=by
 have e:=zm1 l true h
 have: ∀m:List Bool,∀l:List α,l.map h=m->l.all h=m.all id:=λm l hm=>by rw[<-hm,List.all_map];rfl
 rw[this _ _ e,List.all_map];rfl
noncomputable def leadAt (i:Nat):List Nat:=(Tryz.prog.funcs[i]?).elim [] Tryz.prog.leadsTo
def z2q:List (List Nat):=[[],[],[1],[5,6,7,8,9,10,11,13,12],[14,15,16,17,18,19,20,22,21],[23,24,6,8,7],[25],[26,27,29,28],[26,27,27,30,28],[26,31,28],[26,32],[33,34,35,36,37,38,39,40],[41,41,41],[25,42],[23,44,43,45,22],[46,47],[49,48,15,50],[52,51,54,53,54,56,55,46,57,58,59,60,47,61,62],[63],[64,37,65,62,66],[33,65,67,68,69,65,70],[71,72],[62],[74,75,73],[44,76],[],[6],[77,78],[],[79,80],[81,81,83,84,82],[77,80],[85,86,87],[89,91,88],[25,65,93,94,95],[50,96,51],[97,25,98,99],[100],[92,102,101],[106],[87,106],[],[61,61,61],[27,62],[107],[57,65,62],[61,108,108,94,109,59,60],[92,110,101],[54,113,114],[115],[116],[117],[],[81,118,119,120,61,121,115,54,113,114,122,123,124],[125],[81,118,124,61,126,115,83,83,125,128,127],[57,129],[79,84,130],[38,61,61,39,131,132,40,133],[92,134,101],[135],[],[136,137,61,47,33,61,61],[54,106,125]]
theorem z7x:(List.range' 0 64).map leadAt=z2q:=by kernel_rfl
def z2r:List (List Nat):=[[138,139,140,141,85],[],[85,93,37,65,107],[49,142],[143,94,95,59,60,144],[50,145,51],[97,147,146,148,149,150,151,57,58,144],[152,153,41,154,41,41],[155,41],[156,61,37,54,108,131,132,40],[],[157],[37,65,42,158,61],[100,93,160,159],[162,161,124,163,161,61],[164,165],[83,83,84,166],[79],[167,168,86,169,82,170,82],[171,172],[173],[174,175,176,176,177],[178,179,87,180],[181],[138,140,182],[90],[183,183,184,185,183,185,185,186,187,182,184,184,184],[92],[188,189,190,191,192],[85,193,124],[92,194,101],[196,195],[47,50,65],[197],[85,198,199,158,149,200,201],[27,118,202,126,121,65,158,123],[85,203],[],[104,105,103],[87],[83],[103,104,104,204,205],[207,206],[208,158,61,209,61,61],[],[196,210],[112,111,103],[103,103],[104,104,105],[212,211,213],[214,215,216,109],[79,124],[87,87,106],[],[217,218,219,220],[54,221],[54,113],[87,87,87,106],[222,223],[124,226,225,124,124,227,61],[214,61,61,228],[83,87,87,229],[228,231,230],[234,233]]
theorem z7y:(List.range' 64 64).map leadAt=z2r:=by kernel_rfl
def z2s:List (List Nat):=[[],[104,104,103,104,103,103],[61,235,169,130,170,130,236,106],[238,237],[135],[61],[112,129,111],[239,207,207,106,239,106],[61,61],[124,61],[],[240,241],[242],[138,243,244],[245,124],[65],[],[47,50,65],[246],[],[47,50,248,247,250,249],[146,251],[81,138,252,253,30,65],[254,255,56,256],[12,41,41,257,258],[155],[259,41,41,41],[260,41,41,261],[54,113,54,113,54,262,114,263,109],[],[124],[264,266,84],[],[267,268],[269],[270],[],[173,271,272,159,162,161,273,163,161,273],[86,169,166,170,166],[168,275,275,274],[276,277,278,279],[280],[280],[],[],[281],[173],[86],[282,283],[174,227,218,284],[285,286,215,286,285,287],[87,87],[83,87,87,87],[288,171,83],[],[185,182],[139,242,182],[289,242,182],[185,290,291,185,182],[293,292,295,291,296,292],[],[298,299,300,301,300,299,188],[192],[300,299]]
theorem z7z:(List.range' 128 64).map leadAt=z2s:=by kernel_rfl
def z2t:List (List Nat):=[[247,302,299,304],[174],[112,129],[305,306,305,308,307,309,310,310,312,311],[87,87],[313,117],[315],[316,317,65,65,65,318],[319,320,321,124],[],[318,65,65],[235,169,203,170,203,236,106],[322,103,323,104],[103,204,103,103,103,103,103,323,103],[324,171,325,326],[327],[61,328,133],[47,33],[262,329,308,307,309,310,330,308,307,332,331,333,207],[83,334,229],[334,335],[337,338,336],[61],[],[179,87,83],[218,339],[340,340],[79,341],[79,130],[54],[343,342],[224],[344,344],[],[],[345,345,346],[],[135],[347],[232],[115,349,348],[351,352,353],[334,87,87],[86,83],[86,87,87],[335,61,54,129,354,355,54],[335,129,354],[106],[356,357,356,358,288,357],[356,61],[],[],[289,242,359,360],[361,84,130,65],[],[362],[65],[],[65],[],[289,242,289,242,173,84,363,140],[124,61,364,365,366,367],[],[369,370,368]]
theorem z70:(List.range' 192 64).map leadAt=z2t:=by kernel_rfl
def z2u:List (List Nat):=[[371,219,126,372,373,115,374,61,122],[375],[376],[41,377,378],[41,41,41,41,41],[],[309,379,310,330],[298,380,101],[227,265],[382,381],[169,170],[383],[343,384],[],[],[86,385,381],[],[],[386,387,388,389],[227,227],[],[224],[],[224],[346],[390,391],[392],[],[393,394,394],[],[],[],[],[172,356,358],[183,183,184,291,184],[359,182],[184,138,243,182],[294],[185,186,184,182],[395,242,182],[297],[184,396,292],[301],[350],[299],[397],[303],[189,191],[301,398,399],[402,61,338,65,403,404,405,406],[407,409,408],[407,410],[207,411],[337,337,413,412,403,406],[414,415,416,416,417,418,419,418],[414,414,412,412,420,412,412,420],[414,414,416,416,417,418],[314,65],[47,50],[85,421],[189,422,101],[263,318,65,95],[216,215,95],[85,423,193,424,425]]
theorem z71:(List.range' 256 64).map leadAt=z2u:=by kernel_rfl
def z2v:List (List Nat):=[[85,193,421,424,174,176,174,426],[85,423,174,158,425,218,284,427],[104,104,103,323],[397],[],[],[428,429,430,430,430,430,430,430],[],[61],[308,307],[414,413,412,338,412,431],[432,433],[434,435,435,410],[],[],[135],[437,402,436],[],[438],[340,170,169],[439,346],[169,341,170,341],[440,441,442,443,444,445,446,447,342,342],[448,449],[],[],[345],[],[450],[350],[273,65,65,65,65,65,65,65],[113,451,452],[212,212,207,212,211,211],[453,454,455],[125],[],[357,357],[],[],[139,139,139,289,242,139,139,242,215],[139,139,139,242,138,243,289,243,287],[138,457,456,456,173,458,456,84,459,140,165],[],[289,242,460,461,241,242],[343,462],[224],[343,463],[224],[464],[],[115,227],[81,465,218,466,115],[374,467],[120,65,221],[468,464],[41],[41],[469,260],[260,41,377,41,41,41],[329],[322],[347],[227],[]]
theorem z72:(List.range' 320 64).map leadAt=z2v:=by kernel_rfl
def z2w:List (List Nat):=[[470,471,472,473,474,475,393,476,477,384,384],[227],[],[350],[],[65],[],[],[],[344,344],[],[356,357],[184,184],[215,179,87],[478],[400,401],[],[479],[480],[481,337,482,416,412,337,417,413,412,483],[420],[482],[337,412],[],[484],[],[432,433],[485,486,488,487,489],[490,435,491],[493,492],[415],[337,406],[337,405,337,413,412],[491],[482,482,412,417,417,412,412,412,417,412,482,482,417,417,412,412,412,412],[],[438,438],[],[204],[397],[158,174,218],[124],[],[494,495],[430,430,430,430],[],[496],[438],[435],[409,408],[],[],[337,337,497,497,413,412,338],[],[491,491],[173],[],[498,498],[499,500],[501,501,501,502],[],[],[],[]]
theorem z73:(List.range' 384 64).map leadAt=z2w:=by kernel_rfl
def z2x:List (List Nat):=[[],[],[],[336,503,504],[212,207,211],[],[171,487,505],[506,507,487,507,508,509,508,509,505,507,508,510],[289,242],[],[],[395,242,241,242,244,169,459,170,459],[168,275],[244,169,363,170,363],[511,512,513,514,515,516,517,518,462,462],[519,520,521,522,523,524,525,526,463,463],[],[439,439,218,527,347],[],[234,528],[],[41,260,41],[393],[529,529],[499,500],[530,530,530,531],[],[393,393,393],[393,393],[393,393,393,393],[],[],[],[412],[491],[493,492,481,420,337,493,492,412,481,420,431,405],[],[],[],[532],[171],[533,534,534,534,534,534,534],[434,435,435],[],[337,481,412],[535],[],[536],[],[417,482,417,482,412,412,481,481,482,412,337,412,417,412,417,481,482,481,412],[],[343],[],[502],[537,537,537],[538],[],[171,506],[539,540,541],[],[],[508],[],[]]
theorem z74:(List.range' 448 64).map leadAt=z2x:=by kernel_rfl
def z2y:List (List Nat):=[[542,542],[499,500],[543,543,543,544],[],[],[],[],[],[545,545],[499,500],[546,546,546,547],[],[],[],[],[227],[548,352,549],[393,393],[531],[550,550,550],[],[534,534,534,534],[551],[552,553],[554,554,554],[],[],[555,555,556],[555],[555],[],[544],[557,557,557],[],[547],[558,558,558],[451,213,452],[453,455,454],[393],[],[559,434],[],[],[],[],[],[],[],[],[],[],[],[],[],[],[],[],[],[],[],[],[],[],[]]
theorem z75:(List.range' 512 64).map leadAt=z2y:=by kernel_rfl
def z2z:List (List Nat):=[[],[],[]]
theorem z76:(List.range' 576 3).map leadAt=z2z:=by kernel_rfl
def leadL:List (List Nat):=(z2q++(z2r++(z2s++(z2t++(z2u++(z2v++(z2w++(z2x++(z2y++z2z)))))))))
theorem zq5:(List.range' 0 579).map leadAt=leadL:=zcy (b:=64) (c:=515) z7x (zcy (b:=64) (c:=451) z7y (zcy (b:=64) (c:=387) z7z (zcy (b:=64) (c:=323) z70 (zcy (b:=64) (c:=259) z71 (zcy (b:=64) (c:=195) z72 (zcy (b:=64) (c:=131) z73 (zcy (b:=64) (c:=67) z74 (zcy (b:=64) (c:=3) z75 (z76)))))))))
theorem z6r:(List.range' 0 64).all (rowFine Tryz.prog)=true:=by kernel_rfl
theorem z6s:(List.range' 64 64).all (rowFine Tryz.prog)=true:=by kernel_rfl
theorem z6t:(List.range' 128 64).all (rowFine Tryz.prog)=true:=by kernel_rfl
theorem z6u:(List.range' 192 64).all (rowFine Tryz.prog)=true:=by kernel_rfl
theorem z6v:(List.range' 256 64).all (rowFine Tryz.prog)=true:=by kernel_rfl
theorem z6w:(List.range' 320 64).all (rowFine Tryz.prog)=true:=by kernel_rfl
theorem z6x:(List.range' 384 64).all (rowFine Tryz.prog)=true:=by kernel_rfl
theorem z6y:(List.range' 448 64).all (rowFine Tryz.prog)=true:=by kernel_rfl
theorem z6z:(List.range' 512 64).all (rowFine Tryz.prog)=true:=by kernel_rfl
theorem z60:(List.range' 576 46).all (rowFine Tryz.prog)=true:=by kernel_rfl
theorem z0a:(List.range' 0 622).all (rowFine Tryz.prog)=true:=zah (b:=64) (c:=558) z6r (zah (b:=64) (c:=494) z6s (zah (b:=64) (c:=430) z6t (zah (b:=64) (c:=366) z6u (zah (b:=64) (c:=302) z6v (zah (b:=64) (c:=238) z6w (zah (b:=64) (c:=174) z6x (zah (b:=64) (c:=110) z6y (zah (b:=64) (c:=46) z6z (z60)))))))))
noncomputable def mapFine (t:Nat):Bool:=match Tryz.prog.underlying t with |some (.map _ e)=>decide (e<Tryz.prog.types.size) |_=>true
theorem z79:(List.range' 0 64).all mapFine=true:=by kernel_rfl
theorem z8a:(List.range' 64 64).all mapFine=true:=by kernel_rfl
theorem z8b:(List.range' 128 64).all mapFine=true:=by kernel_rfl
theorem z8c:(List.range' 192 64).all mapFine=true:=by kernel_rfl
theorem z8d:(List.range' 256 64).all mapFine=true:=by kernel_rfl
theorem z8e:(List.range' 320 64).all mapFine=true:=by kernel_rfl
theorem z8f:(List.range' 384 64).all mapFine=true:=by kernel_rfl
theorem z8g:(List.range' 448 64).all mapFine=true:=by kernel_rfl
theorem z8h:(List.range' 512 64).all mapFine=true:=by kernel_rfl
theorem z8i:(List.range' 576 46).all mapFine=true:=by kernel_rfl
theorem z1f:(List.range' 0 622).all mapFine=true:=zah (b:=64) (c:=558) z79 (zah (b:=64) (c:=494) z8a (zah (b:=64) (c:=430) z8b (zah (b:=64) (c:=366) z8c (zah (b:=64) (c:=302) z8d (zah (b:=64) (c:=238) z8e (zah (b:=64) (c:=174) z8f (zah (b:=64) (c:=110) z8g (zah (b:=64) (c:=46) z8h (z8i)))))))))
noncomputable def keyFine (t:Nat):Bool:=match Tryz.prog.underlying t with |some (.map k _)=>(match Tryz.prog.underlying k with |some (.array _ _) |some (.struct _)=>false |_=>true) |_=>true
theorem z7n:(List.range' 0 64).all keyFine=true:=by kernel_rfl
theorem z7o:(List.range' 64 64).all keyFine=true:=by kernel_rfl
theorem z7p:(List.range' 128 64).all keyFine=true:=by kernel_rfl
theorem z7q:(List.range' 192 64).all keyFine=true:=by kernel_rfl
theorem z7r:(List.range' 256 64).all keyFine=true:=by kernel_rfl
theorem z7s:(List.range' 320 64).all keyFine=true:=by kernel_rfl
theorem z7t:(List.range' 384 64).all keyFine=true:=by kernel_rfl
theorem z7u:(List.range' 448 64).all keyFine=true:=by kernel_rfl
theorem z7v:(List.range' 512 64).all keyFine=true:=by kernel_rfl
theorem z7w:(List.range' 576 46).all keyFine=true:=by kernel_rfl
theorem z1a:(List.range' 0 622).all keyFine=true:=zah (b:=64) (c:=558) z7n (zah (b:=64) (c:=494) z7o (zah (b:=64) (c:=430) z7p (zah (b:=64) (c:=366) z7q (zah (b:=64) (c:=302) z7r (zah (b:=64) (c:=238) z7s (zah (b:=64) (c:=174) z7t (zah (b:=64) (c:=110) z7u (zah (b:=64) (c:=46) z7v (z7w)))))))))
noncomputable def parFine (i:Nat):Bool:=(Tryz.prog.funcs.toList[i]?).elim true λf=>f.params.all λt=>decide (t<Tryz.prog.types.size)
theorem z8m:(List.range' 0 64).all parFine=true:=by kernel_rfl
theorem z8n:(List.range' 64 64).all parFine=true:=by kernel_rfl
theorem z8o:(List.range' 128 64).all parFine=true:=by kernel_rfl
theorem z8p:(List.range' 192 64).all parFine=true:=by kernel_rfl
theorem z8q:(List.range' 256 64).all parFine=true:=by kernel_rfl
theorem z8r:(List.range' 320 64).all parFine=true:=by kernel_rfl
theorem z8s:(List.range' 384 64).all parFine=true:=by kernel_rfl
theorem z8t:(List.range' 448 64).all parFine=true:=by kernel_rfl
theorem z8u:(List.range' 512 64).all parFine=true:=by kernel_rfl
theorem z8v:(List.range' 576 3).all parFine=true:=by kernel_rfl
theorem z1r:(List.range' 0 579).all parFine=true:=zah (b:=64) (c:=515) z8m (zah (b:=64) (c:=451) z8n (zah (b:=64) (c:=387) z8o (zah (b:=64) (c:=323) z8p (zah (b:=64) (c:=259) z8q (zah (b:=64) (c:=195) z8r (zah (b:=64) (c:=131) z8s (zah (b:=64) (c:=67) z8t (zah (b:=64) (c:=3) z8u (z8v)))))))))
noncomputable def stopFine (i:Nat):Bool:=(Tryz.prog.funcs.toList[i]?).elim true λfn=>(Stop.rowOf fn).isNone|| !fn.norace
theorem z5p:(List.range' 0 64).all stopFine=true:=by kernel_rfl
theorem z5q:(List.range' 64 64).all stopFine=true:=by kernel_rfl
theorem z5r:(List.range' 128 64).all stopFine=true:=by kernel_rfl
theorem z5s:(List.range' 192 64).all stopFine=true:=by kernel_rfl
theorem z5t:(List.range' 256 64).all stopFine=true:=by kernel_rfl
theorem z5u:(List.range' 320 64).all stopFine=true:=by kernel_rfl
theorem z5v:(List.range' 384 64).all stopFine=true:=by kernel_rfl
theorem z5w:(List.range' 448 64).all stopFine=true:=by kernel_rfl
theorem z5x:(List.range' 512 64).all stopFine=true:=by kernel_rfl
theorem z5y:(List.range' 576 3).all stopFine=true:=by kernel_rfl
theorem zzh:(List.range' 0 579).all stopFine=true:=zah (b:=64) (c:=515) z5p (zah (b:=64) (c:=451) z5q (zah (b:=64) (c:=387) z5r (zah (b:=64) (c:=323) z5s (zah (b:=64) (c:=259) z5t (zah (b:=64) (c:=195) z5u (zah (b:=64) (c:=131) z5v (zah (b:=64) (c:=67) z5w (zah (b:=64) (c:=3) z5x (z5y)))))))))
theorem zfh:Tryz.prog.funcs.size=579:=by kernel_rfl
theorem zhj:Tryz.prog.types.size=622:=by kernel_rfl
theorem zmw:laidOutB Tryz.prog=true:=by
 have h1:(List.range Tryz.prog.types.size).all (rowFine Tryz.prog)=true:=by rw[zhj];exact zeo z0a
 have h2:Tryz.prog.globals.all (λg=>decide (g.type<Tryz.prog.types.size))=true:=by kernel_rfl
 have h3:Tryz.prog.funcs.all (λf=>f.params.all λt=>decide (t<Tryz.prog.types.size))=true:=by
  rw[<-Array.all_toList,zht,Array.length_toList,zfh];exact zeo z1r
 unfold laidOutB
 rw[h1,h2,h3];rfl
def zrn(P:Program)(t:Nat):Bool:=match P.underlying t with |some (.map _ e)=>decide (e<P.types.size) |_=>true
def zq3(P:Program)(t:Nat):Bool:=match P.underlying t with |some (.map k _)=>(match P.underlying k with |some (.array _ _) |some (.struct _)=>false |_=>true) |_=>true
theorem z42{P:Program}{n:Nat}(hn:P.types.size=n)(h:(List.range n).all (zrn P)=true):mapsRowed P=true:=by subst hn;exact h
theorem z4z{P:Program}{n:Nat}(hn:P.types.size=n)(h:(List.range n).all (zq3 P)=true):P.plainKeys=true:=by subst hn;exact h
theorem zwc:mapFine=zrn Tryz.prog:=by kernel_rfl
theorem zv8:keyFine=zq3 Tryz.prog:=by kernel_rfl
theorem zwd:mapsRowed Tryz.prog=true:=z42 zhj (by rw[<-zwc];exact zeo z1f)
theorem zwb:Tryz.prog.plainKeys=true:=z4z zhj (by rw[<-zv8];exact zeo z1a)
theorem ztm:Tryz.prog.stopsHeard=true:=by
 unfold Program.stopsHeard
 rw[<-Array.all_toList,zht,Array.length_toList,zfh];exact zeo zzh
def zmh(L:List (List Nat)):Nat->List Nat->List Nat->List Nat
 |0,_,seen=>seen.reverse
 |_+1,[],seen=>seen.reverse
 |n+1,f::todo,seen=>if seen.contains f then zmh L n todo seen else zmh L n ((L[f]?).getD []++todo) (f::seen)
theorem znt{P:Program}{L:List (List Nat)}(h: ∀f:Nat,(P.funcs[f]?).elim [] P.leadsTo=(L[f]?).getD []): ∀(n:Nat) (todo seen:List Nat),P.closureVia n todo seen=zmh L n todo seen
 |0,todo,seen=>by cases todo<;>rfl
 |n+1,[],seen=>rfl
 |n+1,f::todo,seen=>by
  unfold Program.closureVia zmh
  rw[h f,znt h n,znt h n]
theorem z1c(f:Nat):(Tryz.prog.funcs[f]?).elim [] Tryz.prog.leadsTo=(leadL[f]?).getD []:=by
 rw[<-zq5]
 by_cases h:f<579
 ·rw[List.getElem?_map,List.getElem?_range' h,Nat.zero_add,Nat.one_mul,Option.map_some,Option.getD_some,leadAt]
 ·rw[Array.getElem?_eq_none (by rw[zfh];exact Nat.le_of_not_lt h),List.getElem?_eq_none (by rw[List.length_map,List.length_range'];exact Nat.le_of_not_lt h)];rfl
theorem zyp:(Tryz.prog.funcs.toList.map λg=>(Tryz.prog.leadsTo g).length+1)=leadL.map λl=>l.length+1:=by
 rw[zm1 _ 1,Array.length_toList,zfh,<-zq5,List.map_map,List.range_eq_range']
 refine List.map_congr_left λi _=>?_
 rw[Array.getElem?_toList]
 show _=(leadAt i).length+1
 unfold leadAt
 cases Tryz.prog.funcs[i]?<;>rfl
theorem zxa(f:Nat):Tryz.prog.closure f=zmh leadL (1+(leadL.map λl=>l.length+1).sum) [f] []:=by
 unfold Program.closure
 rw[zyp,znt z1c]
theorem andI{a b:Bool}(h:a=true)(k:b=true):(a&&b)=true:=by rw[h,k];rfl
end
section
open Go.ChangeShapes Go.WideShapes Go.ChangeAt Go.RowKit
theorem z1o:ownKnob Tryz.prog.godebug=none:=by kernel_rfl
theorem zif:laidOutB Tryz.prog=true:=zmw
end
section
open Go.ChangeShapes Go.WideShapes Go.ChangeAt Go.RowKit
set_option maxRecDepth 100000 in
theorem zln{H:Type}{enc:TypeId×Value->H}{W:World}{base:Nat}{v:Value}{d:DataW H}{p:List MemPlace}(hval:Value.okWide Tryz.prog W .any base 22 v)
  (h:DataW.Trod enc Tryz.prog W 0 (λ_=>true) true 22 v d p):
  ∃l:List UInt8,(bs l).at_ W (allK W) v:=by
 obtain⟨a,n,c,rfl⟩:=okWide_slice Tryz.underlying22 hval
 obtain⟨fuel,hf⟩:=h
 obtain⟨l,_,h2⟩:=Rd.bytes (r:=⟨H,enc,W,0,λ_=>true,true⟩) Tryz.underlying22 Tryz.underlying5 (by kernel_rfl) fuel [.slice a n c] (d,p) hf
 refine⟨l,?_⟩
 simp only[RV.listAt]at h2
 obtain⟨u,r,e,_,hat,rfl⟩:=h2
 simp only[List.cons.injEq,and_true]at e
 rw[e]
 exact hat
end
section
structure PackP where
 init:List UInt8
 leaf:Leaf
 sig:List UInt8
 deriving DecidableEq
structure PropP where
 kind:UInt8
 pack:PackP
 leaf:Leaf
 at_:Int
 deriving DecidableEq
abbrev PackP.c(p:PackP):List RV:=[bs p.init,bs p.leaf.box,bs p.leaf.sign,bs p.leaf.ident,U8 p.leaf.src,bs p.leaf.parent,bs p.leaf.sig,bs p.sig]
abbrev PropP.c(p:PropP):List RV:=[U8 p.kind,bs p.pack.init,bs p.pack.leaf.box,bs p.pack.leaf.sign,bs p.pack.leaf.ident,U8 p.pack.leaf.src,bs p.pack.leaf.parent,bs p.pack.leaf.sig,bs p.pack.sig,bs p.leaf.box,bs p.leaf.sign,bs p.leaf.ident,U8 p.leaf.src,bs p.leaf.parent,bs p.leaf.sig,I p.at_]
end
section
open Go.ChangeShapes Go.WideShapes Go.ChangeAt Go.RowKit
theorem z9m{α:Type}{l:List α}(h:l.length=8): ∃a0 a1 a2 a3 a4 a5 a6 a7,l=[a0,a1,a2,a3,a4,a5,a6,a7]:=by
 match l,h with
 |[a0,a1,a2,a3,a4,a5,a6,a7],_=>exact⟨_,_,_,_,_,_,_,_,rfl⟩
theorem z77{α:Type}{l:List α}(h:l.length=16): ∃a0 a1 a2 a3 a4 a5 a6 a7 a8 a9 b0 b1 b2 b3 b4 b5,l=[a0,a1,a2,a3,a4,a5,a6,a7,a8,a9,b0,b1,b2,b3,b4,b5]:=by
 match l,h with
 |[a0,a1,a2,a3,a4,a5,a6,a7,a8,a9,b0,b1,b2,b3,b4,b5],_=>exact⟨_,_,_,_,_,_,_,_,_,_,_,_,_,_,_,_,rfl⟩
section
variable {r:Rd Tryz.prog}
theorem Rd.pack:r.Reads PackP.c (λ_=>True) 41:=λfuel cs x hx=>by
 obtain⟨hl,xs,n,_,hxl,hf⟩:=Rd.struct (C:=8) Tryz.underlying41 (by kernel_rfl) hx
 obtain⟨a0,a1,a2,a3,a4,a5,a6,a7,rfl⟩:=z9m hl
 obtain⟨y0,y1,y2,rfl⟩:=z9k hxl
 have h0:r.trod n 22 [a0]=some y0:=hf 0 _ rfl 1 (by kernel_rfl)
 have h1:r.trod n 39 [a1,a2,a3,a4,a5,a6]=some y1:=hf 1 _ rfl 6 (by kernel_rfl)
 have h2:r.trod n 22 [a7]=some y2:=hf 2 _ rfl 1 (by kernel_rfl)
 obtain⟨s0,k0,g0⟩:=(Rd.bytes Tryz.underlying22 Tryz.underlying5 (by kernel_rfl)) _ _ _ h0
 obtain⟨s1,k1,g1⟩:=Rd.leaf _ _ _ h1
 obtain⟨s2,k2,g2⟩:=(Rd.bytes Tryz.underlying22 Tryz.underlying5 (by kernel_rfl)) _ _ _ h2
 exact⟨⟨s0,s1,s2⟩,trivial,zbu g0 (zbu g1 g2)⟩
theorem Rd.prop:r.Reads PropP.c (λp=>Sx.i64 p.at_) 43:=λfuel cs x hx=>by
 obtain⟨hl,xs,n,_,hxl,hf⟩:=Rd.struct (C:=16) Tryz.underlying43 (by kernel_rfl) hx
 obtain⟨a0,a1,a2,a3,a4,a5,a6,a7,a8,a9,b0,b1,b2,b3,b4,b5,rfl⟩:=z77 hl
 obtain⟨y0,y1,y2,y3,rfl⟩:=z9l hxl
 have h0:r.trod n 5 [a0]=some y0:=hf 0 _ rfl 1 (by kernel_rfl)
 have h1:r.trod n 41 [a1,a2,a3,a4,a5,a6,a7,a8]=some y1:=hf 1 _ rfl 8 (by kernel_rfl)
 have h2:r.trod n 39 [a9,b0,b1,b2,b3,b4]=some y2:=hf 2 _ rfl 6 (by kernel_rfl)
 have h3:r.trod n 3 [b5]=some y3:=hf 3 _ rfl 1 (by kernel_rfl)
 obtain⟨s0,k0,g0⟩:=(Rd.u8 Tryz.underlying5) _ _ _ h0
 obtain⟨s1,k1,g1⟩:=Rd.pack _ _ _ h1
 obtain⟨s2,k2,g2⟩:=Rd.leaf _ _ _ h2
 obtain⟨s3,k3,g3⟩:=(Rd.i64 Tryz.underlying3) _ _ _ h3
 exact⟨⟨s0,s1,s2,s3⟩,k3,zbu g0 (zbu g1 (zbu g2 g3))⟩
end
set_option maxRecDepth 100000 in
theorem z5h{H:Type}{enc:TypeId×Value->H}{W:World}{base:Nat}{v:Value}{d:DataW H}{p:List MemPlace}(hval:Value.okWide Tryz.prog W .any base 43 v)
  (h:DataW.Trod enc Tryz.prog W 0 (λ_=>true) true 43 v d p):
  ∃s:PropP,Sx.i64 s.at_/\(RV.ag s.c).at_ W (allK W) v:=by
 obtain⟨us,rfl,_⟩:=okWide_struct Tryz.underlying43 hval
 obtain⟨fuel,hf⟩:=h
 obtain⟨s,hs,hl⟩:=Rd.prop (r:=⟨H,enc,W,0,λ_=>true,true⟩) fuel us.toList (d,p) hf
 exact⟨s,hs,by simp only[RV.at_];exact⟨us,rfl,hl⟩⟩
end
section
open Ieee
def fw(s:Bool)(n:Nat):Nat:=double.nearest s n 0
def fl(n:Int):Nat:=fw (decide (n<0)) n.natAbs
end
end Go.Proofs.YtlofklpckddkfaaGreat.Sx
