import Derived.Test.YtoegdgbghdnnfaaGreatZSxV
import Derived.ProofKit
import Derived.Deep.Slices
import Derived.Deep.Fields
import Derived.SizedLaws
import Derived.Test.YtoegdgbghdnnfaaGreatRows
import Derived.Below
import Derived.ChangeOld
import Derived.OpenShut
import Derived.Laws.ComplexArith
namespace Go.Proofs.YtoegdgbghdnnfaaGreat.Sx
open Go.RowKit
section
open Go.RowKit Go.ChangeShapes Go.WideShapes Go.Deep
def allK(w:World):Kp:=λb=>((w.heap[b]?).map λo=>match o with | .cells c _ _=>c.size |_=>0).getD 0
theorem z0w{w:World}{b o:Nat}{v:Value}(h:w.cell? ⟨b,o,none⟩=some v):o<allK w b/\b<w.heap.size:=by
 unfold World.cell? at h
 unfold allK
 cases hb:w.heap[b]? with
 |none=>simp[hb]at h
 |some ob=>
  have h1:b<w.heap.size:=(Array.getElem?_eq_some_iff.1 hb).1
  cases ob with
  |cells c t fr=>
   simp[hb]at h
   exact⟨by simpa[hb]using(Array.getElem?_eq_some_iff.1 h).1,h1⟩
  |_=>simp[hb]at h
theorem zcg{w:World}{k:Kp}: ∀{xs ys:List RV} {us vs:List Value},RV.listAt w k xs us->RV.listAt w k ys vs->RV.listAt w k (xs++ys) (us++vs)
 |[],_,us,_,h,g=>by
  simp only[RV.listAt]at h
  subst h
  exact g
 |x::xs,_,us,_,h,g=>by
  simp only[RV.listAt]at h
  obtain⟨u,r,rfl,h1,h2,h3⟩:=h
  simp only[List.cons_append,RV.listAt]
  exact⟨u,_,rfl,h1,h2,zcg h3 g⟩
theorem zpz{w:World}{k:Kp}{b:Nat}: ∀{xs ys:List RV} {o:Nat},RV.cellsAt w k b o xs->RV.cellsAt w k b (o+xs.length) ys->RV.cellsAt w k b o (xs++ys)
 |[],_,_,_,g=>g
 |x::xs,ys,o,h,g=>by
  simp only[List.cons_append,RV.cellsAt]at h⊢
  exact⟨h.1,zpz h.2 (by rwa[List.length_cons,show o+(xs.length+1)=o+1+xs.length by omega]at g)⟩
theorem zp0{w:World}{b:Nat}: ∀{fs:List RV} {cs:List Value} {o:Nat},RV.listAt w (allK w) fs cs->(∀j,j<cs.length->w.cell? ⟨b,o+j,none⟩=cs[j]?)->RV.cellsAt w (allK w) b o fs
 |[],_,_,_,_=>by simp[RV.cellsAt]
 |f::fs,cs,o,h,hc=>by
  simp only[RV.listAt]at h
  obtain⟨u,r,rfl,h1,h2,h3⟩:=h
  have h0:=hc 0 (by simp)
  simp only[Nat.add_zero,List.getElem?_cons_zero]at h0
  simp only[RV.cellsAt]
  refine⟨⟨(z0w h0).1,u,h0,h1,h2⟩,zp0 h3 λj hj=>?_⟩
  have:=hc (j+1) (by simpa using hj)
  rw[show o+1+j=o+(j+1)by omega]
  simpa using this
structure Rd (P:Program):Type 1 where
 H:Type
 enc:TypeId×Value->H
 w:World
 base:Nat
 spare:Nat->Bool
 held:Bool
def Rd.trod{P:Program}(r:Rd P)(fuel:Nat)(t:TypeId)(cs:List Value):Option (DataW r.H×List MemPlace):=DataW.trod r.enc P r.w r.base r.spare r.held fuel t cs
def Rd.Reads{P:Program}(r:Rd P){σ:Type}(c:σ->List RV)(ok:σ->Prop)(t:TypeId):Prop:=
 ∀fuel cs x,r.trod fuel t cs=some x->∃s,ok s/\RV.listAt r.w (allK r.w) (c s) cs
section
variable {P:Program} {r:Rd P} {t e:TypeId} {σ:Type} {c:σ->List RV} {ok:σ->Prop}
theorem Rd.i64(ht:P.underlying t=some (.int .i64)):r.Reads (λn:Int=>[I n]) i64 t:=λfuel cs x h=>by
 obtain⟨n,rfl,_,hw⟩:=DataW.trod_int ht h
 refine⟨n,?_,by simp only[RV.listAt,RV.at_];exact⟨_,[],rfl,rfl,rfl,rfl⟩⟩
 simp only[Lit.wf,Bool.and_eq_true,decide_eq_true_eq]at hw
 exact⟨hw.1,hw.2⟩
theorem Rd.u8(ht:P.underlying t=some (.int .u8)):r.Reads (λn:UInt8=>[U8 n]) (λ_=>True) t:=λfuel cs x h=>by
 obtain⟨n,rfl,_,hw⟩:=DataW.trod_int ht h
 have hn:0<=n/\n<256:=by
  simp only[Lit.wf,Bool.and_eq_true,decide_eq_true_eq]at hw
  have h1:(0:Int)<=n:=hw.1
  have h2:n<=255:=hw.2
  omega
 refine⟨UInt8.ofNat n.toNat,trivial,?_⟩
 have:((UInt8.ofNat n.toNat).toNat:Int)=n:=by
  rw[UInt8.toNat_ofNat']
  omega
 simp only[RV.listAt,RV.at_]
 exact⟨_,[],rfl,rfl,by rw[this],rfl⟩
theorem Rd.elems{b o:Nat}{sz:Nat}(hl: ∀s,(c s).length=sz): ∀(n i0:Nat),(∀i,i<n->∃cs,(∀j,j<cs.length->r.w.cell? ⟨b,o+(i0+i)*sz+j,none⟩=cs[j]?)/\∃s,ok s/\RV.listAt r.w (allK r.w) (c s) cs)->
  ∃l:List σ,l.length=n/\(∀x∈l,ok x)/\RV.cellsAt r.w (allK r.w) b (o+i0*sz) (l.flatMap c)
 |0,_,_=>⟨[],rfl,by simp,by simp[RV.cellsAt]⟩
 |n+1,i0,h=>by
  obtain⟨cs,hc,s,hs,hq⟩:=h 0 (by omega)
  obtain⟨l,h1,h2,h3⟩:=Rd.elems hl n (i0+1) λi hi=>by
   have:=h (i+1) (by omega)
   rwa[show i0+(i+1)=i0+1+i by omega]at this
  refine⟨s::l,by simp[h1],λx hx=>?_,?_⟩
  ·rcases List.mem_cons.1 hx with rfl |hx
   ·exact hs
   ·exact h2 x hx
  ·rw[List.flatMap_cons]
   refine zpz (zp0 hq (by simpa using hc)) ?_
   rw[hl,show o+i0*sz+sz=o+(i0+1)*sz by rw[Nat.add_mul];omega]
   exact h3
theorem Rd.slice{sz:Nat}(ht:P.underlying t=some (.slice e))(hC:P.cellsOf e=sz)(h0:0<sz)(hl: ∀s,(c s).length=sz)(h:r.Reads c ok e)
  {fuel:Nat} {cs:List Value} {x:DataW r.H×List MemPlace} (hx:r.trod fuel t cs=some x):
  ∃l:List σ,(∀y∈l,ok y)/\RV.listAt r.w (allK r.w) [.sl sz l.length (l.flatMap c)] cs/\(l=[]\/∃E Sp,x.1= .slice E Sp/\E.length=l.length):=by
 have hlen: ∀l:List σ,(l.flatMap c).length=l.length*sz:=λl=>by
  induction l with
  |nil=>simp
  |cons y l ih=>rw[List.flatMap_cons,bL,hl,ih,List.length_cons,Nat.add_mul];omega
 rcases open_slice ht hx with⟨rfl,_⟩ |⟨a,len,cap,m,n,D,Pl,rfl,hb,hlc,hcm,hm,hd,hi⟩
 ·refine⟨[],by simp,?_, .inl rfl⟩
  simp only[RV.listAt,RV.at_]
  exact⟨_,[],rfl,rfl,⟨none,0,rfl,by simp,by simp,by simp,λh=>absurd h (by simp)⟩,rfl⟩
 ·have hlm:len<=m:=by rw[hm];split<;>omega
  rw[hC]at hi
  by_cases hz:len=0
  ·subst hz
   refine⟨[],by simp,?_, .inl rfl⟩
   simp only[RV.listAt,RV.at_]
   exact⟨_,[],rfl,rfl,⟨some a,cap,rfl,by simp,hcm,by simp,λh=>absurd h (by simp)⟩,rfl⟩
  ·obtain⟨b,o,spot⟩:=a
   obtain⟨cs0,hc0,_⟩:=hi 0 (by omega)
   obtain⟨_,hl0,ha0⟩:=World.cells?_some hc0
   have hs0:=ha0 0 h0
   rw[List.getElem?_eq_getElem (by omega)]at hs0
   have hspot:spot=none:=by simpa[Addr.add]using World.cell?_spot hs0
   subst hspot
   have hblk:b<r.w.heap.size:=by
    have:=hs0
    rw[Nat.zero_mul,add_plain,add_plain]at this
    exact(z0w this).2
   obtain⟨l,h1,h2,h3⟩:=Rd.elems (r:=r) (b:=b) (o:=o) (ok:=ok) hl len 0 λi hil=>by
    obtain⟨cs',hc,ht'⟩:=hi i (by omega)
    obtain⟨_,hcl,hat⟩:=World.cells?_some hc
    refine⟨cs',λj hj=>?_,h n cs' _ ht'⟩
    have:=hat j (by omega)
    rw[add_plain,add_plain]at this
    simpa using this
   refine⟨l,h2,?_, .inr ⟨_,_,by rw[hd],by simp[h1]⟩⟩
   simp only[RV.listAt,RV.at_]
   refine⟨_,[],rfl,rfl,⟨_,cap,by rw[h1],by omega,hcm,hlen l,λ_=>⟨b,o,rfl,hblk,by simpa using h3⟩⟩,rfl⟩
theorem zxh{α β:Type}(f:α->β)(l:List α):(l.flatMap λx=>[f x])=l.map f:=by
 induction l with
 |nil=>rfl
 |cons x l ih=>rw[List.flatMap_cons,ih];rfl
theorem Rd.bytes(ht:P.underlying t=some (.slice e))(he:P.underlying e=some (.int .u8))(hC:P.cellsOf e=1):r.Reads (λl:List UInt8=>[bs l]) (λ_=>True) t:=λfuel cs x hx=>by
 obtain⟨l,_,h,_⟩:=Rd.slice ht hC (by omega) (λ_=>rfl) (Rd.u8 he) hx
 refine⟨l,trivial,?_⟩
 rw[zxh]at h
 exact h
theorem Rd.ints(ht:P.underlying t=some (.slice e))(he:P.underlying e=some (.int .i64))(hC:P.cellsOf e=1):r.Reads (λl:List Int=>[is l]) (λl=>∀x∈l,Sx.i64 x) t:=λfuel cs x hx=>by
 obtain⟨l,h1,h,_⟩:=Rd.slice ht hC (by omega) (λ_=>rfl) (Rd.i64 he) hx
 refine⟨l,h1,?_⟩
 rw[zxh]at h
 exact h
theorem Rd.struct{fs:Array Field}{fuel C:Nat}{cs:List Value}{x:DataW r.H×List MemPlace}(ht:P.underlying t=some (.struct fs))(hC:P.cellsOf t=C)(h:r.trod fuel t cs=some x):
  cs.length=C/\∃(xs:List (DataW r.H×List MemPlace)) (n:Nat),x.1= .agg (xs.map (·.1))/\xs.length=fs.size/\∀(i:Nat) (f:Field),fs[i]?=some f->∀m,P.cellsOf f.type=m->r.trod n f.type ((cs.drop f.offset).take m)=xs[i]?:=by
 obtain⟨xs,n,_,hx,hl,hn,hf⟩:=DataW.trod_struct ht h
 exact⟨hl.trans hC,xs,n,by rw[hx],hn,λi f hi m hm=>hm▸hf i f hi⟩
end
end
section
open Go.RowKit Go.ChangeShapes Go.WideShapes Go.Deep
theorem z4m{α:Type}{l:List α}(h:l.length=3): ∃a0 a1 a2,l=[a0,a1,a2]:=by
 match l,h with
 |[a0,a1,a2],_=>exact⟨_,_,_,rfl⟩
theorem zcrb{α:Type}{l:List α}(h:l.length=6): ∃a0 a1 a2 a3 a4 a5,l=[a0,a1,a2,a3,a4,a5]:=by
 match l,h with
 |[a0,a1,a2,a3,a4,a5],_=>exact⟨_,_,_,_,_,_,rfl⟩
theorem zhvb{α:Type}{l:List α}(h:l.length=10): ∃a0 a1 a2 a3 a4 a5 a6 a7 a8 a9,l=[a0,a1,a2,a3,a4,a5,a6,a7,a8,a9]:=by
 match l,h with
 |[a0,a1,a2,a3,a4,a5,a6,a7,a8,a9],_=>exact⟨_,_,_,_,_,_,_,_,_,_,rfl⟩
section
variable {r:Rd Tryz.prog}
theorem Rd.leaf:r.Reads Leaf.c (λ_=>True) 56:=λfuel cs x hx=>by
 obtain⟨hl,xs,n,_,hxl,hf⟩:=Rd.struct (C:=6) Tryz.underlying56 (by kernel_rfl) hx
 obtain⟨a0,a1,a2,a3,a4,a5,rfl⟩:=zcrb hl
 obtain⟨y0,y1,y2,y3,y4,y5,rfl⟩:=zcrb hxl
 have h0:r.trod n 22 [a0]=some y0:=hf 0 _ rfl 1 (by kernel_rfl)
 have h1:r.trod n 22 [a1]=some y1:=hf 1 _ rfl 1 (by kernel_rfl)
 have h2:r.trod n 22 [a2]=some y2:=hf 2 _ rfl 1 (by kernel_rfl)
 have h3:r.trod n 5 [a3]=some y3:=hf 3 _ rfl 1 (by kernel_rfl)
 have h4:r.trod n 22 [a4]=some y4:=hf 4 _ rfl 1 (by kernel_rfl)
 have h5:r.trod n 22 [a5]=some y5:=hf 5 _ rfl 1 (by kernel_rfl)
 obtain⟨s0,k0,g0⟩:=(Rd.bytes Tryz.underlying22 Tryz.underlying5 (by kernel_rfl)) _ _ _ h0
 obtain⟨s1,k1,g1⟩:=(Rd.bytes Tryz.underlying22 Tryz.underlying5 (by kernel_rfl)) _ _ _ h1
 obtain⟨s2,k2,g2⟩:=(Rd.bytes Tryz.underlying22 Tryz.underlying5 (by kernel_rfl)) _ _ _ h2
 obtain⟨s3,k3,g3⟩:=(Rd.u8 Tryz.underlying5) _ _ _ h3
 obtain⟨s4,k4,g4⟩:=(Rd.bytes Tryz.underlying22 Tryz.underlying5 (by kernel_rfl)) _ _ _ h4
 obtain⟨s5,k5,g5⟩:=(Rd.bytes Tryz.underlying22 Tryz.underlying5 (by kernel_rfl)) _ _ _ h5
 exact⟨⟨s0,s1,s2,s3,s4,s5⟩,trivial,zcg g0 (zcg g1 (zcg g2 (zcg g3 (zcg g4 g5))))⟩
theorem Rd.par:r.Reads Par.c (λp=>∀x∈p.late,Sx.i64 x) 59:=λfuel cs x hx=>by
 obtain⟨hl,xs,n,_,hxl,hf⟩:=Rd.struct (C:=3) Tryz.underlying59 (by kernel_rfl) hx
 obtain⟨a0,a1,a2,rfl⟩:=z4m hl
 obtain⟨y0,y1,y2,rfl⟩:=z4m hxl
 have h0:r.trod n 22 [a0]=some y0:=hf 0 _ rfl 1 (by kernel_rfl)
 have h1:r.trod n 22 [a1]=some y1:=hf 1 _ rfl 1 (by kernel_rfl)
 have h2:r.trod n 57 [a2]=some y2:=hf 2 _ rfl 1 (by kernel_rfl)
 obtain⟨s0,k0,g0⟩:=(Rd.bytes Tryz.underlying22 Tryz.underlying5 (by kernel_rfl)) _ _ _ h0
 obtain⟨s1,k1,g1⟩:=(Rd.bytes Tryz.underlying22 Tryz.underlying5 (by kernel_rfl)) _ _ _ h1
 obtain⟨s2,k2,g2⟩:=(Rd.ints Tryz.underlying57 Tryz.underlying3 (by kernel_rfl)) _ _ _ h2
 exact⟨⟨s0,s1,s2⟩,k2,zcg g0 (zcg g1 g2)⟩
theorem Rd.node:r.Reads Node.c (λp=>∀x∈p.par.late,Sx.i64 x) 61:=λfuel cs x hx=>by
 obtain⟨hl,xs,n,_,hxl,hf⟩:=Rd.struct (C:=10) Tryz.underlying61 (by kernel_rfl) hx
 obtain⟨a0,a1,a2,a3,a4,a5,a6,a7,a8,a9,rfl⟩:=zhvb hl
 obtain⟨y0,y1,y2,rfl⟩:=z4m hxl
 have h0:r.trod n 5 [a0]=some y0:=hf 0 _ rfl 1 (by kernel_rfl)
 have h1:r.trod n 56 [a1,a2,a3,a4,a5,a6]=some y1:=hf 1 _ rfl 6 (by kernel_rfl)
 have h2:r.trod n 59 [a7,a8,a9]=some y2:=hf 2 _ rfl 3 (by kernel_rfl)
 obtain⟨s0,k0,g0⟩:=(Rd.u8 Tryz.underlying5) _ _ _ h0
 obtain⟨s1,k1,g1⟩:=Rd.leaf _ _ _ h1
 obtain⟨s2,k2,g2⟩:=Rd.par _ _ _ h2
 exact⟨⟨s0,s1,s2⟩,k2,zcg g0 (zcg g1 g2)⟩
end
end
section
open Go.ChangeShapes Go.WideShapes Go.ChangeAt Go.RowKit
theorem zay{g:Nat->Bool}{a b c:Nat}(h:(List.range' a b).all g=true)(k:(List.range' (a+b) c).all g=true):(List.range' a (b+c)).all g=true:=by
 rw[<-List.range'_append_1,List.all_append,h,k];rfl
theorem zgz{α:Type}{g:Nat->α}{a b c:Nat}{l m:List α}(h:(List.range' a b).map g=l)(k:(List.range' (a+b) c).map g=m):(List.range' a (b+c)).map g=l++m:=by
 rw[<-List.range'_append_1,List.map_append,h,k]
theorem zg4{g:Nat->Bool}{n:Nat}(h:(List.range' 0 n).all g=true):(List.range n).all g=true:=by rw[List.range_eq_range'];exact h
theorem zsj{α β:Type}(l:List α)(d:β)(h:α->β):l.map h=(List.range l.length).map λi=>(l[i]?).elim d h:=by
 apply List.ext_getElem
 ·simp
 ·intro i h1 h2
  simp at h1
  simp[List.getElem?_eq_getElem h1]
theorem zlb{α:Type}(l:List α)(h:α->Bool):l.all h=(List.range l.length).all λi=>(l[i]?).elim true h:=by
 have e:=zsj l true h
 have: ∀m:List Bool,∀l:List α,l.map h=m->l.all h=m.all id:=λm l hm=>by rw[<-hm,List.all_map];rfl
 rw[this _ _ e,List.all_map];rfl
noncomputable def leadAt (i:Nat):List Nat:=(Tryz.prog.funcs[i]?).elim [] Tryz.prog.leadsTo
def zckb:List (List Nat):=[[],[],[1],[4,5,6,7,8,9,8,10,11,12,13,14,15,16],[17,18,19,16,13],[20],[],[21,22,23,23,23,24],[25],[26,27,28,29,30],[],[19,32,31,12],[13,16,15,14,33,10,34,34,36,35,10,36,35,10,36,36,37,10],[38,39,41,40],[38,42],[38,43,40],[38,39,39,44,40],[46,47,45],[48,9],[49],[],[],[50,50,51,50,52,50],[53,53],[],[55,54],[56],[],[30,30,30],[57],[],[10,10,10],[49,28],[58,59],[60,24],[62,62,61,61,63,61],[65,64,25],[62,66,67,66],[19],[68,69],[],[70,71],[72,73,74],[68,71],[75,75,77,78,76],[79,30,26,81,82,80,83,84],[],[85],[86],[],[87,10,10,88],[],[],[89],[90,91],[92,62,93,58,93,92,94,58,93,25,59,25,59,93,93],[72,95],[96,30,30,97],[99,98,62,98,59,98,59,59,98,98],[100],[],[],[],[101,102,61,58,61,94,63,63,61,61]]
theorem zhob:(List.range' 0 64).map leadAt=zckb:=by kernel_rfl
def zclb:List (List Nat):=[[103,104,101,105,94,106,106,107,107],[],[],[108,101,109,66,58,66,94,67,67,66,66],[56,110,112,111],[114,113,57,115,113,30],[116,117],[77,77,78,118],[119,120,121,121,122],[123,124,74,125],[126],[70],[127,128,73,129,76,130,76],[131,132],[133],[81,134,81,134,81,135,136,137,138],[140,139],[141],[],[142],[74,143],[],[144,29,30,145,30,30],[10,10,10,10,10],[],[146],[],[147,147,148,147,147,148,147,147,147,147,147,147],[],[],[53],[149,129,95,130,95,150,143],[30],[],[],[151,59,98],[],[],[],[89],[89,152],[101,94,105,105,103,23,106,101],[],[],[153,153,155,155,154],[101,156],[72,157,57],[158,161,78],[],[162,163],[164],[165],[],[133,166,167,111,114,113,168,115,113,168],[73,129,118,130,118],[133],[73],[169,170],[119,159,171,172],[173,174,175,174,173,176],[74,74],[77,74,74,74],[177,131,77],[128,179,179,178]]
theorem zhpb:(List.range' 64 64).map leadAt=zclb:=by kernel_rfl
def zcmb:List (List Nat):=[[180,181,183,184],[185],[185],[],[],[186],[188,187,189],[190,192,191,193],[96,175,194,138],[196,197,195],[200,199],[201,30,81,203,202,204,81],[201,203,202],[77,74,74,205],[207,206,206,143,207,143],[206,208],[30,209,210],[211,212],[],[],[],[73,77],[73,74,74],[59,59,98,59,98,98,59,98],[213,94],[109],[50,10],[23,23],[101,102,214,54],[119],[159,160],[215,215,216],[218,217],[129,130],[219],[221,220],[],[],[73,222,217],[],[],[223],[],[224,224],[225,226,226],[],[],[],[],[],[227,228,230,231],[159,159],[],[182],[232,232],[],[182],[216],[233,234],[77,235,205],[235,201],[237,238,236],[237,237,240,239,241,242],[243,244,245,245,246,247,248,247]]
theorem zhqb:(List.range' 128 64).map leadAt=zcmb:=by kernel_rfl
def zcnb:List (List Nat):=[[249],[243,240,239,238,239,250],[124,74,77],[],[251],[198],[252,252,253,254],[135,249,256,255,190,191,193,256,255,258,257,259,206],[74,74],[142],[141],[252,252,253,252,253,253],[],[142],[260],[143],[261,131,262,263],[30],[30],[264,265,195],[269,271,268],[89],[101,62,61,58,61,94,58,61,156,59,156,59,61,61],[],[215],[272],[159],[],[273,274,275,276,277,278,225,279,280,220,220],[281,282],[159],[],[283,216],[232,232],[],[],[229],[168,27,27,27,27,27,27,27],[],[27],[],[],[],[],[285,286,284],[],[287],[288,289,290],[292,291],[293,237,294,245,239,237,246,240,239,295],[237,239],[244],[237,242],[237,296,237,240,239],[290],[294,294,239,246,246,239,239,239,246,239,294,294,246,246,239,239,239,239],[],[256,255],[287],[297],[77],[74],[297],[298,299]]
theorem zhrb:(List.range' 192 64).map leadAt=zcnb:=by kernel_rfl
def zcob:List (List Nat):=[[206,300],[301,302],[303,289,289,299],[],[],[],[],[304,305,306,306,306,306,306,306],[307,308,309,310,311],[267,266,253],[253,253],[252,252,312],[313,315,314],[270],[316,316,317,318,316,318,318,319,320,314,317,317,317],[264],[],[225],[321,321],[322,323],[324,324,324,325],[],[225,225,225],[225,225],[225,225,225,225],[],[],[133],[237,237,326,326,240,239,238],[],[327],[290,290],[303,289,289],[],[],[237,293,239],[328],[239],[290],[292,291,293,329,237,292,291,239,293,329,250,296],[294],[175,124,74],[],[301,302],[330,331,333,332,334],[289],[336,335],[],[306,306,306,306],[],[337],[],[196,338,339,251,339,338,307],[311],[339,338],[340,341,338,343],[253,252,252,344,345],[],[],[346],[318,314],[347,346,314],[348,346,314],[318,349,350,318,314]]
theorem zhsb:(List.range' 256 64).map leadAt=zcob:=by kernel_rfl
def zcpb:List (List Nat):=[[352,351,354,350,355,351],[225,225],[221],[],[325],[357,357,357],[246,294,246,294,239,239,293,293,294,239,237,239,246,239,246,293,294,293,239],[],[358,359],[287,287],[],[],[360],[131],[361,362,362,362,362,362,362],[363],[],[],[229],[338],[364],[342],[308,310],[251,365,366],[198,253,254,252],[253,344,253,253,253,253,253,254,253],[],[369,370],[132,371,372],[316,316,317,350,317],[373,314],[317,313,374,314],[353],[318,319,317,314],[375,346,314],[356],[317,376,351],[225],[377,303],[],[],[362,362,362,362],[378],[],[],[379],[367,368],[],[380],[371,381,371,372,177,381],[371,30],[381,381],[],[347,347,347,348,346,347,347,346,175],[],[371,381],[317,317],[],[],[],[],[],[],[]]
theorem zhtb:(List.range' 320 64).map leadAt=zcpb:=by kernel_rfl
def zcqb:List (List Nat):=[[],[],[],[],[],[],[],[],[],[],[],[],[],[],[],[],[],[]]
theorem zhub:(List.range' 384 18).map leadAt=zcqb:=by kernel_rfl
def leadL:List (List Nat):=(zckb++(zclb++(zcmb++(zcnb++(zcob++(zcpb++zcqb))))))
theorem zyd:(List.range' 0 402).map leadAt=leadL:=zgz (b:=64) (c:=338) zhob (zgz (b:=64) (c:=274) zhpb (zgz (b:=64) (c:=210) zhqb (zgz (b:=64) (c:=146) zhrb (zgz (b:=64) (c:=82) zhsb (zgz (b:=64) (c:=18) zhtb (zhub))))))
theorem zgfb:(List.range' 0 64).all (rowFine Tryz.prog)=true:=by kernel_rfl
theorem zggb:(List.range' 64 64).all (rowFine Tryz.prog)=true:=by kernel_rfl
theorem zghb:(List.range' 128 64).all (rowFine Tryz.prog)=true:=by kernel_rfl
theorem zgib:(List.range' 192 64).all (rowFine Tryz.prog)=true:=by kernel_rfl
theorem zgjb:(List.range' 256 64).all (rowFine Tryz.prog)=true:=by kernel_rfl
theorem zgkb:(List.range' 320 64).all (rowFine Tryz.prog)=true:=by kernel_rfl
theorem zglb:(List.range' 384 60).all (rowFine Tryz.prog)=true:=by kernel_rfl
theorem z9r:(List.range' 0 444).all (rowFine Tryz.prog)=true:=zay (b:=64) (c:=380) zgfb (zay (b:=64) (c:=316) zggb (zay (b:=64) (c:=252) zghb (zay (b:=64) (c:=188) zgib (zay (b:=64) (c:=124) zgjb (zay (b:=64) (c:=60) zgkb (zglb))))))
noncomputable def mapFine (t:Nat):Bool:=match Tryz.prog.underlying t with |some (.map _ e)=>decide (e<Tryz.prog.types.size) |_=>true
theorem zhxb:(List.range' 0 64).all mapFine=true:=by kernel_rfl
theorem zhyb:(List.range' 64 64).all mapFine=true:=by kernel_rfl
theorem zhzb:(List.range' 128 64).all mapFine=true:=by kernel_rfl
theorem zh0b:(List.range' 192 64).all mapFine=true:=by kernel_rfl
theorem zh1b:(List.range' 256 64).all mapFine=true:=by kernel_rfl
theorem zh2b:(List.range' 320 64).all mapFine=true:=by kernel_rfl
theorem zh3b:(List.range' 384 60).all mapFine=true:=by kernel_rfl
theorem zbcb:(List.range' 0 444).all mapFine=true:=zay (b:=64) (c:=380) zhxb (zay (b:=64) (c:=316) zhyb (zay (b:=64) (c:=252) zhzb (zay (b:=64) (c:=188) zh0b (zay (b:=64) (c:=124) zh1b (zay (b:=64) (c:=60) zh2b (zh3b))))))
noncomputable def keyFine (t:Nat):Bool:=match Tryz.prog.underlying t with |some (.map k _)=>(match Tryz.prog.underlying k with |some (.array _ _) |some (.struct _)=>false |_=>true) |_=>true
theorem zhhb:(List.range' 0 64).all keyFine=true:=by kernel_rfl
theorem zhib:(List.range' 64 64).all keyFine=true:=by kernel_rfl
theorem zhjb:(List.range' 128 64).all keyFine=true:=by kernel_rfl
theorem zhkb:(List.range' 192 64).all keyFine=true:=by kernel_rfl
theorem zhlb:(List.range' 256 64).all keyFine=true:=by kernel_rfl
theorem zhmb:(List.range' 320 64).all keyFine=true:=by kernel_rfl
theorem zhnb:(List.range' 384 60).all keyFine=true:=by kernel_rfl
theorem za6b:(List.range' 0 444).all keyFine=true:=zay (b:=64) (c:=380) zhhb (zay (b:=64) (c:=316) zhib (zay (b:=64) (c:=252) zhjb (zay (b:=64) (c:=188) zhkb (zay (b:=64) (c:=124) zhlb (zay (b:=64) (c:=60) zhmb (zhnb))))))
noncomputable def parFine (i:Nat):Bool:=(Tryz.prog.funcs.toList[i]?).elim true λf=>f.params.all λt=>decide (t<Tryz.prog.types.size)
theorem zh6b:(List.range' 0 64).all parFine=true:=by kernel_rfl
theorem zh7b:(List.range' 64 64).all parFine=true:=by kernel_rfl
theorem zh8b:(List.range' 128 64).all parFine=true:=by kernel_rfl
theorem zh9b:(List.range' 192 64).all parFine=true:=by kernel_rfl
theorem ziab:(List.range' 256 64).all parFine=true:=by kernel_rfl
theorem zibb:(List.range' 320 64).all parFine=true:=by kernel_rfl
theorem zicb:(List.range' 384 18).all parFine=true:=by kernel_rfl
theorem zbnb:(List.range' 0 402).all parFine=true:=zay (b:=64) (c:=338) zh6b (zay (b:=64) (c:=274) zh7b (zay (b:=64) (c:=210) zh8b (zay (b:=64) (c:=146) zh9b (zay (b:=64) (c:=82) ziab (zay (b:=64) (c:=18) zibb (zicb))))))
noncomputable def stopFine (i:Nat):Bool:=(Tryz.prog.funcs.toList[i]?).elim true λfn=>(Stop.rowOf fn).isNone|| !fn.norace
theorem zffb:(List.range' 0 64).all stopFine=true:=by kernel_rfl
theorem zfgb:(List.range' 64 64).all stopFine=true:=by kernel_rfl
theorem zfhb:(List.range' 128 64).all stopFine=true:=by kernel_rfl
theorem zfib:(List.range' 192 64).all stopFine=true:=by kernel_rfl
theorem zfjb:(List.range' 256 64).all stopFine=true:=by kernel_rfl
theorem zfkb:(List.range' 320 64).all stopFine=true:=by kernel_rfl
theorem zflb:(List.range' 384 18).all stopFine=true:=by kernel_rfl
theorem z8z:(List.range' 0 402).all stopFine=true:=zay (b:=64) (c:=338) zffb (zay (b:=64) (c:=274) zfgb (zay (b:=64) (c:=210) zfhb (zay (b:=64) (c:=146) zfib (zay (b:=64) (c:=82) zfjb (zay (b:=64) (c:=18) zfkb (zflb))))))
theorem zh4:Tryz.prog.funcs.size=402:=by kernel_rfl
theorem zkr:Tryz.prog.types.size=444:=by kernel_rfl
theorem zsc:laidOutB Tryz.prog=true:=by
 have h1:(List.range Tryz.prog.types.size).all (rowFine Tryz.prog)=true:=by rw[zkr];exact zg4 z9r
 have h2:Tryz.prog.globals.all (λg=>decide (g.type<Tryz.prog.types.size))=true:=by kernel_rfl
 have h3:Tryz.prog.funcs.all (λf=>f.params.all λt=>decide (t<Tryz.prog.types.size))=true:=by
  rw[<-Array.all_toList,zlb,Array.length_toList,zh4];exact zg4 zbnb
 unfold laidOutB
 rw[h1,h2,h3];rfl
def zyg(P:Program)(t:Nat):Bool:=match P.underlying t with |some (.map _ e)=>decide (e<P.types.size) |_=>true
def zx9(P:Program)(t:Nat):Bool:=match P.underlying t with |some (.map k _)=>(match P.underlying k with |some (.array _ _) |some (.struct _)=>false |_=>true) |_=>true
theorem zerb{P:Program}{n:Nat}(hn:P.types.size=n)(h:(List.range n).all (zyg P)=true):mapsRowed P=true:=by subst hn;exact h
theorem zemb{P:Program}{n:Nat}(hn:P.types.size=n)(h:(List.range n).all (zx9 P)=true):P.plainKeys=true:=by subst hn;exact h
theorem z4n:mapFine=zyg Tryz.prog:=by kernel_rfl
theorem z4f:keyFine=zx9 Tryz.prog:=by kernel_rfl
theorem z4o:mapsRowed Tryz.prog=true:=zerb zkr (by rw[<-z4n];exact zg4 zbcb)
theorem z4i:Tryz.prog.plainKeys=true:=zemb zkr (by rw[<-z4f];exact zg4 za6b)
theorem z0o:Tryz.prog.stopsHeard=true:=by
 unfold Program.stopsHeard
 rw[<-Array.all_toList,zlb,Array.length_toList,zh4];exact zg4 z8z
def zrl(L:List (List Nat)):Nat->List Nat->List Nat->List Nat
 |0,_,seen=>seen.reverse
 |_+1,[],seen=>seen.reverse
 |n+1,f::todo,seen=>if seen.contains f then zrl L n todo seen else zrl L n ((L[f]?).getD []++todo) (f::seen)
theorem ztj{P:Program}{L:List (List Nat)}(h: ∀f:Nat,(P.funcs[f]?).elim [] P.leadsTo=(L[f]?).getD []): ∀(n:Nat) (todo seen:List Nat),P.closureVia n todo seen=zrl L n todo seen
 |0,todo,seen=>by cases todo<;>rfl
 |n+1,[],seen=>rfl
 |n+1,f::todo,seen=>by
  unfold Program.closureVia zrl
  rw[h f,ztj h n,ztj h n]
theorem zbab(f:Nat):(Tryz.prog.funcs[f]?).elim [] Tryz.prog.leadsTo=(leadL[f]?).getD []:=by
 rw[<-zyd]
 by_cases h:f<402
 ·rw[List.getElem?_map,List.getElem?_range' h,Nat.zero_add,Nat.one_mul,Option.map_some,Option.getD_some,leadAt]
 ·rw[Array.getElem?_eq_none (by rw[zh4];exact Nat.le_of_not_lt h),List.getElem?_eq_none (by rw[List.length_map,List.length_range'];exact Nat.le_of_not_lt h)];rfl
theorem z70:(Tryz.prog.funcs.toList.map λg=>(Tryz.prog.leadsTo g).length+1)=leadL.map λl=>l.length+1:=by
 rw[zsj _ 1,Array.length_toList,zh4,<-zyd,List.map_map,List.range_eq_range']
 refine List.map_congr_left λi _=>?_
 rw[Array.getElem?_toList]
 show _=(leadAt i).length+1
 unfold leadAt
 cases Tryz.prog.funcs[i]?<;>rfl
theorem z5r(f:Nat):Tryz.prog.closure f=zrl leadL (1+(leadL.map λl=>l.length+1).sum) [f] []:=by
 unfold Program.closure
 rw[z70,ztj zbab]
theorem andI{a b:Bool}(h:a=true)(k:b=true):(a&&b)=true:=by rw[h,k];rfl
end
section
open Go.ChangeShapes Go.WideShapes Go.ChangeAt Go.RowKit
theorem zbkb:ownKnob Tryz.prog.godebug=none:=by kernel_rfl
theorem zqw:laidOutB Tryz.prog=true:=zsc
end
section
open Go.ChangeShapes Go.WideShapes Go.ChangeAt Go.RowKit
set_option maxRecDepth 100000 in
theorem z9k{H:Type}{enc:TypeId×Value->H}{W:World}{base:Nat}{v:Value}{d:DataW H}{p:List MemPlace}(hval:Value.okWide bP W .any base 22 v)
  (h:DataW.Trod enc bP W 0 (λ_=>true) true 22 v d p):
  ∃l:List UInt8,(bs l).at_ W (allK W) v:=by
 obtain⟨a,n,c,rfl⟩:=okWide_slice Tryz.underlying22 hval
 obtain⟨fuel,hf⟩:=h
 obtain⟨l,_,h2⟩:=Rd.bytes (r:=⟨H,enc,W,0,λ_=>true,true⟩) Tryz.underlying22 Tryz.underlying5 (by kernel_rfl) fuel [.slice a n c] (d,p) hf
 refine⟨l,?_⟩
 simp only[RV.listAt]at h2
 obtain⟨u,r,e,_,hat,rfl⟩:=h2
 simp only[List.cons.injEq,and_true]at e
 rw[e]
 exact hat
end
section
open Ieee
def fw(s:Bool)(n:Nat):Nat:=double.nearest s n 0
def fl(n:Int):Nat:=fw (decide (n<0)) n.natAbs
end
section
variable {P:Program} {T:TT} {B:Bs} {N:Nat} {S:St} {a:Act} {w:World} {k:Kp} {g:Env} {o:Oper} {Q:Exit->Act->World->Prop}
def cloS{α:Type}(P:Program)(arg:α->RV)(D:α->Prop)(q:α->Bool):Stable where
 at_ w k v:=∃f rvs cap,v= .func (.func f) #[] cap/\RV.partsAt w k rvs cap.toList/\∀x,D x->zab P f (arg x::rvs) (.r (.b (q x)))
 mono:=λh ⟨f,rvs,cap,e,hp,hg⟩=>⟨f,rvs,cap,e,RV.parts_mono h rvs _ hp,hg⟩
 one:=by rintro w k v ⟨f,rvs,cap,rfl,_⟩;rfl
theorem Vstep.sub{S':St}{K:St->Prop}(hs:Sub S S')(h:Vstep P S' o K):Vstep P S o K:=by
 obtain⟨ι,S2,hy,hK⟩:=h
 refine⟨ι,S2,λB N a w k Q hs0 hd=>?_,hK⟩
 obtain⟨k',hs'⟩:=hs B N a w k hs0
 exact hy B N a w k' Q hs' hd
theorem Vstep.clo{α:Type}{arg:α->RV}{D:α->Prop}{q:α->Bool}{t:Nat}{x:Operand}{ts:Array TypeId}{f:TF}{v:RV}{K:St->Prop}(y:α)
  (hop:o.op= .call {callee:= .value (.tmp t),args:= #[x],argTypes:=ts}) (hf:fget S.F t=some (.r (.s (cloS P arg D q)))) (hx:opr S x=some f) (hv:S.rv f=some v) (hc:Cv v (arg y)) (hD:D y)
  (hK:newK S o.dst (.r (.b (q y))) none K):Vstep P S o K:=by
 rw[za4]at hK
 refine Vstep.one (λB N a w k Q ⟨g,hs⟩ hd=>?_) hK
 have hfv:=(hs.facts t _ hf).2
 simp only[TF.at_,RV.at_]at hfv
 obtain⟨fn,rvs,cap,e,hp,hg⟩:=hfv
 have hxv:=zgm hs hv (zah hs hx).2
 have hus:RV.partsAt w k (v::rvs) (a.eval x::cap.toList):=by simp only[RV.partsAt];exact⟨_,_,rfl,hxv,hp⟩
 have:=zix (o:=o) (Q:=Q) (K:=λf ow=>f= .r (.b (q y))/\ow=none) hs hus (zk hc (zn rvs)) (hg y hD) (by
  have e2:a.eval (.tmp t)= .func (.func fn) #[] cap:=by
   have:a.eval (.tmp t)=a.tmps.getD t undef:=by simp[Act.eval]
   rw[this,e]
  have e3: #[a.eval x]++cap=(a.eval x::cap.toList).toArray:=by apply Array.ext';simp
  simp[execOp,hop,resolve,e2,Deferred.ofValue,invoke,e3]) ⟨rfl,rfl⟩
 refine Oper.wp_mono ?_ this
 rintro a' w' ⟨f',ow,u,k',⟨rfl,rfl⟩,rfl,hl⟩
 exact⟨k',hl.sat hs hd⟩
theorem Vstep.cloB{α:Type}{arg:α->RV}{D:α->Prop}{q:α->Bool}{t:Nat}{x:Operand}{ts:Array TypeId}{f:TF}{v:RV}{K:St->Prop}(y:α)
  (hop:o.op= .call {callee:= .value (.tmp t),args:= #[x],argTypes:=ts}) (hf:fget S.F t=some (.r (.s (cloS P arg D q)))) (hx:opr S x=some f) (hv:S.rv f=some v) (hc:Cv v (arg y)) (hD:D y)
  (h1:q y=true->newK S o.dst (.r (.b true)) none K) (h0:q y=false->newK S o.dst (.r (.b false)) none K):Vstep P S o K:=by
 refine Vstep.clo y hop hf hx hv hc hD ?_
 cases hq:q y
 ·exact h0 hq
 ·exact h1 hq
theorem SatE.pub(hs:SatE B N S a w k g){id:Nat}{vs:List RV}(ho:oget S.O id=some (.box (vs.map .r))):
  ∃b k',g id=(.pointer (some ⟨b,0,none⟩),some b)/\Le w k w k'/\b<w.heap.size/\RV.cellsAt w k' b 0 vs/\SatE B N (S.set id none) a w k' g:=by
 obtain⟨_,_,hat,_⟩:=hs.owns id _ ho
 simp only[Ow.at_]at hat
 obtain⟨b,cur,ty,e,hh,hk,hsz,hc⟩:=hat
 have hw:Wrote w k w (kset k b vs.length) (some b):=⟨rfl,rfl,rfl,Nat.le_refl _,λx _ hne=>⟨rfl,by simp[kset,show x≠b fromλh=>hne (by rw[h])]⟩,λx hx=>by
  cases hx
  exact⟨by omega,λ_ _=>rfl,λh=>by omega⟩⟩
 refine⟨b,kset k b vs.length,e,hw.le,(Array.getElem?_eq_some_iff.1 hh).1,?_,hs.wrote hw (id:=some id) ⟨⟨_,ho⟩,by rw[e]⟩⟩
 rw[RV.cellsAt_iff]
 intro j f hf
 have hj:=(List.getElem?_eq_some_iff.1 hf).1
 rw[List.length_map]at hsz
 have hcj:cur[j]?=some cur[j]:=Array.getElem?_eq_getElem (by omega)
 have h1:=hc j (.r f) cur[j] (by simp[hf]) hcj
 refine⟨by rw[zcu];omega,cur[j],?_,h1.1,RV.mono hw.le f _ h1.2⟩
 rw[Nat.zero_add,cell_of_row w b j cur ty (0,0) hh]
 exact hcj
theorem zd7{id t:Nat}(vs:List RV)(hf:fget S.F t=some (.own id))(ho:oget S.O id=some (.box (vs.map .r))):Sub S ⟨(t, .r (.ptr vs))::S.F,(id,none)::S.O,S.nx⟩:=by
 rintro B N a w k ⟨g,hs⟩
 obtain⟨b,k',hg,hle,hb,hc,h⟩:=hs.pub ho
 have hv:=(hs.facts t _ hf).2
 simp only[TF.at_]at hv
 refine⟨k',g,h.size,h.defers,h.keep,h.kk,λt' f hf'=>?_,h.owns,h.apart⟩
 rcases zbd hf' with⟨rfl,rfl⟩ |⟨_,hf'⟩
 ·refine⟨trivial,?_⟩
  simp only[TF.at_,RV.at_]
  exact⟨b,0,by rw[hv,hg],hb,hc⟩
 ·exact h.facts t' f hf'
theorem zmh(hs:SatE B N S a w k g): ∀{xs:List Operand} {vs:List RV},oprs S xs=some vs->RV.partsAt w k vs (xs.map a.eval)
 |[],vs,h=>by simp only[oprs]at h;cases h;rfl
 |x::xs,vs,h=>by
  simp only[oprs]at h
  split at h
  ·rename_i f hf
   split at h
   ·rename_i v vs' hv hvs
    cases h
    simp only[List.map_cons,RV.partsAt]
    exact⟨_,_,rfl,zgm hs hv (zah hs hf).2,zmh hs hvs⟩
   ·cases h
  ·cases h
theorem Vstep.mkfun{α:Type}(arg:α->RV)(D:α->Prop)(q:α->Bool){f:FuncId}{cap:Array Operand}{rvs:List RV}{K:St->Prop}(hop:o.op= .makeFunc (.func f) #[] cap) (hc:oprs S cap.toList=some rvs)
  (hg: ∀x,D x->zab P f (arg x::rvs) (.r (.b (q x)))) (hK:newK S o.dst (.r (.s (cloS P arg D q))) none K):Vstep P S o K:=by
 rw[za4]at hK
 refine Vstep.one (λB N a w k Q ⟨g,hs⟩ hd=>?_) hK
 have hp:=zmh hs hc
 refine za0 (v:= .func (.func f) #[] (cap.map a.eval)) (w':=w) (by simp[execOp,hop,Instr.makeFunc]) ⟨k,g,hs.put hd trivial ?_⟩
 simp only[TF.at_,RV.at_]
 exact⟨f,rvs,_,rfl,by simpa using hp,hg⟩
def entsAt(w:World)(k:Kp)(ents:List (Int×RV))(es:List MapEntry):Prop:=es.length=ents.length/\∀(j:Nat) (x:Int×RV) (e:MapEntry),ents[j]?=some x->es[j]?=some e->e.key= .int .i64 x.1/\x.2.at_ w k e.val
theorem entsAt.mono{w':World}{k':Kp}(h:Le w k w' k'){ents:List (Int×RV)}{es:List MapEntry}(he:entsAt w k ents es):entsAt w' k' ents es:=
 ⟨he.1,λj x e h1 h2=>⟨(he.2 j x e h1 h2).1,RV.mono h _ _ (he.2 j x e h1 h2).2⟩⟩
def stampE(es:Array MapEntry)(c:Nat):Prop:=(∀x∈es.toList,x.born<c)/\(es.toList.map (·.born)).Nodup/\(es.toList.map (·.key)).Nodup
theorem stampE.nil:stampE #[] 0:=⟨λx h=>by simp at h,by simp,by simp⟩
theorem stampE.push{es:Array MapEntry}{c:Nat}{key val:Value}(h:stampE es c)(hk: ∀x∈es.toList,x.key≠key):stampE (es.push {key:=key,val:=val,born:=c}) (c+1):=by
 refine⟨λx hx=>?_,?_,?_⟩
 ·rw[Array.toList_push]at hx
  rcases List.mem_append.1 hx with hx |hx
  ·have:=h.1 x hx;omega
  ·rw[List.mem_singleton.1 hx];exact Nat.lt_succ_self _
 ·rw[Array.toList_push,List.map_append,List.nodup_append]
  refine⟨h.2.1,by simp,λx hx y hy e=>?_⟩
  obtain⟨z,hz,rfl⟩:=List.mem_map.1 hx
  have:=h.1 z hz
  simp at hy
  omega
 ·rw[Array.toList_push,List.map_append,List.nodup_append]
  refine⟨h.2.2,by simp,λx hx y hy e=>?_⟩
  obtain⟨z,hz,rfl⟩:=List.mem_map.1 hx
  simp at hy
  exact hk z hz (e.trans hy)
def mapS(ents:List (Int×RV)):Stable where
 at_ w k v:=(v= .map none/\ents=[])\/∃b es c,v= .map (some b)/\b<w.heap.size/\0<k b/\w.heap[b]?=some (.map es c)/\entsAt w k ents es.toList/\stampE es c
 mono:=by
  rintro w k w' k' v h (h1 |⟨b,es,c,e,hb,hk,hh,he,hst⟩)
  ·exact .inl h1
  ·exact .inr ⟨b,es,c,e,Nat.lt_of_lt_of_le hb h.size,Nat.lt_of_lt_of_le hk (h.keep b hb),h.map b hb hk es c hh,he.mono h,hst⟩
 one:=by
  rintro w k v (⟨rfl,_⟩ |⟨b,es,c,rfl,_⟩)<;>rfl
def mapO(ents:List (Int×RV)):GOw where
 at_ w k vb:=∃b es c,vb=(.map (some b),some b)/\w.heap[b]?=some (.map es c)/\k b=0/\entsAt w k ents es.toList/\stampE es c
 mono:=by
  rintro w k w' k' vb h hb ⟨b,es,c,rfl,hh,hk,he,hst⟩
  have:=hb b rfl
  exact⟨b,es,c,rfl,this.1.trans hh,this.2.trans hk,he.mono h,hst⟩
 one:=by rintro w k vb ⟨b,es,c,rfl,_⟩;rfl
def zc6:List (Int×RV)->Int->Option RV
 |[],_=>none
 |(m,r)::l,n=>if m=n then some r else zc6 l n
theorem z05: ∀{ents:List (Int×RV)} {es:List MapEntry} {n:Int},entsAt w k ents es->zc6 ents n=none->∀x∈es,x.key≠ .int .i64 n
 |[],[],n,_,_,x,hx=>by cases hx
 |[],e::es,n,h,_,x,hx=>by have:=h.1;simp at this
 |x::ents,[],n,h,_,y,hy=>by cases hy
 |(m,r)::ents,e::es,n,h,hm,x,hx=>by
  obtain⟨h1,h2⟩:=h.2 0 (m,r) e (by simp) (by simp)
  simp only[zc6]at hm
  split at hm
  ·cases hm
  ·rename_i hne
   rcases List.mem_cons.1 hx with rfl |hx
   ·rw[h1]
    intro e'
    simp at e'
    exact hne e'
   ·exact z05 ⟨by have:=h.1;simpa using this,λj x e h1 h2=>h.2 (j+1) x e (by simpa using h1) (by simpa using h2)⟩ hm x hx
theorem znf{kd:IntKind}{n:Int}: ∀{ents:List (Int×RV)} {es:List MapEntry} (i:Nat),entsAt w k ents es->
  ∃res,Instr.findNow (.int kd) (.int .i64 n) es i=some res/\match zc6 ents n with
   |some r=>∃j v,res=some (j,v)/\r.at_ w k v
   |none=>res=none
 |[],[],i,_=>⟨none,rfl,rfl⟩
 |[],e::es,i,h=>by have:=h.1;simp at this
 |x::ents,[],i,h=>by have:=h.1;simp at this
 |(m,r)::ents,e::es,i,h=>by
  obtain⟨h1,h2⟩:=h.2 0 (m,r) e (by simp) (by simp)
  simp only[Instr.findNow,h1,Instr.sameNow,if_true,zc6]
  by_cases hm:m=n
  ·rw[if_pos hm]
   subst hm
   exact⟨some (i,e.val),by simp,i,e.val,rfl,h2⟩
  ·rw[if_neg hm]
   have:(n==m)=false:=by simp;omega
   rw[this]
   simp only
   exact znf (i+1) ⟨by have:=h.1;simpa using this,λj x e h1 h2=>h.2 (j+1) x e (by simpa using h1) (by simpa using h2)⟩
theorem zkq{kt:TypeId}{n:Int}{ents:List (Int×RV)}{es:List MapEntry}(hk:P.underlying kt=some (.int .i64))(he:entsAt w k ents es):
  ∃res,(Instr.findKey kt (.int .i64 n) es).run P w= .ok res w/\match zc6 ents n with
   |some r=>∃j v,res=some (j,v)/\r.at_ w k v
   |none=>res=none:=by
 obtain⟨res,h1,h2⟩:=znf (kd:= .i64) (n:=n) 0 he
 exact⟨res,by simp[Instr.findKey,run_underlying hk w,h1],h2⟩
theorem zwl{kt:TypeId}{n:Int}{b:Bool}{m:Nat}(hk:P.underlying kt=some (.int .i64)):(Instr.checkKey b (m+1) kt (.int .i64 n)).run P w= .ok () w:=by
 simp[Instr.checkKey,run_underlying hk w]
theorem zhg{kt:TypeId}{n:Int}{b:Bool}(hk:P.underlying kt=some (.int .i64)):(Instr.checkKey b 10000 kt (.int .i64 n)).run P w= .ok () w:=zwl (m:=9999) hk
theorem zi9{t kt et:TypeId}{v:Value}{n:Int}{ok:Bool}{ents:List (Int×RV)}{z:Value}{zr:RV}(hu:P.underlying t=some (.map kt et))(hk:P.underlying kt=some (.int .i64))(hz:(P.info? et).bind (·.zero)=some z)(hzr:zr.at_ w k z)
  (hv:(mapS ents).at_ w k v): ∃u b,(Instr.lookup t v (.int .i64 n) ok).run P w= .ok (if ok then .tuple #[u, .bool b]else u) w/\match zc6 ents n with
   |some r=>r.at_ w k u/\b=true
   |none=>zr.at_ w k u/\b=false:=by
 obtain⟨i,hi,hz⟩:=Option.bind_eq_some_iff.1 hz
 have zv:(zeroValue et).run P w= .ok z w:=by simp[zeroValue,typeInfo,hi,hz]
 rcases hv with⟨rfl,rfl⟩ |⟨b,es,c,rfl,_,_,hh,he,_⟩
 ·refine⟨z,false,?_,hzr,rfl⟩
  obtain⟨res,h1,h2⟩:=zkq (n:=n) (k:=k) hk (show entsAt w k [] []from⟨rfl,λj x e h=>by simp at h⟩)
  simp only[zc6]at h2
  subst h2
  simp[Instr.lookup,run_underlying hu w,zhg hk,h1,zv]
 ·obtain⟨res,h1,h2⟩:=zkq (n:=n) hk he
  cases hm:zc6 ents n with
  |none=>
   rw[hm]at h2
   simp only at h2
   subst h2
   exact⟨z,false,by simp[Instr.lookup,run_underlying hu w,zhg hk,h1,zv,hh,getObj,Sem.run],hzr,rfl⟩
  |some r=>
   rw[hm]at h2
   obtain⟨j,u,rfl,hr⟩:=h2
   exact⟨u,true,by simp[Instr.lookup,run_underlying hu w,zhg hk,h1,hh,getObj,Sem.run],hr,rfl⟩
theorem Vstep.look2{t kt et:TypeId}{x y:Operand}{n:Int}{ents:List (Int×RV)}{z:Value}{K:St->Prop}(zr:RV)(hop:o.op= .lookup t x y true)(hx:opr S x=some (.r (.s (mapS ents))))(hy:opr S y=some (.r (.i .i64 n)))
  (hu:P.underlying t=some (.map kt et)) (hk:P.underlying kt=some (.int .i64)) (hz:(P.info? et).bind (·.zero)=some z) (hzr: ∀w k,zr.at_ w k z)
  (h1: ∀r,zc6 ents n=some r->newK S o.dst (.r (.tu [r, .b true])) none K) (h0:zc6 ents n=none->newK S o.dst (.r (.tu [zr, .b false])) none K):Vstep P S o K:=by
 simp only[za4]at h1 h0
 cases hm:zc6 ents n with
 |some r=>
  refine Vstep.one (λB N a w k Q ⟨g,hs⟩ hd=>?_) (h1 r hm)
  have hv:=(zah hs hx).2
  have hn:=(zah hs hy).2
  simp only[TF.at_,RV.at_]at hv hn
  obtain⟨u,b,hr,h2⟩:=zi9 (n:=n) (ok:=true) hu hk hz (hzr w k) hv
  rw[hm]at h2
  refine za0 (v:= .tuple #[u, .bool b]) (w':=w) (by simp[execOp,hop,hn,hr]) ⟨k,g,hs.put hd trivial ?_⟩
  simp only[TF.at_,RV.at_]
  exact⟨_,rfl,by simp only[RV.partsAt];exact⟨_,_,rfl,h2.1,_,_,rfl,by simp[RV.at_,h2.2],rfl⟩⟩
 |none=>
  refine Vstep.one (λB N a w k Q ⟨g,hs⟩ hd=>?_) (h0 hm)
  have hv:=(zah hs hx).2
  have hn:=(zah hs hy).2
  simp only[TF.at_,RV.at_]at hv hn
  obtain⟨u,b,hr,h2⟩:=zi9 (n:=n) (ok:=true) hu hk hz (hzr w k) hv
  rw[hm]at h2
  refine za0 (v:= .tuple #[u, .bool b]) (w':=w) (by simp[execOp,hop,hn,hr]) ⟨k,g,hs.put hd trivial ?_⟩
  simp only[TF.at_,RV.at_]
  exact⟨_,rfl,by simp only[RV.partsAt];exact⟨_,_,rfl,h2.1,_,_,rfl,by simp[RV.at_,h2.2],rfl⟩⟩
theorem Vstep.look1{t kt et:TypeId}{x y:Operand}{n:Int}{ents:List (Int×RV)}{z:Value}{K:St->Prop}(zr:RV)(hop:o.op= .lookup t x y false)(hx:opr S x=some (.r (.s (mapS ents))))(hy:opr S y=some (.r (.i .i64 n)))
  (hu:P.underlying t=some (.map kt et)) (hk:P.underlying kt=some (.int .i64)) (hz:(P.info? et).bind (·.zero)=some z) (hzr: ∀w k,zr.at_ w k z)
  (h1: ∀r,zc6 ents n=some r->newK S o.dst (.r r) none K) (h0:zc6 ents n=none->newK S o.dst (.r zr) none K):Vstep P S o K:=by
 simp only[za4]at h1 h0
 cases hm:zc6 ents n with
 |some r=>
  refine Vstep.one (λB N a w k Q ⟨g,hs⟩ hd=>?_) (h1 r hm)
  have hv:=(zah hs hx).2
  have hn:=(zah hs hy).2
  simp only[TF.at_,RV.at_]at hv hn
  obtain⟨u,b,hr,h2⟩:=zi9 (n:=n) (ok:=false) hu hk hz (hzr w k) hv
  rw[hm]at h2
  exact za0 (v:=u) (w':=w) (by simp[execOp,hop,hn,hr]) ⟨k,g,hs.put hd trivial h2.1⟩
 |none=>
  refine Vstep.one (λB N a w k Q ⟨g,hs⟩ hd=>?_) (h0 hm)
  have hv:=(zah hs hx).2
  have hn:=(zah hs hy).2
  simp only[TF.at_,RV.at_]at hv hn
  obtain⟨u,b,hr,h2⟩:=zi9 (n:=n) (ok:=false) hu hk hz (hzr w k) hv
  rw[hm]at h2
  exact za0 (v:=u) (w':=w) (by simp[execOp,hop,hn,hr]) ⟨k,g,hs.put hd trivial h2.1⟩
end
section
variable {P:Program} {T:TT} {B:Bs} {N:Nat} {S:St} {a:Act} {w:World} {k:Kp} {g:Env} {o:Oper} {Q:Exit->Act->World->Prop}
theorem zm7{m n:Nat}(h:m≠n):Nat.beq m n=false:=by
 cases hb:Nat.beq m n
 ·rfl
 ·exact absurd (Nat.eq_of_beq_eq_true hb) h
end
end Go.Proofs.YtoegdgbghdnnfaaGreat.Sx
