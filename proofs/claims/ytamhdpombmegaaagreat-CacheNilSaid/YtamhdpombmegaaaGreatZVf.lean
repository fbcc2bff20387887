import Derived.Test.YtamhdpombmegaaaGreatZSxV
import Derived.ProofKit
import Derived.Deep.Slices
import Derived.Deep.Fields
import Derived.SizedLaws
import Derived.Test.YtamhdpombmegaaaGreatRows
import Derived.Below
import Derived.ChangeOld
import Derived.OpenShut
namespace Go.Proofs.YtamhdpombmegaaaGreat.Sx
open Go.RowKit
section
open Go.RowKit Go.ChangeShapes Go.WideShapes Go.Deep
def allK(w:World):Kp:=λb=>((w.heap[b]?).map λo=>match o with | .cells c _ _=>c.size |_=>0).getD 0
theorem zhf{w:World}{b o:Nat}{v:Value}(h:w.cell? ⟨b,o,none⟩=some v):o<allK w b/\b<w.heap.size:=by
 unfold World.cell? at h
 unfold allK
 cases hb:w.heap[b]? with
 |none=>simp[hb]at h
 |some ob=>
  have h1:b<w.heap.size:=(Array.getElem?_eq_some_iff.1 hb).1
  cases ob with
  |cells c t fr=>
   simp[hb]at h
   exact⟨by simpa[hb]using(Array.getElem?_eq_some_iff.1 h).1,h1⟩
  |_=>simp[hb]at h
theorem zat{w:World}{k:Kp}: ∀{xs ys:List RV} {us vs:List Value},RV.listAt w k xs us->RV.listAt w k ys vs->RV.listAt w k (xs++ys) (us++vs)
 |[],_,us,_,h,g=>by
  simp only[RV.listAt]at h
  subst h
  exact g
 |x::xs,_,us,_,h,g=>by
  simp only[RV.listAt]at h
  obtain⟨u,r,rfl,h1,h2,h3⟩:=h
  simp only[List.cons_append,RV.listAt]
  exact⟨u,_,rfl,h1,h2,zat h3 g⟩
theorem zdp{w:World}{k:Kp}{b:Nat}: ∀{xs ys:List RV} {o:Nat},RV.cellsAt w k b o xs->RV.cellsAt w k b (o+xs.length) ys->RV.cellsAt w k b o (xs++ys)
 |[],_,_,_,g=>g
 |x::xs,ys,o,h,g=>by
  simp only[List.cons_append,RV.cellsAt]at h⊢
  exact⟨h.1,zdp h.2 (by rwa[List.length_cons,show o+(xs.length+1)=o+1+xs.length by omega]at g)⟩
theorem zdq{w:World}{b:Nat}: ∀{fs:List RV} {cs:List Value} {o:Nat},RV.listAt w (allK w) fs cs->(∀j,j<cs.length->w.cell? ⟨b,o+j,none⟩=cs[j]?)->RV.cellsAt w (allK w) b o fs
 |[],_,_,_,_=>by simp[RV.cellsAt]
 |f::fs,cs,o,h,hc=>by
  simp only[RV.listAt]at h
  obtain⟨u,r,rfl,h1,h2,h3⟩:=h
  have h0:=hc 0 (by simp)
  simp only[Nat.add_zero,List.getElem?_cons_zero]at h0
  simp only[RV.cellsAt]
  refine⟨⟨(zhf h0).1,u,h0,h1,h2⟩,zdq h3 λj hj=>?_⟩
  have:=hc (j+1) (by simpa using hj)
  rw[show o+1+j=o+(j+1)by omega]
  simpa using this
structure Rd (P:Program):Type 1 where
 H:Type
 enc:TypeId×Value->H
 w:World
 base:Nat
 spare:Nat->Bool
 held:Bool
def Rd.trod{P:Program}(r:Rd P)(fuel:Nat)(t:TypeId)(cs:List Value):Option (DataW r.H×List MemPlace):=DataW.trod r.enc P r.w r.base r.spare r.held fuel t cs
def Rd.Reads{P:Program}(r:Rd P){σ:Type}(c:σ->List RV)(ok:σ->Prop)(t:TypeId):Prop:=
 ∀fuel cs x,r.trod fuel t cs=some x->∃s,ok s/\RV.listAt r.w (allK r.w) (c s) cs
section
variable {P:Program} {r:Rd P} {t e:TypeId} {σ:Type} {c:σ->List RV} {ok:σ->Prop}
theorem Rd.i64(ht:P.underlying t=some (.int .i64)):r.Reads (λn:Int=>[I n]) i64 t:=λfuel cs x h=>by
 obtain⟨n,rfl,_,hw⟩:=DataW.trod_int ht h
 refine⟨n,?_,by simp only[RV.listAt,RV.at_];exact⟨_,[],rfl,rfl,rfl,rfl⟩⟩
 simp only[Lit.wf,Bool.and_eq_true,decide_eq_true_eq]at hw
 exact⟨hw.1,hw.2⟩
theorem Rd.u8(ht:P.underlying t=some (.int .u8)):r.Reads (λn:UInt8=>[U8 n]) (λ_=>True) t:=λfuel cs x h=>by
 obtain⟨n,rfl,_,hw⟩:=DataW.trod_int ht h
 have hn:0<=n/\n<256:=by
  simp only[Lit.wf,Bool.and_eq_true,decide_eq_true_eq]at hw
  have h1:(0:Int)<=n:=hw.1
  have h2:n<=255:=hw.2
  omega
 refine⟨UInt8.ofNat n.toNat,trivial,?_⟩
 have:((UInt8.ofNat n.toNat).toNat:Int)=n:=by
  rw[UInt8.toNat_ofNat']
  omega
 simp only[RV.listAt,RV.at_]
 exact⟨_,[],rfl,rfl,by rw[this],rfl⟩
theorem Rd.elems{b o:Nat}{sz:Nat}(hl: ∀s,(c s).length=sz): ∀(n i0:Nat),(∀i,i<n->∃cs,(∀j,j<cs.length->r.w.cell? ⟨b,o+(i0+i)*sz+j,none⟩=cs[j]?)/\∃s,ok s/\RV.listAt r.w (allK r.w) (c s) cs)->
  ∃l:List σ,l.length=n/\(∀x∈l,ok x)/\RV.cellsAt r.w (allK r.w) b (o+i0*sz) (l.flatMap c)
 |0,_,_=>⟨[],rfl,by simp,by simp[RV.cellsAt]⟩
 |n+1,i0,h=>by
  obtain⟨cs,hc,s,hs,hq⟩:=h 0 (by omega)
  obtain⟨l,h1,h2,h3⟩:=Rd.elems hl n (i0+1) λi hi=>by
   have:=h (i+1) (by omega)
   rwa[show i0+(i+1)=i0+1+i by omega]at this
  refine⟨s::l,by simp[h1],λx hx=>?_,?_⟩
  ·rcases List.mem_cons.1 hx with rfl |hx
   ·exact hs
   ·exact h2 x hx
  ·rw[List.flatMap_cons]
   refine zdp (zdq hq (by simpa using hc)) ?_
   rw[hl,show o+i0*sz+sz=o+(i0+1)*sz by rw[Nat.add_mul];omega]
   exact h3
theorem Rd.slice{sz:Nat}(ht:P.underlying t=some (.slice e))(hC:P.cellsOf e=sz)(h0:0<sz)(hl: ∀s,(c s).length=sz)(h:r.Reads c ok e)
  {fuel:Nat} {cs:List Value} {x:DataW r.H×List MemPlace} (hx:r.trod fuel t cs=some x):
  ∃l:List σ,(∀y∈l,ok y)/\RV.listAt r.w (allK r.w) [.sl sz l.length (l.flatMap c)] cs/\(l=[]\/∃E Sp,x.1= .slice E Sp/\E.length=l.length):=by
 have hlen: ∀l:List σ,(l.flatMap c).length=l.length*sz:=λl=>by
  induction l with
  |nil=>simp
  |cons y l ih=>rw[List.flatMap_cons,List.length_append,hl,ih,List.length_cons,Nat.add_mul];omega
 rcases open_slice ht hx with⟨rfl,_⟩ |⟨a,len,cap,m,n,D,Pl,rfl,hb,hlc,hcm,hm,hd,hi⟩
 ·refine⟨[],by simp,?_, .inl rfl⟩
  simp only[RV.listAt,RV.at_]
  exact⟨_,[],rfl,rfl,⟨none,0,rfl,by simp,by simp,by simp,λh=>absurd h (by simp)⟩,rfl⟩
 ·have hlm:len<=m:=by rw[hm];split<;>omega
  rw[hC]at hi
  by_cases hz:len=0
  ·subst hz
   refine⟨[],by simp,?_, .inl rfl⟩
   simp only[RV.listAt,RV.at_]
   exact⟨_,[],rfl,rfl,⟨some a,cap,rfl,by simp,hcm,by simp,λh=>absurd h (by simp)⟩,rfl⟩
  ·obtain⟨b,o,spot⟩:=a
   obtain⟨cs0,hc0,_⟩:=hi 0 (by omega)
   obtain⟨_,hl0,ha0⟩:=World.cells?_some hc0
   have hs0:=ha0 0 h0
   rw[List.getElem?_eq_getElem (by omega)]at hs0
   have hspot:spot=none:=by simpa[Addr.add]using World.cell?_spot hs0
   subst hspot
   have hblk:b<r.w.heap.size:=by
    have:=hs0
    rw[Nat.zero_mul,add_plain,add_plain]at this
    exact(zhf this).2
   obtain⟨l,h1,h2,h3⟩:=Rd.elems (r:=r) (b:=b) (o:=o) (ok:=ok) hl len 0 λi hil=>by
    obtain⟨cs',hc,ht'⟩:=hi i (by omega)
    obtain⟨_,hcl,hat⟩:=World.cells?_some hc
    refine⟨cs',λj hj=>?_,h n cs' _ ht'⟩
    have:=hat j (by omega)
    rw[add_plain,add_plain]at this
    simpa using this
   refine⟨l,h2,?_, .inr ⟨_,_,by rw[hd],by simp[h1]⟩⟩
   simp only[RV.listAt,RV.at_]
   refine⟨_,[],rfl,rfl,⟨_,cap,by rw[h1],by omega,hcm,hlen l,λ_=>⟨b,o,rfl,hblk,by simpa using h3⟩⟩,rfl⟩
theorem zjn{α β:Type}(f:α->β)(l:List α):(l.flatMap λx=>[f x])=l.map f:=by
 induction l with
 |nil=>rfl
 |cons x l ih=>rw[List.flatMap_cons,ih];rfl
theorem Rd.bytes(ht:P.underlying t=some (.slice e))(he:P.underlying e=some (.int .u8))(hC:P.cellsOf e=1):r.Reads (λl:List UInt8=>[bs l]) (λ_=>True) t:=λfuel cs x hx=>by
 obtain⟨l,_,h,_⟩:=Rd.slice ht hC (by omega) (λ_=>rfl) (Rd.u8 he) hx
 refine⟨l,trivial,?_⟩
 rw[zjn]at h
 exact h
theorem Rd.struct{fs:Array Field}{fuel C:Nat}{cs:List Value}{x:DataW r.H×List MemPlace}(ht:P.underlying t=some (.struct fs))(hC:P.cellsOf t=C)(h:r.trod fuel t cs=some x):
  cs.length=C/\∃(xs:List (DataW r.H×List MemPlace)) (n:Nat),x.1= .agg (xs.map (·.1))/\xs.length=fs.size/\∀(i:Nat) (f:Field),fs[i]?=some f->∀m,P.cellsOf f.type=m->r.trod n f.type ((cs.drop f.offset).take m)=xs[i]?:=by
 obtain⟨xs,n,_,hx,hl,hn,hf⟩:=DataW.trod_struct ht h
 exact⟨hl.trans hC,xs,n,by rw[hx],hn,λi f hi m hm=>hm▸hf i f hi⟩
end
end
section
open Go.RowKit Go.ChangeShapes Go.WideShapes Go.Deep
theorem znm{α:Type}{l:List α}(h:l.length=3): ∃a0 a1 a2,l=[a0,a1,a2]:=by
 match l,h with
 |[a0,a1,a2],_=>exact⟨_,_,_,rfl⟩
theorem znn{α:Type}{l:List α}(h:l.length=4): ∃a0 a1 a2 a3,l=[a0,a1,a2,a3]:=by
 match l,h with
 |[a0,a1,a2,a3],_=>exact⟨_,_,_,_,rfl⟩
theorem zks{α:Type}{l:List α}(h:l.length=6): ∃a0 a1 a2 a3 a4 a5,l=[a0,a1,a2,a3,a4,a5]:=by
 match l,h with
 |[a0,a1,a2,a3,a4,a5],_=>exact⟨_,_,_,_,_,_,rfl⟩
section
variable {r:Rd Tryz.prog}
theorem Rd.leaf:r.Reads Leaf.c (λ_=>True) 24:=λfuel cs x hx=>by
 obtain⟨hl,xs,n,_,hxl,hf⟩:=Rd.struct (C:=6) Tryz.underlying24 (by kernel_rfl) hx
 obtain⟨a0,a1,a2,a3,a4,a5,rfl⟩:=zks hl
 obtain⟨y0,y1,y2,y3,y4,y5,rfl⟩:=zks hxl
 have h0:r.trod n 22 [a0]=some y0:=hf 0 _ rfl 1 (by kernel_rfl)
 have h1:r.trod n 22 [a1]=some y1:=hf 1 _ rfl 1 (by kernel_rfl)
 have h2:r.trod n 22 [a2]=some y2:=hf 2 _ rfl 1 (by kernel_rfl)
 have h3:r.trod n 5 [a3]=some y3:=hf 3 _ rfl 1 (by kernel_rfl)
 have h4:r.trod n 22 [a4]=some y4:=hf 4 _ rfl 1 (by kernel_rfl)
 have h5:r.trod n 22 [a5]=some y5:=hf 5 _ rfl 1 (by kernel_rfl)
 obtain⟨s0,k0,g0⟩:=(Rd.bytes Tryz.underlying22 Tryz.underlying5 (by kernel_rfl)) _ _ _ h0
 obtain⟨s1,k1,g1⟩:=(Rd.bytes Tryz.underlying22 Tryz.underlying5 (by kernel_rfl)) _ _ _ h1
 obtain⟨s2,k2,g2⟩:=(Rd.bytes Tryz.underlying22 Tryz.underlying5 (by kernel_rfl)) _ _ _ h2
 obtain⟨s3,k3,g3⟩:=(Rd.u8 Tryz.underlying5) _ _ _ h3
 obtain⟨s4,k4,g4⟩:=(Rd.bytes Tryz.underlying22 Tryz.underlying5 (by kernel_rfl)) _ _ _ h4
 obtain⟨s5,k5,g5⟩:=(Rd.bytes Tryz.underlying22 Tryz.underlying5 (by kernel_rfl)) _ _ _ h5
 exact⟨⟨s0,s1,s2,s3,s4,s5⟩,trivial,zat g0 (zat g1 (zat g2 (zat g3 (zat g4 g5))))⟩
end
end
section
open Go.ChangeShapes Go.WideShapes Go.ChangeAt Go.RowKit
theorem zab{g:Nat->Bool}{a b c:Nat}(h:(List.range' a b).all g=true)(k:(List.range' (a+b) c).all g=true):(List.range' a (b+c)).all g=true:=by
 rw[<-List.range'_append_1,List.all_append,h,k];rfl
theorem za5{α:Type}{g:Nat->α}{a b c:Nat}{l m:List α}(h:(List.range' a b).map g=l)(k:(List.range' (a+b) c).map g=m):(List.range' a (b+c)).map g=l++m:=by
 rw[<-List.range'_append_1,List.map_append,h,k]
theorem zbl{g:Nat->Bool}{n:Nat}(h:(List.range' 0 n).all g=true):(List.range n).all g=true:=by rw[List.range_eq_range'];exact h
theorem zeg{α β:Type}(l:List α)(d:β)(h:α->β):l.map h=(List.range l.length).map λi=>(l[i]?).elim d h:=by
 apply List.ext_getElem
 ·simp
 ·intro i h1 h2
  simp at h1
  simp[List.getElem?_eq_getElem h1]
theorem zcp{α:Type}(l:List α)(h:α->Bool):l.all h=(List.range l.length).all λi=>(l[i]?).elim true h:=by
 have e:=zeg l true h
 have: ∀m:List Bool,∀l:List α,l.map h=m->l.all h=m.all id:=λm l hm=>by rw[<-hm,List.all_map];rfl
 rw[this _ _ e,List.all_map];rfl
noncomputable def leadAt (i:Nat):List Nat:=(Tryz.prog.funcs[i]?).elim [] Tryz.prog.leadsTo
def zkj:List (List Nat):=[[],[],[1],[4,5,6,7,8,9,10,11,13,12],[14,14],[15,16],[18,17,5,19],[21,20,22,23,24,24],[25],[26,27,28,29,30,27,22,31,32,23,33,31,14,34],[],[35,36],[37,38],[39],[40,41],[24,42,42,43,44,45,46],[48,49,47],[54,53,55],[],[56],[57],[],[58,59,60,32],[61,20,54,62,54,64,63,15,65,66,45,46,16,24,67],[],[54,69,68],[71,73,70],[],[18,74],[75,43,76,45,46,77],[19,78,20],[67],[65,27,67],[26,27,79,29,80,27,81],[82,14,83,84,35,36],[58,85],[86,87,88,87,24,90,89,92,91],[93,94,95,96,95,95],[97,95],[24,24,16,26,24,24,83],[98],[99,99],[],[48,100,47],[103,102],[48,104,47],[105],[],[106,107,108,109,110],[52,51,50],[111],[50,50],[112,112,113],[115,114,116],[68],[117,118,119,44],[111,111,69],[],[86,121,122,120],[123,124],[],[],[125,126,127,128,24,129,130,54,53,55,131,132,88],[125,126,88,24,133,130,134,134,68,136,135]]
theorem zmg:(List.range' 0 64).map leadAt=zkj:=by kernel_rfl
def zkk:List (List Nat):=[[65,101],[137,139,138],[140,24,24,141,142,143,144,145],[146,147,24,16,26,24,24],[134,111,111,148],[150,149],[151,153,152],[72],[154,154,155,156,154,156,156,157,158,152,155,155,155],[48],[159,88],[27],[103,160],[],[16,19,27],[161,74],[19,162,20],[163,165,164,166,167,168,169,65,66,77],[86,40,41,170,121,171,172,84],[88,24],[],[173,175,174,176],[],[177,177,178],[117,24,24,179],[],[],[180,181],[24,182,184,92,185,92,183,69],[186,95,95,187,188],[97],[],[189,95,95,95],[190,95,95,191],[192,193],[194,178],[52,101],[112,112,50,112,50,50],[195,196,198,197,199,200,201,198,197,203,202,204,150],[111,111],[52,101,51],[205,150,150,69,205,69],[],[206,207,208,209,208,207,106],[110],[208,207],[210,211,207,213],[214],[134],[50,112,112,215,216],[134,217,148],[217,218],[220,221,219],[24],[],[222,111,134],[223],[41,224],[],[82,86,139,92],[159,225],[137],[121,41,226,227],[54,228]]
theorem zmh:(List.range' 64 64).map leadAt=zkk:=by kernel_rfl
def zkl:List (List Nat):=[[54,53],[111,111,111,69],[137,88],[229,230],[88,233,232,88,88,87,24],[179,234,120],[236,237],[239,238],[],[240,241],[24,182,184,138,185,138,183,69],[40],[48,242,47],[69],[244,243],[105],[111,69],[24],[24,24],[88,24],[105],[245,236,246,247],[248],[],[],[249],[156,152],[250,249,152],[251,249,152],[156,252,253,156,152],[255,254,257,253,258,254],[260,139,138,27],[261,262,261,198,197,199,200,200,264,263],[130],[16,19,27],[265],[266],[],[16,19,267,210,269,268],[164,270],[125,151,271,272,273,27],[274,275,64,276],[277,278,174],[],[170,184,185,172,279,174,172,171],[40],[223],[173],[280,280],[],[177],[],[],[281],[277,134],[277,111,111],[282],[282],[95,95,95],[283],[284],[95,285,286],[95,95,95,95,95],[]]
theorem zmi:(List.range' 128 64).map leadAt=zkl:=by kernel_rfl
def zkm:List (List Nat):=[[],[],[40],[199,287,200,201],[198,197],[288,289],[150,290],[220,220,292,291,293,294],[295,296,297,297,298,299,300,299],[295,292,291,221,291,301],[302,303],[304,305,305,289],[],[69],[209],[306],[207],[307],[308],[212],[107,109],[209,309,310],[313,236,134],[314,50,315,112],[50,215,50,50,50,50,50,315,50],[],[105],[317,318,316],[],[319],[111,111],[],[99,185,184],[321,320,88,322,320,24],[137,323],[137,138],[54],[325,324],[231],[326,326],[],[],[235],[130,328,327],[],[],[329,330,331],[217,111,111],[],[40,332,334,333,321,320,335,322,320,335],[112,113,50],[218,24,54,101,336,337,54],[218,101,336],[],[],[338,339,340,340,340,340,340,340],[],[],[341,342],[237,343,344],[154,154,155,253,155],[345,152],[155,151,346,152],[256]]
theorem zmj:(List.range' 192 64).map leadAt=zkm:=by kernel_rfl
def zkn:List (List Nat):=[[156,157,155,152],[347,249,152],[259],[155,348,254],[151,350,349,349,40,351,349,139,352,153,241],[318,24,221,27,293,353,354,294],[288,356,355],[295,295,291,291,357,291,291,357],[295,295,297,297,298,299],[358,57],[],[27],[],[27],[],[251,249,251,249,40,139,360,153],[88,24,361,362,363,364],[125,125,134,139,365],[],[367,368,366],[369,226,133,370,371,130,372,24,131],[373,222,111,374],[87],[87],[173,41,178,375,178,375],[376,376,376],[178],[95],[95],[377,190],[190,95,285,95,95,95],[196],[],[302,303],[378,379,381,380,382],[383,305,384],[386,385],[387,220,388,297,291,220,298,292,291,389],[220,291],[296],[220,294],[220,354,220,292,291],[384],[388,388,291,298,298,291,291,291,298,291,388,388,298,298,291,291,291,291],[],[319],[305],[356,355],[],[],[335,27,27,27,27,27,27,27],[118,222,111],[],[390],[311,312],[],[391],[],[112,112,50,315],[307],[220,220,392,392,292,291,221],[],[393],[384,384]]
theorem zmk:(List.range' 256 64).map leadAt=zkn:=by kernel_rfl
def zko:List (List Nat):=[[394,395],[396],[397],[184,323,185,323],[398,399,400,401,402,403,404,405,324,324],[406,407],[],[408],[306],[53,409,410],[115,115,150,115,114,114],[411,412,413],[277,414,174],[415,417,139],[],[],[68],[],[340,340,340,340],[],[418],[343,419,343,344,313,419],[343,24],[419,419],[],[250,250,250,251,249,250,250,249,118],[],[343,419],[155,155],[251,249],[],[],[347,249,342,249,420,184,352,185,352],[357],[388],[421],[],[319,319],[359,27],[16,19],[251,249,422,423,342,249],[325,424],[231],[325,425],[231],[426,427,277,184,365,185,365],[428],[],[130,87],[125,429,41,430,130],[372,431],[128,27,228],[432,428],[433,434,118,434,433,435],[134,111,111,111],[],[],[95,190,95],[],[],[436],[236],[437,438,438,438,438,438,438],[304,305,305]]
theorem zml:(List.range' 320 64).map leadAt=zko:=by kernel_rfl
def zkp:List (List Nat):=[[],[220,387,291],[439],[291],[384],[386,385,387,357,220,386,385,291,387,357,301,354],[],[],[298,388,298,388,291,291,387,387,388,291,220,291,298,291,298,387,388,387,291],[],[440],[325,441],[],[],[],[442,442],[443,444],[445,445,445,446],[],[],[],[],[],[],[],[219,447,448],[115,150,114],[],[236,380,449],[450,451,380,451,452,453,452,453,449,451,452,454],[87],[87,416],[455,174],[184,185],[],[],[251,249,345,456],[],[427,457],[420,184,360,185,360],[458,459,460,461,462,463,464,465,424,424],[466,467,468,469,470,471,472,473,425,425],[427,457,457,474],[475,476,477,478],[],[194,194,41,479,223],[],[239,480],[],[],[],[],[],[438,438,438,438],[481],[482,483],[],[484,485,486,487,488,489,490,491,492,441,441],[],[325],[],[446],[493,493,493],[494]]
theorem zmm:(List.range' 384 64).map leadAt=zkp:=by kernel_rfl
def zkq:List (List Nat):=[[],[236,450],[495,496,497],[],[],[452],[],[87],[250,250,250,249,151,346,251,346,435],[87,87],[],[498,498],[443,444],[499,499,499,500],[],[],[],[],[],[501,501],[443,444],[502,502,502,503],[],[],[],[],[504,505,506,507],[],[231],[],[231],[87],[508,330,509],[],[510,304],[],[490],[511,511],[443,444],[512,512,512,513],[],[490,490,490],[326,326],[490,490],[490,490,490,490],[],[],[514,514,515],[514],[514],[],[500],[516,516,516],[],[503],[517,517,517],[],[306],[],[27],[409,116,410],[411,413,412],[],[490,490]]
theorem zmn:(List.range' 448 64).map leadAt=zkq:=by kernel_rfl
def zkr:List (List Nat):=[[513],[518,518,518],[],[],[],[],[490],[],[],[],[],[],[],[],[],[],[],[],[],[],[],[],[],[],[],[]]
theorem zmo:(List.range' 512 26).map leadAt=zkr:=by kernel_rfl
def leadL:List (List Nat):=(zkj++(zkk++(zkl++(zkm++(zkn++(zko++(zkp++(zkq++zkr))))))))
theorem zf6:(List.range' 0 538).map leadAt=leadL:=za5 (b:=64) (c:=474) zmg (za5 (b:=64) (c:=410) zmh (za5 (b:=64) (c:=346) zmi (za5 (b:=64) (c:=282) zmj (za5 (b:=64) (c:=218) zmk (za5 (b:=64) (c:=154) zml (za5 (b:=64) (c:=90) zmm (za5 (b:=64) (c:=26) zmn (zmo))))))))
theorem zlu:(List.range' 0 64).all (rowFine Tryz.prog)=true:=by kernel_rfl
theorem zlv:(List.range' 64 64).all (rowFine Tryz.prog)=true:=by kernel_rfl
theorem zlw:(List.range' 128 64).all (rowFine Tryz.prog)=true:=by kernel_rfl
theorem zlx:(List.range' 192 64).all (rowFine Tryz.prog)=true:=by kernel_rfl
theorem zly:(List.range' 256 64).all (rowFine Tryz.prog)=true:=by kernel_rfl
theorem zlz:(List.range' 320 64).all (rowFine Tryz.prog)=true:=by kernel_rfl
theorem zl0:(List.range' 384 64).all (rowFine Tryz.prog)=true:=by kernel_rfl
theorem zl1:(List.range' 448 64).all (rowFine Tryz.prog)=true:=by kernel_rfl
theorem zl2:(List.range' 512 51).all (rowFine Tryz.prog)=true:=by kernel_rfl
theorem zjm:(List.range' 0 563).all (rowFine Tryz.prog)=true:=zab (b:=64) (c:=499) zlu (zab (b:=64) (c:=435) zlv (zab (b:=64) (c:=371) zlw (zab (b:=64) (c:=307) zlx (zab (b:=64) (c:=243) zly (zab (b:=64) (c:=179) zlz (zab (b:=64) (c:=115) zl0 (zab (b:=64) (c:=51) zl1 (zl2))))))))
noncomputable def mapFine (t:Nat):Bool:=match Tryz.prog.underlying t with |some (.map _ e)=>decide (e<Tryz.prog.types.size) |_=>true
theorem zms:(List.range' 0 64).all mapFine=true:=by kernel_rfl
theorem zmt:(List.range' 64 64).all mapFine=true:=by kernel_rfl
theorem zmu:(List.range' 128 64).all mapFine=true:=by kernel_rfl
theorem zmv:(List.range' 192 64).all mapFine=true:=by kernel_rfl
theorem zmw:(List.range' 256 64).all mapFine=true:=by kernel_rfl
theorem zmx:(List.range' 320 64).all mapFine=true:=by kernel_rfl
theorem zmy:(List.range' 384 64).all mapFine=true:=by kernel_rfl
theorem zmz:(List.range' 448 64).all mapFine=true:=by kernel_rfl
theorem zm0:(List.range' 512 51).all mapFine=true:=by kernel_rfl
theorem zj1:(List.range' 0 563).all mapFine=true:=zab (b:=64) (c:=499) zms (zab (b:=64) (c:=435) zmt (zab (b:=64) (c:=371) zmu (zab (b:=64) (c:=307) zmv (zab (b:=64) (c:=243) zmw (zab (b:=64) (c:=179) zmx (zab (b:=64) (c:=115) zmy (zab (b:=64) (c:=51) zmz (zm0))))))))
noncomputable def keyFine (t:Nat):Bool:=match Tryz.prog.underlying t with |some (.map k _)=>(match Tryz.prog.underlying k with |some (.array _ _) |some (.struct _)=>false |_=>true) |_=>true
theorem zl7:(List.range' 0 64).all keyFine=true:=by kernel_rfl
theorem zl8:(List.range' 64 64).all keyFine=true:=by kernel_rfl
theorem zl9:(List.range' 128 64).all keyFine=true:=by kernel_rfl
theorem zma:(List.range' 192 64).all keyFine=true:=by kernel_rfl
theorem zmb:(List.range' 256 64).all keyFine=true:=by kernel_rfl
theorem zmc:(List.range' 320 64).all keyFine=true:=by kernel_rfl
theorem zmd:(List.range' 384 64).all keyFine=true:=by kernel_rfl
theorem zme:(List.range' 448 64).all keyFine=true:=by kernel_rfl
theorem zmf:(List.range' 512 51).all keyFine=true:=by kernel_rfl
theorem zjw:(List.range' 0 563).all keyFine=true:=zab (b:=64) (c:=499) zl7 (zab (b:=64) (c:=435) zl8 (zab (b:=64) (c:=371) zl9 (zab (b:=64) (c:=307) zma (zab (b:=64) (c:=243) zmb (zab (b:=64) (c:=179) zmc (zab (b:=64) (c:=115) zmd (zab (b:=64) (c:=51) zme (zmf))))))))
noncomputable def parFine (i:Nat):Bool:=(Tryz.prog.funcs.toList[i]?).elim true λf=>f.params.all λt=>decide (t<Tryz.prog.types.size)
theorem zm4:(List.range' 0 64).all parFine=true:=by kernel_rfl
theorem zm5:(List.range' 64 64).all parFine=true:=by kernel_rfl
theorem zm6:(List.range' 128 64).all parFine=true:=by kernel_rfl
theorem zm7:(List.range' 192 64).all parFine=true:=by kernel_rfl
theorem zm8:(List.range' 256 64).all parFine=true:=by kernel_rfl
theorem zm9:(List.range' 320 64).all parFine=true:=by kernel_rfl
theorem zna:(List.range' 384 64).all parFine=true:=by kernel_rfl
theorem znb:(List.range' 448 64).all parFine=true:=by kernel_rfl
theorem znc:(List.range' 512 26).all parFine=true:=by kernel_rfl
theorem zj8:(List.range' 0 538).all parFine=true:=zab (b:=64) (c:=474) zm4 (zab (b:=64) (c:=410) zm5 (zab (b:=64) (c:=346) zm6 (zab (b:=64) (c:=282) zm7 (zab (b:=64) (c:=218) zm8 (zab (b:=64) (c:=154) zm9 (zab (b:=64) (c:=90) zna (zab (b:=64) (c:=26) znb (znc))))))))
noncomputable def stopFine (i:Nat):Bool:=(Tryz.prog.funcs.toList[i]?).elim true λfn=>(Stop.rowOf fn).isNone|| !fn.norace
theorem zlh:(List.range' 0 64).all stopFine=true:=by kernel_rfl
theorem zli:(List.range' 64 64).all stopFine=true:=by kernel_rfl
theorem zlj:(List.range' 128 64).all stopFine=true:=by kernel_rfl
theorem zlk:(List.range' 192 64).all stopFine=true:=by kernel_rfl
theorem zll:(List.range' 256 64).all stopFine=true:=by kernel_rfl
theorem zlm:(List.range' 320 64).all stopFine=true:=by kernel_rfl
theorem zln:(List.range' 384 64).all stopFine=true:=by kernel_rfl
theorem zlo:(List.range' 448 64).all stopFine=true:=by kernel_rfl
theorem zlp:(List.range' 512 26).all stopFine=true:=by kernel_rfl
theorem zjg:(List.range' 0 538).all stopFine=true:=zab (b:=64) (c:=474) zlh (zab (b:=64) (c:=410) zli (zab (b:=64) (c:=346) zlj (zab (b:=64) (c:=282) zlk (zab (b:=64) (c:=218) zll (zab (b:=64) (c:=154) zlm (zab (b:=64) (c:=90) zln (zab (b:=64) (c:=26) zlo (zlp))))))))
theorem zbr:Tryz.prog.funcs.size=538:=by kernel_rfl
theorem zcm:Tryz.prog.types.size=563:=by kernel_rfl
theorem zed:laidOutB Tryz.prog=true:=by
 have h1:(List.range Tryz.prog.types.size).all (rowFine Tryz.prog)=true:=by rw[zcm];exact zbl zjm
 have h2:Tryz.prog.globals.all (λg=>decide (g.type<Tryz.prog.types.size))=true:=by kernel_rfl
 have h3:Tryz.prog.funcs.all (λf=>f.params.all λt=>decide (t<Tryz.prog.types.size))=true:=by
  rw[<-Array.all_toList,zcp,Array.length_toList,zbr];exact zbl zj8
 unfold laidOutB
 rw[h1,h2,h3];rfl
def zf9(P:Program)(t:Nat):Bool:=match P.underlying t with |some (.map _ e)=>decide (e<P.types.size) |_=>true
def zf3(P:Program)(t:Nat):Bool:=match P.underlying t with |some (.map k _)=>(match P.underlying k with |some (.array _ _) |some (.struct _)=>false |_=>true) |_=>true
theorem zk7{P:Program}{n:Nat}(hn:P.types.size=n)(h:(List.range n).all (zf9 P)=true):mapsRowed P=true:=by subst hn;exact h
theorem zk5{P:Program}{n:Nat}(hn:P.types.size=n)(h:(List.range n).all (zf3 P)=true):P.plainKeys=true:=by subst hn;exact h
theorem zie:mapFine=zf9 Tryz.prog:=by kernel_rfl
theorem zic:keyFine=zf3 Tryz.prog:=by kernel_rfl
theorem zif:mapsRowed Tryz.prog=true:=zk7 zcm (by rw[<-zie];exact zbl zj1)
theorem zid:Tryz.prog.plainKeys=true:=zk5 zcm (by rw[<-zic];exact zbl zjw)
theorem zha:Tryz.prog.stopsHeard=true:=by
 unfold Program.stopsHeard
 rw[<-Array.all_toList,zcp,Array.length_toList,zbr];exact zbl zjg
def zd9(L:List (List Nat)):Nat->List Nat->List Nat->List Nat
 |0,_,seen=>seen.reverse
 |_+1,[],seen=>seen.reverse
 |n+1,f::todo,seen=>if seen.contains f then zd9 L n todo seen else zd9 L n ((L[f]?).getD []++todo) (f::seen)
theorem zer{P:Program}{L:List (List Nat)}(h: ∀f:Nat,(P.funcs[f]?).elim [] P.leadsTo=(L[f]?).getD []): ∀(n:Nat) (todo seen:List Nat),P.closureVia n todo seen=zd9 L n todo seen
 |0,todo,seen=>by cases todo<;>rfl
 |n+1,[],seen=>rfl
 |n+1,f::todo,seen=>by
  unfold Program.closureVia zd9
  rw[h f,zer h n,zer h n]
theorem zjy(f:Nat):(Tryz.prog.funcs[f]?).elim [] Tryz.prog.leadsTo=(leadL[f]?).getD []:=by
 rw[<-zf6]
 by_cases h:f<538
 ·rw[List.getElem?_map,List.getElem?_range' h,Nat.zero_add,Nat.one_mul,Option.map_some,Option.getD_some,leadAt]
 ·rw[Array.getElem?_eq_none (by rw[zbr];exact Nat.le_of_not_lt h),List.getElem?_eq_none (by rw[List.length_map,List.length_range'];exact Nat.le_of_not_lt h)];rfl
theorem zi4:(Tryz.prog.funcs.toList.map λg=>(Tryz.prog.leadsTo g).length+1)=leadL.map λl=>l.length+1:=by
 rw[zeg _ 1,Array.length_toList,zbr,<-zf6,List.map_map,List.range_eq_range']
 refine List.map_congr_left λi _=>?_
 rw[Array.getElem?_toList]
 show _=(leadAt i).length+1
 unfold leadAt
 cases Tryz.prog.funcs[i]?<;>rfl
theorem zis(f:Nat):Tryz.prog.closure f=zd9 leadL (1+(leadL.map λl=>l.length+1).sum) [f] []:=by
 unfold Program.closure
 rw[zi4,zer zjy]
theorem andI{a b:Bool}(h:a=true)(k:b=true):(a&&b)=true:=by rw[h,k];rfl
end
section
open Go.ChangeShapes Go.WideShapes Go.ChangeAt Go.RowKit
theorem zj6:ownKnob Tryz.prog.godebug=none:=by kernel_rfl
theorem zf4:laidOutB Tryz.prog=true:=zed
end
section
open Go.ChangeShapes Go.WideShapes Go.ChangeAt Go.RowKit
set_option maxRecDepth 100000 in
theorem zjk{H:Type}{enc:TypeId×Value->H}{W:World}{base:Nat}{v:Value}{d:DataW H}{p:List MemPlace}(hval:Value.okWide Tryz.prog W .any base 22 v)
  (h:DataW.Trod enc Tryz.prog W 0 (λ_=>true) true 22 v d p):
  ∃l:List UInt8,(bs l).at_ W (allK W) v:=by
 obtain⟨a,n,c,rfl⟩:=okWide_slice Tryz.underlying22 hval
 obtain⟨fuel,hf⟩:=h
 obtain⟨l,_,h2⟩:=Rd.bytes (r:=⟨H,enc,W,0,λ_=>true,true⟩) Tryz.underlying22 Tryz.underlying5 (by kernel_rfl) fuel [.slice a n c] (d,p) hf
 refine⟨l,?_⟩
 simp only[RV.listAt]at h2
 obtain⟨u,r,e,_,hat,rfl⟩:=h2
 simp only[List.cons.injEq,and_true]at e
 rw[e]
 exact hat
end
section
structure PackP where
 init:List UInt8
 leaf:Leaf
 sig:List UInt8
 deriving DecidableEq
structure PropP where
 kind:UInt8
 pack:PackP
 leaf:Leaf
 at_:Int
 deriving DecidableEq
abbrev PackP.c(p:PackP):List RV:=[bs p.init,bs p.leaf.box,bs p.leaf.sign,bs p.leaf.ident,U8 p.leaf.src,bs p.leaf.parent,bs p.leaf.sig,bs p.sig]
abbrev PropP.c(p:PropP):List RV:=[U8 p.kind,bs p.pack.init,bs p.pack.leaf.box,bs p.pack.leaf.sign,bs p.pack.leaf.ident,U8 p.pack.leaf.src,bs p.pack.leaf.parent,bs p.pack.leaf.sig,bs p.pack.sig,bs p.leaf.box,bs p.leaf.sign,bs p.leaf.ident,U8 p.leaf.src,bs p.leaf.parent,bs p.leaf.sig,I p.at_]
end
section
open Go.ChangeShapes Go.WideShapes Go.ChangeAt Go.RowKit
theorem zno{α:Type}{l:List α}(h:l.length=8): ∃a0 a1 a2 a3 a4 a5 a6 a7,l=[a0,a1,a2,a3,a4,a5,a6,a7]:=by
 match l,h with
 |[a0,a1,a2,a3,a4,a5,a6,a7],_=>exact⟨_,_,_,_,_,_,_,_,rfl⟩
theorem zmq{α:Type}{l:List α}(h:l.length=16): ∃a0 a1 a2 a3 a4 a5 a6 a7 a8 a9 b0 b1 b2 b3 b4 b5,l=[a0,a1,a2,a3,a4,a5,a6,a7,a8,a9,b0,b1,b2,b3,b4,b5]:=by
 match l,h with
 |[a0,a1,a2,a3,a4,a5,a6,a7,a8,a9,b0,b1,b2,b3,b4,b5],_=>exact⟨_,_,_,_,_,_,_,_,_,_,_,_,_,_,_,_,rfl⟩
section
variable {r:Rd Tryz.prog}
theorem Rd.pack:r.Reads PackP.c (λ_=>True) 26:=λfuel cs x hx=>by
 obtain⟨hl,xs,n,_,hxl,hf⟩:=Rd.struct (C:=8) Tryz.underlying26 (by kernel_rfl) hx
 obtain⟨a0,a1,a2,a3,a4,a5,a6,a7,rfl⟩:=zno hl
 obtain⟨y0,y1,y2,rfl⟩:=znm hxl
 have h0:r.trod n 22 [a0]=some y0:=hf 0 _ rfl 1 (by kernel_rfl)
 have h1:r.trod n 24 [a1,a2,a3,a4,a5,a6]=some y1:=hf 1 _ rfl 6 (by kernel_rfl)
 have h2:r.trod n 22 [a7]=some y2:=hf 2 _ rfl 1 (by kernel_rfl)
 obtain⟨s0,k0,g0⟩:=(Rd.bytes Tryz.underlying22 Tryz.underlying5 (by kernel_rfl)) _ _ _ h0
 obtain⟨s1,k1,g1⟩:=Rd.leaf _ _ _ h1
 obtain⟨s2,k2,g2⟩:=(Rd.bytes Tryz.underlying22 Tryz.underlying5 (by kernel_rfl)) _ _ _ h2
 exact⟨⟨s0,s1,s2⟩,trivial,zat g0 (zat g1 g2)⟩
theorem Rd.prop:r.Reads PropP.c (λp=>Sx.i64 p.at_) 28:=λfuel cs x hx=>by
 obtain⟨hl,xs,n,_,hxl,hf⟩:=Rd.struct (C:=16) Tryz.underlying28 (by kernel_rfl) hx
 obtain⟨a0,a1,a2,a3,a4,a5,a6,a7,a8,a9,b0,b1,b2,b3,b4,b5,rfl⟩:=zmq hl
 obtain⟨y0,y1,y2,y3,rfl⟩:=znn hxl
 have h0:r.trod n 5 [a0]=some y0:=hf 0 _ rfl 1 (by kernel_rfl)
 have h1:r.trod n 26 [a1,a2,a3,a4,a5,a6,a7,a8]=some y1:=hf 1 _ rfl 8 (by kernel_rfl)
 have h2:r.trod n 24 [a9,b0,b1,b2,b3,b4]=some y2:=hf 2 _ rfl 6 (by kernel_rfl)
 have h3:r.trod n 3 [b5]=some y3:=hf 3 _ rfl 1 (by kernel_rfl)
 obtain⟨s0,k0,g0⟩:=(Rd.u8 Tryz.underlying5) _ _ _ h0
 obtain⟨s1,k1,g1⟩:=Rd.pack _ _ _ h1
 obtain⟨s2,k2,g2⟩:=Rd.leaf _ _ _ h2
 obtain⟨s3,k3,g3⟩:=(Rd.i64 Tryz.underlying3) _ _ _ h3
 exact⟨⟨s0,s1,s2,s3⟩,k3,zat g0 (zat g1 (zat g2 g3))⟩
end
set_option maxRecDepth 100000 in
theorem zle{H:Type}{enc:TypeId×Value->H}{W:World}{base:Nat}{v:Value}{d:DataW H}{p:List MemPlace}(hval:Value.okWide Tryz.prog W .any base 28 v)
  (h:DataW.Trod enc Tryz.prog W 0 (λ_=>true) true 28 v d p):
  ∃s:PropP,Sx.i64 s.at_/\(RV.ag s.c).at_ W (allK W) v:=by
 obtain⟨us,rfl,_⟩:=okWide_struct Tryz.underlying28 hval
 obtain⟨fuel,hf⟩:=h
 obtain⟨s,hs,hl⟩:=Rd.prop (r:=⟨H,enc,W,0,λ_=>true,true⟩) fuel us.toList (d,p) hf
 exact⟨s,hs,by simp only[RV.at_];exact⟨us,rfl,hl⟩⟩
end
end Go.Proofs.YtamhdpombmegaaaGreat.Sx
