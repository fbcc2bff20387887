import Derived.Test.YtebhngeddnnpkaaGreatZSxV
import Derived.ProofKit
import Derived.Deep.Slices
import Derived.Deep.Fields
import Derived.SizedLaws
import Derived.Test.YtebhngeddnnpkaaGreatRows
import Derived.Below
import Derived.ChangeOld
import Derived.OpenShut
import Derived.Laws.ComplexArith
namespace Go.Proofs.YtebhngeddnnpkaaGreat.Sx
open Go.RowKit
section
open Go.RowKit Go.ChangeShapes Go.WideShapes Go.Deep
def allK(w:World):Kp:=λb=>((w.heap[b]?).map λo=>match o with | .cells c _ _=>c.size |_=>0).getD 0
theorem ztm{w:World}{b o:Nat}{v:Value}(h:w.cell? ⟨b,o,none⟩=some v):o<allK w b/\b<w.heap.size:=by
 unfold World.cell? at h
 unfold allK
 cases hb:w.heap[b]? with
 |none=>simp[hb]at h
 |some ob=>
  have h1:b<w.heap.size:=(Array.getElem?_eq_some_iff.1 hb).1
  cases ob with
  |cells c t fr=>
   simp[hb]at h
   exact⟨by simpa[hb]using(Array.getElem?_eq_some_iff.1 h).1,h1⟩
  |_=>simp[hb]at h
theorem zk0{w:World}{k:Kp}{b:Nat}: ∀{xs ys:List RV} {o:Nat},RV.cellsAt w k b o xs->RV.cellsAt w k b (o+xs.length) ys->RV.cellsAt w k b o (xs++ys)
 |[],_,_,_,g=>g
 |x::xs,ys,o,h,g=>by
  simp only[List.cons_append,RV.cellsAt]at h⊢
  exact⟨h.1,zk0 h.2 (by rwa[List.length_cons,show o+(xs.length+1)=o+1+xs.length by omega]at g)⟩
theorem zk1{w:World}{b:Nat}: ∀{fs:List RV} {cs:List Value} {o:Nat},RV.listAt w (allK w) fs cs->(∀j,j<cs.length->w.cell? ⟨b,o+j,none⟩=cs[j]?)->RV.cellsAt w (allK w) b o fs
 |[],_,_,_,_=>by simp[RV.cellsAt]
 |f::fs,cs,o,h,hc=>by
  simp only[RV.listAt]at h
  obtain⟨u,r,rfl,h1,h2,h3⟩:=h
  have h0:=hc 0 (by simp)
  simp only[Nat.add_zero,List.getElem?_cons_zero]at h0
  simp only[RV.cellsAt]
  refine⟨⟨(ztm h0).1,u,h0,h1,h2⟩,zk1 h3 λj hj=>?_⟩
  have:=hc (j+1) (by simpa using hj)
  rw[show o+1+j=o+(j+1)by omega]
  simpa using this
structure Rd (P:Program):Type 1 where
 H:Type
 enc:TypeId×Value->H
 w:World
 base:Nat
 spare:Nat->Bool
 held:Bool
def Rd.trod{P:Program}(r:Rd P)(fuel:Nat)(t:TypeId)(cs:List Value):Option (DataW r.H×List MemPlace):=DataW.trod r.enc P r.w r.base r.spare r.held fuel t cs
def Rd.Reads{P:Program}(r:Rd P){σ:Type}(c:σ->List RV)(ok:σ->Prop)(t:TypeId):Prop:=
 ∀fuel cs x,r.trod fuel t cs=some x->∃s,ok s/\RV.listAt r.w (allK r.w) (c s) cs
section
variable {P:Program} {r:Rd P} {t e:TypeId} {σ:Type} {c:σ->List RV} {ok:σ->Prop}
theorem Rd.u8(ht:P.underlying t=some (.int .u8)):r.Reads (λn:UInt8=>[U8 n]) (λ_=>True) t:=λfuel cs x h=>by
 obtain⟨n,rfl,_,hw⟩:=DataW.trod_int ht h
 have hn:0<=n/\n<256:=by
  simp only[Lit.wf,Bool.and_eq_true,decide_eq_true_eq]at hw
  have h1:(0:Int)<=n:=hw.1
  have h2:n<=255:=hw.2
  omega
 refine⟨UInt8.ofNat n.toNat,trivial,?_⟩
 have:((UInt8.ofNat n.toNat).toNat:Int)=n:=by
  rw[UInt8.toNat_ofNat']
  omega
 simp only[RV.listAt,RV.at_]
 exact⟨_,[],rfl,rfl,by rw[this],rfl⟩
theorem Rd.elems{b o:Nat}{sz:Nat}(hl: ∀s,(c s).length=sz): ∀(n i0:Nat),(∀i,i<n->∃cs,(∀j,j<cs.length->r.w.cell? ⟨b,o+(i0+i)*sz+j,none⟩=cs[j]?)/\∃s,ok s/\RV.listAt r.w (allK r.w) (c s) cs)->
  ∃l:List σ,l.length=n/\(∀x∈l,ok x)/\RV.cellsAt r.w (allK r.w) b (o+i0*sz) (l.flatMap c)
 |0,_,_=>⟨[],rfl,by simp,by simp[RV.cellsAt]⟩
 |n+1,i0,h=>by
  obtain⟨cs,hc,s,hs,hq⟩:=h 0 (by omega)
  obtain⟨l,h1,h2,h3⟩:=Rd.elems hl n (i0+1) λi hi=>by
   have:=h (i+1) (by omega)
   rwa[show i0+(i+1)=i0+1+i by omega]at this
  refine⟨s::l,by simp[h1],λx hx=>?_,?_⟩
  ·rcases List.mem_cons.1 hx with rfl |hx
   ·exact hs
   ·exact h2 x hx
  ·rw[List.flatMap_cons]
   refine zk0 (zk1 hq (by simpa using hc)) ?_
   rw[hl,show o+i0*sz+sz=o+(i0+1)*sz by rw[Nat.add_mul];omega]
   exact h3
theorem Rd.slice{sz:Nat}(ht:P.underlying t=some (.slice e))(hC:P.cellsOf e=sz)(h0:0<sz)(hl: ∀s,(c s).length=sz)(h:r.Reads c ok e)
  {fuel:Nat} {cs:List Value} {x:DataW r.H×List MemPlace} (hx:r.trod fuel t cs=some x):
  ∃l:List σ,(∀y∈l,ok y)/\RV.listAt r.w (allK r.w) [.sl sz l.length (l.flatMap c)] cs/\(l=[]\/∃E Sp,x.1= .slice E Sp/\E.length=l.length):=by
 have hlen: ∀l:List σ,(l.flatMap c).length=l.length*sz:=λl=>by
  induction l with
  |nil=>simp
  |cons y l ih=>rw[List.flatMap_cons,List.length_append,hl,ih,List.length_cons,Nat.add_mul];omega
 rcases open_slice ht hx with⟨rfl,_⟩ |⟨a,len,cap,m,n,D,Pl,rfl,hb,hlc,hcm,hm,hd,hi⟩
 ·refine⟨[],by simp,?_, .inl rfl⟩
  simp only[RV.listAt,RV.at_]
  exact⟨_,[],rfl,rfl,⟨none,0,rfl,by simp,by simp,by simp,λh=>absurd h (by simp)⟩,rfl⟩
 ·have hlm:len<=m:=by rw[hm];split<;>omega
  rw[hC]at hi
  by_cases hz:len=0
  ·subst hz
   refine⟨[],by simp,?_, .inl rfl⟩
   simp only[RV.listAt,RV.at_]
   exact⟨_,[],rfl,rfl,⟨some a,cap,rfl,by simp,hcm,by simp,λh=>absurd h (by simp)⟩,rfl⟩
  ·obtain⟨b,o,spot⟩:=a
   obtain⟨cs0,hc0,_⟩:=hi 0 (by omega)
   obtain⟨_,hl0,ha0⟩:=World.cells?_some hc0
   have hs0:=ha0 0 h0
   rw[List.getElem?_eq_getElem (by omega)]at hs0
   have hspot:spot=none:=by simpa[Addr.add]using World.cell?_spot hs0
   subst hspot
   have hblk:b<r.w.heap.size:=by
    have:=hs0
    rw[Nat.zero_mul,add_plain,add_plain]at this
    exact(ztm this).2
   obtain⟨l,h1,h2,h3⟩:=Rd.elems (r:=r) (b:=b) (o:=o) (ok:=ok) hl len 0 λi hil=>by
    obtain⟨cs',hc,ht'⟩:=hi i (by omega)
    obtain⟨_,hcl,hat⟩:=World.cells?_some hc
    refine⟨cs',λj hj=>?_,h n cs' _ ht'⟩
    have:=hat j (by omega)
    rw[add_plain,add_plain]at this
    simpa using this
   refine⟨l,h2,?_, .inr ⟨_,_,by rw[hd],by simp[h1]⟩⟩
   simp only[RV.listAt,RV.at_]
   refine⟨_,[],rfl,rfl,⟨_,cap,by rw[h1],by omega,hcm,hlen l,λ_=>⟨b,o,rfl,hblk,by simpa using h3⟩⟩,rfl⟩
theorem z0f{α β:Type}(f:α->β)(l:List α):(l.flatMap λx=>[f x])=l.map f:=by
 induction l with
 |nil=>rfl
 |cons x l ih=>rw[List.flatMap_cons,ih];rfl
theorem Rd.bytes(ht:P.underlying t=some (.slice e))(he:P.underlying e=some (.int .u8))(hC:P.cellsOf e=1):r.Reads (λl:List UInt8=>[bs l]) (λ_=>True) t:=λfuel cs x hx=>by
 obtain⟨l,_,h,_⟩:=Rd.slice ht hC (by omega) (λ_=>rfl) (Rd.u8 he) hx
 refine⟨l,trivial,?_⟩
 rw[z0f]at h
 exact h
end
end
section
open Go.ChangeShapes Go.WideShapes Go.ChangeAt Go.RowKit
theorem zah{g:Nat->Bool}{a b c:Nat}(h:(List.range' a b).all g=true)(k:(List.range' (a+b) c).all g=true):(List.range' a (b+c)).all g=true:=by
 rw[<-List.range'_append_1,List.all_append,h,k];rfl
theorem zcz{α:Type}{g:Nat->α}{a b c:Nat}{l m:List α}(h:(List.range' a b).map g=l)(k:(List.range' (a+b) c).map g=m):(List.range' a (b+c)).map g=l++m:=by
 rw[<-List.range'_append_1,List.map_append,h,k]
theorem zew{g:Nat->Bool}{n:Nat}(h:(List.range' 0 n).all g=true):(List.range n).all g=true:=by rw[List.range_eq_range'];exact h
theorem zm1{α β:Type}(l:List α)(d:β)(h:α->β):l.map h=(List.range l.length).map λi=>(l[i]?).elim d h:=by
 apply List.ext_getElem
 ·simp
 ·intro i h1 h2
  simp at h1
  simp[List.getElem?_eq_getElem h1]
theorem zhv{α:Type}(l:List α)(h:α->Bool):l.all h=(List.range l.length).all λi=>(l[i]?).elim true h:=by
 have e:=zm1 l true h
 have: ∀m:List Bool,∀l:List α,l.map h=m->l.all h=m.all id:=λm l hm=>by rw[<-hm,List.all_map];rfl
 rw[this _ _ e,List.all_map];rfl
noncomputable def leadAt (i:Nat):List Nat:=(Tryz.prog.funcs[i]?).elim [] Tryz.prog.leadsTo
def z2r:List (List Nat):=[[],[],[1],[6,7,8,9,10,11,12,14,13],[15,16,17,18,21,22,20,19,23,24,26,25],[15,27,28,29,30,31,26,25],[32,33,7,9,8],[34],[35,36,38,37],[35,36,36,39,37],[35,40,37],[35,41],[42,43,44,45,46,47,48,49],[50,50,50],[34,51],[52,16,52,29,31,26],[17,53,46,55,56,54,57,49],[55,58,55,58,55,59,60,61,62],[63],[64,66,65,65,65,65,65,65,65,65,65,65],[67,68,21],[69,70,70,71],[],[74,73,73,72,74,72],[70,76,75],[77,78,50,79,50,50],[80],[81,82],[83,27,84],[85,86,87,88,81,46,89,90,91,82,92,53,80],[93],[42,94,95,96,97,98,99],[100,101,16],[26,102],[],[7],[103,104],[],[105,106],[107,107,109,110,108],[103,106],[111,112,113],[115,117,114],[34,98,95,119,120],[84,121,122],[86,34,87,123],[124],[118,126,125],[72],[113,72],[],[53,53,53],[],[],[131,130],[132],[],[23],[134,133,135],[136,138,137,139],[140,141,142,62],[143,144,125],[147,146],[148,75]]
theorem z74:(List.range' 0 64).map leadAt=z2r:=by kernel_rfl
def z2s:List (List Nat):=[[66,68,21],[21],[67],[75,75,75],[151,151,152,150,69,149,152,152,150,149],[],[153],[67],[73,154],[155],[72],[156,157],[],[13,50,50,158,159],[160],[161,50,50,50],[162,163,53,164,53,53],[53,56,56,119,62,90,91],[118,165,125],[55,58,60],[168],[169],[170],[111,171,172,163,173,174,175],[56,176,36,55,177,163,178,55,180,179],[47,53,53,48,54,57,49,181],[118,182,125],[23],[184,185,55,186,187],[55,72,132],[98],[111,188,189],[94,119,120,90,91,190],[84,170],[],[86,87,192,191,193,194,46,89,190],[],[52],[46,98,51,163,53],[124,95,196,195],[198,197,189,199,197,53],[200,201],[109,109,110,202],[105],[203,204,112,205,108,206,108],[207,208],[209],[210,211,212,212,213],[214,215,113,216],[217],[218,220,219],[116],[221,221,222,223,221,223,223,224,225,219,222,222,222],[118],[226,227,228,229,230],[118,231,125],[147,232],[82,84,98],[233],[36,234,235,236,237,98,163,238],[111,239],[],[128,129,127],[113]]
theorem z75:(List.range' 64 64).map leadAt=z2s:=by kernel_rfl
def z2t:List (List Nat):=[[109],[127,128,128,240,241],[242,53,55,183,243,244,55],[242,183,243],[109,113,113,245],[109,246,245],[246,242],[248,249,247],[248,248,251,250,252,253],[254,255,256,256,257,258,259,258],[260],[254,251,250,249,250,261],[53],[],[215,113,109],[262],[145],[128,128,127,263],[59,260,265,264,136,137,139,265,264,267,266,268,73],[113,113],[269,69,270,271,270,269,272,271,270,63,70,63,70,270,270],[],[149,149],[69],[70],[],[273,207,274,275],[],[],[276,276,277,276,276,277,276,276,276,276,276,276],[278],[279],[280,50,50,281],[50,282,283],[53,284,181],[189],[82,42],[167,166,127],[127,127],[128,128,129],[113,113,72],[82,84],[285,233],[286],[287,288,98,98,98,289],[191,290],[291,292,293,189],[],[181,295,294],[107,234,297,298,53,237,299,55,58,60,300,238,189],[210,111,301,302,303],[107,234,189,53,236,299,109,109,132,305,304],[46,183],[53],[167,183,166],[128,128,127,128,127,127],[306,307,62],[308,308,302,310,309],[311,312,313,314],[315,316,125],[210],[140,53,53,317],[],[318]]
theorem z76:(List.range' 128 64).map leadAt=z2t:=by kernel_rfl
def z2u:List (List Nat):=[[],[170,320,319],[56,176,123,36,180,321],[322,324,110],[],[325,326],[327],[328],[],[209,329,330,195,198,197,331,199,197,331],[112,205,202,206,202],[204,333,333,332],[334,335,337,338],[339],[339],[],[],[340],[209],[112],[341,342],[210,296,302,343],[344,345,141,345,344,346],[113,113],[109,113,113,113],[347,207,109],[],[],[348],[223,219],[349,348,219],[350,348,219],[223,351,352,223,219],[354,353,356,352,357,353],[],[143,359,360,262,360,359,226],[230],[360,359],[361,362,359,364],[167,183],[365,366,365,265,264,136,137,137,368,367],[],[301,302,369,370],[289,98,98],[317,372,371],[113,113,113,72],[189,375,374,189,189,296,53],[376,205,239,206,239,377,72],[145,127,263,128],[127,240,127,127,127,127,127,263,127],[23],[132],[],[23],[],[379,380,378],[],[381],[382,383,384],[386,385],[387,248,388,256,250,248,257,251,250,389],[248,250],[255],[248,253]]
theorem z77:(List.range' 192 64).map leadAt=z2u:=by kernel_rfl
def z2v:List (List Nat):=[[248,390,248,251,250],[384],[388,388,250,257,257,250,250,250,257,250,388,388,257,257,250,250,250,250],[],[265,264],[381],[391],[391],[392,393],[73,394],[395,396],[397,383,383,393],[],[],[],[399,398,69,398,70,398,70,70,398,398],[400],[],[],[401,402,403,403,403,403,403,403],[],[],[50],[50],[50,50,50,50,50],[],[404,280],[280,50,282,50,50,50],[53],[169,98],[111,405],[227,406,125],[61,289,98,120],[142,141,120],[],[111,407,188,408,409],[111,188,405,408,210,212,210,410],[111,407,210,163,409,302,343,411],[412],[296],[413,413,414],[55,415],[55,58],[105,189],[416,417],[302,418],[419,419],[205,303,206,303],[421,420],[],[53],[422,423,125],[209],[],[296],[422,425,125],[243,243],[426,427,428],[429,432],[433,434],[127,127,127,128,128,128,127,127],[],[],[]]
theorem z78:(List.range' 256 64).map leadAt=z2v:=by kernel_rfl
def z2w:List (List Nat):=[[98],[435,369,236,436,437,299,438,53,300],[296,323],[440,439],[205,206],[441],[443,442],[],[],[112,444,439],[],[],[445,446,448,449],[296,296],[],[336],[450,450],[],[336],[414],[451,452],[453],[],[454,455,455],[],[],[],[],[],[456,457],[208,458,459],[221,221,222,352,222],[460,219],[222,218,461,219],[355],[223,224,222,219],[462,348,219],[358],[222,463,353],[447],[359],[464],[363],[227,229],[262,465,466],[380,53,249,98,252,469,390,253],[392,471,470],[254,254,250,250,472,250,250,472],[254,254,256,256,257,258],[105,473],[105,474],[309],[373],[299,476,475],[],[],[112,109],[112,113,113],[248,248,477,477,251,250,249],[],[478],[384,384],[397,383,383],[]]
theorem z79:(List.range' 320 64).map leadAt=z2w:=by kernel_rfl
def z2x:List (List Nat):=[[],[248,387,250],[479],[250],[384],[386,385,387,472,248,386,385,250,387,472,261,390],[388],[141,215,113],[],[395,396],[480,481,483,482,484],[383],[471,470],[],[],[485,70,398],[486],[403,403,403,403],[],[487],[50,280,50],[],[240],[391],[163,210,302],[189],[],[488,489],[],[],[413],[55],[443,490],[336],[419,206,205],[308,414],[491,492,313],[246,113,113],[226],[424],[183,127,128],[424,127],[],[207,482,493],[494,495,482,495,496,497,496,497,493,495,496,498],[430,431,109,132,304],[143,499,125],[500,501,125],[],[],[502],[107,185,302,503,299],[438,504],[298,98,415],[505,412],[309],[296],[],[506,507,508,509,510,511,454,512,513,442,442],[514,515],[296],[],[447],[331,98,98,98,98,98,98,98]]
theorem z8a:(List.range' 384 64).map leadAt=z2x:=by kernel_rfl
def z2y:List (List Nat):=[[],[98],[],[],[],[],[450,450],[],[458,516,458,459,347,516],[458,53],[516,516],[],[349,349,349,350,348,349,349,348,141],[],[458,516],[222,222],[],[517],[467,468],[],[518],[472],[519],[],[381,381],[205,473,206,473],[53,376,205,474,206,474,377,72],[520],[447],[257,388,257,388,250,250,387,387,388,250,248,250,257,250,257,387,388,387,250],[],[521,522],[],[],[523],[207],[524,525,525,525,525,525,525],[70,70,398,70,398,398,70,398],[526],[],[],[527],[528,529,530,531,532,533,534,535,490,490],[58,536,537],[134,134,73,134,133,133],[207,494],[538,539,540],[],[],[496],[],[145,127,168],[],[127,127,127],[],[],[421,541],[],[454],[542,542],[543,544],[545,545,545,546],[],[454,454,454]]
theorem z8b:(List.range' 448 64).map leadAt=z2y:=by kernel_rfl
def z2z:List (List Nat):=[[454,454],[454,454,454,454],[],[],[],[],[],[],[],[547,397],[],[],[525,525,525,525],[548],[],[549,549,549],[],[550,550],[543,544],[551,551,551,552],[],[],[],[],[247,553,554],[134,73,133],[555,555,556],[555],[555],[557,492,558],[454,454],[443],[],[546],[559,559,559],[],[],[],[],[552],[560,560,560],[561],[],[],[],[536,135,537],[426,428,427],[454],[],[],[],[],[],[],[],[],[],[],[],[],[],[],[],[]]
theorem z8c:(List.range' 512 64).map leadAt=z2z:=by kernel_rfl
def z20:List (List Nat):=[[],[],[],[],[]]
theorem z8d:(List.range' 576 5).map leadAt=z20:=by kernel_rfl
def leadL:List (List Nat):=(z2r++(z2s++(z2t++(z2u++(z2v++(z2w++(z2x++(z2y++(z2z++z20)))))))))
theorem zrf:(List.range' 0 581).map leadAt=leadL:=zcz (b:=64) (c:=517) z74 (zcz (b:=64) (c:=453) z75 (zcz (b:=64) (c:=389) z76 (zcz (b:=64) (c:=325) z77 (zcz (b:=64) (c:=261) z78 (zcz (b:=64) (c:=197) z79 (zcz (b:=64) (c:=133) z8a (zcz (b:=64) (c:=69) z8b (zcz (b:=64) (c:=5) z8c (z8d)))))))))
theorem z6v:(List.range' 0 64).all (rowFine Tryz.prog)=true:=by kernel_rfl
theorem z6w:(List.range' 64 64).all (rowFine Tryz.prog)=true:=by kernel_rfl
theorem z6x:(List.range' 128 64).all (rowFine Tryz.prog)=true:=by kernel_rfl
theorem z6y:(List.range' 192 64).all (rowFine Tryz.prog)=true:=by kernel_rfl
theorem z6z:(List.range' 256 64).all (rowFine Tryz.prog)=true:=by kernel_rfl
theorem z60:(List.range' 320 64).all (rowFine Tryz.prog)=true:=by kernel_rfl
theorem z61:(List.range' 384 64).all (rowFine Tryz.prog)=true:=by kernel_rfl
theorem z62:(List.range' 448 64).all (rowFine Tryz.prog)=true:=by kernel_rfl
theorem z65:(List.range' 512 64).all (rowFine Tryz.prog)=true:=by kernel_rfl
theorem z66:(List.range' 576 49).all (rowFine Tryz.prog)=true:=by kernel_rfl
theorem z0d:(List.range' 0 625).all (rowFine Tryz.prog)=true:=zah (b:=64) (c:=561) z6v (zah (b:=64) (c:=497) z6w (zah (b:=64) (c:=433) z6x (zah (b:=64) (c:=369) z6y (zah (b:=64) (c:=305) z6z (zah (b:=64) (c:=241) z60 (zah (b:=64) (c:=177) z61 (zah (b:=64) (c:=113) z62 (zah (b:=64) (c:=49) z65 (z66)))))))))
noncomputable def mapFine (t:Nat):Bool:=match Tryz.prog.underlying t with |some (.map _ e)=>decide (e<Tryz.prog.types.size) |_=>true
theorem z8f:(List.range' 0 64).all mapFine=true:=by kernel_rfl
theorem z8g:(List.range' 64 64).all mapFine=true:=by kernel_rfl
theorem z8h:(List.range' 128 64).all mapFine=true:=by kernel_rfl
theorem z8i:(List.range' 192 64).all mapFine=true:=by kernel_rfl
theorem z8j:(List.range' 256 64).all mapFine=true:=by kernel_rfl
theorem z8k:(List.range' 320 64).all mapFine=true:=by kernel_rfl
theorem z8l:(List.range' 384 64).all mapFine=true:=by kernel_rfl
theorem z8m:(List.range' 448 64).all mapFine=true:=by kernel_rfl
theorem z8n:(List.range' 512 64).all mapFine=true:=by kernel_rfl
theorem z8o:(List.range' 576 49).all mapFine=true:=by kernel_rfl
theorem z1f:(List.range' 0 625).all mapFine=true:=zah (b:=64) (c:=561) z8f (zah (b:=64) (c:=497) z8g (zah (b:=64) (c:=433) z8h (zah (b:=64) (c:=369) z8i (zah (b:=64) (c:=305) z8j (zah (b:=64) (c:=241) z8k (zah (b:=64) (c:=177) z8l (zah (b:=64) (c:=113) z8m (zah (b:=64) (c:=49) z8n (z8o)))))))))
noncomputable def keyFine (t:Nat):Bool:=match Tryz.prog.underlying t with |some (.map k _)=>(match Tryz.prog.underlying k with |some (.array _ _) |some (.struct _)=>false |_=>true) |_=>true
theorem z7u:(List.range' 0 64).all keyFine=true:=by kernel_rfl
theorem z7v:(List.range' 64 64).all keyFine=true:=by kernel_rfl
theorem z7w:(List.range' 128 64).all keyFine=true:=by kernel_rfl
theorem z7x:(List.range' 192 64).all keyFine=true:=by kernel_rfl
theorem z7y:(List.range' 256 64).all keyFine=true:=by kernel_rfl
theorem z7z:(List.range' 320 64).all keyFine=true:=by kernel_rfl
theorem z70:(List.range' 384 64).all keyFine=true:=by kernel_rfl
theorem z71:(List.range' 448 64).all keyFine=true:=by kernel_rfl
theorem z72:(List.range' 512 64).all keyFine=true:=by kernel_rfl
theorem z73:(List.range' 576 49).all keyFine=true:=by kernel_rfl
theorem z09:(List.range' 0 625).all keyFine=true:=zah (b:=64) (c:=561) z7u (zah (b:=64) (c:=497) z7v (zah (b:=64) (c:=433) z7w (zah (b:=64) (c:=369) z7x (zah (b:=64) (c:=305) z7y (zah (b:=64) (c:=241) z7z (zah (b:=64) (c:=177) z70 (zah (b:=64) (c:=113) z71 (zah (b:=64) (c:=49) z72 (z73)))))))))
noncomputable def parFine (i:Nat):Bool:=(Tryz.prog.funcs.toList[i]?).elim true λf=>f.params.all λt=>decide (t<Tryz.prog.types.size)
theorem z8t:(List.range' 0 64).all parFine=true:=by kernel_rfl
theorem z8u:(List.range' 64 64).all parFine=true:=by kernel_rfl
theorem z8v:(List.range' 128 64).all parFine=true:=by kernel_rfl
theorem z8w:(List.range' 192 64).all parFine=true:=by kernel_rfl
theorem z8x:(List.range' 256 64).all parFine=true:=by kernel_rfl
theorem z8y:(List.range' 320 64).all parFine=true:=by kernel_rfl
theorem z8z:(List.range' 384 64).all parFine=true:=by kernel_rfl
theorem z80:(List.range' 448 64).all parFine=true:=by kernel_rfl
theorem z81:(List.range' 512 64).all parFine=true:=by kernel_rfl
theorem z82:(List.range' 576 5).all parFine=true:=by kernel_rfl
theorem z1q:(List.range' 0 581).all parFine=true:=zah (b:=64) (c:=517) z8t (zah (b:=64) (c:=453) z8u (zah (b:=64) (c:=389) z8v (zah (b:=64) (c:=325) z8w (zah (b:=64) (c:=261) z8x (zah (b:=64) (c:=197) z8y (zah (b:=64) (c:=133) z8z (zah (b:=64) (c:=69) z80 (zah (b:=64) (c:=5) z81 (z82)))))))))
noncomputable def stopFine (i:Nat):Bool:=(Tryz.prog.funcs.toList[i]?).elim true λfn=>(Stop.rowOf fn).isNone|| !fn.norace
theorem z5r:(List.range' 0 64).all stopFine=true:=by kernel_rfl
theorem z5s:(List.range' 64 64).all stopFine=true:=by kernel_rfl
theorem z5t:(List.range' 128 64).all stopFine=true:=by kernel_rfl
theorem z5u:(List.range' 192 64).all stopFine=true:=by kernel_rfl
theorem z5v:(List.range' 256 64).all stopFine=true:=by kernel_rfl
theorem z5w:(List.range' 320 64).all stopFine=true:=by kernel_rfl
theorem z5x:(List.range' 384 64).all stopFine=true:=by kernel_rfl
theorem z5y:(List.range' 448 64).all stopFine=true:=by kernel_rfl
theorem z5z:(List.range' 512 64).all stopFine=true:=by kernel_rfl
theorem z50:(List.range' 576 5).all stopFine=true:=by kernel_rfl
theorem zzk:(List.range' 0 581).all stopFine=true:=zah (b:=64) (c:=517) z5r (zah (b:=64) (c:=453) z5s (zah (b:=64) (c:=389) z5t (zah (b:=64) (c:=325) z5u (zah (b:=64) (c:=261) z5v (zah (b:=64) (c:=197) z5w (zah (b:=64) (c:=133) z5x (zah (b:=64) (c:=69) z5y (zah (b:=64) (c:=5) z5z (z50)))))))))
theorem zfn:Tryz.prog.funcs.size=581:=by kernel_rfl
theorem zhl:Tryz.prog.types.size=625:=by kernel_rfl
theorem zmy:laidOutB Tryz.prog=true:=by
 have h1:(List.range Tryz.prog.types.size).all (rowFine Tryz.prog)=true:=by rw[zhl];exact zew z0d
 have h2:Tryz.prog.globals.all (λg=>decide (g.type<Tryz.prog.types.size))=true:=by kernel_rfl
 have h3:Tryz.prog.funcs.all (λf=>f.params.all λt=>decide (t<Tryz.prog.types.size))=true:=by
  rw[<-Array.all_toList,zhv,Array.length_toList,zfn];exact zew z1q
 unfold laidOutB
 rw[h1,h2,h3];rfl
def zrl(P:Program)(t:Nat):Bool:=match P.underlying t with |some (.map _ e)=>decide (e<P.types.size) |_=>true
def zrd(P:Program)(t:Nat):Bool:=match P.underlying t with |some (.map k _)=>(match P.underlying k with |some (.array _ _) |some (.struct _)=>false |_=>true) |_=>true
theorem z45{P:Program}{n:Nat}(hn:P.types.size=n)(h:(List.range n).all (zrl P)=true):mapsRowed P=true:=by subst hn;exact h
theorem z42{P:Program}{n:Nat}(hn:P.types.size=n)(h:(List.range n).all (zrd P)=true):P.plainKeys=true:=by subst hn;exact h
theorem zv6:mapFine=zrl Tryz.prog:=by kernel_rfl
theorem zv2:keyFine=zrd Tryz.prog:=by kernel_rfl
theorem zv7:mapsRowed Tryz.prog=true:=z45 zhl (by rw[<-zv6];exact zew z1f)
theorem zv5:Tryz.prog.plainKeys=true:=z42 zhl (by rw[<-zv2];exact zew z09)
theorem ztg:Tryz.prog.stopsHeard=true:=by
 unfold Program.stopsHeard
 rw[<-Array.all_toList,zhv,Array.length_toList,zfn];exact zew zzk
def zmh(L:List (List Nat)):Nat->List Nat->List Nat->List Nat
 |0,_,seen=>seen.reverse
 |_+1,[],seen=>seen.reverse
 |n+1,f::todo,seen=>if seen.contains f then zmh L n todo seen else zmh L n ((L[f]?).getD []++todo) (f::seen)
theorem znu{P:Program}{L:List (List Nat)}(h: ∀f:Nat,(P.funcs[f]?).elim [] P.leadsTo=(L[f]?).getD []): ∀(n:Nat) (todo seen:List Nat),P.closureVia n todo seen=zmh L n todo seen
 |0,todo,seen=>by cases todo<;>rfl
 |n+1,[],seen=>rfl
 |n+1,f::todo,seen=>by
  unfold Program.closureVia zmh
  rw[h f,znu h n,znu h n]
theorem z1c(f:Nat):(Tryz.prog.funcs[f]?).elim [] Tryz.prog.leadsTo=(leadL[f]?).getD []:=by
 rw[<-zrf]
 by_cases h:f<581
 ·rw[List.getElem?_map,List.getElem?_range' h,Nat.zero_add,Nat.one_mul,Option.map_some,Option.getD_some,leadAt]
 ·rw[Array.getElem?_eq_none (by rw[zfn];exact Nat.le_of_not_lt h),List.getElem?_eq_none (by rw[List.length_map,List.length_range'];exact Nat.le_of_not_lt h)];rfl
theorem zyr:(Tryz.prog.funcs.toList.map λg=>(Tryz.prog.leadsTo g).length+1)=leadL.map λl=>l.length+1:=by
 rw[zm1 _ 1,Array.length_toList,zfn,<-zrf,List.map_map,List.range_eq_range']
 refine List.map_congr_left λi _=>?_
 rw[Array.getElem?_toList]
 show _=(leadAt i).length+1
 unfold leadAt
 cases Tryz.prog.funcs[i]?<;>rfl
theorem zw9(f:Nat):Tryz.prog.closure f=zmh leadL (1+(leadL.map λl=>l.length+1).sum) [f] []:=by
 unfold Program.closure
 rw[zyr,znu z1c]
theorem andI{a b:Bool}(h:a=true)(k:b=true):(a&&b)=true:=by rw[h,k];rfl
end
section
open Go.ChangeShapes Go.WideShapes Go.ChangeAt Go.RowKit
theorem z1o:ownKnob Tryz.prog.godebug=none:=by kernel_rfl
theorem z1a:laidOutB Tryz.prog=true:=zmy
end
section
open Go.ChangeShapes Go.WideShapes Go.ChangeAt Go.RowKit
set_option maxRecDepth 100000 in
theorem zz6{H:Type}{enc:TypeId×Value->H}{W:World}{base:Nat}{v:Value}{d:DataW H}{p:List MemPlace}(hval:Value.okWide Tryz.prog W .any base 22 v)
  (h:DataW.Trod enc Tryz.prog W 0 (λ_=>true) true 22 v d p):
  ∃l:List UInt8,(bs l).at_ W (allK W) v:=by
 obtain⟨a,n,c,rfl⟩:=okWide_slice Tryz.underlying22 hval
 obtain⟨fuel,hf⟩:=h
 obtain⟨l,_,h2⟩:=Rd.bytes (r:=⟨H,enc,W,0,λ_=>true,true⟩) Tryz.underlying22 Tryz.underlying5 (by kernel_rfl) fuel [.slice a n c] (d,p) hf
 refine⟨l,?_⟩
 simp only[RV.listAt]at h2
 obtain⟨u,r,e,_,hat,rfl⟩:=h2
 simp only[List.cons.injEq,and_true]at e
 rw[e]
 exact hat
end
section
structure PackP where
 init:List UInt8
 leaf:Leaf
 sig:List UInt8
 deriving DecidableEq
abbrev PackP.c(p:PackP):List RV:=[bs p.init,bs p.leaf.box,bs p.leaf.sign,bs p.leaf.ident,U8 p.leaf.src,bs p.leaf.parent,bs p.leaf.sig,bs p.sig]
end
section
open Ieee
def fw(s:Bool)(n:Nat):Nat:=double.nearest s n 0
def fl(n:Int):Nat:=fw (decide (n<0)) n.natAbs
end
section
section
variable {P:Program} {T:TT} {B:Bs} {N:Nat} {S:St} {a:Act} {w:World} {k:Kp} {g:Env} {o:Oper} {Q:Exit->Act->World->Prop}
def cloS{α:Type}(P:Program)(arg:α->RV)(D:α->Prop)(q:α->Bool):Stable where
 at_ w k v:=∃f rvs cap,v= .func (.func f) #[] cap/\RV.partsAt w k rvs cap.toList/\∀x,D x->zab P f (arg x::rvs) (.r (.b (q x)))
 mono:=λh ⟨f,rvs,cap,e,hp,hg⟩=>⟨f,rvs,cap,e,RV.parts_mono h rvs _ hp,hg⟩
 one:=by rintro w k v ⟨f,rvs,cap,rfl,_⟩;rfl
theorem Vstep.sub{S':St}{K:St->Prop}(hs:Sub S S')(h:Vstep P S' o K):Vstep P S o K:=by
 obtain⟨ι,S2,hy,hK⟩:=h
 refine⟨ι,S2,λB N a w k Q hs0 hd=>?_,hK⟩
 obtain⟨k',hs'⟩:=hs B N a w k hs0
 exact hy B N a w k' Q hs' hd
theorem Vstep.clo{α:Type}{arg:α->RV}{D:α->Prop}{q:α->Bool}{t:Nat}{x:Operand}{ts:Array TypeId}{f:TF}{v:RV}{K:St->Prop}(y:α)
  (hop:o.op= .call {callee:= .value (.tmp t),args:= #[x],argTypes:=ts}) (hf:fget S.F t=some (.r (.s (cloS P arg D q)))) (hx:opr S x=some f) (hv:S.rv f=some v) (hc:Cv v (arg y)) (hD:D y)
  (hK:newK S o.dst (.r (.b (q y))) none K):Vstep P S o K:=by
 rw[zar]at hK
 refine Vstep.one (λB N a w k Q ⟨g,hs⟩ hd=>?_) hK
 have hfv:=(hs.facts t _ hf).2
 simp only[TF.at_,RV.at_]at hfv
 obtain⟨fn,rvs,cap,e,hp,hg⟩:=hfv
 have hxv:=zfa hs hv (zaf hs hx).2
 have hus:RV.partsAt w k (v::rvs) (a.eval x::cap.toList):=by simp only[RV.partsAt];exact⟨_,_,rfl,hxv,hp⟩
 have:=zf2 (o:=o) (Q:=Q) (K:=λf ow=>f= .r (.b (q y))/\ow=none) hs hus (zk hc (zn rvs)) (hg y hD) (by
  have e2:a.eval (.tmp t)= .func (.func fn) #[] cap:=by
   have:a.eval (.tmp t)=a.tmps.getD t undef:=by simp[Act.eval]
   rw[this,e]
  have e3: #[a.eval x]++cap=(a.eval x::cap.toList).toArray:=by apply Array.ext';simp
  simp[execOp,hop,resolve,e2,Deferred.ofValue,invoke,e3]) ⟨rfl,rfl⟩
 refine Oper.wp_mono ?_ this
 rintro a' w' ⟨f',ow,u,k',⟨rfl,rfl⟩,rfl,hl⟩
 exact⟨k',hl.sat hs hd⟩
theorem Vstep.cloB{α:Type}{arg:α->RV}{D:α->Prop}{q:α->Bool}{t:Nat}{x:Operand}{ts:Array TypeId}{f:TF}{v:RV}{K:St->Prop}(y:α)
  (hop:o.op= .call {callee:= .value (.tmp t),args:= #[x],argTypes:=ts}) (hf:fget S.F t=some (.r (.s (cloS P arg D q)))) (hx:opr S x=some f) (hv:S.rv f=some v) (hc:Cv v (arg y)) (hD:D y)
  (h1:q y=true->newK S o.dst (.r (.b true)) none K) (h0:q y=false->newK S o.dst (.r (.b false)) none K):Vstep P S o K:=by
 refine Vstep.clo y hop hf hx hv hc hD ?_
 cases hq:q y
 ·exact h0 hq
 ·exact h1 hq
theorem SatE.pub(hs:SatE B N S a w k g){id:Nat}{vs:List RV}(ho:oget S.O id=some (.box (vs.map .r))):
  ∃b k',g id=(.pointer (some ⟨b,0,none⟩),some b)/\Le w k w k'/\b<w.heap.size/\RV.cellsAt w k' b 0 vs/\SatE B N (S.set id none) a w k' g:=by
 obtain⟨_,_,hat,_⟩:=hs.owns id _ ho
 simp only[Ow.at_]at hat
 obtain⟨b,cur,ty,e,hh,hk,hsz,hc⟩:=hat
 have hw:Wrote w k w (kset k b vs.length) (some b):=⟨rfl,rfl,rfl,Nat.le_refl _,λx _ hne=>⟨rfl,by simp[kset,show x≠b fromλh=>hne (by rw[h])]⟩,λx hx=>by
  cases hx
  exact⟨by omega,λ_ _=>rfl,λh=>by omega⟩⟩
 refine⟨b,kset k b vs.length,e,hw.le,(Array.getElem?_eq_some_iff.1 hh).1,?_,hs.wrote hw (id:=some id) ⟨⟨_,ho⟩,by rw[e]⟩⟩
 rw[RV.cellsAt_iff]
 intro j f hf
 have hj:=(List.getElem?_eq_some_iff.1 hf).1
 rw[List.length_map]at hsz
 have hcj:cur[j]?=some cur[j]:=Array.getElem?_eq_getElem (by omega)
 have h1:=hc j (.r f) cur[j] (by simp[hf]) hcj
 refine⟨by rw[zbn];omega,cur[j],?_,h1.1,RV.mono hw.le f _ h1.2⟩
 rw[Nat.zero_add,cell_of_row w b j cur ty (0,0) hh]
 exact hcj
theorem zdu{id t:Nat}(vs:List RV)(hf:fget S.F t=some (.own id))(ho:oget S.O id=some (.box (vs.map .r))):Sub S ⟨(t, .r (.ptr vs))::S.F,(id,none)::S.O,S.nx⟩:=by
 rintro B N a w k ⟨g,hs⟩
 obtain⟨b,k',hg,hle,hb,hc,h⟩:=hs.pub ho
 have hv:=(hs.facts t _ hf).2
 simp only[TF.at_]at hv
 refine⟨k',g,h.size,h.defers,h.keep,h.kk,λt' f hf'=>?_,h.owns,h.apart⟩
 rcases zav hf' with⟨rfl,rfl⟩ |⟨_,hf'⟩
 ·refine⟨trivial,?_⟩
  simp only[TF.at_,RV.at_]
  exact⟨b,0,by rw[hv,hg],hb,hc⟩
 ·exact h.facts t' f hf'
theorem zir(hs:SatE B N S a w k g): ∀{xs:List Operand} {vs:List RV},oprs S xs=some vs->RV.partsAt w k vs (xs.map a.eval)
 |[],vs,h=>by simp only[oprs]at h;cases h;rfl
 |x::xs,vs,h=>by
  simp only[oprs]at h
  split at h
  ·rename_i f hf
   split at h
   ·rename_i v vs' hv hvs
    cases h
    simp only[List.map_cons,RV.partsAt]
    exact⟨_,_,rfl,zfa hs hv (zaf hs hf).2,zir hs hvs⟩
   ·cases h
  ·cases h
theorem Vstep.mkfun{α:Type}(arg:α->RV)(D:α->Prop)(q:α->Bool){f:FuncId}{cap:Array Operand}{rvs:List RV}{K:St->Prop}(hop:o.op= .makeFunc (.func f) #[] cap) (hc:oprs S cap.toList=some rvs)
  (hg: ∀x,D x->zab P f (arg x::rvs) (.r (.b (q x)))) (hK:newK S o.dst (.r (.s (cloS P arg D q))) none K):Vstep P S o K:=by
 rw[zar]at hK
 refine Vstep.one (λB N a w k Q ⟨g,hs⟩ hd=>?_) hK
 have hp:=zir hs hc
 refine zap (v:= .func (.func f) #[] (cap.map a.eval)) (w':=w) (by simp[execOp,hop,Instr.makeFunc]) ⟨k,g,hs.put hd trivial ?_⟩
 simp only[TF.at_,RV.at_]
 exact⟨f,rvs,_,rfl,by simpa using hp,hg⟩
def entsAt(w:World)(k:Kp)(ents:List (Int×RV))(es:List MapEntry):Prop:=es.length=ents.length/\∀(j:Nat) (x:Int×RV) (e:MapEntry),ents[j]?=some x->es[j]?=some e->e.key= .int .i64 x.1/\x.2.at_ w k e.val
theorem entsAt.mono{w':World}{k':Kp}(h:Le w k w' k'){ents:List (Int×RV)}{es:List MapEntry}(he:entsAt w k ents es):entsAt w' k' ents es:=
 ⟨he.1,λj x e h1 h2=>⟨(he.2 j x e h1 h2).1,RV.mono h _ _ (he.2 j x e h1 h2).2⟩⟩
def stampE(es:Array MapEntry)(c:Nat):Prop:=(∀x∈es.toList,x.born<c)/\(es.toList.map (·.born)).Nodup/\(es.toList.map (·.key)).Nodup
theorem stampE.nil:stampE #[] 0:=⟨λx h=>by simp at h,by simp,by simp⟩
theorem stampE.push{es:Array MapEntry}{c:Nat}{key val:Value}(h:stampE es c)(hk: ∀x∈es.toList,x.key≠key):stampE (es.push {key:=key,val:=val,born:=c}) (c+1):=by
 refine⟨λx hx=>?_,?_,?_⟩
 ·rw[Array.toList_push]at hx
  rcases List.mem_append.1 hx with hx |hx
  ·have:=h.1 x hx;omega
  ·rw[List.mem_singleton.1 hx];exact Nat.lt_succ_self _
 ·rw[Array.toList_push,List.map_append,List.nodup_append]
  refine⟨h.2.1,by simp,λx hx y hy e=>?_⟩
  obtain⟨z,hz,rfl⟩:=List.mem_map.1 hx
  have:=h.1 z hz
  simp at hy
  omega
 ·rw[Array.toList_push,List.map_append,List.nodup_append]
  refine⟨h.2.2,by simp,λx hx y hy e=>?_⟩
  obtain⟨z,hz,rfl⟩:=List.mem_map.1 hx
  simp at hy
  exact hk z hz (e.trans hy)
def mapS(ents:List (Int×RV)):Stable where
 at_ w k v:=(v= .map none/\ents=[])\/∃b es c,v= .map (some b)/\b<w.heap.size/\0<k b/\w.heap[b]?=some (.map es c)/\entsAt w k ents es.toList/\stampE es c
 mono:=by
  rintro w k w' k' v h (h1 |⟨b,es,c,e,hb,hk,hh,he,hst⟩)
  ·exact .inl h1
  ·exact .inr ⟨b,es,c,e,Nat.lt_of_lt_of_le hb h.size,Nat.lt_of_lt_of_le hk (h.keep b hb),h.map b hb hk es c hh,he.mono h,hst⟩
 one:=by
  rintro w k v (⟨rfl,_⟩ |⟨b,es,c,rfl,_⟩)<;>rfl
def mapO(ents:List (Int×RV)):GOw where
 at_ w k vb:=∃b es c,vb=(.map (some b),some b)/\w.heap[b]?=some (.map es c)/\k b=0/\entsAt w k ents es.toList/\stampE es c
 mono:=by
  rintro w k w' k' vb h hb ⟨b,es,c,rfl,hh,hk,he,hst⟩
  have:=hb b rfl
  exact⟨b,es,c,rfl,this.1.trans hh,this.2.trans hk,he.mono h,hst⟩
 one:=by rintro w k vb ⟨b,es,c,rfl,_⟩;rfl
def zb5:List (Int×RV)->Int->Option RV
 |[],_=>none
 |(m,r)::l,n=>if m=n then some r else zb5 l n
theorem ztv: ∀{ents:List (Int×RV)} {es:List MapEntry} {n:Int},entsAt w k ents es->zb5 ents n=none->∀x∈es,x.key≠ .int .i64 n
 |[],[],n,_,_,x,hx=>by cases hx
 |[],e::es,n,h,_,x,hx=>by have:=h.1;simp at this
 |x::ents,[],n,h,_,y,hy=>by cases hy
 |(m,r)::ents,e::es,n,h,hm,x,hx=>by
  obtain⟨h1,h2⟩:=h.2 0 (m,r) e (by simp) (by simp)
  simp only[zb5]at hm
  split at hm
  ·cases hm
  ·rename_i hne
   rcases List.mem_cons.1 hx with rfl |hx
   ·rw[h1]
    intro e'
    simp at e'
    exact hne e'
   ·exact ztv ⟨by have:=h.1;simpa using this,λj x e h1 h2=>h.2 (j+1) x e (by simpa using h1) (by simpa using h2)⟩ hm x hx
theorem zjf{kd:IntKind}{n:Int}: ∀{ents:List (Int×RV)} {es:List MapEntry} (i:Nat),entsAt w k ents es->
  ∃res,Instr.findNow (.int kd) (.int .i64 n) es i=some res/\match zb5 ents n with
   |some r=>∃j v,res=some (j,v)/\r.at_ w k v
   |none=>res=none
 |[],[],i,_=>⟨none,rfl,rfl⟩
 |[],e::es,i,h=>by have:=h.1;simp at this
 |x::ents,[],i,h=>by have:=h.1;simp at this
 |(m,r)::ents,e::es,i,h=>by
  obtain⟨h1,h2⟩:=h.2 0 (m,r) e (by simp) (by simp)
  simp only[Instr.findNow,h1,Instr.sameNow,if_true,zb5]
  by_cases hm:m=n
  ·rw[if_pos hm]
   subst hm
   exact⟨some (i,e.val),by simp,i,e.val,rfl,h2⟩
  ·rw[if_neg hm]
   have:(n==m)=false:=by simp;omega
   rw[this]
   simp only
   exact zjf (i+1) ⟨by have:=h.1;simpa using this,λj x e h1 h2=>h.2 (j+1) x e (by simpa using h1) (by simpa using h2)⟩
theorem zhj{kt:TypeId}{n:Int}{ents:List (Int×RV)}{es:List MapEntry}(hk:P.underlying kt=some (.int .i64))(he:entsAt w k ents es):
  ∃res,(Instr.findKey kt (.int .i64 n) es).run P w= .ok res w/\match zb5 ents n with
   |some r=>∃j v,res=some (j,v)/\r.at_ w k v
   |none=>res=none:=by
 obtain⟨res,h1,h2⟩:=zjf (kd:= .i64) (n:=n) 0 he
 exact⟨res,by simp[Instr.findKey,run_underlying hk w,h1],h2⟩
theorem zp3{kt:TypeId}{n:Int}{b:Bool}{m:Nat}(hk:P.underlying kt=some (.int .i64)):(Instr.checkKey b (m+1) kt (.int .i64 n)).run P w= .ok () w:=by
 simp[Instr.checkKey,run_underlying hk w]
theorem ze7{kt:TypeId}{n:Int}{b:Bool}(hk:P.underlying kt=some (.int .i64)):(Instr.checkKey b 10000 kt (.int .i64 n)).run P w= .ok () w:=zp3 (m:=9999) hk
theorem zgd{t kt et:TypeId}{v:Value}{n:Int}{ok:Bool}{ents:List (Int×RV)}{z:Value}{zr:RV}(hu:P.underlying t=some (.map kt et))(hk:P.underlying kt=some (.int .i64))(hz:(P.info? et).bind (·.zero)=some z)(hzr:zr.at_ w k z)
  (hv:(mapS ents).at_ w k v): ∃u b,(Instr.lookup t v (.int .i64 n) ok).run P w= .ok (if ok then .tuple #[u, .bool b]else u) w/\match zb5 ents n with
   |some r=>r.at_ w k u/\b=true
   |none=>zr.at_ w k u/\b=false:=by
 obtain⟨i,hi,hz⟩:=Option.bind_eq_some_iff.1 hz
 have zv:(zeroValue et).run P w= .ok z w:=by simp[zeroValue,typeInfo,hi,hz]
 rcases hv with⟨rfl,rfl⟩ |⟨b,es,c,rfl,_,_,hh,he,_⟩
 ·refine⟨z,false,?_,hzr,rfl⟩
  obtain⟨res,h1,h2⟩:=zhj (n:=n) (k:=k) hk (show entsAt w k [] []from⟨rfl,λj x e h=>by simp at h⟩)
  simp only[zb5]at h2
  subst h2
  simp[Instr.lookup,run_underlying hu w,ze7 hk,h1,zv]
 ·obtain⟨res,h1,h2⟩:=zhj (n:=n) hk he
  cases hm:zb5 ents n with
  |none=>
   rw[hm]at h2
   simp only at h2
   subst h2
   exact⟨z,false,by simp[Instr.lookup,run_underlying hu w,ze7 hk,h1,zv,hh,getObj,Sem.run],hzr,rfl⟩
  |some r=>
   rw[hm]at h2
   obtain⟨j,u,rfl,hr⟩:=h2
   exact⟨u,true,by simp[Instr.lookup,run_underlying hu w,ze7 hk,h1,hh,getObj,Sem.run],hr,rfl⟩
theorem Vstep.look2{t kt et:TypeId}{x y:Operand}{n:Int}{ents:List (Int×RV)}{z:Value}{K:St->Prop}(zr:RV)(hop:o.op= .lookup t x y true)(hx:opr S x=some (.r (.s (mapS ents))))(hy:opr S y=some (.r (.i .i64 n)))
  (hu:P.underlying t=some (.map kt et)) (hk:P.underlying kt=some (.int .i64)) (hz:(P.info? et).bind (·.zero)=some z) (hzr: ∀w k,zr.at_ w k z)
  (h1: ∀r,zb5 ents n=some r->newK S o.dst (.r (.tu [r, .b true])) none K) (h0:zb5 ents n=none->newK S o.dst (.r (.tu [zr, .b false])) none K):Vstep P S o K:=by
 simp only[zar]at h1 h0
 cases hm:zb5 ents n with
 |some r=>
  refine Vstep.one (λB N a w k Q ⟨g,hs⟩ hd=>?_) (h1 r hm)
  have hv:=(zaf hs hx).2
  have hn:=(zaf hs hy).2
  simp only[TF.at_,RV.at_]at hv hn
  obtain⟨u,b,hr,h2⟩:=zgd (n:=n) (ok:=true) hu hk hz (hzr w k) hv
  rw[hm]at h2
  refine zap (v:= .tuple #[u, .bool b]) (w':=w) (by simp[execOp,hop,hn,hr]) ⟨k,g,hs.put hd trivial ?_⟩
  simp only[TF.at_,RV.at_]
  exact⟨_,rfl,by simp only[RV.partsAt];exact⟨_,_,rfl,h2.1,_,_,rfl,by simp[RV.at_,h2.2],rfl⟩⟩
 |none=>
  refine Vstep.one (λB N a w k Q ⟨g,hs⟩ hd=>?_) (h0 hm)
  have hv:=(zaf hs hx).2
  have hn:=(zaf hs hy).2
  simp only[TF.at_,RV.at_]at hv hn
  obtain⟨u,b,hr,h2⟩:=zgd (n:=n) (ok:=true) hu hk hz (hzr w k) hv
  rw[hm]at h2
  refine zap (v:= .tuple #[u, .bool b]) (w':=w) (by simp[execOp,hop,hn,hr]) ⟨k,g,hs.put hd trivial ?_⟩
  simp only[TF.at_,RV.at_]
  exact⟨_,rfl,by simp only[RV.partsAt];exact⟨_,_,rfl,h2.1,_,_,rfl,by simp[RV.at_,h2.2],rfl⟩⟩
theorem Vstep.look1{t kt et:TypeId}{x y:Operand}{n:Int}{ents:List (Int×RV)}{z:Value}{K:St->Prop}(zr:RV)(hop:o.op= .lookup t x y false)(hx:opr S x=some (.r (.s (mapS ents))))(hy:opr S y=some (.r (.i .i64 n)))
  (hu:P.underlying t=some (.map kt et)) (hk:P.underlying kt=some (.int .i64)) (hz:(P.info? et).bind (·.zero)=some z) (hzr: ∀w k,zr.at_ w k z)
  (h1: ∀r,zb5 ents n=some r->newK S o.dst (.r r) none K) (h0:zb5 ents n=none->newK S o.dst (.r zr) none K):Vstep P S o K:=by
 simp only[zar]at h1 h0
 cases hm:zb5 ents n with
 |some r=>
  refine Vstep.one (λB N a w k Q ⟨g,hs⟩ hd=>?_) (h1 r hm)
  have hv:=(zaf hs hx).2
  have hn:=(zaf hs hy).2
  simp only[TF.at_,RV.at_]at hv hn
  obtain⟨u,b,hr,h2⟩:=zgd (n:=n) (ok:=false) hu hk hz (hzr w k) hv
  rw[hm]at h2
  exact zap (v:=u) (w':=w) (by simp[execOp,hop,hn,hr]) ⟨k,g,hs.put hd trivial h2.1⟩
 |none=>
  refine Vstep.one (λB N a w k Q ⟨g,hs⟩ hd=>?_) (h0 hm)
  have hv:=(zaf hs hx).2
  have hn:=(zaf hs hy).2
  simp only[TF.at_,RV.at_]at hv hn
  obtain⟨u,b,hr,h2⟩:=zgd (n:=n) (ok:=false) hu hk hz (hzr w k) hv
  rw[hm]at h2
  exact zap (v:=u) (w':=w) (by simp[execOp,hop,hn,hr]) ⟨k,g,hs.put hd trivial h2.1⟩
end
end
section
section
variable {P:Program} {T:TT} {B:Bs} {N:Nat} {S:St} {a:Act} {w:World} {k:Kp} {g:Env} {o:Oper} {Q:Exit->Act->World->Prop}
theorem zmd{m n:Nat}(h:m≠n):Nat.beq m n=false:=by
 cases hb:Nat.beq m n
 ·rfl
 ·exact absurd (Nat.eq_of_beq_eq_true hb) h
end
end
end Go.Proofs.YtebhngeddnnpkaaGreat.Sx
