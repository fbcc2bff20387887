import Derived.Test.YtddokcpcpoihmaaGreatZVb
import Derived.Below
import Derived.ChangeOld
import Derived.OpenShut
import Derived.RangeFuncNested
import Derived.RangeFuncBound
import Derived.RangeFuncCalls
import Derived.RangeFuncLeaves
import Derived.Shelf.Abstract
import Derived.Shelf.RegionOpen
import Derived.WalkKit
import Derived.OwnWalkIn
import Derived.TacticsInMore
import Derived.LoopNIn
import Derived.LoopIn
import Derived.StillTactics
import Derived.Test.YtddokcpcpoihmaaGreatProg
import Derived.Laws.Externs
namespace Go.Proofs.YtddokcpcpoihmaaGreat.Sx
open Go.RowKit
section
open Go.ChangeShapes Go.WideShapes Go.ChangeAt Go.RowKit
theorem zaj{g:Nat->Bool}{a b c:Nat}(h:(List.range' a b).all g=true)(k:(List.range' (a+b) c).all g=true):(List.range' a (b+c)).all g=true:=by
 rw[<-List.range'_append_1,List.all_append,h,k];rfl
theorem zea{α:Type}{g:Nat->α}{a b c:Nat}{l m:List α}(h:(List.range' a b).map g=l)(k:(List.range' (a+b) c).map g=m):(List.range' a (b+c)).map g=l++m:=by
 rw[<-List.range'_append_1,List.map_append,h,k]
theorem zee{g:Nat->Bool}{n:Nat}(h:(List.range' 0 n).all g=true):(List.range n).all g=true:=by rw[List.range_eq_range'];exact h
theorem zl8{α β:Type}(l:List α)(d:β)(h:α->β):l.map h=(List.range l.length).map λi=>(l[i]?).elim d h:=by
 apply List.ext_getElem
 ·simp
 ·intro i h1 h2
  simp at h1
  simp[List.getElem?_eq_getElem h1]
theorem zhb{α:Type}(l:List α)(h:α->Bool):l.all h=(List.range l.length).all λi=>(l[i]?).elim true h:=by
 have e:=zl8 l true h
 have: ∀m:List Bool,∀l:List α,l.map h=m->l.all h=m.all id:=λm l hm=>by rw[<-hm,List.all_map];rfl
 rw[this _ _ e,List.all_map];rfl
noncomputable def leadAt (i:Nat):List Nat:=(Tryz.prog.funcs[i]?).elim [] Tryz.prog.leadsTo
def z0z:List (List Nat):=[[],[],[1],[7,8,9,10,11,12],[7,13,14,15,16,17,15,15,18],[7,19,20,16,16,21,22,17,24,23,25,18,18,18,26],[7,27,19,28,26,29,26,29],[30,10,31],[13],[27,13],[32,33,34,35,36,37,38],[39,40,41,42,42,43,44,45],[31,46,15],[],[48,47,17],[18,18,18,18,18],[21,49,50],[51,52,53,23],[],[48,47,48,47,48,22,17,54,23],[55],[56],[57,59,58,60],[62,61],[65,65,64,66,67,63],[18,15,18],[54,68,69,70],[13],[71,24,23],[72,18,68,24,70],[73,74],[75],[76,77,78,78,79],[80],[81,26,69,69,69,68],[82],[83,84],[85,86,87,82],[],[88,89,90,90,90,91],[92,91],[40,93,29,68,18,18,18,40],[94],[92],[88,94,95],[92,18,18],[],[97,96,50],[98],[100,100,101,99],[103,104,102],[105],[],[106,108,107],[110,111,109],[15],[113,114,114,115],[103,103,117,116,118,119],[120,121,122,122,123,124,125,124],[126],[120,117,116,104,116,127],[22,126,129,128,57,58,60,129,128,132,131,133,130],[108,108],[64,64]]
theorem z40:(List.range' 0 64).map leadAt=z0z:=by kernel_rfl
def z00:List (List Nat):=[[],[113],[114],[135,114,134],[53,52,70],[],[62,136],[],[137],[138,140,139,141,87,141],[92,142,73,86,140,139,85,143,144],[15,18,18,46],[145],[146],[147,148],[76,149,150,151],[32,152],[153,154,109],[51,105,105,156],[157],[],[32,158,159,160,161],[32,159,152,160,76,78,76,162],[32,158,76,35,161,150,151,163],[],[75,75,164,75,165,75],[166,166],[],[],[20,55,72,137],[90],[],[107,168,167],[168,169],[107,108,108,167],[113,170,170,170,170,115],[],[170,170,170,171],[173,174,172],[],[175],[],[108,108],[176,177],[178],[],[179],[112],[180,180,181,182],[],[183],[171],[184,185,186],[188,187],[189,103,190,122,116,103,123,117,116,191],[103,116],[121],[103,119],[103,192,103,117,116],[186],[190,190,116,123,123,116,116,116,123,116,190,190,123,123,116,116,116,116],[],[129,128],[175]]
theorem z41:(List.range' 64 64).map leadAt=z00:=by kernel_rfl
def z01:List (List Nat):=[[193,194],[130,195],[196],[197,198],[199,185,185,194],[],[],[114,114,134,114,134,134,114,134],[200,201,200,129,128,57,58,58,203,202],[164],[71],[138,47,22,17],[],[],[92],[138,204,140,205,92,207,206,18,207,208],[],[209],[210,106,108,211],[212],[],[213,213,214],[215,215],[216,217,217],[],[110,218,219,179,219,218,220],[155],[112,181,182,180],[],[],[221],[76],[35,76,150],[82],[],[222,223],[],[],[224],[225],[],[225],[],[226,226,226],[103,103,227,227,117,116,104],[],[228],[186,186],[],[],[229,176,107],[221],[107],[108],[221],[],[199,185,185],[],[],[103,189,116],[230],[116],[186],[188,187,189,231,103,188,187,116,189,231,127,192]]
theorem z42:(List.range' 128 64).map leadAt=z01:=by kernel_rfl
def z02:List (List Nat):=[[190],[],[197,198],[232,233,235,234,236],[],[185],[238,237],[],[174,105,104,69,118,239,192,119],[193,238,237],[120,120,116,116,231,116,116,231],[120,120,122,122,123,124],[207,140,240,241],[242,243,244,245,246,69,35,247],[248,249,245,250,251,252,253,105,254],[256,255,257],[75,18],[258,259],[260,261,52,261,260,262],[107,108,108,108],[],[],[213],[263,214],[264,264],[],[265],[218],[],[52,106,108],[],[266],[267],[269,130,130,268,269,268],[270,271],[123,190,123,190,116,116,189,189,190,116,103,116,123,116,123,189,190,189,116],[],[],[272,273],[175,175],[],[],[274],[176],[275,276,276,276,276,276,276],[277],[],[231],[278,243,279,280,105,246,252,48,47,17,254,247,82],[278,243,82,105,245,252,107,107,98,282,281],[283,284],[285,150,249,286],[68,69,69],[156,288,287],[108,108,108,268],[82,291,290,82,82,149,105],[278,292,150,293,252],[294,295],[253,296],[280,69,297],[294,82],[299,298],[300,301],[303,304,305,306,307,308,308,309,309]]
theorem z43:(List.range' 192 64).map leadAt=z02:=by kernel_rfl
def z03:List (List Nat):=[[],[310,226],[],[],[],[],[],[145],[],[311,69,69,69,69,69,69,69],[312,312,312],[],[130,313],[268],[],[314,314,315,314,314,315,314,314,314,314,314,314],[316,199],[],[],[276,276,276,276],[317],[],[294],[48,297],[48,47],[319,318],[],[320,321,323,322],[325,324,82,326,324,105],[150,327],[294,328],[329],[289],[252,331,330],[],[],[263,263,150,332,329],[],[333,334],[335,295,336,295],[319,337],[48],[],[],[339,338],[302],[264,264],[224],[224,340],[],[305,307,306,306,303,90,308,305],[166],[],[],[341,113,342,343,342,341,307,343,342,257,114,257,114,342,342],[],[],[344,176,345,346],[],[],[],[],[347,348,349],[168,108,108]]
theorem z44:(List.range' 256 64).map leadAt=z03:=by kernel_rfl
def z04:List (List Nat):=[[32,350],[32,159,82],[351,353,354],[],[355,356],[357],[358],[215,336,335],[105,359,335,328,336,328,360,268],[],[361],[265],[149],[],[145,362,363,322,325,324,311,326,324,311],[364],[364],[365,348,366],[367,368,369,370,371,372,373,374,338,338],[375,376],[377,307],[],[],[67,134,113,134,114,134,114,114,134,134],[],[],[378,379,380,380,380,380,380,380],[47,381,382],[97,97,130,97,96,96],[383,384,385],[359,335,350,336,350,360,268],[149,352],[387,386],[335,336],[145],[388],[339,389],[],[],[146,107],[146,108,108],[],[146,390,386],[],[214],[381,50,382],[383,385,384],[],[391,391],[392,393],[394,394,394,395],[],[],[],[],[],[],[224],[380,380,380,380],[],[396],[102,397,398],[97,130,96],[]]
theorem z45:(List.range' 320 64).map leadAt=z04:=by kernel_rfl
def z05:List (List Nat):=[[176,234,399],[400,401,234,401,402,403,402,403,399,401,402,404],[329],[149],[],[405,406,407,408,409,410,216,411,412,389,389],[149],[],[339],[],[395],[413,413,413],[],[414],[],[176,400],[415,416,417],[],[],[402],[],[216],[418,418],[392,393],[419,419,419,420],[],[216,216,216],[216,216],[216,216,216,216],[],[],[421,421,422],[421],[421],[216,216],[420],[423,423,423],[],[],[216],[],[],[],[],[],[],[],[],[],[],[],[],[],[],[],[],[],[]]
theorem z46:(List.range' 384 58).map leadAt=z05:=by kernel_rfl
def leadL:List (List Nat):=(z0z++(z00++(z01++(z02++(z03++(z04++z05))))))
theorem zqm:(List.range' 0 442).map leadAt=leadL:=zea (b:=64) (c:=378) z40 (zea (b:=64) (c:=314) z41 (zea (b:=64) (c:=250) z42 (zea (b:=64) (c:=186) z43 (zea (b:=64) (c:=122) z44 (zea (b:=64) (c:=58) z45 (z46))))))
theorem z31:(List.range' 0 64).all (rowFine Tryz.prog)=true:=by kernel_rfl
theorem z32:(List.range' 64 64).all (rowFine Tryz.prog)=true:=by kernel_rfl
theorem z33:(List.range' 128 64).all (rowFine Tryz.prog)=true:=by kernel_rfl
theorem z34:(List.range' 192 64).all (rowFine Tryz.prog)=true:=by kernel_rfl
theorem z35:(List.range' 256 64).all (rowFine Tryz.prog)=true:=by kernel_rfl
theorem z36:(List.range' 320 64).all (rowFine Tryz.prog)=true:=by kernel_rfl
theorem z37:(List.range' 384 64).all (rowFine Tryz.prog)=true:=by kernel_rfl
theorem z38:(List.range' 448 8).all (rowFine Tryz.prog)=true:=by kernel_rfl
theorem zyn:(List.range' 0 456).all (rowFine Tryz.prog)=true:=zaj (b:=64) (c:=392) z31 (zaj (b:=64) (c:=328) z32 (zaj (b:=64) (c:=264) z33 (zaj (b:=64) (c:=200) z34 (zaj (b:=64) (c:=136) z35 (zaj (b:=64) (c:=72) z36 (zaj (b:=64) (c:=8) z37 (z38)))))))
noncomputable def mapFine (t:Nat):Bool:=match Tryz.prog.underlying t with |some (.map _ e)=>decide (e<Tryz.prog.types.size) |_=>true
theorem z47:(List.range' 0 64).all mapFine=true:=by kernel_rfl
theorem z48:(List.range' 64 64).all mapFine=true:=by kernel_rfl
theorem z49:(List.range' 128 64).all mapFine=true:=by kernel_rfl
theorem z5a:(List.range' 192 64).all mapFine=true:=by kernel_rfl
theorem z5b:(List.range' 256 64).all mapFine=true:=by kernel_rfl
theorem z5c:(List.range' 320 64).all mapFine=true:=by kernel_rfl
theorem z5d:(List.range' 384 64).all mapFine=true:=by kernel_rfl
theorem z5e:(List.range' 448 8).all mapFine=true:=by kernel_rfl
theorem zzp:(List.range' 0 456).all mapFine=true:=zaj (b:=64) (c:=392) z47 (zaj (b:=64) (c:=328) z48 (zaj (b:=64) (c:=264) z49 (zaj (b:=64) (c:=200) z5a (zaj (b:=64) (c:=136) z5b (zaj (b:=64) (c:=72) z5c (zaj (b:=64) (c:=8) z5d (z5e)))))))
noncomputable def keyFine (t:Nat):Bool:=match Tryz.prog.underlying t with |some (.map k _)=>(match Tryz.prog.underlying k with |some (.array _ _) |some (.struct _)=>false |_=>true) |_=>true
theorem z4s:(List.range' 0 64).all keyFine=true:=by kernel_rfl
theorem z4t:(List.range' 64 64).all keyFine=true:=by kernel_rfl
theorem z4u:(List.range' 128 64).all keyFine=true:=by kernel_rfl
theorem z4v:(List.range' 192 64).all keyFine=true:=by kernel_rfl
theorem z4w:(List.range' 256 64).all keyFine=true:=by kernel_rfl
theorem z4x:(List.range' 320 64).all keyFine=true:=by kernel_rfl
theorem z4y:(List.range' 384 64).all keyFine=true:=by kernel_rfl
theorem z4z:(List.range' 448 8).all keyFine=true:=by kernel_rfl
theorem zzm:(List.range' 0 456).all keyFine=true:=zaj (b:=64) (c:=392) z4s (zaj (b:=64) (c:=328) z4t (zaj (b:=64) (c:=264) z4u (zaj (b:=64) (c:=200) z4v (zaj (b:=64) (c:=136) z4w (zaj (b:=64) (c:=72) z4x (zaj (b:=64) (c:=8) z4y (z4z)))))))
noncomputable def parFine (i:Nat):Bool:=(Tryz.prog.funcs.toList[i]?).elim true λf=>f.params.all λt=>decide (t<Tryz.prog.types.size)
theorem z5i:(List.range' 0 64).all parFine=true:=by kernel_rfl
theorem z5j:(List.range' 64 64).all parFine=true:=by kernel_rfl
theorem z5k:(List.range' 128 64).all parFine=true:=by kernel_rfl
theorem z5l:(List.range' 192 64).all parFine=true:=by kernel_rfl
theorem z5m:(List.range' 256 64).all parFine=true:=by kernel_rfl
theorem z5n:(List.range' 320 64).all parFine=true:=by kernel_rfl
theorem z5o:(List.range' 384 58).all parFine=true:=by kernel_rfl
theorem zzz:(List.range' 0 442).all parFine=true:=zaj (b:=64) (c:=378) z5i (zaj (b:=64) (c:=314) z5j (zaj (b:=64) (c:=250) z5k (zaj (b:=64) (c:=186) z5l (zaj (b:=64) (c:=122) z5m (zaj (b:=64) (c:=58) z5n (z5o))))))
noncomputable def stopFine (i:Nat):Bool:=(Tryz.prog.funcs.toList[i]?).elim true λfn=>(Stop.rowOf fn).isNone|| !fn.norace
theorem z27:(List.range' 0 64).all stopFine=true:=by kernel_rfl
theorem z28:(List.range' 64 64).all stopFine=true:=by kernel_rfl
theorem z29:(List.range' 128 64).all stopFine=true:=by kernel_rfl
theorem z3a:(List.range' 192 64).all stopFine=true:=by kernel_rfl
theorem z3b:(List.range' 256 64).all stopFine=true:=by kernel_rfl
theorem z3c:(List.range' 320 64).all stopFine=true:=by kernel_rfl
theorem z3d:(List.range' 384 58).all stopFine=true:=by kernel_rfl
theorem zxt:(List.range' 0 442).all stopFine=true:=zaj (b:=64) (c:=378) z27 (zaj (b:=64) (c:=314) z28 (zaj (b:=64) (c:=250) z29 (zaj (b:=64) (c:=186) z3a (zaj (b:=64) (c:=122) z3b (zaj (b:=64) (c:=58) z3c (z3d))))))
theorem ze6:Tryz.prog.funcs.size=442:=by kernel_rfl
theorem zgv:Tryz.prog.types.size=456:=by kernel_rfl
theorem zl5:laidOutB Tryz.prog=true:=by
 have h1:(List.range Tryz.prog.types.size).all (rowFine Tryz.prog)=true:=by rw[zgv];exact zee zyn
 have h2:Tryz.prog.globals.all (λg=>decide (g.type<Tryz.prog.types.size))=true:=by kernel_rfl
 have h3:Tryz.prog.funcs.all (λf=>f.params.all λt=>decide (t<Tryz.prog.types.size))=true:=by
  rw[<-Array.all_toList,zhb,Array.length_toList,ze6];exact zee zzz
 unfold laidOutB
 rw[h1,h2,h3];rfl
def zqr(P:Program)(t:Nat):Bool:=match P.underlying t with |some (.map _ e)=>decide (e<P.types.size) |_=>true
def zqj(P:Program)(t:Nat):Bool:=match P.underlying t with |some (.map k _)=>(match P.underlying k with |some (.array _ _) |some (.struct _)=>false |_=>true) |_=>true
theorem z2s{P:Program}{n:Nat}(hn:P.types.size=n)(h:(List.range n).all (zqr P)=true):mapsRowed P=true:=by subst hn;exact h
theorem z2q{P:Program}{n:Nat}(hn:P.types.size=n)(h:(List.range n).all (zqj P)=true):P.plainKeys=true:=by subst hn;exact h
theorem zuo:mapFine=zqr Tryz.prog:=by kernel_rfl
theorem zum:keyFine=zqj Tryz.prog:=by kernel_rfl
theorem zup:mapsRowed Tryz.prog=true:=z2s zgv (by rw[<-zuo];exact zee zzp)
theorem zun:Tryz.prog.plainKeys=true:=z2q zgv (by rw[<-zum];exact zee zzm)
theorem zsf:Tryz.prog.stopsHeard=true:=by
 unfold Program.stopsHeard
 rw[<-Array.all_toList,zhb,Array.length_toList,ze6];exact zee zxt
def zlo(L:List (List Nat)):Nat->List Nat->List Nat->List Nat
 |0,_,seen=>seen.reverse
 |_+1,[],seen=>seen.reverse
 |n+1,f::todo,seen=>if seen.contains f then zlo L n todo seen else zlo L n ((L[f]?).getD []++todo) (f::seen)
theorem zmz{P:Program}{L:List (List Nat)}(h: ∀f:Nat,(P.funcs[f]?).elim [] P.leadsTo=(L[f]?).getD []): ∀(n:Nat) (todo seen:List Nat),P.closureVia n todo seen=zlo L n todo seen
 |0,todo,seen=>by cases todo<;>rfl
 |n+1,[],seen=>rfl
 |n+1,f::todo,seen=>by
  unfold Program.closureVia zlo
  rw[h f,zmz h n,zmz h n]
theorem zzo(f:Nat):(Tryz.prog.funcs[f]?).elim [] Tryz.prog.leadsTo=(leadL[f]?).getD []:=by
 rw[<-zqm]
 by_cases h:f<442
 ·rw[List.getElem?_map,List.getElem?_range' h,Nat.zero_add,Nat.one_mul,Option.map_some,Option.getD_some,leadAt]
 ·rw[Array.getElem?_eq_none (by rw[ze6];exact Nat.le_of_not_lt h),List.getElem?_eq_none (by rw[List.length_map,List.length_range'];exact Nat.le_of_not_lt h)];rfl
theorem zw5:(Tryz.prog.funcs.toList.map λg=>(Tryz.prog.leadsTo g).length+1)=leadL.map λl=>l.length+1:=by
 rw[zl8 _ 1,Array.length_toList,ze6,<-zqm,List.map_map,List.range_eq_range']
 refine List.map_congr_left λi _=>?_
 rw[Array.getElem?_toList]
 show _=(leadAt i).length+1
 unfold leadAt
 cases Tryz.prog.funcs[i]?<;>rfl
theorem zvm(f:Nat):Tryz.prog.closure f=zlo leadL (1+(leadL.map λl=>l.length+1).sum) [f] []:=by
 unfold Program.closure
 rw[zw5,zmz zzo]
theorem andI{a b:Bool}(h:a=true)(k:b=true):(a&&b)=true:=by rw[h,k];rfl
end
section
open Go.ChangeShapes Go.WideShapes Go.ChangeAt Go.RowKit
theorem zzx:ownKnob Tryz.prog.godebug=none:=by kernel_rfl
theorem zkx:laidOutB Tryz.prog=true:=zl5
end
section
open Go.ChangeShapes Go.WideShapes Go.ChangeAt Go.RowKit
set_option maxRecDepth 100000 in
theorem zpn{H:Type}{enc:TypeId×Value->H}{W:World}{base:Nat}{v:Value}{d:DataW H}{p:List MemPlace}(hval:Value.okWide Tryz.prog W .any base 25 v)
  (h:DataW.Trod enc Tryz.prog W 0 (λ_=>true) true 25 v d p):
  ∃l:List UInt8,(bs l).at_ W (allK W) v:=by
 obtain⟨a,n,c,rfl⟩:=okWide_slice Tryz.underlying25 hval
 obtain⟨fuel,hf⟩:=h
 obtain⟨l,_,h2⟩:=Rd.bytes (r:=⟨H,enc,W,0,λ_=>true,true⟩) Tryz.underlying25 Tryz.underlying5 (by kernel_rfl) fuel [.slice a n c] (d,p) hf
 refine⟨l,?_⟩
 simp only[RV.listAt]at h2
 obtain⟨u,r,e,_,hat,rfl⟩:=h2
 simp only[List.cons.injEq,and_true]at e
 rw[e]
 exact hat
end
section
structure PackP where
 init:List UInt8
 leaf:Leaf
 sig:List UInt8
 deriving DecidableEq
abbrev PackP.c(p:PackP):List RV:=[bs p.init,bs p.leaf.box,bs p.leaf.sign,bs p.leaf.ident,U8 p.leaf.src,bs p.leaf.parent,bs p.leaf.sig,bs p.sig]
end
section
open Go.ChangeShapes Go.WideShapes Go.ChangeAt Go.RowKit
theorem z6f{α:Type}{l:List α}(h:l.length=8): ∃a0 a1 a2 a3 a4 a5 a6 a7,l=[a0,a1,a2,a3,a4,a5,a6,a7]:=by
 match l,h with
 |[a0,a1,a2,a3,a4,a5,a6,a7],_=>exact⟨_,_,_,_,_,_,_,_,rfl⟩
section
variable {r:Rd Tryz.prog}
theorem Rd.pack:r.Reads PackP.c (λ_=>True) 33:=λfuel cs x hx=>by
 obtain⟨hl,xs,n,_,hxl,hf⟩:=Rd.struct (C:=8) Tryz.underlying33 (by kernel_rfl) hx
 obtain⟨a0,a1,a2,a3,a4,a5,a6,a7,rfl⟩:=z6f hl
 obtain⟨y0,y1,y2,rfl⟩:=z6e hxl
 have h0:r.trod n 25 [a0]=some y0:=hf 0 _ rfl 1 (by kernel_rfl)
 have h1:r.trod n 31 [a1,a2,a3,a4,a5,a6]=some y1:=hf 1 _ rfl 6 (by kernel_rfl)
 have h2:r.trod n 25 [a7]=some y2:=hf 2 _ rfl 1 (by kernel_rfl)
 obtain⟨s0,k0,g0⟩:=(Rd.bytes Tryz.underlying25 Tryz.underlying5 (by kernel_rfl)) _ _ _ h0
 obtain⟨s1,k1,g1⟩:=Rd.leaf _ _ _ h1
 obtain⟨s2,k2,g2⟩:=(Rd.bytes Tryz.underlying25 Tryz.underlying5 (by kernel_rfl)) _ _ _ h2
 exact⟨⟨s0,s1,s2⟩,trivial,zcg g0 (zcg g1 g2)⟩
end
end
section
open Go.ChangeShapes Go.WideShapes Go.ChangeAt Go.RowKit
theorem zx0{n:Int}(w:(Lit.int .u8 n).wf=true): ∃a:UInt8,(a.toNat:Int)=n:=by
 simp only[Lit.wf,Bool.and_eq_true,decide_eq_true_eq]at w
 have h1:(0:Int)<=n:=w.1
 have h2:n<=255:=w.2
 refine⟨UInt8.ofNat n.toNat,?_⟩
 rw[UInt8.toNat_ofNat']
 omega
set_option maxRecDepth 100000 in
theorem z2z{H:Type}{enc:TypeId×Value->H}{W:World}{base:Nat}{v:Value}{d:DataW H}{p:List MemPlace}(hval:Value.okWide Tryz.prog W .any base 33 v)
  (h:DataW.Trod enc Tryz.prog W 0 (λ_=>true) true 33 v d p):
  ∃s:PackP,(RV.ag s.c).at_ W (allK W) v:=by
 obtain⟨us,rfl,_⟩:=okWide_struct Tryz.underlying33 hval
 obtain⟨fuel,hf⟩:=h
 obtain⟨s,_,hl⟩:=Rd.pack (r:=⟨H,enc,W,0,λ_=>true,true⟩) fuel us.toList (d,p) hf
 exact⟨s,by simp only[RV.at_];exact⟨us,rfl,hl⟩⟩
end
end Go.Proofs.YtddokcpcpoihmaaGreat.Sx

namespace Go.Proofs.YtddokcpcpoihmaaGreat
set_option linter.unusedVariables false
section
open Go.RowKit Go.Shelf
attribute [local go_sem] Oper.semAt_some
theorem z5g:Tryz.prog.follows .mixedOrders=true:=by kernel_rfl
def upto{α:Type}(f:Nat->α)(k:Nat):List α:=(List.range k).map f
theorem zx1{α:Type}(f:Nat->α)(k:Nat):upto f (k+1)=upto f k++[f k]:=by simp[upto,List.range_succ]
theorem zkj{α:Type}(f:Nat->α)(k:Nat):(upto f k).length=k:=by simp[upto]
def zeg(b off m:Nat)(j:Nat):Value:= .slice (some ⟨b,off+m*j,none⟩) m m
set_option maxRecDepth 100000 in
set_option maxHeartbeats 4000000 in
theorem zvl(n:Nat)(hn:1<=n)(l Bs Bn oS oN b off m K L cap:Nat)(hm:0<m)(hL:m*K=L)(hlen:L<=cap)(hbig:L<=1000000000000)(Kp:World->World->Prop)
  (hKp: ∀A B,Kp A B->B.cell? ⟨Bs,oS,none⟩=A.cell? ⟨Bs,oS,none⟩/\B.cell? ⟨Bn,oN,none⟩=A.cell? ⟨Bn,oN,none⟩) (J Jx:List Nat->World->Prop)
  (hJd: ∀pre W,J pre W->J pre W.drew)
  (hY: ∀pre k W,pre.length=k->J pre W->k<K->YieldAt Fence.wide (n-1) Tryz.prog l #[zeg b off m k] W λe W'=>
   (e= .returned (.bool true)/\J (pre++[k]) W'/\Kp W W')\/(e= .returned (.bool false)/\Jx (pre++[k]) W'))
  (W:World) (hBs:W.cell? ⟨Bs,oS,none⟩=some (.slice (some ⟨b,off,none⟩) L cap)) (hBn:W.cell? ⟨Bn,oN,none⟩=some (.int .i64 m)) (h0:J [] W):
  CallsIn Fence.wide n Tryz.prog 274 #[.func (.yield l) #[] #[], .pointer (some ⟨Bs,oS,none⟩), .pointer (some ⟨Bn,oN,none⟩)] W λe W'=>(∃v,e= .returned v)/\
   ((∃ys,ys=upto (λj=>j) K/\J ys W')\/(∃pre:List Nat,pre.length<=K/\Jx pre W')):=by
 refine callsIn_of_wp Tryz.func274 rfl trivial ?_ rfl
 simp only[Tryz.ntmps274,List.size_toArray,List.length_cons,List.length_nil,Nat.reduceAdd,Nat.reduceSub,Array.replicate_succ,Array.replicate_zero,List.push_toArray,List.append_toArray,List.nil_append,List.cons_append]
 gi_wp2
 gi_loopw [4] (λi wr=>∃k ik:Nat,k<=K/\m*k=ik/\i= .int .i64 ik/\J (upto (λj=>j) k) wr/\wr.cell? ⟨Bs,oS,none⟩=some (.slice (some ⟨b,off,none⟩) L cap)/\wr.cell? ⟨Bn,oN,none⟩=some (.int .i64 m))
  (λi _=>L-(intOf i).toNat)
 case atStart=>exact⟨0,0,Nat.zero_le _,rfl,rfl,h0,hBs,hBn⟩
 case round=>
  obtain⟨k,ik,hk,hik,rfl,hJs,hBs',hBn'⟩:=hrel
  by_cases hlt:k<K
  ·have hlt':ik+m<=L:=by
    rw[<-hL,<-hik,<-Nat.mul_succ]
    exact Nat.mul_le_mul_left _ hlt
   have hlti:ik<L:=by omega
   gi_wp2
   refine wpIn_wide.2 ?_
   refine wp_region_still_lit z5g (by kernel_rfl) ?_
   have hi1:(ik:Int)<=(L:Int):=by omega
   have hi2: ¬cap=ik:=by omega
   have hi3: ¬((L-ik:Nat):Int)< (m:Int):=by omega
   have hi4:(IntKind.i64.wrap ((ik:Int)+(m:Int)))=((ik+m:Nat):Int):=by rw[IntKind.wrap_i64];omega
   have hi5:ik+m<=cap:=by omega
   have hJ2:=hJd _ _ hJs
   obtain⟨fn,tmps,assign,body,hy,hR⟩:=hY _ k _ (zkj _ k) hJ2 hlt
   simp only[zeg,hik]at hy
   repeat still_step
   refine wpStill_nil ?_
   gi_wp2
   refine hR.mono ?_
   rintro e W3 (⟨rfl,hJ3,hk3⟩ |⟨rfl,hJx3⟩)
   ·obtain⟨c1,c2⟩:=hKp _ _ hk3
    have hBs3:W3.cell? ⟨Bs,oS,none⟩=some (.slice (some ⟨b,off,none⟩) L cap):=c1.trans hBs'
    have hBn3:W3.cell? ⟨Bn,oN,none⟩=some (.int .i64 m):=c2.trans hBn'
    gi_wp2
    go_roundw
    case rel=>exact⟨k+1,ik+m,by omega,by rw[Nat.mul_succ,hik],by simp,by rw[zx1];exact hJ3,hBs3,hBn3⟩
    case measure=>simp[intOf];omega
   ·gi_wp2
    refine bodyPost_ret (results_none rfl _ _ _) rfl ?_
    exact⟨⟨_,rfl⟩, .inr ⟨_,by rw[List.length_append,zkj];simp;omega,hJx3⟩⟩
  ·obtain rfl:k=K:=by omega
   have hlti: ¬ik<L:=by omega
   gi_wp2
   go_end0
   exact⟨⟨_,rfl⟩, .inl ⟨_,rfl,hJs⟩⟩
end
end Go.Proofs.YtddokcpcpoihmaaGreat

namespace Go.Proofs.YtddokcpcpoihmaaGreat.Sx
open Go.RowKit
section
abbrev W(x:UInt64):RV:= .i .u64 (x.toNat:Int)
def shrW(x:UInt64)(n:Nat):UInt64:=UInt64.ofNat (x.toNat/2^n)
def shlW(x:UInt64)(n:Nat):UInt64:=UInt64.ofNat (x.toNat*2^n)
def carW(x y c:UInt64):UInt64:=UInt64.ofNat ((x.toNat+y.toNat+c.toNat)/18446744073709551616)
def borW(x y c:UInt64):UInt64:=UInt64.ofNat (if x.toNat<y.toNat+c.toNat then 1 else 0)
theorem zsp{x y c:UInt64}(h:c.toNat<=1):(carW x y c).toNat<=1:=by
 have hx:=x.toNat_lt
 have hy:=y.toNat_lt
 unfold carW
 rw[UInt64.toNat_ofNat']
 omega
theorem z1s{x y c:UInt64}:(borW x y c).toNat<=1:=by
 unfold borW
 rw[UInt64.toNat_ofNat']
 split<;>omega
theorem Vadr.any{i:Int}{n:Nat}{K:Nat->Prop}(h:0<=i/\i< (n:Int))(hK:K i.toNat):Vadr i n K:=⟨h.1,h.2,hK⟩
theorem Vrem.any{a b:Int}{K:Int->Prop}(h:b≠0)(hK:K (a.tmod b)):Vrem a b K:=⟨h,_,rfl,hK⟩
theorem zjb(n:Nat):IntKind.u64.wrap (n:Int)=((UInt64.ofNat n).toNat:Int):=by
 rw[UInt64.toNat_ofNat']
 simp only[IntKind.wrap]
 simp[IntKind.bits,IntKind.signed]
theorem z3o(x y:UInt64):IntKind.u64.wrap ((x.toNat:Int)-(y.toNat:Int))=((x-y).toNat:Int):=by
 rw[UInt64.toNat_sub]
 have hx:=x.toNat_lt
 have hy:=y.toNat_lt
 simp only[IntKind.wrap]
 simp[IntKind.bits,IntKind.signed]
 omega
theorem Vint.w{e:Int}{K:Int->Prop}(n:Nat)(he:e=(n:Int))(hK:K ((UInt64.ofNat n).toNat:Int)):Vint .u64 e K:=⟨_,by rw[he,zjb],hK⟩
theorem Vint.wadd{a b:Int}{K:Int->Prop}(x y:UInt64)(ha:a=(x.toNat:Int))(hb:b=(y.toNat:Int))(hK:K ((x+y).toNat:Int)):Vint .u64 (a+b) K:=
 ⟨_,by subst ha;subst hb;rw[<-Int.natCast_add,zjb,UInt64.ofNat_add];simp,hK⟩
theorem Vint.wmul{a b:Int}{K:Int->Prop}(x y:UInt64)(ha:a=(x.toNat:Int))(hb:b=(y.toNat:Int))(hK:K ((x*y).toNat:Int)):Vint .u64 (a*b) K:=
 ⟨_,by subst ha;subst hb;rw[<-Int.natCast_mul,zjb,UInt64.ofNat_mul];simp,hK⟩
theorem Vint.wsub{a b:Int}{K:Int->Prop}(x y:UInt64)(ha:a=(x.toNat:Int))(hb:b=(y.toNat:Int))(hK:K ((x-y).toNat:Int)):Vint .u64 (a-b) K:=
 ⟨_,by subst ha;subst hb;rw[z3o],hK⟩
theorem bv_w(x:UInt64):BitVec.ofInt 64 (x.toNat:Int)=x.toBitVec:=by
 rw[BitVec.ofInt_natCast]
 simp
theorem znq(x:UInt64):IntKind.u64.wrap (x.toNat:Int)=(x.toNat:Int):=by rw[zjb];simp
theorem Vbits.wand{a b:Int}{K:Int->Prop}(x y:UInt64)(ha:a=(x.toNat:Int))(hb:b=(y.toNat:Int))(hK:K ((x&&&y).toNat:Int)):Vbits .u64 .and a b K:=by
 subst ha;subst hb
 refine⟨_,?_,hK⟩
 show _=IntKind.u64.wrap (((BitVec.ofInt 64 (x.toNat:Int)&&&BitVec.ofInt 64 (y.toNat:Int)).toNat:Nat):Int)
 rw[bv_w,bv_w,<-znq]
 rfl
theorem Vbits.wor{a b:Int}{K:Int->Prop}(x y:UInt64)(ha:a=(x.toNat:Int))(hb:b=(y.toNat:Int))(hK:K ((x|||y).toNat:Int)):Vbits .u64 .or a b K:=by
 subst ha;subst hb
 refine⟨_,?_,hK⟩
 show _=IntKind.u64.wrap (((BitVec.ofInt 64 (x.toNat:Int)|||BitVec.ofInt 64 (y.toNat:Int)).toNat:Nat):Int)
 rw[bv_w,bv_w,<-znq]
 rfl
theorem Vbits.wxor{a b:Int}{K:Int->Prop}(x y:UInt64)(ha:a=(x.toNat:Int))(hb:b=(y.toNat:Int))(hK:K ((x^^^y).toNat:Int)):Vbits .u64 .xor a b K:=by
 subst ha;subst hb
 refine⟨_,?_,hK⟩
 show _=IntKind.u64.wrap (((BitVec.ofInt 64 (x.toNat:Int)^^^BitVec.ofInt 64 (y.toNat:Int)).toNat:Nat):Int)
 rw[bv_w,bv_w,<-znq]
 rfl
theorem Vshr.w{a b:Int}{K:Int->Prop}(x:UInt64)(n:Nat)(ha:a=(x.toNat:Int))(hb:b=(n:Int))(hK:K ((shrW x n).toNat:Int)):Vshr .u64 a b K:=by
 subst ha;subst hb
 refine⟨by omega,_,?_,hK⟩
 have hx:=x.toNat_lt
 have h1:(shrW x n).toNat=x.toNat/2^n:=by
  unfold shrW
  rw[UInt64.toNat_ofNat']
  exact Nat.mod_eq_of_lt (Nat.lt_of_le_of_lt (Nat.div_le_self _ _) hx)
 rw[h1,Int.toNat_natCast]
 have h2:x.toNat/2^n=x.toNat/2^(min n IntKind.u64.bits):=by
  rcases Nat.le_total n IntKind.u64.bits with h |h
  ·rw[Nat.min_eq_left h]
  ·rw[Nat.min_eq_right h]
   have hb:IntKind.u64.bits=64:=rfl
   rw[hb]at h⊢
   have h64:(2:Nat)^64<=2^n:=Nat.pow_le_pow_right (by omega) h
   rw[Nat.div_eq_of_lt (by omega),Nat.div_eq_of_lt (by omega)]
 rw[h2,Int.fdiv_eq_ediv_of_nonneg _ (Int.pow_nonneg (by omega))]
 norm_cast
theorem Vshl.w{a b:Int}{K:Int->Prop}(x:UInt64)(n:Nat)(ha:a=(x.toNat:Int))(hb:b=(n:Int))(hn:n<=64)(hK:K ((shlW x n).toNat:Int)):Vshl .u64 a b K:=by
 subst ha;subst hb
 refine⟨by omega,_,?_,hK⟩
 have hb:IntKind.u64.bits=64:=rfl
 rw[Int.toNat_natCast,hb,Nat.min_eq_left hn]
 unfold shlW
 rw[<-zjb]
 norm_cast
theorem Extn.add{P:Program}{f:FuncId}(hrun: ∀(us:Array Value) (w:World),(callFunc f us).run P w=((add64Entry us).run P w).andThen λv w=> .ok (.value v) w)(x y c:UInt64)(hc:c.toNat<=1):Extn P f [W x,W y,W c] (.r (.tu [W (x+y+c),W (carW x y c)])):=by
 intro w k vs h
 simp only[RV.partsAt,RV.at_]at h
 obtain⟨_,_,rfl,rfl,_,_,rfl,rfl,_,_,rfl,rfl,rfl⟩:=h
 refine⟨.tuple #[.int .u64 (((x.toNat:Int)+(y.toNat:Int)+(c.toNat:Int))%18446744073709551616), .int .u64 (((x.toNat:Int)+(y.toNat:Int)+(c.toNat:Int))/18446744073709551616)],w,?_,Ext.refl w,k,λ_ _=>rfl,?_⟩
 ·rw[hrun]
  show((add64Entry #[.int .u64 (x.toNat:Int), .int .u64 (y.toNat:Int), .int .u64 (c.toNat:Int)]).run P w).andThen _=_
  rw[run_add64 _ _ _ (by omega) (by omega) (by omega) (by omega)]
  rfl
 ·simp only[Res.at_,RV.at_,RV.partsAt]
  have hx:=x.toNat_lt
  have hy:=y.toNat_lt
  refine⟨_,rfl,_,_,rfl,?_,_,_,rfl,?_,rfl⟩
  ·congr 1
   rw[UInt64.toNat_add,UInt64.toNat_add]
   omega
  ·unfold carW
   rw[UInt64.toNat_ofNat']
   congr 1
   omega
def zri:Array Value->Sem Value:=λargs=>do
 let(x,y,b)<-Extern.MathBitsCarry.three "Sub64" args
 pure (Extern.MathBitsCarry.pair ((x+Extern.MathBitsCarry.m64-y-b)%Extern.MathBitsCarry.m64) (if x<y+b then 1 else 0))
theorem zu1{P:Program}(x y b:Nat)(hb:b<=1)(w:World):
  (zri #[.int .u64 x, .int .u64 y, .int .u64 b]).run P w=
   .ok (.tuple #[.int .u64 (((x+18446744073709551616-y-b)%18446744073709551616:Nat):Int), .int .u64 ((if x<y+b then 1 else 0:Nat):Int)]) w:=by
 have:b=0\/b=1:=by omega
 rcases this with rfl |rfl<;>rfl
theorem Extn.sub{P:Program}{f:FuncId}(hrun: ∀(us:Array Value) (w:World),(callFunc f us).run P w=((zri us).run P w).andThen λv w=> .ok (.value v) w)(x y c:UInt64)(hc:c.toNat<=1):Extn P f [W x,W y,W c] (.r (.tu [W (x-y-c),W (borW x y c)])):=by
 intro w k vs h
 simp only[RV.partsAt,RV.at_]at h
 obtain⟨_,_,rfl,rfl,_,_,rfl,rfl,_,_,rfl,rfl,rfl⟩:=h
 refine⟨.tuple #[.int .u64 (((x.toNat+18446744073709551616-y.toNat-c.toNat)%18446744073709551616:Nat):Int), .int .u64 ((if x.toNat<y.toNat+c.toNat then 1 else 0:Nat):Int)],w,(hrun _ _).trans ?_,Ext.refl w,k,λ_ _=>rfl,?_⟩
 ·exact congrArg (λr:Result Value=>r.andThen λv w=>Result.ok (Next.value v) w) (zu1 x.toNat y.toNat c.toNat hc w)
 ·simp only[Res.at_,RV.at_,RV.partsAt]
  have hx:=x.toNat_lt
  have hy:=y.toNat_lt
  refine⟨_,rfl,_,_,rfl,?_,_,_,rfl,?_,rfl⟩
  ·congr 1
   rw[UInt64.toNat_sub,UInt64.toNat_sub]
   omega
  ·unfold borW
   rw[UInt64.toNat_ofNat']
   split<;>rfl
end
section
structure Fe where
 a:UInt64
 b:UInt64
 c:UInt64
 d:UInt64
 e:UInt64
abbrev Fe.v(x:Fe):List RV:=[W x.a,W x.b,W x.c,W x.d,W x.e]
abbrev msk:UInt64:=2251799813685247
theorem zgg(n:UInt64):zab Tryz.prog 103 [W n] (.r (.ag (Fe.v ⟨n&&&msk,shrW n 51,0,0,0⟩))):=by
 refine zaa (T:=Tab) mixed Tab_ok Tryz.func103 rfl (by kernel_rfl) ?_
 refine Vbits.wand n msk rfl rfl ?_
 refine Vshr.w n 51 rfl rfl ?_
 refine za rfl rfl ?_
 exact cr
def Fe.carry(x:Fe):Fe:=⟨(x.a&&&msk)+shrW x.e 51*19,(x.b&&&msk)+shrW x.a 51,(x.c&&&msk)+shrW x.b 51,(x.d&&&msk)+shrW x.c 51,(x.e&&&msk)+shrW x.d 51⟩
def Fe.add(x y:Fe):Fe:=Fe.carry ⟨x.a+y.a,x.b+y.b,x.c+y.c,x.d+y.d,x.e+y.e⟩
abbrev tw0:UInt64:=4503599627370458
abbrev tw1:UInt64:=4503599627370494
def Fe.sub(x y:Fe):Fe:=Fe.carry ⟨x.a+(tw0-y.a),x.b+(tw1-y.b),x.c+(tw1-y.c),x.d+(tw1-y.d),x.e+(tw1-y.e)⟩
set_option maxHeartbeats 4000000 in
theorem zg4(x:Fe):zab Tryz.prog 186 [.ag x.v] (.r (.ag x.carry.v)):=by
 refine zaa (T:=Tab) mixed Tab_ok Tryz.func186 rfl (by kernel_rfl) ?_
 repeat' ((conv=>whnf);first |refine Vrounds.step mixed Tab_ok ?_ |refine zq rfl (zo ?_) |refine zt rfl (zp ?_) |refine zk (by decide) (by decide) rfl ?_ |refine Vadr.any (by decide) ?_ |refine Vshr.w _ 51 rfl rfl ?_ |refine Vint.any (k:= .i64) ?_ |refine Vrem.any (by decide) ?_ |refine Vint.wmul _ 19 rfl rfl ?_ |refine Vbits.wand _ msk rfl rfl ?_ |refine Vint.wadd _ _ rfl rfl ?_ |refine Vint.wsub _ _ rfl rfl ?_ |refine za rfl rfl ?_ |refine Vloop.rounds 6 ?_ |refine Vdraw.mk' (by kernel_rfl) ?_)
 exactλ_ _ _ h=>h
set_option maxHeartbeats 4000000 in
theorem zd1(x y:Fe):zab Tryz.prog 123 [.ag x.v, .ag y.v] (.r (.ag (x.add y).v)):=by
 refine zaa (T:=Tab) mixed Tab_ok Tryz.func123 rfl (by kernel_rfl) ?_
 repeat' ((conv=>whnf);first |refine Vrounds.step mixed Tab_ok ?_ |refine zq rfl (zo ?_) |refine zt rfl (zp ?_) |refine zk (by decide) (by decide) rfl ?_ |refine Vadr.any (by decide) ?_ |refine Vshr.w _ 51 rfl rfl ?_ |refine Vint.any (k:= .i64) ?_ |refine Vrem.any (by decide) ?_ |refine Vint.wmul _ 19 rfl rfl ?_ |refine Vbits.wand _ msk rfl rfl ?_ |refine Vint.wadd _ _ rfl rfl ?_ |refine Vint.wsub _ _ rfl rfl ?_ |refine za rfl rfl ?_ |refine Vloop.rounds 6 ?_ |refine Vdraw.mk' (by kernel_rfl) ?_)
 refine zd (zg4 ⟨x.a+y.a,x.b+y.b,x.c+y.c,x.d+y.d,x.e+y.e⟩) ?_
 repeat' ((conv=>whnf);first |refine Vrounds.step mixed Tab_ok ?_ |refine zq rfl (zo ?_) |refine zt rfl (zp ?_) |refine zk (by decide) (by decide) rfl ?_ |refine Vadr.any (by decide) ?_ |refine Vshr.w _ 51 rfl rfl ?_ |refine Vint.any (k:= .i64) ?_ |refine Vrem.any (by decide) ?_ |refine Vint.wmul _ 19 rfl rfl ?_ |refine Vbits.wand _ msk rfl rfl ?_ |refine Vint.wadd _ _ rfl rfl ?_ |refine Vint.wsub _ _ rfl rfl ?_ |refine za rfl rfl ?_ |refine Vloop.rounds 6 ?_ |refine Vdraw.mk' (by kernel_rfl) ?_)
 exactλ_ _ _ h=>h
end
section
set_option maxHeartbeats 4000000 in
theorem ze7(x y:Fe):zab Tryz.prog 190 [.ag x.v, .ag y.v] (.r (.ag (x.sub y).v)):=by
 refine zaa (T:=Tab) mixed Tab_ok Tryz.func190 rfl (by kernel_rfl) ?_
 repeat' ((conv=>whnf);first |refine Vint.wsub tw0 y.a rfl rfl ?_ |refine Vint.wsub tw1 _ rfl rfl ?_ |refine Vrounds.step mixed Tab_ok ?_ |refine zq rfl (zo ?_) |refine zt rfl (zp ?_) |refine Vadr.any (by decide) ?_ |refine Vint.any (k:= .i64) ?_ |refine Vint.wadd _ _ rfl rfl ?_ |refine za rfl rfl ?_ |refine Vloop.rounds 6 ?_ |refine Vdraw.mk' (by kernel_rfl) ?_ |refine zd (zg4 ⟨x.a+(tw0-y.a),x.b+(tw1-y.b),x.c+(tw1-y.c),x.d+(tw1-y.d),x.e+(tw1-y.e)⟩) ?_)
 exactλ_ _ _ h=>h
abbrev lo32:UInt64:=4294967295
def mulM(x y:UInt64):UInt64:=shrW x 32*(y&&&lo32)+shrW ((x&&&lo32)*(y&&&lo32)) 32
def mulH(x y:UInt64):UInt64:=shrW x 32*shrW y 32+shrW (mulM x y) 32+shrW ((mulM x y&&&lo32)+(x&&&lo32)*shrW y 32) 32
set_option maxHeartbeats 4000000 in
theorem zm9(x y:UInt64):zab Tryz.prog 199 [W x,W y] (.r (.tu [W (mulH x y),W (x*y)])):=by
 refine zaa (T:=Tab) mixed Tab_ok Tryz.func199 rfl (by kernel_rfl) ?_
 repeat' ((conv=>whnf);first |refine Vbits.wand _ lo32 rfl rfl ?_ |refine Vshr.w _ 32 rfl rfl ?_ |refine Vint.wadd _ _ rfl rfl ?_ |refine Vint.wmul _ _ rfl rfl ?_)
 exact⟨_,rfl,cr⟩
theorem zd9(x y c:UInt64)(hc:c.toNat<=1):Extn Tryz.prog 185 [W x,W y,W c] (.r (.tu [W (x+y+c),W (carW x y c)])):=
 Extn.add (λus w=>run_callFunc_extern Tryz.func185 (by kernel_rfl) (by kernel_rfl) (by kernel_rfl) (e:=add64Entry) (by kernel_rfl) us w) x y c hc
def z1b(h l a b:UInt64):UInt64:=h+mulH a b+carW l (a*b) 0
def z1c(l a b:UInt64):UInt64:=l+a*b+0
set_option maxHeartbeats 4000000 in
theorem zwd(h l a b:UInt64):zab Tryz.prog 184 [.ag [W h,W l],W a,W b] (.r (.ag [W (z1b h l a b),W (z1c l a b)])):=by
 refine zaa (T:=Tab) mixed Tab_ok Tryz.func184 rfl (by kernel_rfl) ?_
 refine zd (zm9 a b) ?_
 refine Vcall.ext (zd9 l (a*b) 0 (by decide)) ?_
 refine Vcall.ext (zd9 h (mulH a b) (carW l (a*b) 0) (zsp (by decide))) ?_
 repeat' ((conv=>whnf);first |refine za rfl rfl ?_)
 exactλ_ _ _ h=>h
end
section
structure Two where
 h:UInt64
 l:UInt64
def Two.plus(t:Two)(a b:UInt64):Two:=⟨z1b t.h t.l a b,z1c t.l a b⟩
def fsum(a b:Fe):Two×Two×Two×Two×Two:=
 let z:Two:=⟨0,0⟩
 (((((z.plus a.a b.a).plus a.b (b.e*19)).plus a.c (b.d*19)).plus a.d (b.c*19)).plus a.e (b.b*19),
 ((((z.plus a.a b.b).plus a.b b.a).plus a.c (b.e*19)).plus a.d (b.d*19)).plus a.e (b.c*19),
 ((((z.plus a.a b.c).plus a.b b.b).plus a.c b.a).plus a.d (b.e*19)).plus a.e (b.d*19),
 ((((z.plus a.a b.d).plus a.b b.c).plus a.c b.b).plus a.d b.a).plus a.e (b.e*19),
 ((((z.plus a.a b.e).plus a.b b.d).plus a.c b.c).plus a.d b.b).plus a.e b.a)
def flo(t:Two)(f:UInt64):UInt64:=t.l+f+0
def ffr(t:Two)(f:UInt64):UInt64:=shlW (t.h+carW t.l f 0) 13|||shrW (flo t f) 51
def Fe.mul(a b:Fe):Fe:=
 let s:=fsum a b
 let f0:=ffr s.1 0
 let f1:=ffr s.2.1 f0
 let f2:=ffr s.2.2.1 f1
 let f3:=ffr s.2.2.2.1 f2
 let f4:=ffr s.2.2.2.2 f3
 Fe.carry ⟨(flo s.1 0&&&msk)+f4*19,flo s.2.1 f0&&&msk,flo s.2.2.1 f1&&&msk,flo s.2.2.2.1 f2&&&msk,flo s.2.2.2.2 f3&&&msk⟩
set_option maxHeartbeats 40000000 in
set_option maxRecDepth 10000 in
theorem zaz(x y:Fe):zab Tryz.prog 116 [.ag x.v, .ag y.v] (.r (.ag (x.mul y).v)):=by
 refine zaa (T:=Tab) mixed Tab_ok Tryz.func116 rfl (by kernel_rfl) ?_
 repeat' ((conv=>whnf);first |refine Vrounds.step mixed Tab_ok ?_ |refine zq rfl (zo ?_) |refine zt rfl (zp ?_) |refine zk (by decide) (by decide) rfl ?_ |refine Vadr.any (by decide) ?_ |refine Vint.any (k:= .i64) ?_ |refine Vrem.any (by decide) ?_ |refine Vint.wmul _ 19 rfl rfl ?_ |refine za rfl rfl ?_ |refine zd (zwd _ _ _ _) ?_ |refine zd (zwd 0 0 _ _) ?_ |refine Vcall.ext (zd9 _ 0 0 (by decide)) ?_ |refine Vcall.ext (zd9 _ _ 0 (by decide)) ?_ |refine Vshl.w _ 13 rfl rfl (by decide) ?_ |refine Vshr.w _ 51 rfl rfl ?_ |refine Vbits.wand _ msk rfl rfl ?_ |refine Vbits.wor _ _ rfl rfl ?_ |refine Vint.wadd _ _ rfl rfl ?_ |refine zd (zg4 ⟨_,_,_,_,_⟩) ?_ |refine Vloop.rounds 6 ?_)
 exactλ_ _ _ h=>h
end
section
theorem zci(x:Fe):zab Tryz.prog 189 [.ag x.v] (.r (.ag (x.mul x).v)):=by
 refine zaa (T:=Tab) mixed Tab_ok Tryz.func189 rfl (by kernel_rfl) ?_
 repeat' ((conv=>whnf);first |refine za rfl rfl ?_ |refine zd (zaz ⟨_,_,_,_,_⟩ ⟨_,_,_,_,_⟩) ?_)
 exactλ_ _ _ h=>h
def Fe.least(y:Fe):Fe:=
 let x:=y.carry.carry
 let q:=shrW (x.e+shrW (x.d+shrW (x.c+shrW (x.b+shrW (x.a+19) 51) 51) 51) 51) 51
 let a:=x.a+19*q
 let b:=x.b+shrW a 51
 let c:=x.c+shrW b 51
 let d:=x.d+shrW c 51
 let e:=x.e+shrW d 51
 ⟨a&&&msk,b&&&msk,c&&&msk,d&&&msk,e&&&msk⟩
set_option maxHeartbeats 40000000 in
theorem zg5(x:Fe):zab Tryz.prog 175 [.ag x.v] (.r (.ag x.least.v)):=by
 refine zaa (T:=Tab) mixed Tab_ok Tryz.func175 rfl (by kernel_rfl) ?_
 repeat' ((conv=>whnf);first |refine Vrounds.step mixed Tab_ok ?_ |refine zq rfl (zo ?_) |refine zt rfl (zp ?_) |refine Vadr.any (by decide) ?_ |refine Vint.any (k:= .i64) ?_ |refine za rfl rfl ?_ |refine zd (zg4 x) ?_ |refine zd (zg4 x.carry) ?_ |refine Vshr.w _ 51 rfl rfl ?_ |refine Vbits.wand _ msk rfl rfl ?_ |refine Vint.wadd _ 19 rfl rfl ?_ |refine Vint.wadd _ _ rfl rfl ?_ |refine Vint.wmul 19 _ rfl rfl ?_ |refine Vdraw.mk' (by kernel_rfl) ?_ |refine Vloop.rounds 6 ?_)
 exactλ_ _ _ h=>h
end
section
set_option maxHeartbeats 4000000 in
theorem zo5(x:Fe):zab Tryz.prog 192 [.ag x.v] (.r (.ag (Fe.sub ⟨0,0,0,0,0⟩ x).v)):=by
 refine zaa (T:=Tab) mixed Tab_ok Tryz.func192 rfl (by kernel_rfl) ?_
 repeat' ((conv=>whnf);first |refine za rfl rfl ?_ |refine zd (ze7 ⟨0,0,0,0,0⟩ ⟨_,_,_,_,_⟩) ?_)
 exactλ_ _ _ h=>h
abbrev pv(x z:Fe):List RV:=[W x.a,W x.b,W x.c,W x.d,W x.e,W z.a,W z.b,W z.c,W z.d,W z.e]
def zca(px pz qx qz u:Fe):(Fe×Fe)×(Fe×Fe):=
 let a:=px.add pz
 let b:=px.sub pz
 let c:=qx.add qz
 let d:=qx.sub qz
 let da:=d.mul a
 let cb:=c.mul b
 let aa:=a.mul a
 let bb:=b.mul b
 let e:=aa.sub bb
 let k:Fe:=⟨121665&&&msk,shrW 121665 51,0,0,0⟩
 let s:=da.add cb
 let t:=da.sub cb
 ((aa.mul bb,e.mul (aa.add (e.mul k))),(s.mul s,u.mul (t.mul t)))
end
end Go.Proofs.YtddokcpcpoihmaaGreat.Sx
