import Derived.Test.YtpcfoglfakeimaaGreatZVa
import Derived.Test.YtpcfoglfakeimaaGreatRows
import Derived.Below
import Derived.ChangeOld
import Derived.OpenShut
import Derived.Laws.ComplexArith
namespace Go.Proofs.YtpcfoglfakeimaaGreat.Sx
open Go.RowKit
section
open Go.RowKit Go.ChangeShapes Go.WideShapes Go.Deep
theorem zur{α:Type}{l:List α}(h:l.length=3): ∃a0 a1 a2,l=[a0,a1,a2]:=by
 match l,h with
 |[a0,a1,a2],_=>exact⟨_,_,_,rfl⟩
theorem zfkb{α:Type}{l:List α}(h:l.length=4): ∃a0 a1 a2 a3,l=[a0,a1,a2,a3]:=by
 match l,h with
 |[a0,a1,a2,a3],_=>exact⟨_,_,_,_,rfl⟩
theorem z9t{α:Type}{l:List α}(h:l.length=6): ∃a0 a1 a2 a3 a4 a5,l=[a0,a1,a2,a3,a4,a5]:=by
 match l,h with
 |[a0,a1,a2,a3,a4,a5],_=>exact⟨_,_,_,_,_,_,rfl⟩
theorem zd7b{α:Type}{l:List α}(h:l.length=10): ∃a0 a1 a2 a3 a4 a5 a6 a7 a8 a9,l=[a0,a1,a2,a3,a4,a5,a6,a7,a8,a9]:=by
 match l,h with
 |[a0,a1,a2,a3,a4,a5,a6,a7,a8,a9],_=>exact⟨_,_,_,_,_,_,_,_,_,_,rfl⟩
section
variable {r:Rd Tryz.prog}
theorem Rd.leaf:r.Reads Leaf.c (λ_=>True) 31:=λfuel cs x hx=>by
 obtain⟨hl,xs,n,_,hxl,hf⟩:=Rd.struct (C:=6) Tryz.underlying31 (by kernel_rfl) hx
 obtain⟨a0,a1,a2,a3,a4,a5,rfl⟩:=z9t hl
 obtain⟨y0,y1,y2,y3,y4,y5,rfl⟩:=z9t hxl
 have h0:r.trod n 25 [a0]=some y0:=hf 0 _ rfl 1 (by kernel_rfl)
 have h1:r.trod n 25 [a1]=some y1:=hf 1 _ rfl 1 (by kernel_rfl)
 have h2:r.trod n 25 [a2]=some y2:=hf 2 _ rfl 1 (by kernel_rfl)
 have h3:r.trod n 5 [a3]=some y3:=hf 3 _ rfl 1 (by kernel_rfl)
 have h4:r.trod n 25 [a4]=some y4:=hf 4 _ rfl 1 (by kernel_rfl)
 have h5:r.trod n 25 [a5]=some y5:=hf 5 _ rfl 1 (by kernel_rfl)
 obtain⟨s0,k0,g0⟩:=(Rd.bytes Tryz.underlying25 Tryz.underlying5 (by kernel_rfl)) _ _ _ h0
 obtain⟨s1,k1,g1⟩:=(Rd.bytes Tryz.underlying25 Tryz.underlying5 (by kernel_rfl)) _ _ _ h1
 obtain⟨s2,k2,g2⟩:=(Rd.bytes Tryz.underlying25 Tryz.underlying5 (by kernel_rfl)) _ _ _ h2
 obtain⟨s3,k3,g3⟩:=(Rd.u8 Tryz.underlying5) _ _ _ h3
 obtain⟨s4,k4,g4⟩:=(Rd.bytes Tryz.underlying25 Tryz.underlying5 (by kernel_rfl)) _ _ _ h4
 obtain⟨s5,k5,g5⟩:=(Rd.bytes Tryz.underlying25 Tryz.underlying5 (by kernel_rfl)) _ _ _ h5
 exact⟨⟨s0,s1,s2,s3,s4,s5⟩,trivial,zbh g0 (zbh g1 (zbh g2 (zbh g3 (zbh g4 g5))))⟩
theorem Rd.par:r.Reads Par.c (λp=>∀x∈p.late,Sx.i64 x) 58:=λfuel cs x hx=>by
 obtain⟨hl,xs,n,_,hxl,hf⟩:=Rd.struct (C:=3) Tryz.underlying58 (by kernel_rfl) hx
 obtain⟨a0,a1,a2,rfl⟩:=zur hl
 obtain⟨y0,y1,y2,rfl⟩:=zur hxl
 have h0:r.trod n 25 [a0]=some y0:=hf 0 _ rfl 1 (by kernel_rfl)
 have h1:r.trod n 25 [a1]=some y1:=hf 1 _ rfl 1 (by kernel_rfl)
 have h2:r.trod n 23 [a2]=some y2:=hf 2 _ rfl 1 (by kernel_rfl)
 obtain⟨s0,k0,g0⟩:=(Rd.bytes Tryz.underlying25 Tryz.underlying5 (by kernel_rfl)) _ _ _ h0
 obtain⟨s1,k1,g1⟩:=(Rd.bytes Tryz.underlying25 Tryz.underlying5 (by kernel_rfl)) _ _ _ h1
 obtain⟨s2,k2,g2⟩:=(Rd.ints Tryz.underlying23 Tryz.underlying3 (by kernel_rfl)) _ _ _ h2
 exact⟨⟨s0,s1,s2⟩,k2,zbh g0 (zbh g1 g2)⟩
theorem Rd.node:r.Reads Node.c (λp=>∀x∈p.par.late,Sx.i64 x) 60:=λfuel cs x hx=>by
 obtain⟨hl,xs,n,_,hxl,hf⟩:=Rd.struct (C:=10) Tryz.underlying60 (by kernel_rfl) hx
 obtain⟨a0,a1,a2,a3,a4,a5,a6,a7,a8,a9,rfl⟩:=zd7b hl
 obtain⟨y0,y1,y2,rfl⟩:=zur hxl
 have h0:r.trod n 5 [a0]=some y0:=hf 0 _ rfl 1 (by kernel_rfl)
 have h1:r.trod n 31 [a1,a2,a3,a4,a5,a6]=some y1:=hf 1 _ rfl 6 (by kernel_rfl)
 have h2:r.trod n 58 [a7,a8,a9]=some y2:=hf 2 _ rfl 3 (by kernel_rfl)
 obtain⟨s0,k0,g0⟩:=(Rd.u8 Tryz.underlying5) _ _ _ h0
 obtain⟨s1,k1,g1⟩:=Rd.leaf _ _ _ h1
 obtain⟨s2,k2,g2⟩:=Rd.par _ _ _ h2
 exact⟨⟨s0,s1,s2⟩,k2,zbh g0 (zbh g1 g2)⟩
end
end
section
open Go.ChangeShapes Go.WideShapes Go.ChangeAt Go.RowKit
theorem zas{g:Nat->Bool}{a b c:Nat}(h:(List.range' a b).all g=true)(k:(List.range' (a+b) c).all g=true):(List.range' a (b+c)).all g=true:=by
 rw[<-List.range'_append_1,List.all_append,h,k];rfl
theorem zfs{α:Type}{g:Nat->α}{a b c:Nat}{l m:List α}(h:(List.range' a b).map g=l)(k:(List.range' (a+b) c).map g=m):(List.range' a (b+c)).map g=l++m:=by
 rw[<-List.range'_append_1,List.map_append,h,k]
theorem zfz{g:Nat->Bool}{n:Nat}(h:(List.range' 0 n).all g=true):(List.range n).all g=true:=by rw[List.range_eq_range'];exact h
theorem zqz{α β:Type}(l:List α)(d:β)(h:α->β):l.map h=(List.range l.length).map λi=>(l[i]?).elim d h:=by
 apply List.ext_getElem
 ·simp
 ·intro i h1 h2
  simp at h1
  simp[List.getElem?_eq_getElem h1]
theorem zj8{α:Type}(l:List α)(h:α->Bool):l.all h=(List.range l.length).all λi=>(l[i]?).elim true h:=by
 have e:=zqz l true h
 have: ∀m:List Bool,∀l:List α,l.map h=m->l.all h=m.all id:=λm l hm=>by rw[<-hm,List.all_map];rfl
 rw[this _ _ e,List.all_map];rfl
noncomputable def leadAt (i:Nat):List Nat:=(Tryz.prog.funcs[i]?).elim [] Tryz.prog.leadsTo
def z9l:List (List Nat):=[[],[],[1],[4,5,6,7,8,9],[10,7,11],[12],[13,12],[14,15,16,17,18,19,20],[21,22,23,24,24,25,26,27],[11,28,29],[30,31],[32],[],[12],[33,34,35,35,36],[37],[38,39,40,40,40,41],[42],[43,44],[45,46,47,42],[],[48,49,50,50,50,51],[52,51],[22,53,54,41,55,55,55,22],[56],[52],[48,56,57],[52,55,55],[],[55,55,55,55,55],[58,60,59,61,47,61],[52,62,30,46,60,59,45,63,64],[29,55,55,28],[65],[66],[67,68],[33,69,70,71],[14,72],[74,75,73],[77,41,40,78],[],[79,80,78],[81,82,82,83],[84],[],[14,85,86,87,88],[14,86,72,87,33,35,33,89],[14,85,33,17,88,70,71,90],[],[32,32,91,32,92,32],[93,93],[],[],[94,95,96,97],[96,55,41,98,78],[],[50],[],[99],[58,100,101,102],[],[],[52],[58,103,60,104,52,106,105,55,106,107]]
theorem zd0b:(List.range' 0 64).map leadAt=z9l:=by kernel_rfl
def z9m:List (List Nat):=[[],[108],[109,111,110,112],[113],[],[114,114,115],[116,116],[117,118,118],[],[],[119,120,121,122,121,120,123],[76],[125,124,126,127],[119,128,73],[130,129],[111,110,131],[],[82],[],[],[],[132],[33],[17,33,70],[42],[],[133,134],[],[],[135],[95],[29],[97],[91],[138,138,137,139,140,136],[],[142,141,143],[144,146,145,147],[81,80,79,148],[106,60,149,150],[151,152,153,154,155,40,17,156],[157,158,154,159,160,161,162,82,163],[165,164,166],[32,55],[167,168],[169,170,80,170,169,171],[172],[110,110],[131,110,110,110],[],[],[114],[173,115],[174,174],[],[122],[175],[120],[132],[],[110],[127,127,124,126],[132],[131]]
theorem zd1b:(List.range' 64 64).map leadAt=z9m:=by kernel_rfl
def z9n:List (List Nat):=[[125],[176,177,176,179,178,144,145,145,181,180],[110,110],[182,183],[80,111,110],[],[184],[185],[137,137],[],[186],[187],[189,187,188],[131,191,190],[191,192],[194,195,193],[194,194,197,196,198,199],[200,201,202,202,203,204,205,204],[206],[200,197,196,195,196,207],[130,208],[209,152,210,211,82,155,161,212,100,102,163,156,42],[209,152,42,82,154,161,131,131,213,215,214],[216,217],[218,70,158,219],[41,40,40],[83,221,220],[110,110,110,223],[42,225,224,42,42,69,82],[209,226,70,227,161],[228,229],[162,230],[211,40,231],[228,42],[233,232],[234,235],[237,238,239,240,241,242,242,243,243],[],[245,244],[],[],[],[],[],[246,182,131],[65],[],[247,40,40,40,40,40,40,40],[248,82,195,40,198,249,250,199],[251,253,252],[251,254],[256,255],[200,200,196,196,257,196,196,257],[200,200,202,202,203,204],[],[],[258,258,258],[],[],[259],[],[187,187,188,187,188,188,187,188],[260],[]]
theorem zd2b:(List.range' 128 64).map leadAt=z9n:=by kernel_rfl
def z9o:List (List Nat):=[[260],[262,248,261],[],[263],[264,265,266],[268,267],[269,194,270,202,196,194,203,197,196,271],[194,196],[201],[194,199],[194,250,194,197,196],[266],[270,270,196,203,203,196,196,196,203,196,270,270,203,203,196,196,196,196],[],[179,178],[263],[101,206,179,178,144,145,147,179,178,273,272,274,256],[228],[212,231],[212,100],[213],[131,110,110,190],[276,275],[],[277,278,280,279],[282,281,42,283,281,82],[70,284],[228,285],[286],[222],[161,288,287],[256,289],[],[],[173,173,70,290,286],[],[291,292],[293,229,294,229],[276,295],[212],[],[],[297,296],[236],[174,174],[135],[135,298],[],[239,241,240,240,237,50,242,239],[93],[],[],[299,300],[301,186,302,303,302,301,241,303,302,166,187,166,187,302,302],[],[],[304],[257],[270],[],[305],[],[306,307],[308,309,311,310,312]]
theorem zd3b:(List.range' 192 64).map leadAt=z9o:=by kernel_rfl
def z9p:List (List Nat):=[[313],[263,263],[],[],[314,256,256,223,314,223],[194,194,315,315,197,196,195],[],[266,266],[316,265,265],[],[],[194,269,196],[317],[196],[266],[268,267,269,257,194,268,267,196,269,257,207,250],[306,307],[316,265,265,254],[],[318,319,320],[191,110,110],[14,321],[14,86,42],[322,324,325],[],[326,327],[328],[329],[116,294,293],[82,330,293,285,294,285,331,223],[],[332],[175],[333,182,334,335],[69],[],[65,336,337,279,282,281,247,283,281,247],[338],[338],[339,319,340],[341,342,343,344,345,346,347,348,296,296],[349,350],[351,241],[],[352,352,353,352,352,353,352,352,352,352,352,352],[],[],[140,188,186,188,187,188,187,187,188,188],[],[],[265],[253,252],[],[],[354],[182],[355,356,356,356,356,356,356],[],[223],[203,270,203,270,196,196,269,269,270,196,194,196,203,196,203,269,270,269,196],[],[357,358],[100,359,360],[142,142,256,142,141,141]]
theorem zd4b:(List.range' 256 64).map leadAt=z9p:=by kernel_rfl
def z9q:List (List Nat):=[[361,362,363],[330,293,321,294,321,331,223],[69,323],[365,364],[293,294],[65],[366],[297,367],[],[],[66,131],[66,110,110],[],[],[],[368,369,370,370,370,370,370,370],[66,371,364],[],[115],[359,143,360],[361,363,362],[],[372,372],[373,374],[375,375,375,376],[],[],[],[],[],[],[135],[],[],[],[356,356,356,356],[377],[378,316],[],[193,379,380],[142,256,141],[],[182,310,381],[382,383,310,383,384,385,384,385,381,383,384,386],[286],[69],[],[387,388,389,390,391,392,117,393,394,367,367],[370,370,370,370],[],[395],[69],[],[297],[],[376],[396,396,396],[],[],[397],[],[182,382],[398,399,400],[]]
theorem zd5b:(List.range' 320 64).map leadAt=z9q:=by kernel_rfl
def z9r:List (List Nat):=[[],[384],[],[117],[401,401],[373,374],[402,402,402,403],[],[117,117,117],[117,117],[117,117,117,117],[],[],[],[404,404,405],[404],[404],[117,117],[403],[406,406,406],[],[],[117],[],[],[],[],[],[],[],[],[],[],[],[],[],[],[],[],[],[]]
theorem zd6b:(List.range' 384 41).map leadAt=z9r:=by kernel_rfl
def leadL:List (List Nat):=(z9l++(z9m++(z9n++(z9o++(z9p++(z9q++z9r))))))
theorem zwh:(List.range' 0 425).map leadAt=leadL:=zfs (b:=64) (c:=361) zd0b (zfs (b:=64) (c:=297) zd1b (zfs (b:=64) (c:=233) zd2b (zfs (b:=64) (c:=169) zd3b (zfs (b:=64) (c:=105) zd4b (zfs (b:=64) (c:=41) zd5b (zd6b))))))
theorem zc0b:(List.range' 0 64).all (rowFine Tryz.prog)=true:=by kernel_rfl
theorem zc1b:(List.range' 64 64).all (rowFine Tryz.prog)=true:=by kernel_rfl
theorem zc2b:(List.range' 128 64).all (rowFine Tryz.prog)=true:=by kernel_rfl
theorem zc3b:(List.range' 192 64).all (rowFine Tryz.prog)=true:=by kernel_rfl
theorem zc4b:(List.range' 256 64).all (rowFine Tryz.prog)=true:=by kernel_rfl
theorem zc5b:(List.range' 320 64).all (rowFine Tryz.prog)=true:=by kernel_rfl
theorem zc6b:(List.range' 384 57).all (rowFine Tryz.prog)=true:=by kernel_rfl
theorem z6l:(List.range' 0 441).all (rowFine Tryz.prog)=true:=zas (b:=64) (c:=377) zc0b (zas (b:=64) (c:=313) zc1b (zas (b:=64) (c:=249) zc2b (zas (b:=64) (c:=185) zc3b (zas (b:=64) (c:=121) zc4b (zas (b:=64) (c:=57) zc5b (zc6b))))))
noncomputable def mapFine (t:Nat):Bool:=match Tryz.prog.underlying t with |some (.map _ e)=>decide (e<Tryz.prog.types.size) |_=>true
theorem zebb:(List.range' 0 64).all mapFine=true:=by kernel_rfl
theorem zecb:(List.range' 64 64).all mapFine=true:=by kernel_rfl
theorem zedb:(List.range' 128 64).all mapFine=true:=by kernel_rfl
theorem zeeb:(List.range' 192 64).all mapFine=true:=by kernel_rfl
theorem zefb:(List.range' 256 64).all mapFine=true:=by kernel_rfl
theorem zegb:(List.range' 320 64).all mapFine=true:=by kernel_rfl
theorem zehb:(List.range' 384 57).all mapFine=true:=by kernel_rfl
theorem z76:(List.range' 0 441).all mapFine=true:=zas (b:=64) (c:=377) zebb (zas (b:=64) (c:=313) zecb (zas (b:=64) (c:=249) zedb (zas (b:=64) (c:=185) zeeb (zas (b:=64) (c:=121) zefb (zas (b:=64) (c:=57) zegb (zehb))))))
noncomputable def keyFine (t:Nat):Bool:=match Tryz.prog.underlying t with |some (.map k _)=>(match Tryz.prog.underlying k with |some (.array _ _) |some (.struct _)=>false |_=>true) |_=>true
theorem zdtb:(List.range' 0 64).all keyFine=true:=by kernel_rfl
theorem zdub:(List.range' 64 64).all keyFine=true:=by kernel_rfl
theorem zdvb:(List.range' 128 64).all keyFine=true:=by kernel_rfl
theorem zdwb:(List.range' 192 64).all keyFine=true:=by kernel_rfl
theorem zdxb:(List.range' 256 64).all keyFine=true:=by kernel_rfl
theorem zdyb:(List.range' 320 64).all keyFine=true:=by kernel_rfl
theorem zdzb:(List.range' 384 57).all keyFine=true:=by kernel_rfl
theorem z7z:(List.range' 0 441).all keyFine=true:=zas (b:=64) (c:=377) zdtb (zas (b:=64) (c:=313) zdub (zas (b:=64) (c:=249) zdvb (zas (b:=64) (c:=185) zdwb (zas (b:=64) (c:=121) zdxb (zas (b:=64) (c:=57) zdyb (zdzb))))))
noncomputable def parFine (i:Nat):Bool:=(Tryz.prog.funcs.toList[i]?).elim true λf=>f.params.all λt=>decide (t<Tryz.prog.types.size)
theorem zekb:(List.range' 0 64).all parFine=true:=by kernel_rfl
theorem zelb:(List.range' 64 64).all parFine=true:=by kernel_rfl
theorem zemb:(List.range' 128 64).all parFine=true:=by kernel_rfl
theorem zenb:(List.range' 192 64).all parFine=true:=by kernel_rfl
theorem zeob:(List.range' 256 64).all parFine=true:=by kernel_rfl
theorem zepb:(List.range' 320 64).all parFine=true:=by kernel_rfl
theorem zeqb:(List.range' 384 41).all parFine=true:=by kernel_rfl
theorem z8h:(List.range' 0 425).all parFine=true:=zas (b:=64) (c:=361) zekb (zas (b:=64) (c:=297) zelb (zas (b:=64) (c:=233) zemb (zas (b:=64) (c:=169) zenb (zas (b:=64) (c:=105) zeob (zas (b:=64) (c:=41) zepb (zeqb))))))
noncomputable def stopFine (i:Nat):Bool:=(Tryz.prog.funcs.toList[i]?).elim true λfn=>(Stop.rowOf fn).isNone|| !fn.norace
theorem zb6b:(List.range' 0 64).all stopFine=true:=by kernel_rfl
theorem zb7b:(List.range' 64 64).all stopFine=true:=by kernel_rfl
theorem zb8b:(List.range' 128 64).all stopFine=true:=by kernel_rfl
theorem zb9b:(List.range' 192 64).all stopFine=true:=by kernel_rfl
theorem zcab:(List.range' 256 64).all stopFine=true:=by kernel_rfl
theorem zcbb:(List.range' 320 64).all stopFine=true:=by kernel_rfl
theorem zccb:(List.range' 384 41).all stopFine=true:=by kernel_rfl
theorem z5r:(List.range' 0 425).all stopFine=true:=zas (b:=64) (c:=361) zb6b (zas (b:=64) (c:=297) zb7b (zas (b:=64) (c:=233) zb8b (zas (b:=64) (c:=169) zb9b (zas (b:=64) (c:=105) zcab (zas (b:=64) (c:=41) zcbb (zccb))))))
theorem zg3:Tryz.prog.funcs.size=425:=by kernel_rfl
theorem zju:Tryz.prog.types.size=441:=by kernel_rfl
theorem zqv:laidOutB Tryz.prog=true:=by
 have h1:(List.range Tryz.prog.types.size).all (rowFine Tryz.prog)=true:=by rw[zju];exact zfz z6l
 have h2:Tryz.prog.globals.all (λg=>decide (g.type<Tryz.prog.types.size))=true:=by kernel_rfl
 have h3:Tryz.prog.funcs.all (λf=>f.params.all λt=>decide (t<Tryz.prog.types.size))=true:=by
  rw[<-Array.all_toList,zj8,Array.length_toList,zg3];exact zfz z8h
 unfold laidOutB
 rw[h1,h2,h3];rfl
def zwp(P:Program)(t:Nat):Bool:=match P.underlying t with |some (.map _ e)=>decide (e<P.types.size) |_=>true
def zwd(P:Program)(t:Nat):Bool:=match P.underlying t with |some (.map k _)=>(match P.underlying k with |some (.array _ _) |some (.struct _)=>false |_=>true) |_=>true
theorem zbob{P:Program}{n:Nat}(hn:P.types.size=n)(h:(List.range n).all (zwp P)=true):mapsRowed P=true:=by subst hn;exact h
theorem zbkb{P:Program}{n:Nat}(hn:P.types.size=n)(h:(List.range n).all (zwd P)=true):P.plainKeys=true:=by subst hn;exact h
theorem z1y:mapFine=zwp Tryz.prog:=by kernel_rfl
theorem z1u:keyFine=zwd Tryz.prog:=by kernel_rfl
theorem z1z:mapsRowed Tryz.prog=true:=zbob zju (by rw[<-z1y];exact zfz z76)
theorem z1v:Tryz.prog.plainKeys=true:=zbkb zju (by rw[<-z1u];exact zfz z7z)
theorem zy2:Tryz.prog.stopsHeard=true:=by
 unfold Program.stopsHeard
 rw[<-Array.all_toList,zj8,Array.length_toList,zg3];exact zfz z5r
def zp9(L:List (List Nat)):Nat->List Nat->List Nat->List Nat
 |0,_,seen=>seen.reverse
 |_+1,[],seen=>seen.reverse
 |n+1,f::todo,seen=>if seen.contains f then zp9 L n todo seen else zp9 L n ((L[f]?).getD []++todo) (f::seen)
theorem zry{P:Program}{L:List (List Nat)}(h: ∀f:Nat,(P.funcs[f]?).elim [] P.leadsTo=(L[f]?).getD []): ∀(n:Nat) (todo seen:List Nat),P.closureVia n todo seen=zp9 L n todo seen
 |0,todo,seen=>by cases todo<;>rfl
 |n+1,[],seen=>rfl
 |n+1,f::todo,seen=>by
  unfold Program.closureVia zp9
  rw[h f,zry h n,zry h n]
theorem z74(f:Nat):(Tryz.prog.funcs[f]?).elim [] Tryz.prog.leadsTo=(leadL[f]?).getD []:=by
 rw[<-zwh]
 by_cases h:f<425
 ·rw[List.getElem?_map,List.getElem?_range' h,Nat.zero_add,Nat.one_mul,Option.map_some,Option.getD_some,leadAt]
 ·rw[Array.getElem?_eq_none (by rw[zg3];exact Nat.le_of_not_lt h),List.getElem?_eq_none (by rw[List.length_map,List.length_range'];exact Nat.le_of_not_lt h)];rfl
theorem z4t:(Tryz.prog.funcs.toList.map λg=>(Tryz.prog.leadsTo g).length+1)=leadL.map λl=>l.length+1:=by
 rw[zqz _ 1,Array.length_toList,zg3,<-zwh,List.map_map,List.range_eq_range']
 refine List.map_congr_left λi _=>?_
 rw[Array.getElem?_toList]
 show _=(leadAt i).length+1
 unfold leadAt
 cases Tryz.prog.funcs[i]?<;>rfl
theorem z2t(f:Nat):Tryz.prog.closure f=zp9 leadL (1+(leadL.map λl=>l.length+1).sum) [f] []:=by
 unfold Program.closure
 rw[z4t,zry z74]
theorem andI{a b:Bool}(h:a=true)(k:b=true):(a&&b)=true:=by rw[h,k];rfl
end
section
open Go.ChangeShapes Go.WideShapes Go.ChangeAt Go.RowKit
theorem z8e:ownKnob Tryz.prog.godebug=none:=by kernel_rfl
theorem zla:laidOutB Tryz.prog=true:=zqv
end
section
open Go.ChangeShapes Go.WideShapes Go.ChangeAt Go.RowKit
set_option maxRecDepth 100000 in
theorem zbgb{H:Type}{enc:TypeId×Value->H}{W:World}{base:Nat}{v:Value}{d:DataW H}{p:List MemPlace}(hval:Value.okWide aP W .any base 23 v)
  (h:DataW.Trod enc aP W 0 (λ_=>true) true 23 v d p) (hw: ∀n∈d.weights aP 23,n<=reachBytes):
  ∃l:List Int,(∀x∈l,Sx.i64 x)/\l.length<=maxL/\(is l).at_ W (allK W) v:=by
 obtain⟨a,n,c,rfl⟩:=okWide_slice Tryz.underlying23 hval
 obtain⟨fuel,hf⟩:=h
 obtain⟨l,h1,h2,h3⟩:=Rd.slice (sz:=1) (r:=⟨H,enc,W,0,λ_=>true,true⟩) (fuel:=fuel) (cs:=[.slice a n c]) (x:=(d,p)) Tryz.underlying23 (by kernel_rfl) (by omega) (λ_=>rfl) (Rd.i64 Tryz.underlying3) hf
 refine⟨l,h1,?_,?_⟩
 ·rcases h3 with rfl |⟨E,Sp,he,hlen⟩
  ·simp
  ·have:=hw ((E.length+Sp.length)*Tryz.prog.bytesOf 3) (by rw[show d= .slice E Sp from he];simp[DataW.weights,Tryz.underlying23])
   rw[show Tryz.prog.bytesOf 3=8 by kernel_rfl]at this
   simp only[reachBytes]at this
   unfold maxL
   omega
 ·rw[zo7]at h2
  simp only[RV.listAt]at h2
  obtain⟨u,r,e,_,hat,rfl⟩:=h2
  simp only[List.cons.injEq,and_true]at e
  rw[e]
  exact hat
set_option maxRecDepth 100000 in
theorem z6c{H:Type}{enc:TypeId×Value->H}{W:World}{base:Nat}{v:Value}{d:DataW H}{p:List MemPlace}(hval:Value.okWide aP W .any base 25 v)
  (h:DataW.Trod enc aP W 0 (λ_=>true) true 25 v d p):
  ∃l:List UInt8,(bs l).at_ W (allK W) v:=by
 obtain⟨a,n,c,rfl⟩:=okWide_slice Tryz.underlying25 hval
 obtain⟨fuel,hf⟩:=h
 obtain⟨l,_,h2⟩:=Rd.bytes (r:=⟨H,enc,W,0,λ_=>true,true⟩) Tryz.underlying25 Tryz.underlying5 (by kernel_rfl) fuel [.slice a n c] (d,p) hf
 refine⟨l,?_⟩
 simp only[RV.listAt]at h2
 obtain⟨u,r,e,_,hat,rfl⟩:=h2
 simp only[List.cons.injEq,and_true]at e
 rw[e]
 exact hat
end
structure PackP where
 init:List UInt8
 leaf:Leaf
 sig:List UInt8
 deriving DecidableEq
structure PropP where
 kind:UInt8
 pack:PackP
 leaf:Leaf
 at_:Int
 deriving DecidableEq
abbrev PackP.c(p:PackP):List RV:=[bs p.init,bs p.leaf.box,bs p.leaf.sign,bs p.leaf.ident,U8 p.leaf.src,bs p.leaf.parent,bs p.leaf.sig,bs p.sig]
abbrev PropP.c(p:PropP):List RV:=[U8 p.kind,bs p.pack.init,bs p.pack.leaf.box,bs p.pack.leaf.sign,bs p.pack.leaf.ident,U8 p.pack.leaf.src,bs p.pack.leaf.parent,bs p.pack.leaf.sig,bs p.pack.sig,bs p.leaf.box,bs p.leaf.sign,bs p.leaf.ident,U8 p.leaf.src,bs p.leaf.parent,bs p.leaf.sig,I p.at_]
section
open Go.ChangeShapes Go.WideShapes Go.ChangeAt Go.RowKit
theorem zflb{α:Type}{l:List α}(h:l.length=8): ∃a0 a1 a2 a3 a4 a5 a6 a7,l=[a0,a1,a2,a3,a4,a5,a6,a7]:=by
 match l,h with
 |[a0,a1,a2,a3,a4,a5,a6,a7],_=>exact⟨_,_,_,_,_,_,_,_,rfl⟩
theorem zd8b{α:Type}{l:List α}(h:l.length=16): ∃a0 a1 a2 a3 a4 a5 a6 a7 a8 a9 b0 b1 b2 b3 b4 b5,l=[a0,a1,a2,a3,a4,a5,a6,a7,a8,a9,b0,b1,b2,b3,b4,b5]:=by
 match l,h with
 |[a0,a1,a2,a3,a4,a5,a6,a7,a8,a9,b0,b1,b2,b3,b4,b5],_=>exact⟨_,_,_,_,_,_,_,_,_,_,_,_,_,_,_,_,rfl⟩
section
variable {r:Rd Tryz.prog}
theorem Rd.pack:r.Reads PackP.c (λ_=>True) 33:=λfuel cs x hx=>by
 obtain⟨hl,xs,n,_,hxl,hf⟩:=Rd.struct (C:=8) Tryz.underlying33 (by kernel_rfl) hx
 obtain⟨a0,a1,a2,a3,a4,a5,a6,a7,rfl⟩:=zflb hl
 obtain⟨y0,y1,y2,rfl⟩:=zur hxl
 have h0:r.trod n 25 [a0]=some y0:=hf 0 _ rfl 1 (by kernel_rfl)
 have h1:r.trod n 31 [a1,a2,a3,a4,a5,a6]=some y1:=hf 1 _ rfl 6 (by kernel_rfl)
 have h2:r.trod n 25 [a7]=some y2:=hf 2 _ rfl 1 (by kernel_rfl)
 obtain⟨s0,k0,g0⟩:=(Rd.bytes Tryz.underlying25 Tryz.underlying5 (by kernel_rfl)) _ _ _ h0
 obtain⟨s1,k1,g1⟩:=Rd.leaf _ _ _ h1
 obtain⟨s2,k2,g2⟩:=(Rd.bytes Tryz.underlying25 Tryz.underlying5 (by kernel_rfl)) _ _ _ h2
 exact⟨⟨s0,s1,s2⟩,trivial,zbh g0 (zbh g1 g2)⟩
theorem Rd.prop:r.Reads PropP.c (λp=>Sx.i64 p.at_) 35:=λfuel cs x hx=>by
 obtain⟨hl,xs,n,_,hxl,hf⟩:=Rd.struct (C:=16) Tryz.underlying35 (by kernel_rfl) hx
 obtain⟨a0,a1,a2,a3,a4,a5,a6,a7,a8,a9,b0,b1,b2,b3,b4,b5,rfl⟩:=zd8b hl
 obtain⟨y0,y1,y2,y3,rfl⟩:=zfkb hxl
 have h0:r.trod n 5 [a0]=some y0:=hf 0 _ rfl 1 (by kernel_rfl)
 have h1:r.trod n 33 [a1,a2,a3,a4,a5,a6,a7,a8]=some y1:=hf 1 _ rfl 8 (by kernel_rfl)
 have h2:r.trod n 31 [a9,b0,b1,b2,b3,b4]=some y2:=hf 2 _ rfl 6 (by kernel_rfl)
 have h3:r.trod n 3 [b5]=some y3:=hf 3 _ rfl 1 (by kernel_rfl)
 obtain⟨s0,k0,g0⟩:=(Rd.u8 Tryz.underlying5) _ _ _ h0
 obtain⟨s1,k1,g1⟩:=Rd.pack _ _ _ h1
 obtain⟨s2,k2,g2⟩:=Rd.leaf _ _ _ h2
 obtain⟨s3,k3,g3⟩:=(Rd.i64 Tryz.underlying3) _ _ _ h3
 exact⟨⟨s0,s1,s2,s3⟩,k3,zbh g0 (zbh g1 (zbh g2 g3))⟩
end
end
section
open Ieee
def fw(s:Bool)(n:Nat):Nat:=double.nearest s n 0
def fl(n:Int):Nat:=fw (decide (n<0)) n.natAbs
end
section
variable {P:Program} {T:TT} {B:Bs} {N:Nat} {S:St} {a:Act} {w:World} {k:Kp} {g:Env} {o:Oper} {Q:Exit->Act->World->Prop}
def cloS{α:Type}(P:Program)(arg:α->RV)(D:α->Prop)(q:α->Bool):Stable where
 at_ w k v:=∃f rvs cap,v= .func (.func f) #[] cap/\RV.partsAt w k rvs cap.toList/\∀x,D x->zab P f (arg x::rvs) (.r (.b (q x)))
 mono:=λh ⟨f,rvs,cap,e,hp,hg⟩=>⟨f,rvs,cap,e,RV.parts_mono h rvs _ hp,hg⟩
 one:=by rintro w k v ⟨f,rvs,cap,rfl,_⟩;rfl
theorem Vstep.sub{S':St}{K:St->Prop}(hs:Sub S S')(h:Vstep P S' o K):Vstep P S o K:=by
 obtain⟨ι,S2,hy,hK⟩:=h
 refine⟨ι,S2,λB N a w k Q hs0 hd=>?_,hK⟩
 obtain⟨k',hs'⟩:=hs B N a w k hs0
 exact hy B N a w k' Q hs' hd
theorem Vstep.clo{α:Type}{arg:α->RV}{D:α->Prop}{q:α->Bool}{t:Nat}{x:Operand}{ts:Array TypeId}{f:TF}{v:RV}{K:St->Prop}(y:α)
  (hop:o.op= .call {callee:= .value (.tmp t),args:= #[x],argTypes:=ts}) (hf:fget S.F t=some (.r (.s (cloS P arg D q)))) (hx:opr S x=some f) (hv:S.rv f=some v) (hc:Cv v (arg y)) (hD:D y)
  (hK:newK S o.dst (.r (.b (q y))) none K):Vstep P S o K:=by
 rw[zat]at hK
 refine Vstep.one (λB N a w k Q ⟨g,hs⟩ hd=>?_) hK
 have hfv:=(hs.facts t _ hf).2
 simp only[TF.at_,RV.at_]at hfv
 obtain⟨fn,rvs,cap,e,hp,hg⟩:=hfv
 have hxv:=zdm hs hv (zag hs hx).2
 have hus:RV.partsAt w k (v::rvs) (a.eval x::cap.toList):=by simp only[RV.partsAt];exact⟨_,_,rfl,hxv,hp⟩
 have:=zkt (o:=o) (Q:=Q) (K:=λf ow=>f= .r (.b (q y))/\ow=none) hs hus (zk hc (zn rvs)) (hg y hD) (by
  have e2:a.eval (.tmp t)= .func (.func fn) #[] cap:=by
   have:a.eval (.tmp t)=a.tmps.getD t undef:=by simp[Act.eval]
   rw[this,e]
  have e3: #[a.eval x]++cap=(a.eval x::cap.toList).toArray:=by apply Array.ext';simp
  simp[execOp,hop,resolve,e2,Deferred.ofValue,invoke,e3]) ⟨rfl,rfl⟩
 refine Oper.wp_mono ?_ this
 rintro a' w' ⟨f',ow,u,k',⟨rfl,rfl⟩,rfl,hl⟩
 exact⟨k',hl.sat hs hd⟩
theorem Vstep.cloB{α:Type}{arg:α->RV}{D:α->Prop}{q:α->Bool}{t:Nat}{x:Operand}{ts:Array TypeId}{f:TF}{v:RV}{K:St->Prop}(y:α)
  (hop:o.op= .call {callee:= .value (.tmp t),args:= #[x],argTypes:=ts}) (hf:fget S.F t=some (.r (.s (cloS P arg D q)))) (hx:opr S x=some f) (hv:S.rv f=some v) (hc:Cv v (arg y)) (hD:D y)
  (h1:q y=true->newK S o.dst (.r (.b true)) none K) (h0:q y=false->newK S o.dst (.r (.b false)) none K):Vstep P S o K:=by
 refine Vstep.clo y hop hf hx hv hc hD ?_
 cases hq:q y
 ·exact h0 hq
 ·exact h1 hq
theorem SatE.pub(hs:SatE B N S a w k g){id:Nat}{vs:List RV}(ho:oget S.O id=some (.box (vs.map .r))):
  ∃b k',g id=(.pointer (some ⟨b,0,none⟩),some b)/\Le w k w k'/\b<w.heap.size/\RV.cellsAt w k' b 0 vs/\SatE B N (S.set id none) a w k' g:=by
 obtain⟨_,_,hat,_⟩:=hs.owns id _ ho
 simp only[Ow.at_]at hat
 obtain⟨b,cur,ty,e,hh,hk,hsz,hc⟩:=hat
 have hw:Wrote w k w (kset k b vs.length) (some b):=⟨rfl,rfl,rfl,Nat.le_refl _,λx _ hne=>⟨rfl,by simp[kset,show x≠b fromλh=>hne (by rw[h])]⟩,λx hx=>by
  cases hx
  exact⟨by omega,λ_ _=>rfl,λh=>by omega⟩⟩
 refine⟨b,kset k b vs.length,e,hw.le,(Array.getElem?_eq_some_iff.1 hh).1,?_,hs.wrote hw (id:=some id) ⟨⟨_,ho⟩,by rw[e]⟩⟩
 rw[RV.cellsAt_iff]
 intro j f hf
 have hj:=(List.getElem?_eq_some_iff.1 hf).1
 rw[List.length_map]at hsz
 have hcj:cur[j]?=some cur[j]:=Array.getElem?_eq_getElem (by omega)
 have h1:=hc j (.r f) cur[j] (by simp[hf]) hcj
 refine⟨by rw[zbu];omega,cur[j],?_,h1.1,RV.mono hw.le f _ h1.2⟩
 rw[Nat.zero_add,cell_of_row w b j cur ty (0,0) hh]
 exact hcj
theorem zie{id t:Nat}(vs:List RV)(hf:fget S.F t=some (.own id))(ho:oget S.O id=some (.box (vs.map .r))):Sub S ⟨(t, .r (.ptr vs))::S.F,(id,none)::S.O,S.nx⟩:=by
 rintro B N a w k ⟨g,hs⟩
 obtain⟨b,k',hg,hle,hb,hc,h⟩:=hs.pub ho
 have hv:=(hs.facts t _ hf).2
 simp only[TF.at_]at hv
 refine⟨k',g,h.size,h.defers,h.keep,h.kk,λt' f hf'=>?_,h.owns,h.apart⟩
 rcases za5 hf' with⟨rfl,rfl⟩ |⟨_,hf'⟩
 ·refine⟨trivial,?_⟩
  simp only[TF.at_,RV.at_]
  exact⟨b,0,by rw[hv,hg],hb,hc⟩
 ·exact h.facts t' f hf'
theorem zlj(hs:SatE B N S a w k g): ∀{xs:List Operand} {vs:List RV},oprs S xs=some vs->RV.partsAt w k vs (xs.map a.eval)
 |[],vs,h=>by simp only[oprs]at h;cases h;rfl
 |x::xs,vs,h=>by
  simp only[oprs]at h
  split at h
  ·rename_i f hf
   split at h
   ·rename_i v vs' hv hvs
    cases h
    simp only[List.map_cons,RV.partsAt]
    exact⟨_,_,rfl,zdm hs hv (zag hs hf).2,zlj hs hvs⟩
   ·cases h
  ·cases h
def entsAt(w:World)(k:Kp)(ents:List (Int×RV))(es:List MapEntry):Prop:=es.length=ents.length/\∀(j:Nat) (x:Int×RV) (e:MapEntry),ents[j]?=some x->es[j]?=some e->e.key= .int .i64 x.1/\x.2.at_ w k e.val
theorem entsAt.mono{w':World}{k':Kp}(h:Le w k w' k'){ents:List (Int×RV)}{es:List MapEntry}(he:entsAt w k ents es):entsAt w' k' ents es:=
 ⟨he.1,λj x e h1 h2=>⟨(he.2 j x e h1 h2).1,RV.mono h _ _ (he.2 j x e h1 h2).2⟩⟩
def stampE(es:Array MapEntry)(c:Nat):Prop:=(∀x∈es.toList,x.born<c)/\(es.toList.map (·.born)).Nodup/\(es.toList.map (·.key)).Nodup
theorem stampE.nil:stampE #[] 0:=⟨λx h=>by simp at h,by simp,by simp⟩
theorem stampE.push{es:Array MapEntry}{c:Nat}{key val:Value}(h:stampE es c)(hk: ∀x∈es.toList,x.key≠key):stampE (es.push {key:=key,val:=val,born:=c}) (c+1):=by
 refine⟨λx hx=>?_,?_,?_⟩
 ·rw[Array.toList_push]at hx
  rcases List.mem_append.1 hx with hx |hx
  ·have:=h.1 x hx;omega
  ·rw[List.mem_singleton.1 hx];exact Nat.lt_succ_self _
 ·rw[Array.toList_push,List.map_append,List.nodup_append]
  refine⟨h.2.1,by simp,λx hx y hy e=>?_⟩
  obtain⟨z,hz,rfl⟩:=List.mem_map.1 hx
  have:=h.1 z hz
  simp at hy
  omega
 ·rw[Array.toList_push,List.map_append,List.nodup_append]
  refine⟨h.2.2,by simp,λx hx y hy e=>?_⟩
  obtain⟨z,hz,rfl⟩:=List.mem_map.1 hx
  simp at hy
  exact hk z hz (e.trans hy)
def mapS(ents:List (Int×RV)):Stable where
 at_ w k v:=(v= .map none/\ents=[])\/∃b es c,v= .map (some b)/\b<w.heap.size/\0<k b/\w.heap[b]?=some (.map es c)/\entsAt w k ents es.toList/\stampE es c
 mono:=by
  rintro w k w' k' v h (h1 |⟨b,es,c,e,hb,hk,hh,he,hst⟩)
  ·exact .inl h1
  ·exact .inr ⟨b,es,c,e,Nat.lt_of_lt_of_le hb h.size,Nat.lt_of_lt_of_le hk (h.keep b hb),h.map b hb hk es c hh,he.mono h,hst⟩
 one:=by
  rintro w k v (⟨rfl,_⟩ |⟨b,es,c,rfl,_⟩)<;>rfl
def mapO(ents:List (Int×RV)):GOw where
 at_ w k vb:=∃b es c,vb=(.map (some b),some b)/\w.heap[b]?=some (.map es c)/\k b=0/\entsAt w k ents es.toList/\stampE es c
 mono:=by
  rintro w k w' k' vb h hb ⟨b,es,c,rfl,hh,hk,he,hst⟩
  have:=hb b rfl
  exact⟨b,es,c,rfl,this.1.trans hh,this.2.trans hk,he.mono h,hst⟩
 one:=by rintro w k vb ⟨b,es,c,rfl,_⟩;rfl
def zcq:List (Int×RV)->Int->Option RV
 |[],_=>none
 |(m,r)::l,n=>if m=n then some r else zcq l n
theorem zzd: ∀{ents:List (Int×RV)} {es:List MapEntry} {n:Int},entsAt w k ents es->zcq ents n=none->∀x∈es,x.key≠ .int .i64 n
 |[],[],n,_,_,x,hx=>by cases hx
 |[],e::es,n,h,_,x,hx=>by have:=h.1;simp at this
 |x::ents,[],n,h,_,y,hy=>by cases hy
 |(m,r)::ents,e::es,n,h,hm,x,hx=>by
  obtain⟨h1,h2⟩:=h.2 0 (m,r) e (by simp) (by simp)
  simp only[zcq]at hm
  split at hm
  ·cases hm
  ·rename_i hne
   rcases List.mem_cons.1 hx with rfl |hx
   ·rw[h1]
    intro e'
    simp at e'
    exact hne e'
   ·exact zzd ⟨by have:=h.1;simpa using this,λj x e h1 h2=>h.2 (j+1) x e (by simpa using h1) (by simpa using h2)⟩ hm x hx
theorem zmj{kd:IntKind}{n:Int}: ∀{ents:List (Int×RV)} {es:List MapEntry} (i:Nat),entsAt w k ents es->
  ∃res,Instr.findNow (.int kd) (.int .i64 n) es i=some res/\match zcq ents n with
   |some r=>∃j v,res=some (j,v)/\r.at_ w k v
   |none=>res=none
 |[],[],i,_=>⟨none,rfl,rfl⟩
 |[],e::es,i,h=>by have:=h.1;simp at this
 |x::ents,[],i,h=>by have:=h.1;simp at this
 |(m,r)::ents,e::es,i,h=>by
  obtain⟨h1,h2⟩:=h.2 0 (m,r) e (by simp) (by simp)
  simp only[Instr.findNow,h1,Instr.sameNow,if_true,zcq]
  by_cases hm:m=n
  ·rw[if_pos hm]
   subst hm
   exact⟨some (i,e.val),by simp,i,e.val,rfl,h2⟩
  ·rw[if_neg hm]
   have:(n==m)=false:=by simp;omega
   rw[this]
   simp only
   exact zmj (i+1) ⟨by have:=h.1;simpa using this,λj x e h1 h2=>h.2 (j+1) x e (by simpa using h1) (by simpa using h2)⟩
theorem zjt{kt:TypeId}{n:Int}{ents:List (Int×RV)}{es:List MapEntry}(hk:P.underlying kt=some (.int .i64))(he:entsAt w k ents es):
  ∃res,(Instr.findKey kt (.int .i64 n) es).run P w= .ok res w/\match zcq ents n with
   |some r=>∃j v,res=some (j,v)/\r.at_ w k v
   |none=>res=none:=by
 obtain⟨res,h1,h2⟩:=zmj (kd:= .i64) (n:=n) 0 he
 exact⟨res,by simp[Instr.findKey,run_underlying hk w,h1],h2⟩
theorem zuk{kt:TypeId}{n:Int}{b:Bool}{m:Nat}(hk:P.underlying kt=some (.int .i64)):(Instr.checkKey b (m+1) kt (.int .i64 n)).run P w= .ok () w:=by
 simp[Instr.checkKey,run_underlying hk w]
theorem zey{kt:TypeId}{n:Int}{b:Bool}(hk:P.underlying kt=some (.int .i64)):(Instr.checkKey b 10000 kt (.int .i64 n)).run P w= .ok () w:=zuk (m:=9999) hk
theorem zrd{t kt et:TypeId}{v:Value}{n:Int}{ok:Bool}{ents:List (Int×RV)}{z:Value}{zr:RV}(hu:P.underlying t=some (.map kt et))(hk:P.underlying kt=some (.int .i64))(hz:(P.info? et).bind (·.zero)=some z)(hzr:zr.at_ w k z)
  (hv:(mapS ents).at_ w k v): ∃u b,(Instr.lookup t v (.int .i64 n) ok).run P w= .ok (if ok then .tuple #[u, .bool b]else u) w/\match zcq ents n with
   |some r=>r.at_ w k u/\b=true
   |none=>zr.at_ w k u/\b=false:=by
 obtain⟨i,hi,hz⟩:=Option.bind_eq_some_iff.1 hz
 have zv:(zeroValue et).run P w= .ok z w:=by simp[zeroValue,typeInfo,hi,hz]
 rcases hv with⟨rfl,rfl⟩ |⟨b,es,c,rfl,_,_,hh,he,_⟩
 ·refine⟨z,false,?_,hzr,rfl⟩
  obtain⟨res,h1,h2⟩:=zjt (n:=n) (k:=k) hk (show entsAt w k [] []from⟨rfl,λj x e h=>by simp at h⟩)
  simp only[zcq]at h2
  subst h2
  simp[Instr.lookup,run_underlying hu w,zey hk,h1,zv]
 ·obtain⟨res,h1,h2⟩:=zjt (n:=n) hk he
  cases hm:zcq ents n with
  |none=>
   rw[hm]at h2
   simp only at h2
   subst h2
   exact⟨z,false,by simp[Instr.lookup,run_underlying hu w,zey hk,h1,zv,hh,getObj,Sem.run],hzr,rfl⟩
  |some r=>
   rw[hm]at h2
   obtain⟨j,u,rfl,hr⟩:=h2
   exact⟨u,true,by simp[Instr.lookup,run_underlying hu w,zey hk,h1,hh,getObj,Sem.run],hr,rfl⟩
theorem Vstep.look2{t kt et:TypeId}{x y:Operand}{n:Int}{ents:List (Int×RV)}{z:Value}{K:St->Prop}(zr:RV)(hop:o.op= .lookup t x y true)(hx:opr S x=some (.r (.s (mapS ents))))(hy:opr S y=some (.r (.i .i64 n)))
  (hu:P.underlying t=some (.map kt et)) (hk:P.underlying kt=some (.int .i64)) (hz:(P.info? et).bind (·.zero)=some z) (hzr: ∀w k,zr.at_ w k z)
  (h1: ∀r,zcq ents n=some r->newK S o.dst (.r (.tu [r, .b true])) none K) (h0:zcq ents n=none->newK S o.dst (.r (.tu [zr, .b false])) none K):Vstep P S o K:=by
 simp only[zat]at h1 h0
 cases hm:zcq ents n with
 |some r=>
  refine Vstep.one (λB N a w k Q ⟨g,hs⟩ hd=>?_) (h1 r hm)
  have hv:=(zag hs hx).2
  have hn:=(zag hs hy).2
  simp only[TF.at_,RV.at_]at hv hn
  obtain⟨u,b,hr,h2⟩:=zrd (n:=n) (ok:=true) hu hk hz (hzr w k) hv
  rw[hm]at h2
  refine za0 (v:= .tuple #[u, .bool b]) (w':=w) (by simp[execOp,hop,hn,hr]) ⟨k,g,hs.put hd trivial ?_⟩
  simp only[TF.at_,RV.at_]
  exact⟨_,rfl,by simp only[RV.partsAt];exact⟨_,_,rfl,h2.1,_,_,rfl,by simp[RV.at_,h2.2],rfl⟩⟩
 |none=>
  refine Vstep.one (λB N a w k Q ⟨g,hs⟩ hd=>?_) (h0 hm)
  have hv:=(zag hs hx).2
  have hn:=(zag hs hy).2
  simp only[TF.at_,RV.at_]at hv hn
  obtain⟨u,b,hr,h2⟩:=zrd (n:=n) (ok:=true) hu hk hz (hzr w k) hv
  rw[hm]at h2
  refine za0 (v:= .tuple #[u, .bool b]) (w':=w) (by simp[execOp,hop,hn,hr]) ⟨k,g,hs.put hd trivial ?_⟩
  simp only[TF.at_,RV.at_]
  exact⟨_,rfl,by simp only[RV.partsAt];exact⟨_,_,rfl,h2.1,_,_,rfl,by simp[RV.at_,h2.2],rfl⟩⟩
end
section
variable {P:Program} {T:TT} {B:Bs} {N:Nat} {S:St} {a:Act} {w:World} {k:Kp} {g:Env} {o:Oper} {Q:Exit->Act->World->Prop}
theorem zij{m n:Nat}(h:m≠n):Nat.beq m n=false:=by
 cases hb:Nat.beq m n
 ·rfl
 ·exact absurd (Nat.eq_of_beq_eq_true hb) h
end
section
variable {P:Program} {T:TT} {B:Bs} {N:Nat} {S:St} {a:Act} {w:World} {k:Kp} {g:Env} {o:Oper} {Q:Exit->Act->World->Prop}
theorem chAt.blk{e:TypeId}{sz n:Nat}{cells:List RV}{pub:Bool}{u:Value}{ob:Option Nat}(h:chAt w k e sz n cells pub u ob){b:Nat}(hb:ob=some b):k b=(if pub then n*sz else 0)/\(∃cur,w.heap[b]?=some (.cells cur e (0,0))):=by
 rcases h.2 with⟨h,_⟩ |⟨b',cap,cur,h,_,hh,_,_,_,h',_⟩
 ·rw[h]at hb;cases hb
 ·rw[h]at hb;cases hb;exact⟨h',cur,hh⟩
end
section
variable {P:Program} {T:TT} {B:Bs} {N:Nat} {S:St} {a:Act} {w:World} {k:Kp} {g:Env} {o:Oper} {Q:Exit->Act->World->Prop}
theorem SatE.reset(hs:SatE B N S a w k g){id:Nat}{ow:Ow}(ho:oget S.O id=some ow):SatE B N (S.set id (some ow)) a w k g:=by
 have up: ∀i o',oget (S.set id (some ow)).O i=some o'->oget S.O i=some o':=λi o' h=>by
  rcases zal h with⟨rfl,e⟩ |⟨_,h⟩
  ·cases e;exact ho
  ·exact h
 exact⟨hs.size,hs.defers,hs.keep,hs.kk,hs.facts,λi o' h=>hs.owns i o' (up i o' h),λi j o1 o2 b hi hj=>hs.apart i j o1 o2 b (up i o1 hi) (up j o2 hj)⟩
end
end Go.Proofs.YtpcfoglfakeimaaGreat.Sx
