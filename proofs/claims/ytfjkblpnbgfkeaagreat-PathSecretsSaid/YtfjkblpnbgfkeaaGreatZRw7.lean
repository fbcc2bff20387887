import Derived.Test.YtfjkblpnbgfkeaaGreatZGn
import Derived.Test.YtfjkblpnbgfkeaaGreatZGq
import Derived.Test.YtfjkblpnbgfkeaaGreatZFa
import Derived.Test.YtfjkblpnbgfkeaaGreatRows
namespace Go.Proofs.YtfjkblpnbgfkeaaGreat.Sx
open Go.RowKit
set_option linter.unusedVariables false
section
theorem za3b:zab Tryz.prog 49 [] (bch [103]):=by
 refine zaa (T:=Tab) mixed Tab_ok Tryz.func49 rfl (by kernel_rfl) ?_
 refine zw ?_
 exact rfl
def zdy(n:Nat):Leaf:=slOk (zc9 (zbd (n+1)) 1 (UInt8.ofNat (n+1)) (n+1)) (zbd (n+1)) [103] 0
def zve(n:Nat):KeyP:=⟨0,zdb (zbd (n+2))⟩
def zvf(n:Nat):Wld:=⟨[⟨1,zdy n,zpr⟩],[[zve n]],[zbd (n+1)],n+2⟩
theorem z2w{ρ:List (Nat×Nat)}{S:St}{f:TF}{v:RV}{t:List Node}{n:Int}{i j:Nat}(h0:S.rv f=some v)(hc:Cv v (nods t))(h1:zbc ρ 1=some i)(h2:zbc ρ 2=some j):cvOw ρ S (.box [f, .own i, .own j, .r (I n)]) (wBx t n):=
 ⟨_,_,rfl,by show(match S.rv f with |some v'=>Cv v' (nods t) |none=>False);rw[h0];exact hc,_,_,rfl,by show(match zbc ρ 1,TF.own i with |some j, .own i=>i=j |_,_=>False);rw[h1],_,_,rfl,by show(match zbc ρ 2,TF.own j with |some j, .own i=>i=j |_,_=>False);rw[h2],_,_,rfl,cr,rfl⟩
theorem z3v(v:Value)(n:Nat)(lf:Leaf)(pr:List UInt8)(hn:n<=1000)
  (c: ∀u:Value,Acts Tryz.prog 48 3 (wO ⟨[],[],[],n+1⟩) [.own 0, .r (bs (zbd (n+1))), .r (bs [103]), .r (U8 1), .r (U8 (UInt8.ofNat (n+1))), .r (I 0)] [(0,u)] 4 (wO ⟨[],[],[],n+2⟩) (.r (.tu [.ag lf.c,bs pr, .b true]))):
  Acts Tryz.prog 21 3 (wO ⟨[],[],[],n⟩) [.own 0] [(0,v)] 3 (wO ⟨[⟨1,lf,zpr⟩],[[⟨0,pr⟩]],[zbd (n+1)],n+2⟩) (.r (.tu [I 0, .b true])):=by
 refine zb4 (T:=Tab) mixed Tab_ok Tryz.func21 rfl (by kernel_rfl) rfl ⟨⟨_,_,rfl,rfl,zax,zax⟩,trivial⟩ ?_
 refine zj [(0,0),(1,1),(2,2)] [0] (λvs _=>zy4 (vs 0) ⟨[],[],[],n⟩ (by show n<=_;omega)) (zi rfl ⟨_,_,rfl,rfl,rfl⟩) rfl ⟨zea rfl rfl,⟨rfl,rfl,rfl,rfl,zn _⟩,⟨rfl,rfl,rfl,rfl,zn _⟩,trivial⟩ (zhd _) ?_
 have hsl:=ze4 (n+1)
 generalize zbd (n+1)=sd at hsl c⊢
 refine Vdraw.code (Vcode.bar2 mixed Tab_ok 8 [0,1,2,3,4,5,6,7,13,8,9,10,11,12,14,15,16] [0,1,2,3,4,5,6,7,9,8,10,11,12,13,14,15,16] [0,1,2,3,5,6,4] [0,1,2,3,4,6,7,5]
  ⟨[(0, .own 0),(4, .r (bs sd)),(5, .own 3),(6, .r (bs pr)),(7, .r (.b true)),(1000000, .nm 0 v)],lift (wO ⟨[],[],[],n+2⟩)++[(3,some (.box (lf.c.map .r)))],4⟩ (by kernel_rfl) ?_ ?_)
 ·refine ze za3b ?_
  refine Vint.u8 (n+1) rfl ?_
  refine⟨?_,?_⟩
  ·refine zj [(0,0),(1,4),(2,5)] [0] (λvs _=>c (vs 0)) (zi rfl ⟨_,_,rfl,rfl,_,_,rfl,cr,_,_,rfl,cr,_,_,rfl,cr,_,_,rfl,cr,_,_,rfl,cr,rfl⟩) rfl ⟨zea rfl rfl,⟨rfl,rfl,rfl,rfl,zn _⟩,⟨rfl,rfl,rfl,rfl,zn _⟩,trivial⟩ (zhd _) ?_
   exact zac [(0,0),(1,9),(2,10),(3,7)] rfl ⟨rfl,cr,rfl,cr,cr,⟨rfl,rfl⟩,trivial⟩ ⟨zea rfl rfl,⟨rfl,rfl,rfl,rfl,zn _⟩,⟨rfl,rfl,rfl,rfl,zn _⟩,⟨_,_,rfl,cr,_,_,rfl,cr,_,_,rfl,cr,_,_,rfl,cr,_,_,rfl,cr,_,_,rfl,cr,rfl⟩,trivial⟩
  ·refine zj [(0,0),(1,4),(2,5)] [0] (λvs _=>c (vs 0)) (zi rfl ⟨_,_,rfl,rfl,_,_,rfl,cr,_,_,rfl,cr,_,_,rfl,cr,_,_,rfl,cr,_,_,rfl,cr,rfl⟩) rfl ⟨zea rfl rfl,⟨rfl,rfl,rfl,rfl,zn _⟩,⟨rfl,rfl,rfl,rfl,zn _⟩,trivial⟩ (zhd _) ?_
   exact zac [(0,0),(1,9),(2,10),(3,12)] rfl ⟨rfl,cr,rfl,cr,cr,⟨rfl,rfl⟩,trivial⟩ ⟨zea rfl rfl,⟨rfl,rfl,rfl,rfl,zn _⟩,⟨rfl,rfl,rfl,rfl,zn _⟩,⟨_,_,rfl,cr,_,_,rfl,cr,_,_,rfl,cr,_,_,rfl,cr,_,_,rfl,cr,_,_,rfl,cr,rfl⟩,trivial⟩
 refine zu rfl (zq ?_)
 refine zt rfl (zp ?_)
 refine za rfl rfl ?_
 refine zw ?_
 refine zw ?_
 refine zj [(0,0),(1,1),(2,2)] [0] (λvs _=>zfib (vs 0) ⟨[⟨1,lf,zpr⟩],[],[],n+2⟩ 0 [⟨0,pr⟩] sd rfl (by show 0<=1000000;omega) (by decide)) (zi rfl ⟨_,_,rfl,rfl,_,_,rfl,cr,_,_,rfl,cr,_,_,rfl,cr,rfl⟩) rfl ⟨z2w rfl (Cv.sl (zk (cr) (zk (cr) (zk (cr) (zk (cr) (zk (cr) (zk (cr) (zk (cr) (zk (Cv.nil 1) (zk (Cv.nil 1) (zk (Cv.nil 1) Cvs.nil))))))))))) rfl rfl,⟨rfl,rfl,rfl,rfl,zn _⟩,⟨rfl,rfl,rfl,rfl,zn _⟩,trivial⟩ (zhd _) ?_
 exact zbx (.inl rfl) [(0,0),(1,7),(2,8)] [(2, .r (I 0)),(3, .r (.b true))] [] rfl ⟨cr,cr,⟨rfl,rfl⟩,trivial⟩ ⟨zea rfl rfl,⟨rfl,rfl,rfl,rfl,zn _⟩,⟨rfl,rfl,rfl,rfl,zn _⟩,trivial⟩ ⟨⟨1000000,rfl⟩,trivial⟩ ⟨_,rfl,cr⟩
theorem zdob(v:Value)(n:Nat)(hn:n<=1000):Acts Tryz.prog 21 3 (wO ⟨[],[],[],n⟩) [.own 0] [(0,v)] 3 (wO (zvf n)) (.r (.tu [I 0, .b true])):=
 z3v v n (zdy n) (zdb (zbd (n+2))) hn λu=>z7h u ⟨[],[],[],n+1⟩ (zbd (n+1)) [103] 1 (UInt8.ofNat (n+1)) 0 (by show n+1<=_;omega) (ze4 _) (by decide) (.inl rfl) (by omega)
abbrev Wld.ptr(w:Wld):RV:= .ptr [nods w.t, .sl 1 w.keys.length (w.keys.map keyR),bss w.sign,I w.n]
theorem z0z(w:Wld)(c: ∀u:Value,Acts Tryz.prog 21 3 (wO ⟨[],[],[],0⟩) [.own 0] [(0,u)] 3 (wO w) (.r (.tu [I 0, .b true]))):zab Tryz.prog 11 [nl] (.r (.tu [w.ptr, .b true])):=by
 refine zbo (T:=Tab) mixed Tab_ok Tryz.func11 rfl (by kernel_rfl) ?_
 refine Vstep.sub ((zbe false 0 1 44 1 (cells:=[.r nl, .r nl, .r nl, .r (I 0)]) rfl rfl).trans (zbe false 0 2 22 1 (cells:=[.r nl, .own 1, .r nl, .r (I 0)]) rfl rfl)) (zj [(0,0),(1,1),(2,2)] [0] (λvs _=>c (vs 0)) (zi rfl ⟨_,_,rfl,rfl,rfl⟩) rfl ⟨z2w rfl (Cv.nil 10) rfl rfl,⟨rfl,rfl,rfl,rfl,zn _⟩,⟨rfl,rfl,rfl,rfl,zn _⟩,trivial⟩ (zhd _) ?_)
 refine Vloop.mkx (λ_:Unit=>⟨[(0, .r nl),(4, .own 0),(6, .r (.b true)),(7, .r (I 0))],lift (wO w),3⟩) (λ_=>True) (λ_=>0) () trivial (zac [(0,0),(1,4),(2,5)] rfl ⟨cr,rfl,cr,cr,trivial⟩ ⟨zea rfl rfl,⟨rfl,rfl,rfl,rfl,zn _⟩,⟨rfl,rfl,rfl,rfl,zn _⟩,trivial⟩) ?_
 intro _ _
 refine zu rfl ?_
 refine zq ?_
 refine⟨_,zo _,?_⟩
 refine⟨_,Sub.trans (zbw (id:=1) rfl) (Sub.trans (zbw (id:=2) rfl) (Sub.trans (zac [(0,0)] (S':=⟨[(2, .own 0),(3, .r (.b true))],[(0,some (.box ([nods w.t, .sl 1 w.keys.length (w.keys.map keyR),bss w.sign,I w.n].map .r)))],1⟩) rfl ⟨rfl,cr,trivial⟩ ⟨⟨_,_,rfl,cr,_,_,rfl,cr,_,_,rfl,cr,_,_,rfl,cr,rfl⟩,trivial⟩) (zgd (t:=2) [nods w.t, .sl 1 w.keys.length (w.keys.map keyR),bss w.sign,I w.n] rfl rfl))),?_⟩
 exact⟨_,rfl,cr⟩
theorem za8b:zab Tryz.prog 11 [nl] (.r (.tu [(zvf 0).ptr, .b true])):=z0z (zvf 0) λu=>zdob u 0 (by decide)
end
section
theorem ztf(seed label text:List UInt8):(zul seed label text).length=64:=z8s _ _
theorem zp0(n:Nat):(zdy n).box.length=32/\(zdy n).sign.length=32/\(zdy n).ident.length=1/\(zdy n).src.toNat=1/\(zdy n).parent.length=0/\(zdy n).sig.length=64:=
 ⟨zh1 _,zlj _,rfl,rfl,rfl,ztf _ _ _⟩
theorem zu0(lf:Leaf)(kR:RV)(nn:Int)(h1:lf.box.length=32)(h2:lf.sign.length=32)(h3:lf.ident.length=1)(h4:lf.src.toNat=1)(h5:lf.parent.length=0)(h6:lf.sig.length=64)(sd:List UInt8)(hsd:sd.length=32)
  (hplay:zab Tryz.prog 11 [nl] (.r (.tu [wptr [⟨1,lf,zpr⟩] kR (bss [sd]) nn, .b true]))):
  zab Tryz.prog 4 [] (.r (.b true)):=by
 have hlf:lf.fit:=⟨by omega,by omega,by omega,by omega,by omega⟩
 have hf:(⟨1,lf,zpr⟩:Node).fit:=⟨hlf,zsl⟩
 have hlr:lf.right=true:=by
  unfold Leaf.right
  exact decide_eq_true ⟨h1,h2,by omega,by omega,by omega,by omega, .inl h5,h6⟩
 have hr:(⟨1,lf,zpr⟩:Node).right=true:=by
  show(if(1:UInt8).toNat=0 then _ else if(1:UInt8).toNat=1 then lf.right&&zpr.none else _)=true
  rw[if_neg (by decide),if_pos (by decide),hlr]
  rfl
 have hL9:=ze4 9
 have cS:=zmh [] 0 (by decide) ⟨by omega,by omega⟩
 have c1:=zmh (zbd 9) 0 (by rw[hL9];decide) ⟨by omega,by omega⟩
 have c5:=zk1 (zbd 9) ⟨#[108,101,97,102]⟩ (by rw[hL9];decide) (by decide)
 have el:(labB (zbd 9) (sB ⟨#[108,101,97,102]⟩) [] 32).length=32:=zg6 _ _ _ (by omega)
 generalize labB (zbd 9) (sB ⟨#[108,101,97,102]⟩) [] 32=ls at c5 el
 have c6:=zrz ls (by omega)
 have eq:(zgj (zdb ls)).length=32:=zh1 _
 generalize zgj (zdb ls)=ql at c6 eq
 generalize zdb ls=pl at c6
 have e1: ∀sd:List UInt8,zch sd ((0:Int).toNat+1)=[secN sd 0]:=λ_=>rfl
 rw[e1]at cS c1
 have ec:(secN (zbd 9) 0).length=32:=by exact zpb _ 0
 generalize secN (zbd 9) 0=com at c1 ec
 generalize secN [] 0=q0 at cS
 have hml:(zfm lf ql []).fit:=⟨by show ql.length<=_;omega,by show lf.sign.length<=_;omega,by show lf.ident.length<=_;omega,by show 0<=_;omega,by show lf.sig.length<=_;omega⟩
 have hz:zS64.length=64:=by decide
 have c7:=zp9 (zfm lf ql []) sd [] 0 hml (by decide) (by show ql.length+lf.sign.length+lf.ident.length+0<=_;omega) (by unfold i64;omega)
 have hwr:((zfm lf ql []).with zS64).right=true:=by
  unfold Leaf.right
  refine decide_eq_true ⟨eq,h2,?_,?_,by show 0< (3:UInt8).toNat;decide,by show(3:UInt8).toNat<4;decide, .inl rfl,hz⟩
  ·show 0<lf.ident.length;omega
  ·show lf.ident.length<=64;omega
 have he:zfu (zfm lf ql []) sd 0=0:=by
  unfold zfu
  rw[if_pos hwr,if_pos (by unfold zfq;simp),if_pos hsd]
 have hsr:zjl (zfm lf ql []) sd [] 0= .tu [.ag (slOk (zfm lf ql []) sd [] 0).c,Er 0]:=by unfold zjl;rw[if_pos he]
 rw[hsr]at c7
 have hol:(slOk (zfm lf ql []) sd [] 0).fit:=⟨by show ql.length<=_;omega,by show lf.sign.length<=_;omega,by show lf.ident.length<=_;omega,by show 0<=_;omega,by show(zul _ _ _).length<=_;rw[ztf];omega⟩
 generalize slOk (zfm lf ql []) sd [] 0=ol at c7 hol
 obtain⟨m,hm1,hm2,cM⟩:=z0w ⟨1,lf,zpr⟩ (zbd 9) sd [] com ls pl ql ol hf hr rfl hL9 hsd hol c1 c5 c6 c7
 obtain⟨sp,lf',st,ks,ss,cm⟩:=m
 dsimp only at hm1 hm2
 subst hm1;subst hm2
 exact zvk ⟨1,lf,zpr⟩ sd q0 cm kR nn sp lf' ks ss ec hplay (z3y ⟨1,lf,zpr⟩ hf hr rfl) cS cM
theorem z3w:zab Tryz.prog 4 [] (.r (.b true)):=by
 obtain⟨h1,h2,h3,h4,h5,h6⟩:=zp0 0
 exact zu0 (zdy 0) (.sl 1 1 [keyR [zve 0]]) 2 h1 h2 h3 h4 h5 h6 (zbd 1) (ze4 _) za8b
theorem zr1(seed:List UInt8)(n:Int):zab Tryz.prog 3 [bs seed,I n] (.r (.b true)):=zt9 seed n z3w
end
section
open Go.ChangeShapes Go.WideShapes Go.ChangeAt Go.RowKit
theorem zaq{g:Nat->Bool}{a b c:Nat}(h:(List.range' a b).all g=true)(k:(List.range' (a+b) c).all g=true):(List.range' a (b+c)).all g=true:=by
 rw[<-List.range'_append_1,List.all_append,h,k];rfl
theorem zhu{α:Type}{g:Nat->α}{a b c:Nat}{l m:List α}(h:(List.range' a b).map g=l)(k:(List.range' (a+b) c).map g=m):(List.range' a (b+c)).map g=l++m:=by
 rw[<-List.range'_append_1,List.map_append,h,k]
theorem zgg{g:Nat->Bool}{n:Nat}(h:(List.range' 0 n).all g=true):(List.range n).all g=true:=by rw[List.range_eq_range'];exact h
theorem zqi{α β:Type}(l:List α)(d:β)(h:α->β):l.map h=(List.range l.length).map λi=>(l[i]?).elim d h:=by
 apply List.ext_getElem
 ·simp
 ·intro i h1 h2
  simp at h1
  simp[List.getElem?_eq_getElem h1]
theorem zkf{α:Type}(l:List α)(h:α->Bool):l.all h=(List.range l.length).all λi=>(l[i]?).elim true h:=by
 have e:=zqi l true h
 have: ∀m:List Bool,∀l:List α,l.map h=m->l.all h=m.all id:=λm l hm=>by rw[<-hm,List.all_map];rfl
 rw[this _ _ e,List.all_map];rfl
noncomputable def leadAt (i:Nat):List Nat:=(Tryz.prog.funcs[i]?).elim [] Tryz.prog.leadsTo
def z9j:List (List Nat):=[[],[],[1],[4,5,6,7,9,8,10,10],[11,5,13,14,12],[15,16],[15,17],[19,18,20],[10],[19,19],[],[21,22],[23,24,5,6,25,26,27,15,17,28,29,30,31],[33,32,34],[],[35],[15],[37,36,20],[39,39,40,38],[41,42,42,43],[45,46,44],[47,49,48,50,51,50],[52,53,21,54,49,48,55,56,57],[58],[59,60,61,62],[],[64,64,64,63],[58,31],[65,66,67,68],[69,70],[31,73,72,31,31,74,25],[65,25,25,75],[76,77,78,79,80,81,81,82,82],[],[84,83],[85,64,64,86],[85,87,86],[87,88],[41,89,89,89,89,43],[],[89,89,89,90],[],[91],[90],[93,94,92],[],[95],[14],[47,17,96,28],[],[],[97,98,99,100,101,60,102,103],[],[52],[97,104,105,106,99,107,99,108],[97,98,104,106,101],[47,109,49,110,52,13,111,10,13,112],[],[113,114],[60,115],[116,116],[58,117],[58,118],[120,119]]
theorem zd5b:(List.range' 0 64).map leadAt=z9j:=by kernel_rfl
def z9k:List (List Nat):=[[121],[25],[],[122,64,85],[124,123],[126,125],[71],[127,127],[],[],[128,128,129],[],[130],[130,131],[],[78,80,79,79,76,132,81,78],[133],[],[],[134,135],[136,41,137,138,137,136,80,138,137,34,42,34,42,137,137],[139,140],[141],[],[141],[],[83,83,83],[],[45,45,142,142,144,143,46],[],[145],[146,146],[147,149,148,150],[99,151,107,107,152],[153],[154],[31],[31],[155,156,156],[157,158],[99],[],[100,99,60],[159,160],[],[13,49,12,161],[162,24,163,164,26,165,100,30],[166,61,164,167,168,27,169,25,29],[170,10],[],[154,171,173,172,176,175,174,177,175,174],[116,178,179],[180,129],[179,117,178,117],[25,181,179,118,178,118,182,63],[183,139,184,185],[186],[187,139,85],[64,64],[96,188,190,189,147,148,150,190,189,192,191,193,120],[64,64],[194,195,196,197,198,199,200,201,125,125],[202,203],[]]
theorem zd6b:(List.range' 64 64).map leadAt=z9k:=by kernel_rfl
def z9l:List (List Nat):=[[],[128],[204],[205,80],[133,133],[130],[],[206,206,207,206,206,207,206,206,206,206,206,206],[],[],[209,208,41,208,42,208,42,42,208,208],[],[],[210,120,120,63,210,63],[211,212,211,212,143,143,213,213,212,143,45,143,211,143,211,213,212,213,143],[214,215,146],[217,216],[],[],[45,45,144,143,218,219],[220,221,222,222,211,223,224,223],[188],[220,144,143,46,143,225],[226],[99,74,60,102],[66,122,64],[227],[127,127],[],[],[228],[229],[],[23,24,31,25,164,27,85,85,35,231,230],[232,233],[234,165,165],[75,236,235],[],[23,238,60,239,27],[169,240],[6,165,16],[242,241],[243,10,10,244],[226,246,245],[247,249,250],[],[],[251,252],[253],[254],[255],[255],[154],[226,85],[226,64,64],[],[],[256,257,258,258,258,258,258,258],[],[],[190,189],[259,260],[120,261],[262,263]]
theorem zd7b:(List.range' 128 64).map leadAt=z9l:=by kernel_rfl
def z9m:List (List Nat):=[[264,215,215,260],[],[],[265,265],[266,267],[268,268,268,269],[],[],[],[],[],[],[],[130],[],[],[],[270,42,208],[63],[146],[146],[143],[264,215,215],[],[45,213,143],[271],[213,45,212,222,143,45,211,144,143,272],[45,143],[221],[45,219],[45,273,45,144,143],[212,212,143,211,211,143,143,143,211,143,212,212,211,211,143,143,143,143],[],[95],[274,122,64,275],[276,277],[278,278,278],[],[280,279],[],[281,282,283,172],[176,175,31,177,175,25],[67,66,284],[285],[237],[27,287,286],[180,180,60,289,285],[],[280,290],[],[],[10,10,10,10,10],[],[285],[74],[74,248],[291,245],[179,178],[154],[292],[126,293],[],[],[129]]
theorem zd8b:(List.range' 192 64).map leadAt=z9m:=by kernel_rfl
def z9n:List (List Nat):=[[258,258,258,258],[],[294],[],[262,263],[295,296,298,297,299],[215],[301,300],[],[],[126],[],[269],[302,302,302],[42,42,208,42,208,208,42,208],[303,304],[217,216,213,305,45,217,216,143,213,305,225,273],[212],[306,307,66,307,306,308],[85,64,64,64],[],[],[],[309,310,311],[87,64,64],[97,312],[97,104,31],[],[124,313],[],[314],[288],[174,165,165,165,165,165,165,165],[74],[315,310,316],[74],[],[317,318,319,320,321,322,155,323,324,293,293],[],[],[],[325],[139],[326,327,327,327,327,327,327],[328],[],[],[329,264],[],[95,95],[],[],[],[17,330,331],[37,37,120,37,36,36],[332,333,334],[181,179,312,178,312,182,63],[335,336,335,190,189,147,148,148,338,337],[],[330,20,331],[332,334,333],[155],[339,339],[266,267]]
theorem zd9b:(List.range' 256 64).map leadAt=z9n:=by kernel_rfl
def z9o:List (List Nat):=[[340,340,340,341],[],[155,155,155],[155,155],[155,155,155,155],[],[327,327,327,327],[342],[],[],[44,343,344],[37,120,36],[],[139,297,345],[346,347,297,347,348,349,348,349,345,347,348,350],[94,25,46,165,218,351,273,219],[259,301,300],[220,220,143,143,305,143,143,305],[220,220,222,222,211,223],[155,155],[341],[352,352,352],[],[353],[],[139,346],[354,355,356],[],[],[348],[],[305],[155],[],[357,357,358],[357],[357],[],[],[],[],[],[],[],[],[],[],[],[],[],[],[],[],[],[],[],[]]
theorem zeab:(List.range' 320 57).map leadAt=z9o:=by kernel_rfl
def leadL:List (List Nat):=(z9j++(z9k++(z9l++(z9m++(z9n++z9o)))))
theorem zv1:(List.range' 0 377).map leadAt=leadL:=zhu (b:=64) (c:=313) zd5b (zhu (b:=64) (c:=249) zd6b (zhu (b:=64) (c:=185) zd7b (zhu (b:=64) (c:=121) zd8b (zhu (b:=64) (c:=57) zd9b (zeab)))))
theorem zdab:(List.range' 0 64).all (rowFine Tryz.prog)=true:=by kernel_rfl
theorem zdbb:(List.range' 64 64).all (rowFine Tryz.prog)=true:=by kernel_rfl
theorem zdcb:(List.range' 128 64).all (rowFine Tryz.prog)=true:=by kernel_rfl
theorem zddb:(List.range' 192 64).all (rowFine Tryz.prog)=true:=by kernel_rfl
theorem zdeb:(List.range' 256 64).all (rowFine Tryz.prog)=true:=by kernel_rfl
theorem zdfb:(List.range' 320 64).all (rowFine Tryz.prog)=true:=by kernel_rfl
theorem zdgb:(List.range' 384 21).all (rowFine Tryz.prog)=true:=by kernel_rfl
theorem z6u:(List.range' 0 405).all (rowFine Tryz.prog)=true:=zaq (b:=64) (c:=341) zdab (zaq (b:=64) (c:=277) zdbb (zaq (b:=64) (c:=213) zdcb (zaq (b:=64) (c:=149) zddb (zaq (b:=64) (c:=85) zdeb (zaq (b:=64) (c:=21) zdfb (zdgb))))))
noncomputable def mapFine (t:Nat):Bool:=match Tryz.prog.underlying t with |some (.map _ e)=>decide (e<Tryz.prog.types.size) |_=>true
theorem zebb:(List.range' 0 64).all mapFine=true:=by kernel_rfl
theorem zecb:(List.range' 64 64).all mapFine=true:=by kernel_rfl
theorem zedb:(List.range' 128 64).all mapFine=true:=by kernel_rfl
theorem zeeb:(List.range' 192 64).all mapFine=true:=by kernel_rfl
theorem zefb:(List.range' 256 64).all mapFine=true:=by kernel_rfl
theorem zegb:(List.range' 320 64).all mapFine=true:=by kernel_rfl
theorem zehb:(List.range' 384 21).all mapFine=true:=by kernel_rfl
theorem z7w:(List.range' 0 405).all mapFine=true:=zaq (b:=64) (c:=341) zebb (zaq (b:=64) (c:=277) zecb (zaq (b:=64) (c:=213) zedb (zaq (b:=64) (c:=149) zeeb (zaq (b:=64) (c:=85) zefb (zaq (b:=64) (c:=21) zegb (zehb))))))
noncomputable def keyFine (t:Nat):Bool:=match Tryz.prog.underlying t with |some (.map k _)=>(match Tryz.prog.underlying k with |some (.array _ _) |some (.struct _)=>false |_=>true) |_=>true
theorem zdyb:(List.range' 0 64).all keyFine=true:=by kernel_rfl
theorem zdzb:(List.range' 64 64).all keyFine=true:=by kernel_rfl
theorem zd0b:(List.range' 128 64).all keyFine=true:=by kernel_rfl
theorem zd1b:(List.range' 192 64).all keyFine=true:=by kernel_rfl
theorem zd2b:(List.range' 256 64).all keyFine=true:=by kernel_rfl
theorem zd3b:(List.range' 320 64).all keyFine=true:=by kernel_rfl
theorem zd4b:(List.range' 384 21).all keyFine=true:=by kernel_rfl
theorem z7r:(List.range' 0 405).all keyFine=true:=zaq (b:=64) (c:=341) zdyb (zaq (b:=64) (c:=277) zdzb (zaq (b:=64) (c:=213) zd0b (zaq (b:=64) (c:=149) zd1b (zaq (b:=64) (c:=85) zd2b (zaq (b:=64) (c:=21) zd3b (zd4b))))))
noncomputable def parFine (i:Nat):Bool:=(Tryz.prog.funcs.toList[i]?).elim true λf=>f.params.all λt=>decide (t<Tryz.prog.types.size)
theorem zekb:(List.range' 0 64).all parFine=true:=by kernel_rfl
theorem zelb:(List.range' 64 64).all parFine=true:=by kernel_rfl
theorem zemb:(List.range' 128 64).all parFine=true:=by kernel_rfl
theorem zenb:(List.range' 192 64).all parFine=true:=by kernel_rfl
theorem zeob:(List.range' 256 64).all parFine=true:=by kernel_rfl
theorem zepb:(List.range' 320 57).all parFine=true:=by kernel_rfl
theorem z8d:(List.range' 0 377).all parFine=true:=zaq (b:=64) (c:=313) zekb (zaq (b:=64) (c:=249) zelb (zaq (b:=64) (c:=185) zemb (zaq (b:=64) (c:=121) zenb (zaq (b:=64) (c:=57) zeob (zepb)))))
noncomputable def stopFine (i:Nat):Bool:=(Tryz.prog.funcs.toList[i]?).elim true λfn=>(Stop.rowOf fn).isNone|| !fn.norace
theorem zccb:(List.range' 0 64).all stopFine=true:=by kernel_rfl
theorem zcdb:(List.range' 64 64).all stopFine=true:=by kernel_rfl
theorem zceb:(List.range' 128 64).all stopFine=true:=by kernel_rfl
theorem zcfb:(List.range' 192 64).all stopFine=true:=by kernel_rfl
theorem zcgb:(List.range' 256 64).all stopFine=true:=by kernel_rfl
theorem zchb:(List.range' 320 57).all stopFine=true:=by kernel_rfl
theorem z5w:(List.range' 0 377).all stopFine=true:=zaq (b:=64) (c:=313) zccb (zaq (b:=64) (c:=249) zcdb (zaq (b:=64) (c:=185) zceb (zaq (b:=64) (c:=121) zcfb (zaq (b:=64) (c:=57) zcgb (zchb)))))
end
section
open Go.ChangeShapes Go.WideShapes Go.ChangeAt Go.RowKit
theorem zhi:Tryz.prog.funcs.size=377:=by kernel_rfl
theorem zjx:Tryz.prog.types.size=405:=by kernel_rfl
theorem z1c:laidOutB Tryz.prog=true:=by
 have h1:(List.range Tryz.prog.types.size).all (rowFine Tryz.prog)=true:=by rw[zjx];exact zgg z6u
 have h2:Tryz.prog.globals.all (λg=>decide (g.type<Tryz.prog.types.size))=true:=by kernel_rfl
 have h3:Tryz.prog.funcs.all (λf=>f.params.all λt=>decide (t<Tryz.prog.types.size))=true:=by
  rw[<-Array.all_toList,zkf,Array.length_toList,zhi];exact zgg z8d
 unfold laidOutB
 rw[h1,h2,h3];rfl
def zv7(P:Program)(t:Nat):Bool:=match P.underlying t with |some (.map _ e)=>decide (e<P.types.size) |_=>true
def zvv(P:Program)(t:Nat):Bool:=match P.underlying t with |some (.map k _)=>(match P.underlying k with |some (.array _ _) |some (.struct _)=>false |_=>true) |_=>true
theorem zbqb{P:Program}{n:Nat}(hn:P.types.size=n)(h:(List.range n).all (zv7 P)=true):mapsRowed P=true:=by subst hn;exact h
theorem zbnb{P:Program}{n:Nat}(hn:P.types.size=n)(h:(List.range n).all (zvv P)=true):P.plainKeys=true:=by subst hn;exact h
theorem z1e:mapFine=zv7 Tryz.prog:=by kernel_rfl
theorem z08:keyFine=zvv Tryz.prog:=by kernel_rfl
theorem z1f:mapsRowed Tryz.prog=true:=zbqb zjx (by rw[<-z1e];exact zgg z7w)
theorem z1b:Tryz.prog.plainKeys=true:=zbnb zjx (by rw[<-z08];exact zgg z7r)
theorem zye:Tryz.prog.stopsHeard=true:=by
 unfold Program.stopsHeard
 rw[<-Array.all_toList,zkf,Array.length_toList,zhi];exact zgg z5w
def zpu(L:List (List Nat)):Nat->List Nat->List Nat->List Nat
 |0,_,seen=>seen.reverse
 |_+1,[],seen=>seen.reverse
 |n+1,f::todo,seen=>if seen.contains f then zpu L n todo seen else zpu L n ((L[f]?).getD []++todo) (f::seen)
theorem zrt{P:Program}{L:List (List Nat)}(h: ∀f:Nat,(P.funcs[f]?).elim [] P.leadsTo=(L[f]?).getD []): ∀(n:Nat) (todo seen:List Nat),P.closureVia n todo seen=zpu L n todo seen
 |0,todo,seen=>by cases todo<;>rfl
 |n+1,[],seen=>rfl
 |n+1,f::todo,seen=>by
  unfold Program.closureVia zpu
  rw[h f,zrt h n,zrt h n]
theorem z7v(f:Nat):(Tryz.prog.funcs[f]?).elim [] Tryz.prog.leadsTo=(leadL[f]?).getD []:=by
 rw[<-zv1]
 by_cases h:f<377
 ·rw[List.getElem?_map,List.getElem?_range' h,Nat.zero_add,Nat.one_mul,Option.map_some,Option.getD_some,leadAt]
 ·rw[Array.getElem?_eq_none (by rw[zhi];exact Nat.le_of_not_lt h),List.getElem?_eq_none (by rw[List.length_map,List.length_range'];exact Nat.le_of_not_lt h)];rfl
theorem z4t:(Tryz.prog.funcs.toList.map λg=>(Tryz.prog.leadsTo g).length+1)=leadL.map λl=>l.length+1:=by
 rw[zqi _ 1,Array.length_toList,zhi,<-zv1,List.map_map,List.range_eq_range']
 refine List.map_congr_left λi _=>?_
 rw[Array.getElem?_toList]
 show _=(leadAt i).length+1
 unfold leadAt
 cases Tryz.prog.funcs[i]?<;>rfl
theorem z2t(f:Nat):Tryz.prog.closure f=zpu leadL (1+(leadL.map λl=>l.length+1).sum) [f] []:=by
 unfold Program.closure
 rw[z4t,zrt z7v]
theorem andI{a b:Bool}(h:a=true)(k:b=true):(a&&b)=true:=by rw[h,k];rfl
def pathSecretsC0:List Nat:=[3,4,11,21,47,14,49,48,17,37,87,88,141,210,63,120,186,119,183,139,184,185,256,258,294,257,36,85,140,86,20,45,46,95,146,44,93,94,145,92,142,211,212,143,214,264,215,213,144,217,271,303,329,304,216,96,147,218,222,273,272,305,225,219]
def pathSecretsC1:List Nat:=[149,188,190,261,295,296,298,297,325,299,326,327,342,189,259,260,262,263,301,300,328,148,220,221,223,224,150,28,65,25,66,67,122,64,121,187,68,124,123,192,191,193,50,51,97,99,154,227,276,277,151,226,274,306,307,308,275,107,159,229,160,152,74,128]
def pathSecretsC2:List Nat:=[129,60,116,180,102,155,127,156,98,153,100,31,75,101,103,157,158,228,278,22,52,53,54,104,105,106,108,55,56,109,13,33,32,76,130,204,77,131,205,80,133,78,79,132,81,82,34,84,136,41,137,138,209,270,42,91,208,83,134,135,206,207,12,23]
def pathSecretsC3:List Nat:=[58,113,114,171,246,245,285,173,172,247,248,291,249,179,255,178,250,176,253,175,251,292,252,126,202,203,293,317,318,339,319,266,267,320,340,341,352,321,322,323,324,174,177,254,24,59,115,61,117,62,118,181,182,5,15,35,16,6,26,27,29,69,125,194]
def pathSecretsC4:List Nat:=[195,265,196,197,268,269,302,198,199,200,201,70,71,30,73,72,161,164,236,237,287,288,165,286,314,235,231,230,280,279,309,330,343,353,344,331,310,311,332,333,345,346,354,357,358,355,356,334,347,348,349,350,110,162,232,281,312,282,283,233,163,234,284,313]
def pathSecretsC5:List Nat:=[335,351,336,338,337,111,166,238,289,239,167,169,242,241,240,290,315,316,168,10,112,170,243,244,57,7,19,43,90,18,39,40,89,38,9,8]
def pathSecretsC:List Nat:=pathSecretsC0++(pathSecretsC1++(pathSecretsC2++(pathSecretsC3++(pathSecretsC4++(pathSecretsC5)))))
theorem zgs:Tryz.prog.closure 3=pathSecretsC:=by rw[z2t];kernel_rfl
noncomputable def pathSecretsIn (g:Nat):Option String:=(Tryz.prog.funcs[g]?).bind λfn=>if fn.ours||fn.body.isNone||fn.name== "runtime.NumGoroutine" then some fn.name else none
theorem zsc:(Rows.pathSecretsRow.inPlace==Tryz.prog.inPlace 3)=true:=by
 unfold Program.inPlace
 rw[zgs]
 have h:pathSecretsC.filterMap pathSecretsIn=Rows.pathSecretsRow.inPlace:=by kernel_rfl
 exact beq_iff_eq.2 h.symm
theorem zki:Tryz.prog.unfollowed 3=true:=by
 unfold Program.unfollowed
 rw[zgs]
 exact List.any_eq_true.2 ⟨94,List.contains_iff_mem.1 (by kernel_rfl),by kernel_rfl⟩
theorem zq0:(Rows.pathSecretsRow.unfollowed==Tryz.prog.unfollowed 3)=true:=by rw[zki];rfl
theorem zqz:(Rows.pathSecretsRow.recurses==Tryz.prog.recurses 3)=true:=by unfold Program.recurses;rw[zki];rfl
noncomputable def pathSecretsGn (g:Nat):List Nat:=((Tryz.prog.funcs[g]?).bind (·.body)).elim [] Code.globalsNamed
theorem zqt:pathSecretsC0.flatMap pathSecretsGn=[]:=by kernel_rfl
theorem zqu:pathSecretsC1.flatMap pathSecretsGn=[]:=by kernel_rfl
theorem zqv:pathSecretsC2.flatMap pathSecretsGn=[]:=by kernel_rfl
theorem zqw:pathSecretsC3.flatMap pathSecretsGn=[]:=by kernel_rfl
theorem zqx:pathSecretsC4.flatMap pathSecretsGn=[]:=by kernel_rfl
theorem zqy:pathSecretsC5.flatMap pathSecretsGn=[]:=by kernel_rfl
theorem zsb:pathSecretsC.flatMap pathSecretsGn=[]:=by simp only[pathSecretsC,List.flatMap_append,zqt,zqu,zqv,zqw,zqx,zqy,List.append_nil]
theorem zsd:(Rows.pathSecretsRow.named==Tryz.prog.varsNamed 3)=true:=by
 unfold Program.varsNamed
 rw[zgs]
 have h:(pathSecretsC.filterMap λg=>(Tryz.prog.funcs[g]?).bind λfn=>if fn.body.isNone then entryReads.lookup fn.name else none)=[]:=by kernel_rfl
 have k:(pathSecretsC.flatMap λg=>((Tryz.prog.funcs[g]?).bind (·.body)).elim [] Code.globalsNamed)=[]:=zsb
 rw[h,k];rfl
theorem zms:joinedFacts Tryz.prog 3 Tryz.f3 Rows.pathSecretsSpec Rows.pathSecretsRow=true:=by
 unfold joinedFacts
 repeat' with_reducible apply andI
 all_goals first
  |with_reducible exact z1c
  |with_reducible exact z1f
  |with_reducible exact zye
  |with_reducible exact zsc
  |with_reducible exact zq0
  |with_reducible exact zqz
  |with_reducible exact zsd
  |(rw[z1b];kernel_rfl)
  |kernel_rfl
end
section
open Go.ChangeShapes Go.WideShapes Go.ChangeAt Go.RowKit
set_option maxRecDepth 100000 in
theorem zq1(os:Os)(started:os.Started)(H:Type)(enc:TypeId×Value->H):
  ReturnsInHanded {} Tryz.checked os 3 .any (Rows.pathSecretsSpec.pre6 enc Tryz.prog Tryz.f3 Rows.pathSecretsRow.domain false) (Rows.pathSecretsSpec.post enc Tryz.prog Tryz.f3 false true false false):=by
 refine returnsInHanded_of_change_sized (C:=Tryz.checked) z79 started (by kernel_rfl) Tryz.func3
  (ChangeSpec.witness6 (enc:=enc) (C:=Tryz.checked) false ⟨#[], #[.slice none 0 0, .int .i64 0],[]⟩ 8 (by kernel_rfl) (by kernel_rfl) (by kernel_rfl) (by kernel_rfl)) ?_
 intro W base args ds gs before hval0 hW hcnd hsz0 _
 have hval: ∀(j:Nat) t v,Tryz.f3.params[j]?=some t->args[j]?=some v->Value.okWide Tryz.prog W .any base t v:=hval0
 have hW':=hW
 obtain⟨p,q,hA0,hV,rfl,hfz,hnd⟩:=hW
 have hA:DataW.TrodAll enc Tryz.prog W 0 (λ_=>true) true Tryz.f3.params.toList args.toList ds p:=hA0
 rw[Tryz.params3]at hA hval
 obtain⟨v0,vs0,d0,ds0,p0,q0,hargs,rfl,rfl,h0,r0⟩:=trodAll_cons hA
 obtain⟨v1,vs1,d1,ds1,p1,q1,rfl,rfl,rfl,h1,r1⟩:=trodAll_cons r0
 obtain⟨rfl,rfl,rfl⟩:=trodAll_nil r1
 obtain rfl:args= #[v0,v1]:=by cases args;simp_all
 obtain⟨rfl,rfl⟩:=trodVars_none hV
 obtain⟨a1,rfl,rfl,rfl,w1⟩:=open_int Tryz.underlying3 (hval 1 3 v1 rfl rfl) h1
 have lt0: ∀x∈p0,x.block<W.heap.size:=by obtain⟨m,hm⟩:=h0;exact DataW.trod_lt m _ _ _ hm
 obtain⟨l0,hv0⟩:=z6p (hval 0 22 v0 rfl rfl) h0
 clear hA0 hval0 hsz0
 refine((zr1 l0 a1).2 W (allK W) [v0, .int .i64 a1] (by simp only[RV.partsAt];exact⟨_,_,rfl,hv0,_,_,rfl,rfl,rfl⟩)).mono λe W' ⟨v,he,bel,k',_,hr⟩=>?_
 have hr':v= .bool true:=by simpa[Res.at_,RV.at_]using hr
 subst hr';subst he
 exact⟨_,rfl,_,_,_,[],_,[],hW',trodAll_mk1 (shut_bool Tryz.underlying4 _),(trodAll_cons_mk (Below.trod z7t (by kernel_rfl) (of_decide_eq_true (by kernel_rfl)) h0 bel lt0) (trodAll_cons_mk (shut_int Tryz.underlying3 w1) trodAll_mk0)),rfl,bel.frame _,λh=>by cases h⟩
theorem pathSecrets_holds:Rows.PathSecretsSaid:=
 OpenClaim.holds_of_wide 3 Tryz.f3 rfl rfl rfl rfl rfl rfl rfl ⟨rfl,rfl,rfl,rfl,rfl⟩ rfl rfl rfl rfl rfl (by kernel_rfl) Tryz.func3 zms
  (of_decide_eq_true (by kernel_rfl)) (by unfold Func.isWrapper;first |(rw[if_pos (by decide+kernel)];kernel_rfl) |(rw[if_neg (by decide+kernel)];exact⟨rfl,rfl⟩))
  (λos started H enc _=>zq1 os started H enc)
#print axioms pathSecrets_holds
end
end Go.Proofs.YtfjkblpnbgfkeaaGreat.Sx
