import Derived.Test.YtkegaaonpekkgaaGreatZGh
import Derived.Test.YtkegaaonpekkgaaGreatZSxPt
import Derived.Test.YtkegaaonpekkgaaGreatZEe
import Derived.Test.YtkegaaonpekkgaaGreatZSxSt
import Derived.Test.YtkegaaonpekkgaaGreatZPa
namespace Go.Proofs.YtkegaaonpekkgaaGreat.Sx
open Go.RowKit
def idxA{α:Type}(q:α->Bool):Nat->List α->Int
 |_,[]=> -1
 |j,x::r=>if q x then(j:Int)else idxA q (j+1) r
theorem z0m{α:Type}(q:α->Bool): ∀(l:List α) (j:Nat), -1<=idxA q j l/\idxA q j l< (j+l.length:Nat)/\(0<=idxA q j l↔l.any q=true)
 |[],j=>by simp[idxA];omega
 |x::r,j=>by
  have ih:=z0m q r (j+1)
  rw[idxA,List.any_cons,List.length_cons]
  by_cases hq:q x=true
  ·rw[if_pos hq,hq]
   exact⟨by omega,by omega,by simp⟩
  ·rw[if_neg hq,Bool.eq_false_iff.2 hq,Bool.false_or]
   exact⟨ih.1,by omega,ih.2.2⟩
theorem Cv.fn{P:Program}{α:Type}{f:FuncId}{arg:α->RV}{D:α->Prop}{q:α->Bool}(h: ∀x,D x->zab P f [arg x] (.r (.b (q x)))):Cv (.x (.func (.func f) #[] #[])) (.s (cloS P arg D q)):=λw k v hv=>by
 simp only[RV.at_]at hv⊢
 exact⟨f,[], #[],hv,rfl,h⟩
abbrev nodA(n:Node):RV:= .ag n.c
theorem zy0(l:List Node)(D:Node->Prop)(q:Node->Bool)(hl:l.length<=1000000000)(hD: ∀x∈l,D x):aG 443 [nods l, .s (cloS aP nodA D q)] (.r (I (idxA q 0 l))):=by
 refine aT Tryz.func443 rfl ?_
 refine zy (λj:Nat=>{F:=[(0, .r (nods l)),(1, .r (.s (cloS aP nodA D q))),(7, .r (I l.length)),(8, .r (I j))],O:=[],nx:=0}) (λj=>j<=l.length/\idxA q 0 l=idxA q j (l.drop j)) (λj=>l.length-j) 0 ⟨by omega,by simp⟩ (zad [] rfl ⟨cr,cr,cr,cr,trivial⟩ trivial) ?_
 rintro j ⟨hj,he⟩
 refine zh (λh=>zp ?_) (λh=>zq ?_)
 ·simp only[zb]at h
  have hj':j<l.length:=by omega
  rw[List.drop_eq_getElem_cons hj']at he
  simp only[idxA]at he
  refine zm (by omega) (by omega) (z0o rfl hj') ?_
  refine za rfl rfl ?_
  refine Vstep.cloB l[j] rfl rfl rfl rfl (cr) (hD _ (List.getElem_mem hj')) (λhq=>zp ?_) (λhq=>zq ?_)
  ·rw[hq]at he
   exact zf (by rw[he];simp)
  ·rw[hq]at he
   refine zd (m:=((j+1:Nat):Int)) (by omega) (by omega) ?_
   exact⟨j+1,⟨hj',by rw[he];simp⟩,by omega,zad [] rfl ⟨cr,cr,cr,cr,trivial⟩ trivial⟩
 ·simp only[zb]at h
  rw[List.drop_eq_nil_of_le (by omega)]at he
  exact zf (by rw[he];rfl)
theorem zrt(l:List Node)(D:Node->Prop)(q:Node->Bool)(hl:l.length<=1000000000)(hD: ∀x∈l,D x):aG 359 [nods l, .s (cloS aP nodA D q)] (.r (.b (l.any q))):=by
 refine aT Tryz.func359 rfl ?_
 refine ze (zy0 l D q hl hD) ?_
 exact Vcmp.mk' rfl (zf (congrArg RV.b (by rw[Bool.eq_iff_iff,decide_eq_true_eq];exact(z0m q l 0).2.2)))
def isLf(n:Node):Bool:=decide (n.kind.toNat=1)
theorem z9f(n:Node):aG 360 [nodA n] (.r (.b (isLf n))):=by
 refine aT Tryz.func360 rfl ?_
 refine Vcmp.mk' (m:=isLf n) ?_ (cr)
 unfold isLf
 rw[Bool.eq_iff_iff]
 simp only[zb]
 omega
theorem zc9b(l:List Node)(hl:l.length<=1000000000):aG 260 [nods l] (.r (.b (l.any isLf))):=by
 refine aT Tryz.func260 rfl ?_
 refine Vcall.mk' (zrt l (λ_=>True) isLf hl λ_ _=>trivial) (zk (cr) (zk (Cv.fn λn _=>z9f n) Cvs.nil)) ?_
 exact cr
section
variable (lf:Leaf) (hlf:lf.fit) (hlr:lf.right=true)
abbrev L1(lf:Leaf):Node:=⟨1,lf,zpr⟩
theorem zd0{lf:Leaf}(h:lf.fit):(L1 lf).fit:=⟨h,zn9⟩
theorem zou{lf:Leaf}(h:lf.right=true):(L1 lf).right=true:=by
 show(if(1:UInt8).toNat=0 then _ else if(1:UInt8).toNat=1 then lf.right&&zpr.none else _)=true
 rw[if_neg (by decide),if_pos (by decide),h]
 rfl
theorem i00:(0:Int)<=0:=by decide
theorem i01:(0:Int)< ((1:Nat):Int):=by decide
theorem i2b: -9223372036854775808<=(2:Int)/\(2:Int)<=9223372036854775807:=by decide
theorem n1b:1<=1000000000:=by decide
theorem idx0:(([L1 lf].flatMap Node.c).drop ((0:Int).toNat*10)).take 10=(L1 lf).c:=z0o (l:=[L1 lf]) (j:=0) rfl (Nat.succ_pos _)
theorem ziu:aG 258 [nods [L1 lf]] (.r (I 1)):=by
 refine aT Tryz.func258 rfl ?_
 refine zd (m:=2) rfl i2b ?_
 refine⟨by decide,1,by decide,?_⟩
 refine⟨by decide,1,rfl,?_⟩
 refine zu rfl ?_
 refine Vcall.bool (zqa 1) (λ_=>zu rfl (zq ?_)) (λh=>absurd h (by decide))
 exact cr
include hlf hlr in
theorem z58:aG 259 [nods [L1 lf]] (.r (.b true)):=by
 refine aT Tryz.func259 rfl ?_
 have hb:=zo4 (L1 lf) (zd0 hlf)
 rw[if_pos (zou hlr)]at hb
 generalize zdg (L1 lf)=q at hb
 refine Vloop.rounds 2 ?_
 refine Vrounds.step mixed Tab_ok ?_
 refine zt rfl (zp ?_)
 refine zm i00 i01 (idx0 lf) ?_
 refine za rfl rfl ?_
 refine⟨by decide,0,by decide,?_⟩
 refine zu rfl (zq ?_)
 refine zu rfl (zq ?_)
 refine za rfl rfl ?_
 refine ze hb ?_
 refine zu rfl (zq ?_)
 refine zd (m:=1) rfl (by decide) ?_
 refine Vrounds.step mixed Tab_ok ?_
 refine zu rfl (zq ?_)
 exact cr
theorem zdsb:aG 261 [nods [L1 lf],I 0] (.r (.b true)):=by
 refine aT Tryz.func261 rfl ?_
 refine ze (ziu lf) ?_
 refine zm i00 i01 (idx0 lf) ?_
 refine zg rfl ?_
 refine Vloop.rounds 1 ?_
 refine Vrounds.step mixed Tab_ok ?_
 refine zu rfl (zq ?_)
 exact cr
include hlf hlr in
theorem zh7:aG 175 [nods [L1 lf]] (.r (.b true)):=by
 refine aT Tryz.func175 rfl ?_
 have hs:=zc9b [L1 lf] n1b
 have e:[L1 lf].any isLf=true:=rfl
 rw[e]at hs
 refine ze (ziu lf) ?_
 refine zu rfl ?_
 refine ze (z58 lf hlf hlr) ?_
 refine zu rfl ?_
 refine zt rfl ?_
 refine ze hs ?_
 refine zu rfl ?_
 refine zu rfl (zq ?_)
 refine Vloop.rounds 2 ?_
 refine Vrounds.step mixed Tab_ok ?_
 refine zt rfl (zp ?_)
 refine ze (zdsb lf) ?_
 refine zu rfl (zq ?_)
 refine zd (m:=1) rfl (by decide) ?_
 refine Vrounds.step mixed Tab_ok ?_
 refine zu rfl (zq ?_)
 exact cr
theorem zgwb:aG 362 [nods [L1 lf]] (.r (is [0])):=by
 refine aT Tryz.func362 rfl ?_
 refine Vloop.rounds 2 ?_
 refine Vrounds.step mixed Tab_ok ?_
 refine zt rfl (zp ?_)
 refine zm i00 i01 (idx0 lf) ?_
 refine za rfl rfl ?_
 refine zt rfl (zp ?_)
 refine⟨by decide,0,by decide,?_⟩
 refine zw ?_
 refine Vapp.mk' (j:=1) (zs:=[I 0]) (by decide) (by decide) rfl rfl ?_
 refine zd (m:=1) rfl (by decide) ?_
 refine Vrounds.step mixed Tab_ok ?_
 refine zu rfl (zq ?_)
 exact cr
include hlf hlr in
theorem z2o:aG 262 [nods [L1 lf]] (.r (is [0])):=by
 refine aT Tryz.func262 rfl ?_
 refine ze (zh7 lf hlf hlr) ?_
 refine zu rfl (zq ?_)
 refine ze (zgwb lf) ?_
 exact cr
include hlf in
theorem z0e:aG 145 [nods [L1 lf]] (.r (nods [L1 lf])):=by
 refine aT Tryz.func145 rfl ?_
 refine Vloop.rounds 2 ?_
 refine Vrounds.step mixed Tab_ok ?_
 refine zt rfl (zp ?_)
 refine zm i00 i01 (idx0 lf) ?_
 refine za rfl rfl ?_
 refine za rfl rfl ?_
 refine ze (zep (L1 lf) (zd0 hlf) (zbx _ hlf)) ?_
 refine zw ?_
 refine Vapp.mk' (j:=1) (zs:=(L1 lf).c) (by decide) (by decide) rfl rfl ?_
 refine zd (m:=1) rfl (by decide) ?_
 refine Vrounds.step mixed Tab_ok ?_
 refine zu rfl (zq ?_)
 exact cr
end
structure SecP.sm (s:SecP):Prop where
 jn:s.jn.length<=1000000
 wl:s.wl.length<=1000000
 ep:s.ep.length<=1000000
 sd:s.sd.length<=1000000
 en:s.en.length<=1000000
 ex:s.ex.length<=1000000
 au:s.au.length<=1000000
 xt:s.xt.length<=1000000
 cf:s.cf.length<=1000000
 mb:s.mb.length<=1000000
 rs:s.rs.length<=1000000
 it:s.it.length<=1000000
set_option maxHeartbeats 2000000 in
theorem z5q(s:SecP)(hs:s.sm):aG 243 [.ag s.c] (.r (.ag s.c)):=by
 refine aT Tryz.func243 rfl ?_
 obtain⟨h1,h2,h3,h4,h5,h6,h7,h8,h9,h10,h11,h12⟩:=hs
 refine Vstep.bsl (adrs 0 [0,1,2,3,4,5,6,7,8,9,10,11]) Tab_ok rfl rfl rfl rfl rfl rfl (by decide) (by repeat' (first|exact rfl|refine⟨_,_,_,rfl,rfl,rfl,?_⟩)) ?_
 refine zy (λj:Nat=>⟨[(1, .own 0),(2, .own 1),(17, .cut 2 0 12),(18, .r (I 12)),(19, .r (I j))],[(0,some (.box (s.c.map TF.r))),(1,some (.box nl12)),(2,some (.box (adrs 0 [0,1,2,3,4,5,6,7,8,9,10,11])))],3⟩) (λj=>j<=12) (λj=>12-j) 0 (by omega) (zad [(0,0),(1,1),(2,2)] rfl (by repeat' (first|exact rfl|exact trivial|exact cr|exact Cv.nil _|exact⟨rfl,rfl⟩|refine⟨_,_,rfl,?_,?_⟩|refine⟨?_,?_⟩)) (by repeat' (first|exact rfl|exact trivial|exact cr|exact Cv.nil _|exact⟨rfl,rfl⟩|refine⟨_,_,rfl,?_,?_⟩|refine⟨?_,?_⟩))) ?_
 intro j hj
 rcases(by omega:j<12\/j=12)with hlt |rfl
 rotate_left
 ·refine zu rfl (zq ?_)
  refine za rfl rfl ?_
  refine za rfl rfl ?_
  exact cr
 obtain⟨k,hk⟩: ∃k,k=j+1:=⟨_,rfl⟩
 rcases(by omega:j=0\/j=1\/j=2\/j=3\/j=4\/j=5\/j=6\/j=7\/j=8\/j=9\/j=10\/j=11)with rfl |rfl |rfl |rfl |rfl |rfl |rfl |rfl |rfl |rfl |rfl |rfl
 all_goals
  refine zt rfl (zp ?_)
  refine Vadr.mk' _ rfl (by decide) ?_
  refine ze (zbu _ (by omega)) ?_
  refine zd (m:=(k:Int)) (by omega) (by omega) ?_
  exact⟨k,by omega,by omega,by subst hk;exact zad [(0,0),(1,1),(2,2)] rfl (by repeat' (first|exact rfl|exact trivial|exact cr|exact Cv.nil _|exact⟨rfl,rfl⟩|refine⟨_,_,rfl,?_,?_⟩|refine⟨?_,?_⟩)) (by repeat' (first|exact rfl|exact trivial|exact cr|exact Cv.nil _|exact⟨rfl,rfl⟩|refine⟨_,_,rfl,?_,?_⟩|refine⟨?_,?_⟩))⟩
theorem zoh(x:KeyP)(hx:x.key.length<=1000000):aG 101 [keyR [x]] (.r (keyR [x])):=by
 refine aT Tryz.func101 rfl ?_
 refine Vloop.rounds 2 ?_
 refine Vrounds.step mixed Tab_ok ?_
 refine zt rfl (zp ?_)
 refine zm i00 i01 rfl ?_
 refine za rfl rfl ?_
 refine aV ?_
 refine ze (zbu _ (by omega)) ?_
 refine zw ?_
 refine Vapp.mk' (j:=1) (zs:=x.c) (by decide) (by decide) rfl rfl ?_
 refine zd (m:=1) rfl (by decide) ?_
 refine Vrounds.step mixed Tab_ok ?_
 refine zu rfl (zq ?_)
 exact cr
structure ViewP where
 ctx:CtxP
 own:Int
 interim:List UInt8
 tag:List UInt8
 sec:SecP
 key:KeyP
abbrev ViewP.c(v:ViewP):List RV:=[bs v.ctx.group, .i .u64 v.ctx.epoch,bs v.ctx.tree,bs v.ctx.trans,I v.own,bs v.interim,bs v.tag,bs v.sec.jn,bs v.sec.wl,bs v.sec.ep,bs v.sec.sd,bs v.sec.en,bs v.sec.ex,bs v.sec.au,bs v.sec.xt,bs v.sec.cf,bs v.sec.mb,bs v.sec.rs,bs v.sec.it,keyR [v.key]]
structure ViewP.sm (v:ViewP):Prop where
 group:v.ctx.group.length<=1000000
 tree:v.ctx.tree.length<=1000000
 trans:v.ctx.trans.length<=1000000
 interim:v.interim.length<=1000000
 tag:v.tag.length<=1000000
 sec:v.sec.sm
 key:v.key.key.length<=1000000
abbrev nl20:List TF:=[.r nl, .r (.i .u64 0), .r nl, .r nl, .r (I 0), .r nl, .r nl, .r nl, .r nl, .r nl, .r nl, .r nl, .r nl, .r nl, .r nl, .r nl, .r nl, .r nl, .r nl, .r nl]
set_option maxHeartbeats 2000000 in
theorem z2g(v:ViewP)(hv:v.sm):aG 144 [.ag v.c] (.r (.ag v.c)):=by
 refine aT Tryz.func144 rfl ?_
 obtain⟨h1,h2,h3,h4,h5,h6,h7⟩:=hv
 have cs:=z5q v.sec h6
 have ck:=zoh v.key h7
 refine Vdraw.code0 (Vcode.nmB 0 1000000 rfl λb=>Vcode.subp mixed Tab_ok ((zfmb (id:=0) (t:=3) (tn:=1000000) (b:=b) rfl rfl rfl).trans (zkf (id:=0) (t:=1) (tn:=1000000) rfl rfl)) ?_)
 refine aV ?_
 refine zw ?_
 refine zy (λj:Nat=>⟨[(1, .own 0),(2, .own 1),(18, .r (.sl 1 5 [At b 0,At b 2,At b 3,At b 5,At b 6])),(19, .r (I 5)),(20, .r (I j)),(1000000, .nm 0 (.pointer (some ⟨b,0,none⟩)))],[(0,some (.box (v.c.map TF.r))),(1,some (.box nl20))],2⟩) (λj=>j<=5) (λj=>5-j) 0 (by omega) ((zlo (id:=0) (t:=1) (tn:=1000000) rfl rfl).trans (zad [(0,0),(1,1)] rfl (by repeat' (first|exact rfl|exact trivial|exact cr|exact Cv.nil _|exact⟨rfl,rfl⟩|refine⟨_,_,rfl,?_,?_⟩|refine⟨?_,?_⟩)) (by repeat' (first|exact rfl|exact trivial|exact cr|exact Cv.nil _|exact⟨rfl,rfl⟩|refine⟨_,_,rfl,?_,?_⟩|refine⟨?_,?_⟩)))) ?_
 intro j hj
 rcases(by omega:j<5\/j=5)with hlt |rfl
 rotate_left
 ·refine zu rfl (zq ?_)
  refine aV ?_
  refine za rfl rfl ?_
  refine ze cs ?_
  refine ze ck ?_
  refine za rfl rfl ?_
  refine za rfl rfl ?_
  exact cr
 obtain⟨k,hk⟩: ∃k,k=j+1:=⟨_,rfl⟩
 rcases(by omega:j=0\/j=1\/j=2\/j=3\/j=4)with rfl |rfl |rfl |rfl |rfl
 all_goals
  refine zt rfl (zp ?_)
  refine zm (by decide) (by decide) rfl ?_
  refine zg rfl ?_
  refine Vstep.sub (zpm (id:=0) (t:=26) (tn:=1000000) rfl rfl rfl) (Vstep.val Tab_ok ?_)
  refine ze (zbu _ (by omega)) ?_
  refine Vstep.sub (zpm (id:=0) (t:=29) (tn:=1000000) rfl rfl rfl) (Vstep.sto Tab_ok rfl ?_)
  refine zd (m:=(k:Int)) (by omega) (by omega) ?_
  exact⟨k,by omega,by omega,by subst hk;exact zad [(0,0),(1,1)] rfl (by repeat' (first|exact rfl|exact trivial|exact cr|exact Cv.nil _|exact⟨rfl,rfl⟩|refine⟨_,_,rfl,?_,?_⟩|refine⟨?_,?_⟩)) (by repeat' (first|exact rfl|exact trivial|exact cr|exact Cv.nil _|exact⟨rfl,rfl⟩|refine⟨_,_,rfl,?_,?_⟩|refine⟨?_,?_⟩))⟩
section
variable {P:Program} {T:TT} {B:Bs} {N:Nat} {S:St} {a:Act} {w:World} {k:Kp} {g:Env} {o:Oper}
def zlv(P:Program)(f:FuncId)(args cells rest:List RV):Prop:=
 zin P f/\∀w k vs,RV.partsAt w k args vs->Calls P f vs.toArray w λe w'=>∃v us,e= .returned (.tuple (v::us).toArray)/\Ext w w'/\∃k':Kp,(∀b,b<w.heap.size->k' b=k b)/\(Res.bx cells).at_ w.heap.size w' k' v/\RV.partsAt w' k' rest us
def zcdb(S:St)(cells:List RV):TF->Prop
 | .own id=>oget S.O id=some (.box (cells.map .r))
 |_=>False
def retB(T:TT)(results:List ResultVar)(cells rest:List RV)(S:St):Prop:=
 match results with
 |x::y::xs=>resv T S x (zcdb S cells)/\zn1 T S (y::xs) λrs=>Cvs rs rest
 |_=>False
theorem zcwb{X0:World}{X1:Kp}(hs:SatE ⟨X0,X1,[],[]⟩ N S a w k g){id:Nat}{cells:List RV}{v:Value}(ho:oget S.O id=some (.box (cells.map .r)))(hv:v=(g id).1):(Res.bx cells).at_ X0.heap.size w k v:=by
 obtain⟨q1,q2,q3,q4⟩:=hs.owns id _ ho
 simp only[Ow.at_]at q3
 obtain⟨b,cur,t,e,hh,hkb,hsz,hc⟩:=q3
 rw[e]at hv q4
 refine⟨b,cur,t,hv,?_,hh,hkb,by simpa using hsz,λj f u hf hu=>?_⟩
 ·rcases(q4 b rfl).1 with h |h
  ·exact h
  ·simp at h
 ·exact hc j (.r f) u (by rw[List.getElem?_map,hf];rfl) hu
theorem zua{f:FuncId}{fn:Func}{args cells rest:List RV}{c:Code}(hm:P.follows .mixedOrders=true)(hT:TOk P T)(hf:P.funcs[f]?=some fn)(hb:fn.body=some c)
  (hk:(Nat.ble args.length fn.ntmps&&(za5 fn.ntmps c&& !(fn.name== "runtime.NumGoroutine")))=true)
  (h:vcg P T c (St.args args) λe S=>(e= .ret\/e= .normal)/\∃S',Sub S S'/\retB T fn.results.toList cells rest S'):zlv P f args cells rest:=by
 simp only[Bool.and_eq_true,Nat.ble_eq,Bool.not_eq_true',beq_eq_false_iff_ne]at hk
 obtain⟨hn,hd,hname⟩:=hk
 refine⟨⟨fn,c,hf,hb,hname⟩,λw k vs hp=>?_⟩
 refine calls_of_wp hf hb ?_
 refine zay hm hT c _ _ h ⟨w,k,[],[]⟩ fn.ntmps _ w k _ (zja hp hn) hd λe S0 a' w' k0 ⟨hex,S',hsub,hq⟩ hs0=>?_
 have fin:a'.defers=[]/\∃v,(results fn a'.tmps).run P w'= .ok v w'/\(λ(e:Ending) w'=>∃v us,e= .returned (.tuple (v::us).toArray)/\Ext w w'/\∃k':Kp,(∀b,b<w.heap.size->k' b=k b)/\(Res.bx cells).at_ w.heap.size w' k' v/\RV.partsAt w' k' rest us) (.returned v) w':=by
  obtain⟨k',g,hs'⟩:=hsub _ _ _ _ _ hs0
  have hext:Ext w w':=⟨hs'.keep.os,hs'.keep.tape,hs'.keep.output,hs'.keep.size,λb hb=>hs'.keep.block b hb (by simp)⟩
  have hkk: ∀b,b<w.heap.size->k' b=k b:=λb hb=>hs'.kk b hb (by simp)
  refine⟨hs'.defers,?_⟩
  unfold retB at hq
  split at hq
  ·rename_i x y xs hx
   obtain⟨h1,h2⟩:=hq
   obtain⟨fr,v,hret,hat,hr⟩:=zhi hT hs' h1
   obtain⟨rs,us,hcv,hp',hlen,hr2⟩:=zgr hT hs' h2
   refine⟨.tuple (v::us).toArray,?_,v,us,rfl,hext,k',hkk,?_,hcv.at_ hp'⟩
   ·have hr3: ∀ys:List ResultVar,Sem.run P (List.mapM (zn3 a'.tmps) ys) w'=Result.ok us w'->Sem.run P (List.mapM (zn3 a'.tmps) (x::ys)) w'=Result.ok (v::us) w':=λys h=>by
     rw[List.mapM_cons,Sem.run_bind,hr]
     simp[h]
    have hr4:=hr3 _ hr2
    rw[zf1,Array.mapM_eq_mapM_toList,hx]
    simp only[Sem.run_bind,Sem.run_map,hr4]
    have hne:us≠[]:=λe=>by rw[e]at hlen;simp at hlen
    simp[hne]
   ·cases fr with
    |own id=>simp only[zcdb]at hret;simp only[TF.at_]at hat;exact zcwb hs' hret hat
    |_=>exact hret.elim
  ·exact hq.elim
 rcases hex with rfl |rfl
 ·exact fin
 ·exact fin
theorem Vstep.nmS(id t:Nat){e:TypeId}{sz n:Nat}{cells:List RV}(ho:oget S.O id=some (.ch e sz n cells false))(h0:0<n){K:St->Prop}(h: ∀b c:Nat,Vstep P ⟨(t, .nm id (.slice (some ⟨b,0,none⟩) n c))::S.F,S.O,S.nx⟩ o K):Vstep P S o K:=by
 refine⟨Σ x:Nat×Nat,(h x.1 x.2).out.choose,λx=>(h x.1.1 x.1.2).out.choose_spec.choose x.2,λB N a w k Q hs0 hd=>?_,λx=>(h x.1.1 x.1.2).out.choose_spec.choose_spec.2 x.2⟩
 obtain⟨g,hs⟩:=hs0
 obtain⟨hid,_,hat,_⟩:=hs.owns id _ ho
 simp only[Ow.at_]at hat
 obtain⟨_,⟨h1,⟨h2,_⟩ |⟨_,h2,_⟩⟩ |⟨b,cap,cur,h1,h2,_⟩⟩:=hat
 ·omega
 ·cases h2
 ·have hs1:Sat B N ⟨(t, .nm id (.slice (some ⟨b,0,none⟩) n cap))::S.F,S.O,S.nx⟩ a w k:=by
   refine⟨g,hs.size,hs.defers,hs.keep,hs.kk,λt' f hf=>?_,hs.owns,hs.apart⟩
   rcases zax hf with⟨rfl,rfl⟩ |⟨_,hf⟩
   ·exact⟨hid,by simp only[TF.at_];rw[h2]⟩
   ·exact hs.facts t' f hf
  refine Oper.wp_mono ?_ ((h b cap).out.choose_spec.choose_spec.1 B N a w k Q hs1 hd)
  rintro a' w' ⟨i,k',hs'⟩
  exact⟨⟨(b,cap),i⟩,k',hs'⟩
theorem Vstep.tup(tn:Nat){xs:Array Operand}{ts:Array TypeId}{f:FuncId}{vs args cells rest:List RV}{K:St->Prop}(hop:o.op= .call {callee:= .value (.func f),args:=xs,argTypes:=ts})
  (hx:oprs S xs.toList=some vs) (hc:Cvs vs args) (hg:zlv P f args cells rest)
  (hK: ∀b:Nat,newK ⟨(tn, .nm S.nx (.pointer (some ⟨b,0,none⟩)))::S.F,(S.nx,some (.box (cells.map .r)))::S.O,S.nx+1⟩ o.dst (.r (.tu (.x (.pointer (some ⟨b,0,none⟩))::rest))) none K):Vstep P S o K:=by
 refine⟨Nat,λb=>St.new ⟨(tn, .nm S.nx (.pointer (some ⟨b,0,none⟩)))::S.F,(S.nx,some (.box (cells.map .r)))::S.O,S.nx+1⟩ o.dst (.r (.tu (.x (.pointer (some ⟨b,0,none⟩))::rest))) none,λB N a w k Q ⟨g,hs⟩ hd=>?_,λb=>by have:=hK b;rw[zav]at this;exact this⟩
 obtain⟨⟨fn,c,hf,hb,hn⟩,hg⟩:=hg
 unfold Oper.wp
 have hr:(execOp a.eval o).run P w=(callFunc f (xs.toList.map a.eval).toArray).run P w:=by
  have hargs':xs.map a.eval=(xs.toList.map a.eval).toArray:=by apply Array.ext';simp
  simp[execOp,hop,resolve,Act.eval,Deferred.ofValue,invoke,hargs']
 rw[hr,zfp hf hb hn]
 simp only[Oper.upon]
 refine(hg w k _ (hc.at_ (zj9 hs hx))).mono ?_
 rintro e w' ⟨v,us,rfl,hext,k',hk',hres,hrest⟩
 obtain⟨b,cur,t,rfl,hb0,hh,hkb,hsz,hcc⟩:=hres
 have hbl:b<w'.heap.size:=(Array.getElem?_eq_some_iff.1 hh).1
 have hs2:=hs.make (dst:=none) (λd h=>by cases h) hext hk' (o:= .box (cells.map .r)) (vb:=(.pointer (some ⟨b,0,none⟩),some b)) (λf hf=>by obtain⟨v,_,rfl⟩:=List.mem_map.1 hf;trivial)
  ⟨b,cur,t,rfl,hh,hkb,by simpa using hsz,λj f u hf hu=>by
   rw[List.getElem?_map]at hf
   obtain⟨v,hv,rfl⟩:=Option.map_eq_some_iff.1 hf
   exact hcc j v u hv hu⟩ (λb' hb'=>by cases hb';exact⟨hb0,hbl⟩)
 have hs3:SatE B N ⟨(tn, .nm S.nx (.pointer (some ⟨b,0,none⟩)))::S.F,(S.nx,some (.box (cells.map .r)))::S.O,S.nx+1⟩ a w' k' (g.set S.nx (.pointer (some ⟨b,0,none⟩),some b)):=by
  refine⟨hs2.size,hs2.defers,hs2.keep,hs2.kk,λt' f hf=>?_,hs2.owns,hs2.apart⟩
  rcases zax hf with⟨rfl,rfl⟩ |⟨_,hf⟩
  ·exact⟨Nat.lt_succ_self _,by simp only[TF.at_,Env.set_eq]⟩
  ·exact hs2.facts t' f hf
 exact⟨b,k',_,hs3.put hd trivial (by simp only[TF.at_,RV.at_,RV.partsAt];exact⟨_,rfl,_,_,rfl,rfl,hrest⟩)⟩
end
abbrev zuq:ByteArray:=⟨#[105,110,105,116]⟩
abbrev zu2:ByteArray:=⟨#[115,105,103,110]⟩
abbrev zPk:List RV:=[nl,nl,nl,nl, .i .u8 0,nl,nl,nl]
def zqy(a b c:List UInt8):RV:= .ag [bs a,bs b,bs c]
def zcr(box sign ident:List UInt8):Leaf:=⟨box,sign,ident,1,[],[]⟩
section
variable (ident seed x1 p1 q1 x2 p2 q2 sg pk:List UInt8) (hs:seed.length=32)
 (c1:aG 45 [bs seed,Str zuq] (.r (bs x1))) (c2:aG 49 [bs x1] (.r (.tu [bs p1,bs q1])))
 (c3:aG 45 [bs seed,Str boxS] (.r (bs x2))) (c4:aG 49 [bs x2] (.r (.tu [bs p2,bs q2])))
 (c5:aG 45 [bs seed,Str zu2] (.r (bs sg))) (c6:aG 50 [bs sg] (.r (.tu [bs pk,Er 0])))
include hs c1 c2 c3 c4 c5 c6
set_option maxHeartbeats 2000000 in
theorem zwa(z tx s2:List UInt8)(o:Leaf)(hz:zS64=z)
  (c7:aG 51 [.ag (zcr q2 pk ident).c,bs sg,bs [],I 0] (.r (.tu [.ag o.c,Er 0])))
  (c8:aG 52 [.ag (PackP.c ⟨q1,o,z⟩)] (.r (.tu [bs tx,Er 0])))
  (c9:aG 53 [bs sg,Str kpS,bs tx] (.r (.tu [bs s2,Er 0]))):
  aG 8 [bs ident,bs seed] (.r (.tu [.ag (PackP.c ⟨q1,o,s2⟩),zqy p1 p2 sg,Er 0])):=by
 refine aT Tryz.func8 rfl ?_
 have hzl:64=z.length:=by rw[<-hz];decide
 refine zu (by simp only[zb];omega) (zq ?_)
 refine ze c1 ?_
 refine ze c2 ?_
 refine ze c3 ?_
 refine ze c4 ?_
 refine ze c5 ?_
 refine ze c6 ?_
 refine za rfl rfl ?_
 refine Vcall.mk' c7 (zk (Cv.ag (zk (cr) (zk (cr) (zk (cr) (zk (cr) (zk (Cv.nil 1) (zk (Cv.nil 1) Cvs.nil))))))) (zk (cr) (zk (Cv.nil 1) (zn _)))) ?_
 refine zu rfl (zq ?_)
 refine aV ?_
 refine za rfl rfl ?_
 refine⟨rfl,by decide,by decide,by decide,z.length,z.map U8,hzl,by rw[zil,hz],zw ?_⟩
 refine za rfl rfl ?_
 refine ze c8 ?_
 refine ze c9 ?_
 refine aV ?_
 refine za rfl rfl ?_
 refine za rfl rfl ?_
 refine za rfl rfl ?_
 refine za rfl rfl ?_
 exact⟨_,rfl,cr⟩
set_option maxHeartbeats 2000000 in
theorem zuf(e:Nat)(he:e≠0)(he2:e<256)
  (c7:aG 51 [.ag (zcr q2 pk ident).c,bs sg,bs [],I 0] (.r (.tu [.ag zl.c,Er e]))):
  aG 8 [bs ident,bs seed] (.r (.tu [.ag zPk, .ag [nl,nl,nl],Er e])):=by
 refine aT Tryz.func8 rfl ?_
 refine zu (by simp only[zb];omega) (zq ?_)
 refine ze c1 ?_
 refine ze c2 ?_
 refine ze c3 ?_
 refine ze c4 ?_
 refine ze c5 ?_
 refine ze c6 ?_
 refine za rfl rfl ?_
 refine Vcall.mk' c7 (zk (Cv.ag (zk (cr) (zk (cr) (zk (cr) (zk (cr) (zk (Cv.nil 1) (zk (Cv.nil 1) Cvs.nil))))))) (zk (cr) (zk (Cv.nil 1) (zn _)))) ?_
 refine zt (by simp only[zb];omega) (zp ?_)
 refine za rfl rfl ?_
 refine za rfl rfl ?_
 exact⟨_,rfl,cr⟩
end
structure PkgV where
 init:List UInt8
 leaf:Leaf
 sig:List UInt8
 a:List UInt8
 b:List UInt8
 c:List UInt8
structure PkgV.ok (v:PkgV):Prop where
 init:v.init.length=32
 box:v.leaf.box.length=32
 sign:v.leaf.sign.length=32
 ident:v.leaf.ident.length<=64
 parent:v.leaf.parent.length=0
 lsig:v.leaf.sig.length=64
 sig:v.sig.length=64
 c:v.c.length=32
 right:v.leaf.right=true
 a:v.a.length=32
 b:v.b.length=32
 spub:v.leaf.sign=pubS v.c
theorem z2t(ident seed:List UInt8)(hs:seed.length=32)(hi:ident.length<=1000):
  (¬(0<ident.length/\ident.length<=64)/\aG 8 [bs ident,bs seed] (.r (.tu [.ag zPk, .ag [nl,nl,nl],Er 3])))\/
  ((0<ident.length/\ident.length<=64)/\∃v:PkgV,v.ok/\aG 8 [bs ident,bs seed] (.r (.tu [.ag (PackP.c ⟨v.init,v.leaf,v.sig⟩),zqy v.a v.b v.c,Er 0]))):=by
 have c1:=zc1 seed zuq (by omega) (by decide)
 have h1:=zbk seed (sB zuq) [] (n:=32) (by omega)
 generalize labB seed (sB zuq) [] 32=x1 at c1 h1
 have c2:=zrv x1 (by omega)
 have k1:=zi4 x1
 generalize zhh x1=p1 at c2 k1
 have e1:=zku p1
 generalize zg2 p1=q1 at c2 e1
 have c3:=zc1 seed boxS (by omega) (by decide)
 have h2:=zbk seed (sB boxS) [] (n:=32) (by omega)
 generalize labB seed (sB boxS) [] 32=x2 at c3 h2
 have c4:=zrv x2 (by omega)
 have k2:=zi4 x2
 generalize zhh x2=p2 at c4 k2
 have e2:=zku p2
 generalize zg2 p2=q2 at c4 e2
 have c5:=zc1 seed zu2 (by omega) (by decide)
 have h3:=zbk seed (sB zu2) [] (n:=32) (by omega)
 generalize labB seed (sB zu2) [] 32=sg at c5 h3
 have c6:=zs3 sg h3
 have e3:=zxp sg
 generalize hpk:pubS sg=pk at c6 e3
 have c7:=zqj (zcr q2 pk ident) sg [] 0 ⟨by show q2.length<=_;omega,by show pk.length<=_;omega,by show ident.length<=_;omega,by show 0<=_;omega,by show 0<=_;omega⟩ (by decide) (by show q2.length+pk.length+ident.length+0<=_;omega) (by unfold i64;omega)
 have hr:((zcr q2 pk ident).with zS64).right=decide (0<ident.length/\ident.length<=64):=by
  unfold Leaf.right
  refine decide_eq_decide.2 ⟨λh=>⟨h.2.2.1,h.2.2.2.1⟩,λh=>⟨e2,e3,h.1,h.2,by show 0< (1:UInt8).toNat;decide,by show(1:UInt8).toNat<4;decide, .inl rfl,rfl⟩⟩
 have ht:ze7 (zcr q2 pk ident) 0=true:=rfl
 by_cases hz: ¬(0<ident.length/\ident.length<=64)
 ·refine .inl ⟨hz,?_⟩
  have he:zec (zcr q2 pk ident) sg 0=3:=by
   unfold zec
   rw[hr,decide_eq_false hz]
   rfl
  rw[zhl,he,if_neg (by decide)]at c7
  exact zuf ident seed x1 p1 q1 x2 p2 q2 sg pk hs c1 c2 c3 c4 c5 c6 3 (by decide) (by decide) c7
 ·have hz:=Decidable.not_not.1 hz
  refine .inr ⟨hz,?_⟩
  have he:zec (zcr q2 pk ident) sg 0=0:=by
   unfold zec
   rw[hr,decide_eq_true hz,if_pos rfl,if_pos ht,if_pos h3]
  rw[zhl,if_pos he]at c7
  have hol:(slOk (zcr q2 pk ident) sg [] 0).right=true:=by
   unfold Leaf.right
   refine decide_eq_true ⟨e2,e3,hz.1,hz.2,by show 0< (1:UInt8).toNat;decide,by show(1:UInt8).toNat<4;decide, .inl rfl,zei _ _ _⟩
  have hsh:(slOk (zcr q2 pk ident) sg [] 0).box.length=32/\(slOk (zcr q2 pk ident) sg [] 0).sign.length=32/\(slOk (zcr q2 pk ident) sg [] 0).ident.length<=64/\(slOk (zcr q2 pk ident) sg [] 0).src=1/\(slOk (zcr q2 pk ident) sg [] 0).parent.length=0/\(slOk (zcr q2 pk ident) sg [] 0).sig.length=64/\(slOk (zcr q2 pk ident) sg [] 0).sign=pubS sg:=⟨e2,e3,hz.2,rfl,rfl,zei _ _ _,hpk.symm⟩
  generalize slOk (zcr q2 pk ident) sg [] 0=o at c7 hol hsh
  obtain⟨o1,o2,o3,o4,o5,o6,o7⟩:=hsh
  have hzl:zS64.length=64:=by decide
  have hf:PackP.fit ⟨q1,o,zS64⟩:=⟨by show q1.length<=_;omega,⟨by show o.box.length<=_;omega,by show o.sign.length<=_;omega,by show o.ident.length<=_;omega,by show o.parent.length<=_;omega,by show o.sig.length<=_;omega⟩,by show zS64.length<=_;omega⟩
  have c8:=z2u ⟨q1,o,zS64⟩ hf
  have hpr:PackP.right ⟨q1,o,zS64⟩=true:=by
   unfold PackP.right
   rw[show(PackP.mk q1 o zS64).leaf=o from rfl,hol,o4]
   show(decide (q1.length=32)&&(true&&decide ((1:UInt8)=1)&&decide (zS64.length=64)))=true
   rw[decide_eq_true e1,decide_eq_true hzl]
   rfl
  have htl:(zf0 ⟨q1,o,zS64⟩).length<=500000000:=by
   have hv:=zai q1
   have hL:=zib o
   simp only[zf0,aL,zao]
   omega
  rw[hpr]at c8
  generalize zf0 ⟨q1,o,zS64⟩=tx at c8 htl
  have c9:=zrx sg kpS tx h3 (by decide) htl
  have hs2:=zei sg (sB kpS) tx
  generalize zhg sg (sB kpS) tx=s2 at c9 hs2
  exact⟨⟨q1,o,s2,p1,p2,sg⟩,⟨e1,o1,o2,o3,o5,o6,hs2,h3,hol,k1,k2,o7⟩,zwa ident seed x1 p1 q1 x2 p2 q2 sg pk hs c1 c2 c3 c4 c5 c6 zS64 tx s2 o rfl c7 c8 c9⟩
theorem z56(ident seed:List UInt8)(hs:seed.length=32)(hi:ident.length<=64):
  (ident.length=0/\aG 8 [bs ident,bs seed] (.r (.tu [.ag zPk, .ag [nl,nl,nl],Er 3])))\/
  (ident.length≠0/\∃v:PkgV,v.ok/\aG 8 [bs ident,bs seed] (.r (.tu [.ag (PackP.c ⟨v.init,v.leaf,v.sig⟩),zqy v.a v.b v.c,Er 0]))):=by
 rcases z2t ident seed hs (by omega)with⟨h,c⟩ |⟨h,c⟩
 ·exact .inl ⟨by omega,c⟩
 ·exact .inr ⟨by omega,c⟩
section
set_option maxRecDepth 20000
section
variable {P:Program} {S:St} {o:Oper} {x y:Operand} {t t2 e:TypeId} {K:RV->Prop}
theorem zzn{w:World}{m:Nat}(hu:P.underlying t=some (.pointer e)):(Op.equalIn (m+1) t (.pointer none) (.pointer none)).run P w= .ok true w:=by simp[Op.equalIn,run_underlying hu w]
theorem z38{w:World}(hu:P.underlying t=some (.pointer e)):(Op.equal t (.pointer none) (.pointer none)).run P w= .ok true w:=zzn (m:=9999) hu
theorem Vfun.nn(e:TypeId)(hop:o.op= .binOp .eql t x y t2)(hx:opr S x=some (.r (.x (.pointer none))))(hy:opr S y=some (.r (.x (.pointer none))))(hu:P.underlying t=some (.pointer e))(hK:K (.b true)):Vfun P S o [x,y] K:=by
 refine⟨[.x (.pointer none), .x (.pointer none)],by simp only[oprs,hx,hy,St.rv], .b true,λa w k h=>?_,hK⟩
 obtain⟨u,v,e1,h1,h2⟩:=zmz h
 simp only[RV.at_]at h1 h2
 subst h1;subst h2
 simp only[List.map_cons,List.map_nil,List.cons.injEq,and_true]at e1
 refine⟨.bool true,?_,by simp only[RV.at_]⟩
 simp[execOp,hop,e1.1,e1.2,eqGuard,binOp,z38 hu]
end
abbrev np:RV:= .x (.pointer none)
abbrev ns:RV:= .x (.slice none 0 0)
theorem zh1:aG 24 [bs [],bs []] (.r (.b true)):=by
 have h:=z9d [] []
 simpa using h
abbrev nls:List RV:=[ns,ns,ns,ns,ns,ns,ns,ns,ns,ns,ns,ns]
abbrev zcmb:List RV:=[ns, .i .u64 0,ns,ns,I 0,ns,ns,ns,ns,ns,ns,ns,ns,ns,ns,ns,ns,ns,ns,ns]
abbrev zys:List RV:=[ns, .i .u64 0,ns,ns,I 0,ns,ns,ns,ns,ns,ns,ns,ns,ns,ns,ns,ns,ns,ns,ns,ns,ns,ns,ns]
theorem nn2{s t:Nat}:Cvs [ns,ns] [.sl s 0 [], .sl t 0 []]:=zk (Cv.nil s) (zk (Cv.nil t) Cvs.nil)
theorem zecb:aG 96 [.ag [ns, .i .u64 0,ns,ns], .ag [ns, .i .u64 0,ns,ns]] (.r (.b true)):=by
 refine aT Tryz.func96 rfl ?_
 refine Vcall.mk' zh1 nn2 ?_
 refine zt rfl ?_
 refine Vcall.mk' zh1 nn2 ?_
 refine Vcall.mk' zh1 nn2 ?_
 exact cr
theorem z6p:aG 168 [.sl 1 12 nls, .sl 1 12 nls] (.r (.b true)):=by
 refine aT Tryz.func168 rfl ?_
 refine zu rfl (zq ?_)
 refine zy (λi:Nat=>⟨[(0, .r (.sl 1 12 nls)),(1, .r (.sl 1 12 nls)),(5, .r (I i))],[],0⟩) (λi=>i<=12) (λi=>12-i) 0 (by omega) (zad [] rfl ⟨cr,cr,cr,trivial⟩ trivial) ?_
 intro i hi
 refine zh (λh=>zp ?_) (λh=>zq ?_)
 ·simp only[zb]at h
  have h1:i<12:=by omega
  have hc:(nls.drop ((i:Int).toNat*1)).take 1=[ns]:=by
   rw[Int.toNat_natCast,Nat.mul_one]
   have:i=0\/i=1\/i=2\/i=3\/i=4\/i=5\/i=6\/i=7\/i=8\/i=9\/i=10\/i=11:=by omega
   rcases this with rfl |rfl |rfl |rfl |rfl |rfl |rfl |rfl |rfl |rfl |rfl |rfl<;>rfl
  refine aV ?_
  refine zm (by omega) (by omega) hc (zg rfl ?_)
  refine zm (by omega) (by omega) hc (zg rfl ?_)
  refine Vcall.mk' zh1 nn2 ?_
  refine zu rfl (zq ?_)
  refine zd (m:=((i+1:Nat):Int)) (by omega) (by omega) ?_
  exact⟨i+1,by omega,by omega,zad [] rfl ⟨cr,cr,cr,trivial⟩ trivial⟩
 ·exact cr
theorem zzf:aG 97 [.ag nls, .ag nls] (.r (.b true)):=by
 refine aT Tryz.func97 rfl ?_
 refine zw ?_
 refine zw ?_
 refine ze z6p ?_
 exact cr
theorem z20:aG 169 [ns,ns] (.r (.b true)):=by
 refine aT Tryz.func169 rfl ?_
 refine zu rfl (zq ?_)
 refine Vloop.rounds 1 (Vrounds.step mixed Tab_ok ?_)
 refine zu rfl (zq ?_)
 exact cr
theorem zaab:aG 98 [ns,ns] (.r (.b true)):=by
 refine aT Tryz.func98 rfl ?_
 refine ze z20 ?_
 exact cr
theorem zabb:aG 33 [.ag zcmb, .ag zcmb] (.r (.b true)):=by
 refine aT Tryz.func33 rfl ?_
 refine za rfl rfl ?_
 refine za rfl rfl ?_
 refine ze zecb ?_
 refine zt rfl ?_
 refine Vcall.mk' zh1 nn2 ?_
 refine Vcall.mk' zh1 nn2 ?_
 refine za rfl rfl ?_
 refine za rfl rfl ?_
 refine ze zzf ?_
 refine ze zaab ?_
 exact cr
theorem z29:aG 68 [ns,ns] (.r (.b true)):=by
 refine aT Tryz.func68 rfl ?_
 refine zu rfl (zq ?_)
 refine Vloop.rounds 1 (Vrounds.step mixed Tab_ok ?_)
 refine zu rfl (zq ?_)
 exact cr
theorem z3a:aG 16 [.ag zys, .ag zys] (.r (.b true)):=by
 refine aT Tryz.func16 rfl ?_
 refine za rfl rfl ?_
 refine za rfl rfl ?_
 refine ze zabb ?_
 refine zu rfl ?_
 refine ze z29 ?_
 refine zu rfl ?_
 refine Vcall.mk' zh1 nn2 ?_
 refine zu rfl ?_
 refine zu rfl ?_
 refine zu rfl (zq ?_)
 refine Vloop.rounds 1 (Vrounds.step mixed Tab_ok ?_)
 refine zu rfl (zq ?_)
 refine Vloop.rounds 1 (Vrounds.step mixed Tab_ok ?_)
 refine zu rfl (zq ?_)
 exact cr
end
end Go.Proofs.YtkegaaonpekkgaaGreat.Sx
