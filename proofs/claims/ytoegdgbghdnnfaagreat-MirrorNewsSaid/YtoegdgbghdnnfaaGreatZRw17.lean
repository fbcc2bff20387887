import Derived.Test.YtoegdgbghdnnfaaGreatZAf
import Derived.Test.YtoegdgbghdnnfaaGreatZSxS
import Derived.Test.YtoegdgbghdnnfaaGreatZHp
import Derived.Test.YtoegdgbghdnnfaaGreatZQc
namespace Go.Proofs.YtoegdgbghdnnfaaGreat.Sx
open Go.RowKit
section
variable {x:CtxP} {t:List Node} {it:List UInt8} {d:Nat} (hx:x.fit) (g:TreeIn t d)
set_option maxHeartbeats 2000000 in
include hx g in
theorem z1m:bG 11 [.ptr (modR x t), .ptr (mirT x t it),I 3] (.r (.b true)):=by
 refine bT Tryz.func11 rfl ?_
 have ans:=λi=>zno (it:=it) hx g i
 refine zg rfl ?_
 refine ze (zr3 x t it) ?_
 refine bV ?_
 refine zg rfl ?_
 refine zm i00 i01 rfl ?_
 refine zg rfl ?_
 refine zw (by simp only[zb]) ?_
 refine zg rfl ?_
 refine zd (m:=0) rfl (by decide) ?_
 refine zm i00 i01 rfl ?_
 refine zg rfl ?_
 refine zw (by simp only[zb]) ?_
 refine ze (z0e x t it hx) ?_
 refine zg rfl ?_
 refine zd (m:=0) rfl (by decide) ?_
 refine zm i00 i01 rfl ?_
 refine za rfl rfl ?_
 refine ze (zdxb x) ?_
 refine zw rfl (zt ?_)
 refine Vloop.rounds 2 (Vrounds.step mixed Tab_ok ?_)
 refine zu rfl (zq ?_)
 refine Vloop.rounds 6 (Vrounds.step mixed Tab_ok ?_)
 refine zu rfl (zq ?_)
 refine ze (ans _) ?_
 refine zw rfl (zt ?_)
 refine zd (m:=0) rfl (by decide) ?_
 refine Vrounds.step mixed Tab_ok ?_
 refine zu rfl (zq ?_)
 refine ze (ans _) ?_
 refine zw rfl (zt ?_)
 refine zd (m:=1) rfl (by decide) ?_
 refine Vrounds.step mixed Tab_ok ?_
 refine zu rfl (zq ?_)
 refine ze (ans _) ?_
 refine zw rfl (zt ?_)
 refine zd (m:=2) rfl (by decide) ?_
 refine Vrounds.step mixed Tab_ok ?_
 refine zu rfl (zq ?_)
 refine ze (ans _) ?_
 refine zw rfl (zt ?_)
 refine zd (m:=3) rfl (by decide) ?_
 refine Vrounds.step mixed Tab_ok ?_
 refine zu rfl (zq ?_)
 refine ze (ans _) ?_
 refine zw rfl (zt ?_)
 refine zd (m:=4) rfl (by decide) ?_
 refine Vrounds.step mixed Tab_ok ?_
 refine zw rfl (zt ?_)
 refine zd (m:=1) rfl (by decide) ?_
 refine Vrounds.step mixed Tab_ok ?_
 refine zw rfl (zt ?_)
 exact cr
include hx g in
theorem z6x(n:Nat)(i:Int)(hn:n<18446744073709551616): ∃(b1 b2 b3 b4:List UInt8) (e1 e2 e3 e4:Nat),(∀c:Nat,n≠x.epoch->atE x.epoch n=c->e1=c/\e2=c/\e3=c/\e4=c)/\
  bG 13 [.ptr (mirT x t it), .i .u64 n,I i] (.r (.tu [bs b1,Er e1]))/\bG 14 [.ptr (mirT x t it), .i .u64 n] (.r (.tu [bs b2,Er e2]))/\
  bG 15 [.ptr (mirT x t it), .i .u64 n,I i] (.r (.tu [bs b3,Er e3]))/\bG 16 [.ptr (mirT x t it), .i .u64 n,I i] (.r (.tu [bs b4,Er e4])):=by
 by_cases h:n=x.epoch
 ·subst h
  by_cases hm:i∈zbh t
  ·obtain⟨o,rfl,ho,hk⟩:=g.member hm
   exact⟨_,_,_,_,0,0,0,18,λc h=>absurd rfl h,zu5 hx g o ho hm hk,zqt hx g,zu4 hx g o ho hm,znr hx o⟩
  ·exact⟨_,_,_,_,7,0,7,18,λc h=>absurd rfl h,zr5 hx g i hm,zqt hx g,zr4 hx g i hm,znr hx i⟩
 ·obtain⟨a,b,c,e⟩:=h_mX (t:=t) (it:=it) hx n i hn h
  exact⟨_,_,_,_,atE x.epoch n,atE x.epoch n,atE x.epoch n,atE x.epoch n,λc _ h=>⟨h,h,h,h⟩,a,b,c,e⟩
end
set_option maxHeartbeats 4000000 in
theorem zxr(x:CtxP)(it:List UInt8)(t:List Node)(right:Bool)(epoch:Nat)(i:Int)(he:x.epoch<18446744073709551616)(hep:epoch<18446744073709551616)(htl:t.length<=maxL)(hlate: ∀x∈t,∀u∈x.par.late,i64 u):
  bG 3 [.ag x.c,bs it,nods t, .b right, .i .u64 epoch,I i] (.r (.b true)):=by
 refine bT Tryz.func3 rfl ?_
 refine ze z6r ?_
 refine zw rfl (zt ?_)
 have c1:=z6o t htl
 cases hs:zom t with
 |false=>
  rw[hs]at c1
  refine ze c1 ?_
  refine zu rfl (zq ?_)
  exact cr
 |true=>
  rw[hs]at c1
  have c2:=z7k x
  refine ze c1 ?_
  refine zw rfl ?_
  cases hc:zjo x with
  |false=>
   rw[hc]at c2
   refine za rfl rfl ?_
   refine ze c2 ?_
   refine zu rfl (zq ?_)
   exact cr
  |true=>
   rw[hc]at c2
   refine za rfl rfl ?_
   refine ze c2 ?_
   refine zw rfl ?_
   refine zh (λhit=>zq (cr)) (λhit=>zt ?_)
   simp only[zb]at hit
   obtain⟨hlen,hsm⟩:=of_decide_eq_true hs
   have hfit: ∀n∈t,n.fit:=λn hn=>by
    have h1:=hsm n hn
    have h2:=hlate n hn
    simp only[Node.small,decide_eq_true_eq]at h1
    unfold Node.fit Leaf.fit Par.fit
    exact⟨⟨by omega,by omega,by omega,by omega,by omega⟩,by omega,by omega,by omega,h2⟩
   have ht:t.length<=1000000:=by omega
   have c3:=z6l t ht hfit
   cases hr:rightT t with
   |false=>
    rw[hr]at c3
    have c4:=zd1b x t it hfit ht hr
    refine ze c3 ?_
    cases right with
    |false=>
     refine zt ?_
     refine za rfl rfl ?_
     refine ze c4 ?_
     refine zu rfl (zq ?_)
     refine zd (m:=12) rfl (by decide) ?_
     refine zu rfl ?_
     refine Vfun.nn _ rfl rfl rfl Tryz.underlying31 ?_
     exact cr
    |true=>
     refine zt ?_
     refine za rfl rfl ?_
     refine ze c4 ?_
     refine zu rfl (zq ?_)
     refine zd (m:=12) rfl (by decide) ?_
     refine zu rfl ?_
     refine Vfun.nn _ rfl rfl rfl Tryz.underlying31 ?_
     exact cr
   |true=>
    rw[hr]at c3
    obtain⟨d,k,_⟩:=zfqb (zeq.1 hr) hfit
    have g:TreeIn t d:=⟨k,hr,hlen,hsm⟩
    have c5:=z99 t hfit k.right d k.hd k.len
    have hcx:x.group.length<=200/\x.tree.length<=200/\x.trans.length<=200:=by
     unfold zjo at hc
     simp only[Bool.and_eq_true,decide_eq_true_eq]at hc
     omega
    have hx: ∀h:List UInt8,h.length<=200->(⟨x.group,x.epoch,h,x.trans⟩:CtxP).fit:=λh hh=>⟨by show x.group.length<=_;omega,he,by show h.length<=_;omega,by show x.trans.length<=_;omega⟩
    refine ze c3 ?_
    cases right with
    |false=>
     refine zt ?_
     refine za rfl rfl ?_
     by_cases heq:x.tree=zas t d 0
     ·have c6:=zhn x.tree (zas t d 0)
      rw[decide_eq_true heq]at c6
      refine ze (z1k x t it (hx x.tree hcx.2.1) k ht hr heq (by omega)) ?_
      refine zw rfl (zt ?_)
      refine bV ?_
      refine ze c5 ?_
      refine ze c6 ?_
      refine zw rfl (zt ?_)
      refine za rfl rfl ?_
      refine zy ?_
      refine zy ?_
      refine zd (m:=0) rfl (by decide) ?_
      refine zw rfl ?_
      refine Vstep.sub (zd7 (t:=16) (modR x t) rfl rfl) ?_
      refine zj [] [] (λ_ _=>zmy (z1m (it:=it) (hx x.tree hcx.2.1) g)) (zi rfl ⟨_,_,rfl,cr,_,_,rfl,cr,_,_,rfl,cr,rfl⟩) rfl trivial trivial ?_
      refine zw rfl ?_
      refine ze (zno (it:=it) (hx x.tree hcx.2.1) g i) ?_
      refine zw rfl (zt ?_)
      obtain⟨b1,b2,b3,b4,e1,e2,e3,e4,hE,d1,d2,d3,d4⟩:=z6x (it:=it) (hx x.tree hcx.2.1) g epoch i hep
      refine ze d1 ?_
      refine ze d2 ?_
      refine ze d3 ?_
      refine ze d4 ?_
      refine zh (λh=>zq ?_) (λh=>zt ?_)
      ·simp only[zb]at h
       obtain⟨q1,q2,q3,q4⟩:=hE 13 (by dsimp only;omega) (by unfold atE;rw[if_pos (by dsimp only;omega)])
       subst q1 q2 q3 q4
       refine zd (m:=13) rfl (by decide) ?_
       refine zu rfl ?_
       refine zd (m:=13) rfl (by decide) ?_
       refine zu rfl ?_
       refine zd (m:=13) rfl (by decide) ?_
       refine zu rfl ?_
       refine zd (m:=13) rfl (by decide) ?_
       refine zu rfl ?_
       exact cr
      simp only[zb]at h
      refine zh (λh2=>?_) (λh2=>?_)
      ·exact cr
      simp only[zb]at h2
      obtain⟨q1,q2,q3,q4⟩:=hE 18 (by dsimp only;omega) (by unfold atE;rw[if_neg (by dsimp only;omega),if_pos (by dsimp only;omega)])
      subst q1 q2 q3 q4
      refine zd (m:=18) rfl (by decide) ?_
      refine zu rfl ?_
      refine zd (m:=18) rfl (by decide) ?_
      refine zu rfl ?_
      refine zd (m:=18) rfl (by decide) ?_
      refine zu rfl ?_
      refine zd (m:=18) rfl (by decide) ?_
      refine zu rfl ?_
      exact cr
     ·have c4:=zd2b x t it k ht hr heq
      have c6:=zhn x.tree (zas t d 0)
      rw[decide_eq_false heq]at c6
      refine ze c4 ?_
      refine zw rfl (zt ?_)
      refine bV ?_
      refine ze c5 ?_
      refine ze c6 ?_
      refine zu rfl (zq ?_)
      refine zd (m:=17) rfl (by decide) ?_
      refine zu rfl ?_
      refine Vfun.nn _ rfl rfl rfl Tryz.underlying31 ?_
      exact cr
    |true=>
     have c6:=zfu (zas t d 0)
     have hh:=zcr t d 0
     refine zq ?_
     refine ze c5 ?_
     refine za rfl rfl ?_
     refine ze (z1k ⟨x.group,x.epoch,zas t d 0,x.trans⟩ t it (hx _ (by omega)) k ht hr rfl (by omega)) ?_
     refine zw rfl (zt ?_)
     refine bV ?_
     refine ze c5 ?_
     refine ze c6 ?_
     refine zw rfl (zt ?_)
     refine za rfl rfl ?_
     refine zy ?_
     refine zy ?_
     refine zd (m:=0) rfl (by decide) ?_
     refine zw rfl ?_
     refine Vstep.sub (zd7 (t:=16) (modR ⟨x.group,x.epoch,zas t d 0,x.trans⟩ t) rfl rfl) ?_
     refine zj [] [] (λ_ _=>zmy (z1m (it:=it) (hx (zas t d 0) (by omega)) g)) (zi rfl ⟨_,_,rfl,cr,_,_,rfl,cr,_,_,rfl,cr,rfl⟩) rfl trivial trivial ?_
     refine zw rfl ?_
     refine ze (zno (it:=it) (hx (zas t d 0) (by omega)) g i) ?_
     refine zw rfl (zt ?_)
     obtain⟨b1,b2,b3,b4,e1,e2,e3,e4,hE,d1,d2,d3,d4⟩:=z6x (it:=it) (hx (zas t d 0) (by omega)) g epoch i hep
     refine ze d1 ?_
     refine ze d2 ?_
     refine ze d3 ?_
     refine ze d4 ?_
     refine zh (λh=>zq ?_) (λh=>zt ?_)
     ·simp only[zb]at h
      obtain⟨q1,q2,q3,q4⟩:=hE 13 (by dsimp only;omega) (by unfold atE;rw[if_pos (by dsimp only;omega)])
      subst q1 q2 q3 q4
      refine zd (m:=13) rfl (by decide) ?_
      refine zu rfl ?_
      refine zd (m:=13) rfl (by decide) ?_
      refine zu rfl ?_
      refine zd (m:=13) rfl (by decide) ?_
      refine zu rfl ?_
      refine zd (m:=13) rfl (by decide) ?_
      refine zu rfl ?_
      exact cr
     simp only[zb]at h
     refine zh (λh2=>?_) (λh2=>?_)
     ·exact cr
     simp only[zb]at h2
     obtain⟨q1,q2,q3,q4⟩:=hE 18 (by dsimp only;omega) (by unfold atE;rw[if_neg (by dsimp only;omega),if_pos (by dsimp only;omega)])
     subst q1 q2 q3 q4
     refine zd (m:=18) rfl (by decide) ?_
     refine zu rfl ?_
     refine zd (m:=18) rfl (by decide) ?_
     refine zu rfl ?_
     refine zd (m:=18) rfl (by decide) ?_
     refine zu rfl ?_
     refine zd (m:=18) rfl (by decide) ?_
     refine zu rfl ?_
     exact cr
theorem zwf(x:CtxP)(it:List UInt8)(t:List Node)(right:Bool)(a i:Int)(he:x.epoch<18446744073709551616)(ha:0<=a/\a<18446744073709551616)(htl:t.length<=maxL)(hlate: ∀x∈t,∀u∈x.par.late,i64 u):
  bG 3 [.ag x.c,bs it,nods t, .b right, .i .u64 a,I i] (.r (.b true)):=by
 obtain⟨n,rfl⟩:=Int.eq_ofNat_of_zero_le ha.1
 exact zxr x it t right n i he (by omega) htl hlate
section
open Go.ChangeShapes Go.WideShapes Go.ChangeAt Go.RowKit
def mirrorNewsC0:List Nat:=[3,4,17,46,47,85,45,79,81,141,77,131,132,74,126,177,205,142,207,143,206,260,208,261,262,263,304,306,337,305,134,188,235,201,187,189,237,238,287,290,236,285,286,327,284,326,246,294,239,288,303,289,293,240,292,328,358,377,359,291,135,190,241,245]
def mirrorNewsC1:List Nat:=[296,295,329,250,242,192,249,256,300,330,331,333,332,360,334,361,362,378,255,298,299,301,302,336,335,363,191,243,244,247,248,193,136,96,30,175,194,124,138,200,199,258,257,259,137,196,251,297,197,198,252,253,254,195,26,56,72,119,133,186,233,234,120,73]
def mirrorNewsC2:List Nat:=[123,173,174,176,125,121,169,223,170,122,159,215,216,171,224,283,172,225,232,226,95,149,129,185,130,150,82,80,140,203,202,139,204,83,84,18,48,86,144,209,210,29,57,97,145,211,264,307,308,338,229,168,27,339,309,311,340,364,341,342,310,343,365,379]
def mirrorNewsC3:List Nat:=[366,367,368,380,265,267,312,344,345,266,212,269,270,316,318,348,371,381,372,346,314,317,347,369,370,319,349,350,373,320,352,353,351,313,374,354,375,355,356,376,271,268,315,9,28,19,49,16,38,39,68,110,157,112,111,158,160,218,217,272,161,78,69,114]
def mirrorNewsC4:List Nat:=[164,113,162,219,163,221,281,282,220,273,274,321,275,322,323,276,324,325,357,277,278,279,280,115,165,44,75,70,116,117,166,222,167,76,127,128,180,181,182,183,184,179,178,227,228,230,231,40,13,41,71,118,5,20,6,7,21,22,50,87,10,88,51,52]
def mirrorNewsC5:List Nat:=[23,53,89,146,24,8,25,55,92,62,93,58,99,151,59,100,98,94,54,90,91,147,148,11,32,31,12,15,43,14,42,33,34,60,36,65,64,103,104,152,213,101,105,106,107,35,61,63,102,37,66,67,108,153,109,156,214,155,154]
def mirrorNewsC:List Nat:=mirrorNewsC0++(mirrorNewsC1++(mirrorNewsC2++(mirrorNewsC3++(mirrorNewsC4++(mirrorNewsC5)))))
theorem zht:Tryz.prog.closure 3=mirrorNewsC:=by rw[z5r];kernel_rfl
noncomputable def mirrorNewsIn (g:Nat):Option String:=(Tryz.prog.funcs[g]?).bind λfn=>if fn.ours||fn.body.isNone||fn.name== "runtime.NumGoroutine" then some fn.name else none
theorem zwj:(Rows.mirrorNewsRow.inPlace==Tryz.prog.inPlace 3)=true:=by
 unfold Program.inPlace
 rw[zht]
 have h:mirrorNewsC.filterMap mirrorNewsIn=Rows.mirrorNewsRow.inPlace:=by kernel_rfl
 exact beq_iff_eq.2 h.symm
theorem zm0:Tryz.prog.unfollowed 3=true:=by
 unfold Program.unfollowed
 rw[zht]
 exact List.any_eq_true.2 ⟨286,List.contains_iff_mem.1 (by kernel_rfl),by kernel_rfl⟩
theorem zub:(Rows.mirrorNewsRow.unfollowed==Tryz.prog.unfollowed 3)=true:=by rw[zm0];rfl
theorem zua:(Rows.mirrorNewsRow.recurses==Tryz.prog.recurses 3)=true:=by unfold Program.recurses;rw[zm0];rfl
noncomputable def mirrorNewsGn (g:Nat):List Nat:=((Tryz.prog.funcs[g]?).bind (·.body)).elim [] Code.globalsNamed
theorem zt4:mirrorNewsC0.flatMap mirrorNewsGn=[]:=by kernel_rfl
theorem zt5:mirrorNewsC1.flatMap mirrorNewsGn=[]:=by kernel_rfl
theorem zt6:mirrorNewsC2.flatMap mirrorNewsGn=[]:=by kernel_rfl
theorem zt7:mirrorNewsC3.flatMap mirrorNewsGn=[]:=by kernel_rfl
theorem zt8:mirrorNewsC4.flatMap mirrorNewsGn=[]:=by kernel_rfl
theorem zt9:mirrorNewsC5.flatMap mirrorNewsGn=[]:=by kernel_rfl
theorem zwi:mirrorNewsC.flatMap mirrorNewsGn=[]:=by simp only[mirrorNewsC,List.flatMap_append,zt4,zt5,zt6,zt7,zt8,zt9,List.append_nil]
theorem zwk:(Rows.mirrorNewsRow.named==Tryz.prog.varsNamed 3)=true:=by
 unfold Program.varsNamed
 rw[zht]
 have h:(mirrorNewsC.filterMap λg=>(Tryz.prog.funcs[g]?).bind λfn=>if fn.body.isNone then entryReads.lookup fn.name else none)=[]:=by kernel_rfl
 have k:(mirrorNewsC.flatMap λg=>((Tryz.prog.funcs[g]?).bind (·.body)).elim [] Code.globalsNamed)=[]:=zwi
 rw[h,k];rfl
theorem zpx:joinedFacts bP 3 Tryz.f3 Rows.mirrorNewsSpec Rows.mirrorNewsRow=true:=by
 unfold joinedFacts
 repeat' with_reducible apply andI
 all_goals first
  |with_reducible exact zsc
  |with_reducible exact z4o
  |with_reducible exact z0o
  |with_reducible exact zwj
  |with_reducible exact zub
  |with_reducible exact zua
  |with_reducible exact zwk
  |(rw[z4i];kernel_rfl)
  |kernel_rfl
end
section
open Go.ChangeShapes Go.WideShapes Go.ChangeAt Go.RowKit
set_option maxRecDepth 100000 in
theorem zpy(os:Os)(started:os.Started)(H:Type)(enc:TypeId×Value->H):
  ReturnsInHanded {} Tryz.checked os 3 .any (Rows.mirrorNewsSpec.pre6 enc bP Tryz.f3 Rows.mirrorNewsRow.domain false) (Rows.mirrorNewsSpec.post enc bP Tryz.f3 false true false false):=by
 refine returnsInHanded_of_change_sized (C:=Tryz.checked) zbkb started (by kernel_rfl) Tryz.func3
  (ChangeSpec.witness6 (enc:=enc) (C:=Tryz.checked) false ⟨#[], #[.agg #[.slice none 0 0, .int .u64 0, .slice none 0 0, .slice none 0 0], .slice none 0 0, .slice none 0 0, .bool false, .int .u64 0, .int .i64 0],[]⟩ 8 (by kernel_rfl) (by kernel_rfl) (by kernel_rfl) (by kernel_rfl)) ?_
 intro W base args ds gs before hval0 hW hcnd hsz0 _
 have hval: ∀(j:Nat) t v,Tryz.f3.params[j]?=some t->args[j]?=some v->Value.okWide bP W .any base t v:=hval0
 have hsz:(DataW.weightsEach bP (Tryz.f3.params.toList++Rows.mirrorNewsSpec.plain.varTypes Tryz.prog) (ds++gs)).all (· <=reachBytes)=true:=hsz0
 have hW':=hW
 obtain⟨p,q,hA0,hV,rfl,hfz,hnd⟩:=hW
 have hA:DataW.TrodAll enc bP W 0 (λ_=>true) true Tryz.f3.params.toList args.toList ds p:=hA0
 rw[Tryz.params3]at hA hval hsz
 obtain⟨v0,vs0,d0,ds0,p0,q0,hargs,rfl,rfl,h0,r0⟩:=trodAll_cons hA
 obtain⟨v1,vs1,d1,ds1,p1,q1,rfl,rfl,rfl,h1,r1⟩:=trodAll_cons r0
 obtain⟨v2,vs2,d2,ds2,p2,q2,rfl,rfl,rfl,h2,r2⟩:=trodAll_cons r1
 obtain⟨v3,vs3,d3,ds3,p3,q3,rfl,rfl,rfl,h3,r3⟩:=trodAll_cons r2
 obtain⟨v4,vs4,d4,ds4,p4,q4,rfl,rfl,rfl,h4,r4⟩:=trodAll_cons r3
 obtain⟨v5,vs5,d5,ds5,p5,q5,rfl,rfl,rfl,h5,r5⟩:=trodAll_cons r4
 obtain⟨rfl,rfl,rfl⟩:=trodAll_nil r5
 obtain rfl:args= #[v0,v1,v2,v3,v4,v5]:=by cases args;simp_all
 obtain⟨rfl,rfl⟩:=trodVars_none hV
 obtain⟨a4,rfl,rfl,rfl,w4⟩:=open_int Tryz.underlying23 (hval 4 23 v4 rfl rfl) h4
 obtain⟨a5,rfl,rfl,rfl,w5⟩:=open_int Tryz.underlying3 (hval 5 3 v5 rfl rfl) h5
 obtain⟨a3,rfl,rfl,rfl⟩:=open_bool Tryz.underlying4 (hval 3 4 v3 rfl rfl) h3
 have lt0: ∀x∈p0,x.block<W.heap.size:=by obtain⟨m,hm⟩:=h0;exact DataW.trod_lt m _ _ _ hm
 obtain⟨l0,i0,hv0⟩:=zf8b (hval 0 25 v0 rfl rfl) h0
 have lt1: ∀x∈p1,x.block<W.heap.size:=by obtain⟨m,hm⟩:=h1;exact DataW.trod_lt m _ _ _ hm
 obtain⟨l1,hv1⟩:=z9k (hval 1 22 v1 rfl rfl) h1
 have lt2: ∀x∈p2,x.block<W.heap.size:=by obtain⟨m,hm⟩:=h2;exact DataW.trod_lt m _ _ _ hm
 obtain⟨l2,i2,m2,hv2⟩:=zewb (hval 2 26 v2 rfl rfl) h2 λn hn=>by
  have:=List.all_eq_true.1 hsz n (DataW.weights_mem_each (j:=2) rfl rfl n hn)
  simpa using this
 clear hA0 hval0 hsz0
 refine((zwf l0 l1 l2 a3 a4 a5 i0 (zilb w4) m2 i2).2 W (allK W) [v0,v1,v2, .bool a3, .int .u64 a4, .int .i64 a5] (by simp only[RV.partsAt];exact⟨_,_,rfl,hv0,_,_,rfl,hv1,_,_,rfl,hv2,_,_,rfl,rfl,_,_,rfl,rfl,_,_,rfl,rfl,rfl⟩)).mono λe W' ⟨v,he,bel,k',_,hr⟩=>?_
 have hr':v= .bool true:=by simpa[Res.at_,RV.at_]using hr
 subst hr';subst he
 exact⟨_,rfl,_,_,_,[],_,[],hW',trodAll_mk1 (shut_bool Tryz.underlying4 _),(trodAll_cons_mk (Below.trod zqw (by kernel_rfl) (of_decide_eq_true (by kernel_rfl)) h0 bel lt0) (trodAll_cons_mk (Below.trod zqw (by kernel_rfl) (of_decide_eq_true (by kernel_rfl)) h1 bel lt1) (trodAll_cons_mk (Below.trod zqw (by kernel_rfl) (of_decide_eq_true (by kernel_rfl)) h2 bel lt2) (trodAll_cons_mk (shut_bool Tryz.underlying4 a3) (trodAll_cons_mk (shut_int Tryz.underlying23 w4) (trodAll_cons_mk (shut_int Tryz.underlying3 w5) trodAll_mk0)))))),rfl,bel.frame _,λh=>by cases h⟩
theorem mirrorNews_holds:Rows.MirrorNewsSaid:=
 OpenClaim.holds_of_wide 3 Tryz.f3 rfl rfl rfl rfl rfl rfl rfl ⟨rfl,rfl,rfl,rfl,rfl⟩ rfl rfl rfl rfl rfl (by kernel_rfl) Tryz.func3 zpx
  (of_decide_eq_true (by kernel_rfl)) (by unfold Func.isWrapper;first|(rw[if_pos (by decide+kernel)];kernel_rfl)|(rw[if_neg (by decide+kernel)];exact⟨rfl,rfl⟩))
  (λos started H enc _=>zpy os started H enc)
#print axioms mirrorNews_holds
end
end Go.Proofs.YtoegdgbghdnnfaaGreat.Sx
