import Derived.Test.YtpcfoglfakeimaaGreatZSxY
import Derived.Test.YtpcfoglfakeimaaGreatZOk
import Derived.Test.YtpcfoglfakeimaaGreatZNk
namespace Go.Proofs.YtpcfoglfakeimaaGreat.Sx
section
open Go.ChangeShapes Go.WideShapes Go.ChangeAt Go.RowKit
set_option maxRecDepth 100000 in
theorem z8k{H:Type}{enc:TypeId×Value->H}{W:World}{base:Nat}{v:Value}{d:DataW H}{p:List MemPlace}(hval:Value.okWide aP W .any base 24 v)
  (h:DataW.Trod enc aP W 0 (λ_=>true) true 24 v d p) (hw: ∀n∈d.weights aP 24,n<=reachBytes):
  ∃l:List PropP,(∀x∈l,Sx.i64 x.at_)/\l.length<=maxL/\(prsR l).at_ W (allK W) v:=by
 obtain⟨a,n,c,rfl⟩:=okWide_slice Tryz.underlying24 hval
 obtain⟨fuel,hf⟩:=h
 obtain⟨l,h1,h2,h3⟩:=Rd.slice (sz:=16) (r:=⟨H,enc,W,0,λ_=>true,true⟩) (fuel:=fuel) (cs:=[.slice a n c]) (x:=(d,p)) Tryz.underlying24 (by kernel_rfl) (by omega) (λ_=>rfl) Rd.prop hf
 refine⟨l,h1,?_,?_⟩
 ·rcases h3 with rfl |⟨E,Sp,he,hlen⟩
  ·simp
  ·have:=hw ((E.length+Sp.length)*Tryz.prog.bytesOf 35) (by rw[show d= .slice E Sp from he];simp[DataW.weights,Tryz.underlying24])
   rw[show Tryz.prog.bytesOf 35=320 by kernel_rfl]at this
   simp only[reachBytes]at this
   unfold maxL
   omega
 ·simp only[RV.listAt]at h2
  obtain⟨u,r,e,_,hat,rfl⟩:=h2
  simp only[List.cons.injEq,and_true]at e
  rw[e]
  exact hat
end
section
open Go.ChangeShapes Go.WideShapes Go.ChangeAt Go.RowKit
def propsRawC0:List Nat:=[3,4,10,30,58,99,60,59,100,142,191,192,260,314,223,256,313,289,333,182,334,335,368,370,395,369,141,131,183,190,143,194,195,263,266,193,262,248,304,261,315,203,270,196,264,316,265,269,197,268,317,357,378,358,267,101,144,198,202,250,271,257,207,199]
def propsRawC1:List Nat:=[146,206,179,255,308,309,311,310,354,312,355,356,377,178,251,254,306,307,253,252,305,145,200,201,204,205,147,102,81,82,80,79,111,110,172,246,148,130,208,273,272,274,61,47,14,33,65,108,167,168,34,66,109,169,170,171,112,35,67,113,68,36,69,114]
def propsRawC2:List Nat:=[115,70,116,173,71,117,174,118,85,132,17,42,83,88,90,133,134,184,258,31,52,62,46,86,72,87,89,45,63,103,106,165,164,237,135,185,238,298,351,241,93,239,240,50,242,243,166,245,301,186,302,303,140,189,187,259,188,244,299,300,352,353,149,209]
def propsRawC3:List Nat:=[228,291,292,336,371,364,286,337,279,322,323,365,324,293,338,294,325,282,328,281,326,366,327,297,349,350,367,387,388,401,389,373,374,390,402,403,406,391,392,393,394,247,283,329,152,218,284,158,229,219,285,330,331,210,212,213,231,211,155,161,163,234,296,341]
def propsRawC4:List Nat:=[342,372,343,344,375,376,396,345,346,347,348,235,236,156,225,224,150,154,221,222,288,175,40,287,332,220,215,214,276,275,318,359,379,397,380,360,319,320,361,362,381,382,398,404,405,399,400,363,383,384,385,386,104,151,216,277,321,278,280,217,153,41,78,129]
def propsRawC5:List Nat:=[176,249,177,181,180,105,157,226,290,227,159,162,233,232,230,295,339,340,160,55,107,32,29,28,64,7,15,37,16,38,74,119,122,120,121,123,75,76,125,127,124,126,73,39,77,128,18,43,84,44,19,20,11,5,12,6,13,8,21,48,49,91,92,51]
def propsRawC6:List Nat:=[22,23,53,94,95,96,97,54,98,138,137,139,136,24,56,25,26,57,27,9]
def propsRawC:List Nat:=propsRawC0++(propsRawC1++(propsRawC2++(propsRawC3++(propsRawC4++(propsRawC5++(propsRawC6))))))
theorem ziy:Tryz.prog.closure 3=propsRawC:=by rw[z2t];kernel_rfl
noncomputable def propsRawIn (g:Nat):Option String:=(Tryz.prog.funcs[g]?).bind λfn=>if fn.ours||fn.body.isNone||fn.name== "runtime.NumGoroutine" then some fn.name else none
theorem zyw:(Rows.propsRawRow.inPlace==Tryz.prog.inPlace 3)=true:=by
 unfold Program.inPlace
 rw[ziy]
 have h:propsRawC.filterMap propsRawIn=Rows.propsRawRow.inPlace:=by kernel_rfl
 exact beq_iff_eq.2 h.symm
theorem zot:Tryz.prog.unfollowed 3=true:=by
 unfold Program.unfollowed
 rw[ziy]
 exact List.any_eq_true.2 ⟨248,List.contains_iff_mem.1 (by kernel_rfl),by kernel_rfl⟩
theorem zxd:(Rows.propsRawRow.unfollowed==Tryz.prog.unfollowed 3)=true:=by rw[zot];rfl
theorem zxc:(Rows.propsRawRow.recurses==Tryz.prog.recurses 3)=true:=by unfold Program.recurses;rw[zot];rfl
noncomputable def propsRawGn (g:Nat):List Nat:=((Tryz.prog.funcs[g]?).bind (·.body)).elim [] Code.globalsNamed
theorem zw5:propsRawC0.flatMap propsRawGn=[]:=by kernel_rfl
theorem zw6:propsRawC1.flatMap propsRawGn=[]:=by kernel_rfl
theorem zw7:propsRawC2.flatMap propsRawGn=[]:=by kernel_rfl
theorem zw8:propsRawC3.flatMap propsRawGn=[]:=by kernel_rfl
theorem zw9:propsRawC4.flatMap propsRawGn=[]:=by kernel_rfl
theorem zxa:propsRawC5.flatMap propsRawGn=[]:=by kernel_rfl
theorem zxb:propsRawC6.flatMap propsRawGn=[]:=by kernel_rfl
theorem zyv:propsRawC.flatMap propsRawGn=[]:=by simp only[propsRawC,List.flatMap_append,zw5,zw6,zw7,zw8,zw9,zxa,zxb,List.append_nil]
theorem zyx:(Rows.propsRawRow.named==Tryz.prog.varsNamed 3)=true:=by
 unfold Program.varsNamed
 rw[ziy]
 have h:(propsRawC.filterMap λg=>(Tryz.prog.funcs[g]?).bind λfn=>if fn.body.isNone then entryReads.lookup fn.name else none)=[]:=by kernel_rfl
 have k:(propsRawC.flatMap λg=>((Tryz.prog.funcs[g]?).bind (·.body)).elim [] Code.globalsNamed)=[]:=zyv
 rw[h,k];rfl
theorem zq4:joinedFacts aP 3 Tryz.f3 Rows.propsRawSpec Rows.propsRawRow=true:=by
 unfold joinedFacts
 repeat' with_reducible apply andI
 all_goals first
  |with_reducible exact zqv
  |with_reducible exact z1z
  |with_reducible exact zy2
  |with_reducible exact zyw
  |with_reducible exact zxd
  |with_reducible exact zxc
  |with_reducible exact zyx
  |(rw[z1v];kernel_rfl)
  |kernel_rfl
end
section
open Go.ChangeShapes Go.WideShapes Go.ChangeAt Go.RowKit
set_option maxRecDepth 100000 in
theorem zq5(os:Os)(started:os.Started)(H:Type)(enc:TypeId×Value->H):
  ReturnsInHanded {} Tryz.checked os 3 .any (Rows.propsRawSpec.pre6 enc aP Tryz.f3 Rows.propsRawRow.domain false) (Rows.propsRawSpec.post enc aP Tryz.f3 false true false false):=by
 refine returnsInHanded_of_change_sized (C:=Tryz.checked) z8e started (by kernel_rfl) Tryz.func3
  (ChangeSpec.witness6 (enc:=enc) (C:=Tryz.checked) false ⟨#[], #[.slice none 0 0, .int .i64 0, .slice none 0 0, .slice none 0 0, .slice none 0 0],[]⟩ 8 (by kernel_rfl) (by kernel_rfl) (by kernel_rfl) (by kernel_rfl)) ?_
 intro W base args ds gs before hval0 hW hcnd hsz0 _
 have hval: ∀(j:Nat) t v,Tryz.f3.params[j]?=some t->args[j]?=some v->Value.okWide aP W .any base t v:=hval0
 have hsz:(DataW.weightsEach aP (Tryz.f3.params.toList++Rows.propsRawSpec.plain.varTypes Tryz.prog) (ds++gs)).all (· <=reachBytes)=true:=hsz0
 have hW':=hW
 obtain⟨p,q,hA0,hV,rfl,hfz,hnd⟩:=hW
 have hA:DataW.TrodAll enc aP W 0 (λ_=>true) true Tryz.f3.params.toList args.toList ds p:=hA0
 rw[Tryz.params3]at hA hval hsz
 obtain⟨v0,vs0,d0,ds0,p0,q0,hargs,rfl,rfl,h0,r0⟩:=trodAll_cons hA
 obtain⟨v1,vs1,d1,ds1,p1,q1,rfl,rfl,rfl,h1,r1⟩:=trodAll_cons r0
 obtain⟨v2,vs2,d2,ds2,p2,q2,rfl,rfl,rfl,h2,r2⟩:=trodAll_cons r1
 obtain⟨v3,vs3,d3,ds3,p3,q3,rfl,rfl,rfl,h3,r3⟩:=trodAll_cons r2
 obtain⟨v4,vs4,d4,ds4,p4,q4,rfl,rfl,rfl,h4,r4⟩:=trodAll_cons r3
 obtain⟨rfl,rfl,rfl⟩:=trodAll_nil r4
 obtain rfl:args= #[v0,v1,v2,v3,v4]:=by cases args;simp_all
 obtain⟨rfl,rfl⟩:=trodVars_none hV
 obtain⟨a1,rfl,rfl,rfl,w1⟩:=open_int Tryz.underlying3 (hval 1 3 v1 rfl rfl) h1
 have lt0: ∀x∈p0,x.block<W.heap.size:=by obtain⟨m,hm⟩:=h0;exact DataW.trod_lt m _ _ _ hm
 obtain⟨l0,i0,m0,hv0⟩:=zbtb (hval 0 22 v0 rfl rfl) h0 λn hn=>by
  have:=List.all_eq_true.1 hsz n (DataW.weights_mem_each (j:=0) rfl rfl n hn)
  simpa using this
 have lt2: ∀x∈p2,x.block<W.heap.size:=by obtain⟨m,hm⟩:=h2;exact DataW.trod_lt m _ _ _ hm
 obtain⟨l2,i2,m2,hv2⟩:=zbgb (hval 2 23 v2 rfl rfl) h2 λn hn=>by
  have:=List.all_eq_true.1 hsz n (DataW.weights_mem_each (j:=2) rfl rfl n hn)
  simpa using this
 have lt3: ∀x∈p3,x.block<W.heap.size:=by obtain⟨m,hm⟩:=h3;exact DataW.trod_lt m _ _ _ hm
 obtain⟨l3,i3,m3,hv3⟩:=z8k (hval 3 24 v3 rfl rfl) h3 λn hn=>by
  have:=List.all_eq_true.1 hsz n (DataW.weights_mem_each (j:=3) rfl rfl n hn)
  simpa using this
 have lt4: ∀x∈p4,x.block<W.heap.size:=by obtain⟨m,hm⟩:=h4;exact DataW.trod_lt m _ _ _ hm
 obtain⟨l4,hv4⟩:=z6c (hval 4 25 v4 rfl rfl) h4
 clear hA0 hval0 hsz0
 refine((z1j l0 a1 l2 l3 l4 m0 i0 m2 i2 m3).2 W (allK W) [v0, .int .i64 a1,v2,v3,v4] (by simp only[RV.partsAt];exact⟨_,_,rfl,hv0,_,_,rfl,rfl,_,_,rfl,hv2,_,_,rfl,hv3,_,_,rfl,hv4,rfl⟩)).mono λe W' ⟨v,he,bel,k',_,hr⟩=>?_
 have hr':v= .bool true:=by simpa[Res.at_,RV.at_]using hr
 subst hr';subst he
 exact⟨_,rfl,_,_,_,[],_,[],hW',trodAll_mk1 (shut_bool Tryz.underlying4 _),(trodAll_cons_mk (Below.trod zla (by kernel_rfl) (of_decide_eq_true (by kernel_rfl)) h0 bel lt0) (trodAll_cons_mk (shut_int Tryz.underlying3 w1) (trodAll_cons_mk (Below.trod zla (by kernel_rfl) (of_decide_eq_true (by kernel_rfl)) h2 bel lt2) (trodAll_cons_mk (Below.trod zla (by kernel_rfl) (of_decide_eq_true (by kernel_rfl)) h3 bel lt3) (trodAll_cons_mk (Below.trod zla (by kernel_rfl) (of_decide_eq_true (by kernel_rfl)) h4 bel lt4) trodAll_mk0))))),rfl,bel.frame _,λh=>by cases h⟩
theorem propsRaw_holds:Rows.PropsRawSaid:=
 OpenClaim.holds_of_wide 3 Tryz.f3 rfl rfl rfl rfl rfl rfl rfl ⟨rfl,rfl,rfl,rfl,rfl⟩ rfl rfl rfl rfl rfl (by kernel_rfl) Tryz.func3 zq4
  (of_decide_eq_true (by kernel_rfl)) (by unfold Func.isWrapper;first|(rw[if_pos (by decide+kernel)];kernel_rfl)|(rw[if_neg (by decide+kernel)];exact⟨rfl,rfl⟩))
  (λos started H enc _=>zq5 os started H enc)
#print axioms propsRaw_holds
end
end Go.Proofs.YtpcfoglfakeimaaGreat.Sx
