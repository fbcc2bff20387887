import Derived.Test.YtamhdpombmegaaaGreatZVf
import Derived.Test.YtamhdpombmegaaaGreatZHa
namespace Go.Proofs.YtamhdpombmegaaaGreat.Sx
section
open Go.ChangeShapes Go.WideShapes Go.ChangeAt Go.RowKit
def cacheNilC0:List Nat:=[3,4,14,40,98,192,193,41,99,194,178,177,5,15,24,42,43,48,106,107,206,209,307,118,222,111,214,313,236,134,237,207,306,335,27,208,108,110,210,308,211,212,109,213,309,390,310,311,312,391,100,52,112,113,50,215,314,315,216,101,47,44,103,102]
def cacheNilC1:List Nat:=[195,199,220,292,386,439,482,510,304,483,385,387,291,383,305,384,293,388,297,354,298,389,357,319,301,294,287,196,198,150,248,290,378,379,381,380,436,382,437,438,481,197,288,289,302,303,356,355,421,200,295,296,299,300,201,221,203,202,204,45,104,51,46,105]
def cacheNilC2:List Nat:=[205,69,149,245,246,247,338,340,418,339,16,49,6,18,17,54,68,148,53,115,217,218,114,116,219,317,318,393,316,392,55,117,119,19,56,7,21,20,57,22,58,86,121,224,185,282,184,122,120,223,59,123,82,170,277,373,433,434,435,374,278,87,174,171]
def cacheNilC3:List Nat:=[172,279,84,139,92,182,183,124,159,260,151,350,349,251,343,419,344,249,351,352,347,342,420,345,250,341,456,346,153,241,332,414,334,333,415,416,455,417,321,396,320,394,440,395,325,406,407,441,484,490,326,485,511,486,443,444,487,512,513,518,488,489,491,492]
def cacheNilC4:List Nat:=[322,397,138,225,88,179,60,32,65,137,240,67,146,147,26,71,72,154,156,152,155,157,252,253,158,255,256,254,257,258,259,348,73,70,23,61,62,125,126,226,323,227,127,228,128,129,130,131,229,324,398,399,442,400,401,445,446,493,402,403,404,405,230,231]
def cacheNilC5:List Nat:=[132,233,232,64,63,133,234,235,328,327,408,136,135,239,238,329,409,447,494,448,410,330,331,411,412,449,450,495,514,515,496,497,413,451,452,453,454,66,140,242,141,142,244,336,243,337,143,144,145,8,25,9,28,74,29,75,76,160,261,353,262,264,263,77]
def cacheNilC6:List Nat:=[30,78,31,33,79,161,80,162,81,163,265,358,359,165,164,266,166,267,269,268,167,270,168,271,360,422,427,475,476,477,478,457,423,272,361,424,458,459,498,460,461,499,500,516,462,463,464,465,362,363,425,466,467,501,468,469,502,503,517,470,471,472,473,364]
def cacheNilC7:List Nat:=[273,365,426,474,504,505,506,507,169,274,275,367,368,366,428,276,369,429,479,430,370,372,432,431,480,508,509,371,34,83,35,85,173,175,176,280,375,36,90,89,91,180,181,281,376,10,11,13,39,12,37,93,186,95,187,283,188,284,94,97,190,191,96,189]
def cacheNilC8:List Nat:=[285,377,286,38]
def cacheNilC:List Nat:=cacheNilC0++(cacheNilC1++(cacheNilC2++(cacheNilC3++(cacheNilC4++(cacheNilC5++(cacheNilC6++(cacheNilC7++(cacheNilC8))))))))
theorem zb7:Tryz.prog.closure 3=cacheNilC:=by rw[zis];kernel_rfl
noncomputable def cacheNilIn (g:Nat):Option String:=(Tryz.prog.funcs[g]?).bind λfn=>if fn.ours||fn.body.isNone||fn.name== "runtime.NumGoroutine" then some fn.name else none
theorem zgx:(Rows.cacheNilRow.inPlace==Tryz.prog.inPlace 3)=true:=by
 unfold Program.inPlace
 rw[zb7]
 have h:cacheNilC.filterMap cacheNilIn=Rows.cacheNilRow.inPlace:=by kernel_rfl
 exact beq_iff_eq.2 h.symm
theorem zdo:Tryz.prog.unfollowed 3=true:=by
 unfold Program.unfollowed
 rw[zb7]
 exact List.any_eq_true.2 ⟨308,List.contains_iff_mem.1 (by kernel_rfl),by kernel_rfl⟩
theorem zfy:(Rows.cacheNilRow.unfollowed==Tryz.prog.unfollowed 3)=true:=by rw[zdo];rfl
theorem zfx:(Rows.cacheNilRow.recurses==Tryz.prog.recurses 3)=true:=by unfold Program.recurses;rw[zdo];rfl
noncomputable def cacheNilGn (g:Nat):List Nat:=((Tryz.prog.funcs[g]?).bind (·.body)).elim [] Code.globalsNamed
theorem zfo:cacheNilC0.flatMap cacheNilGn=[]:=by kernel_rfl
theorem zfp:cacheNilC1.flatMap cacheNilGn=[]:=by kernel_rfl
theorem zfq:cacheNilC2.flatMap cacheNilGn=[]:=by kernel_rfl
theorem zfr:cacheNilC3.flatMap cacheNilGn=[]:=by kernel_rfl
theorem zfs:cacheNilC4.flatMap cacheNilGn=[]:=by kernel_rfl
theorem zft:cacheNilC5.flatMap cacheNilGn=[]:=by kernel_rfl
theorem zfu:cacheNilC6.flatMap cacheNilGn=[]:=by kernel_rfl
theorem zfv:cacheNilC7.flatMap cacheNilGn=[]:=by kernel_rfl
theorem zfw:cacheNilC8.flatMap cacheNilGn=[]:=by kernel_rfl
theorem zgw:cacheNilC.flatMap cacheNilGn=[]:=by simp only[cacheNilC,List.flatMap_append,zfo,zfp,zfq,zfr,zfs,zft,zfu,zfv,zfw,List.append_nil]
theorem zgy:(Rows.cacheNilRow.named==Tryz.prog.varsNamed 3)=true:=by
 unfold Program.varsNamed
 rw[zb7]
 have h:(cacheNilC.filterMap λg=>(Tryz.prog.funcs[g]?).bind λfn=>if fn.body.isNone then entryReads.lookup fn.name else none)=[]:=by kernel_rfl
 have k:(cacheNilC.flatMap λg=>((Tryz.prog.funcs[g]?).bind (·.body)).elim [] Code.globalsNamed)=[]:=zgw
 rw[h,k];rfl
theorem zd8:joinedFacts Tryz.prog 3 Tryz.f3 Rows.cacheNilSpec Rows.cacheNilRow=true:=by
 unfold joinedFacts
 repeat' with_reducible apply andI
 all_goals first
  |with_reducible exact zed
  |with_reducible exact zif
  |with_reducible exact zha
  |with_reducible exact zgx
  |with_reducible exact zfy
  |with_reducible exact zfx
  |with_reducible exact zgy
  |(rw[zid];kernel_rfl)
  |kernel_rfl
end
section
open Go.ChangeShapes Go.WideShapes Go.ChangeAt Go.RowKit
set_option maxRecDepth 100000 in
theorem zgz(os:Os)(started:os.Started)(H:Type)(enc:TypeId×Value->H):
  ReturnsInHanded {} Tryz.checked os 3 .any (Rows.cacheNilSpec.pre6 enc Tryz.prog Tryz.f3 Rows.cacheNilRow.domain false) (Rows.cacheNilSpec.post enc Tryz.prog Tryz.f3 false true false false):=by
 refine returnsInHanded_of_change_sized (C:=Tryz.checked) zj6 started (by kernel_rfl) Tryz.func3
  (ChangeSpec.witness6 (enc:=enc) (C:=Tryz.checked) false ⟨#[], #[.slice none 0 0, .agg #[.int .u8 0, .slice none 0 0, .slice none 0 0, .slice none 0 0, .slice none 0 0, .int .u8 0, .slice none 0 0, .slice none 0 0, .slice none 0 0, .slice none 0 0, .slice none 0 0, .slice none 0 0, .int .u8 0, .slice none 0 0, .slice none 0 0, .int .i64 0], .int .i64 0],[]⟩ 8 (by kernel_rfl) (by kernel_rfl) (by kernel_rfl) (by kernel_rfl)) ?_
 intro W base args ds gs before hval0 hW hcnd hsz0 _
 have hval: ∀(j:Nat) t v,Tryz.f3.params[j]?=some t->args[j]?=some v->Value.okWide Tryz.prog W .any base t v:=hval0
 have hW':=hW
 obtain⟨p,q,hA0,hV,rfl,hfz,hnd⟩:=hW
 have hA:DataW.TrodAll enc Tryz.prog W 0 (λ_=>true) true Tryz.f3.params.toList args.toList ds p:=hA0
 rw[Tryz.params3]at hA hval
 obtain⟨v0,vs0,d0,ds0,p0,q0,hargs,rfl,rfl,h0,r0⟩:=trodAll_cons hA
 obtain⟨v1,vs1,d1,ds1,p1,q1,rfl,rfl,rfl,h1,r1⟩:=trodAll_cons r0
 obtain⟨v2,vs2,d2,ds2,p2,q2,rfl,rfl,rfl,h2,r2⟩:=trodAll_cons r1
 obtain⟨rfl,rfl,rfl⟩:=trodAll_nil r2
 obtain rfl:args= #[v0,v1,v2]:=by cases args;simp_all
 obtain⟨rfl,rfl⟩:=trodVars_none hV
 obtain⟨a2,rfl,rfl,rfl,w2⟩:=open_int Tryz.underlying3 (hval 2 3 v2 rfl rfl) h2
 have lt0: ∀x∈p0,x.block<W.heap.size:=by obtain⟨m,hm⟩:=h0;exact DataW.trod_lt m _ _ _ hm
 obtain⟨l0,hv0⟩:=zjk (hval 0 22 v0 rfl rfl) h0
 have lt1: ∀x∈p1,x.block<W.heap.size:=by obtain⟨m,hm⟩:=h1;exact DataW.trod_lt m _ _ _ hm
 obtain⟨l1,i1,hv1⟩:=zle (hval 1 28 v1 rfl rfl) h1
 clear hA0 hval0 hsz0
 refine((zh2 l0 l1 a2).2 W (allK W) [v0,v1, .int .i64 a2] (by simp only[RV.partsAt];exact⟨_,_,rfl,hv0,_,_,rfl,hv1,_,_,rfl,rfl,rfl⟩)).mono λe W' ⟨v,he,bel,k',_,hr⟩=>?_
 have hr':v= .bool true:=by simpa[Res.at_,RV.at_]using hr
 subst hr';subst he
 exact⟨_,rfl,_,_,_,[],_,[],hW',trodAll_mk1 (shut_bool Tryz.underlying4 _),(trodAll_cons_mk (Below.trod zf4 (by kernel_rfl) (of_decide_eq_true (by kernel_rfl)) h0 bel lt0) (trodAll_cons_mk (Below.trod zf4 (by kernel_rfl) (of_decide_eq_true (by kernel_rfl)) h1 bel lt1) (trodAll_cons_mk (shut_int Tryz.underlying3 w2) trodAll_mk0))),rfl,bel.frame _,λh=>by cases h⟩
theorem cacheNil_holds:Rows.CacheNilSaid:=
 OpenClaim.holds_of_wide 3 Tryz.f3 rfl rfl rfl rfl rfl rfl rfl ⟨rfl,rfl,rfl,rfl,rfl⟩ rfl rfl rfl rfl rfl (by kernel_rfl) Tryz.func3 zd8
  (of_decide_eq_true (by kernel_rfl)) (by unfold Func.isWrapper;first |(rw[if_pos (by decide+kernel)];kernel_rfl) |(rw[if_neg (by decide+kernel)];exact⟨rfl,rfl⟩))
  (λos started H enc _=>zgz os started H enc)
#print axioms cacheNil_holds
end
end Go.Proofs.YtamhdpombmegaaaGreat.Sx
