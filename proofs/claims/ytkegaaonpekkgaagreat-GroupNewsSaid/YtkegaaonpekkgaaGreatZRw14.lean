import Derived.Test.YtkegaaonpekkgaaGreatZIy
import Derived.Test.YtkegaaonpekkgaaGreatZJr
import Derived.Test.YtkegaaonpekkgaaGreatZHp
namespace Go.Proofs.YtkegaaonpekkgaaGreat.Sx
open Go.RowKit
theorem zj0b(k:List UInt8)(hk:k.length<=1000000):aG 14 [bs k,bss [[]]] (bch (macB k [])):=by
 have h:=zrm k [[]] (by omega) (by simp)
 simpa using h
set_option maxHeartbeats 1000000 in
theorem z0q(id ident seed:List UInt8):aG 3 [bs id,bs ident,bs seed] (.r (.b true)):=by
 have hal:=z7q
 by_cases hb:id.length<=100/\ident.length<=100/\seed.length<=100
 rotate_left
 ·exact z40 id ident seed hal hb
 obtain⟨b1,b2,b3⟩:=hb
 by_cases hid:64<id.length
 ·exact z78 id ident seed hal b1 b2 b3 hid
 by_cases hs:seed.length=32
 rotate_left
 ·exact zug id ident seed hal 1 (by decide) (by decide) (by omega) b2 b3 (zv2 ident seed hs)
 rcases zro ident seed hs (by omega)with⟨_,cp⟩ |⟨_,w,hw,cp⟩
 ·exact zug id ident seed hal 3 (by decide) (by decide) (by omega) b2 b3 cp
 have hf:=zcn hw.right
 have ct:=zov w.leaf hf hw.right
 have cH:=zcub w.leaf hw.right
 have hh:=zht w.leaf
 generalize hash1 w.leaf=h at ct cH hh
 have cs:=zc2 seed grpS (by omega) (by decide)
 have cL:=zjr seed grpS [] 32 (by omega) (by omega) (by decide) (by decide)
 have hx:=zbb seed (sB grpS) [] (n:=32) (by omega)
 generalize labB seed (sB grpS) [] 32=x at cs cL hx
 have hxf:CtxP.fit ⟨id,0,h,[]⟩:=⟨by show id.length<=_;omega,by show 0<18446744073709551616;decide,by show h.length<=_;omega,by show 0<=1000000;decide⟩
 have hxs:id.length+h.length+0<=1000000:=by omega
 have cn:=zte x z32 ⟨id,0,h,[]⟩ hxf hxs (by omega) (by decide)
 have cJ:=z4u x z32 ⟨id,0,h,[]⟩ hxf hxs (by omega) (by decide)
 have hj:(ze7 x z32 (ctxB ⟨id,0,h,[]⟩)).length=32:=zbb _ _ _ (n:=32) (by omega)
 have cO:=zjub (ze7 x z32 (ctxB ⟨id,0,h,[]⟩)) ⟨id,0,h,[]⟩ hxf hxs (by omega)
 obtain⟨s,hs2,hsm,hcf⟩: ∃s:SecP,s=schS (ze7 x z32 (ctxB ⟨id,0,h,[]⟩)) (ctxB ⟨id,0,h,[]⟩)/\s.sm/\s.cf.length=32:=⟨_,rfl,zzq _ _ _,zbb _ _ _ (n:=32) (by omega)⟩
 rw[<-hs2]at cn cO
 clear hs2
 generalize ze7 x z32 (ctxB ⟨id,0,h,[]⟩)=jn at cJ cO
 have cg:=zxx s [] (by omega) (by decide)
 have cT:=zj0b s.cf (by omega)
 have hg:=zbm s.cf []
 generalize macB s.cf []=tg at cg cT hg
 have ci:=zlx [] tg (by decide) (by omega)
 have cI:=z0s [] tg (by decide) (by omega)
 have hit:(intB [] tg).length=32:=zcd _
 generalize intB [] tg=it at ci cI hit
 have cN:=zxr id ident seed w.init w.sig w.a w.b w.c h x z32 tg it w.leaf s (by omega) cp ct cs zhs cn cg ci
 have hwb:=hw.b
 have hwc:=hw.c
 have cS:=z10 ⟨⟨id,0,h,[]⟩,0,it,tg,s,⟨0,w.b⟩⟩ w.leaf w.c ⟨by show id.length<=_;omega,by show h.length<=_;omega,by show 0<=1000000;decide,by show it.length<=_;omega,by show tg.length<=_;omega,hsm,by show w.b.length<=_;omega⟩ hf (by omega)
 exact z79 id ident seed hal w.init w.sig w.a w.b w.c h x z32 jn tg it w.leaf s (by omega) b2 b3 cN cp cH cL z5b cJ cO cT cI cS
section
open Go.ChangeShapes Go.WideShapes Go.ChangeAt Go.RowKit
def groupNewsC0:List Nat:=[3,6,41,7,8,45,119,205,237,318,120,207,319,206,14,65,63,64,140,139,236,238,239,342,344,432,343,49,122,208,202,121,123,210,211,323,326,209,321,322,424,320,423,219,330,212,324,339,325,329,213,328,425,488,527,489,327,50,124,214,218,332,331,356]
def groupNewsC1:List Nat:=[223,215,126,222,228,336,426,427,429,428,490,430,491,492,528,227,334,335,337,338,355,354,439,125,216,217,220,221,127,51,128,42,129,130,224,53,136,135,230,229,231,52,132,225,333,133,134,172,171,226,131,43,116,175,258,357,440,497,498,259,358,441,499,500]
def groupNewsC2:List Nat:=[501,442,260,359,443,360,261,272,370,371,284,387,291,361,444,462,445,201,314,315,422,317,316,46,44,118,157,203,117,204,47,48,38,106,167,104,154,245,246,345,433,494,114,346,247,249,347,434,348,349,248,350,435,495,436,437,438,496,174,156,173,256,257,159]
def groupNewsC3:List Nat:=[25,82,30,93,166,165,107,176,262,362,177,263,363,264,265,91,164,252,353,253,255,254,145,196,308,178,197,309,266,179,267,364,195,365,366,268,367,269,368,446,447,502,529,180,108,181,101,271,270,369,182,273,112,373,372,448,449,504,503,292,450,451,274,375]
def groupNewsC4:List Nat:=[454,374,452,505,453,461,517,518,506,530,531,550,532,540,541,533,551,552,555,534,535,536,537,376,455,183,275,377,456,457,507,538,508,276,283,386,378,458,379,459,277,380,278,279,280,281,381,460,509,510,539,511,512,542,543,553,513,514,515,516,382,383,282,385]
def groupNewsC5:List Nat:=[384,184,285,186,185,286,389,390,464,463,519,388,288,287,392,391,465,520,544,554,545,521,466,296,397,398,467,468,522,546,547,523,524,399,469,470,471,472,21,76,155,77,158,78,34,99,170,100,109,187,289,290,393,394,395,188,293,189,294,396,295,297,400,401]
def groupNewsC6:List Nat:=[473,402,474,475,403,190,298,404,405,476,299,69,144,243,146,111,192,193,303,305,408,479,525,480,406,301,304,407,477,478,306,409,410,481,307,412,413,411,300,482,414,483,415,416,484,194,191,302,40,90,28,92,113,115,198,199,311,310,200,312,417,313,418,485]
def groupNewsC7:List Nat:=[419,421,487,486,526,548,549,420,17,9,54,137,232,60,233,234,251,352,61,138,340,235,341,431,493,66,141,142,240,241,12,62,58,13,11,59,85,88,84,83,10,55,57,56,15,67,16,33,96,24,97,168,98,169,68,143,95,242,23,81,32,94,160]
def groupNewsC:List Nat:=groupNewsC0++(groupNewsC1++(groupNewsC2++(groupNewsC3++(groupNewsC4++(groupNewsC5++(groupNewsC6++(groupNewsC7)))))))
theorem zhz:Tryz.prog.closure 3=groupNewsC:=by rw[z6z];kernel_rfl
noncomputable def groupNewsIn (g:Nat):Option String:=(Tryz.prog.funcs[g]?).bind λfn=>if fn.ours||fn.body.isNone||fn.name== "runtime.NumGoroutine" then some fn.name else none
theorem zxh:(Rows.groupNewsRow.inPlace==Tryz.prog.inPlace 3)=true:=by
 unfold Program.inPlace
 rw[zhz]
 have h:groupNewsC.filterMap groupNewsIn=Rows.groupNewsRow.inPlace:=by kernel_rfl
 exact beq_iff_eq.2 h.symm
theorem znf:Tryz.prog.unfollowed 3=true:=by
 unfold Program.unfollowed
 rw[zhz]
 exact List.any_eq_true.2 ⟨322,List.contains_iff_mem.1 (by kernel_rfl),by kernel_rfl⟩
theorem zvx:(Rows.groupNewsRow.unfollowed==Tryz.prog.unfollowed 3)=true:=by rw[znf];rfl
theorem zvw:(Rows.groupNewsRow.recurses==Tryz.prog.recurses 3)=true:=by unfold Program.recurses;rw[znf];rfl
noncomputable def groupNewsGn (g:Nat):List Nat:=((Tryz.prog.funcs[g]?).bind (·.body)).elim [] Code.globalsNamed
theorem zvo:groupNewsC0.flatMap groupNewsGn=[]:=by kernel_rfl
theorem zvp:groupNewsC1.flatMap groupNewsGn=[]:=by kernel_rfl
theorem zvq:groupNewsC2.flatMap groupNewsGn=[]:=by kernel_rfl
theorem zvr:groupNewsC3.flatMap groupNewsGn=[]:=by kernel_rfl
theorem zvs:groupNewsC4.flatMap groupNewsGn=[]:=by kernel_rfl
theorem zvt:groupNewsC5.flatMap groupNewsGn=[]:=by kernel_rfl
theorem zvu:groupNewsC6.flatMap groupNewsGn=[]:=by kernel_rfl
theorem zvv:groupNewsC7.flatMap groupNewsGn=[]:=by kernel_rfl
theorem zxg:groupNewsC.flatMap groupNewsGn=[]:=by simp only[groupNewsC,List.flatMap_append,zvo,zvp,zvq,zvr,zvs,zvt,zvu,zvv,List.append_nil]
theorem zxi:(Rows.groupNewsRow.named==Tryz.prog.varsNamed 3)=true:=by
 unfold Program.varsNamed
 rw[zhz]
 have h:(groupNewsC.filterMap λg=>(Tryz.prog.funcs[g]?).bind λfn=>if fn.body.isNone then entryReads.lookup fn.name else none)=[]:=by kernel_rfl
 have k:(groupNewsC.flatMap λg=>((Tryz.prog.funcs[g]?).bind (·.body)).elim [] Code.globalsNamed)=[]:=zxg
 rw[h,k];rfl
theorem zqa:joinedFacts aP 3 Tryz.f3 Rows.groupNewsSpec Rows.groupNewsRow=true:=by
 unfold joinedFacts
 repeat' with_reducible apply andI
 all_goals first
  |with_reducible exact zrw
  |with_reducible exact z5r
  |with_reducible exact z08
  |with_reducible exact zxh
  |with_reducible exact zvx
  |with_reducible exact zvw
  |with_reducible exact zxi
  |(rw[z5m];kernel_rfl)
  |kernel_rfl
end
section
open Go.ChangeShapes Go.WideShapes Go.ChangeAt Go.RowKit
set_option maxRecDepth 100000 in
theorem zqb(os:Os)(started:os.Started)(H:Type)(enc:TypeId×Value->H):
  ReturnsInHanded {} Tryz.checked os 3 .any (Rows.groupNewsSpec.pre6 enc aP Tryz.f3 Rows.groupNewsRow.domain false) (Rows.groupNewsSpec.post enc aP Tryz.f3 false true false false):=by
 refine returnsInHanded_of_change_sized (C:=Tryz.checked) zdgb started (by kernel_rfl) Tryz.func3
  (ChangeSpec.witness6 (enc:=enc) (C:=Tryz.checked) false ⟨#[], #[.slice none 0 0, .slice none 0 0, .slice none 0 0],[]⟩ 8 (by kernel_rfl) (by kernel_rfl) (by kernel_rfl) (by kernel_rfl)) ?_
 intro W base args ds gs before hval0 hW hcnd hsz0 _
 have hval: ∀(j:Nat) t v,Tryz.f3.params[j]?=some t->args[j]?=some v->Value.okWide aP W .any base t v:=hval0
 have hW':=hW
 obtain⟨p,q,hA0,hV,rfl,hfz,hnd⟩:=hW
 have hA:DataW.TrodAll enc aP W 0 (λ_=>true) true Tryz.f3.params.toList args.toList ds p:=hA0
 rw[Tryz.params3]at hA hval
 obtain⟨v0,vs0,d0,ds0,p0,q0,hargs,rfl,rfl,h0,r0⟩:=trodAll_cons hA
 obtain⟨v1,vs1,d1,ds1,p1,q1,rfl,rfl,rfl,h1,r1⟩:=trodAll_cons r0
 obtain⟨v2,vs2,d2,ds2,p2,q2,rfl,rfl,rfl,h2,r2⟩:=trodAll_cons r1
 obtain⟨rfl,rfl,rfl⟩:=trodAll_nil r2
 obtain rfl:args= #[v0,v1,v2]:=by cases args;simp_all
 obtain⟨rfl,rfl⟩:=trodVars_none hV
 have lt0: ∀x∈p0,x.block<W.heap.size:=by obtain⟨m,hm⟩:=h0;exact DataW.trod_lt m _ _ _ hm
 obtain⟨l0,hv0⟩:=zp3 (hval 0 22 v0 rfl rfl) h0
 have lt1: ∀x∈p1,x.block<W.heap.size:=by obtain⟨m,hm⟩:=h1;exact DataW.trod_lt m _ _ _ hm
 obtain⟨l1,hv1⟩:=zp3 (hval 1 22 v1 rfl rfl) h1
 have lt2: ∀x∈p2,x.block<W.heap.size:=by obtain⟨m,hm⟩:=h2;exact DataW.trod_lt m _ _ _ hm
 obtain⟨l2,hv2⟩:=zp3 (hval 2 22 v2 rfl rfl) h2
 clear hA0 hval0 hsz0
 refine((z0q l0 l1 l2).2 W (allK W) [v0,v1,v2] (by simp only[RV.partsAt];exact⟨_,_,rfl,hv0,_,_,rfl,hv1,_,_,rfl,hv2,rfl⟩)).mono λe W' ⟨v,he,bel,k',_,hr⟩=>?_
 have hr':v= .bool true:=by simpa[Res.at_,RV.at_]using hr
 subst hr';subst he
 exact⟨_,rfl,_,_,_,[],_,[],hW',trodAll_mk1 (shut_bool Tryz.underlying4 _),(trodAll_cons_mk (Below.trod zqe (by kernel_rfl) (of_decide_eq_true (by kernel_rfl)) h0 bel lt0) (trodAll_cons_mk (Below.trod zqe (by kernel_rfl) (of_decide_eq_true (by kernel_rfl)) h1 bel lt1) (trodAll_cons_mk (Below.trod zqe (by kernel_rfl) (of_decide_eq_true (by kernel_rfl)) h2 bel lt2) trodAll_mk0))),rfl,bel.frame _,λh=>by cases h⟩
theorem groupNews_holds:Rows.GroupNewsSaid:=
 OpenClaim.holds_of_wide 3 Tryz.f3 rfl rfl rfl rfl rfl rfl rfl ⟨rfl,rfl,rfl,rfl,rfl⟩ rfl rfl rfl rfl rfl (by kernel_rfl) Tryz.func3 zqa
  (of_decide_eq_true (by kernel_rfl)) (by unfold Func.isWrapper;first|(rw[if_pos (by decide+kernel)];kernel_rfl)|(rw[if_neg (by decide+kernel)];exact⟨rfl,rfl⟩))
  (λos started H enc _=>zqb os started H enc)
#print axioms groupNews_holds
end
end Go.Proofs.YtkegaaonpekkgaaGreat.Sx
