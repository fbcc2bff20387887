import Derived.Test.YtpdllgbfemnemaaGreatZKm
import Derived.Test.YtpdllgbfemnemaaGreatZSxRg
import Derived.Shelf.SlIterI.Nil
import Derived.Shelf.SortM.Plain
import Derived.Shelf.SortM.SortNone
import Derived.Ground.GgzProg
import Derived.Ground.SlgmProg
import Derived.WideShapes
import Derived.Test.YtpdllgbfemnemaaGreatZTk
namespace Go.Proofs.YtpdllgbfemnemaaGreat.Sx
open Go.RowKit
set_option linter.unusedVariables false
section
open Go.Shelf
def zpx:Go.Shelf.Ren:=⟨λ |7=>154 |10=>187 |n=>n,λ |23=>88 |26=>3 |3=>60 |28=>173 |0=>0 |27=>172 |33=>80 |4=>4 |n=>n,λ |n=>n⟩
theorem z5r:Go.Proofs.SlLaysZI.n7 Tryz.prog zpx:={
 mixed:=by kernel_rfl
 f7:=⟨Tryz.f154.name,by decide,Tryz.func154.trans (congrArg some (by kernel_rfl))⟩
 f10:=⟨Tryz.f187.name,by decide,Tryz.func187.trans (congrArg some (by kernel_rfl))⟩
 t0:=Tryz.underlying0
 a0:=Tryz.isAgg0
 z0:=Tryz.sizeOf0
 v0:=Tryz.zeroValue0
 t4:=Tryz.underlying4
 a4:=Tryz.isAgg4
 z4:=Tryz.sizeOf4
 v4:=Tryz.zeroValue4
 t23:=Tryz.underlying88
 a23:=Tryz.isAgg88
 z23:=Tryz.sizeOf88
 v23:=Tryz.zeroValue88
 t26:=Tryz.underlying3
 a26:=Tryz.isAgg3
 z26:=Tryz.sizeOf3
 v26:=Tryz.zeroValue3
 t27:=Tryz.underlying172
 a27:=Tryz.isAgg172
 z27:=Tryz.sizeOf172
 v27:=Tryz.zeroValue172
 t28:=Tryz.underlying173
 a28:=Tryz.isAgg173
 z28:=Tryz.sizeOf173
 v28:=Tryz.zeroValue173
 t33:=Tryz.underlying80
 a33:=Tryz.isAgg80
 z33:=Tryz.sizeOf80
 v33:=Tryz.zeroValue80}
def zq0:Go.Shelf.Ren:=⟨λ |7=>155 |10=>188 |n=>n,λ |23=>89 |26=>3 |3=>28 |28=>173 |0=>0 |27=>172 |33=>80 |4=>4 |n=>n,λ |n=>n⟩
theorem z45:Go.Proofs.SlLaysZI.n7 Tryz.prog zq0:={
 mixed:=by kernel_rfl
 f7:=⟨Tryz.f155.name,by decide,Tryz.func155.trans (congrArg some (by kernel_rfl))⟩
 f10:=⟨Tryz.f188.name,by decide,Tryz.func188.trans (congrArg some (by kernel_rfl))⟩
 t0:=Tryz.underlying0
 a0:=Tryz.isAgg0
 z0:=Tryz.sizeOf0
 v0:=Tryz.zeroValue0
 t4:=Tryz.underlying4
 a4:=Tryz.isAgg4
 z4:=Tryz.sizeOf4
 v4:=Tryz.zeroValue4
 t23:=Tryz.underlying89
 a23:=Tryz.isAgg89
 z23:=Tryz.sizeOf89
 v23:=Tryz.zeroValue89
 t26:=Tryz.underlying3
 a26:=Tryz.isAgg3
 z26:=Tryz.sizeOf3
 v26:=Tryz.zeroValue3
 t27:=Tryz.underlying172
 a27:=Tryz.isAgg172
 z27:=Tryz.sizeOf172
 v27:=Tryz.zeroValue172
 t28:=Tryz.underlying173
 a28:=Tryz.isAgg173
 z28:=Tryz.sizeOf173
 v28:=Tryz.zeroValue173
 t33:=Tryz.underlying80
 a33:=Tryz.isAgg80
 z33:=Tryz.sizeOf80
 v33:=Tryz.zeroValue80}
def zr5:Go.Shelf.Ren:=⟨λ |6=>153 |8=>185 |9=>186 |11=>207 |13=>209 |12=>208 |23=>230 |24=>231 |14=>221 |15=>222 |16=>223 |17=>224 |18=>225 |19=>226 |20=>227 |21=>228 |22=>229 |25=>236 |26=>237 |27=>238 |28=>239 |29=>240 |30=>241 |31=>244 |n=>n,λ |26=>3 |28=>173 |24=>34 |0=>0 |3=>3 |37=>126 |48=>162 |50=>116 |4=>4 |40=>238 |39=>237 |45=>112 |5=>5 |9=>9 |51=>247 |55=>251 |57=>256 |58=>85 |33=>80 |n=>n,λ |n=>n⟩
theorem z3b:Go.Proofs.SlLaysZI.n6 Tryz.prog zr5:={
 mixed:=by kernel_rfl
 f6:=⟨Tryz.f153.name,by decide,Tryz.func153.trans (congrArg some (by kernel_rfl))⟩
 f8:=⟨Tryz.f185.name,by decide,Tryz.func185.trans (congrArg some (by kernel_rfl))⟩
 f11:=⟨Tryz.f207.name,by decide,Tryz.func207.trans (congrArg some (by kernel_rfl))⟩
 t0:=Tryz.underlying0
 a0:=Tryz.isAgg0
 z0:=Tryz.sizeOf0
 v0:=Tryz.zeroValue0
 t24:=Tryz.underlying34
 a24:=Tryz.isAgg34
 z24:=Tryz.sizeOf34
 v24:=Tryz.zeroValue34
 t26:=Tryz.underlying3
 a26:=Tryz.isAgg3
 z26:=Tryz.sizeOf3
 v26:=Tryz.zeroValue3
 t28:=Tryz.underlying173
 a28:=Tryz.isAgg173
 z28:=Tryz.sizeOf173
 v28:=Tryz.zeroValue173
 i26:=by kernel_rfl}
def z73:Go.Shelf.Ren:=⟨λ |5=>186 |8=>209 |7=>208 |19=>230 |20=>231 |10=>221 |11=>222 |12=>223 |13=>224 |14=>225 |15=>226 |16=>227 |17=>228 |18=>229 |30=>236 |31=>237 |32=>238 |33=>239 |34=>240 |35=>241 |40=>244 |n=>n,λ |23=>34 |25=>3 |3=>3 |32=>126 |22=>34 |0=>0 |44=>162 |46=>116 |4=>4 |36=>238 |35=>237 |41=>112 |5=>5 |9=>9 |53=>247 |57=>251 |63=>256 |64=>85 |n=>n,λ |n=>n⟩
theorem zclb:Go.Proofs.SlLaysM.n5 Tryz.prog z73:={
 mixed:=by kernel_rfl
 f5:=⟨Tryz.f186.name,by decide,Tryz.func186.trans (congrArg some (by kernel_rfl))⟩
 f7:=⟨Tryz.f208.name,by decide,Tryz.func208.trans (congrArg some (by kernel_rfl))⟩
 f8:=Tryz.func209.trans (congrArg some (by kernel_rfl))
 f10:=⟨Tryz.f221.name,by decide,Tryz.func221.trans (congrArg some (by kernel_rfl))⟩
 f11:=⟨Tryz.f222.name,by decide,Tryz.func222.trans (congrArg some (by kernel_rfl))⟩
 f12:=⟨Tryz.f223.name,by decide,Tryz.func223.trans (congrArg some (by kernel_rfl))⟩
 f13:=⟨Tryz.f224.name,by decide,Tryz.func224.trans (congrArg some (by kernel_rfl))⟩
 f14:=⟨Tryz.f225.name,by decide,Tryz.func225.trans (congrArg some (by kernel_rfl))⟩
 f15:=⟨Tryz.f226.name,by decide,Tryz.func226.trans (congrArg some (by kernel_rfl))⟩
 f16:=⟨Tryz.f227.name,by decide,Tryz.func227.trans (congrArg some (by kernel_rfl))⟩
 f17:=⟨Tryz.f228.name,by decide,Tryz.func228.trans (congrArg some (by kernel_rfl))⟩
 f18:=⟨Tryz.f229.name,by decide,Tryz.func229.trans (congrArg some (by kernel_rfl))⟩
 f19:=Tryz.func230.trans (congrArg some (by kernel_rfl))
 f20:=Tryz.func231.trans (congrArg some (by kernel_rfl))
 f30:=⟨Tryz.f236.name,by decide,Tryz.func236.trans (congrArg some (by kernel_rfl))⟩
 f31:=Tryz.func237.trans (congrArg some (by kernel_rfl))
 f32:=Tryz.func238.trans (congrArg some (by kernel_rfl))
 f33:=⟨Tryz.f239.name,by decide,Tryz.func239.trans (congrArg some (by kernel_rfl))⟩
 f34:=⟨Tryz.f240.name,by decide,Tryz.func240.trans (congrArg some (by kernel_rfl))⟩
 f35:=⟨Tryz.f241.name,by decide,Tryz.func241.trans (congrArg some (by kernel_rfl))⟩
 f40:=⟨Tryz.f244.name,by decide,Tryz.func244.trans (congrArg some (by kernel_rfl))⟩
 t0:=Tryz.underlying0
 a0:=Tryz.isAgg0
 z0:=Tryz.sizeOf0
 v0:=Tryz.zeroValue0
 t3:=Tryz.underlying3
 a3:=Tryz.isAgg3
 z3:=Tryz.sizeOf3
 v3:=Tryz.zeroValue3
 t4:=Tryz.underlying4
 a4:=Tryz.isAgg4
 z4:=Tryz.sizeOf4
 v4:=Tryz.zeroValue4
 t5:=Tryz.underlying5
 a5:=Tryz.isAgg5
 z5:=Tryz.sizeOf5
 v5:=Tryz.zeroValue5
 t9:=Tryz.underlying9
 a9:=Tryz.isAgg9
 z9:=Tryz.sizeOf9
 v9:=Tryz.zeroValue9
 t22:=Tryz.underlying34
 a22:=Tryz.isAgg34
 z22:=Tryz.sizeOf34
 v22:=Tryz.zeroValue34
 t23:=Tryz.underlying34
 a23:=Tryz.isAgg34
 z23:=Tryz.sizeOf34
 v23:=Tryz.zeroValue34
 t25:=Tryz.underlying3
 a25:=Tryz.isAgg3
 z25:=Tryz.sizeOf3
 v25:=Tryz.zeroValue3
 t32:=Tryz.underlying126
 a32:=Tryz.isAgg126
 z32:=Tryz.sizeOf126
 v32:=Tryz.zeroValue126
 t35:=Tryz.underlying237
 a35:=Tryz.isAgg237
 z35:=Tryz.sizeOf237
 v35:=Tryz.zeroValue237
 t36:=Tryz.underlying238
 a36:=Tryz.isAgg238
 z36:=Tryz.sizeOf238
 v36:=Tryz.zeroValue238
 t41:=Tryz.underlying112
 a41:=Tryz.isAgg112
 z41:=Tryz.sizeOf112
 v41:=Tryz.zeroValue112
 t44:=Tryz.underlying162
 a44:=Tryz.isAgg162
 z44:=Tryz.sizeOf162
 v44:=Tryz.zeroValue162
 t46:=Tryz.underlying116
 a46:=Tryz.isAgg116
 z46:=Tryz.sizeOf116
 v46:=Tryz.zeroValue116
 t53:=Tryz.underlying247
 a53:=Tryz.isAgg247
 z53:=Tryz.sizeOf247
 v53:=Tryz.zeroValue247
 t57:=Tryz.underlying251
 a57:=Tryz.isAgg251
 z57:=Tryz.sizeOf251
 v57:=Tryz.zeroValue251
 t63:=Tryz.underlying256
 a63:=Tryz.isAgg256
 z63:=Tryz.sizeOf256
 v63:=Tryz.zeroValue256
 t64:=Tryz.underlying85
 a64:=Tryz.isAgg85
 z64:=Tryz.sizeOf85
 v64:=Tryz.zeroValue85}
end
section
open Go.RowKit Go.Maps Go.Sort Go.Shelf
def zrh(f:FuncId)(ents:List (Int×RV)):Stable where
 at_ w k v:=∃b m,v= .func (.func f) #[] #[.pointer (some ⟨b,0,none⟩)]/\b<w.heap.size/\0<k b/\w.cell? ⟨b,0,none⟩=some m/\(mapS ents).at_ w k m
 mono:=λh ⟨b,m,e,hb,hk,hc,hm⟩=>⟨b,m,e,Nat.lt_of_lt_of_le hb h.size,Nat.lt_of_lt_of_le hk (h.keep b hb),(h.cell b 0 hb hk).trans hc,(mapS ents).mono h hm⟩
 one:=by rintro w k v ⟨b,m,rfl,_⟩;rfl
def zcb(l:List Int):List Int:=l.mergeSort leI
theorem zw2{ents:List (Int×RV)}{P:Program}{f fi:FuncId}{t:TypeId}(hk:zks P f)(hc: ∀mb w,Calls P f #[.map mb] w λe w'=>e= .returned (.func (.func fi) #[] #[.pointer (some ⟨w.heap.size,0,none⟩)])/\w'=w.alloc (.cells #[.map mb] t)):zaf P f [.s (mapS ents)] (.r (.s (zrh fi ents))):=by
 refine⟨hk,λw k vs hp=>?_⟩
 obtain⟨a,rfl,h1⟩:=zhe hp
 simp only[RV.at_]at h1
 have hmb: ∃mb,a= .map mb:=by
  rcases h1 with⟨rfl,_⟩ |⟨b,_,_,rfl,_⟩
  ·exact⟨none,rfl⟩
  ·exact⟨some b,rfl⟩
 obtain⟨mb,rfl⟩:=hmb
 refine(hc mb w).mono ?_
 rintro e w' ⟨rfl,rfl⟩
 have hle:=Ext.le (za3 w (.cells #[.map mb] t)) (k:=k) (k':=kset k w.heap.size 1) λb hb=>zdw b hb
 refine⟨_,rfl,za3 w _,kset k w.heap.size 1,λb hb=>zdw b hb,?_⟩
 simp only[Res.at_,RV.at_]
 refine⟨w.heap.size, .map mb,rfl,by simp,by rw[zc1];omega,?_,(mapS ents).mono hle h1⟩
 rw[cell_of_row (w.alloc (.cells #[.map mb] t)) w.heap.size 0 #[.map mb] t (0,0) (heap_alloc_new w _)]
 rfl
theorem z2r(ents:List (Int×RV)):zaf Tryz.prog 154 [.s (mapS ents)] (.r (.s (zrh 187 ents))):=
 zw2 (za8 Tryz.func154 rfl (by kernel_rfl)) λmb w=>(callsIn_wide (n:=5)).1 (AnyZI.keys_in z5r Fence.wide 5 trivial rfl mb w)
theorem z4e(ents:List (Int×RV)):zaf Tryz.prog 155 [.s (mapS ents)] (.r (.s (zrh 188 ents))):=
 zw2 (za8 Tryz.func155 rfl (by kernel_rfl)) λmb w=>(callsIn_wide (n:=5)).1 (AnyZI.keys_in z45 Fence.wide 5 trivial rfl mb w)
theorem zzy(m:Nat):AnyZI.SortsIn Tryz.prog zr5 Fence.wide m:=
 ⟨λblk off cap ss W hH hblk hsz=>callsIn_wide.2 (AnyM.slices_Sort_int zclb blk off cap ss W hH hblk hsz),
 λp cap W=>callsIn_wide.2 (AnyM.slices_Sort_int_none zclb p cap W)⟩
abbrev rdN:Value->Option (DataW Unit×List MemPlace):=λ_=>some (.nil,[])
theorem zdkb{P:Program}{ti:TypeId}(hu:P.underlying ti=some (.int .i64)){ents:List (Int×RV)}{w:World}{k:Kp}{b:Nat}{es:Array MapEntry}{c:Nat}(hl:ents.length<=1000000)(hi: ∀x∈ents,i64 x.1)(hh:w.heap[b]?=some (.map es c))(he:entsAt w k ents es.toList)(hst:stampE es c):
  ∃D0:DataW Unit,w.ownsMap P ti rdN b es.size D0/\(intKeys D0).Perm (ents.map (·.1))/\Maps.size D0=ents.length:=by
 have hkey: ∀(j:Nat) (x:MapEntry),es.toList[j]?=some x->∃y,ents[j]?=some y/\Go.WideElems.rd P ti rdN x=some (.int .i64 y.1, .nil):=λj x hx=>by
  have hj:=(List.getElem?_eq_some_iff.1 hx).1
  have hj2:j<ents.length:=by rw[<-he.1];exact hj
  have h1:=he.2 j _ x (List.getElem?_eq_getElem hj2) hx
  refine⟨_,List.getElem?_eq_getElem hj2,?_⟩
  have hb:=hi _ (List.getElem_mem hj2)
  have hwf:(Lit.int .i64 ents[j].1).wf=true:=by
   unfold i64 at hb
   simp[Lit.wf,IntKind.min,IntKind.max,IntKind.signed,IntKind.bits]
   omega
  unfold Go.WideElems.rd
  simp[keyOf,hu,mapKey,h1.1,hwf]
 have hmap:es.toList.map (Go.WideElems.rg P ti rdN)=ents.map λy=>((.int .i64 y.1:Lit),(.nil:DataW Unit)):=by
  apply List.ext_getElem?
  intro j
  rw[List.getElem?_map,List.getElem?_map]
  cases hx:es.toList[j]? with
  |none=>
   have:ents[j]?=none:=by rw[List.getElem?_eq_none_iff]at hx⊢;rw[<-he.1];exact hx
   rw[this];rfl
  |some x=>
   obtain⟨y,hy,hr⟩:=hkey j x hx
   rw[hy]
   simp only[Option.map_some]
   congr 1
   unfold Go.WideElems.rg
   rw[hr]
   rfl
 refine⟨_,⟨es,c,hh,⟨?_,hst,λx hx=>?_⟩,Nat.le_refl _,rfl⟩,?_,?_⟩
 ·have:es.size=ents.length:=by rw[<-Array.length_toList];exact he.1
  simp only[maxLen]
  omega
 ·obtain⟨j,hj⟩:=List.getElem?_of_mem hx
  obtain⟨y,_,hr⟩:=hkey j x hj
  exact⟨_,hr⟩
 ·rw[hmap]
  simp only[intKeys]
  refine((Go.WideShapes.sorted_perm _).map _).trans ?_
  rw[List.map_map]
  exact List.Perm.of_eq (List.map_congr_left λy _=>rfl)
 ·simp only[Maps.size]
  rw[(Go.WideShapes.sorted_perm _).length_eq,hmap,List.length_map]
theorem zux{w w':World}{k:Kp}{l ss:List Int}{v:Value}(hp:ss.Perm l)(hrow:w'.ownsRow w.heap.size 3 1 v ss.length ((ss.mergeSort (λx y=>decide (x<=y))).map encZ))(hb:Below w.heap.size w w'):
  ∃v',Ending.returned v= .returned v'/\Ext w w'/\∃k':Kp,(∀b,b<w.heap.size->k' b=k b)/\(ich (zcb l)).at_ w.heap.size w' k' v':=by
 have hs:ss.mergeSort (λx y=>decide (x<=y))=zcb l:=mergeSort_of_perm_i hp
 rw[hs]at hrow
 have hlen:ss.length=(zcb l).length:=by unfold zcb;rw[List.length_mergeSort,hp.length_eq]
 rw[hlen]at hrow
 refine⟨v,rfl,hb,?_⟩
 obtain⟨_,h⟩:=hrow
 rcases h with⟨rfl,h0⟩ |⟨g,cap,cur,rfl,hbase,hh,r1,r2,r3,r4⟩
 ·refine⟨k,λ_ _=>rfl,none,⟨by simp, .inl ⟨rfl, .inl ⟨h0,none,rfl⟩⟩⟩,λb hb=>by cases hb⟩
 ·refine⟨kset k g (zcb l).length,λb hb=>by simp only[kset];rw[if_neg (by omega)],some g,⟨by simp, .inr ⟨g,cap,cur,rfl,rfl,hh,r1,r2,r3,by simp[kset],?_⟩⟩,λb hb=>by cases hb;exact hbase⟩
  rw[Nat.mul_one]at r4⊢
  rw[r4]
  exact zoa (λx w k v=>by simp[RV.at_]) (λ_=>rfl) _
set_option maxRecDepth 100000 in
theorem zry(ents:List (Int×RV))(hl:ents.length<=1000000)(hi: ∀x∈ents,i64 x.1)(fi:FuncId)(eg: ∀args w,(callFunc fi args).run Tryz.prog w= .ok (.enter fi args) w)
  (hnil: ∀(b:Nat) (w:World),b<w.heap.size->w.cell? ⟨b,0,none⟩=some (.map none)->SeqGives Fence.wide 2 Tryz.prog fi #[.pointer (some ⟨b,0,none⟩)] encZ (λss:List Int=>ss=[]) 0 w)
  (hsome: ∀(b bm nn:Nat) (D0:DataW Unit) (w:World),b<w.heap.size->w.cell? ⟨b,0,none⟩=some (.map (some bm))->w.ownsMap Tryz.prog 3 rdN bm nn D0->SeqGives Fence.wide 2 Tryz.prog fi #[.pointer (some ⟨b,0,none⟩)] encZ (λss:List Int=>ss.Perm (intKeys D0)) (Maps.size D0) w):
  zaf Tryz.prog 153 [.s (zrh fi ents)] (ich (zcb (ents.map (·.1)))):=by
 refine⟨za8 Tryz.func153 rfl (by kernel_rfl),λw k vs hp=>?_⟩
 obtain⟨a,rfl,h1⟩:=zhe hp
 simp only[RV.at_]at h1
 obtain⟨b,m,rfl,hb,hkb,hc,hm⟩:=h1
 rcases hm with⟨rfl,rfl⟩ |⟨bm,es,c,rfl,hbm,hkm,hh,he,hst⟩
 ·have cS:=AnyZI.sorted_in z3b Fence.wide 5 trivial trivial trivial trivial rfl (by omega) (zzy _) (enters_of Tryz.func186 (by kernel_rfl) rfl) fi #[.pointer (some ⟨b,0,none⟩)] trivial eg _ 0 (Nat.zero_le _) (by omega) w (hnil b w hb hc)
  refine(callsIn_wide.1 cS).mono ?_
  rintro e w' ⟨v,ss,rfl,rfl,hrow,_,hbl⟩
  exact zux (List.Perm.refl _) hrow hbl
 ·obtain⟨D0,hown,hperm,hsz⟩:=zdkb zg1 hl hi hh he hst
  have cS:=AnyZI.sorted_in z3b Fence.wide 5 trivial trivial trivial trivial rfl (by omega) (zzy _) (enters_of Tryz.func186 (by kernel_rfl) rfl) fi #[.pointer (some ⟨b,0,none⟩)] trivial eg _ (Maps.size D0) (by rw[hsz];simp only[maxLen];omega) (by rw[hsz];omega) w (hsome b bm _ D0 w hb hc hown)
  refine(callsIn_wide.1 cS).mono ?_
  rintro e w' ⟨v,ss,rfl,hS,hrow,_,hbl⟩
  exact zux (hS.trans hperm) hrow hbl
theorem zxz(ents:List (Int×RV))(hl:ents.length<=1000000)(hi: ∀x∈ents,i64 x.1):zaf Tryz.prog 153 [.s (zrh 187 ents)] (ich (zcb (ents.map (·.1)))):=
 zry ents hl hi _ (enters_of Tryz.func187 (by kernel_rfl) rfl)
  (λb w hb hc=>AnyZI.keys_gives_nil (ρ:=zpx) {z5r with} Fence.wide _ trivial rfl b w hb hc)
  (λb bm nn D0 w hb hc hown=>AnyZI.keys_gives (ρ:=zpx) {z5r with} Fence.wide _ trivial rfl (by omega) b bm nn D0 w hb hc hown)
theorem zxl(ents:List (Int×RV))(hl:ents.length<=1000000)(hi: ∀x∈ents,i64 x.1):zaf Tryz.prog 153 [.s (zrh 188 ents)] (ich (zcb (ents.map (·.1)))):=
 zry ents hl hi _ (enters_of Tryz.func188 (by kernel_rfl) rfl)
  (λb w hb hc=>AnyZI.keys_gives_nil (ρ:=zq0) {z45 with} Fence.wide _ trivial rfl b w hb hc)
  (λb bm nn D0 w hb hc hown=>AnyZI.keys_gives (ρ:=zq0) {z45 with} Fence.wide _ trivial rfl (by omega) b bm nn D0 w hb hc hown)
end
section
theorem z0x(l m:List Int)(hl:l.length<=1000000000)(hm:m.length<=1000000000):zaf Tryz.prog 206 [is l,is m] (.r (.b (decide (l=m)))):=by
 refine zac (T:=Tab) mixed Tab_ok Tryz.func206 rfl (by kernel_rfl) ?_
 by_cases hlen:l.length=m.length
 ·refine zw (by simp only[zb];omega) (zt ?_)
  refine zy (λi:Nat=>⟨[(0, .r (is l)),(1, .r (is m)),(12, .r (I l.length)),(13, .r (I i))],[],0⟩) (λi=>i<=l.length/\l.take i=m.take i) (λi=>l.length-i) 0 ⟨by omega,by simp⟩ (zad [] rfl ⟨cr,cr,cr,cr,trivial⟩ trivial) ?_
  rintro i ⟨hi,he⟩
  refine zh (λh=>zq ?_) (λh=>zt ?_)
  ·simp only[zb]at h
   have h1:i<l.length:=by omega
   have h2:i<m.length:=by omega
   refine Vdraw.mk' (by kernel_rfl) ?_
   refine zm (by omega) (by omega) (zai rfl h1) (zg rfl ?_)
   refine zm (by omega) (by omega) (zai rfl h2) (zg rfl ?_)
   refine zh (λh3=>zq ?_) (λh3=>zt ?_)
   ·simp only[zb]at h3
    refine zf (congrArg RV.b (Eq.symm ?_))
    rw[decide_eq_false_iff_not]
    intro e
    subst e
    exact h3 rfl
   ·simp only[zb]at h3
    refine zd (m:=((i+1:Nat):Int)) (by omega) (by omega) ?_
    refine⟨i+1,⟨h1,?_⟩,by omega,zad [] rfl ⟨cr,cr,cr,cr,trivial⟩ trivial⟩
    rw[List.take_succ_eq_append_getElem h1,List.take_succ_eq_append_getElem h2,he,h3]
  ·simp only[zb]at h
   refine zf (congrArg RV.b (Eq.symm ?_))
   rw[decide_eq_true_eq,<-List.take_of_length_le (show l.length<=i by omega),he,List.take_of_length_le (by omega)]
 ·refine zu (by simp only[zb];omega) (zq ?_)
  refine zf (congrArg RV.b (Eq.symm ?_))
  rw[decide_eq_false_iff_not]
  exactλe=>hlen (by rw[e])
def zla(O:List Spot)(x:Int):Bool:=match zae O x with
 |some n=>decide (n.kind.toNat=1)
 |none=>false
def zeh(leaves own:Int)(O:List Spot)(H:List Stub)(only:Bool):Bool:=
 za0 leaves&&(decide (0<=own)&&(decide (own<leaves)&&(zla O (2*own)&&(O.all (λs=>za2 s.at_ s.node)&&(H.all (λs=>decide (s.hash.length=32))&&
  ((visV O own only leaves.toNat.log2 0 0 []).2.2&&(decide ((visV O own only leaves.toNat.log2 0 0 []).1=zcb (O.map (·.at_)))&&decide ((visV O own only leaves.toNat.log2 0 0 []).2.1=zcb (H.map (·.at_))))))))))
abbrev zj0(leaves own:Int)(O:List Spot)(H:List Stub):RV:= .ag [I leaves,I own, .s (mapS (za5 O)), .s (mapS (zba H))]
theorem zui(O:List Spot):(za5 O).map (·.1)=O.map (·.at_):=by simp[za5]
theorem zve(H:List Stub):(zba H).map (·.1)=H.map (·.at_):=by simp[zba]
theorem z3y{α:Type}{p:α->Bool}{l:List α}(h: ∀j,j<l.length->∀x,l[j]?=some x->p x=true):l.all p=true:=by
 rw[List.all_eq_true]
 intro x hx
 obtain⟨j,hj⟩:=List.getElem?_of_mem hx
 exact h j (List.getElem?_eq_some_iff.1 hj).1 x hj
set_option maxHeartbeats 4000000 in
theorem zb6b(leaves own:Int)(hl:i64 leaves)(ho:i64 own)(O:List Spot)(H:List Stub)(only:Bool)(hOn:O.length<=1000000)(hHn:H.length<=1000000)(hOf: ∀s∈O,s.node.fit)(hOi: ∀s∈O,i64 s.at_)(hHi: ∀s∈H,i64 s.at_)(hHl: ∀s∈H,s.hash.length<=1000000000):
  zaf Tryz.prog 184 [zj0 leaves own O H, .b only] (.r (.b (zeh leaves own O H only))):=by
 refine zac (T:=Tab) mixed Tab_ok Tryz.func184 rfl (by kernel_rfl) ?_
 refine Vcall.bool (zpi leaves) (λhf=>zw rfl ?_) (λhf=>zu rfl (zq ?_))
 rotate_left
 ·exact zf (by simp[zeh,hf,ofC])
 have hn:=zc4 hf
 refine zh (λh0=>zq ?_) (λh0=>?_)
 ·simp only[zb]at h0
  refine zf (congrArg RV.b (Eq.symm ?_))
  have: ¬0<=own:=by omega
  simp[zeh,this]
 simp only[zb]at h0
 have h0':0<=own:=by omega
 refine zh (λh1=>zq ?_) (λh1=>?_)
 ·simp only[zb]at h1
  refine zf (congrArg RV.b (Eq.symm ?_))
  have: ¬own<leaves:=by omega
  simp[zeh,this]
 simp only[zb]at h1
 have h1':own<leaves:=by omega
 refine zd rfl (by omega) ?_
 refine Vstep.node1 rfl rfl rfl (λm hm=>?_) (λhm=>?_)
 rotate_left
 ·refine Vsem.field Tab_ok rfl rfl rfl rfl rfl rfl rfl rfl ?_
  refine zu rfl (zq ?_)
  exact zf (by simp[zeh,zla,hm,ofC])
 refine Vsem.field Tab_ok rfl rfl rfl rfl rfl rfl rfl rfl ?_
 refine zh (λhk=>zq ?_) (λhk=>zt ?_)
 ·simp only[zb]at hk
  refine zf (congrArg RV.b (Eq.symm ?_))
  have: ¬m.kind.toNat=1:=by omega
  simp[zeh,zla,hm,this]
 simp only[zb]at hk
 have hleaf:zla O (2*own)=true:=by simp only[zla,hm,decide_eq_true_eq];omega
 refine Vstep.range rfl rfl zk4 ?_
 refine Vloop.mkx (λdn:List Nat=>⟨[(1, .r (.b only)),(2, .own 0),(40, .own 1)],[(0,some (pbox leaves own O H)),(1,some (.gen (itO (za5 O) dn none)))],2⟩) (λdn=>dn.Nodup/\∀j∈dn,∃s,O[j]?=some s/\za2 s.at_ s.node=true) (λdn=>O.length-dn.length) [] ⟨List.nodup_nil,by simp⟩ (zad [(0,0),(1,1)] rfl ⟨cr,rfl,rfl,trivial⟩ ⟨⟨_,_,rfl,cr,_,_,rfl,cr,_,_,rfl,cr,_,_,rfl,cr,rfl⟩,λ_ _ _ hh=>hh,trivial⟩) ?_
 rintro dn ⟨hnd,hdn⟩
 refine Vstep.next rfl rfl rfl (λhall=>?_) (λj x hj hjn=>?_)
 rotate_left
 ·have hjO: ∃s,O[j]?=some s/\x=(s.at_, .ag s.node.c):=by
   simp only[za5,List.getElem?_map,Option.map_eq_some_iff]at hj
   obtain⟨s,hs,rfl⟩:=hj
   exact⟨s,hs,rfl⟩
  obtain⟨s,hs,rfl⟩:=hjO
  have hsm:=List.mem_of_getElem? hs
  refine zq ?_
  refine Vstep.entry rfl rfl rfl hj ?_
  refine za rfl rfl ?_
  refine Vcall.bool (zacb s.at_ s.node (hOf s hsm)) (λhp=>zw rfl (zt ?_)) (λhp=>zu rfl (zq ?_))
  ·have hlen:(dn++[j]).length<=O.length:=zl5 _ (by
    rw[List.nodup_append]
    exact⟨hnd,by simp,λy hy z hz e=>hjn (by rw[List.mem_singleton.1 hz]at e;exact e▸hy)⟩) λy hy=>by
     rcases List.mem_append.1 hy with hy |hy
     ·obtain⟨s',h',_⟩:=hdn y hy
      exact(List.getElem?_eq_some_iff.1 h').1
     ·rw[List.mem_singleton.1 hy];exact(List.getElem?_eq_some_iff.1 hs).1
   rw[List.length_append]at hlen
   refine⟨dn++[j],⟨?_,λy hy=>?_⟩,by simp only[List.length_append,List.length_cons,List.length_nil]at*;omega,zad [(0,0),(1,1)] rfl ⟨cr,rfl,rfl,trivial⟩ ⟨⟨_,_,rfl,cr,_,_,rfl,cr,_,_,rfl,cr,_,_,rfl,cr,rfl⟩,zuf,trivial⟩⟩
   ·rw[List.nodup_append]
    exact⟨hnd,by simp,λy hy z hz e=>hjn (by rw[List.mem_singleton.1 hz]at e;exact e▸hy)⟩
   ·rcases List.mem_append.1 hy with hy |hy
    ·exact hdn y hy
    ·rw[List.mem_singleton.1 hy];exact⟨s,hs,hp⟩
  ·refine⟨_,zo _,zf (congrArg RV.b (Eq.symm ?_))⟩
   have:O.all (λs=>za2 s.at_ s.node)=false:=zh6 hsm hp
   simp[zeh,this]
 ·have hallO:O.all (λs=>za2 s.at_ s.node)=true:=z3y λj hjl x hx=>by
   obtain⟨s,hs,hp⟩:=hdn j (hall j (by simpa[za5]using hjl))
   rw[hx]at hs
   cases hs
   exact hp
  refine zt ?_
  refine⟨_,zo _,?_⟩
  refine Vstep.range rfl rfl zgo ?_
  refine Vloop.mkx (λdn:List Nat=>⟨[(1, .r (.b only)),(2, .own 0),(52, .own 1)],[(0,some (pbox leaves own O H)),(1,some (.gen (itO (zba H) dn none)))],2⟩) (λdn=>dn.Nodup/\∀j∈dn,∃s,H[j]?=some s/\s.hash.length=32) (λdn=>H.length-dn.length) [] ⟨List.nodup_nil,by simp⟩ (zad [(0,0),(1,2)] rfl ⟨cr,rfl,rfl,trivial⟩ ⟨⟨_,_,rfl,cr,_,_,rfl,cr,_,_,rfl,cr,_,_,rfl,cr,rfl⟩,λ_ _ _ hh=>hh,trivial⟩) ?_
  clear hnd hdn hall
  rintro dn ⟨hnd,hdn⟩
  refine Vstep.next rfl rfl rfl (λhall=>?_) (λj x hj hjn=>?_)
  rotate_left
  ·have hjH: ∃s,H[j]?=some s/\x=(s.at_,bs s.hash):=by
    simp only[zba,List.getElem?_map,Option.map_eq_some_iff]at hj
    obtain⟨s,hs,rfl⟩:=hj
    exact⟨s,hs,rfl⟩
   obtain⟨s,hs,rfl⟩:=hjH
   have hsm:=List.mem_of_getElem? hs
   have hsl:=hHl s hsm
   refine zq ?_
   refine Vstep.entry rfl rfl rfl hj ?_
   refine zh (λh3=>zq ?_) (λh3=>zt ?_)
   ·simp only[zb]at h3
    refine⟨_,zo _,zf (congrArg RV.b (Eq.symm ?_))⟩
    have:H.all (λs=>decide (s.hash.length=32))=false:=zh6 hsm (by simp;omega)
    simp[zeh,this]
   ·simp only[zb]at h3
    have hlen:(dn++[j]).length<=H.length:=zl5 _ (by
     rw[List.nodup_append]
     exact⟨hnd,by simp,λy hy z hz e=>hjn (by rw[List.mem_singleton.1 hz]at e;exact e▸hy)⟩) λy hy=>by
      rcases List.mem_append.1 hy with hy |hy
      ·obtain⟨s',h',_⟩:=hdn y hy
       exact(List.getElem?_eq_some_iff.1 h').1
      ·rw[List.mem_singleton.1 hy];exact(List.getElem?_eq_some_iff.1 hs).1
    rw[List.length_append]at hlen
    refine⟨dn++[j],⟨?_,λy hy=>?_⟩,by simp only[List.length_append,List.length_cons,List.length_nil]at*;omega,zad [(0,0),(1,1)] rfl ⟨cr,rfl,rfl,trivial⟩ ⟨⟨_,_,rfl,cr,_,_,rfl,cr,_,_,rfl,cr,_,_,rfl,cr,rfl⟩,zuf,trivial⟩⟩
    ·rw[List.nodup_append]
     exact⟨hnd,by simp,λy hy z hz e=>hjn (by rw[List.mem_singleton.1 hz]at e;exact e▸hy)⟩
    ·rcases List.mem_append.1 hy with hy |hy
     ·exact hdn y hy
     ·rw[List.mem_singleton.1 hy];exact⟨s,hs,by omega⟩
  ·have hallH:H.all (λs=>decide (s.hash.length=32))=true:=z3y λj hjl x hx=>by
    obtain⟨s,hs,hp⟩:=hdn j (hall j (by simpa[zba]using hjl))
    rw[hx]at hs
    cases hs
    simpa using hp
   refine zt ?_
   refine⟨_,zo _,?_⟩
   obtain⟨d,hd,hd2⟩:=zde hf
   have hdl:leaves.toNat.log2=d:=by rw[hd2,Int.toNat_natCast,Nat.log2_two_pow]
   have hlate: ∀x n,zae O x=some n->n.par.late.length<=100000000/\∀u∈n.par.late,za6 u:=λx n hx=>by
    obtain⟨sp,hsp,_,rfl⟩:=za7 hx
    have hfi:=List.all_eq_true.1 hallO sp hsp
    simp only[za2,Bool.and_eq_true]at hfi
    have hfit:=hOf sp hsp
    exact⟨hfit.2.2.2.1,Node.right_late hfi.1⟩
   obtain⟨r,hr⟩: ∃r,r=visV O own only d 0 0 []:=⟨_,rfl⟩
   have hrl:=zn5 O own only d 0 0 []
   rw[<-hr]at hrl
   have hp17:2^(d+1)<=131072:=Nat.pow_le_pow_right (n:=2) (by omega) (show d+1<=17 by omega)
   have hfin:zeh leaves own O H only=(r.2.2&&(decide (r.1=zcb (O.map (·.at_)))&&decide (r.2.1=zcb (H.map (·.at_))))):=by
    simp[zeh,hf,h0',h1',hleaf,hallO,hallH,hdl,<-hr]
   rw[hfin]
   have hop:=λp0=>za2b leaves own O H p0 hlate d hd leaves own hd2 ⟨h0',by omega⟩ only r hr
   obtain⟨A,B,okv⟩:=r
   simp only at hop hrl⊢
   refine Vstep.nm 0 1000000 rfl λp0=>Vstep.mkfunX [p0] rfl ⟨_,_,rfl,⟨0,1000000,rfl,rfl⟩,rfl⟩ ?_
   refine zj [(0,0)] [0] (λvs hv=>zbu (by simp only[List.map];rw[hv 0 0 1000000 _ rfl rfl]) (hop p0)) (zi rfl ⟨_,_,rfl,cr,_,_,rfl,cr,_,_,rfl,cr,_,_,rfl,cr,rfl⟩) rfl ⟨⟨_,_,rfl,cr,_,_,rfl,cr,_,_,rfl,cr,_,_,rfl,cr,rfl⟩,trivial⟩ ⟨zaa,trivial⟩ ?_
   have hsn:(zcb (O.map (·.at_))).length<=1000000:=by unfold zcb;rw[List.length_mergeSort,List.length_map];exact hOn
   have hsh:(zcb (H.map (·.at_))).length<=1000000:=by unfold zcb;rw[List.length_mergeSort,List.length_map];exact hHn
   have kN:=zxz (za5 O) (by simpa[za5]using hOn) (λx hx=>by
    simp only[za5,List.mem_map]at hx
    obtain⟨s,hs,rfl⟩:=hx
    exact hOi s hs)
   have kH:=zxl (zba H) (by simpa[zba]using hHn) (λx hx=>by
    simp only[zba,List.mem_map]at hx
    obtain⟨s,hs,rfl⟩:=hx
    exact hHi s hs)
   rw[zui]at kN
   rw[zve]at kH
   cases okv with
   |false=>exact zf rfl
   |true=>
    refine ze (z2r (za5 O)) ?_
    refine ze kN ?_
    refine Vcall.bool (z0x A (zcb (O.map λs:Spot=>s.at_)) (by omega) (by omega)) (λhe=>?_) (λhe=>?_)
    ·refine ze (z4e (zba H)) ?_
     refine ze kH ?_
     refine ze (z0x B (zcb (H.map λs:Stub=>s.at_)) (by omega) (by omega)) ?_
     exact zf (congrArg RV.b (by rw[he];simp))
    ·exact zf (congrArg RV.b (by rw[he];simp))
end
end Go.Proofs.YtpdllgbfemnemaaGreat.Sx
