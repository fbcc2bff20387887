import Derived.Test.YtddokcpcpoihmaaGreatZShaZ
import Derived.Lib.AppendZerosOnto
import Derived.Test.YtddokcpcpoihmaaGreatZWire
import Derived.Test.YtddokcpcpoihmaaGreatZSha
namespace Go.Proofs.YtddokcpcpoihmaaGreat
open Go.RowKit
set_option linter.unusedVariables false
section
theorem zo2{P:Program}{ops:Array Oper}{rest:List Oper}{o:Oper}{a:Act}{w:World}{Q:Exit->Act->World->Prop}(hgd:o.guard=none)(s x:Operand)(t u:TypeId)
  (ho:o.op= .call {callee:= .builtin .append,args:= #[s,x],argTypes:= #[t,u]}) {v y v':Value} {w':World} (hs:a.eval s=v) (hx:a.eval x=y)
  (hr:(Builtin.append_ #[t,u] o.type #[v,y]).run P w= .ok v' w') (h:wpList P ops Q rest (a.put o.dst v') w'):wpList P ops Q (o::rest) a w:=by
 refine wpList_plain hgd λK hK=>?_
 unfold Oper.wp execOp
 simp only[ho,resolve,invoke,builtin,Sem.run_bind,Sem.run_pure,Result.andThen_ok,List.map_toArray,List.map_cons,List.map_nil,hs,hx,hr]
 exact hK _ _ h
set_option maxRecDepth 100000 in
theorem zv3(n:Nat)(w:World)(hn:n<=1000000000000):
  Calls Tryz.prog 196 #[.slice none 0 0, .int .i64 (n:Int)] w (Ret w λw' v=>∃g,OwB w' w.heap.size v [] g):=by
 rcases Nat.eq_zero_or_pos n with rfl |hpos
 ·go_enter Tryz.func196,Tryz.ntmps196
  go_wp2_with fail
  go_ret
  exact⟨_,rfl,(by(repeat (first |exact Ext.refl _ |refine Ext.drew ?_ |refine Ext.drewN ?_ _ |refine Ext.alloc ?_ _ |(refine Ext.setCell ?_ (by first |omega |(simp;done) |(simp;omega)) _) |refine Ext.trans ?_ (by assumption)))),none,OwB.nil _ _⟩
 ·obtain⟨i0,hi,hz0,hz1,hz2⟩:=info_parts Tryz.infoU8
  have hr:=λty=>Lib.run_append_grow_zeros w 25 3 ty 5 i0 (.int .u8 0) .i64 .i64 Tryz.underlying25 Tryz.underlying3 hi hz0 none 0 0 [] (run_firstCells_none w.drew i0.size 0 0 0) n hpos (by rw[hz1];decide) (by omega) (by omega) (by rw[hz2];omega) (growslice_fits (by omega) (by rw[hz2];omega))
  simp only[Nat.zero_add]at hr
  have hge:=grownCap_ge w n 0 5
  have hle:=grownCap_le_maxLen w n 0 5 (by unfold maxLen;omega)
  have hcs:((([]:List Value).toArray++Builtin.zeroCells (Value.int .u8 0).cells n++Builtin.zeroCells (Value.int .u8 0).cells (grownCap w n 0 5-n))).size=grownCap w n 0 5:=by
   simp only[Array.size_append,List.size_toArray,size_zeroCells,show(Value.int IntKind.u8 0).cells.size=1 from rfl]
   simp only[List.length_nil];omega
  generalize grownCap w n 0 5=G at*
  generalize ([]:List Value).toArray++Builtin.zeroCells (Value.int .u8 0).cells n++Builtin.zeroCells (Value.int .u8 0).cells (G-n)=cs at*
  unfold maxLen at hle
  go_enter Tryz.func196,Tryz.ntmps196
  go_wp2_with (first |(at_builtin;refine zdi ?_))
  refine zdb (zo2 rfl (.tmp 20) (.tmp 21) _ _ rfl rfl rfl (hr _) ?_)
  clear hr
  go_wp2_with fail
  go_ret
  refine⟨_,rfl,(by(repeat (first |exact Ext.refl _ |refine Ext.drew ?_ |refine Ext.drewN ?_ _ |refine Ext.alloc ?_ _ |(refine Ext.setCell ?_ (by first |omega |(simp;done) |(simp;omega)) _) |refine Ext.trans ?_ (by assumption)))),some w.heap.size,?_⟩
  exact⟨by simp, .inr ⟨w.heap.size,G,cs,rfl,rfl,Nat.le_refl _,heap_alloc_new w.drew _,Nat.zero_le _,by unfold maxLen;omega,by simpa using hcs,by simp⟩⟩
abbrev slv(q:AC×List UInt8):Value:= .slice q.1.a q.2.length q.1.c
def Pa(w:World)(p:AC)(ps:List (AC×List UInt8)):Prop:=Sl w (λ_=>True) 1 p ps.length (ps.map slv)/\∀q∈ps,By w (λ_=>True) q.1 q.2
def catB(ps:List (AC×List UInt8)):List UInt8:=ps.flatMap (·.2)
theorem Pa.ext{w w':World}{p:AC}{ps:List (AC×List UInt8)}(h:Pa w p ps)(k:Ext w w'):Pa w' p ps:=⟨Sl.ext h.1 k,λq hq=>(h.2 q hq).ext k⟩
theorem Pa.at_{w:World}{p:AC}{ps:List (AC×List UInt8)}(h:Pa w p ps){k:Nat}(hk:k<ps.length): ∃b o,p.a=some ⟨b,o,none⟩/\w.cell? ⟨b,o+k,none⟩=some (slv ps[k])/\By w (λ_=>True) ps[k].1 ps[k].2:=by
 obtain⟨b,o,e,_,_,hc⟩:=Sl.at_ h.1 (by omega)
 exact⟨b,o,e,hc k _ (by simp[hk]),h.2 _ (List.getElem_mem hk)⟩
theorem zpo(ps:List (AC×List UInt8)){k:Nat}(hk:k<ps.length):catB (ps.take (k+1))=catB (ps.take k)++ps[k].2:=by
 unfold catB
 rw[List.take_add_one,List.flatMap_append,List.getElem?_eq_getElem hk];simp
theorem zvk(ps:List (AC×List UInt8))(k:Nat):(catB (ps.take k)).length<=(catB ps).length:=by
 have h:catB ps=catB (ps.take k)++catB (ps.drop k):=by
  unfold catB;rw[<-List.flatMap_append,List.take_append_drop]
 rw[h,List.length_append];omega
def z1i(ps:List (AC×List UInt8))(s i:Value)(w wr:World):Prop:=
 ∃j:Nat,i= .int .i64 (j:Int)/\j<=ps.length/\s= .int .i64 ((catB (ps.take j)).length:Int)/\Ext w wr
def z1j(ps:List (AC×List UInt8))(s i:Value)(base:Nat)(w wr:World):Prop:=
 ∃(j:Nat) (g:Option Nat),i= .int .i64 (j:Int)/\j<=ps.length/\OwB wr base s (catB (ps.take j)) g/\Ext w wr
set_option maxRecDepth 100000 in
theorem zlp(p:AC)(ps:List (AC×List UInt8))(w:World)(hp:Pa w p ps)(hl:(catB ps).length<=1000000000000):
  Calls Tryz.prog 130 #[.slice p.a ps.length p.c] w (Ret w λw' v=>∃g,OwB w' w.heap.size v (catB ps) g):=by
 have hlen:=Sl.capLe hp.1
 unfold maxLen at hlen
 obtain⟨N,hN⟩: ∃N,N=ps.length:=⟨_,rfl⟩
 have HN:=Lib.hid hN
 have hN63:N<=9223372036854775807:=by omega
 rw[<-hN]
 clear hN hlen
 go_enter Tryz.func130,Tryz.ntmps130
 go_wp2_with fail
 go_loopw [3,11] (λs i wr=>z1i ps s i w wr) (λ_ i _=>N-(intOf i).toNat)
 case atStart=>exact⟨0,rfl,Nat.zero_le _,rfl,Ext.refl _⟩
 case round=>
  obtain⟨j,rfl,e1,rfl,e3⟩:=hrel
  rw[<-HN.out]at e1
  by_cases hj:j<N
  ·have hj':j<ps.length:=by rw[<-HN.out];exact hj
   obtain⟨b,o,hpa,hc,hby⟩:=(hp.ext e3).at_ hj'
   have hcat:=zpo ps hj'
   have hle:=zvk ps (j+1)
   rw[hcat,List.length_append]at hle
   have hL:(catB (ps.take (j+1))).length=(catB (ps.take j)).length+ps[j].2.length:=by rw[hcat,List.length_append]
   have HLL:=Lib.hid hL
   have hj0:(0:Int)<=(j:Int):=by omega
   have hjN:(j:Int)< (N:Int):=by omega
   generalize ps[j]=q at*
   generalize (catB (ps.take j)).length=A at*
   have hA:A+q.2.length<=1000000000000:=by omega
   rw[hpa]
   clear hpa hcat hle hL hby
   go_wp2_with fail
   go_roundw
   case rel=>exact⟨j+1,by simp,by have:=HN.out;omega,by rw[HLL.out];simp,e3⟩
   case measure=>(first |omega |(simp[intOf];done) |(simp[intOf];omega))
  ·have hjN:j=N:=by omega
   have HJ:=Lib.hid hjN
   have hall:catB (ps.take j)=catB ps:=by rw[hjN,HN.out,List.take_length]
   obtain⟨A,hA⟩: ∃A,A=(catB (ps.take j)).length:=⟨_,rfl⟩
   have hAl:A<=1000000000000:=by rw[hA,hall];exact hl
   rw[<-hA]
   clear hA hall hjN
   go_wp2_with fail
   refine(zv3 A _ hAl).mono ?_
   rintro e w1 ⟨v,rfl,hb1,g1,o1⟩
   go_wp2_with fail
   go_loopw [6,27] (λs i wr'=>z1j ps s i wr.heap.size wr wr') (λ_ i _=>N-(intOf i).toNat)
   case atStart=>exact⟨0,g1,rfl,Nat.zero_le _,o1,hb1⟩
   case round=>
    rename_i K0 _
    obtain⟨k,g,rfl,d1,d2,d3⟩:=hrel
    rw[<-HN.out]at d1
    have hf:=e3
    by_cases hk:k<N
    ·have hk':k<ps.length:=by rw[<-HN.out];exact hk
     obtain⟨b,o,hpa,hc,hby⟩:=(hp.ext (hf.trans d3)).at_ hk'
     have hcat:=zpo ps hk'
     have hle:=zvk ps (k+1)
     rw[hcat,List.length_append]at hle
     have HC:=Lib.hid hcat
     have hk0:(0:Int)<=(k:Int):=by omega
     have hkN:(k:Int)< (N:Int):=by omega
     generalize ps[k]=q at*
     obtain⟨a,c,rfl⟩:=d2.form
     generalize catB (ps.take k)=L at*
     rw[hpa]
     clear hpa hcat
     go_wp2_with (first |(at_builtin;refine zdi ?_))
     refine zdb (zbb rfl (.tmp 31) (.tmp 32) rfl rfl d2 rfl rfl hby ?_ ?_ ?_)
     ·omega
     ·have h2:=d3.size;omega
     intro a' c' g' w' r1 r2 r3
     have r4:=d2.grown r2 d3 (Nat.le_refl _)
     go_wp2_with fail
     go_roundw
     case rel=>exact⟨k+1,g',by simp,by have:=HN.out;omega,by rw[HC.out];exact r1,r4⟩
     case measure=>(first |omega |(simp[intOf];done) |(simp[intOf];omega))
    ·have hkN:k=N:=by omega
     have hall:catB (ps.take k)=catB ps:=by rw[hkN,HN.out,List.take_length]
     obtain⟨a,c,rfl⟩:=d2.form
     go_wp2_with fail
     go_ret
     exact⟨_,rfl,hf.trans d3,g,by rw[hall]at d2⊢;exact d2.base_mono e3.size⟩
set_option maxRecDepth 100000 in
theorem zus(p:AC)(ps:List (AC×List UInt8))(w:World)(hp:Pa w p ps)(hl:(catB ps).length<=100000000000):
  Calls Tryz.prog 268 #[.slice p.a ps.length p.c] w (Ret w λw' v=>∃g,OwB w' w.heap.size v (shaB (catB ps)) g):=by
 go_enter Tryz.func268,Tryz.ntmps268
 go_wp2_with fail
 refine(zlp p ps _ hp (by omega)).mono ?_
 rintro e w1 ⟨v,rfl,x1,g1,o1⟩
 obtain⟨q,rfl,b1⟩:=o1.by_
 go_wp2_with fail
 refine(z3f q (catB ps) _ b1 hl).mono ?_
 rintro e w2 ⟨v,rfl,x2,rfl⟩
 have hs32:((shaB (catB ps)).map bv).toArray.size=32:=by simp[zd7]
 have hone:((shaB (catB ps)).map bv).toArray.all (·.oneCell')=true:=by simp[Value.oneCell']
 obtain⟨cs,hcs⟩: ∃cs,cs=((shaB (catB ps)).map bv).toArray:=⟨_,rfl⟩
 rw[<-hcs]at hs32 hone⊢
 have HC:=Lib.hid hcs
 clear hcs
 iterate 2 first |go_values |go_skip |go_guarded |go_step |go_upon |go_back |go_simp
 refine zbk rfl 259 rfl (some 3) rfl 32 (by kernel_rfl) ?_
 intro w3 Z3 z3 h3 l3 x3
 refine zbr rfl 259 _ _ rfl rfl w2.heap.size cs rfl rfl 259 Z3 h3 (by rw[hs32];kernel_rfl) (by rw[hs32];exact z3) hone ?_
 intro w4 h4 l4 x4
 apply wpList_nil
 have f2:Ext w w2:=x1.trans x2
 have f4:Ext w w4:=(f2.trans x3).grown x4 (λk hk=>by cases hk;exact f2.size)
 have hB:w.heap.size<=w2.heap.size:=f2.size
 generalize w2.heap.size=B at*
 clear x4 l4 l3 h3 x3 x2 x1 f2
 go_wp2_with fail
 go_ret
 refine⟨_,rfl,f4,none,?_⟩
 have hs:=Sl.block (S:=(w.heap.size<= ·)) (sz:=1) (n:=32) (c:=32) h4 hB (by rw[hs32]) (Nat.le_refl _) (by unfold maxLen;omega)
 rw[HC.out]at hs
 unfold OwB
 rw[zd7]
 exact⟨by simp[zd7], .inl ⟨rfl,_,rfl,hs⟩⟩
end
end Go.Proofs.YtddokcpcpoihmaaGreat

namespace Go.Proofs.YtddokcpcpoihmaaGreat.Sx
open Go.RowKit
section
theorem z4b(n:Int):zab Tryz.prog 145 [I n] (.r (.b (zek n))):=
 zy1 (us:=[.int .i64 n]) (u:= .bool (zek n)) (zbc Tryz.func145 rfl (by kernel_rfl)) (λ_ _ _ h=>z6d h) (λ_ _=>by simp[RV.at_]) λw=>zyp n w
theorem zyw(l m:List Int)(hl: ∀x∈l,i64 x)(hm: ∀x∈m,i64 x):zab Tryz.prog 46 [is l,is m] (.r (.b (decide (l=m)))):=
 za9 (zbc Tryz.func46 rfl (by kernel_rfl)) λw k vs hp=>by
  obtain⟨a,b,rfl,h1,h2⟩:=zen hp
  obtain⟨p,rfl,hp1⟩:=zul hl h1
  obtain⟨q,rfl,hq1⟩:=zul hm h2
  exact(zsc p q l m w hp1 hq1).mono λ_ _ ⟨v,he,hx,hv⟩=>⟨v,he,hx,k,λ_ _=>rfl,by simp only[Res.at_,RV.at_];exact hv⟩
theorem zhr(l m:List UInt8):zab Tryz.prog 18 [bs l,bs m] (.r (.b (decide (l=m)))):=
 za9 (zbc Tryz.func18 rfl (by kernel_rfl)) λw k vs hp=>by
  obtain⟨a,b,rfl,h1,h2⟩:=zen hp
  obtain⟨p,rfl,hp1⟩:=zcv h1
  obtain⟨q,rfl,hq1⟩:=zcv h2
  exact(zsb p q l m w hp1 hq1).mono λ_ _ ⟨v,he,hx,hv⟩=>⟨v,he,hx,k,λ_ _=>rfl,by simp only[Res.at_,RV.at_];exact hv⟩
theorem zpx(l:List UInt8)(hl:l.length<=8000000000000):zab Tryz.prog 105 [bs l] (bch l):=
 za9 (zbc Tryz.func105 rfl (by kernel_rfl)) λw k vs hp=>by
  obtain⟨a,rfl,h1⟩:=zfh hp
  obtain⟨p,rfl,hp1⟩:=zcv h1
  exact(zlj p l w hp1 hl).mono λ_ _ ⟨v,he,hx,_,hv⟩=>⟨v,he,hx,zdw hv⟩
theorem zf7(l m:List UInt8)(hl:l.length<=1000000000000)(hm:m.length<=1000000000000):zab Tryz.prog 134 [bs l,bs m] (bch (l++m)):=
 za9 (zbc Tryz.func134 rfl (by kernel_rfl)) λw k vs hp=>by
  obtain⟨a,b,rfl,h1,h2⟩:=zen hp
  obtain⟨p,rfl,hp1⟩:=zcv h1
  obtain⟨q,rfl,hq1⟩:=zcv h2
  exact(z2m p q l m w hp1 hq1 hl hm).mono λ_ _ ⟨v,he,hx,_,hv⟩=>⟨v,he,hx,zdw hv⟩
theorem zeu(l:List UInt8)(size m:Nat)(hl:l.length<=1000000000000)(hs:size=1\/size=2\/size=4\/size=8):zab Tryz.prog 107 [bs l,I size, .i .u64 m] (bch (l++beB size m)):=
 za9 (zbc Tryz.func107 rfl (by kernel_rfl)) λw k vs hp=>by
  obtain⟨a,b,c,rfl,h1,h2,h3⟩:=z5p hp
  obtain⟨p,rfl,hp1⟩:=zcv h1
  simp only[RV.at_]at h2 h3
  subst h2;subst h3
  exact(zfr p l size m w hp1 hl hs).mono λ_ _ ⟨v,he,hx,_,hv⟩=>⟨v,he,hx,zdw hv⟩
theorem za8(l m:List UInt8)(hl:l.length<=1000000000000)(hm:m.length<=1073741823):zab Tryz.prog 108 [bs l,bs m] (bch (l++vecB m)):=
 za9 (zbc Tryz.func108 rfl (by kernel_rfl)) λw k vs hp=>by
  obtain⟨a,b,rfl,h1,h2⟩:=zen hp
  obtain⟨p,rfl,hp1⟩:=zcv h1
  obtain⟨q,rfl,hq1⟩:=zcv h2
  exact(zuw p q l m w hp1 hq1 hl hm).mono λ_ _ ⟨v,he,hx,_,hv⟩=>⟨v,he,hx,zdw hv⟩
theorem zfv(m:List UInt8)(hm:m.length<=1073741823):zab Tryz.prog 114 [bs m] (bch (vecB m)):=
 za9 (zbc Tryz.func114 rfl (by kernel_rfl)) λw k vs hp=>by
  obtain⟨b,rfl,h2⟩:=zfh hp
  obtain⟨q,rfl,hq1⟩:=zcv h2
  exact(zuz q m w hq1 hm).mono λ_ _ ⟨v,he,hx,_,hv⟩=>⟨v,he,hx,zdw hv⟩
theorem z1y(size m:Nat)(hs:size<=8)(hm:m<18446744073709551616):zab Tryz.prog 113 [I size, .i .u64 m] (bch (beB size m)):=
 za9 (zbc Tryz.func113 rfl (by kernel_rfl)) λw k vs hp=>by
  obtain⟨b,c,rfl,h2,h3⟩:=zen hp
  simp only[RV.at_]at h2 h3
  subst h2;subst h3
  exact(zuy size m w hs hm).mono λ_ _ ⟨v,he,hx,_,hv⟩=>⟨v,he,hx,zdw hv⟩
end
section
theorem Vcall.bool{P:Program}{f:FuncId}{vs:List RV}{K:Res->Prop}{β:Bool}(hg:zab P f vs (.r (.b β)))(ht:β=true->K (.r (.b true)))(hf:β=false->K (.r (.b false))):Vcall P f vs K:=by
 cases β
 ·exact zd hg (hf rfl)
 ·exact zd hg (ht rfl)
abbrev zy:= @Vcall.bool
def Leaf.right(l:Leaf):Bool:=decide (l.box.length=32/\l.sign.length=32/\0<l.ident.length/\l.ident.length<=64/\0<l.src.toNat/\l.src.toNat<4/\(l.parent.length=0\/l.src.toNat=3/\l.parent.length=32)/\l.sig.length=64)
theorem zv0(l:Leaf):zab Tryz.prog 164 [.ag l.c] (.r (.b l.right)):=by
 refine zaa (T:=Tab) mixed Tab_ok Tryz.func164 rfl (by kernel_rfl) ?_
 (repeat' (first |refine zg (λh=>?_) (λh=>?_) |refine ze ?_ |refine zo ?_ |refine zp ?_))
 all_goals refine congrArg RV.b (Eq.symm ?_)
 all_goals simp only[Leaf.right,zb]at*
 all_goals omega
theorem zt8(a b:Leaf):zab Tryz.prog 15 [.ag a.c, .ag b.c] (.r (.b (decide (a=b)))):=by
 refine zaa (T:=Tab) mixed Tab_ok Tryz.func15 rfl (by kernel_rfl) ?_
 obtain⟨a1,a2,a3,a4,a5,a6⟩:=a
 obtain⟨b1,b2,b3,b4,b5,b6⟩:=b
 repeat' (first |refine zy (zhr _ _) (λh=>?_) (λh=>?_) |refine zg (λh=>?_) (λh=>?_) |refine ze ?_)
 all_goals simp only[zb,Int.natCast_inj,UInt8.toNat_inj]at*
 all_goals simp_all [ofC]
theorem zyx(a b:Node)(ha: ∀x∈a.par.late,i64 x)(hb: ∀x∈b.par.late,i64 x):zab Tryz.prog 75 [.ag a.c, .ag b.c] (.r (.b (decide (a=b)))):=by
 refine zaa (T:=Tab) mixed Tab_ok Tryz.func75 rfl (by kernel_rfl) ?_
 obtain⟨a1,a2,a3⟩:=a
 obtain⟨b1,b2,b3⟩:=b
 refine zg (λh1=>?_) (λh1=>?_)
 ·refine za rfl rfl ?_
  refine za rfl rfl ?_
  refine zy (zt8 a2 b2) (λh2=>?_) (λh2=>?_)
  ·refine zy (zhr _ _) (λh3=>?_) (λh3=>?_)
   ·refine zy (zhr _ _) (λh4=>?_) (λh4=>?_)
    ·refine zy (zyw _ _ ha hb) (λh5=>?_) (λh5=>?_)
     ·refine ze ?_
      simp only[zb,Int.natCast_inj,UInt8.toNat_inj]at*
      obtain⟨_,_,_⟩:=a3
      obtain⟨_,_,_⟩:=b3
      simp_all [ofC]
     ·refine ze ?_
      simp only[zb,Int.natCast_inj,UInt8.toNat_inj]at*
      simp[ofC]
      intro _ _ e;exact h5 (by rw[e])
    ·refine ze ?_
     simp only[zb,Int.natCast_inj,UInt8.toNat_inj]at*
     simp[ofC]
     intro _ _ e;exact h4 (by rw[e])
   ·refine ze ?_
    simp only[zb,Int.natCast_inj,UInt8.toNat_inj]at*
    simp[ofC]
    intro _ _ e;exact h3 (by rw[e])
  ·refine ze ?_
   simp only[zb,Int.natCast_inj,UInt8.toNat_inj]at*
   simp[ofC,h2]
 ·refine ze ?_
  simp only[zb,Int.natCast_inj,UInt8.toNat_inj]at*
  simp[ofC,h1]
end
section
theorem zvo{ρ:List (Nat×Nat)}{S:St}(v:RV):cvTF ρ S (.r v) (.r v):=by
 cases v<;>first |trivial |exact cr
theorem zae{ρ:List (Nat×Nat)}{S:St}: ∀l:List RV,zfs ρ S (l.map .r) (l.map .r)
 |[]=>rfl
 |v::r=>⟨_,_,rfl,zvo v,zae r⟩
def Leaf.fit(l:Leaf):Prop:=l.box.length<=1000000000/\l.sign.length<=1000000000/\l.ident.length<=1000000000/\l.parent.length<=1000000000/\l.sig.length<=1000000000
def Par.fit(p:Par):Prop:=p.box.length<=1000000000/\p.hash.length<=1000000000/\p.late.length<=100000000/\∀x∈p.late,i64 x
def zdc:Int->List Int->Bool
 |_,[]=>true
 |last,x::r=>decide (last<x/\x<65536)&&zdc x r
def Par.right(p:Par):Bool:=zdc (-1) p.late&&decide (p.box.length=32/\(p.hash.length=0\/p.hash.length=32))
def Leaf.none(l:Leaf):Bool:=decide (l.src.toNat=0/\l.box.length=0/\l.sign.length=0/\l.ident.length=0/\l.parent.length=0/\l.sig.length=0)
def Par.none(p:Par):Bool:=decide (p.box.length=0/\p.hash.length=0/\p.late.length=0)
theorem zpz(l:Leaf)(hl:l.fit):zab Tryz.prog 260 [.ag l.c] (.r (.b l.none)):=by
 refine zaa (T:=Tab) mixed Tab_ok Tryz.func260 rfl (by kernel_rfl) ?_
 obtain⟨h1,h2,h3,h4,h5⟩:=hl
 refine zg (λh=>?_) (λh=>?_)
 ·refine zc rfl (by omega) ?_
  refine zc rfl (by omega) ?_
  refine zc rfl (by omega) ?_
  refine zc rfl (by omega) ?_
  refine Vcmp.mk' rfl (ze (congrArg RV.b ?_))
  simp only[Leaf.none,zb]at*
  rw[Bool.eq_iff_iff]
  simp only[zb]at*
  omega
 ·refine ze (congrArg RV.b ?_)
  simp only[Leaf.none,zb]at*
  rw[eq_comm]
  simp only[zb]at*
  omega
theorem zss(p:Par)(hp:p.fit):zab Tryz.prog 261 [.ag p.c] (.r (.b p.none)):=by
 refine zaa (T:=Tab) mixed Tab_ok Tryz.func261 rfl (by kernel_rfl) ?_
 obtain⟨h1,h2,h3,_⟩:=hp
 refine zc rfl (by omega) ?_
 refine zc rfl (by omega) ?_
 refine Vcmp.mk' rfl (ze (congrArg RV.b ?_))
 simp only[Par.none,zb]at*
 rw[Bool.eq_iff_iff]
 simp only[zb]at*
 omega
theorem zev(l:Leaf):zab Tryz.prog 52 [.ag l.c] (.r (.b l.right)):=by
 refine zaa (T:=Tab) mixed Tab_ok Tryz.func52 rfl (by kernel_rfl) ?_
 (repeat' (first |refine zg (λh=>?_) (λh=>?_) |refine ze ?_ |refine zo ?_ |refine zp ?_))
 all_goals refine congrArg RV.b (Eq.symm ?_)
 all_goals simp only[Leaf.right,zb]at*
 all_goals omega
theorem z4c(p:Par)(hp:p.fit):zab Tryz.prog 262 [.ag p.c] (.r (.b p.right)):=by
 refine zaa (T:=Tab) mixed Tab_ok Tryz.func262 rfl (by kernel_rfl) ?_
 obtain⟨hp1,hp2,hp3,hp4⟩:=hp
 refine zw (λi:Nat×Int=>{F:=[(1, .own 0),(2, .r (.b false)),(3, .r (I i.2)),(7, .r (is p.late)),(8, .r (I p.late.length)),(9, .r (I i.1))],O:=[(0,some (.box (p.c.map .r)))],nx:=1})
  (λi=>i.1<=p.late.length/\zdc (-1) p.late=zdc i.2 (p.late.drop i.1)) (λi=>p.late.length-i.1) (0, -1) ⟨by simp,by simp⟩ (zac [(0,0)] rfl ⟨rfl,cr,cr,cr,cr,cr,trivial⟩ ⟨zae _,trivial⟩) ?_
 rintro⟨j,last⟩ ⟨hj,hlate⟩
 simp only at hj hlate
 refine zg (λh=>zo ?_) (λh=>zp ?_)
 ·simp only[zb]at h
  have hj':j<p.late.length:=by omega
  have hx:=hp4 _ (List.getElem_mem hj')
  rw[List.drop_eq_getElem_cons hj']at hlate
  simp only[zdc]at hlate
  refine zk (by omega) (by omega) (zcc rfl hj') (zf rfl ?_)
  refine zg (λh1=>?_) (λh1=>?_)
  ·simp only[zb]at h1
   refine zo (ze (congrArg RV.b (Eq.symm ?_)))
   have: ¬(last<p.late[j]/\p.late[j]<65536):=by omega
   simp[Par.right,hlate,this]
  ·refine zg (λh2=>?_) (λh2=>?_)
   ·simp only[zb]at h2
    refine zo (ze (congrArg RV.b (Eq.symm ?_)))
    have: ¬(last<p.late[j]/\p.late[j]<65536):=by omega
    simp[Par.right,hlate,this]
   ·simp only[zb]at h1 h2
    refine zp ?_
    refine zc (m:=((j+1:Nat):Int)) (by omega) (by omega) ?_
    have:last<p.late[j]/\p.late[j]<65536:=by omega
    rw[decide_eq_true this,Bool.true_and]at hlate
    exact⟨(j+1,p.late[j]),⟨by simp only;omega,hlate⟩,by simp only;omega,zac [(0,0)] rfl ⟨rfl,cr,cr,cr,cr,cr,trivial⟩ ⟨zae _,trivial⟩⟩
 ·simp only[zb]at h
  have:p.late.drop j=[]:=List.drop_eq_nil_of_le (by omega)
  rw[this]at hlate
  simp only[zdc]at hlate
  (repeat' (first |refine zg (λh=>?_) (λh=>?_) |refine ze ?_ |refine zo ?_ |refine zp ?_))
  all_goals refine congrArg RV.b (Eq.symm ?_)
  all_goals simp only[Par.right,hlate,Bool.true_and,zb]at*
  all_goals omega
end
section
def Node.fit(n:Node):Prop:=n.leaf.fit/\n.par.fit
def Node.right(n:Node):Bool:=
 if n.kind.toNat=0 then n.leaf.none&&n.par.none else if n.kind.toNat=1 then n.leaf.right&&n.par.none else if n.kind.toNat=2 then n.leaf.none&&n.par.right else false
def za1(l:Leaf):List UInt8:=vecB l.box++vecB l.sign++vecB l.ident++[l.src]++(if l.src.toNat=3 then vecB l.parent else[])
def zd2(l:List Int):List UInt8:=l.flatMap λx=>beB 4 x.toNat
def parB(p:Par):List UInt8:=vecB p.box++vecB p.hash++vecB (zd2 p.late)
def zma(n:Node):List UInt8:=if n.kind.toNat=1 then 1::(za1 n.leaf++vecB n.leaf.sig)else if n.kind.toNat=2 then 2::parB n.par else[0]
theorem zyv(n:Node)(hn:n.fit):zab Tryz.prog 210 [.ag n.c] (.r (.b n.right)):=by
 refine zaa (T:=Tab) mixed Tab_ok Tryz.func210 rfl (by kernel_rfl) ?_
 refine zg (λh0=>zo ?_) (λh0=>zp ?_)
 ·simp only[zb]at h0
  have h0':n.kind.toNat=0:=by omega
  refine za rfl rfl (zy (zpz n.leaf hn.1) (λh=>za rfl rfl (zd (zss n.par hn.2) (ze ?_))) (λh=>ze ?_))
  ·simp[Node.right,h0',h]
  ·simp[Node.right,h0',h,ofC]
 ·simp only[zb]at h0
  have h0':n.kind.toNat≠0:=by omega
  refine zg (λh1=>zo ?_) (λh1=>zp ?_)
  ·simp only[zb]at h1
   have h1':n.kind.toNat=1:=by omega
   refine za rfl rfl (zy (zev n.leaf) (λh=>za rfl rfl (zd (zss n.par hn.2) (ze ?_))) (λh=>ze ?_))
   ·simp[Node.right,h1',h]
   ·simp[Node.right,h1',h,ofC]
  ·simp only[zb]at h1
   have h1':n.kind.toNat≠1:=by omega
   refine zg (λh2=>zo ?_) (λh2=>zp ?_)
   ·simp only[zb]at h2
    have h2':n.kind.toNat=2:=by omega
    refine za rfl rfl (zy (zpz n.leaf hn.1) (λh=>za rfl rfl (zd (z4c n.par hn.2) (ze ?_))) (λh=>ze ?_))
    ·simp[Node.right,h2',h]
    ·simp[Node.right,h2',h,ofC]
   ·simp only[zb]at h2
    have h2':n.kind.toNat≠2:=by omega
    refine ze ?_
    simp[Node.right,h0',h1',h2',ofC]
theorem Cvs.of_eq{cs ds:List RV}(h:cs=ds):Cvs cs ds:=h▸zm cs
theorem cvCh{ρ:List (Nat×Nat)}{S:St}{e:TypeId}{l m:List UInt8}(h:l=m):cvOw ρ S (.ch e 1 l.length (l.map U8) true) (.ch e 1 m.length (m.map U8) true):=by
 subst h
 exact⟨rfl,rfl,rfl,rfl,zm _⟩
theorem zef{e:TypeId}{l m:List UInt8}(h:l=m):some (Ow.ch e 1 l.length (l.map U8) true)=some (Ow.ch e 1 m.length (m.map U8) true):=by rw[h]
def z5z(b:List UInt8)(l:Leaf):Nat->St
 |0=>{F:=[(0, .r (bs b)),(3, .own 0),(13, .own 1),(14, .r (I 3)),(15, .r (I 0))],O:=[(0,some (.box (l.c.map .r))),(1,some (.ch 25 1 3 [bs l.box,bs l.sign,bs l.ident] true))],nx:=2}
 |j+1=>{F:=[(0, .own 2),(3, .own 0),(13, .own 1),(14, .r (I 3)),(15, .r (I ((j+1:Nat):Int)))],O:=[(0,some (.box (l.c.map .r))),(1,some (.ch 25 1 3 [bs l.box,bs l.sign,bs l.ident] true)),
   (2,some (.ch 5 1 (b++([l.box,l.sign,l.ident].take (j+1)).flatMap vecB).length ((b++([l.box,l.sign,l.ident].take (j+1)).flatMap vecB).map U8) true))],nx:=3}
theorem zhs(b:List UInt8)(l:Leaf)(hb:b.length<=1000000000)(hl:l.fit):zab Tryz.prog 106 [bs b, .ag l.c] (bch (b++za1 l)):=by
 refine zaa (T:=Tab) mixed Tab_ok Tryz.func106 rfl (by kernel_rfl) ?_
 obtain⟨h1,h2,h3,h4,h5⟩:=hl
 have v1:=zam l.box
 have v2:=zam l.sign
 have v3:=zam l.ident
 refine zu ?_
 refine zw (z5z b l) (λj=>j<=3) (λj=>3-j) 0 (by omega) (zac [(0,0),(1,1)] rfl ⟨cr,rfl,rfl,cr,cr,trivial⟩ ⟨zae _,⟨rfl,rfl,rfl,rfl,zm _⟩,trivial⟩) ?_
 intro j hj
 rcases(by omega:j=0\/j=1\/j=2\/j=3)with rfl |rfl |rfl |rfl
 ·refine zq rfl (zo ?_)
  refine zk (by decide) (by decide) rfl (zf rfl ?_)
  refine zd (za8 b l.box (by omega) (by omega)) ?_
  refine zc (m:=((1:Nat):Int)) rfl (by decide) ?_
  exact⟨1,by omega,by omega,zac [(0,0),(1,1),(2,2)] rfl ⟨rfl,rfl,rfl,cr,cr,trivial⟩ ⟨zae _,⟨rfl,rfl,rfl,rfl,zm _⟩,cvCh (by simp),trivial⟩⟩
 ·refine zq rfl (zo ?_)
  refine zk (by decide) (by decide) rfl (zf rfl ?_)
  refine zd (za8 (b++([l.box,l.sign,l.ident].take 1).flatMap vecB) l.sign (by simp;omega) (by omega)) ?_
  refine zc (m:=((2:Nat):Int)) rfl (by decide) ?_
  exact⟨2,by omega,by omega,zac [(0,0),(1,1),(2,3)] rfl ⟨rfl,rfl,rfl,cr,cr,trivial⟩ ⟨zae _,⟨rfl,rfl,rfl,rfl,zm _⟩,cvCh (by simp),trivial⟩⟩
 ·refine zq rfl (zo ?_)
  refine zk (by decide) (by decide) rfl (zf rfl ?_)
  refine zd (za8 (b++([l.box,l.sign,l.ident].take 2).flatMap vecB) l.ident (by simp;omega) (by omega)) ?_
  refine zc (m:=((3:Nat):Int)) rfl (by decide) ?_
  exact⟨3,by omega,by omega,zac [(0,0),(1,1),(2,3)] rfl ⟨rfl,rfl,rfl,cr,cr,trivial⟩ ⟨zae _,⟨rfl,rfl,rfl,rfl,zm _⟩,cvCh (by simp),trivial⟩⟩
 ·refine zt rfl (zp ?_)
  refine zu ?_
  refine Vapp.mk' (j:=(b++([l.box,l.sign,l.ident].take 3).flatMap vecB++[l.src]).length) (zs:=(b++([l.box,l.sign,l.ident].take 3).flatMap vecB++[l.src]).map U8) (by simp[maxLen];omega) (by simp;omega) (by simp;omega) (by simp[zej,cellsOf]) ?_
  refine zg (λhs=>zo ?_) (λhs=>zp ?_)
  ·simp only[zb]at hs
   have hs':l.src.toNat=3:=by omega
   refine zd (za8 (b++([l.box,l.sign,l.ident].take 3).flatMap vecB++[l.src]) l.parent (by simp;omega) (by omega)) ?_
   have e:b++([l.box,l.sign,l.ident].take 3).flatMap vecB++[l.src]++vecB l.parent=b++za1 l:=by simp[za1,hs']
   exact zef e
  ·simp only[zb]at hs
   have hs':l.src.toNat≠3:=by omega
   have e:b++([l.box,l.sign,l.ident].take 3).flatMap vecB++[l.src]=b++za1 l:=by simp[za1,hs']
   exact zef e
theorem zit: ∀l:List Int,(zd2 l).length=4*l.length
 |[]=>rfl
 |x::r=>by
  have:=zit r
  simp only[zd2,List.flatMap_cons,List.length_append,List.length_cons]at*
  rw[zar,this];omega
def z6j(b:List UInt8)(p:Par):Nat->St
 |0=>{F:=[(0, .r (bs b)),(3, .own 0),(5, .r (bs [])),(9, .r (is p.late)),(10, .r (I p.late.length)),(11, .r (I ((0:Nat):Int)))],O:=[(0,some (.box (p.c.map .r)))],nx:=1}
 |j+1=>{F:=[(0, .r (bs b)),(3, .own 0),(5, .own 1),(9, .r (is p.late)),(10, .r (I p.late.length)),(11, .r (I ((j+1:Nat):Int)))],O:=[(0,some (.box (p.c.map .r))),
   (1,some (.ch 5 1 (zd2 (p.late.take (j+1))).length ((zd2 (p.late.take (j+1))).map U8) true))],nx:=2}
theorem znx(x:Int)(h:0<=x/\x<65536):IntKind.u64.wrap x=((x.toNat:Nat):Int):=by
 unfold IntKind.wrap
 simp only[IntKind.bits,IntKind.signed]
 simp
 omega
theorem zt7(b:List UInt8)(p:Par)(hb:b.length<=1000000000)(hp:p.fit)(hr: ∀x∈p.late,0<=x/\x<65536):zab Tryz.prog 211 [bs b, .ag p.c] (bch (b++parB p)):=by
 refine zaa (T:=Tab) mixed Tab_ok Tryz.func211 rfl (by kernel_rfl) ?_
 obtain⟨h1,h2,h3,_⟩:=hp
 have hll:=zit p.late
 refine zw (z6j b p) (λj=>j<=p.late.length) (λj=>p.late.length-j) 0 (by omega) (zac [(0,0)] rfl ⟨cr,rfl,Cv.nil _,cr,cr,cr,trivial⟩ ⟨zae _,trivial⟩) ?_
 have vd1:=zam p.box
 have vd2:=zam p.hash
 have hstep: ∀j (hj:j<p.late.length),zd2 (p.late.take j)++beB 4 (p.late[j].toNat)=zd2 (p.late.take (j+1)):=λj hj=>by
  rw[List.take_add_one,List.getElem?_eq_getElem hj]
  simp only[zd2,Option.toList,List.flatMap_append,List.flatMap_cons,List.flatMap_nil,List.append_nil]
 have hlen: ∀j,j<=p.late.length->(zd2 (p.late.take j)).length=4*j:=λj hj=>by rw[zit,List.length_take];omega
 intro j hj
 rcases j with _ |j
 ·refine zg (λh=>zo ?_) (λh=>zp ?_)
  ·simp only[zb]at h
   have hj':0<p.late.length:=by omega
   refine zk (by omega) (by omega) (zcc rfl hj') (zf rfl ?_)
   refine⟨((p.late[0].toNat:Nat):Int),(znx _ (hr _ (List.getElem_mem hj'))).symm,?_⟩
   refine zd (zeu [] 4 p.late[0].toNat (by simp) (by omega)) ?_
   refine zc (m:=((0+1:Nat):Int)) (by omega) (by omega) ?_
   exact⟨0+1,hj',by omega,zac [(0,0),(1,1)] rfl ⟨cr,rfl,rfl,cr,cr,cr,trivial⟩ ⟨zae _,cvCh (hstep 0 hj'),trivial⟩⟩
  ·simp only[zb]at h
   have e:p.late=[]:=List.eq_nil_of_length_eq_zero (by omega)
   refine Vdraw.mk' (by kernel_rfl) ?_
   refine zd (za8 b p.box (by omega) (by omega)) ?_
   refine zd (za8 (b++vecB p.box) p.hash (by simp;omega) (by omega)) ?_
   refine zd (za8 (b++vecB p.box++vecB p.hash) [] (by simp;omega) (by simp)) ?_
   exact zef (by simp[parB,e,zd2])
 ·refine zg (λh=>zo ?_) (λh=>zp ?_)
  ·simp only[zb]at h
   have hj':j+1<p.late.length:=by omega
   refine zk (by omega) (by omega) (zcc rfl hj') (zf rfl ?_)
   refine⟨((p.late[j+1].toNat:Nat):Int),(znx _ (hr _ (List.getElem_mem hj'))).symm,?_⟩
   refine zd (zeu (zd2 (p.late.take (j+1))) 4 p.late[j+1].toNat (by rw[hlen _ hj];omega) (by omega)) ?_
   refine zc (m:=((j+1+1:Nat):Int)) (by omega) (by omega) ?_
   exact⟨j+1+1,hj',by omega,zac [(0,0),(1,2)] rfl ⟨cr,rfl,rfl,cr,cr,cr,trivial⟩ ⟨zae _,cvCh (hstep (j+1) hj'),trivial⟩⟩
  ·simp only[zb]at h
   have e:p.late.take (j+1)=p.late:=List.take_of_length_le (by omega)
   refine Vdraw.mk' (by kernel_rfl) ?_
   refine zd (za8 b p.box (by omega) (by omega)) ?_
   refine zd (za8 (b++vecB p.box) p.hash (by simp;omega) (by omega)) ?_
   refine zd (za8 (b++vecB p.box++vecB p.hash) (zd2 (p.late.take (j+1))) (by simp;omega) (by rw[e,hll];omega)) ?_
   exact zef (by simp[parB,e])
theorem zqk: ∀(l:List Int) (a:Int), -1<=a->zdc a l=true->∀x∈l,0<=x/\x<65536
 |[],_,_,_=>λx hx=>by cases hx
 |y::r,a,ha,h=>λx hx=>by
  simp only[zdc,Bool.and_eq_true,decide_eq_true_eq]at h
  rcases List.mem_cons.1 hx with rfl |hx
  ·omega
  ·exact zqk r y (by omega) h.2 x hx
theorem Par.right_bd{p:Par}(h:p.right=true): ∀x∈p.late,0<=x/\x<65536:=by
 simp only[Par.right,Bool.and_eq_true]at h
 exact zqk _ _ (by omega) h.1
theorem Cv.tu{l m:List RV}(h:Cvs l m):Cv (.tu l) (.tu m):=λw k v hv=>by
 simp only[RV.at_]at*
 obtain⟨us,e,hp⟩:=hv
 exact⟨us,e,h.at_ hp⟩
theorem zyu(n:Node)(hn:n.fit):zab Tryz.prog 146 [.ag n.c] (.r (if n.right then .tu [bs (zma n), .i .u8 0]else .tu [bs [], .i .u8 3])):=by
 refine zaa (T:=Tab) mixed Tab_ok Tryz.func146 rfl (by kernel_rfl) ?_
 refine za rfl rfl ?_
 refine zy (zyv n hn) (λhr=>?_) (λhr=>?_)
 ·refine zt rfl (zp ?_)
  refine zu ?_
  obtain⟨⟨l1,l2,l3,l4,l5⟩,hpf⟩:=hn
  have w1:=zam n.leaf.box
  have w2:=zam n.leaf.sign
  have w3:=zam n.leaf.ident
  have w4:=zam n.leaf.parent
  refine zg (λh1=>zo ?_) (λh1=>zp ?_)
  ·simp only[zb]at h1
   have h1':n.kind.toNat=1:=by omega
   have hk:n.kind=1:=UInt8.toNat_inj.1 h1'
   refine Vdraw.mk' (by kernel_rfl) ?_
   refine za rfl rfl ?_
   refine zd (zhs [n.kind] n.leaf (by simp) ⟨l1,l2,l3,l4,l5⟩) ?_
   have hlen:([n.kind]++za1 n.leaf).length<=1000000000000:=by
    simp only[za1,List.length_append,List.length_cons,List.length_nil]
    split<;>simp<;>omega
   refine zd (za8 ([n.kind]++za1 n.leaf) n.leaf.sig hlen (by omega)) ?_
   refine⟨_,rfl,ze ?_⟩
   rw[if_pos hr,zma,if_pos h1',hk]
   rfl
  ·simp only[zb]at h1
   have h1':n.kind.toNat≠1:=by omega
   refine zg (λh2=>zo ?_) (λh2=>zp ?_)
   ·simp only[zb]at h2
    have h2':n.kind.toNat=2:=by omega
    have hk:n.kind=2:=UInt8.toNat_inj.1 h2'
    have hb: ∀x∈n.par.late,0<=x/\x<65536:=by
     have:n.par.right=true:=by
      have:=hr
      simp[Node.right,h2']at this
      exact this.2
     exact Par.right_bd this
    refine za rfl rfl ?_
    refine zd (zt7 [n.kind] n.par (by simp) hpf hb) ?_
    refine⟨_,rfl,ze ?_⟩
    rw[if_pos hr,zma,if_neg h1',if_pos h2',hk]
    rfl
   ·simp only[zb]at h2
    have h2':n.kind.toNat≠2:=by omega
    have h0:n.kind.toNat=0:=by
     have:=hr
     simp only[Node.right,if_neg h1',if_neg h2']at this
     split at this
     ·assumption
     ·cases this
    have hk:n.kind=0:=UInt8.toNat_inj.1 h0
    refine⟨_,rfl,ze ?_⟩
    rw[if_pos hr,zma,if_neg h1',if_neg h2',hk]
    rfl
 ·refine zq rfl (zo ?_)
  refine⟨_,rfl,?_⟩
  rw[hr]
  exact Cv.tu (zj (Cv.nil 1) (zm _))
end
section
theorem z6n(p:Par)(hp:p.fit):zab Tryz.prog 165 [.ag p.c] (.r (.b p.right)):=by
 refine zaa (T:=Tab) mixed Tab_ok Tryz.func165 rfl (by kernel_rfl) ?_
 obtain⟨hp1,hp2,hp3,hp4⟩:=hp
 refine zw (λi:Nat×Int=>{F:=[(1, .own 0),(3, .r (I i.1))],O:=[(0,some (.box (p.c.map .r)))],nx:=1})
  (λi=>i.1<=p.late.length/\zdc (-1) p.late=zdc i.2 (p.late.drop i.1)/\ -1<=i.2/\(i.1=0->i.2= -1)/\∀h:0<i.1/\i.1-1<p.late.length,i.2=p.late[i.1-1]) (λi=>p.late.length-i.1) (0, -1) ⟨by simp,by simp,by simp,by simp,by simp⟩ (zac [(0,0)] rfl ⟨rfl,cr,trivial⟩ ⟨zae _,trivial⟩) ?_
 rintro⟨j,last⟩ ⟨hj,hlate,hge,h0,hpos⟩
 simp only at hj hlate hge h0 hpos
 refine zg (λh=>zo ?_) (λh=>zp ?_)
 ·simp only[zb]at h
  have hj':j<p.late.length:=by omega
  have hx:=hp4 _ (List.getElem_mem hj')
  rw[List.drop_eq_getElem_cons hj']at hlate
  simp only[zdc]at hlate
  refine Vdraw.mk' (by kernel_rfl) ?_
  refine zk (by omega) (by omega) (zcc rfl hj') (zf rfl ?_)
  have bad: ¬(last<p.late[j]/\p.late[j]<65536)->RV.b false=RV.b p.right:=λhh=>by simp[Par.right,hlate,hh]
  have good:last<p.late[j]/\p.late[j]<65536->∃i':Nat×Int,(i'.1<=p.late.length/\zdc (-1) p.late=zdc i'.2 (p.late.drop i'.1)/\ -1<=i'.2/\(i'.1=0->i'.2= -1)/\∀h:0<i'.1/\i'.1-1<p.late.length,i'.2=p.late[i'.1-1])/\i'.1=j+1:=λhh=>by
   rw[decide_eq_true hh,Bool.true_and]at hlate
   exact⟨(j+1,p.late[j]),⟨by simp only;omega,hlate,by simp only;omega,by simp,λ_=>rfl⟩,rfl⟩
  refine zg (λh1=>zo (ze (bad ?_))) (λh1=>?_)
  ·simp only[zb]at h1;omega
  ·simp only[zb]at h1
   refine zk (by omega) (by omega) (zcc rfl hj') (zf rfl ?_)
   refine zg (λh2=>zo (ze (bad ?_))) (λh2=>?_)
   ·simp only[zb]at h2;omega
   ·simp only[zb]at h2
    refine zg (λh3=>?_) (λh3=>?_)
    ·simp only[zb]at h3
     have hj0:0<j:=by omega
     have hlast:=hpos ⟨hj0,by omega⟩
     refine zc (m:=((j-1:Nat):Int)) (by omega) (by omega) ?_
     refine zk (by omega) (by omega) (zcc rfl (show j-1<p.late.length by omega)) (zf rfl ?_)
     refine zk (by omega) (by omega) (zcc rfl hj') (zf rfl ?_)
     refine zg (λh4=>zo (ze (bad ?_))) (λh4=>zp ?_)
     ·simp only[zb]at h4;omega
     ·simp only[zb]at h4
      refine zc (m:=((j+1:Nat):Int)) (by omega) (by omega) ?_
      obtain⟨i',hi,he⟩:=good (by omega)
      exact⟨i',hi,by omega,he▸zac [(0,0)] rfl ⟨rfl,cr,trivial⟩ ⟨zae _,trivial⟩⟩
    ·simp only[zb]at h3
     refine zp ?_
     refine zc (m:=((j+1:Nat):Int)) (by omega) (by omega) ?_
     obtain⟨i',hi,he⟩:=good (by have:=h0 (by omega);omega)
     exact⟨i',hi,by omega,he▸zac [(0,0)] rfl ⟨rfl,cr,trivial⟩ ⟨zae _,trivial⟩⟩
 ·simp only[zb]at h
  have:p.late.drop j=[]:=List.drop_eq_nil_of_le (by omega)
  rw[this]at hlate
  simp only[zdc]at hlate
  (repeat' (first |refine zg (λh=>?_) (λh=>?_) |refine ze ?_ |refine zo ?_ |refine zp ?_))
  all_goals refine congrArg RV.b (Eq.symm ?_)
  all_goals simp only[Par.right,hlate,Bool.true_and,zb]at*
  all_goals omega
theorem zvw(l:Leaf)(hl:l.fit):zab Tryz.prog 135 [.ag l.c] (bch (za1 l)):=by
 refine zaa (T:=Tab) mixed Tab_ok Tryz.func135 rfl (by kernel_rfl) ?_
 obtain⟨l1,l2,l3,l4,l5⟩:=hl
 have w1:=zam l.box
 have w2:=zam l.sign
 have w3:=zam l.ident
 have w4:=zam l.parent
 refine Vdraw.mk' (by kernel_rfl) ?_
 refine zd (zfv l.box (by omega)) ?_
 refine zd (zfv l.sign (by omega)) ?_
 refine zd (zf7 (vecB l.box) (vecB l.sign) (by omega) (by omega)) ?_
 refine zd (zfv l.ident (by omega)) ?_
 refine zu ?_
 refine zd (zf7 (vecB l.ident) [l.src] (by omega) (by simp)) ?_
 refine zd (zf7 (vecB l.box++vecB l.sign) (vecB l.ident++[l.src]) (by simp;omega) (by simp;omega)) ?_
 refine zg (λh=>zo ?_) (λh=>zp ?_)
 ·simp only[zb]at h
  have h':l.src.toNat=3:=by omega
  refine zd (zfv l.parent (by omega)) ?_
  refine zd (zf7 (vecB l.box++vecB l.sign++(vecB l.ident++[l.src])) (vecB l.parent) (by simp;omega) (by omega)) ?_
  exact zef (by simp[za1,h'])
 ·simp only[zb]at h
  have h':l.src.toNat≠3:=by omega
  exact zef (by simp[za1,h'])
theorem zvf(l:Leaf)(hl:l.fit):(za1 l).length<=5000000000:=by
 obtain⟨l1,l2,l3,l4,l5⟩:=hl
 have w1:=zam l.box
 have w2:=zam l.sign
 have w3:=zam l.ident
 have w4:=zam l.parent
 simp only[za1,List.length_append,List.length_cons,List.length_nil]
 split<;>simp<;>omega
theorem zos(l:Leaf)(hl:l.fit):zab Tryz.prog 67 [.ag l.c] (bch (za1 l++vecB l.sig)):=by
 refine zaa (T:=Tab) mixed Tab_ok Tryz.func67 rfl (by kernel_rfl) ?_
 have w:=zam l.sig
 have w2:=zvf l hl
 obtain⟨_,_,_,_,l5⟩:=id hl
 refine Vdraw.mk' (by kernel_rfl) ?_
 refine za rfl rfl ?_
 refine zd (zvw l hl) ?_
 refine zd (zfv l.sig (by omega)) ?_
 refine zd (zf7 (za1 l) (vecB l.sig) (by omega) (by omega)) ?_
 rfl
end
section
def Node.zero:Node:=⟨0,⟨[],[],[],0,[],[]⟩,⟨[],[],[]⟩⟩
theorem Cv.ag{l m:List RV}(h:Cvs l m):Cv (.ag l) (.ag m):=λw k v hv=>by
 simp only[RV.at_]at*
 obtain⟨us,e,hp⟩:=hv
 exact⟨us,e,h.list hp⟩
def z59(l:List Spot)(x:Int):Option Node:=(l.find? λs=>decide (s.at_=x)).map (·.node)
end
section
theorem Sub.trans{S S' S'':St}(h:Sub S S')(h':Sub S' S''):Sub S S'':=λB N a w k hs=>by
 obtain⟨k',hs'⟩:=h B N a w k hs
 exact h' B N a w k' hs'
theorem zxw{S:St}(t:Nat)(e:TypeId)(sz:Nat)(hf:fget S.F t=some (.r (.x (.slice none 0 0)))):Sub S {F:=(t, .own S.nx)::S.F,O:=(S.nx,some (.ch e sz 0 [] true))::S.O,nx:=S.nx+1}:=by
 rintro B N a w k ⟨g,hs⟩
 have hv:=(hs.facts t _ hf).2
 simp only[TF.at_,RV.at_]at hv
 have hlt:t<a.tmps.size:=by
  rcases Nat.lt_or_ge t a.tmps.size with h |h
  ·exact h
  ·rw[Array.getD_eq_getD_getElem?,Array.getElem?_eq_none h]at hv
   simp[undef]at hv
 have h:=hs.adopt (dst:=some t) (λd hd=>by cases hd;rw[<-hs.size];exact hlt) (o:= .ch e sz 0 [] true) (vb:=(.slice none 0 0,none)) trivial ⟨by simp, .inl ⟨rfl, .inl ⟨rfl,none,rfl⟩⟩⟩ (λb hb=>by cases hb) (λi o' b _ hb=>by cases hb)
 have e1:a.put (some t) (.slice none 0 0)=a:=by
  simp only[Act.put]
  have:a.tmps.setIfInBounds t (.slice none 0 0)=a.tmps:=by
   apply Array.ext
   ·simp
   ·intro i h1 h2
    by_cases hi:t=i
    ·subst hi
     rw[Array.getElem_setIfInBounds_self]
     rw[Array.getD_eq_getD_getElem?,Array.getElem?_eq_getElem hlt]at hv
     exact hv.symm
    ·rw[Array.getElem_setIfInBounds_ne _ hi]
  rw[this]
 rw[e1]at h
 exact⟨k,_,h⟩
end
section
def bss(ls:List (List UInt8)):RV:= .sl 1 ls.length (ls.map bs)
theorem ztb{w:World}{k:Kp}: ∀{ls:List (List UInt8)} {us:List Value},RV.listAt w k (ls.map bs) us->∃ps:List (AC×List UInt8),ps.map (·.2)=ls/\us=ps.map slv/\∀q∈ps,By w (λ_=>True) q.1 q.2
 |[],us,h=>by simp only[List.map_nil,RV.listAt]at h;exact⟨[],rfl,h,by simp⟩
 |l::ls,us,h=>by
  simp only[List.map_cons,RV.listAt]at h
  obtain⟨u,r,rfl,_,h1,h2⟩:=h
  obtain⟨p,rfl,hp⟩:=zcv h1
  obtain⟨ps,e1,e2,e3⟩:=ztb h2
  refine⟨(p,l)::ps,by simp[e1],by simp[e2,slv],λq hq=>?_⟩
  rcases List.mem_cons.1 hq with rfl |hq
  ·exact hp
  ·exact e3 q hq
theorem z1a{w:World}{k:Kp}{ls:List (List UInt8)}{v:Value}(h:(bss ls).at_ w k v): ∃(p:AC) (ps:List (AC×List UInt8)),v= .slice p.a ps.length p.c/\Pa w p ps/\catB ps=ls.flatMap id:=by
 simp only[bss,RV.at_]at h
 obtain⟨p,c,rfl,c1,c2,c3,c4⟩:=h
 rcases Nat.eq_zero_or_pos ls.length with h0 |hpos
 ·obtain rfl:=List.eq_nil_of_length_eq_zero h0
  exact⟨⟨p,c⟩,[],rfl,⟨⟨by simp,by simp,c2,λh=>by simp at h⟩,by simp⟩,rfl⟩
 ·obtain⟨b,o,rfl,hb,hc⟩:=c4 hpos
  obtain⟨us,q1,q2,q3⟩:=RV.cells_list _ _ hc
  obtain⟨ps,e1,e2,e3⟩:=ztb q1
  have hlen:ps.length=ls.length:=by rw[<-e1];simp
  exact⟨⟨_,c⟩,ps,by rw[hlen],⟨⟨by simp,by rw[hlen];exact c1,c2,λ_=>⟨b,o,rfl,trivial,hb,λj u hu=>q3 j u (by rw[e2];exact hu)⟩⟩,e3⟩,by rw[<-e1];simp[catB,List.flatMap_map]⟩
theorem zt9(ls:List (List UInt8))(hl:(ls.flatMap id).length<=100000000000):zab Tryz.prog 268 [bss ls] (bch (shaB (ls.flatMap id))):=
 za9 (zbc Tryz.func268 rfl (by kernel_rfl)) λw k vs hp=>by
  obtain⟨a,rfl,h1⟩:=zfh hp
  obtain⟨p,ps,rfl,hpa,hcat⟩:=z1a h1
  refine(zus p ps w hpa (by rw[hcat];exact hl)).mono λ_ _ ⟨v,he,hx,_,hv⟩=>⟨v,he,hx,?_⟩
  rw[hcat]at hv
  exact zdw hv
theorem zf6(ls:List (List UInt8))(hl:(ls.flatMap id).length<=1000000000000):zab Tryz.prog 130 [bss ls] (bch (ls.flatMap id)):=
 za9 (zbc Tryz.func130 rfl (by kernel_rfl)) λw k vs hp=>by
  obtain⟨a,rfl,h1⟩:=zfh hp
  obtain⟨p,ps,rfl,hpa,hcat⟩:=z1a h1
  refine(zlp p ps w hpa (by rw[hcat];exact hl)).mono λ_ _ ⟨v,he,hx,_,hv⟩=>⟨v,he,hx,?_⟩
  rw[hcat]at hv
  exact zdw hv
end
end Go.Proofs.YtddokcpcpoihmaaGreat.Sx
