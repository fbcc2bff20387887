import Derived.Test.YtlofklpckddkfaaGreatZShaZ
import Derived.Lib.AppendZerosOnto
import Derived.Test.YtlofklpckddkfaaGreatZPc
import Derived.Test.YtlofklpckddkfaaGreatZOnes
import Derived.Test.YtlofklpckddkfaaGreatZSha
namespace Go.Proofs.YtlofklpckddkfaaGreat
open Go.RowKit
set_option linter.unusedVariables false
section
theorem zpq{P:Program}{ops:Array Oper}{rest:List Oper}{o:Oper}{a:Act}{w:World}{Q:Exit->Act->World->Prop}(hgd:o.guard=none)(s x:Operand)(t u:TypeId)
  (ho:o.op= .call {callee:= .builtin .append,args:= #[s,x],argTypes:= #[t,u]}) {v y v':Value} {w':World} (hs:a.eval s=v) (hx:a.eval x=y)
  (hr:(Builtin.append_ #[t,u] o.type #[v,y]).run P w= .ok v' w') (h:wpList P ops Q rest (a.put o.dst v') w'):wpList P ops Q (o::rest) a w:=by
 refine wpList_plain hgd λK hK=>?_
 unfold Oper.wp execOp
 simp only[ho,resolve,invoke,builtin,Sem.run_bind,Sem.run_pure,Result.andThen_ok,List.map_toArray,List.map_cons,List.map_nil,hs,hx,hr]
 exact hK _ _ h
set_option maxRecDepth 100000 in
theorem zxr(n:Nat)(w:World)(hn:n<=1000000000000):
  Calls Tryz.prog 327 #[.slice none 0 0, .int .i64 (n:Int)] w (Ret w λw' v=>∃g,OwB w' w.heap.size v [] g):=by
 rcases Nat.eq_zero_or_pos n with rfl |hpos
 ·go_enter Tryz.func327,Tryz.ntmps327
  go_wp2_with fail
  go_ret
  exact⟨_,rfl,(by(repeat (first |exact Ext.refl _ |refine Ext.drew ?_ |refine Ext.drewN ?_ _ |refine Ext.alloc ?_ _ |(refine Ext.setCell ?_ (by first |omega |(simp;done) |(simp;omega)) _) |refine Ext.trans ?_ (by assumption)))),none,OwB.nil _ _⟩
 ·obtain⟨i0,hi,hz0,hz1,hz2⟩:=info_parts Tryz.infoU8
  have hr:=λty=>Lib.run_append_grow_zeros w 22 3 ty 5 i0 (.int .u8 0) .i64 .i64 Tryz.underlying22 Tryz.underlying3 hi hz0 none 0 0 [] (run_firstCells_none w.drew i0.size 0 0 0) n hpos (by rw[hz1];decide) (by omega) (by omega) (by rw[hz2];omega) (growslice_fits (by omega) (by rw[hz2];omega))
  simp only[Nat.zero_add]at hr
  have hge:=grownCap_ge w n 0 5
  have hle:=grownCap_le_maxLen w n 0 5 (by unfold maxLen;omega)
  have hcs:((([]:List Value).toArray++Builtin.zeroCells (Value.int .u8 0).cells n++Builtin.zeroCells (Value.int .u8 0).cells (grownCap w n 0 5-n))).size=grownCap w n 0 5:=by
   simp only[Array.size_append,List.size_toArray,size_zeroCells,show(Value.int IntKind.u8 0).cells.size=1 from rfl]
   simp only[List.length_nil];omega
  generalize grownCap w n 0 5=G at*
  generalize ([]:List Value).toArray++Builtin.zeroCells (Value.int .u8 0).cells n++Builtin.zeroCells (Value.int .u8 0).cells (G-n)=cs at*
  unfold maxLen at hle
  go_enter Tryz.func327,Tryz.ntmps327
  go_wp2_with (first |(at_builtin;refine zfo ?_))
  refine zfi (zpq rfl (.tmp 20) (.tmp 21) _ _ rfl rfl rfl (hr _) ?_)
  clear hr
  go_wp2_with fail
  go_ret
  refine⟨_,rfl,(by(repeat (first |exact Ext.refl _ |refine Ext.drew ?_ |refine Ext.drewN ?_ _ |refine Ext.alloc ?_ _ |(refine Ext.setCell ?_ (by first |omega |(simp;done) |(simp;omega)) _) |refine Ext.trans ?_ (by assumption)))),some w.heap.size,?_⟩
  exact⟨by simp, .inr ⟨w.heap.size,G,cs,rfl,rfl,Nat.le_refl _,heap_alloc_new w.drew _,Nat.zero_le _,by unfold maxLen;omega,by simpa using hcs,by simp⟩⟩
abbrev slv(q:AC×List UInt8):Value:= .slice q.1.a q.2.length q.1.c
def Pa(w:World)(p:AC)(ps:List (AC×List UInt8)):Prop:=Sl w (λ_=>True) 1 p ps.length (ps.map slv)/\∀q∈ps,By w (λ_=>True) q.1 q.2
def catB(ps:List (AC×List UInt8)):List UInt8:=ps.flatMap (·.2)
theorem Pa.ext{w w':World}{p:AC}{ps:List (AC×List UInt8)}(h:Pa w p ps)(k:Ext w w'):Pa w' p ps:=⟨Sl.ext h.1 k,λq hq=>(h.2 q hq).ext k⟩
theorem Pa.at_{w:World}{p:AC}{ps:List (AC×List UInt8)}(h:Pa w p ps){k:Nat}(hk:k<ps.length): ∃b o,p.a=some ⟨b,o,none⟩/\w.cell? ⟨b,o+k,none⟩=some (slv ps[k])/\By w (λ_=>True) ps[k].1 ps[k].2:=by
 obtain⟨b,o,e,_,_,hc⟩:=Sl.at_ h.1 (by omega)
 exact⟨b,o,e,hc k _ (by simp[hk]),h.2 _ (List.getElem_mem hk)⟩
theorem zqc(ps:List (AC×List UInt8)){k:Nat}(hk:k<ps.length):catB (ps.take (k+1))=catB (ps.take k)++ps[k].2:=by
 unfold catB
 rw[List.take_add_one,List.flatMap_append,List.getElem?_eq_getElem hk];simp
theorem zw8(ps:List (AC×List UInt8))(k:Nat):(catB (ps.take k)).length<=(catB ps).length:=by
 have h:catB ps=catB (ps.take k)++catB (ps.drop k):=by
  unfold catB;rw[<-List.flatMap_append,List.take_append_drop]
 rw[h,List.length_append];omega
def z3j(ps:List (AC×List UInt8))(s i:Value)(w wr:World):Prop:=
 ∃j:Nat,i= .int .i64 (j:Int)/\j<=ps.length/\s= .int .i64 ((catB (ps.take j)).length:Int)/\Ext w wr
def z3k(ps:List (AC×List UInt8))(s i:Value)(base:Nat)(w wr:World):Prop:=
 ∃(j:Nat) (g:Option Nat),i= .int .i64 (j:Int)/\j<=ps.length/\OwB wr base s (catB (ps.take j)) g/\Ext w wr
set_option maxRecDepth 100000 in
theorem zmi(p:AC)(ps:List (AC×List UInt8))(w:World)(hp:Pa w p ps)(hl:(catB ps).length<=1000000000000):
  Calls Tryz.prog 207 #[.slice p.a ps.length p.c] w (Ret w λw' v=>∃g,OwB w' w.heap.size v (catB ps) g):=by
 have hlen:=Sl.capLe hp.1
 unfold maxLen at hlen
 obtain⟨N,hN⟩: ∃N,N=ps.length:=⟨_,rfl⟩
 have HN:=Lib.hid hN
 have hN63:N<=9223372036854775807:=by omega
 rw[<-hN]
 clear hN hlen
 go_enter Tryz.func207,Tryz.ntmps207
 go_wp2_with fail
 go_loopw [3,11] (λs i wr=>z3j ps s i w wr) (λ_ i _=>N-(intOf i).toNat)
 case atStart=>exact⟨0,rfl,Nat.zero_le _,rfl,Ext.refl _⟩
 case round=>
  obtain⟨j,rfl,e1,rfl,e3⟩:=hrel
  rw[<-HN.out]at e1
  by_cases hj:j<N
  ·have hj':j<ps.length:=by rw[<-HN.out];exact hj
   obtain⟨b,o,hpa,hc,hby⟩:=(hp.ext e3).at_ hj'
   have hcat:=zqc ps hj'
   have hle:=zw8 ps (j+1)
   rw[hcat,List.length_append]at hle
   have hL:(catB (ps.take (j+1))).length=(catB (ps.take j)).length+ps[j].2.length:=by rw[hcat,List.length_append]
   have HLL:=Lib.hid hL
   have hj0:(0:Int)<=(j:Int):=by omega
   have hjN:(j:Int)< (N:Int):=by omega
   generalize ps[j]=q at*
   generalize (catB (ps.take j)).length=A at*
   have hA:A+q.2.length<=1000000000000:=by omega
   rw[hpa]
   clear hpa hcat hle hL hby
   go_wp2_with fail
   go_roundw
   case rel=>exact⟨j+1,by simp,by have:=HN.out;omega,by rw[HLL.out];simp,e3⟩
   case measure=>(first |omega |(simp[intOf];done) |(simp[intOf];omega))
  ·have hjN:j=N:=by omega
   have HJ:=Lib.hid hjN
   have hall:catB (ps.take j)=catB ps:=by rw[hjN,HN.out,List.take_length]
   obtain⟨A,hA⟩: ∃A,A=(catB (ps.take j)).length:=⟨_,rfl⟩
   have hAl:A<=1000000000000:=by rw[hA,hall];exact hl
   rw[<-hA]
   clear hA hall hjN
   go_wp2_with fail
   refine(zxr A _ hAl).mono ?_
   rintro e w1 ⟨v,rfl,hb1,g1,o1⟩
   go_wp2_with fail
   go_loopw [6,27] (λs i wr'=>z3k ps s i wr.heap.size wr wr') (λ_ i _=>N-(intOf i).toNat)
   case atStart=>exact⟨0,g1,rfl,Nat.zero_le _,o1,hb1⟩
   case round=>
    rename_i K0 _
    obtain⟨k,g,rfl,d1,d2,d3⟩:=hrel
    rw[<-HN.out]at d1
    have hf:=e3
    by_cases hk:k<N
    ·have hk':k<ps.length:=by rw[<-HN.out];exact hk
     obtain⟨b,o,hpa,hc,hby⟩:=(hp.ext (hf.trans d3)).at_ hk'
     have hcat:=zqc ps hk'
     have hle:=zw8 ps (k+1)
     rw[hcat,List.length_append]at hle
     have HC:=Lib.hid hcat
     have hk0:(0:Int)<=(k:Int):=by omega
     have hkN:(k:Int)< (N:Int):=by omega
     generalize ps[k]=q at*
     obtain⟨a,c,rfl⟩:=d2.form
     generalize catB (ps.take k)=L at*
     rw[hpa]
     clear hpa hcat
     go_wp2_with (first |(at_builtin;refine zfo ?_))
     refine zfi (zck rfl (.tmp 31) (.tmp 32) rfl rfl d2 rfl rfl hby ?_ ?_ ?_)
     ·omega
     ·have h2:=d3.size;omega
     intro a' c' g' w' r1 r2 r3
     have r4:=d2.grown r2 d3 (Nat.le_refl _)
     go_wp2_with fail
     go_roundw
     case rel=>exact⟨k+1,g',by simp,by have:=HN.out;omega,by rw[HC.out];exact r1,r4⟩
     case measure=>(first |omega |(simp[intOf];done) |(simp[intOf];omega))
    ·have hkN:k=N:=by omega
     have hall:catB (ps.take k)=catB ps:=by rw[hkN,HN.out,List.take_length]
     obtain⟨a,c,rfl⟩:=d2.form
     go_wp2_with fail
     go_ret
     exact⟨_,rfl,hf.trans d3,g,by rw[hall]at d2⊢;exact d2.base_mono e3.size⟩
set_option maxRecDepth 100000 in
theorem zwf(p:AC)(ps:List (AC×List UInt8))(w:World)(hp:Pa w p ps)(hl:(catB ps).length<=100000000000):
  Calls Tryz.prog 106 #[.slice p.a ps.length p.c] w (Ret w λw' v=>∃g,OwB w' w.heap.size v (shaB (catB ps)) g):=by
 go_enter Tryz.func106,Tryz.ntmps106
 go_wp2_with fail
 refine(zmi p ps _ hp (by omega)).mono ?_
 rintro e w1 ⟨v,rfl,x1,g1,o1⟩
 obtain⟨q,rfl,b1⟩:=o1.by_
 go_wp2_with fail
 refine(z50 q (catB ps) _ b1 hl).mono ?_
 rintro e w2 ⟨v,rfl,x2,rfl⟩
 have hs32:((shaB (catB ps)).map bv).toArray.size=32:=by simp[zdg]
 have hone:((shaB (catB ps)).map bv).toArray.all (·.oneCell')=true:=by simp[Value.oneCell']
 obtain⟨cs,hcs⟩: ∃cs,cs=((shaB (catB ps)).map bv).toArray:=⟨_,rfl⟩
 rw[<-hcs]at hs32 hone⊢
 have HC:=Lib.hid hcs
 clear hcs
 iterate 2 first |go_values |go_skip |go_guarded |go_step |go_upon |go_back |go_simp
 refine zbm rfl 306 rfl (some 3) rfl 32 (by kernel_rfl) ?_
 intro w3 Z3 z3 h3 l3 x3
 refine zbx rfl 306 _ _ rfl rfl w2.heap.size cs rfl rfl 306 Z3 h3 (by rw[hs32];kernel_rfl) (by rw[hs32];exact z3) hone ?_
 intro w4 h4 l4 x4
 apply wpList_nil
 have f2:Ext w w2:=x1.trans x2
 have f4:Ext w w4:=(f2.trans x3).grown x4 (λk hk=>by cases hk;exact f2.size)
 have hB:w.heap.size<=w2.heap.size:=f2.size
 generalize w2.heap.size=B at*
 clear x4 l4 l3 h3 x3 x2 x1 f2
 go_wp2_with fail
 go_ret
 refine⟨_,rfl,f4,none,?_⟩
 have hs:=Sl.block (S:=(w.heap.size<= ·)) (sz:=1) (n:=32) (c:=32) h4 hB (by rw[hs32]) (Nat.le_refl _) (by unfold maxLen;omega)
 rw[HC.out]at hs
 unfold OwB
 rw[zdg]
 exact⟨by simp[zdg], .inl ⟨rfl,_,rfl,hs⟩⟩
end
end Go.Proofs.YtlofklpckddkfaaGreat

namespace Go.Proofs.YtlofklpckddkfaaGreat.Sx
open Go.RowKit
section
theorem zxh(n:Int):zab Tryz.prog 173 [I n] (.r (.b (zc5 n))):=
 zgp (us:=[.int .i64 n]) (u:= .bool (zc5 n)) (za2 Tryz.func173 rfl (by kernel_rfl)) (λ_ _ _ h=>zpv h) (λ_ _=>by simp[RV.at_]) λw=>zlr n w
theorem zxl(x:Int):zab Tryz.prog 169 [I x] (.r (I (zf2 x))):=
 zgp (us:=[.int .i64 x]) (u:= .int .i64 (zf2 x)) (za2 Tryz.func169 rfl (by kernel_rfl)) (λ_ _ _ h=>zpv h) (λ_ _=>by simp[RV.at_]) λw=>z1d x w
theorem zt4(x:Int):zab Tryz.prog 170 [I x] (.r (I (ze1 x))):=
 zgp (us:=[.int .i64 x]) (u:= .int .i64 (ze1 x)) (za2 Tryz.func170 rfl (by kernel_rfl)) (λ_ _ _ h=>zpv h) (λ_ _=>by simp[RV.at_]) λw=>zy9 x w
theorem zqp(n:Int):zab Tryz.prog 84 [I n] (.r (I (ziu n))):=
 zgp (us:=[.int .i64 n]) (u:= .int .i64 (ziu n)) (za2 Tryz.func84 rfl (by kernel_rfl)) (λ_ _ _ h=>zpv h) (λ_ _=>by simp[RV.at_]) λw=>z1x n w
theorem zn1(x y:Int):zab Tryz.prog 227 [I x,I y] (.r (.b (zb6 x y))):=
 zgp (us:=[.int .i64 x, .int .i64 y]) (u:= .bool (zb6 x y)) (za2 Tryz.func227 rfl (by kernel_rfl)) (λ_ _ _ h=>z9i h) (λ_ _=>by simp[RV.at_]) λw=>zzn x y w
theorem z0i(l m:List Int)(hl: ∀x∈l,i64 x)(hm: ∀x∈m,i64 x):zab Tryz.prog 261 [is l,is m] (.r (.b (decide (l=m)))):=
 zby (za2 Tryz.func261 rfl (by kernel_rfl)) λw k vs hp=>by
  obtain⟨a,b,rfl,h1,h2⟩:=zez hp
  obtain⟨p,rfl,hp1⟩:=zv7 hl h1
  obtain⟨q,rfl,hq1⟩:=zv7 hm h2
  exact(ztj p q l m w hp1 hq1).mono λ_ _ ⟨v,he,hx,hv⟩=>⟨v,he,hx,k,λ_ _=>rfl,by simp only[Res.at_,RV.at_];exact hv⟩
theorem zgo(l m:List UInt8):zab Tryz.prog 41 [bs l,bs m] (.r (.b (decide (l=m)))):=
 zby (za2 Tryz.func41 rfl (by kernel_rfl)) λw k vs hp=>by
  obtain⟨a,b,rfl,h1,h2⟩:=zez hp
  obtain⟨p,rfl,hp1⟩:=zd7 h1
  obtain⟨q,rfl,hq1⟩:=zd7 h2
  exact(zti p q l m w hp1 hq1).mono λ_ _ ⟨v,he,hx,hv⟩=>⟨v,he,hx,k,λ_ _=>rfl,by simp only[Res.at_,RV.at_];exact hv⟩
theorem zbt(l:List UInt8)(hl:l.length<=8000000000000):zab Tryz.prog 61 [bs l] (bch l):=
 zby (za2 Tryz.func61 rfl (by kernel_rfl)) λw k vs hp=>by
  obtain⟨a,rfl,h1⟩:=zey hp
  obtain⟨p,rfl,hp1⟩:=zd7 h1
  exact(zmc p l w hp1 hl).mono λ_ _ ⟨v,he,hx,_,hv⟩=>⟨v,he,hx,zgh hv⟩
theorem zec(l:List UInt8)(size m:Nat)(hl:l.length<=1000000000000)(hs:size=1\/size=2\/size=4\/size=8):zab Tryz.prog 83 [bs l,I size, .i .u64 m] (bch (l++beB size m)):=
 zby (za2 Tryz.func83 rfl (by kernel_rfl)) λw k vs hp=>by
  obtain⟨a,b,c,rfl,h1,h2,h3⟩:=z8w hp
  obtain⟨p,rfl,hp1⟩:=zd7 h1
  simp only[RV.at_]at h2 h3
  subst h2;subst h3
  exact(zf4 p l size m w hp1 hl hs).mono λ_ _ ⟨v,he,hx,_,hv⟩=>⟨v,he,hx,zgh hv⟩
theorem za6(l m:List UInt8)(hl:l.length<=1000000000000)(hm:m.length<=1073741823):zab Tryz.prog 87 [bs l,bs m] (bch (l++vecB m)):=
 zby (za2 Tryz.func87 rfl (by kernel_rfl)) λw k vs hp=>by
  obtain⟨a,b,rfl,h1,h2⟩:=zez hp
  obtain⟨p,rfl,hp1⟩:=zd7 h1
  obtain⟨q,rfl,hq1⟩:=zd7 h2
  exact(zwk p q l m w hp1 hq1 hl hm).mono λ_ _ ⟨v,he,hx,_,hv⟩=>⟨v,he,hx,zgh hv⟩
end
section
theorem Vcall.bool{P:Program}{f:FuncId}{vs:List RV}{K:Res->Prop}{β:Bool}(hg:zab P f vs (.r (.b β)))(ht:β=true->K (.r (.b true)))(hf:β=false->K (.r (.b false))):Vcall P f vs K:=by
 cases β
 ·exact ze hg (hf rfl)
 ·exact ze hg (ht rfl)
def Leaf.right(l:Leaf):Bool:=decide (l.box.length=32/\l.sign.length=32/\0<l.ident.length/\l.ident.length<=64/\0<l.src.toNat/\l.src.toNat<4/\(l.parent.length=0\/l.src.toNat=3/\l.parent.length=32)/\l.sig.length=64)
theorem zvm(a b:Leaf):zab Tryz.prog 260 [.ag a.c, .ag b.c] (.r (.b (decide (a=b)))):=by
 refine zaa (T:=Tab) mixed Tab_ok Tryz.func260 rfl (by kernel_rfl) ?_
 obtain⟨a1,a2,a3,a4,a5,a6⟩:=a
 obtain⟨b1,b2,b3,b4,b5,b6⟩:=b
 repeat' (first |refine Vcall.bool (zgo _ _) (λh=>?_) (λh=>?_) |refine zh (λh=>?_) (λh=>?_) |refine zf ?_)
 all_goals simp only[zb,Int.natCast_inj,UInt8.toNat_inj]at*
 all_goals simp_all [ofC]
theorem z0j(a b:Node)(ha: ∀x∈a.par.late,i64 x)(hb: ∀x∈b.par.late,i64 x):zab Tryz.prog 155 [.ag a.c, .ag b.c] (.r (.b (decide (a=b)))):=by
 refine zaa (T:=Tab) mixed Tab_ok Tryz.func155 rfl (by kernel_rfl) ?_
 obtain⟨a1,a2,a3⟩:=a
 obtain⟨b1,b2,b3⟩:=b
 refine zh (λh1=>?_) (λh1=>?_)
 ·refine za rfl rfl ?_
  refine za rfl rfl ?_
  refine Vcall.bool (zvm a2 b2) (λh2=>?_) (λh2=>?_)
  ·refine Vcall.bool (zgo _ _) (λh3=>?_) (λh3=>?_)
   ·refine Vcall.bool (zgo _ _) (λh4=>?_) (λh4=>?_)
    ·refine Vcall.bool (z0i _ _ ha hb) (λh5=>?_) (λh5=>?_)
     ·refine zf ?_
      simp only[zb,Int.natCast_inj,UInt8.toNat_inj]at*
      obtain⟨_,_,_⟩:=a3
      obtain⟨_,_,_⟩:=b3
      simp_all [ofC]
     ·refine zf ?_
      simp only[zb,Int.natCast_inj,UInt8.toNat_inj]at*
      simp[ofC]
      intro _ _ e;exact h5 (by rw[e])
    ·refine zf ?_
     simp only[zb,Int.natCast_inj,UInt8.toNat_inj]at*
     simp[ofC]
     intro _ _ e;exact h4 (by rw[e])
   ·refine zf ?_
    simp only[zb,Int.natCast_inj,UInt8.toNat_inj]at*
    simp[ofC]
    intro _ _ e;exact h3 (by rw[e])
  ·refine zf ?_
   simp only[zb,Int.natCast_inj,UInt8.toNat_inj]at*
   simp[ofC,h2]
 ·refine zf ?_
  simp only[zb,Int.natCast_inj,UInt8.toNat_inj]at*
  simp[ofC,h1]
end
section
theorem zbo{ρ:List (Nat×Nat)}{S:St}(v:RV):cvTF ρ S (.r v) (.r v):=by
 cases v<;>first |trivial |exact cr
theorem zae{ρ:List (Nat×Nat)}{S:St}: ∀l:List RV,zeh ρ S (l.map .r) (l.map .r)
 |[]=>rfl
 |v::r=>⟨_,_,rfl,zbo v,zae r⟩
def Leaf.fit(l:Leaf):Prop:=l.box.length<=1000000000/\l.sign.length<=1000000000/\l.ident.length<=1000000000/\l.parent.length<=1000000000/\l.sig.length<=1000000000
def Par.fit(p:Par):Prop:=p.box.length<=1000000000/\p.hash.length<=1000000000/\p.late.length<=100000000/\∀x∈p.late,i64 x
def zg4:Int->List Int->Bool
 |_,[]=>true
 |last,x::r=>decide (last<x/\x<65536)&&zg4 x r
def Par.right(p:Par):Bool:=zg4 (-1) p.late&&decide (p.box.length=32/\(p.hash.length=0\/p.hash.length=32))
def Leaf.none(l:Leaf):Bool:=decide (l.src.toNat=0/\l.box.length=0/\l.sign.length=0/\l.ident.length=0/\l.parent.length=0/\l.sig.length=0)
def Par.none(p:Par):Bool:=decide (p.box.length=0/\p.hash.length=0/\p.late.length=0)
theorem zqm(l:Leaf)(hl:l.fit):zab Tryz.prog 285 [.ag l.c] (.r (.b l.none)):=by
 refine zaa (T:=Tab) mixed Tab_ok Tryz.func285 rfl (by kernel_rfl) ?_
 obtain⟨h1,h2,h3,h4,h5⟩:=hl
 refine zh (λh=>?_) (λh=>?_)
 ·refine zd rfl (by omega) ?_
  refine zd rfl (by omega) ?_
  refine zd rfl (by omega) ?_
  refine zd rfl (by omega) ?_
  refine Vcmp.mk' rfl (zf (congrArg RV.b ?_))
  simp only[Leaf.none,zb]at*
  rw[Bool.eq_iff_iff]
  simp only[zb]at*
  omega
 ·refine zf (congrArg RV.b ?_)
  simp only[Leaf.none,zb]at*
  rw[eq_comm]
  simp only[zb]at*
  omega
theorem zt3(p:Par)(hp:p.fit):zab Tryz.prog 286 [.ag p.c] (.r (.b p.none)):=by
 refine zaa (T:=Tab) mixed Tab_ok Tryz.func286 rfl (by kernel_rfl) ?_
 obtain⟨h1,h2,h3,_⟩:=hp
 refine zd rfl (by omega) ?_
 refine zd rfl (by omega) ?_
 refine Vcmp.mk' rfl (zf (congrArg RV.b ?_))
 simp only[Par.none,zb]at*
 rw[Bool.eq_iff_iff]
 simp only[zb]at*
 omega
theorem zgb(l:Leaf):zab Tryz.prog 215 [.ag l.c] (.r (.b l.right)):=by
 refine zaa (T:=Tab) mixed Tab_ok Tryz.func215 rfl (by kernel_rfl) ?_
 (repeat' (first |refine zh (λh=>?_) (λh=>?_) |refine zf ?_ |refine zp ?_ |refine zq ?_))
 all_goals refine congrArg RV.b (Eq.symm ?_)
 all_goals simp only[Leaf.right,zb]at*
 all_goals omega
theorem z65(p:Par)(hp:p.fit):zab Tryz.prog 287 [.ag p.c] (.r (.b p.right)):=by
 refine zaa (T:=Tab) mixed Tab_ok Tryz.func287 rfl (by kernel_rfl) ?_
 obtain⟨hp1,hp2,hp3,hp4⟩:=hp
 refine zy (λi:Nat×Int=>{F:=[(1, .own 0),(2, .r (.b false)),(3, .r (I i.2)),(7, .r (is p.late)),(8, .r (I p.late.length)),(9, .r (I i.1))],O:=[(0,some (.box (p.c.map .r)))],nx:=1})
  (λi=>i.1<=p.late.length/\zg4 (-1) p.late=zg4 i.2 (p.late.drop i.1)) (λi=>p.late.length-i.1) (0, -1) ⟨by simp,by simp⟩ (zad [(0,0)] rfl ⟨rfl,cr,cr,cr,cr,cr,trivial⟩ ⟨zae _,trivial⟩) ?_
 rintro⟨j,last⟩ ⟨hj,hlate⟩
 simp only at hj hlate
 refine zh (λh=>zp ?_) (λh=>zq ?_)
 ·simp only[zb]at h
  have hj':j<p.late.length:=by omega
  have hx:=hp4 _ (List.getElem_mem hj')
  rw[List.drop_eq_getElem_cons hj']at hlate
  simp only[zg4]at hlate
  refine zm (by omega) (by omega) (zcu rfl hj') (zg rfl ?_)
  refine zh (λh1=>?_) (λh1=>?_)
  ·simp only[zb]at h1
   refine zp (zf (congrArg RV.b (Eq.symm ?_)))
   have: ¬(last<p.late[j]/\p.late[j]<65536):=by omega
   simp[Par.right,hlate,this]
  ·refine zh (λh2=>?_) (λh2=>?_)
   ·simp only[zb]at h2
    refine zp (zf (congrArg RV.b (Eq.symm ?_)))
    have: ¬(last<p.late[j]/\p.late[j]<65536):=by omega
    simp[Par.right,hlate,this]
   ·simp only[zb]at h1 h2
    refine zq ?_
    refine zd (m:=((j+1:Nat):Int)) (by omega) (by omega) ?_
    have:last<p.late[j]/\p.late[j]<65536:=by omega
    rw[decide_eq_true this,Bool.true_and]at hlate
    exact⟨(j+1,p.late[j]),⟨by simp only;omega,hlate⟩,by simp only;omega,zad [(0,0)] rfl ⟨rfl,cr,cr,cr,cr,cr,trivial⟩ ⟨zae _,trivial⟩⟩
 ·simp only[zb]at h
  have:p.late.drop j=[]:=List.drop_eq_nil_of_le (by omega)
  rw[this]at hlate
  simp only[zg4]at hlate
  (repeat' (first |refine zh (λh=>?_) (λh=>?_) |refine zf ?_ |refine zp ?_ |refine zq ?_))
  all_goals refine congrArg RV.b (Eq.symm ?_)
  all_goals simp only[Par.right,hlate,Bool.true_and,zb]at*
  all_goals omega
end
section
def Node.fit(n:Node):Prop:=n.leaf.fit/\n.par.fit
def Node.right(n:Node):Bool:=
 if n.kind.toNat=0 then n.leaf.none&&n.par.none else if n.kind.toNat=1 then n.leaf.right&&n.par.none else if n.kind.toNat=2 then n.leaf.none&&n.par.right else false
def zbj(l:Leaf):List UInt8:=vecB l.box++vecB l.sign++vecB l.ident++[l.src]++(if l.src.toNat=3 then vecB l.parent else[])
def zdw(l:List Int):List UInt8:=l.flatMap λx=>beB 4 x.toNat
def parB(p:Par):List UInt8:=vecB p.box++vecB p.hash++vecB (zdw p.late)
def zeu(n:Node):List UInt8:=if n.kind.toNat=1 then 1::(zbj n.leaf++vecB n.leaf.sig)else if n.kind.toNat=2 then 2::parB n.par else[0]
theorem z0f(n:Node)(hn:n.fit):zab Tryz.prog 178 [.ag n.c] (.r (.b n.right)):=by
 refine zaa (T:=Tab) mixed Tab_ok Tryz.func178 rfl (by kernel_rfl) ?_
 refine zh (λh0=>zp ?_) (λh0=>zq ?_)
 ·simp only[zb]at h0
  have h0':n.kind.toNat=0:=by omega
  refine za rfl rfl (Vcall.bool (zqm n.leaf hn.1) (λh=>za rfl rfl (ze (zt3 n.par hn.2) (zf ?_))) (λh=>zf ?_))
  ·simp[Node.right,h0',h]
  ·simp[Node.right,h0',h,ofC]
 ·simp only[zb]at h0
  have h0':n.kind.toNat≠0:=by omega
  refine zh (λh1=>zp ?_) (λh1=>zq ?_)
  ·simp only[zb]at h1
   have h1':n.kind.toNat=1:=by omega
   refine za rfl rfl (Vcall.bool (zgb n.leaf) (λh=>za rfl rfl (ze (zt3 n.par hn.2) (zf ?_))) (λh=>zf ?_))
   ·simp[Node.right,h1',h]
   ·simp[Node.right,h1',h,ofC]
  ·simp only[zb]at h1
   have h1':n.kind.toNat≠1:=by omega
   refine zh (λh2=>zp ?_) (λh2=>zq ?_)
   ·simp only[zb]at h2
    have h2':n.kind.toNat=2:=by omega
    refine za rfl rfl (Vcall.bool (zqm n.leaf hn.1) (λh=>za rfl rfl (ze (z65 n.par hn.2) (zf ?_))) (λh=>zf ?_))
    ·simp[Node.right,h2',h]
    ·simp[Node.right,h2',h,ofC]
   ·simp only[zb]at h2
    have h2':n.kind.toNat≠2:=by omega
    refine zf ?_
    simp[Node.right,h0',h1',h2',ofC]
theorem Cvs.of_eq{cs ds:List RV}(h:cs=ds):Cvs cs ds:=h▸zn cs
theorem cvCh{ρ:List (Nat×Nat)}{S:St}{e:TypeId}{l m:List UInt8}(h:l=m):cvOw ρ S (.ch e 1 l.length (l.map U8) true) (.ch e 1 m.length (m.map U8) true):=by
 subst h
 exact⟨rfl,rfl,rfl,rfl,zn _⟩
theorem zfx{e:TypeId}{l m:List UInt8}(h:l=m):some (Ow.ch e 1 l.length (l.map U8) true)=some (Ow.ch e 1 m.length (m.map U8) true):=by rw[h]
def z86(b:List UInt8)(l:Leaf):Nat->St
 |0=>{F:=[(0, .r (bs b)),(3, .own 0),(13, .own 1),(14, .r (I 3)),(15, .r (I 0))],O:=[(0,some (.box (l.c.map .r))),(1,some (.ch 22 1 3 [bs l.box,bs l.sign,bs l.ident] true))],nx:=2}
 |j+1=>{F:=[(0, .own 2),(3, .own 0),(13, .own 1),(14, .r (I 3)),(15, .r (I ((j+1:Nat):Int)))],O:=[(0,some (.box (l.c.map .r))),(1,some (.ch 22 1 3 [bs l.box,bs l.sign,bs l.ident] true)),
   (2,some (.ch 5 1 (b++([l.box,l.sign,l.ident].take (j+1)).flatMap vecB).length ((b++([l.box,l.sign,l.ident].take (j+1)).flatMap vecB).map U8) true))],nx:=3}
theorem zh8(b:List UInt8)(l:Leaf)(hb:b.length<=1000000000)(hl:l.fit):zab Tryz.prog 179 [bs b, .ag l.c] (bch (b++zbj l)):=by
 refine zaa (T:=Tab) mixed Tab_ok Tryz.func179 rfl (by kernel_rfl) ?_
 obtain⟨h1,h2,h3,h4,h5⟩:=hl
 have v1:=zal l.box
 have v2:=zal l.sign
 have v3:=zal l.ident
 refine zw ?_
 refine zy (z86 b l) (λj=>j<=3) (λj=>3-j) 0 (by omega) (zad [(0,0),(1,1)] rfl ⟨cr,rfl,rfl,cr,cr,trivial⟩ ⟨zae _,⟨rfl,rfl,rfl,rfl,zn _⟩,trivial⟩) ?_
 intro j hj
 rcases(by omega:j=0\/j=1\/j=2\/j=3)with rfl |rfl |rfl |rfl
 ·refine zt rfl (zp ?_)
  refine zm (by decide) (by decide) rfl (zg rfl ?_)
  refine ze (za6 b l.box (by omega) (by omega)) ?_
  refine zd (m:=((1:Nat):Int)) rfl (by decide) ?_
  exact⟨1,by omega,by omega,zad [(0,0),(1,1),(2,2)] rfl ⟨rfl,rfl,rfl,cr,cr,trivial⟩ ⟨zae _,⟨rfl,rfl,rfl,rfl,zn _⟩,cvCh (by simp),trivial⟩⟩
 ·refine zt rfl (zp ?_)
  refine zm (by decide) (by decide) rfl (zg rfl ?_)
  refine ze (za6 (b++([l.box,l.sign,l.ident].take 1).flatMap vecB) l.sign (by simp;omega) (by omega)) ?_
  refine zd (m:=((2:Nat):Int)) rfl (by decide) ?_
  exact⟨2,by omega,by omega,zad [(0,0),(1,1),(2,3)] rfl ⟨rfl,rfl,rfl,cr,cr,trivial⟩ ⟨zae _,⟨rfl,rfl,rfl,rfl,zn _⟩,cvCh (by simp),trivial⟩⟩
 ·refine zt rfl (zp ?_)
  refine zm (by decide) (by decide) rfl (zg rfl ?_)
  refine ze (za6 (b++([l.box,l.sign,l.ident].take 2).flatMap vecB) l.ident (by simp;omega) (by omega)) ?_
  refine zd (m:=((3:Nat):Int)) rfl (by decide) ?_
  exact⟨3,by omega,by omega,zad [(0,0),(1,1),(2,3)] rfl ⟨rfl,rfl,rfl,cr,cr,trivial⟩ ⟨zae _,⟨rfl,rfl,rfl,rfl,zn _⟩,cvCh (by simp),trivial⟩⟩
 ·refine zu rfl (zq ?_)
  refine zw ?_
  refine Vapp.mk' (j:=(b++([l.box,l.sign,l.ident].take 3).flatMap vecB++[l.src]).length) (zs:=(b++([l.box,l.sign,l.ident].take 3).flatMap vecB++[l.src]).map U8) (by simp[maxLen];omega) (by simp;omega) (by simp;omega) (by simp[zdp,cellsOf]) ?_
  refine zh (λhs=>zp ?_) (λhs=>zq ?_)
  ·simp only[zb]at hs
   have hs':l.src.toNat=3:=by omega
   refine ze (za6 (b++([l.box,l.sign,l.ident].take 3).flatMap vecB++[l.src]) l.parent (by simp;omega) (by omega)) ?_
   have e:b++([l.box,l.sign,l.ident].take 3).flatMap vecB++[l.src]++vecB l.parent=b++zbj l:=by simp[zbj,hs']
   exact zfx e
  ·simp only[zb]at hs
   have hs':l.src.toNat≠3:=by omega
   have e:b++([l.box,l.sign,l.ident].take 3).flatMap vecB++[l.src]=b++zbj l:=by simp[zbj,hs']
   exact zfx e
theorem zg3: ∀l:List Int,(zdw l).length=4*l.length
 |[]=>rfl
 |x::r=>by
  have:=zg3 r
  simp only[zdw,List.flatMap_cons,List.length_append,List.length_cons]at*
  rw[zay,this];omega
def z9s(b:List UInt8)(p:Par):Nat->St
 |0=>{F:=[(0, .r (bs b)),(3, .own 0),(5, .r (bs [])),(9, .r (is p.late)),(10, .r (I p.late.length)),(11, .r (I ((0:Nat):Int)))],O:=[(0,some (.box (p.c.map .r)))],nx:=1}
 |j+1=>{F:=[(0, .r (bs b)),(3, .own 0),(5, .own 1),(9, .r (is p.late)),(10, .r (I p.late.length)),(11, .r (I ((j+1:Nat):Int)))],O:=[(0,some (.box (p.c.map .r))),
   (1,some (.ch 5 1 (zdw (p.late.take (j+1))).length ((zdw (p.late.take (j+1))).map U8) true))],nx:=2}
theorem zi8(x:Int)(h:0<=x/\x<65536):IntKind.u64.wrap x=((x.toNat:Nat):Int):=by
 unfold IntKind.wrap
 simp only[IntKind.bits,IntKind.signed]
 simp
 omega
theorem zvl(b:List UInt8)(p:Par)(hb:b.length<=1000000000)(hp:p.fit)(hr: ∀x∈p.late,0<=x/\x<65536):zab Tryz.prog 180 [bs b, .ag p.c] (bch (b++parB p)):=by
 refine zaa (T:=Tab) mixed Tab_ok Tryz.func180 rfl (by kernel_rfl) ?_
 obtain⟨h1,h2,h3,_⟩:=hp
 have hll:=zg3 p.late
 refine zy (z9s b p) (λj=>j<=p.late.length) (λj=>p.late.length-j) 0 (by omega) (zad [(0,0)] rfl ⟨cr,rfl,Cv.nil _,cr,cr,cr,trivial⟩ ⟨zae _,trivial⟩) ?_
 have vd1:=zal p.box
 have vd2:=zal p.hash
 have hstep: ∀j (hj:j<p.late.length),zdw (p.late.take j)++beB 4 (p.late[j].toNat)=zdw (p.late.take (j+1)):=λj hj=>by
  rw[List.take_add_one,List.getElem?_eq_getElem hj]
  simp only[zdw,Option.toList,List.flatMap_append,List.flatMap_cons,List.flatMap_nil,List.append_nil]
 have hlen: ∀j,j<=p.late.length->(zdw (p.late.take j)).length=4*j:=λj hj=>by rw[zg3,List.length_take];omega
 intro j hj
 rcases j with _ |j
 ·refine zh (λh=>zp ?_) (λh=>zq ?_)
  ·simp only[zb]at h
   have hj':0<p.late.length:=by omega
   refine zm (by omega) (by omega) (zcu rfl hj') (zg rfl ?_)
   refine⟨((p.late[0].toNat:Nat):Int),(zi8 _ (hr _ (List.getElem_mem hj'))).symm,?_⟩
   refine ze (zec [] 4 p.late[0].toNat (by simp) (by omega)) ?_
   refine zd (m:=((0+1:Nat):Int)) (by omega) (by omega) ?_
   exact⟨0+1,hj',by omega,zad [(0,0),(1,1)] rfl ⟨cr,rfl,rfl,cr,cr,cr,trivial⟩ ⟨zae _,cvCh (hstep 0 hj'),trivial⟩⟩
  ·simp only[zb]at h
   have e:p.late=[]:=List.eq_nil_of_length_eq_zero (by omega)
   refine Vdraw.mk' (by kernel_rfl) ?_
   refine ze (za6 b p.box (by omega) (by omega)) ?_
   refine ze (za6 (b++vecB p.box) p.hash (by simp;omega) (by omega)) ?_
   refine ze (za6 (b++vecB p.box++vecB p.hash) [] (by simp;omega) (by simp)) ?_
   exact zfx (by simp[parB,e,zdw])
 ·refine zh (λh=>zp ?_) (λh=>zq ?_)
  ·simp only[zb]at h
   have hj':j+1<p.late.length:=by omega
   refine zm (by omega) (by omega) (zcu rfl hj') (zg rfl ?_)
   refine⟨((p.late[j+1].toNat:Nat):Int),(zi8 _ (hr _ (List.getElem_mem hj'))).symm,?_⟩
   refine ze (zec (zdw (p.late.take (j+1))) 4 p.late[j+1].toNat (by rw[hlen _ hj];omega) (by omega)) ?_
   refine zd (m:=((j+1+1:Nat):Int)) (by omega) (by omega) ?_
   exact⟨j+1+1,hj',by omega,zad [(0,0),(1,2)] rfl ⟨cr,rfl,rfl,cr,cr,cr,trivial⟩ ⟨zae _,cvCh (hstep (j+1) hj'),trivial⟩⟩
  ·simp only[zb]at h
   have e:p.late.take (j+1)=p.late:=List.take_of_length_le (by omega)
   refine Vdraw.mk' (by kernel_rfl) ?_
   refine ze (za6 b p.box (by omega) (by omega)) ?_
   refine ze (za6 (b++vecB p.box) p.hash (by simp;omega) (by omega)) ?_
   refine ze (za6 (b++vecB p.box++vecB p.hash) (zdw (p.late.take (j+1))) (by simp;omega) (by rw[e,hll];omega)) ?_
   exact zfx (by simp[parB,e])
theorem zq4: ∀(l:List Int) (a:Int), -1<=a->zg4 a l=true->∀x∈l,0<=x/\x<65536
 |[],_,_,_=>λx hx=>by cases hx
 |y::r,a,ha,h=>λx hx=>by
  simp only[zg4,Bool.and_eq_true,decide_eq_true_eq]at h
  rcases List.mem_cons.1 hx with rfl |hx
  ·omega
  ·exact zq4 r y (by omega) h.2 x hx
theorem Par.right_bd{p:Par}(h:p.right=true): ∀x∈p.late,0<=x/\x<65536:=by
 simp only[Par.right,Bool.and_eq_true]at h
 exact zq4 _ _ (by omega) h.1
theorem Cv.tu{l m:List RV}(h:Cvs l m):Cv (.tu l) (.tu m):=λw k v hv=>by
 simp only[RV.at_]at*
 obtain⟨us,e,hp⟩:=hv
 exact⟨us,e,h.at_ hp⟩
theorem zlu(n:Node)(hn:n.fit):zab Tryz.prog 86 [.ag n.c] (.r (if n.right then .tu [bs (zeu n), .i .u8 0]else .tu [bs [], .i .u8 3])):=by
 refine zaa (T:=Tab) mixed Tab_ok Tryz.func86 rfl (by kernel_rfl) ?_
 refine za rfl rfl ?_
 refine Vcall.bool (z0f n hn) (λhr=>?_) (λhr=>?_)
 ·refine zu rfl (zq ?_)
  refine zw ?_
  obtain⟨⟨l1,l2,l3,l4,l5⟩,hpf⟩:=hn
  have w1:=zal n.leaf.box
  have w2:=zal n.leaf.sign
  have w3:=zal n.leaf.ident
  have w4:=zal n.leaf.parent
  refine zh (λh1=>zp ?_) (λh1=>zq ?_)
  ·simp only[zb]at h1
   have h1':n.kind.toNat=1:=by omega
   have hk:n.kind=1:=UInt8.toNat_inj.1 h1'
   refine Vdraw.mk' (by kernel_rfl) ?_
   refine za rfl rfl ?_
   refine ze (zh8 [n.kind] n.leaf (by simp) ⟨l1,l2,l3,l4,l5⟩) ?_
   have hlen:([n.kind]++zbj n.leaf).length<=1000000000000:=by
    simp only[zbj,List.length_append,List.length_cons,List.length_nil]
    split<;>simp<;>omega
   refine ze (za6 ([n.kind]++zbj n.leaf) n.leaf.sig hlen (by omega)) ?_
   refine⟨_,rfl,zf ?_⟩
   rw[if_pos hr,zeu,if_pos h1',hk]
   rfl
  ·simp only[zb]at h1
   have h1':n.kind.toNat≠1:=by omega
   refine zh (λh2=>zp ?_) (λh2=>zq ?_)
   ·simp only[zb]at h2
    have h2':n.kind.toNat=2:=by omega
    have hk:n.kind=2:=UInt8.toNat_inj.1 h2'
    have hb: ∀x∈n.par.late,0<=x/\x<65536:=by
     have:n.par.right=true:=by
      have:=hr
      simp[Node.right,h2']at this
      exact this.2
     exact Par.right_bd this
    refine za rfl rfl ?_
    refine ze (zvl [n.kind] n.par (by simp) hpf hb) ?_
    refine⟨_,rfl,zf ?_⟩
    rw[if_pos hr,zeu,if_neg h1',if_pos h2',hk]
    rfl
   ·simp only[zb]at h2
    have h2':n.kind.toNat≠2:=by omega
    have h0:n.kind.toNat=0:=by
     have:=hr
     simp only[Node.right,if_neg h1',if_neg h2']at this
     split at this
     ·assumption
     ·cases this
    have hk:n.kind=0:=UInt8.toNat_inj.1 h0
    refine⟨_,rfl,zf ?_⟩
    rw[if_pos hr,zeu,if_neg h1',if_neg h2',hk]
    rfl
 ·refine zt rfl (zp ?_)
  refine⟨_,rfl,?_⟩
  rw[hr]
  exact Cv.tu (zk (Cv.nil 1) (zn _))
end
section
theorem zw3(l:Leaf)(hl:l.fit):(zbj l).length<=5000000000:=by
 obtain⟨l1,l2,l3,l4,l5⟩:=hl
 have w1:=zal l.box
 have w2:=zal l.sign
 have w3:=zal l.ident
 have w4:=zal l.parent
 simp only[zbj,List.length_append,List.length_cons,List.length_nil]
 split<;>simp<;>omega
end
section
def zjn(i:Int)(n:Node):List UInt8:=1::(beB 4 i.toNat++zeu n)
theorem zru(n:Node)(hn:n.fit):(zeu n).length<=10000000000:=by
 have w2:=zw3 n.leaf hn.1
 have w3:=zal n.leaf.sig
 obtain⟨hl,h1,h2,h3,_⟩:=id hn
 obtain⟨_,_,_,_,l5⟩:=id hl
 have hll:=zg3 n.par.late
 have vd1:=zal n.par.box
 have vd2:=zal n.par.hash
 have w4:=zal (zdw n.par.late)
 unfold zeu parB
 split
 ·simp;omega
 ·split
  ·simp;omega
  ·simp
theorem zvk(i:Int)(n:Node)(hn:n.fit):zab Tryz.prog 235 [I i, .ag n.c] (.r (if i<0\/65536<=i then .tu [bs [], .i .u8 1]else if n.right=false\/n.kind.toNat=2 then .tu [bs [], .i .u8 3]else .tu [bs (zjn i n), .i .u8 0])):=by
 refine zaa (T:=Tab) mixed Tab_ok Tryz.func235 rfl (by kernel_rfl) ?_
 have hnl:=zru n hn
 have nil1: ∀(c:Int),Cv (.tu [ofC (.slice none 0 0), .i .u8 c]) (.tu [bs [], .i .u8 c]):=λc=>Cv.tu (zk (Cv.nil 1) (zn _))
 refine zh (λh1=>zp ?_) (λh1=>?_)
 ·simp only[zb]at h1
  refine⟨_,rfl,?_⟩
  rw[if_pos (.inl h1)]
  exact nil1 1
 ·refine zh (λh2=>zp ?_) (λh2=>zq ?_)
  ·simp only[zb]at h1 h2
   refine⟨_,rfl,?_⟩
   rw[if_pos (.inr (by omega))]
   exact nil1 1
  ·simp only[zb]at h1 h2
   rw[if_neg (show¬(i<0\/65536<=i)by omega)]
   refine za rfl rfl ?_
   refine ze (zlu n hn) ?_
   cases hr:n.right with
   |false=>
    refine zt rfl (zp ?_)
    refine⟨_,rfl,?_⟩
    rw[if_pos (.inl rfl)]
    exact nil1 3
   |true=>
    refine zu rfl ?_
    refine zh (λh3=>zp ?_) (λh3=>zq ?_)
    ·simp only[zb]at h3
     refine⟨_,rfl,?_⟩
     rw[if_pos (.inr (by omega))]
     exact nil1 3
    ·simp only[zb]at h3
     refine zw ?_
     refine⟨((i.toNat:Nat):Int),(zi8 _ (by omega)).symm,?_⟩
     refine ze (zec [1] 4 i.toNat (by simp) (by omega)) ?_
     refine Vapp.mk' (j:=([1]++beB 4 i.toNat++zeu n).length) (zs:=([1]++beB 4 i.toNat++zeu n).map U8) (by simp[maxLen,zay];omega) (by simp[zay];omega) (by simp;omega) (by simp) ?_
     refine⟨_,rfl,zf ?_⟩
     rw[if_neg (by simp;omega)]
     rfl
end
section
def Node.zero:Node:=⟨0,⟨[],[],[],0,[],[]⟩,⟨[],[],[]⟩⟩
def zc:List RV:=[.i .u8 0, .x (.slice none 0 0), .x (.slice none 0 0), .x (.slice none 0 0), .i .u8 0, .x (.slice none 0 0), .x (.slice none 0 0), .x (.slice none 0 0), .x (.slice none 0 0), .x (.slice none 0 0)]
theorem Cv.ag{l m:List RV}(h:Cvs l m):Cv (.ag l) (.ag m):=λw k v hv=>by
 simp only[RV.at_]at*
 obtain⟨us,e,hp⟩:=hv
 exact⟨us,e,h.list hp⟩
theorem z6g:Cv (.ag zc) (.ag Node.zero.c):=Cv.ag (zk (cr) (zk (Cv.nil 1) (zk (Cv.nil 1) (zk (Cv.nil 1) (zk (cr) (zk (Cv.nil 1) (zk (Cv.nil 1) (zk (Cv.nil 1) (zk (Cv.nil 1) (zk (Cv.nil 1) Cvs.nil))))))))))
def za1(l:List Spot)(x:Int):Option Node:=(l.find? λs=>decide (s.at_=x)).map (·.node)
theorem zic{l:List Spot}{i:Int}{j:Nat}(h:i=j)(hj:j<l.length):((l.flatMap Spot.c).drop (i.toNat*11)).take 11=l[j].c:=zgq (f:=Spot.c) (sz:=11) (λ_=>rfl) h hj
theorem zid{l:List Stub}{i:Int}{j:Nat}(h:i=j)(hj:j<l.length):((l.flatMap Stub.c).drop (i.toNat*2)).take 2=l[j].c:=zgq (f:=Stub.c) (sz:=2) (λ_=>rfl) h hj
end
section
theorem Sub.trans{S S' S'':St}(h:Sub S S')(h':Sub S' S''):Sub S S'':=λB N a w k hs=>by
 obtain⟨k',hs'⟩:=h B N a w k hs
 exact h' B N a w k' hs'
theorem zzj{S:St}(t:Nat)(e:TypeId)(sz:Nat)(hf:fget S.F t=some (.r (.x (.slice none 0 0)))):Sub S {F:=(t, .own S.nx)::S.F,O:=(S.nx,some (.ch e sz 0 [] true))::S.O,nx:=S.nx+1}:=by
 rintro B N a w k ⟨g,hs⟩
 have hv:=(hs.facts t _ hf).2
 simp only[TF.at_,RV.at_]at hv
 have hlt:t<a.tmps.size:=by
  rcases Nat.lt_or_ge t a.tmps.size with h |h
  ·exact h
  ·rw[Array.getD_eq_getD_getElem?,Array.getElem?_eq_none h]at hv
   simp[undef]at hv
 have h:=hs.adopt (dst:=some t) (λd hd=>by cases hd;rw[<-hs.size];exact hlt) (o:= .ch e sz 0 [] true) (vb:=(.slice none 0 0,none)) trivial ⟨by simp, .inl ⟨rfl, .inl ⟨rfl,none,rfl⟩⟩⟩ (λb hb=>by cases hb) (λi o' b _ hb=>by cases hb)
 have e1:a.put (some t) (.slice none 0 0)=a:=by
  simp only[Act.put]
  have:a.tmps.setIfInBounds t (.slice none 0 0)=a.tmps:=by
   apply Array.ext
   ·simp
   ·intro i h1 h2
    by_cases hi:t=i
    ·subst hi
     rw[Array.getElem_setIfInBounds_self]
     rw[Array.getD_eq_getD_getElem?,Array.getElem?_eq_getElem hlt]at hv
     exact hv.symm
    ·rw[Array.getElem_setIfInBounds_ne _ hi]
  rw[this]
 rw[e1]at h
 exact⟨k,_,h⟩
def z1q(n:Node)(l r:List UInt8):List UInt8:=2::(zeu n++vecB l++vecB r)
def ins(x:Int):List Int->List Int
 |[]=>[x]
 |y::r=>if x<y then x::y::r else if x=y then y::r else y::ins x r
def rise(l:List Int):List Int:=l.foldr ins []
end
section
def bss(ls:List (List UInt8)):RV:= .sl 1 ls.length (ls.map bs)
theorem zup{w:World}{k:Kp}: ∀{ls:List (List UInt8)} {us:List Value},RV.listAt w k (ls.map bs) us->∃ps:List (AC×List UInt8),ps.map (·.2)=ls/\us=ps.map slv/\∀q∈ps,By w (λ_=>True) q.1 q.2
 |[],us,h=>by simp only[List.map_nil,RV.listAt]at h;exact⟨[],rfl,h,by simp⟩
 |l::ls,us,h=>by
  simp only[List.map_cons,RV.listAt]at h
  obtain⟨u,r,rfl,_,h1,h2⟩:=h
  obtain⟨p,rfl,hp⟩:=zd7 h1
  obtain⟨ps,e1,e2,e3⟩:=zup h2
  refine⟨(p,l)::ps,by simp[e1],by simp[e2,slv],λq hq=>?_⟩
  rcases List.mem_cons.1 hq with rfl |hq
  ·exact hp
  ·exact e3 q hq
theorem z3a{w:World}{k:Kp}{ls:List (List UInt8)}{v:Value}(h:(bss ls).at_ w k v): ∃(p:AC) (ps:List (AC×List UInt8)),v= .slice p.a ps.length p.c/\Pa w p ps/\catB ps=ls.flatMap id:=by
 simp only[bss,RV.at_]at h
 obtain⟨p,c,rfl,c1,c2,c3,c4⟩:=h
 rcases Nat.eq_zero_or_pos ls.length with h0 |hpos
 ·obtain rfl:=List.eq_nil_of_length_eq_zero h0
  exact⟨⟨p,c⟩,[],rfl,⟨⟨by simp,by simp,c2,λh=>by simp at h⟩,by simp⟩,rfl⟩
 ·obtain⟨b,o,rfl,hb,hc⟩:=c4 hpos
  obtain⟨us,q1,q2,q3⟩:=RV.cells_list _ _ hc
  obtain⟨ps,e1,e2,e3⟩:=zup q1
  have hlen:ps.length=ls.length:=by rw[<-e1];simp
  exact⟨⟨_,c⟩,ps,by rw[hlen],⟨⟨by simp,by rw[hlen];exact c1,c2,λ_=>⟨b,o,rfl,trivial,hb,λj u hu=>q3 j u (by rw[e2];exact hu)⟩⟩,e3⟩,by rw[<-e1];simp[catB,List.flatMap_map]⟩
theorem zkk(ls:List (List UInt8))(hl:(ls.flatMap id).length<=100000000000):zab Tryz.prog 106 [bss ls] (bch (shaB (ls.flatMap id))):=
 zby (za2 Tryz.func106 rfl (by kernel_rfl)) λw k vs hp=>by
  obtain⟨a,rfl,h1⟩:=zey hp
  obtain⟨p,ps,rfl,hpa,hcat⟩:=z3a h1
  refine(zwf p ps w hpa (by rw[hcat];exact hl)).mono λ_ _ ⟨v,he,hx,_,hv⟩=>⟨v,he,hx,?_⟩
  rw[hcat]at hv
  exact zgh hv
theorem zgm(ls:List (List UInt8))(hl:(ls.flatMap id).length<=1000000000000):zab Tryz.prog 207 [bss ls] (bch (ls.flatMap id)):=
 zby (za2 Tryz.func207 rfl (by kernel_rfl)) λw k vs hp=>by
  obtain⟨a,rfl,h1⟩:=zey hp
  obtain⟨p,ps,rfl,hpa,hcat⟩:=z3a h1
  refine(zmi p ps w hpa (by rw[hcat];exact hl)).mono λ_ _ ⟨v,he,hx,_,hv⟩=>⟨v,he,hx,?_⟩
  rw[hcat]at hv
  exact zgh hv
end
section
def zl:Leaf:=⟨[],[],[],0,[],[]⟩
def zf7(l:List Stub)(x:Int):List UInt8:=((l.find? λs=>decide (s.at_=x)).map (·.hash)).getD []
end
section
theorem ziz:Tryz.prog.underlying 3=some (.int .i64):=by kernel_rfl
theorem zhz:Tryz.prog.underlying 154=some (.map 3 173):=by kernel_rfl
theorem zl7:Tryz.prog.underlying 155=some (.map 3 22):=by kernel_rfl
def zbd(l:List Spot):List (Int×RV):=l.map λs=>(s.at_,RV.ag s.node.c)
def zbg(l:List Stub):List (Int×RV):=l.map λs=>(s.at_,bs s.hash)
end
end Go.Proofs.YtlofklpckddkfaaGreat.Sx
