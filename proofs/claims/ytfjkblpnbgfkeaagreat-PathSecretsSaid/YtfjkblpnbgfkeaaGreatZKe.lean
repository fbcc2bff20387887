import Derived.Test.YtfjkblpnbgfkeaaGreatZShaZ
import Derived.Lib.AppendZerosOnto
import Derived.Test.YtfjkblpnbgfkeaaGreatZWireB
import Derived.Test.YtfjkblpnbgfkeaaGreatZWalkW
import Derived.Test.YtfjkblpnbgfkeaaGreatZRow
namespace Go.Proofs.YtfjkblpnbgfkeaaGreat
open Go.RowKit
set_option linter.unusedVariables false
section
theorem zug{P:Program}{ops:Array Oper}{rest:List Oper}{o:Oper}{a:Act}{w:World}{Q:Exit->Act->World->Prop}(hgd:o.guard=none)(s x:Operand)(t u:TypeId)
  (ho:o.op= .call {callee:= .builtin .append,args:= #[s,x],argTypes:= #[t,u]}) {v y v':Value} {w':World} (hs:a.eval s=v) (hx:a.eval x=y)
  (hr:(Builtin.append_ #[t,u] o.type #[v,y]).run P w= .ok v' w') (h:wpList P ops Q rest (a.put o.dst v') w'):wpList P ops Q (o::rest) a w:=by
 refine wpList_plain hgd λK hK=>?_
 unfold Oper.wp execOp
 simp only[ho,resolve,invoke,builtin,Sem.run_bind,Sem.run_pure,Result.andThen_ok,List.map_toArray,List.map_cons,List.map_nil,hs,hx,hr]
 exact hK _ _ h
set_option maxRecDepth 100000 in
theorem z3u(n:Nat)(w:World)(hn:n<=1000000000000):
  Calls Tryz.prog 186 #[.slice none 0 0, .int .i64 (n:Int)] w (Ret w λw' v=>∃g,OwB w' w.heap.size v [] g):=by
 rcases Nat.eq_zero_or_pos n with rfl |hpos
 ·go_enter Tryz.func186,Tryz.ntmps186
  go_wp2_with fail
  go_ret
  exact⟨_,rfl,(by(repeat (first |exact Ext.refl _ |refine Ext.drew ?_ |refine Ext.drewN ?_ _ |refine Ext.alloc ?_ _ |(refine Ext.setCell ?_ (by first |omega |(simp;done) |(simp;omega)) _) |refine Ext.trans ?_ (by assumption)))),none,OwB.nil _ _⟩
 ·obtain⟨i0,hi,hz0,hz1,hz2⟩:=info_parts Tryz.infoU8
  have hr:=λty=>Lib.run_append_grow_zeros w 22 3 ty 5 i0 (.int .u8 0) .i64 .i64 Tryz.underlying22 Tryz.underlying3 hi hz0 none 0 0 [] (run_firstCells_none w.drew i0.size 0 0 0) n hpos (by rw[hz1];decide) (by omega) (by omega) (by rw[hz2];omega) (growslice_fits (by omega) (by rw[hz2];omega))
  simp only[Nat.zero_add]at hr
  have hge:=grownCap_ge w n 0 5
  have hle:=grownCap_le_maxLen w n 0 5 (by unfold maxLen;omega)
  have hcs:((([]:List Value).toArray++Builtin.zeroCells (Value.int .u8 0).cells n++Builtin.zeroCells (Value.int .u8 0).cells (grownCap w n 0 5-n))).size=grownCap w n 0 5:=by
   simp only[Array.size_append,List.size_toArray,size_zeroCells,show(Value.int IntKind.u8 0).cells.size=1 from rfl]
   simp only[List.length_nil];omega
  generalize grownCap w n 0 5=G at*
  generalize ([]:List Value).toArray++Builtin.zeroCells (Value.int .u8 0).cells n++Builtin.zeroCells (Value.int .u8 0).cells (G-n)=cs at*
  unfold maxLen at hle
  go_enter Tryz.func186,Tryz.ntmps186
  go_wp2_with (first |(at_builtin;refine zc5 ?_))
  refine zc3 (zug rfl (.tmp 20) (.tmp 21) _ _ rfl rfl rfl (hr _) ?_)
  clear hr
  go_wp2_with fail
  go_ret
  refine⟨_,rfl,(by(repeat (first |exact Ext.refl _ |refine Ext.drew ?_ |refine Ext.drewN ?_ _ |refine Ext.alloc ?_ _ |(refine Ext.setCell ?_ (by first |omega |(simp;done) |(simp;omega)) _) |refine Ext.trans ?_ (by assumption)))),some w.heap.size,?_⟩
  exact⟨by simp, .inr ⟨w.heap.size,G,cs,rfl,rfl,Nat.le_refl _,heap_alloc_new w.drew _,Nat.zero_le _,by unfold maxLen;omega,by simpa using hcs,by simp⟩⟩
abbrev slv(q:AC×List UInt8):Value:= .slice q.1.a q.2.length q.1.c
def Pa(w:World)(p:AC)(ps:List (AC×List UInt8)):Prop:=Sl w (λ_=>True) 1 p ps.length (ps.map slv)/\∀q∈ps,By w (λ_=>True) q.1 q.2
def catB(ps:List (AC×List UInt8)):List UInt8:=ps.flatMap (·.2)
theorem Pa.ext{w w':World}{p:AC}{ps:List (AC×List UInt8)}(h:Pa w p ps)(k:Ext w w'):Pa w' p ps:=⟨Sl.ext h.1 k,λq hq=>(h.2 q hq).ext k⟩
theorem Pa.at_{w:World}{p:AC}{ps:List (AC×List UInt8)}(h:Pa w p ps){k:Nat}(hk:k<ps.length): ∃b o,p.a=some ⟨b,o,none⟩/\w.cell? ⟨b,o+k,none⟩=some (slv ps[k])/\By w (λ_=>True) ps[k].1 ps[k].2:=by
 obtain⟨b,o,e,_,_,hc⟩:=Sl.at_ h.1 (by omega)
 exact⟨b,o,e,hc k _ (by simp[hk]),h.2 _ (List.getElem_mem hk)⟩
theorem zu6(ps:List (AC×List UInt8)){k:Nat}(hk:k<ps.length):catB (ps.take (k+1))=catB (ps.take k)++ps[k].2:=by
 unfold catB
 rw[List.take_add_one,List.flatMap_append,List.getElem?_eq_getElem hk];simp
theorem z2o(ps:List (AC×List UInt8))(k:Nat):(catB (ps.take k)).length<=(catB ps).length:=by
 have h:catB ps=catB (ps.take k)++catB (ps.drop k):=by
  unfold catB;rw[<-List.flatMap_append,List.take_append_drop]
 rw[h,List.length_append];omega
def z91(ps:List (AC×List UInt8))(s i:Value)(w wr:World):Prop:=
 ∃j:Nat,i= .int .i64 (j:Int)/\j<=ps.length/\s= .int .i64 ((catB (ps.take j)).length:Int)/\Ext w wr
def z92(ps:List (AC×List UInt8))(s i:Value)(base:Nat)(w wr:World):Prop:=
 ∃(j:Nat) (g:Option Nat),i= .int .i64 (j:Int)/\j<=ps.length/\OwB wr base s (catB (ps.take j)) g/\Ext w wr
set_option maxRecDepth 100000 in
theorem zpv(p:AC)(ps:List (AC×List UInt8))(w:World)(hp:Pa w p ps)(hl:(catB ps).length<=1000000000000):
  Calls Tryz.prog 120 #[.slice p.a ps.length p.c] w (Ret w λw' v=>∃g,OwB w' w.heap.size v (catB ps) g):=by
 have hlen:=Sl.capLe hp.1
 unfold maxLen at hlen
 obtain⟨N,hN⟩: ∃N,N=ps.length:=⟨_,rfl⟩
 have HN:=Lib.hid hN
 have hN63:N<=9223372036854775807:=by omega
 rw[<-hN]
 clear hN hlen
 go_enter Tryz.func120,Tryz.ntmps120
 go_wp2_with fail
 go_loopw [3,11] (λs i wr=>z91 ps s i w wr) (λ_ i _=>N-(intOf i).toNat)
 case atStart=>exact⟨0,rfl,Nat.zero_le _,rfl,Ext.refl _⟩
 case round=>
  obtain⟨j,rfl,e1,rfl,e3⟩:=hrel
  rw[<-HN.out]at e1
  by_cases hj:j<N
  ·have hj':j<ps.length:=by rw[<-HN.out];exact hj
   obtain⟨b,o,hpa,hc,hby⟩:=(hp.ext e3).at_ hj'
   have hcat:=zu6 ps hj'
   have hle:=z2o ps (j+1)
   rw[hcat,List.length_append]at hle
   have hL:(catB (ps.take (j+1))).length=(catB (ps.take j)).length+ps[j].2.length:=by rw[hcat,List.length_append]
   have HLL:=Lib.hid hL
   have hj0:(0:Int)<=(j:Int):=by omega
   have hjN:(j:Int)< (N:Int):=by omega
   generalize ps[j]=q at*
   generalize (catB (ps.take j)).length=A at*
   have hA:A+q.2.length<=1000000000000:=by omega
   rw[hpa]
   clear hpa hcat hle hL hby
   go_wp2_with fail
   go_roundw
   case rel=>exact⟨j+1,by simp,by have:=HN.out;omega,by rw[HLL.out];simp,e3⟩
   case measure=>(first |omega |(simp[intOf];done) |(simp[intOf];omega))
  ·have hjN:j=N:=by omega
   have HJ:=Lib.hid hjN
   have hall:catB (ps.take j)=catB ps:=by rw[hjN,HN.out,List.take_length]
   obtain⟨A,hA⟩: ∃A,A=(catB (ps.take j)).length:=⟨_,rfl⟩
   have hAl:A<=1000000000000:=by rw[hA,hall];exact hl
   rw[<-hA]
   clear hA hall hjN
   go_wp2_with fail
   refine(z3u A _ hAl).mono ?_
   rintro e w1 ⟨v,rfl,hb1,g1,o1⟩
   go_wp2_with fail
   go_loopw [6,27] (λs i wr'=>z92 ps s i wr.heap.size wr wr') (λ_ i _=>N-(intOf i).toNat)
   case atStart=>exact⟨0,g1,rfl,Nat.zero_le _,o1,hb1⟩
   case round=>
    rename_i K0 _
    obtain⟨k,g,rfl,d1,d2,d3⟩:=hrel
    rw[<-HN.out]at d1
    have hf:=e3
    by_cases hk:k<N
    ·have hk':k<ps.length:=by rw[<-HN.out];exact hk
     obtain⟨b,o,hpa,hc,hby⟩:=(hp.ext (hf.trans d3)).at_ hk'
     have hcat:=zu6 ps hk'
     have hle:=z2o ps (k+1)
     rw[hcat,List.length_append]at hle
     have HC:=Lib.hid hcat
     have hk0:(0:Int)<=(k:Int):=by omega
     have hkN:(k:Int)< (N:Int):=by omega
     generalize ps[k]=q at*
     obtain⟨a,c,rfl⟩:=d2.form
     generalize catB (ps.take k)=L at*
     rw[hpa]
     clear hpa hcat
     go_wp2_with (first |(at_builtin;refine zc5 ?_))
     refine zc3 (zb5 rfl (.tmp 31) (.tmp 32) rfl rfl d2 rfl rfl hby ?_ ?_ ?_)
     ·omega
     ·have h2:=d3.size;omega
     intro a' c' g' w' r1 r2 r3
     have r4:=d2.grown r2 d3 (Nat.le_refl _)
     go_wp2_with fail
     go_roundw
     case rel=>exact⟨k+1,g',by simp,by have:=HN.out;omega,by rw[HC.out];exact r1,r4⟩
     case measure=>(first |omega |(simp[intOf];done) |(simp[intOf];omega))
    ·have hkN:k=N:=by omega
     have hall:catB (ps.take k)=catB ps:=by rw[hkN,HN.out,List.take_length]
     obtain⟨a,c,rfl⟩:=d2.form
     go_wp2_with fail
     go_ret
     exact⟨_,rfl,hf.trans d3,g,by rw[hall]at d2⊢;exact d2.base_mono e3.size⟩
set_option maxRecDepth 100000 in
theorem z1m(p:AC)(ps:List (AC×List UInt8))(w:World)(hp:Pa w p ps)(hl:(catB ps).length<=100000000000):
  Calls Tryz.prog 63 #[.slice p.a ps.length p.c] w (Ret w λw' v=>∃g,OwB w' w.heap.size v (shaB (catB ps)) g):=by
 go_enter Tryz.func63,Tryz.ntmps63
 go_wp2_with fail
 refine(zpv p ps _ hp (by omega)).mono ?_
 rintro e w1 ⟨v,rfl,x1,g1,o1⟩
 obtain⟨q,rfl,b1⟩:=o1.by_
 go_wp2_with fail
 refine(zcjb q (catB ps) _ b1 hl).mono ?_
 rintro e w2 ⟨v,rfl,x2,rfl⟩
 have hs32:((shaB (catB ps)).map bv).toArray.size=32:=by simp[zc2]
 have hone:((shaB (catB ps)).map bv).toArray.all (·.oneCell')=true:=by simp[Value.oneCell']
 obtain⟨cs,hcs⟩: ∃cs,cs=((shaB (catB ps)).map bv).toArray:=⟨_,rfl⟩
 rw[<-hcs]at hs32 hone⊢
 have HC:=Lib.hid hcs
 clear hcs
 iterate 2 first |go_values |go_skip |go_guarded |go_step |go_upon |go_back |go_simp
 refine zcj rfl 177 rfl (some 3) rfl 32 (by kernel_rfl) ?_
 intro w3 Z3 z3 h3 l3 x3
 refine zct rfl 177 _ _ rfl rfl w2.heap.size cs rfl rfl 177 Z3 h3 (by rw[hs32];kernel_rfl) (by rw[hs32];exact z3) hone ?_
 intro w4 h4 l4 x4
 apply wpList_nil
 have f2:Ext w w2:=x1.trans x2
 have f4:Ext w w4:=(f2.trans x3).grown x4 (λk hk=>by cases hk;exact f2.size)
 have hB:w.heap.size<=w2.heap.size:=f2.size
 generalize w2.heap.size=B at*
 clear x4 l4 l3 h3 x3 x2 x1 f2
 go_wp2_with fail
 go_ret
 refine⟨_,rfl,f4,none,?_⟩
 have hs:=Sl.block (S:=(w.heap.size<= ·)) (sz:=1) (n:=32) (c:=32) h4 hB (by rw[hs32]) (Nat.le_refl _) (by unfold maxLen;omega)
 rw[HC.out]at hs
 unfold OwB
 rw[zc2]
 exact⟨by simp[zc2], .inl ⟨rfl,_,rfl,hs⟩⟩
end
end Go.Proofs.YtfjkblpnbgfkeaaGreat

namespace Go.Proofs.YtfjkblpnbgfkeaaGreat.Sx
open Go.RowKit
section
theorem zdjb(n:Int):zab Tryz.prog 154 [I n] (.r (.b (zbj n))):=
 zir (us:=[.int .i64 n]) (u:= .bool (zbj n)) (zaw Tryz.func154 rfl (by kernel_rfl)) (λ_ _ _ h=>zqe h) (λ_ _=>by simp[RV.at_]) λw=>zg3 n w
theorem z3m(x:Int):zab Tryz.prog 179 [I x] (.r (I (zbl x))):=
 zir (us:=[.int .i64 x]) (u:= .int .i64 (zbl x)) (zaw Tryz.func179 rfl (by kernel_rfl)) (λ_ _ _ h=>zqe h) (λ_ _=>by simp[RV.at_]) λw=>zv2 x w
theorem zyv(x:Int):zab Tryz.prog 178 [I x] (.r (I (zby x))):=
 zir (us:=[.int .i64 x]) (u:= .int .i64 (zby x)) (zaw Tryz.func178 rfl (by kernel_rfl)) (λ_ _ _ h=>zqe h) (λ_ _=>by simp[RV.at_]) λw=>zts x w
theorem zdlb(n:Int):zab Tryz.prog 250 [I n] (.r (I (zlo n))):=
 zir (us:=[.int .i64 n]) (u:= .int .i64 (zlo n)) (zaw Tryz.func250 rfl (by kernel_rfl)) (λ_ _ _ h=>zqe h) (λ_ _=>by simp[RV.at_]) λw=>z8l n w
theorem zng(x y:Int):zab Tryz.prog 74 [I x,I y] (.r (.b (zbh x y))):=
 zir (us:=[.int .i64 x, .int .i64 y]) (u:= .bool (zbh x y)) (zaw Tryz.func74 rfl (by kernel_rfl)) (λ_ _ _ h=>znj h) (λ_ _=>by simp[RV.at_]) λw=>z54 x y w
theorem zs5(x y:Int):zab Tryz.prog 132 [I x,I y] (.r (.b (zbh x y))):=
 zs6 (us:=[.int .i64 x, .int .i64 y]) (u:= .bool (zbh x y)) (zaw Tryz.func132 rfl (by kernel_rfl)) (λ_ _ _ h=>znj h) (λ_ _=>by simp[RV.at_]) λw=>zwv x y w
theorem zin(x:Int):zab Tryz.prog 80 [I x] (.r (.tu [I (zbl x),I (zby x)])):=
 zs6 (us:=[.int .i64 x]) (u:= .tuple #[.int .i64 (zbl x), .int .i64 (zby x)]) (zaw Tryz.func80 rfl (by kernel_rfl)) (λ_ _ _ h=>zqe h) (λ_ _=>by simp[RV.at_,RV.partsAt]) λw=>zij x w
theorem zdkb(x n:Int):zab Tryz.prog 60 [I x,I n] (ich (zb2 x n)):=
 za7 (zaw Tryz.func60 rfl (by kernel_rfl)) λw k vs hp=>by
  rw[znj hp]
  exact(zwq x n w).mono λ_ _ ⟨v,he,hx,_,hv⟩=>⟨v,he,hx,zmj hv⟩
theorem z6x(x n:Int):zab Tryz.prog 59 [I x,I n] (ich (zbz x n)):=
 za7 (zaw Tryz.func59 rfl (by kernel_rfl)) λw k vs hp=>by
  rw[znj hp]
  exact(z0c x n w).mono λ_ _ ⟨v,he,hx,_,hv⟩=>⟨v,he,hx,zmj hv⟩
theorem zow(x n:Int):zab Tryz.prog 76 [I x,I n] (ich (zb2 x n)):=
 za7 (zaw Tryz.func76 rfl (by kernel_rfl)) λw k vs hp=>by
  rw[znj hp]
  exact(zya x n w).mono λ_ _ ⟨v,he,hx,_,hv⟩=>⟨v,he,hx,zmj hv⟩
theorem z0o(x n:Int):zab Tryz.prog 77 [I x,I n] (ich (zbz x n)):=
 za7 (zaw Tryz.func77 rfl (by kernel_rfl)) λw k vs hp=>by
  rw[znj hp]
  exact(zuc x n w).mono λ_ _ ⟨v,he,hx,_,hv⟩=>⟨v,he,hx,zmj hv⟩
theorem zox(l m:List UInt8):zab Tryz.prog 10 [bs l,bs m] (.r (.b (decide (l=m)))):=
 za7 (zaw Tryz.func10 rfl (by kernel_rfl)) λw k vs hp=>by
  obtain⟨a,b,rfl,h1,h2⟩:=zi0 hp
  obtain⟨p,rfl,hp1⟩:=ze6 h1
  obtain⟨q,rfl,hq1⟩:=ze6 h2
  exact(zx9 p q l m w hp1 hq1).mono λ_ _ ⟨v,he,hx,hv⟩=>⟨v,he,hx,k,λ_ _=>rfl,by simp only[Res.at_,RV.at_];exact hv⟩
theorem zkz(l:List UInt8)(hl:l.length<=8000000000000):zab Tryz.prog 25 [bs l] (bch l):=
 za7 (zaw Tryz.func25 rfl (by kernel_rfl)) λw k vs hp=>by
  obtain⟨a,rfl,h1⟩:=zfo hp
  obtain⟨p,rfl,hp1⟩:=ze6 h1
  exact(zpn p l w hp1 hl).mono λ_ _ ⟨v,he,hx,_,hv⟩=>⟨v,he,hx,zfi hv⟩
theorem zcn(l m:List UInt8)(hl:l.length<=1000000000000)(hm:m.length<=1000000000000):zab Tryz.prog 208 [bs l,bs m] (bch (l++m)):=
 za7 (zaw Tryz.func208 rfl (by kernel_rfl)) λw k vs hp=>by
  obtain⟨a,b,rfl,h1,h2⟩:=zi0 hp
  obtain⟨p,rfl,hp1⟩:=ze6 h1
  obtain⟨q,rfl,hq1⟩:=ze6 h2
  exact(zbib p q l m w hp1 hq1 hl hm).mono λ_ _ ⟨v,he,hx,_,hv⟩=>⟨v,he,hx,zfi hv⟩
theorem ziq(l:List UInt8)(size m:Nat)(hl:l.length<=1000000000000)(hs:size=1\/size=2\/size=4\/size=8):zab Tryz.prog 85 [bs l,I size, .i .u64 m] (bch (l++beB size m)):=
 za7 (zaw Tryz.func85 rfl (by kernel_rfl)) λw k vs hp=>by
  obtain⟨a,b,c,rfl,h1,h2,h3⟩:=zeqb hp
  obtain⟨p,rfl,hp1⟩:=ze6 h1
  simp only[RV.at_]at h2 h3
  subst h2;subst h3
  exact(zh9 p l size m w hp1 hl hs).mono λ_ _ ⟨v,he,hx,_,hv⟩=>⟨v,he,hx,zfi hv⟩
theorem zbk(l m:List UInt8)(hl:l.length<=1000000000000)(hm:m.length<=1073741823):zab Tryz.prog 64 [bs l,bs m] (bch (l++vecB m)):=
 za7 (zaw Tryz.func64 rfl (by kernel_rfl)) λw k vs hp=>by
  obtain⟨a,b,rfl,h1,h2⟩:=zi0 hp
  obtain⟨p,rfl,hp1⟩:=ze6 h1
  obtain⟨q,rfl,hq1⟩:=ze6 h2
  exact(z1t p q l m w hp1 hq1 hl hm).mono λ_ _ ⟨v,he,hx,_,hv⟩=>⟨v,he,hx,zfi hv⟩
theorem zc1(m:List UInt8)(hm:m.length<=1073741823):zab Tryz.prog 42 [bs m] (bch (vecB m)):=
 za7 (zaw Tryz.func42 rfl (by kernel_rfl)) λw k vs hp=>by
  obtain⟨b,rfl,h2⟩:=zfo hp
  obtain⟨q,rfl,hq1⟩:=ze6 h2
  exact(z1w q m w hq1 hm).mono λ_ _ ⟨v,he,hx,_,hv⟩=>⟨v,he,hx,zfi hv⟩
theorem zj8(size m:Nat)(hs:size<=8)(hm:m<18446744073709551616):zab Tryz.prog 41 [I size, .i .u64 m] (bch (beB size m)):=
 za7 (zaw Tryz.func41 rfl (by kernel_rfl)) λw k vs hp=>by
  obtain⟨b,c,rfl,h2,h3⟩:=zi0 hp
  simp only[RV.at_]at h2 h3
  subst h2;subst h3
  exact(z1v size m w hs hm).mono λ_ _ ⟨v,he,hx,_,hv⟩=>⟨v,he,hx,zfi hv⟩
end
section
theorem Vcall.bool{P:Program}{f:FuncId}{vs:List RV}{K:Res->Prop}{β:Bool}(hg:zab P f vs (.r (.b β)))(ht:β=true->K (.r (.b true)))(hf:β=false->K (.r (.b false))):Vcall P f vs K:=by
 cases β
 ·exact ze hg (hf rfl)
 ·exact ze hg (ht rfl)
abbrev zy:= @Vcall.bool
def Leaf.right(l:Leaf):Bool:=decide (l.box.length=32/\l.sign.length=32/\0<l.ident.length/\l.ident.length<=64/\0<l.src.toNat/\l.src.toNat<4/\(l.parent.length=0\/l.src.toNat=3/\l.parent.length=32)/\l.sig.length=64)
end
section
theorem za1{ρ:List (Nat×Nat)}{S:St}(v:RV):cvTF ρ S (.r v) (.r v):=by
 cases v<;>first |trivial |exact cr
theorem zad{ρ:List (Nat×Nat)}{S:St}: ∀l:List RV,zf3 ρ S (l.map .r) (l.map .r)
 |[]=>rfl
 |v::r=>⟨_,_,rfl,za1 v,zad r⟩
def Leaf.fit(l:Leaf):Prop:=l.box.length<=1000000000/\l.sign.length<=1000000000/\l.ident.length<=1000000000/\l.parent.length<=1000000000/\l.sig.length<=1000000000
def Par.fit(p:Par):Prop:=p.box.length<=1000000000/\p.hash.length<=1000000000/\p.late.length<=100000000/\∀x∈p.late,i64 x
def zjb:Int->List Int->Bool
 |_,[]=>true
 |last,x::r=>decide (last<x/\x<65536)&&zjb x r
def Par.right(p:Par):Bool:=zjb (-1) p.late&&decide (p.box.length=32/\(p.hash.length=0\/p.hash.length=32))
def Leaf.none(l:Leaf):Bool:=decide (l.src.toNat=0/\l.box.length=0/\l.sign.length=0/\l.ident.length=0/\l.parent.length=0/\l.sig.length=0)
def Par.none(p:Par):Bool:=decide (p.box.length=0/\p.hash.length=0/\p.late.length=0)
theorem zvi(l:Leaf)(hl:l.fit):zab Tryz.prog 306 [.ag l.c] (.r (.b l.none)):=by
 refine zaa (T:=Tab) mixed Tab_ok Tryz.func306 rfl (by kernel_rfl) ?_
 obtain⟨h1,h2,h3,h4,h5⟩:=hl
 refine zh (λh=>?_) (λh=>?_)
 ·refine zd rfl (by omega) ?_
  refine zd rfl (by omega) ?_
  refine zd rfl (by omega) ?_
  refine zd rfl (by omega) ?_
  refine Vcmp.mk' rfl (zf (congrArg RV.b ?_))
  simp only[Leaf.none,zb]at*
  rw[Bool.eq_iff_iff]
  simp only[zb]at*
  omega
 ·refine zf (congrArg RV.b ?_)
  simp only[Leaf.none,zb]at*
  rw[eq_comm]
  simp only[zb]at*
  omega
theorem zyu(p:Par)(hp:p.fit):zab Tryz.prog 307 [.ag p.c] (.r (.b p.none)):=by
 refine zaa (T:=Tab) mixed Tab_ok Tryz.func307 rfl (by kernel_rfl) ?_
 obtain⟨h1,h2,h3,_⟩:=hp
 refine zd rfl (by omega) ?_
 refine zd rfl (by omega) ?_
 refine Vcmp.mk' rfl (zf (congrArg RV.b ?_))
 simp only[Par.none,zb]at*
 rw[Bool.eq_iff_iff]
 simp only[zb]at*
 omega
theorem zj9(l:Leaf):zab Tryz.prog 66 [.ag l.c] (.r (.b l.right)):=by
 refine zaa (T:=Tab) mixed Tab_ok Tryz.func66 rfl (by kernel_rfl) ?_
 (repeat' (first |refine zh (λh=>?_) (λh=>?_) |refine zf ?_ |refine zp ?_ |refine zq ?_))
 all_goals refine congrArg RV.b (Eq.symm ?_)
 all_goals simp only[Leaf.right,zb]at*
 all_goals omega
theorem zdmb(p:Par)(hp:p.fit):zab Tryz.prog 308 [.ag p.c] (.r (.b p.right)):=by
 refine zaa (T:=Tab) mixed Tab_ok Tryz.func308 rfl (by kernel_rfl) ?_
 obtain⟨hp1,hp2,hp3,hp4⟩:=hp
 refine zx (λi:Nat×Int=>{F:=[(1, .own 0),(2, .r (.b false)),(3, .r (I i.2)),(7, .r (is p.late)),(8, .r (I p.late.length)),(9, .r (I i.1))],O:=[(0,some (.box (p.c.map .r)))],nx:=1})
  (λi=>i.1<=p.late.length/\zjb (-1) p.late=zjb i.2 (p.late.drop i.1)) (λi=>p.late.length-i.1) (0, -1) ⟨by simp,by simp⟩ (zac [(0,0)] rfl ⟨rfl,cr,cr,cr,cr,cr,trivial⟩ ⟨zad _,trivial⟩) ?_
 rintro⟨j,last⟩ ⟨hj,hlate⟩
 simp only at hj hlate
 refine zh (λh=>zp ?_) (λh=>zq ?_)
 ·simp only[zb]at h
  have hj':j<p.late.length:=by omega
  have hx:=hp4 _ (List.getElem_mem hj')
  rw[List.drop_eq_getElem_cons hj']at hlate
  simp only[zjb]at hlate
  refine zm (by omega) (by omega) (zak rfl hj') (zg rfl ?_)
  refine zh (λh1=>?_) (λh1=>?_)
  ·simp only[zb]at h1
   refine zp (zf (congrArg RV.b (Eq.symm ?_)))
   have: ¬(last<p.late[j]/\p.late[j]<65536):=by omega
   simp[Par.right,hlate,this]
  ·refine zh (λh2=>?_) (λh2=>?_)
   ·simp only[zb]at h2
    refine zp (zf (congrArg RV.b (Eq.symm ?_)))
    have: ¬(last<p.late[j]/\p.late[j]<65536):=by omega
    simp[Par.right,hlate,this]
   ·simp only[zb]at h1 h2
    refine zq ?_
    refine zd (m:=((j+1:Nat):Int)) (by omega) (by omega) ?_
    have:last<p.late[j]/\p.late[j]<65536:=by omega
    rw[decide_eq_true this,Bool.true_and]at hlate
    exact⟨(j+1,p.late[j]),⟨by simp only;omega,hlate⟩,by simp only;omega,zac [(0,0)] rfl ⟨rfl,cr,cr,cr,cr,cr,trivial⟩ ⟨zad _,trivial⟩⟩
 ·simp only[zb]at h
  have:p.late.drop j=[]:=List.drop_eq_nil_of_le (by omega)
  rw[this]at hlate
  simp only[zjb]at hlate
  (repeat' (first |refine zh (λh=>?_) (λh=>?_) |refine zf ?_ |refine zp ?_ |refine zq ?_))
  all_goals refine congrArg RV.b (Eq.symm ?_)
  all_goals simp only[Par.right,hlate,Bool.true_and,zb]at*
  all_goals omega
end
section
def Node.fit(n:Node):Prop:=n.leaf.fit/\n.par.fit
def Node.right(n:Node):Bool:=
 if n.kind.toNat=0 then n.leaf.none&&n.par.none else if n.kind.toNat=1 then n.leaf.right&&n.par.none else if n.kind.toNat=2 then n.leaf.none&&n.par.right else false
def zbn(l:Leaf):List UInt8:=vecB l.box++vecB l.sign++vecB l.ident++[l.src]++(if l.src.toNat=3 then vecB l.parent else[])
def zcf(l:List Int):List UInt8:=l.flatMap λx=>beB 4 x.toNat
def parB(p:Par):List UInt8:=vecB p.box++vecB p.hash++vecB (zcf p.late)
def zdh(n:Node):List UInt8:=if n.kind.toNat=1 then 1::(zbn n.leaf++vecB n.leaf.sig)else if n.kind.toNat=2 then 2::parB n.par else[0]
theorem z62(n:Node)(hn:n.fit):zab Tryz.prog 274 [.ag n.c] (.r (.b n.right)):=by
 refine zaa (T:=Tab) mixed Tab_ok Tryz.func274 rfl (by kernel_rfl) ?_
 refine zh (λh0=>zp ?_) (λh0=>zq ?_)
 ·simp only[zb]at h0
  have h0':n.kind.toNat=0:=by omega
  refine za rfl rfl (zy (zvi n.leaf hn.1) (λh=>za rfl rfl (ze (zyu n.par hn.2) (zf ?_))) (λh=>zf ?_))
  ·simp[Node.right,h0',h]
  ·simp[Node.right,h0',h,ofC]
 ·simp only[zb]at h0
  have h0':n.kind.toNat≠0:=by omega
  refine zh (λh1=>zp ?_) (λh1=>zq ?_)
  ·simp only[zb]at h1
   have h1':n.kind.toNat=1:=by omega
   refine za rfl rfl (zy (zj9 n.leaf) (λh=>za rfl rfl (ze (zyu n.par hn.2) (zf ?_))) (λh=>zf ?_))
   ·simp[Node.right,h1',h]
   ·simp[Node.right,h1',h,ofC]
  ·simp only[zb]at h1
   have h1':n.kind.toNat≠1:=by omega
   refine zh (λh2=>zp ?_) (λh2=>zq ?_)
   ·simp only[zb]at h2
    have h2':n.kind.toNat=2:=by omega
    refine za rfl rfl (zy (zvi n.leaf hn.1) (λh=>za rfl rfl (ze (zdmb n.par hn.2) (zf ?_))) (λh=>zf ?_))
    ·simp[Node.right,h2',h]
    ·simp[Node.right,h2',h,ofC]
   ·simp only[zb]at h2
    have h2':n.kind.toNat≠2:=by omega
    refine zf ?_
    simp[Node.right,h0',h1',h2',ofC]
theorem Cvs.of_eq{cs ds:List RV}(h:cs=ds):Cvs cs ds:=h▸zn cs
theorem cvCh{ρ:List (Nat×Nat)}{S:St}{e:TypeId}{l m:List UInt8}(h:l=m):cvOw ρ S (.ch e 1 l.length (l.map U8) true) (.ch e 1 m.length (m.map U8) true):=by
 subst h
 exact⟨rfl,rfl,rfl,rfl,zn _⟩
theorem zdu{e:TypeId}{l m:List UInt8}(h:l=m):some (Ow.ch e 1 l.length (l.map U8) true)=some (Ow.ch e 1 m.length (m.map U8) true):=by rw[h]
def ze3b(b:List UInt8)(l:Leaf):Nat->St
 |0=>{F:=[(0, .r (bs b)),(3, .own 0),(13, .own 1),(14, .r (I 3)),(15, .r (I 0))],O:=[(0,some (.box (l.c.map .r))),(1,some (.ch 22 1 3 [bs l.box,bs l.sign,bs l.ident] true))],nx:=2}
 |j+1=>{F:=[(0, .own 2),(3, .own 0),(13, .own 1),(14, .r (I 3)),(15, .r (I ((j+1:Nat):Int)))],O:=[(0,some (.box (l.c.map .r))),(1,some (.ch 22 1 3 [bs l.box,bs l.sign,bs l.ident] true)),
   (2,some (.ch 5 1 (b++([l.box,l.sign,l.ident].take (j+1)).flatMap vecB).length ((b++([l.box,l.sign,l.ident].take (j+1)).flatMap vecB).map U8) true))],nx:=3}
theorem zp6(b:List UInt8)(l:Leaf)(hb:b.length<=1000000000)(hl:l.fit):zab Tryz.prog 122 [bs b, .ag l.c] (bch (b++zbn l)):=by
 refine zaa (T:=Tab) mixed Tab_ok Tryz.func122 rfl (by kernel_rfl) ?_
 obtain⟨h1,h2,h3,h4,h5⟩:=hl
 have v1:=zal l.box
 have v2:=zal l.sign
 have v3:=zal l.ident
 refine zw ?_
 refine zx (ze3b b l) (λj=>j<=3) (λj=>3-j) 0 (by omega) (zac [(0,0),(1,1)] rfl ⟨cr,rfl,rfl,cr,cr,trivial⟩ ⟨zad _,⟨rfl,rfl,rfl,rfl,zn _⟩,trivial⟩) ?_
 intro j hj
 rcases(by omega:j=0\/j=1\/j=2\/j=3)with rfl |rfl |rfl |rfl
 ·refine zt rfl (zp ?_)
  refine zm (by decide) (by decide) rfl (zg rfl ?_)
  refine ze (zbk b l.box (by omega) (by omega)) ?_
  refine zd (m:=((1:Nat):Int)) rfl (by decide) ?_
  exact⟨1,by omega,by omega,zac [(0,0),(1,1),(2,2)] rfl ⟨rfl,rfl,rfl,cr,cr,trivial⟩ ⟨zad _,⟨rfl,rfl,rfl,rfl,zn _⟩,cvCh (by simp),trivial⟩⟩
 ·refine zt rfl (zp ?_)
  refine zm (by decide) (by decide) rfl (zg rfl ?_)
  refine ze (zbk (b++([l.box,l.sign,l.ident].take 1).flatMap vecB) l.sign (by simp;omega) (by omega)) ?_
  refine zd (m:=((2:Nat):Int)) rfl (by decide) ?_
  exact⟨2,by omega,by omega,zac [(0,0),(1,1),(2,3)] rfl ⟨rfl,rfl,rfl,cr,cr,trivial⟩ ⟨zad _,⟨rfl,rfl,rfl,rfl,zn _⟩,cvCh (by simp),trivial⟩⟩
 ·refine zt rfl (zp ?_)
  refine zm (by decide) (by decide) rfl (zg rfl ?_)
  refine ze (zbk (b++([l.box,l.sign,l.ident].take 2).flatMap vecB) l.ident (by simp;omega) (by omega)) ?_
  refine zd (m:=((3:Nat):Int)) rfl (by decide) ?_
  exact⟨3,by omega,by omega,zac [(0,0),(1,1),(2,3)] rfl ⟨rfl,rfl,rfl,cr,cr,trivial⟩ ⟨zad _,⟨rfl,rfl,rfl,rfl,zn _⟩,cvCh (by simp),trivial⟩⟩
 ·refine zu rfl (zq ?_)
  refine zw ?_
  refine Vapp.mk' (j:=(b++([l.box,l.sign,l.ident].take 3).flatMap vecB++[l.src]).length) (zs:=(b++([l.box,l.sign,l.ident].take 3).flatMap vecB++[l.src]).map U8) (by simp[maxLen];omega) (by simp;omega) (by simp;omega) (by simp[zbb,cellsOf]) ?_
  refine zh (λhs=>zp ?_) (λhs=>zq ?_)
  ·simp only[zb]at hs
   have hs':l.src.toNat=3:=by omega
   refine ze (zbk (b++([l.box,l.sign,l.ident].take 3).flatMap vecB++[l.src]) l.parent (by simp;omega) (by omega)) ?_
   have e:b++([l.box,l.sign,l.ident].take 3).flatMap vecB++[l.src]++vecB l.parent=b++zbn l:=by simp[zbn,hs']
   exact zdu e
  ·simp only[zb]at hs
   have hs':l.src.toNat≠3:=by omega
   have e:b++([l.box,l.sign,l.ident].take 3).flatMap vecB++[l.src]=b++zbn l:=by simp[zbn,hs']
   exact zdu e
theorem zf6: ∀l:List Int,(zcf l).length=4*l.length
 |[]=>rfl
 |x::r=>by
  have:=zf6 r
  simp only[zcf,List.flatMap_cons,List.length_append,List.length_cons]at*
  rw[za0,this];omega
def zfob(b:List UInt8)(p:Par):Nat->St
 |0=>{F:=[(0, .r (bs b)),(3, .own 0),(5, .r (bs [])),(9, .r (is p.late)),(10, .r (I p.late.length)),(11, .r (I ((0:Nat):Int)))],O:=[(0,some (.box (p.c.map .r)))],nx:=1}
 |j+1=>{F:=[(0, .r (bs b)),(3, .own 0),(5, .own 1),(9, .r (is p.late)),(10, .r (I p.late.length)),(11, .r (I ((j+1:Nat):Int)))],O:=[(0,some (.box (p.c.map .r))),
   (1,some (.ch 5 1 (zcf (p.late.take (j+1))).length ((zcf (p.late.take (j+1))).map U8) true))],nx:=2}
theorem zhr(x:Int)(h:0<=x/\x<65536):IntKind.u64.wrap x=((x.toNat:Nat):Int):=by
 unfold IntKind.wrap
 simp only[IntKind.bits,IntKind.signed]
 simp
 omega
theorem z0r(b:List UInt8)(p:Par)(hb:b.length<=1000000000)(hp:p.fit)(hr: ∀x∈p.late,0<=x/\x<65536):zab Tryz.prog 275 [bs b, .ag p.c] (bch (b++parB p)):=by
 refine zaa (T:=Tab) mixed Tab_ok Tryz.func275 rfl (by kernel_rfl) ?_
 obtain⟨h1,h2,h3,_⟩:=hp
 have hll:=zf6 p.late
 refine zx (zfob b p) (λj=>j<=p.late.length) (λj=>p.late.length-j) 0 (by omega) (zac [(0,0)] rfl ⟨cr,rfl,Cv.nil _,cr,cr,cr,trivial⟩ ⟨zad _,trivial⟩) ?_
 have vd1:=zal p.box
 have vd2:=zal p.hash
 have hstep: ∀j (hj:j<p.late.length),zcf (p.late.take j)++beB 4 (p.late[j].toNat)=zcf (p.late.take (j+1)):=λj hj=>by
  rw[List.take_add_one,List.getElem?_eq_getElem hj]
  simp only[zcf,Option.toList,List.flatMap_append,List.flatMap_cons,List.flatMap_nil,List.append_nil]
 have hlen: ∀j,j<=p.late.length->(zcf (p.late.take j)).length=4*j:=λj hj=>by rw[zf6,List.length_take];omega
 intro j hj
 rcases j with _ |j
 ·refine zh (λh=>zp ?_) (λh=>zq ?_)
  ·simp only[zb]at h
   have hj':0<p.late.length:=by omega
   refine zm (by omega) (by omega) (zak rfl hj') (zg rfl ?_)
   refine⟨((p.late[0].toNat:Nat):Int),(zhr _ (hr _ (List.getElem_mem hj'))).symm,?_⟩
   refine ze (ziq [] 4 p.late[0].toNat (by simp) (by omega)) ?_
   refine zd (m:=((0+1:Nat):Int)) (by omega) (by omega) ?_
   exact⟨0+1,hj',by omega,zac [(0,0),(1,1)] rfl ⟨cr,rfl,rfl,cr,cr,cr,trivial⟩ ⟨zad _,cvCh (hstep 0 hj'),trivial⟩⟩
  ·simp only[zb]at h
   have e:p.late=[]:=List.eq_nil_of_length_eq_zero (by omega)
   refine Vdraw.mk' (by kernel_rfl) ?_
   refine ze (zbk b p.box (by omega) (by omega)) ?_
   refine ze (zbk (b++vecB p.box) p.hash (by simp;omega) (by omega)) ?_
   refine ze (zbk (b++vecB p.box++vecB p.hash) [] (by simp;omega) (by simp)) ?_
   exact zdu (by simp[parB,e,zcf])
 ·refine zh (λh=>zp ?_) (λh=>zq ?_)
  ·simp only[zb]at h
   have hj':j+1<p.late.length:=by omega
   refine zm (by omega) (by omega) (zak rfl hj') (zg rfl ?_)
   refine⟨((p.late[j+1].toNat:Nat):Int),(zhr _ (hr _ (List.getElem_mem hj'))).symm,?_⟩
   refine ze (ziq (zcf (p.late.take (j+1))) 4 p.late[j+1].toNat (by rw[hlen _ hj];omega) (by omega)) ?_
   refine zd (m:=((j+1+1:Nat):Int)) (by omega) (by omega) ?_
   exact⟨j+1+1,hj',by omega,zac [(0,0),(1,2)] rfl ⟨cr,rfl,rfl,cr,cr,cr,trivial⟩ ⟨zad _,cvCh (hstep (j+1) hj'),trivial⟩⟩
  ·simp only[zb]at h
   have e:p.late.take (j+1)=p.late:=List.take_of_length_le (by omega)
   refine Vdraw.mk' (by kernel_rfl) ?_
   refine ze (zbk b p.box (by omega) (by omega)) ?_
   refine ze (zbk (b++vecB p.box) p.hash (by simp;omega) (by omega)) ?_
   refine ze (zbk (b++vecB p.box++vecB p.hash) (zcf (p.late.take (j+1))) (by simp;omega) (by rw[e,hll];omega)) ?_
   exact zdu (by simp[parB,e])
theorem zvy: ∀(l:List Int) (a:Int), -1<=a->zjb a l=true->∀x∈l,0<=x/\x<65536
 |[],_,_,_=>λx hx=>by cases hx
 |y::r,a,ha,h=>λx hx=>by
  simp only[zjb,Bool.and_eq_true,decide_eq_true_eq]at h
  rcases List.mem_cons.1 hx with rfl |hx
  ·omega
  ·exact zvy r y (by omega) h.2 x hx
theorem Par.right_bd{p:Par}(h:p.right=true): ∀x∈p.late,0<=x/\x<65536:=by
 simp only[Par.right,Bool.and_eq_true]at h
 exact zvy _ _ (by omega) h.1
theorem Cv.tu{l m:List RV}(h:Cvs l m):Cv (.tu l) (.tu m):=λw k v hv=>by
 simp only[RV.at_]at*
 obtain⟨us,e,hp⟩:=hv
 exact⟨us,e,h.at_ hp⟩
theorem z61(n:Node)(hn:n.fit):zab Tryz.prog 226 [.ag n.c] (.r (if n.right then .tu [bs (zdh n), .i .u8 0]else .tu [bs [], .i .u8 3])):=by
 refine zaa (T:=Tab) mixed Tab_ok Tryz.func226 rfl (by kernel_rfl) ?_
 refine za rfl rfl ?_
 refine zy (z62 n hn) (λhr=>?_) (λhr=>?_)
 ·refine zu rfl (zq ?_)
  refine zw ?_
  obtain⟨⟨l1,l2,l3,l4,l5⟩,hpf⟩:=hn
  have w1:=zal n.leaf.box
  have w2:=zal n.leaf.sign
  have w3:=zal n.leaf.ident
  have w4:=zal n.leaf.parent
  refine zh (λh1=>zp ?_) (λh1=>zq ?_)
  ·simp only[zb]at h1
   have h1':n.kind.toNat=1:=by omega
   have hk:n.kind=1:=UInt8.toNat_inj.1 h1'
   refine Vdraw.mk' (by kernel_rfl) ?_
   refine za rfl rfl ?_
   refine ze (zp6 [n.kind] n.leaf (by simp) ⟨l1,l2,l3,l4,l5⟩) ?_
   have hlen:([n.kind]++zbn n.leaf).length<=1000000000000:=by
    simp only[zbn,List.length_append,List.length_cons,List.length_nil]
    split<;>simp<;>omega
   refine ze (zbk ([n.kind]++zbn n.leaf) n.leaf.sig hlen (by omega)) ?_
   refine⟨_,rfl,zf ?_⟩
   rw[if_pos hr,zdh,if_pos h1',hk]
   rfl
  ·simp only[zb]at h1
   have h1':n.kind.toNat≠1:=by omega
   refine zh (λh2=>zp ?_) (λh2=>zq ?_)
   ·simp only[zb]at h2
    have h2':n.kind.toNat=2:=by omega
    have hk:n.kind=2:=UInt8.toNat_inj.1 h2'
    have hb: ∀x∈n.par.late,0<=x/\x<65536:=by
     have:n.par.right=true:=by
      have:=hr
      simp[Node.right,h2']at this
      exact this.2
     exact Par.right_bd this
    refine za rfl rfl ?_
    refine ze (z0r [n.kind] n.par (by simp) hpf hb) ?_
    refine⟨_,rfl,zf ?_⟩
    rw[if_pos hr,zdh,if_neg h1',if_pos h2',hk]
    rfl
   ·simp only[zb]at h2
    have h2':n.kind.toNat≠2:=by omega
    have h0:n.kind.toNat=0:=by
     have:=hr
     simp only[Node.right,if_neg h1',if_neg h2']at this
     split at this
     ·assumption
     ·cases this
    have hk:n.kind=0:=UInt8.toNat_inj.1 h0
    refine⟨_,rfl,zf ?_⟩
    rw[if_pos hr,zdh,if_neg h1',if_neg h2',hk]
    rfl
 ·refine zt rfl (zp ?_)
  refine⟨_,rfl,?_⟩
  rw[hr]
  exact Cv.tu (zk (Cv.nil 1) (zn _))
end
section
theorem z3h(l:Leaf)(hl:l.fit):zab Tryz.prog 270 [.ag l.c] (bch (zbn l)):=by
 refine zaa (T:=Tab) mixed Tab_ok Tryz.func270 rfl (by kernel_rfl) ?_
 obtain⟨l1,l2,l3,l4,l5⟩:=hl
 have w1:=zal l.box
 have w2:=zal l.sign
 have w3:=zal l.ident
 have w4:=zal l.parent
 refine Vdraw.mk' (by kernel_rfl) ?_
 refine ze (zc1 l.box (by omega)) ?_
 refine ze (zc1 l.sign (by omega)) ?_
 refine ze (zcn (vecB l.box) (vecB l.sign) (by omega) (by omega)) ?_
 refine ze (zc1 l.ident (by omega)) ?_
 refine zw ?_
 refine ze (zcn (vecB l.ident) [l.src] (by omega) (by simp)) ?_
 refine ze (zcn (vecB l.box++vecB l.sign) (vecB l.ident++[l.src]) (by simp;omega) (by simp;omega)) ?_
 refine zh (λh=>zp ?_) (λh=>zq ?_)
 ·simp only[zb]at h
  have h':l.src.toNat=3:=by omega
  refine ze (zc1 l.parent (by omega)) ?_
  refine ze (zcn (vecB l.box++vecB l.sign++(vecB l.ident++[l.src])) (vecB l.parent) (by simp;omega) (by omega)) ?_
  exact zdu (by simp[zbn,h'])
 ·simp only[zb]at h
  have h':l.src.toNat≠3:=by omega
  exact zdu (by simp[zbn,h'])
theorem zl3(l:Leaf)(hl:l.fit):(zbn l).length<=5000000000:=by
 obtain⟨l1,l2,l3,l4,l5⟩:=hl
 have w1:=zal l.box
 have w2:=zal l.sign
 have w3:=zal l.ident
 have w4:=zal l.parent
 simp only[zbn,List.length_append,List.length_cons,List.length_nil]
 split<;>simp<;>omega
theorem zt6(l:Leaf)(hl:l.fit):zab Tryz.prog 209 [.ag l.c] (bch (zbn l++vecB l.sig)):=by
 refine zaa (T:=Tab) mixed Tab_ok Tryz.func209 rfl (by kernel_rfl) ?_
 have w:=zal l.sig
 have w2:=zl3 l hl
 obtain⟨_,_,_,_,l5⟩:=id hl
 refine Vdraw.mk' (by kernel_rfl) ?_
 refine za rfl rfl ?_
 refine ze (z3h l hl) ?_
 refine ze (zc1 l.sig (by omega)) ?_
 refine ze (zcn (zbn l) (vecB l.sig) (by omega) (by omega)) ?_
 rfl
end
section
def zc2b(n:Node):Nat->St
 |0=>{F:=[(1, .own 0),(3, .r (bs [])),(4, .r (I ((0:Nat):Int)))],O:=[(0,some (.box (n.c.map .r)))],nx:=1}
 |j+1=>{F:=[(1, .own 0),(3, .own 1),(4, .r (I ((j+1:Nat):Int)))],O:=[(0,some (.box (n.c.map .r))),(1,some (.ch 5 1 (zcf (n.par.late.take (j+1))).length ((zcf (n.par.late.take (j+1))).map U8) true))],nx:=2}
theorem zqg{l:List Int}{j:Nat}(hj:j<l.length):zcf (l.take j)++beB 4 (l[j].toNat)=zcf (l.take (j+1)):=by
 rw[List.take_add_one,List.getElem?_eq_getElem hj]
 simp only[zcf,Option.toList,List.flatMap_append,List.flatMap_cons,List.flatMap_nil,List.append_nil]
theorem zs2(n:Node)(hn:n.fit)(hr:n.kind.toNat=2->∀x∈n.par.late,0<=x/\x<65536):zab Tryz.prog 138 [.ag n.c] (bch (zdh n)):=by
 refine zaa (T:=Tab) mixed Tab_ok Tryz.func138 rfl (by kernel_rfl) ?_
 have w2:=zl3 n.leaf hn.1
 have w3:=zal n.leaf.sig
 obtain⟨hl,h1,h2,h3,_⟩:=id hn
 obtain⟨_,_,_,_,l5⟩:=id hl
 refine zh (λh=>zp ?_) (λh=>zq ?_)
 ·simp only[zb]at h
  have h':n.kind.toNat=1:=by omega
  refine zw ?_
  refine za rfl rfl ?_
  refine ze (zt6 n.leaf hl) ?_
  refine ze (zcn [1] (zbn n.leaf++vecB n.leaf.sig) (by simp) (by simp;omega)) ?_
  exact zdu (by simp[zdh,h'])
 ·simp only[zb]at h
  have h':n.kind.toNat≠1:=by omega
  refine zh (λhk=>zp ?_) (λhk=>zq ?_)
  ·simp only[zb]at hk
   have hk':n.kind.toNat=2:=by omega
   have hr':=hr hk'
   have hll:=zf6 n.par.late
   have vd1:=zal n.par.box
   have vd2:=zal n.par.hash
   have hlen: ∀j,j<=n.par.late.length->(zcf (n.par.late.take j)).length=4*j:=λj hj=>by rw[zf6,List.length_take];omega
   refine zx (zc2b n) (λj=>j<=n.par.late.length) (λj=>n.par.late.length-j) 0 (by omega) (zac [(0,0)] rfl ⟨rfl,Cv.nil _,cr,trivial⟩ ⟨zad _,trivial⟩) ?_
   intro j hj
   rcases j with _ |j
   ·refine zh (λh=>zp ?_) (λh=>zq ?_)
    ·simp only[zb]at h
     have hj':0<n.par.late.length:=by omega
     refine zm (by omega) (by omega) (zak rfl hj') (zg rfl ?_)
     refine⟨((n.par.late[0].toNat:Nat):Int),(zhr _ (hr' _ (List.getElem_mem hj'))).symm,?_⟩
     refine ze (zj8 4 n.par.late[0].toNat (by omega) (by have:=hr' _ (List.getElem_mem hj');omega)) ?_
     refine ze (zcn [] (beB 4 n.par.late[0].toNat) (by simp) (by rw[za0];omega)) ?_
     refine zd (m:=((0+1:Nat):Int)) (by omega) (by omega) ?_
     exact⟨0+1,hj',by omega,zac [(0,0),(1,2)] rfl ⟨rfl,rfl,cr,trivial⟩ ⟨zad _,cvCh (zqg hj'),trivial⟩⟩
    ·simp only[zb]at h
     have e:n.par.late=[]:=List.eq_nil_of_length_eq_zero (by omega)
     refine Vdraw.mk' (by kernel_rfl) ?_
     refine zw ?_
     refine ze (zc1 n.par.box (by omega)) ?_
     refine ze (zcn [2] (vecB n.par.box) (by simp) (by omega)) ?_
     refine ze (zc1 n.par.hash (by omega)) ?_
     refine ze (zc1 [] (by simp)) ?_
     refine ze (zcn (vecB n.par.hash) (vecB []) (by omega) (by simp[zpf];have:=ziw 0;omega)) ?_
     refine ze (zcn ([2]++vecB n.par.box) (vecB n.par.hash++vecB []) (by simp;omega) (by have:=ziw 0;simp[zpf]at*;omega)) ?_
     exact zdu (by simp[zdh,hk',parB,e,zcf])
   ·refine zh (λh=>zp ?_) (λh=>zq ?_)
    ·simp only[zb]at h
     have hj':j+1<n.par.late.length:=by omega
     refine zm (by omega) (by omega) (zak rfl hj') (zg rfl ?_)
     refine⟨((n.par.late[j+1].toNat:Nat):Int),(zhr _ (hr' _ (List.getElem_mem hj'))).symm,?_⟩
     refine ze (zj8 4 n.par.late[j+1].toNat (by omega) (by have:=hr' _ (List.getElem_mem hj');omega)) ?_
     refine ze (zcn (zcf (n.par.late.take (j+1))) (beB 4 n.par.late[j+1].toNat) (by rw[hlen _ hj];omega) (by rw[za0];omega)) ?_
     refine zd (m:=((j+1+1:Nat):Int)) (by omega) (by omega) ?_
     exact⟨j+1+1,hj',by omega,zac [(0,0),(1,3)] rfl ⟨rfl,rfl,cr,trivial⟩ ⟨zad _,cvCh (zqg hj'),trivial⟩⟩
    ·simp only[zb]at h
     have e:n.par.late.take (j+1)=n.par.late:=List.take_of_length_le (by omega)
     have w4:=zal (zcf (n.par.late.take (j+1)))
     have w5:=hlen _ hj
     refine Vdraw.mk' (by kernel_rfl) ?_
     refine zw ?_
     refine ze (zc1 n.par.box (by omega)) ?_
     refine ze (zcn [2] (vecB n.par.box) (by simp) (by omega)) ?_
     refine ze (zc1 n.par.hash (by omega)) ?_
     refine ze (zc1 (zcf (n.par.late.take (j+1))) (by omega)) ?_
     refine ze (zcn (vecB n.par.hash) (vecB (zcf (n.par.late.take (j+1)))) (by omega) (by omega)) ?_
     refine ze (zcn ([2]++vecB n.par.box) (vecB n.par.hash++vecB (zcf (n.par.late.take (j+1)))) (by simp;omega) (by simp;omega)) ?_
     exact zdu (by simp[zdh,hk',parB,e])
  ·simp only[zb]at hk
   have hk':n.kind.toNat≠2:=by omega
   refine zw ?_
   exact zdu (m:=zdh n) (l:=[0]) (by simp[zdh,h',hk'])
theorem zle(n:Node)(hn:n.fit):(zdh n).length<=10000000000:=by
 have w2:=zl3 n.leaf hn.1
 have w3:=zal n.leaf.sig
 obtain⟨hl,h1,h2,h3,_⟩:=id hn
 obtain⟨_,_,_,_,l5⟩:=id hl
 have hll:=zf6 n.par.late
 have vd1:=zal n.par.box
 have vd2:=zal n.par.hash
 have w4:=zal (zcf n.par.late)
 unfold zdh parB
 split
 ·simp;omega
 ·split
  ·simp;omega
  ·simp
end
end Go.Proofs.YtfjkblpnbgfkeaaGreat.Sx
