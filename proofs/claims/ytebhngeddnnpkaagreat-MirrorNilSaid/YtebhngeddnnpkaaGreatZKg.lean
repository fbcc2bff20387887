import Derived.Test.YtebhngeddnnpkaaGreatZShaZ
import Derived.Lib.AppendZerosOnto
import Derived.Test.YtebhngeddnnpkaaGreatZWire
import Derived.Test.YtebhngeddnnpkaaGreatZGeoB
namespace Go.Proofs.YtebhngeddnnpkaaGreat
open Go.RowKit
set_option linter.unusedVariables false
section
theorem zp5{P:Program}{ops:Array Oper}{rest:List Oper}{o:Oper}{a:Act}{w:World}{Q:Exit->Act->World->Prop}(hgd:o.guard=none)(s x:Operand)(t u:TypeId)
  (ho:o.op= .call {callee:= .builtin .append,args:= #[s,x],argTypes:= #[t,u]}) {v y v':Value} {w':World} (hs:a.eval s=v) (hx:a.eval x=y)
  (hr:(Builtin.append_ #[t,u] o.type #[v,y]).run P w= .ok v' w') (h:wpList P ops Q rest (a.put o.dst v') w'):wpList P ops Q (o::rest) a w:=by
 refine wpList_plain hgd λK hK=>?_
 unfold Oper.wp execOp
 simp only[ho,resolve,invoke,builtin,Sem.run_bind,Sem.run_pure,Result.andThen_ok,List.map_toArray,List.map_cons,List.map_nil,hs,hx,hr]
 exact hK _ _ h
set_option maxRecDepth 100000 in
theorem zxs(n:Nat)(w:World)(hn:n<=1000000000000):
  Calls Tryz.prog 155 #[.slice none 0 0, .int .i64 (n:Int)] w (Ret w λw' v=>∃g,OwB w' w.heap.size v [] g):=by
 rcases Nat.eq_zero_or_pos n with rfl |hpos
 ·go_enter Tryz.func155,Tryz.ntmps155
  go_wp2_with fail
  go_ret
  exact⟨_,rfl,(by(repeat (first |exact Ext.refl _ |refine Ext.drew ?_ |refine Ext.drewN ?_ _ |refine Ext.alloc ?_ _ |(refine Ext.setCell ?_ (by first |omega |(simp;done) |(simp;omega)) _) |refine Ext.trans ?_ (by assumption)))),none,OwB.nil _ _⟩
 ·obtain⟨i0,hi,hz0,hz1,hz2⟩:=info_parts Tryz.infoU8
  have hr:=λty=>Lib.run_append_grow_zeros w 22 3 ty 5 i0 (.int .u8 0) .i64 .i64 Tryz.underlying22 Tryz.underlying3 hi hz0 none 0 0 [] (run_firstCells_none w.drew i0.size 0 0 0) n hpos (by rw[hz1];decide) (by omega) (by omega) (by rw[hz2];omega) (growslice_fits (by omega) (by rw[hz2];omega))
  simp only[Nat.zero_add]at hr
  have hge:=grownCap_ge w n 0 5
  have hle:=grownCap_le_maxLen w n 0 5 (by unfold maxLen;omega)
  have hcs:((([]:List Value).toArray++Builtin.zeroCells (Value.int .u8 0).cells n++Builtin.zeroCells (Value.int .u8 0).cells (grownCap w n 0 5-n))).size=grownCap w n 0 5:=by
   simp only[Array.size_append,List.size_toArray,size_zeroCells,show(Value.int IntKind.u8 0).cells.size=1 from rfl]
   simp only[List.length_nil];omega
  generalize grownCap w n 0 5=G at*
  generalize ([]:List Value).toArray++Builtin.zeroCells (Value.int .u8 0).cells n++Builtin.zeroCells (Value.int .u8 0).cells (G-n)=cs at*
  unfold maxLen at hle
  go_enter Tryz.func155,Tryz.ntmps155
  go_wp2_with (first |(at_builtin;refine zdm ?_))
  refine zdg (zp5 rfl (.tmp 20) (.tmp 21) _ _ rfl rfl rfl (hr _) ?_)
  clear hr
  go_wp2_with fail
  go_ret
  refine⟨_,rfl,(by(repeat (first |exact Ext.refl _ |refine Ext.drew ?_ |refine Ext.drewN ?_ _ |refine Ext.alloc ?_ _ |(refine Ext.setCell ?_ (by first |omega |(simp;done) |(simp;omega)) _) |refine Ext.trans ?_ (by assumption)))),some w.heap.size,?_⟩
  exact⟨by simp, .inr ⟨w.heap.size,G,cs,rfl,rfl,Nat.le_refl _,heap_alloc_new w.drew _,Nat.zero_le _,by unfold maxLen;omega,by simpa using hcs,by simp⟩⟩
abbrev slv(q:AC×List UInt8):Value:= .slice q.1.a q.2.length q.1.c
def Pa(w:World)(p:AC)(ps:List (AC×List UInt8)):Prop:=Sl w (λ_=>True) 1 p ps.length (ps.map slv)/\∀q∈ps,By w (λ_=>True) q.1 q.2
def catB(ps:List (AC×List UInt8)):List UInt8:=ps.flatMap (·.2)
theorem Pa.ext{w w':World}{p:AC}{ps:List (AC×List UInt8)}(h:Pa w p ps)(k:Ext w w'):Pa w' p ps:=⟨Sl.ext h.1 k,λq hq=>(h.2 q hq).ext k⟩
theorem Pa.at_{w:World}{p:AC}{ps:List (AC×List UInt8)}(h:Pa w p ps){k:Nat}(hk:k<ps.length): ∃b o,p.a=some ⟨b,o,none⟩/\w.cell? ⟨b,o+k,none⟩=some (slv ps[k])/\By w (λ_=>True) ps[k].1 ps[k].2:=by
 obtain⟨b,o,e,_,_,hc⟩:=Sl.at_ h.1 (by omega)
 exact⟨b,o,e,hc k _ (by simp[hk]),h.2 _ (List.getElem_mem hk)⟩
theorem zqo(ps:List (AC×List UInt8)){k:Nat}(hk:k<ps.length):catB (ps.take (k+1))=catB (ps.take k)++ps[k].2:=by
 unfold catB
 rw[List.take_add_one,List.flatMap_append,List.getElem?_eq_getElem hk];simp
theorem zw7(ps:List (AC×List UInt8))(k:Nat):(catB (ps.take k)).length<=(catB ps).length:=by
 have h:catB ps=catB (ps.take k)++catB (ps.drop k):=by
  unfold catB;rw[<-List.flatMap_append,List.take_append_drop]
 rw[h,List.length_append];omega
def z3l(ps:List (AC×List UInt8))(s i:Value)(w wr:World):Prop:=
 ∃j:Nat,i= .int .i64 (j:Int)/\j<=ps.length/\s= .int .i64 ((catB (ps.take j)).length:Int)/\Ext w wr
def z3m(ps:List (AC×List UInt8))(s i:Value)(base:Nat)(w wr:World):Prop:=
 ∃(j:Nat) (g:Option Nat),i= .int .i64 (j:Int)/\j<=ps.length/\OwB wr base s (catB (ps.take j)) g/\Ext w wr
set_option maxRecDepth 100000 in
theorem zmi(p:AC)(ps:List (AC×List UInt8))(w:World)(hp:Pa w p ps)(hl:(catB ps).length<=1000000000000):
  Calls Tryz.prog 73 #[.slice p.a ps.length p.c] w (Ret w λw' v=>∃g,OwB w' w.heap.size v (catB ps) g):=by
 have hlen:=Sl.capLe hp.1
 unfold maxLen at hlen
 obtain⟨N,hN⟩: ∃N,N=ps.length:=⟨_,rfl⟩
 have HN:=Lib.hid hN
 have hN63:N<=9223372036854775807:=by omega
 rw[<-hN]
 clear hN hlen
 go_enter Tryz.func73,Tryz.ntmps73
 go_wp2_with fail
 go_loopw [3,11] (λs i wr=>z3l ps s i w wr) (λ_ i _=>N-(intOf i).toNat)
 case atStart=>exact⟨0,rfl,Nat.zero_le _,rfl,Ext.refl _⟩
 case round=>
  obtain⟨j,rfl,e1,rfl,e3⟩:=hrel
  rw[<-HN.out]at e1
  by_cases hj:j<N
  ·have hj':j<ps.length:=by rw[<-HN.out];exact hj
   obtain⟨b,o,hpa,hc,hby⟩:=(hp.ext e3).at_ hj'
   have hcat:=zqo ps hj'
   have hle:=zw7 ps (j+1)
   rw[hcat,List.length_append]at hle
   have hL:(catB (ps.take (j+1))).length=(catB (ps.take j)).length+ps[j].2.length:=by rw[hcat,List.length_append]
   have HLL:=Lib.hid hL
   have hj0:(0:Int)<=(j:Int):=by omega
   have hjN:(j:Int)< (N:Int):=by omega
   generalize ps[j]=q at*
   generalize (catB (ps.take j)).length=A at*
   have hA:A+q.2.length<=1000000000000:=by omega
   rw[hpa]
   clear hpa hcat hle hL hby
   go_wp2_with fail
   go_roundw
   case rel=>exact⟨j+1,by simp,by have:=HN.out;omega,by rw[HLL.out];simp,e3⟩
   case measure=>(first |omega |(simp[intOf];done) |(simp[intOf];omega))
  ·have hjN:j=N:=by omega
   have HJ:=Lib.hid hjN
   have hall:catB (ps.take j)=catB ps:=by rw[hjN,HN.out,List.take_length]
   obtain⟨A,hA⟩: ∃A,A=(catB (ps.take j)).length:=⟨_,rfl⟩
   have hAl:A<=1000000000000:=by rw[hA,hall];exact hl
   rw[<-hA]
   clear hA hall hjN
   go_wp2_with fail
   refine(zxs A _ hAl).mono ?_
   rintro e w1 ⟨v,rfl,hb1,g1,o1⟩
   go_wp2_with fail
   go_loopw [6,27] (λs i wr'=>z3m ps s i wr.heap.size wr wr') (λ_ i _=>N-(intOf i).toNat)
   case atStart=>exact⟨0,g1,rfl,Nat.zero_le _,o1,hb1⟩
   case round=>
    rename_i K0 _
    obtain⟨k,g,rfl,d1,d2,d3⟩:=hrel
    rw[<-HN.out]at d1
    have hf:=e3
    by_cases hk:k<N
    ·have hk':k<ps.length:=by rw[<-HN.out];exact hk
     obtain⟨b,o,hpa,hc,hby⟩:=(hp.ext (hf.trans d3)).at_ hk'
     have hcat:=zqo ps hk'
     have hle:=zw7 ps (k+1)
     rw[hcat,List.length_append]at hle
     have HC:=Lib.hid hcat
     have hk0:(0:Int)<=(k:Int):=by omega
     have hkN:(k:Int)< (N:Int):=by omega
     generalize ps[k]=q at*
     obtain⟨a,c,rfl⟩:=d2.form
     generalize catB (ps.take k)=L at*
     rw[hpa]
     clear hpa hcat
     go_wp2_with (first |(at_builtin;refine zdm ?_))
     refine zdg (zbi rfl (.tmp 31) (.tmp 32) rfl rfl d2 rfl rfl hby ?_ ?_ ?_)
     ·omega
     ·have h2:=d3.size;omega
     intro a' c' g' w' r1 r2 r3
     have r4:=d2.grown r2 d3 (Nat.le_refl _)
     go_wp2_with fail
     go_roundw
     case rel=>exact⟨k+1,g',by simp,by have:=HN.out;omega,by rw[HC.out];exact r1,r4⟩
     case measure=>(first |omega |(simp[intOf];done) |(simp[intOf];omega))
    ·have hkN:k=N:=by omega
     have hall:catB (ps.take k)=catB ps:=by rw[hkN,HN.out,List.take_length]
     obtain⟨a,c,rfl⟩:=d2.form
     go_wp2_with fail
     go_ret
     exact⟨_,rfl,hf.trans d3,g,by rw[hall]at d2⊢;exact d2.base_mono e3.size⟩
set_option maxRecDepth 100000 in
theorem zv9(p:AC)(ps:List (AC×List UInt8))(w:World)(hp:Pa w p ps)(hl:(catB ps).length<=100000000000):
  Calls Tryz.prog 72 #[.slice p.a ps.length p.c] w (Ret w λw' v=>∃g,OwB w' w.heap.size v (shaB (catB ps)) g):=by
 go_enter Tryz.func72,Tryz.ntmps72
 go_wp2_with fail
 refine(zmi p ps _ hp (by omega)).mono ?_
 rintro e w1 ⟨v,rfl,x1,g1,o1⟩
 obtain⟨q,rfl,b1⟩:=o1.by_
 go_wp2_with fail
 refine(z55 q (catB ps) _ b1 hl).mono ?_
 rintro e w2 ⟨v,rfl,x2,rfl⟩
 have hs32:((shaB (catB ps)).map bv).toArray.size=32:=by simp[zdl]
 have hone:((shaB (catB ps)).map bv).toArray.all (·.oneCell')=true:=by simp[Value.oneCell']
 obtain⟨cs,hcs⟩: ∃cs,cs=((shaB (catB ps)).map bv).toArray:=⟨_,rfl⟩
 rw[<-hcs]at hs32 hone⊢
 have HC:=Lib.hid hcs
 clear hcs
 iterate 2 first |go_values |go_skip |go_guarded |go_step |go_upon |go_back |go_simp
 refine zbp rfl 237 rfl (some 3) rfl 32 (by kernel_rfl) ?_
 intro w3 Z3 z3 h3 l3 x3
 refine zb0 rfl 237 _ _ rfl rfl w2.heap.size cs rfl rfl 237 Z3 h3 (by rw[hs32];kernel_rfl) (by rw[hs32];exact z3) hone ?_
 intro w4 h4 l4 x4
 apply wpList_nil
 have f2:Ext w w2:=x1.trans x2
 have f4:Ext w w4:=(f2.trans x3).grown x4 (λk hk=>by cases hk;exact f2.size)
 have hB:w.heap.size<=w2.heap.size:=f2.size
 generalize w2.heap.size=B at*
 clear x4 l4 l3 h3 x3 x2 x1 f2
 go_wp2_with fail
 go_ret
 refine⟨_,rfl,f4,none,?_⟩
 have hs:=Sl.block (S:=(w.heap.size<= ·)) (sz:=1) (n:=32) (c:=32) h4 hB (by rw[hs32]) (Nat.le_refl _) (by unfold maxLen;omega)
 rw[HC.out]at hs
 unfold OwB
 rw[zdl]
 exact⟨by simp[zdl], .inl ⟨rfl,_,rfl,hs⟩⟩
end
end Go.Proofs.YtebhngeddnnpkaaGreat

namespace Go.Proofs.YtebhngeddnnpkaaGreat.Sx
open Go.RowKit
section
theorem zxh(n:Int):zab Tryz.prog 209 [I n] (.r (.b (zc6 n))):=
 zgv (us:=[.int .i64 n]) (u:= .bool (zc6 n)) (za0 Tryz.func209 rfl (by kernel_rfl)) (λ_ _ _ h=>zp9 h) (λ_ _=>by simp[RV.at_]) λw=>zlm n w
theorem zxl(x:Int):zab Tryz.prog 205 [I x] (.r (I (zf8 x))):=
 zgv (us:=[.int .i64 x]) (u:= .int .i64 (zf8 x)) (za0 Tryz.func205 rfl (by kernel_rfl)) (λ_ _ _ h=>zp9 h) (λ_ _=>by simp[RV.at_]) λw=>z1d x w
theorem zt0(x:Int):zab Tryz.prog 206 [I x] (.r (I (ze5 x))):=
 zgv (us:=[.int .i64 x]) (u:= .int .i64 (ze5 x)) (za0 Tryz.func206 rfl (by kernel_rfl)) (λ_ _ _ h=>zp9 h) (λ_ _=>by simp[RV.at_]) λw=>zzc x w
theorem zqy(n:Int):zab Tryz.prog 110 [I n] (.r (I (ziv n))):=
 zgv (us:=[.int .i64 n]) (u:= .int .i64 (ziv n)) (za0 Tryz.func110 rfl (by kernel_rfl)) (λ_ _ _ h=>zp9 h) (λ_ _=>by simp[RV.at_]) λw=>z1w n w
theorem zn3(x y:Int):zab Tryz.prog 296 [I x,I y] (.r (.b (zb8 x y))):=
 zgv (us:=[.int .i64 x, .int .i64 y]) (u:= .bool (zb8 x y)) (za0 Tryz.func296 rfl (by kernel_rfl)) (λ_ _ _ h=>z9m h) (λ_ _=>by simp[RV.at_]) λw=>zzq x y w
theorem z0l(l m:List UInt8):zab Tryz.prog 50 [bs l,bs m] (.r (.b (decide (l=m)))):=
 zbh (za0 Tryz.func50 rfl (by kernel_rfl)) λw k vs hp=>by
  obtain⟨a,b,rfl,h1,h2⟩:=zeg hp
  obtain⟨p,rfl,hp1⟩:=zc5 h1
  obtain⟨q,rfl,hq1⟩:=zc5 h2
  exact(ztd p q l m w hp1 hq1).mono λ_ _ ⟨v,he,hx,hv⟩=>⟨v,he,hx,k,λ_ _=>rfl,by simp only[Res.at_,RV.at_];exact hv⟩
theorem zbw(l:List UInt8)(hl:l.length<=8000000000000):zab Tryz.prog 53 [bs l] (bch l):=
 zbh (za0 Tryz.func53 rfl (by kernel_rfl)) λw k vs hp=>by
  obtain⟨a,rfl,h1⟩:=zef hp
  obtain⟨p,rfl,hp1⟩:=zc5 h1
  exact(zmc p l w hp1 hl).mono λ_ _ ⟨v,he,hx,_,hv⟩=>⟨v,he,hx,zd9 hv⟩
theorem zbx(l m:List UInt8)(hl:l.length<=1000000000000)(hm:m.length<=1000000000000):zab Tryz.prog 398 [bs l,bs m] (bch (l++m)):=
 zbh (za0 Tryz.func398 rfl (by kernel_rfl)) λw k vs hp=>by
  obtain⟨a,b,rfl,h1,h2⟩:=zeg hp
  obtain⟨p,rfl,hp1⟩:=zc5 h1
  obtain⟨q,rfl,hq1⟩:=zc5 h2
  exact(z4x p q l m w hp1 hq1 hl hm).mono λ_ _ ⟨v,he,hx,_,hv⟩=>⟨v,he,hx,zd9 hv⟩
theorem zdz(l:List UInt8)(size m:Nat)(hl:l.length<=1000000000000)(hs:size=1\/size=2\/size=4\/size=8):zab Tryz.prog 109 [bs l,I size, .i .u64 m] (bch (l++beB size m)):=
 zbh (za0 Tryz.func109 rfl (by kernel_rfl)) λw k vs hp=>by
  obtain⟨a,b,c,rfl,h1,h2,h3⟩:=zy3 hp
  obtain⟨p,rfl,hp1⟩:=zc5 h1
  simp only[RV.at_]at h2 h3
  subst h2;subst h3
  exact(zgb p l size m w hp1 hl hs).mono λ_ _ ⟨v,he,hx,_,hv⟩=>⟨v,he,hx,zd9 hv⟩
theorem za7(l m:List UInt8)(hl:l.length<=1000000000000)(hm:m.length<=1073741823):zab Tryz.prog 113 [bs l,bs m] (bch (l++vecB m)):=
 zbh (za0 Tryz.func113 rfl (by kernel_rfl)) λw k vs hp=>by
  obtain⟨a,b,rfl,h1,h2⟩:=zeg hp
  obtain⟨p,rfl,hp1⟩:=zc5 h1
  obtain⟨q,rfl,hq1⟩:=zc5 h2
  exact(zwf p q l m w hp1 hq1 hl hm).mono λ_ _ ⟨v,he,hx,_,hv⟩=>⟨v,he,hx,zd9 hv⟩
theorem zc9(m:List UInt8)(hm:m.length<=1073741823):zab Tryz.prog 70 [bs m] (bch (vecB m)):=
 zbh (za0 Tryz.func70 rfl (by kernel_rfl)) λw k vs hp=>by
  obtain⟨b,rfl,h2⟩:=zef hp
  obtain⟨q,rfl,hq1⟩:=zc5 h2
  exact(zwi q m w hq1 hm).mono λ_ _ ⟨v,he,hx,_,hv⟩=>⟨v,he,hx,zd9 hv⟩
theorem ztz(size m:Nat)(hs:size<=8)(hm:m<18446744073709551616):zab Tryz.prog 69 [I size, .i .u64 m] (bch (beB size m)):=
 zbh (za0 Tryz.func69 rfl (by kernel_rfl)) λw k vs hp=>by
  obtain⟨b,c,rfl,h2,h3⟩:=zeg hp
  simp only[RV.at_]at h2 h3
  subst h2;subst h3
  exact(zwh size m w hs hm).mono λ_ _ ⟨v,he,hx,_,hv⟩=>⟨v,he,hx,zd9 hv⟩
end
section
theorem Vcall.bool{P:Program}{f:FuncId}{vs:List RV}{K:Res->Prop}{β:Bool}(hg:zab P f vs (.r (.b β)))(ht:β=true->K (.r (.b true)))(hf:β=false->K (.r (.b false))):Vcall P f vs K:=by
 cases β
 ·exact ze hg (hf rfl)
 ·exact ze hg (ht rfl)
def Leaf.right(l:Leaf):Bool:=decide (l.box.length=32/\l.sign.length=32/\0<l.ident.length/\l.ident.length<=64/\0<l.src.toNat/\l.src.toNat<4/\(l.parent.length=0\/l.src.toNat=3/\l.parent.length=32)/\l.sig.length=64)
end
section
theorem zbr{ρ:List (Nat×Nat)}{S:St}(v:RV):cvTF ρ S (.r v) (.r v):=by
 cases v<;>first |trivial |exact cr
theorem zae{ρ:List (Nat×Nat)}{S:St}: ∀l:List RV,zeo ρ S (l.map .r) (l.map .r)
 |[]=>rfl
 |v::r=>⟨_,_,rfl,zbr v,zae r⟩
def Leaf.fit(l:Leaf):Prop:=l.box.length<=1000000000/\l.sign.length<=1000000000/\l.ident.length<=1000000000/\l.parent.length<=1000000000/\l.sig.length<=1000000000
def Par.fit(p:Par):Prop:=p.box.length<=1000000000/\p.hash.length<=1000000000/\p.late.length<=100000000/\∀x∈p.late,i64 x
def zg5:Int->List Int->Bool
 |_,[]=>true
 |last,x::r=>decide (last<x/\x<65536)&&zg5 x r
def Par.right(p:Par):Bool:=zg5 (-1) p.late&&decide (p.box.length=32/\(p.hash.length=0\/p.hash.length=32))
def Leaf.none(l:Leaf):Bool:=decide (l.src.toNat=0/\l.box.length=0/\l.sign.length=0/\l.ident.length=0/\l.parent.length=0/\l.sig.length=0)
def Par.none(p:Par):Bool:=decide (p.box.length=0/\p.hash.length=0/\p.late.length=0)
theorem zqx(l:Leaf)(hl:l.fit):zab Tryz.prog 344 [.ag l.c] (.r (.b l.none)):=by
 refine zaa (T:=Tab) mixed Tab_ok Tryz.func344 rfl (by kernel_rfl) ?_
 obtain⟨h1,h2,h3,h4,h5⟩:=hl
 refine zh (λh=>?_) (λh=>?_)
 ·refine zd rfl (by omega) ?_
  refine zd rfl (by omega) ?_
  refine zd rfl (by omega) ?_
  refine zd rfl (by omega) ?_
  refine Vcmp.mk' rfl (zf (congrArg RV.b ?_))
  simp only[Leaf.none,zb]at*
  rw[Bool.eq_iff_iff]
  simp only[zb]at*
  omega
 ·refine zf (congrArg RV.b ?_)
  simp only[Leaf.none,zb]at*
  rw[eq_comm]
  simp only[zb]at*
  omega
theorem zty(p:Par)(hp:p.fit):zab Tryz.prog 345 [.ag p.c] (.r (.b p.none)):=by
 refine zaa (T:=Tab) mixed Tab_ok Tryz.func345 rfl (by kernel_rfl) ?_
 obtain⟨h1,h2,h3,_⟩:=hp
 refine zd rfl (by omega) ?_
 refine zd rfl (by omega) ?_
 refine Vcmp.mk' rfl (zf (congrArg RV.b ?_))
 simp only[Par.none,zb]at*
 rw[Bool.eq_iff_iff]
 simp only[zb]at*
 omega
theorem zgj(l:Leaf):zab Tryz.prog 141 [.ag l.c] (.r (.b l.right)):=by
 refine zaa (T:=Tab) mixed Tab_ok Tryz.func141 rfl (by kernel_rfl) ?_
 (repeat' (first |refine zh (λh=>?_) (λh=>?_) |refine zf ?_ |refine zp ?_ |refine zq ?_))
 all_goals refine congrArg RV.b (Eq.symm ?_)
 all_goals simp only[Leaf.right,zb]at*
 all_goals omega
theorem z69(p:Par)(hp:p.fit):zab Tryz.prog 346 [.ag p.c] (.r (.b p.right)):=by
 refine zaa (T:=Tab) mixed Tab_ok Tryz.func346 rfl (by kernel_rfl) ?_
 obtain⟨hp1,hp2,hp3,hp4⟩:=hp
 refine zy (λi:Nat×Int=>{F:=[(1, .own 0),(2, .r (.b false)),(3, .r (I i.2)),(7, .r (is p.late)),(8, .r (I p.late.length)),(9, .r (I i.1))],O:=[(0,some (.box (p.c.map .r)))],nx:=1})
  (λi=>i.1<=p.late.length/\zg5 (-1) p.late=zg5 i.2 (p.late.drop i.1)) (λi=>p.late.length-i.1) (0, -1) ⟨by simp,by simp⟩ (zad [(0,0)] rfl ⟨rfl,cr,cr,cr,cr,cr,trivial⟩ ⟨zae _,trivial⟩) ?_
 rintro⟨j,last⟩ ⟨hj,hlate⟩
 simp only at hj hlate
 refine zh (λh=>zp ?_) (λh=>zq ?_)
 ·simp only[zb]at h
  have hj':j<p.late.length:=by omega
  have hx:=hp4 _ (List.getElem_mem hj')
  rw[List.drop_eq_getElem_cons hj']at hlate
  simp only[zg5]at hlate
  refine zm (by omega) (by omega) (zca rfl hj') (zg rfl ?_)
  refine zh (λh1=>?_) (λh1=>?_)
  ·simp only[zb]at h1
   refine zp (zf (congrArg RV.b (Eq.symm ?_)))
   have: ¬(last<p.late[j]/\p.late[j]<65536):=by omega
   simp[Par.right,hlate,this]
  ·refine zh (λh2=>?_) (λh2=>?_)
   ·simp only[zb]at h2
    refine zp (zf (congrArg RV.b (Eq.symm ?_)))
    have: ¬(last<p.late[j]/\p.late[j]<65536):=by omega
    simp[Par.right,hlate,this]
   ·simp only[zb]at h1 h2
    refine zq ?_
    refine zd (m:=((j+1:Nat):Int)) (by omega) (by omega) ?_
    have:last<p.late[j]/\p.late[j]<65536:=by omega
    rw[decide_eq_true this,Bool.true_and]at hlate
    exact⟨(j+1,p.late[j]),⟨by simp only;omega,hlate⟩,by simp only;omega,zad [(0,0)] rfl ⟨rfl,cr,cr,cr,cr,cr,trivial⟩ ⟨zae _,trivial⟩⟩
 ·simp only[zb]at h
  have:p.late.drop j=[]:=List.drop_eq_nil_of_le (by omega)
  rw[this]at hlate
  simp only[zg5]at hlate
  (repeat' (first |refine zh (λh=>?_) (λh=>?_) |refine zf ?_ |refine zp ?_ |refine zq ?_))
  all_goals refine congrArg RV.b (Eq.symm ?_)
  all_goals simp only[Par.right,hlate,Bool.true_and,zb]at*
  all_goals omega
end
section
def Node.fit(n:Node):Prop:=n.leaf.fit/\n.par.fit
def Node.right(n:Node):Bool:=
 if n.kind.toNat=0 then n.leaf.none&&n.par.none else if n.kind.toNat=1 then n.leaf.right&&n.par.none else if n.kind.toNat=2 then n.leaf.none&&n.par.right else false
def za3(l:Leaf):List UInt8:=vecB l.box++vecB l.sign++vecB l.ident++[l.src]++(if l.src.toNat=3 then vecB l.parent else[])
def zkl(l:Leaf):List UInt8:=za3 l++vecB l.sig
def zbm(l:List Int):List UInt8:=l.flatMap λx=>beB 4 x.toNat
def parB(p:Par):List UInt8:=vecB p.box++vecB p.hash++vecB (zbm p.late)
def zcb(n:Node):List UInt8:=if n.kind.toNat=1 then 1::(za3 n.leaf++vecB n.leaf.sig)else if n.kind.toNat=2 then 2::parB n.par else[0]
theorem z0i(n:Node)(hn:n.fit):zab Tryz.prog 214 [.ag n.c] (.r (.b n.right)):=by
 refine zaa (T:=Tab) mixed Tab_ok Tryz.func214 rfl (by kernel_rfl) ?_
 refine zh (λh0=>zp ?_) (λh0=>zq ?_)
 ·simp only[zb]at h0
  have h0':n.kind.toNat=0:=by omega
  refine za rfl rfl (Vcall.bool (zqx n.leaf hn.1) (λh=>za rfl rfl (ze (zty n.par hn.2) (zf ?_))) (λh=>zf ?_))
  ·simp[Node.right,h0',h]
  ·simp[Node.right,h0',h,ofC]
 ·simp only[zb]at h0
  have h0':n.kind.toNat≠0:=by omega
  refine zh (λh1=>zp ?_) (λh1=>zq ?_)
  ·simp only[zb]at h1
   have h1':n.kind.toNat=1:=by omega
   refine za rfl rfl (Vcall.bool (zgj n.leaf) (λh=>za rfl rfl (ze (zty n.par hn.2) (zf ?_))) (λh=>zf ?_))
   ·simp[Node.right,h1',h]
   ·simp[Node.right,h1',h,ofC]
  ·simp only[zb]at h1
   have h1':n.kind.toNat≠1:=by omega
   refine zh (λh2=>zp ?_) (λh2=>zq ?_)
   ·simp only[zb]at h2
    have h2':n.kind.toNat=2:=by omega
    refine za rfl rfl (Vcall.bool (zqx n.leaf hn.1) (λh=>za rfl rfl (ze (z69 n.par hn.2) (zf ?_))) (λh=>zf ?_))
    ·simp[Node.right,h2',h]
    ·simp[Node.right,h2',h,ofC]
   ·simp only[zb]at h2
    have h2':n.kind.toNat≠2:=by omega
    refine zf ?_
    simp[Node.right,h0',h1',h2',ofC]
theorem Cvs.of_eq{cs ds:List RV}(h:cs=ds):Cvs cs ds:=h▸zn cs
theorem cvCh{ρ:List (Nat×Nat)}{S:St}{e:TypeId}{l m:List UInt8}(h:l=m):cvOw ρ S (.ch e 1 l.length (l.map U8) true) (.ch e 1 m.length (m.map U8) true):=by
 subst h
 exact⟨rfl,rfl,rfl,rfl,zn _⟩
theorem zde{e:TypeId}{l m:List UInt8}(h:l=m):some (Ow.ch e 1 l.length (l.map U8) true)=some (Ow.ch e 1 m.length (m.map U8) true):=by rw[h]
def z9b(b:List UInt8)(l:Leaf):Nat->St
 |0=>{F:=[(0, .r (bs b)),(3, .own 0),(13, .own 1),(14, .r (I 3)),(15, .r (I 0))],O:=[(0,some (.box (l.c.map .r))),(1,some (.ch 22 1 3 [bs l.box,bs l.sign,bs l.ident] true))],nx:=2}
 |j+1=>{F:=[(0, .own 2),(3, .own 0),(13, .own 1),(14, .r (I 3)),(15, .r (I ((j+1:Nat):Int)))],O:=[(0,some (.box (l.c.map .r))),(1,some (.ch 22 1 3 [bs l.box,bs l.sign,bs l.ident] true)),
   (2,some (.ch 5 1 (b++([l.box,l.sign,l.ident].take (j+1)).flatMap vecB).length ((b++([l.box,l.sign,l.ident].take (j+1)).flatMap vecB).map U8) true))],nx:=3}
theorem zie(b:List UInt8)(l:Leaf)(hb:b.length<=1000000000)(hl:l.fit):zab Tryz.prog 215 [bs b, .ag l.c] (bch (b++za3 l)):=by
 refine zaa (T:=Tab) mixed Tab_ok Tryz.func215 rfl (by kernel_rfl) ?_
 obtain⟨h1,h2,h3,h4,h5⟩:=hl
 have v1:=zaj l.box
 have v2:=zaj l.sign
 have v3:=zaj l.ident
 refine zw ?_
 refine zy (z9b b l) (λj=>j<=3) (λj=>3-j) 0 (by omega) (zad [(0,0),(1,1)] rfl ⟨cr,rfl,rfl,cr,cr,trivial⟩ ⟨zae _,⟨rfl,rfl,rfl,rfl,zn _⟩,trivial⟩) ?_
 intro j hj
 rcases(by omega:j=0\/j=1\/j=2\/j=3)with rfl |rfl |rfl |rfl
 ·refine zt rfl (zp ?_)
  refine zm (by decide) (by decide) rfl (zg rfl ?_)
  refine ze (za7 b l.box (by omega) (by omega)) ?_
  refine zd (m:=((1:Nat):Int)) rfl (by decide) ?_
  exact⟨1,by omega,by omega,zad [(0,0),(1,1),(2,2)] rfl ⟨rfl,rfl,rfl,cr,cr,trivial⟩ ⟨zae _,⟨rfl,rfl,rfl,rfl,zn _⟩,cvCh (by simp),trivial⟩⟩
 ·refine zt rfl (zp ?_)
  refine zm (by decide) (by decide) rfl (zg rfl ?_)
  refine ze (za7 (b++([l.box,l.sign,l.ident].take 1).flatMap vecB) l.sign (by simp;omega) (by omega)) ?_
  refine zd (m:=((2:Nat):Int)) rfl (by decide) ?_
  exact⟨2,by omega,by omega,zad [(0,0),(1,1),(2,3)] rfl ⟨rfl,rfl,rfl,cr,cr,trivial⟩ ⟨zae _,⟨rfl,rfl,rfl,rfl,zn _⟩,cvCh (by simp),trivial⟩⟩
 ·refine zt rfl (zp ?_)
  refine zm (by decide) (by decide) rfl (zg rfl ?_)
  refine ze (za7 (b++([l.box,l.sign,l.ident].take 2).flatMap vecB) l.ident (by simp;omega) (by omega)) ?_
  refine zd (m:=((3:Nat):Int)) rfl (by decide) ?_
  exact⟨3,by omega,by omega,zad [(0,0),(1,1),(2,3)] rfl ⟨rfl,rfl,rfl,cr,cr,trivial⟩ ⟨zae _,⟨rfl,rfl,rfl,rfl,zn _⟩,cvCh (by simp),trivial⟩⟩
 ·refine zu rfl (zq ?_)
  refine zw ?_
  refine Vapp.mk' (j:=(b++([l.box,l.sign,l.ident].take 3).flatMap vecB++[l.src]).length) (zs:=(b++([l.box,l.sign,l.ident].take 3).flatMap vecB++[l.src]).map U8) (by simp[maxLen];omega) (by simp;omega) (by simp;omega) (by simp[zdv,cellsOf]) ?_
  refine zh (λhs=>zp ?_) (λhs=>zq ?_)
  ·simp only[zb]at hs
   have hs':l.src.toNat=3:=by omega
   refine ze (za7 (b++([l.box,l.sign,l.ident].take 3).flatMap vecB++[l.src]) l.parent (by simp;omega) (by omega)) ?_
   have e:b++([l.box,l.sign,l.ident].take 3).flatMap vecB++[l.src]++vecB l.parent=b++za3 l:=by simp[za3,hs']
   exact zde e
  ·simp only[zb]at hs
   have hs':l.src.toNat≠3:=by omega
   have e:b++([l.box,l.sign,l.ident].take 3).flatMap vecB++[l.src]=b++za3 l:=by simp[za3,hs']
   exact zde e
theorem zeq: ∀l:List Int,(zbm l).length=4*l.length
 |[]=>rfl
 |x::r=>by
  have:=zeq r
  simp only[zbm,List.flatMap_cons,List.length_append,List.length_cons]at*
  rw[zam,this];omega
def z9u(b:List UInt8)(p:Par):Nat->St
 |0=>{F:=[(0, .r (bs b)),(3, .own 0),(5, .r (bs [])),(9, .r (is p.late)),(10, .r (I p.late.length)),(11, .r (I ((0:Nat):Int)))],O:=[(0,some (.box (p.c.map .r)))],nx:=1}
 |j+1=>{F:=[(0, .r (bs b)),(3, .own 0),(5, .own 1),(9, .r (is p.late)),(10, .r (I p.late.length)),(11, .r (I ((j+1:Nat):Int)))],O:=[(0,some (.box (p.c.map .r))),
   (1,some (.ch 5 1 (zbm (p.late.take (j+1))).length ((zbm (p.late.take (j+1))).map U8) true))],nx:=2}
theorem zfw(x:Int)(h:0<=x/\x<65536):IntKind.u64.wrap x=((x.toNat:Nat):Int):=by
 unfold IntKind.wrap
 simp only[IntKind.bits,IntKind.signed]
 simp
 omega
theorem zvj(b:List UInt8)(p:Par)(hb:b.length<=1000000000)(hp:p.fit)(hr: ∀x∈p.late,0<=x/\x<65536):zab Tryz.prog 216 [bs b, .ag p.c] (bch (b++parB p)):=by
 refine zaa (T:=Tab) mixed Tab_ok Tryz.func216 rfl (by kernel_rfl) ?_
 obtain⟨h1,h2,h3,_⟩:=hp
 have hll:=zeq p.late
 refine zy (z9u b p) (λj=>j<=p.late.length) (λj=>p.late.length-j) 0 (by omega) (zad [(0,0)] rfl ⟨cr,rfl,Cv.nil _,cr,cr,cr,trivial⟩ ⟨zae _,trivial⟩) ?_
 have vd1:=zaj p.box
 have vd2:=zaj p.hash
 have hstep: ∀j (hj:j<p.late.length),zbm (p.late.take j)++beB 4 (p.late[j].toNat)=zbm (p.late.take (j+1)):=λj hj=>by
  rw[List.take_add_one,List.getElem?_eq_getElem hj]
  simp only[zbm,Option.toList,List.flatMap_append,List.flatMap_cons,List.flatMap_nil,List.append_nil]
 have hlen: ∀j,j<=p.late.length->(zbm (p.late.take j)).length=4*j:=λj hj=>by rw[zeq,List.length_take];omega
 intro j hj
 rcases j with _ |j
 ·refine zh (λh=>zp ?_) (λh=>zq ?_)
  ·simp only[zb]at h
   have hj':0<p.late.length:=by omega
   refine zm (by omega) (by omega) (zca rfl hj') (zg rfl ?_)
   refine⟨((p.late[0].toNat:Nat):Int),(zfw _ (hr _ (List.getElem_mem hj'))).symm,?_⟩
   refine ze (zdz [] 4 p.late[0].toNat (by simp) (by omega)) ?_
   refine zd (m:=((0+1:Nat):Int)) (by omega) (by omega) ?_
   exact⟨0+1,hj',by omega,zad [(0,0),(1,1)] rfl ⟨cr,rfl,rfl,cr,cr,cr,trivial⟩ ⟨zae _,cvCh (hstep 0 hj'),trivial⟩⟩
  ·simp only[zb]at h
   have e:p.late=[]:=List.eq_nil_of_length_eq_zero (by omega)
   refine Vdraw.mk' (by kernel_rfl) ?_
   refine ze (za7 b p.box (by omega) (by omega)) ?_
   refine ze (za7 (b++vecB p.box) p.hash (by simp;omega) (by omega)) ?_
   refine ze (za7 (b++vecB p.box++vecB p.hash) [] (by simp;omega) (by simp)) ?_
   exact zde (by simp[parB,e,zbm])
 ·refine zh (λh=>zp ?_) (λh=>zq ?_)
  ·simp only[zb]at h
   have hj':j+1<p.late.length:=by omega
   refine zm (by omega) (by omega) (zca rfl hj') (zg rfl ?_)
   refine⟨((p.late[j+1].toNat:Nat):Int),(zfw _ (hr _ (List.getElem_mem hj'))).symm,?_⟩
   refine ze (zdz (zbm (p.late.take (j+1))) 4 p.late[j+1].toNat (by rw[hlen _ hj];omega) (by omega)) ?_
   refine zd (m:=((j+1+1:Nat):Int)) (by omega) (by omega) ?_
   exact⟨j+1+1,hj',by omega,zad [(0,0),(1,2)] rfl ⟨cr,rfl,rfl,cr,cr,cr,trivial⟩ ⟨zae _,cvCh (hstep (j+1) hj'),trivial⟩⟩
  ·simp only[zb]at h
   have e:p.late.take (j+1)=p.late:=List.take_of_length_le (by omega)
   refine Vdraw.mk' (by kernel_rfl) ?_
   refine ze (za7 b p.box (by omega) (by omega)) ?_
   refine ze (za7 (b++vecB p.box) p.hash (by simp;omega) (by omega)) ?_
   refine ze (za7 (b++vecB p.box++vecB p.hash) (zbm (p.late.take (j+1))) (by simp;omega) (by rw[e,hll];omega)) ?_
   exact zde (by simp[parB,e])
theorem zre: ∀(l:List Int) (a:Int), -1<=a->zg5 a l=true->∀x∈l,0<=x/\x<65536
 |[],_,_,_=>λx hx=>by cases hx
 |y::r,a,ha,h=>λx hx=>by
  simp only[zg5,Bool.and_eq_true,decide_eq_true_eq]at h
  rcases List.mem_cons.1 hx with rfl |hx
  ·omega
  ·exact zre r y (by omega) h.2 x hx
theorem Par.right_bd{p:Par}(h:p.right=true): ∀x∈p.late,0<=x/\x<65536:=by
 simp only[Par.right,Bool.and_eq_true]at h
 exact zre _ _ (by omega) h.1
theorem Cv.tu{l m:List RV}(h:Cvs l m):Cv (.tu l) (.tu m):=λw k v hv=>by
 simp only[RV.at_]at*
 obtain⟨us,e,hp⟩:=hv
 exact⟨us,e,h.at_ hp⟩
theorem zid(n:Node)(hn:n.fit):zab Tryz.prog 112 [.ag n.c] (.r (if n.right then .tu [bs (zcb n), .i .u8 0]else .tu [bs [], .i .u8 3])):=by
 refine zaa (T:=Tab) mixed Tab_ok Tryz.func112 rfl (by kernel_rfl) ?_
 refine za rfl rfl ?_
 refine Vcall.bool (z0i n hn) (λhr=>?_) (λhr=>?_)
 ·refine zu rfl (zq ?_)
  refine zw ?_
  obtain⟨⟨l1,l2,l3,l4,l5⟩,hpf⟩:=hn
  have w1:=zaj n.leaf.box
  have w2:=zaj n.leaf.sign
  have w3:=zaj n.leaf.ident
  have w4:=zaj n.leaf.parent
  refine zh (λh1=>zp ?_) (λh1=>zq ?_)
  ·simp only[zb]at h1
   have h1':n.kind.toNat=1:=by omega
   have hk:n.kind=1:=UInt8.toNat_inj.1 h1'
   refine Vdraw.mk' (by kernel_rfl) ?_
   refine za rfl rfl ?_
   refine ze (zie [n.kind] n.leaf (by simp) ⟨l1,l2,l3,l4,l5⟩) ?_
   have hlen:([n.kind]++za3 n.leaf).length<=1000000000000:=by
    simp only[za3,List.length_append,List.length_cons,List.length_nil]
    split<;>simp<;>omega
   refine ze (za7 ([n.kind]++za3 n.leaf) n.leaf.sig hlen (by omega)) ?_
   refine⟨_,rfl,zf ?_⟩
   rw[if_pos hr,zcb,if_pos h1',hk]
   rfl
  ·simp only[zb]at h1
   have h1':n.kind.toNat≠1:=by omega
   refine zh (λh2=>zp ?_) (λh2=>zq ?_)
   ·simp only[zb]at h2
    have h2':n.kind.toNat=2:=by omega
    have hk:n.kind=2:=UInt8.toNat_inj.1 h2'
    have hb: ∀x∈n.par.late,0<=x/\x<65536:=by
     have:n.par.right=true:=by
      have:=hr
      simp[Node.right,h2']at this
      exact this.2
     exact Par.right_bd this
    refine za rfl rfl ?_
    refine ze (zvj [n.kind] n.par (by simp) hpf hb) ?_
    refine⟨_,rfl,zf ?_⟩
    rw[if_pos hr,zcb,if_neg h1',if_pos h2',hk]
    rfl
   ·simp only[zb]at h2
    have h2':n.kind.toNat≠2:=by omega
    have h0:n.kind.toNat=0:=by
     have:=hr
     simp only[Node.right,if_neg h1',if_neg h2']at this
     split at this
     ·assumption
     ·cases this
    have hk:n.kind=0:=UInt8.toNat_inj.1 h0
    refine⟨_,rfl,zf ?_⟩
    rw[if_pos hr,zcb,if_neg h1',if_neg h2',hk]
    rfl
 ·refine zt rfl (zp ?_)
  refine⟨_,rfl,?_⟩
  rw[hr]
  exact Cv.tu (zk (Cv.nil 1) (zn _))
end
section
theorem zxg(l:Leaf)(hl:l.fit):zab Tryz.prog 485 [.ag l.c] (bch (za3 l)):=by
 refine zaa (T:=Tab) mixed Tab_ok Tryz.func485 rfl (by kernel_rfl) ?_
 obtain⟨l1,l2,l3,l4,l5⟩:=hl
 have w1:=zaj l.box
 have w2:=zaj l.sign
 have w3:=zaj l.ident
 have w4:=zaj l.parent
 refine Vdraw.mk' (by kernel_rfl) ?_
 refine ze (zc9 l.box (by omega)) ?_
 refine ze (zc9 l.sign (by omega)) ?_
 refine ze (zbx (vecB l.box) (vecB l.sign) (by omega) (by omega)) ?_
 refine ze (zc9 l.ident (by omega)) ?_
 refine zw ?_
 refine ze (zbx (vecB l.ident) [l.src] (by omega) (by simp)) ?_
 refine ze (zbx (vecB l.box++vecB l.sign) (vecB l.ident++[l.src]) (by simp;omega) (by simp;omega)) ?_
 refine zh (λh=>zp ?_) (λh=>zq ?_)
 ·simp only[zb]at h
  have h':l.src.toNat=3:=by omega
  refine ze (zc9 l.parent (by omega)) ?_
  refine ze (zbx (vecB l.box++vecB l.sign++(vecB l.ident++[l.src])) (vecB l.parent) (by simp;omega) (by omega)) ?_
  exact zde (by simp[za3,h'])
 ·simp only[zb]at h
  have h':l.src.toNat≠3:=by omega
  exact zde (by simp[za3,h'])
theorem zi9(l:Leaf)(hl:l.fit):(za3 l).length<=5000000000:=by
 obtain⟨l1,l2,l3,l4,l5⟩:=hl
 have w1:=zaj l.box
 have w2:=zaj l.sign
 have w3:=zaj l.ident
 have w4:=zaj l.parent
 simp only[za3,List.length_append,List.length_cons,List.length_nil]
 split<;>simp<;>omega
theorem zpp(l:Leaf)(hl:l.fit):zab Tryz.prog 399 [.ag l.c] (bch (za3 l++vecB l.sig)):=by
 refine zaa (T:=Tab) mixed Tab_ok Tryz.func399 rfl (by kernel_rfl) ?_
 have w:=zaj l.sig
 have w2:=zi9 l hl
 obtain⟨_,_,_,_,l5⟩:=id hl
 refine Vdraw.mk' (by kernel_rfl) ?_
 refine za rfl rfl ?_
 refine ze (zxg l hl) ?_
 refine ze (zc9 l.sig (by omega)) ?_
 refine ze (zbx (za3 l) (vecB l.sig) (by omega) (by omega)) ?_
 rfl
end
section
def z6r(n:Node):Nat->St
 |0=>{F:=[(1, .own 0),(3, .r (bs [])),(4, .r (I ((0:Nat):Int)))],O:=[(0,some (.box (n.c.map .r)))],nx:=1}
 |j+1=>{F:=[(1, .own 0),(3, .own 1),(4, .r (I ((j+1:Nat):Int)))],O:=[(0,some (.box (n.c.map .r))),(1,some (.ch 5 1 (zbm (n.par.late.take (j+1))).length ((zbm (n.par.late.take (j+1))).map U8) true))],nx:=2}
theorem zmz{l:List Int}{j:Nat}(hj:j<l.length):zbm (l.take j)++beB 4 (l[j].toNat)=zbm (l.take (j+1)):=by
 rw[List.take_add_one,List.getElem?_eq_getElem hj]
 simp only[zbm,Option.toList,List.flatMap_append,List.flatMap_cons,List.flatMap_nil,List.append_nil]
theorem z9y(n:Node)(hn:n.fit)(hr:n.kind.toNat=2->∀x∈n.par.late,0<=x/\x<65536):zab Tryz.prog 271 [.ag n.c] (bch (zcb n)):=by
 refine zaa (T:=Tab) mixed Tab_ok Tryz.func271 rfl (by kernel_rfl) ?_
 have w2:=zi9 n.leaf hn.1
 have w3:=zaj n.leaf.sig
 obtain⟨hl,h1,h2,h3,_⟩:=id hn
 obtain⟨_,_,_,_,l5⟩:=id hl
 refine zh (λh=>zp ?_) (λh=>zq ?_)
 ·simp only[zb]at h
  have h':n.kind.toNat=1:=by omega
  refine zw ?_
  refine za rfl rfl ?_
  refine ze (zpp n.leaf hl) ?_
  refine ze (zbx [1] (za3 n.leaf++vecB n.leaf.sig) (by simp) (by simp;omega)) ?_
  exact zde (by simp[zcb,h'])
 ·simp only[zb]at h
  have h':n.kind.toNat≠1:=by omega
  refine zh (λhk=>zp ?_) (λhk=>zq ?_)
  ·simp only[zb]at hk
   have hk':n.kind.toNat=2:=by omega
   have hr':=hr hk'
   have hll:=zeq n.par.late
   have vd1:=zaj n.par.box
   have vd2:=zaj n.par.hash
   have hlen: ∀j,j<=n.par.late.length->(zbm (n.par.late.take j)).length=4*j:=λj hj=>by rw[zeq,List.length_take];omega
   refine zy (z6r n) (λj=>j<=n.par.late.length) (λj=>n.par.late.length-j) 0 (by omega) (zad [(0,0)] rfl ⟨rfl,Cv.nil _,cr,trivial⟩ ⟨zae _,trivial⟩) ?_
   intro j hj
   rcases j with _ |j
   ·refine zh (λh=>zp ?_) (λh=>zq ?_)
    ·simp only[zb]at h
     have hj':0<n.par.late.length:=by omega
     refine zm (by omega) (by omega) (zca rfl hj') (zg rfl ?_)
     refine⟨((n.par.late[0].toNat:Nat):Int),(zfw _ (hr' _ (List.getElem_mem hj'))).symm,?_⟩
     refine ze (ztz 4 n.par.late[0].toNat (by omega) (by have:=hr' _ (List.getElem_mem hj');omega)) ?_
     refine ze (zbx [] (beB 4 n.par.late[0].toNat) (by simp) (by rw[zam];omega)) ?_
     refine zd (m:=((0+1:Nat):Int)) (by omega) (by omega) ?_
     exact⟨0+1,hj',by omega,zad [(0,0),(1,2)] rfl ⟨rfl,rfl,cr,trivial⟩ ⟨zae _,cvCh (zmz hj'),trivial⟩⟩
    ·simp only[zb]at h
     have e:n.par.late=[]:=List.eq_nil_of_length_eq_zero (by omega)
     refine Vdraw.mk' (by kernel_rfl) ?_
     refine zw ?_
     refine ze (zc9 n.par.box (by omega)) ?_
     refine ze (zbx [2] (vecB n.par.box) (by simp) (by omega)) ?_
     refine ze (zc9 n.par.hash (by omega)) ?_
     refine ze (zc9 [] (by simp)) ?_
     refine ze (zbx (vecB n.par.hash) (vecB []) (by omega) (by simp[zl7];have:=zgx 0;omega)) ?_
     refine ze (zbx ([2]++vecB n.par.box) (vecB n.par.hash++vecB []) (by simp;omega) (by have:=zgx 0;simp[zl7]at*;omega)) ?_
     exact zde (by simp[zcb,hk',parB,e,zbm])
   ·refine zh (λh=>zp ?_) (λh=>zq ?_)
    ·simp only[zb]at h
     have hj':j+1<n.par.late.length:=by omega
     refine zm (by omega) (by omega) (zca rfl hj') (zg rfl ?_)
     refine⟨((n.par.late[j+1].toNat:Nat):Int),(zfw _ (hr' _ (List.getElem_mem hj'))).symm,?_⟩
     refine ze (ztz 4 n.par.late[j+1].toNat (by omega) (by have:=hr' _ (List.getElem_mem hj');omega)) ?_
     refine ze (zbx (zbm (n.par.late.take (j+1))) (beB 4 n.par.late[j+1].toNat) (by rw[hlen _ hj];omega) (by rw[zam];omega)) ?_
     refine zd (m:=((j+1+1:Nat):Int)) (by omega) (by omega) ?_
     exact⟨j+1+1,hj',by omega,zad [(0,0),(1,3)] rfl ⟨rfl,rfl,cr,trivial⟩ ⟨zae _,cvCh (zmz hj'),trivial⟩⟩
    ·simp only[zb]at h
     have e:n.par.late.take (j+1)=n.par.late:=List.take_of_length_le (by omega)
     have w4:=zaj (zbm (n.par.late.take (j+1)))
     have w5:=hlen _ hj
     refine Vdraw.mk' (by kernel_rfl) ?_
     refine zw ?_
     refine ze (zc9 n.par.box (by omega)) ?_
     refine ze (zbx [2] (vecB n.par.box) (by simp) (by omega)) ?_
     refine ze (zc9 n.par.hash (by omega)) ?_
     refine ze (zc9 (zbm (n.par.late.take (j+1))) (by omega)) ?_
     refine ze (zbx (vecB n.par.hash) (vecB (zbm (n.par.late.take (j+1)))) (by omega) (by omega)) ?_
     refine ze (zbx ([2]++vecB n.par.box) (vecB n.par.hash++vecB (zbm (n.par.late.take (j+1)))) (by simp;omega) (by simp;omega)) ?_
     exact zde (by simp[zcb,hk',parB,e])
  ·simp only[zb]at hk
   have hk':n.kind.toNat≠2:=by omega
   refine zw ?_
   exact zde (m:=zcb n) (l:=[0]) (by simp[zcb,h',hk'])
def zjo(i:Int)(n:Node):List UInt8:=1::(beB 4 i.toNat++zcb n)
theorem zlx(n:Node)(hn:n.fit):(zcb n).length<=10000000000:=by
 have w2:=zi9 n.leaf hn.1
 have w3:=zaj n.leaf.sig
 obtain⟨hl,h1,h2,h3,_⟩:=id hn
 obtain⟨_,_,_,_,l5⟩:=id hl
 have hll:=zeq n.par.late
 have vd1:=zaj n.par.box
 have vd2:=zaj n.par.hash
 have w4:=zaj (zbm n.par.late)
 unfold zcb parB
 split
 ·simp;omega
 ·split
  ·simp;omega
  ·simp
theorem zvi(i:Int)(n:Node)(hn:n.fit):zab Tryz.prog 376 [I i, .ag n.c] (.r (if i<0\/65536<=i then .tu [bs [], .i .u8 1]else if n.right=false\/n.kind.toNat=2 then .tu [bs [], .i .u8 3]else .tu [bs (zjo i n), .i .u8 0])):=by
 refine zaa (T:=Tab) mixed Tab_ok Tryz.func376 rfl (by kernel_rfl) ?_
 have hnl:=zlx n hn
 have nil1: ∀(c:Int),Cv (.tu [ofC (.slice none 0 0), .i .u8 c]) (.tu [bs [], .i .u8 c]):=λc=>Cv.tu (zk (Cv.nil 1) (zn _))
 refine zh (λh1=>zp ?_) (λh1=>?_)
 ·simp only[zb]at h1
  refine⟨_,rfl,?_⟩
  rw[if_pos (.inl h1)]
  exact nil1 1
 ·refine zh (λh2=>zp ?_) (λh2=>zq ?_)
  ·simp only[zb]at h1 h2
   refine⟨_,rfl,?_⟩
   rw[if_pos (.inr (by omega))]
   exact nil1 1
  ·simp only[zb]at h1 h2
   rw[if_neg (show¬(i<0\/65536<=i)by omega)]
   refine za rfl rfl ?_
   refine ze (zid n hn) ?_
   cases hr:n.right with
   |false=>
    refine zt rfl (zp ?_)
    refine⟨_,rfl,?_⟩
    rw[if_pos (.inl rfl)]
    exact nil1 3
   |true=>
    refine zu rfl ?_
    refine zh (λh3=>zp ?_) (λh3=>zq ?_)
    ·simp only[zb]at h3
     refine⟨_,rfl,?_⟩
     rw[if_pos (.inr (by omega))]
     exact nil1 3
    ·simp only[zb]at h3
     refine zw ?_
     refine⟨((i.toNat:Nat):Int),(zfw _ (by omega)).symm,?_⟩
     refine ze (zdz [1] 4 i.toNat (by simp) (by omega)) ?_
     refine Vapp.mk' (j:=([1]++beB 4 i.toNat++zcb n).length) (zs:=([1]++beB 4 i.toNat++zcb n).map U8) (by simp[maxLen,zam];omega) (by simp[zam];omega) (by simp;omega) (by simp) ?_
     refine⟨_,rfl,zf ?_⟩
     rw[if_neg (by simp;omega)]
     rfl
end
section
def Node.zero:Node:=⟨0,⟨[],[],[],0,[],[]⟩,⟨[],[],[]⟩⟩
def zc:List RV:=[.i .u8 0, .x (.slice none 0 0), .x (.slice none 0 0), .x (.slice none 0 0), .i .u8 0, .x (.slice none 0 0), .x (.slice none 0 0), .x (.slice none 0 0), .x (.slice none 0 0), .x (.slice none 0 0)]
theorem Cv.ag{l m:List RV}(h:Cvs l m):Cv (.ag l) (.ag m):=λw k v hv=>by
 simp only[RV.at_]at*
 obtain⟨us,e,hp⟩:=hv
 exact⟨us,e,h.list hp⟩
theorem z6k:Cv (.ag zc) (.ag Node.zero.c):=Cv.ag (zk (cr) (zk (Cv.nil 1) (zk (Cv.nil 1) (zk (Cv.nil 1) (zk (cr) (zk (Cv.nil 1) (zk (Cv.nil 1) (zk (Cv.nil 1) (zk (Cv.nil 1) (zk (Cv.nil 1) Cvs.nil))))))))))
def za6(l:List Spot)(x:Int):Option Node:=(l.find? λs=>decide (s.at_=x)).map (·.node)
end
section
theorem Sub.trans{S S' S'':St}(h:Sub S S')(h':Sub S' S''):Sub S S'':=λB N a w k hs=>by
 obtain⟨k',hs'⟩:=h B N a w k hs
 exact h' B N a w k' hs'
theorem zzm{S:St}(t:Nat)(e:TypeId)(sz:Nat)(hf:fget S.F t=some (.r (.x (.slice none 0 0)))):Sub S {F:=(t, .own S.nx)::S.F,O:=(S.nx,some (.ch e sz 0 [] true))::S.O,nx:=S.nx+1}:=by
 rintro B N a w k ⟨g,hs⟩
 have hv:=(hs.facts t _ hf).2
 simp only[TF.at_,RV.at_]at hv
 have hlt:t<a.tmps.size:=by
  rcases Nat.lt_or_ge t a.tmps.size with h |h
  ·exact h
  ·rw[Array.getD_eq_getD_getElem?,Array.getElem?_eq_none h]at hv
   simp[undef]at hv
 have h:=hs.adopt (dst:=some t) (λd hd=>by cases hd;rw[<-hs.size];exact hlt) (o:= .ch e sz 0 [] true) (vb:=(.slice none 0 0,none)) trivial ⟨by simp, .inl ⟨rfl, .inl ⟨rfl,none,rfl⟩⟩⟩ (λb hb=>by cases hb) (λi o' b _ hb=>by cases hb)
 have e1:a.put (some t) (.slice none 0 0)=a:=by
  simp only[Act.put]
  have:a.tmps.setIfInBounds t (.slice none 0 0)=a.tmps:=by
   apply Array.ext
   ·simp
   ·intro i h1 h2
    by_cases hi:t=i
    ·subst hi
     rw[Array.getElem_setIfInBounds_self]
     rw[Array.getD_eq_getD_getElem?,Array.getElem?_eq_getElem hlt]at hv
     exact hv.symm
    ·rw[Array.getElem_setIfInBounds_ne _ hi]
  rw[this]
 rw[e1]at h
 exact⟨k,_,h⟩
def ins(x:Int):List Int->List Int
 |[]=>[x]
 |y::r=>if x<y then x::y::r else if x=y then y::r else y::ins x r
def rise(l:List Int):List Int:=l.foldr ins []
end
end Go.Proofs.YtebhngeddnnpkaaGreat.Sx
