import Derived.Test.YtpdllgbfemnemaaGreatZWireC
import Derived.Test.YtpdllgbfemnemaaGreatZRefC
import Derived.Deep.Cut
import Derived.StillTailTactics
import Derived.IntWalk
import Derived.Great.BuildSlice
import Derived.Deep.WholeRow
import Derived.Great.Walk
import Derived.Laws.CopyRow
import Derived.Lib.AppendZerosOnto
namespace Go.Proofs.YtpdllgbfemnemaaGreat
open Go.RowKit
set_option linter.unusedVariables false
section
theorem zem{x:Int}{n:Nat}(h:x=(n:Int)):IntKind.u32.wrap x=((n%4294967296:Nat):Int):=by rw[IntKind.wrap_u32',h];omega
theorem zfb{x:Int}{n:Nat}(h:x=(n:Int))(hn:n<4294967296):IntKind.u32.wrap x=(n:Int):=by rw[zem h,Nat.mod_eq_of_lt hn]
theorem zfvb{n x:Nat}(hx:x<4294967296)(h1:1<=n)(h2:n<=31):(x*2^(32-n))%4294967296|||x/2^n=rotr n x:=by
 unfold rotr
 have hp:=zag n
 have hq:=zag (32-n)
 have e:2^(32-n)*2^n=4294967296:=by rw[<-Nat.pow_add,show 32-n+n=32 by omega]
 have hd:x/2^n<2^(32-n):=Nat.div_lt_of_lt_mul (by rw[Nat.mul_comm,e];exact hx)
 have hm:x*2^(32-n)%4294967296=x%2^n*2^(32-n):=by
  rw[<-e,Nat.mul_comm x,Nat.mul_mod_mul_left,Nat.mul_comm]
 rw[hm,nat_join (32-n) _ _ (by simp) hd,Nat.add_comm]
theorem zf8{a b:Int}(h:a=b):Ending.returned (.int .u32 a)= .returned (.int .u32 b):=by rw[h]
theorem zf6{n x:Nat}(hx:x<4294967296)(h1:1<=n)(h2:n<=31)(A B:Nat)(ha:A=2^(32-n))(hb:B=2^n):
  bits BinOp.or IntKind.u32 ((x:Int)*(A:Int)%4294967296) ((x:Int)/(B:Int))=(rotr n x:Int):=by
 have e1:(x:Int)*(A:Int)%4294967296=((x*A%4294967296:Nat):Int):=by simp
 have e2:(x:Int)/(B:Int)=((x/B:Nat):Int):=by simp
 rw[e1,e2,u32_or_nat _ _ (Nat.mod_lt _ (by omega)) (Nat.lt_of_le_of_lt (Nat.div_le_self _ _) hx),ha,hb,zfvb hx h1 h2]
set_option maxRecDepth 100000 in
theorem zbmb(n x:Nat)(hx:x<4294967296)(hn:n=2\/n=6\/n=7\/n=11\/n=13\/n=17\/n=18\/n=19\/n=22\/n=25)(w:World):
  Calls Tryz.prog 211 #[.int .u32 (x:Int), .int .i64 (-(n:Int))] w λe w'=>e= .returned (.int .u32 (rotr n x:Int))/\w=w':=by
 rcases hn with rfl |rfl |rfl |rfl |rfl |rfl |rfl |rfl |rfl |rfl
 ·have hk:bits BinOp.and IntKind.u64 (IntKind.u64.wrap (-2)) 31=(30:Int):=by decide+kernel
  go_enter Tryz.func211,Tryz.ntmps211
  go_wp2_with fail
  go_ret
  exact⟨zf8 (zf6 hx (by omega) (by omega) 1073741824 4 rfl rfl),rfl⟩
 ·have hk:bits BinOp.and IntKind.u64 (IntKind.u64.wrap (-6)) 31=(26:Int):=by decide+kernel
  go_enter Tryz.func211,Tryz.ntmps211
  go_wp2_with fail
  go_ret
  exact⟨zf8 (zf6 hx (by omega) (by omega) 67108864 64 rfl rfl),rfl⟩
 ·have hk:bits BinOp.and IntKind.u64 (IntKind.u64.wrap (-7)) 31=(25:Int):=by decide+kernel
  go_enter Tryz.func211,Tryz.ntmps211
  go_wp2_with fail
  go_ret
  exact⟨zf8 (zf6 hx (by omega) (by omega) 33554432 128 rfl rfl),rfl⟩
 ·have hk:bits BinOp.and IntKind.u64 (IntKind.u64.wrap (-11)) 31=(21:Int):=by decide+kernel
  go_enter Tryz.func211,Tryz.ntmps211
  go_wp2_with fail
  go_ret
  exact⟨zf8 (zf6 hx (by omega) (by omega) 2097152 2048 rfl rfl),rfl⟩
 ·have hk:bits BinOp.and IntKind.u64 (IntKind.u64.wrap (-13)) 31=(19:Int):=by decide+kernel
  go_enter Tryz.func211,Tryz.ntmps211
  go_wp2_with fail
  go_ret
  exact⟨zf8 (zf6 hx (by omega) (by omega) 524288 8192 rfl rfl),rfl⟩
 ·have hk:bits BinOp.and IntKind.u64 (IntKind.u64.wrap (-17)) 31=(15:Int):=by decide+kernel
  go_enter Tryz.func211,Tryz.ntmps211
  go_wp2_with fail
  go_ret
  exact⟨zf8 (zf6 hx (by omega) (by omega) 32768 131072 rfl rfl),rfl⟩
 ·have hk:bits BinOp.and IntKind.u64 (IntKind.u64.wrap (-18)) 31=(14:Int):=by decide+kernel
  go_enter Tryz.func211,Tryz.ntmps211
  go_wp2_with fail
  go_ret
  exact⟨zf8 (zf6 hx (by omega) (by omega) 16384 262144 rfl rfl),rfl⟩
 ·have hk:bits BinOp.and IntKind.u64 (IntKind.u64.wrap (-19)) 31=(13:Int):=by decide+kernel
  go_enter Tryz.func211,Tryz.ntmps211
  go_wp2_with fail
  go_ret
  exact⟨zf8 (zf6 hx (by omega) (by omega) 8192 524288 rfl rfl),rfl⟩
 ·have hk:bits BinOp.and IntKind.u64 (IntKind.u64.wrap (-22)) 31=(10:Int):=by decide+kernel
  go_enter Tryz.func211,Tryz.ntmps211
  go_wp2_with fail
  go_ret
  exact⟨zf8 (zf6 hx (by omega) (by omega) 1024 4194304 rfl rfl),rfl⟩
 ·have hk:bits BinOp.and IntKind.u64 (IntKind.u64.wrap (-25)) 31=(7:Int):=by decide+kernel
  go_enter Tryz.func211,Tryz.ntmps211
  go_wp2_with fail
  go_ret
  exact⟨zf8 (zf6 hx (by omega) (by omega) 128 33554432 rfl rfl),rfl⟩
theorem zis(n x:Nat)(hx:x<4294967296)(hn:n=2\/n=6\/n=7\/n=11\/n=13\/n=17\/n=18\/n=19\/n=22\/n=25)(w:World):
  Calls Tryz.prog 195 #[.int .u32 (x:Int), .int .i64 (n:Int)] w λe w'=>e= .returned (.int .u32 (rotr n x:Int))/\w=w':=by
 have HN:=Lib.hid hn
 have h0:n<=25:=by omega
 clear hn
 go_enter Tryz.func195,Tryz.ntmps195
 go_wp2_with fail
 refine(zbmb n x hx HN.out _).mono ?_
 rintro e w' ⟨rfl,rfl⟩
 go_wp2_with fail
 go_ret
 exact⟨rfl,rfl⟩
def u32v(n:Nat):Value:= .int .u32 (n:Int)
theorem z8f(w:World):
  Calls Tryz.prog 168 #[] w (Ret w λ_ v=>v= .agg #[.int .u32 1779033703, .int .u32 3144134277, .int .u32 1013904242, .int .u32 2773480762, .int .u32 1359893119, .int .u32 2600822924, .int .u32 528734635, .int .u32 1541459225]):=by
 go_enter Tryz.func168,Tryz.ntmps168
 go_wp2_with fail
 refine bodyPost_ret (results_cell_row rfl _ _ w.heap.size 184 _ (0,0) _ rfl (heap_alloc_new w _) Tryz.underlying184 rfl (by kernel_rfl)) rfl ?_
 exact⟨_,rfl,(by(repeat (first |exact Ext.refl _ |refine Ext.drew ?_ |refine Ext.drewN ?_ _ |refine Ext.alloc ?_ _ |(refine Ext.setCell ?_ (by first |omega |(simp;done) |(simp;omega)) _) |refine Ext.trans ?_ (by assumption)))),rfl⟩
def kInts:List Int:=kTab.map Int.ofNat
theorem z60(w:World):
  Calls Tryz.prog 194 #[] w (Ret w λ_ v=>v= .agg (kInts.map (Value.int .u32)).toArray):=by
 go_enter Tryz.func194,Tryz.ntmps194
 go_upto_region 1 with fail
 apply wp_region_lit
 refine wpList_buildFlatArrTo rfl 206 162 64 _ rfl .u32 kInts (some 1) rfl Tryz.underlying206 (by kernel_rfl) (by kernel_rfl) (by kernel_rfl) ?_
 refine wpList_store_rowTo rfl 206 _ _ rfl rfl w.heap.size (kInts.map (Value.int .u32)).toArray rfl rfl 206 _ (heap_alloc_new w _) (by kernel_rfl) (by kernel_rfl) (by kernel_rfl) ?_
 rw[World.setRow_alloc_new]
 obtain⟨cs,hcs⟩: ∃cs:Array Value,cs=(kInts.map (Value.int .u32)).toArray:=⟨_,rfl⟩
 have hs:cs.size=64:=by rw[hcs];rfl
 rw[<-hcs]
 apply wpList_nil
 go_wp2_with fail
 refine bodyPost_ret (results_cell_row rfl _ _ w.heap.size 206 _ (0,0) _ rfl (heap_alloc_new w _) Tryz.underlying206 rfl (by rw[hs];kernel_rfl)) rfl ?_
 exact⟨_,rfl,(by(repeat (first |exact Ext.refl _ |refine Ext.drew ?_ |refine Ext.drewN ?_ _ |refine Ext.alloc ?_ _ |(refine Ext.setCell ?_ (by first |omega |(simp;done) |(simp;omega)) _) |refine Ext.trans ?_ (by assumption)))),by rw[hcs]⟩
def zdv(L:List Nat):Array Value:=((L++List.replicate (64-L.length) 0).map u32v).toArray
theorem z5w{L:List Nat}(h:L.length<=64):(zdv L).size=64:=by simp[zdv];omega
theorem z6g{L:List Nat}(h:L.length<=64){j:Nat}(hj:j<L.length):(zdv L)[j]?=some (u32v (L.getD j 0)):=by
 unfold zdv
 rw[List.getElem?_toArray,List.map_append,List.getElem?_append_left (by simpa using hj)]
 simp[List.getD_eq_getElem?_getD,hj]
theorem zr0{L:List Nat}(h:L.length<=64){j:Nat}(h1:L.length<=j)(h2:j<64):(zdv L)[j]?=some (u32v 0):=by
 unfold zdv
 rw[List.getElem?_toArray,List.map_append,List.getElem?_append_right (by simpa using h1)]
 rw[List.length_map,List.getElem?_map,List.getElem?_replicate,if_pos (by omega)]
 rfl
theorem ztz{L:List Nat}(h:L.length<64)(x:Nat):(zdv L).setIfInBounds L.length (u32v x)=zdv (L++[x]):=by
 apply Array.ext'
 simp only[zdv,Array.toList_setIfInBounds,List.length_append,List.length_singleton,List.map_append]
 rw[show 64-L.length=(64-(L.length+1))+1 by omega,List.replicate_succ]
 simp
theorem z2i(w:World)(o o':Obj):((w.alloc o).alloc o').heap[w.heap.size+1]?=some o':=by
 have:=heap_alloc_new (w.alloc o) o'
 rwa[show(w.alloc o).heap.size=w.heap.size+1 by rw[World.alloc];simp]at this
theorem By.stands{w:World}{S:Nat->Prop}{p:AC}{l:List UInt8}(h:By w S p l)(hk:0<l.length):
  ∃b o,p.a=some ⟨b,o,none⟩/\∀w',Ext w w'->∀k,k<l.length->w'.cell? ⟨b,o+k,none⟩=some (.int .u8 ((l.getD k 0).toNat:Int)):=by
 obtain⟨b,o,e,_,hb,hc⟩:=Sl.at_ h hk
 refine⟨b,o,e,λw' hw k hk=>?_⟩
 rw[hw.cells.1 b _ hb]
 exact hc k _ (by simp[hk])
theorem z8v{x0 x1 x2 x3:Nat}(h0:x0<256)(h1:x1<256)(h2:x2<256)(h3:x3<256): ∃A0 A1 A2 C1 C2:Nat,
  IntKind.u32.wrap ((x0:Int)*16777216)=(A0:Int)/\IntKind.u32.wrap ((x1:Int)*65536)=(A1:Int)/\IntKind.u32.wrap ((x2:Int)*256)=(A2:Int)/\
  bits BinOp.or IntKind.u32 (A0:Int) (A1:Int)=(C1:Int)/\bits BinOp.or IntKind.u32 (C1:Int) (A2:Int)=(C2:Int)/\
  bits BinOp.or IntKind.u32 (C2:Int) (x3:Int)=((((x0*256+x1)*256+x2)*256+x3:Nat):Int):=by
 refine⟨x0*16777216,x1*65536,x2*256,x0*16777216+x1*65536,x0*16777216+x1*65536+x2*256,zfb (by omega) (by omega),zfb (by omega) (by omega),zfb (by omega) (by omega),?_,?_,?_⟩
 ·rw[u32_or_nat _ _ (by omega) (by omega),nat_join 24 _ _ (by omega) (by omega)]
 ·rw[u32_or_nat _ _ (by omega) (by omega),nat_join 16 _ _ (by omega) (by omega)]
 ·rw[u32_or_nat _ _ (by omega) (by omega),nat_join 8 _ _ (by omega) (by omega)]
  omega
theorem Ext.setRow{a w:World}(h:Ext a w){g:Nat}(hg:a.heap.size<=g)(cs:Array Value):Ext a (w.setRow g cs):=by
 refine⟨h.os,h.tape,h.output,?_,λk hk=>?_⟩
 ·have:=h.size
  simpa[World.setRow]using this
 ·rw[setRow_other w g k cs (by omega)]
  exact h.block k hk
theorem zfg{P:Program}{ops:Array Oper}{rest:List Oper}{o:Oper}{a:Act}{w:World}{Q:Exit->Act->World->Prop}(hgd:o.guard=none)(ty:TypeId)(x:Operand)(ho:o.op= .load ty x)
  (d:Option Tmp) (hd:o.dst=d) (g:Nat) (cells:Array Value) (hx:a.eval x= .pointer (some ⟨g,0,none⟩)) (t:TypeId) (fr:Nat×Nat) (D:TypeDesc) (hg:w.heap[g]?=some (.cells cells t fr))
  (hu:P.underlying ty=some D) (hD:(match D with | .struct _ | .array _ _=>true |_=>false)=true) (hi:(P.info? ty).map (·.size)=some cells.size)
  (h:wpList P ops Q rest (a.put d (.agg cells)) w):wpList P ops Q (o::rest) a w:=by
 subst hd
 have hr:=run_loadVar_row (P:=P) w g t ty cells fr D hg hu hD hi
 refine wpList_plain hgd λK hK=>?_
 unfold Oper.wp execOp
 simp only[ho,Instr.loadAt,Instr.sureAddr,hx,Sem.run_bind,Sem.run_pure,Result.andThen_ok,hr]
 exact hK _ _ h
def Spare(w:World)(B:Nat):Prop:=∃Z:Array Value,w.heap[B]?=some (.cells Z 206 (0,0))/\Z.size=64
theorem Spare.set{w:World}{B:Nat}(h:Spare w B){p:Addr}(hp:B≠p.block)(v:Value):Spare (w.setCell p v) B:=by
 obtain⟨Z,h1,h2⟩:=h
 exact⟨Z,by rw[Below.heap_setCell _ _ _ _ hp];exact h1,h2⟩
def zc9b(B:Nat)(b:List UInt8)(i:Value)(w wr:World):Prop:=
 ∃t:Nat,i= .int .i64 (t:Int)/\t<=16/\Ext w wr/\Spare wr w.heap.size/\wr.heap[B]?=some (.cells (zdv (wTo b t)) 206 (0,0))
def zaeb(B:Nat)(b:List UInt8)(i:Value)(w wr:World):Prop:=
 ∃t:Nat,i= .int .i64 (t:Int)/\16<=t/\t<=64/\Ext w wr/\Spare wr w.heap.size/\wr.heap[B]?=some (.cells (zdv (wTo b t)) 206 (0,0))
theorem z1b{x n1 n2 d:Nat}{D:Int}(hD:D=(d:Int))(hx:x<4294967296)(h1:1<=n1/\n1<=31)(h2:1<=n2/\n2<=31)(hd:0<d): ∃A:Nat,
  bits BinOp.xor IntKind.u32 (rotr n1 x:Int) (rotr n2 x:Int)=(A:Int)/\bits BinOp.xor IntKind.u32 (A:Int) ((x:Int)/D)=(((rotr n1 x^^^rotr n2 x)^^^(x/d):Nat):Int):=by
 refine⟨_,u32_xor_nat _ _ (zcr hx h1.1 h1.2) (zcr hx h2.1 h2.2),?_⟩
 rw[hD,<-Int.natCast_ediv,u32_xor_nat _ _ (zdy (zcr hx h1.1 h1.2) (zcr hx h2.1 h2.2)) (Nat.lt_of_le_of_lt (Nat.div_le_self _ _) hx)]
theorem zbwb{a b c d:Nat}(h:True): ∃A B:Nat,IntKind.u32.wrap ((a:Int)+(b:Int))=(A:Int)/\IntKind.u32.wrap ((A:Int)+(c:Int))=(B:Int)/\
  IntKind.u32.wrap ((B:Int)+(d:Int))=(((a+b+c+d)%4294967296:Nat):Int):=by
 refine⟨(a+b)%4294967296,(a+b+c)%4294967296,?_,?_,?_⟩
 ·rw[zem (n:=a+b) (by omega)]
 ·rw[zem (n:=(a+b)%4294967296+c) (by omega)];omega
 ·rw[zem (n:=(a+b+c)%4294967296+d) (by omega)];omega
set_option maxHeartbeats 4000000 in
set_option maxRecDepth 100000 in
theorem z71(p:AC)(b:List UInt8){S:Nat->Prop}(w:World)(hp:By w S p b)(hl:b.length=64):
  Calls Tryz.prog 193 #[.slice p.a b.length p.c] w (Ret w λ_ v=>v= .agg ((wTo b 64).map u32v).toArray):=by
 have hm:=hp.lens
 unfold maxLen at hm
 obtain⟨pb,po,hpa,hpc⟩:=hp.stands (by omega)
 rw[hpa,hl]
 have HL:=Lib.hid hl
 obtain⟨pc,hc⟩: ∃pc,pc=p.c:=⟨_,rfl⟩
 rw[<-hc]
 clear hl hm hpa hc
 go_enter Tryz.func193,Tryz.ntmps193
 go_wp2_with fail
 go_loopw [10] (λi wr=>zc9b (w.heap.size+1) b i w wr) (λi _=>16-(intOf i).toNat)
 case atStart=>
  refine⟨0,rfl,by omega,by(repeat (first |exact Ext.refl _ |refine Ext.drew ?_ |refine Ext.drewN ?_ _ |refine Ext.alloc ?_ _ |(refine Ext.setCell ?_ (by first |omega |(simp;done) |(simp;omega)) _) |refine Ext.trans ?_ (by assumption))),⟨_,by rw[Below.heap_alloc _ _ _ (by simp)];exact heap_alloc_new w _,rfl⟩,?_⟩
  exact z2i w _ _
 case round=>
  obtain⟨t,rfl,e1,e2,e5,e3⟩:=hrel
  by_cases ht:t<16
  ·have ht2:(t:Int)<16:=by omega
   have ht0:(0:Int)<=t:=by omega
   have hcell: ∀k (hk:k<64),wr.cell? ⟨pb,po+k,none⟩=some (.int .u8 ((b.getD k 0).toNat:Int)):=λk hk=>hpc wr e2 k (by rw[HL.out];exact hk)
   have hc0:=hcell (4*t) (by omega)
   have hc1:=hcell (4*t+1) (by omega)
   have hc2:=hcell (4*t+2) (by omega)
   have hc3:=hcell (4*t+3) (by omega)
   obtain⟨x0,hx0⟩: ∃x:Nat,x=(b.getD (4*t) 0).toNat:=⟨_,rfl⟩
   obtain⟨x1,hx1⟩: ∃x:Nat,x=(b.getD (4*t+1) 0).toNat:=⟨_,rfl⟩
   obtain⟨x2,hx2⟩: ∃x:Nat,x=(b.getD (4*t+2) 0).toNat:=⟨_,rfl⟩
   obtain⟨x3,hx3⟩: ∃x:Nat,x=(b.getD (4*t+3) 0).toNat:=⟨_,rfl⟩
   have hb0:x0<256:=by rw[hx0];exact UInt8.toNat_lt _
   have hb1:x1<256:=by rw[hx1];exact UInt8.toNat_lt _
   have hb2:x2<256:=by rw[hx2];exact UInt8.toNat_lt _
   have hb3:x3<256:=by rw[hx3];exact UInt8.toNat_lt _
   have hB:be32 b (4*t)=((x0*256+x1)*256+x2)*256+x3:=by unfold be32;rw[hx0,hx1,hx2,hx3]
   rw[<-hx0]at hc0
   rw[<-hx1]at hc1
   rw[<-hx2]at hc2
   rw[<-hx3]at hc3
   have H0:=Lib.hid hB
   clear hx0 hx1 hx2 hx3 hB hcell
   have a0:(0:Int)<=4*(t:Int):=by omega
   have a1:(0:Int)<=4*(t:Int)+1:=by omega
   have a2:(0:Int)<=4*(t:Int)+2:=by omega
   have a3:(0:Int)<=4*(t:Int)+3:=by omega
   have b0:4*(t:Int)<64:=by omega
   have b1:4*(t:Int)+1<64:=by omega
   have b2:4*(t:Int)+2<64:=by omega
   have b3:4*(t:Int)+3<64:=by omega
   have n0:(4*(t:Int)).toNat=4*t:=by omega
   have n1:(4*(t:Int)+1).toNat=4*t+1:=by omega
   have n2:(4*(t:Int)+2).toNat=4*t+2:=by omega
   have n3:(4*(t:Int)+3).toNat=4*t+3:=by omega
   have w0:IntKind.i64.wrap (4*(t:Int))=4*(t:Int):=IntWalk.i64_in _ (by omega)
   have w1:IntKind.i64.wrap (4*(t:Int)+1)=4*(t:Int)+1:=IntWalk.i64_in _ (by omega)
   have w2:IntKind.i64.wrap (4*(t:Int)+2)=4*(t:Int)+2:=IntWalk.i64_in _ (by omega)
   have w3:IntKind.i64.wrap (4*(t:Int)+3)=4*(t:Int)+3:=IntWalk.i64_in _ (by omega)
   obtain⟨A0,A1,A2,C1,C2,q0,q1,q2,q3,q4,q5⟩:=z8v hb0 hb1 hb2 hb3
   have r0:IntKind.u32.wrap (x0:Int)=(x0:Int):=zfb rfl (by omega)
   have r1:IntKind.u32.wrap (x1:Int)=(x1:Int):=zfb rfl (by omega)
   have r2:IntKind.u32.wrap (x2:Int)=(x2:Int):=zfb rfl (by omega)
   have r3:IntKind.u32.wrap (x3:Int)=(x3:Int):=zfb rfl (by omega)
   have ht64:(t:Int)<64:=by omega
   rw[<-H0.out]at q5
   obtain⟨R,hR⟩: ∃R,R=be32 b (4*t):=⟨_,rfl⟩
   rw[<-hR]at q5
   have HR:=Lib.hid hR
   clear hR
   go_wp2_with fail
   go_still_tail 35,(by kernel_rfl)
   change wpList _ _ _ _ _ wr.drew
   have e2':Ext w wr.drew:=e2.drew
   have e5':Spare wr.drew w.heap.size:=e5
   have e3':wr.drew.heap[w.heap.size+1]?=some (.cells (zdv (wTo b t)) 206 (0,0)):=e3
   clear e2 e3 e5 hc0 hc1 hc2 hc3
   generalize wr.drew=w2 at*
   have s1:w2.cell? ⟨w.heap.size+1,t,none⟩=some (u32v 0):=by
    rw[cell_of_row w2 _ t _ _ _ e3']
    exact zr0 (by rw[zcl];omega) (by rw[zcl];omega) (by omega)
   have s2:w2.frozen? ⟨w.heap.size+1,t,none⟩=false:=by simp[World.frozen?,e3']
   go_wp2_with fail
   go_roundw
   case rel=>
    refine⟨t+1,by simp,by omega,by(repeat (first |exact Ext.refl _ |refine Ext.drew ?_ |refine Ext.drewN ?_ _ |refine Ext.alloc ?_ _ |(refine Ext.setCell ?_ (by first |omega |(simp;done) |(simp;omega)) _) |refine Ext.trans ?_ (by assumption))),e5'.set (by simp) _,?_⟩
    rw[setCell_eq_setRow _ _ _ _ _ _ _ e3',setRow_heap _ _ _ _ _ _ e3',wTo]
    have:=ztz (L:=wTo b t) (by rw[zcl];omega) R
    rw[zcl]at this
    rw[show(Value.int .u32 (R:Int))=u32v R from rfl,this,HR.out,zga,zcl,if_pos ht]
   case measure=>(first |omega |(simp[intOf];done) |(simp[intOf];omega))
  ·have h16:t=16:=by omega
   have H16:=Lib.hid h16
   clear hpc h16
   go_wp2_with fail
   go_loopw [5] (λi wr'=>zaeb (w.heap.size+1) b i w wr') (λi _=>64-(intOf i).toNat)
   case atStart=>exact⟨16,rfl,by omega,by omega,e2,e5,by rw[<-H16.out];exact e3⟩
   case round=>
    clear e2 e3 e5
    rename_i wr0 _
    obtain⟨t,rfl,e1,e4,e2,e5,e3⟩:=hrel
    by_cases ht:t<64
    ·have ht2:(t:Int)<64:=by omega
     have ht0:(0:Int)<=t:=by omega
     have hlen:(wTo b t).length=t:=zcl b t
     have hcell: ∀j,j<t->wr.cell? ⟨w.heap.size+1,j,none⟩=some (.int .u32 (((wTo b t).getD j 0:Nat):Int)):=λj hj=>by
      rw[cell_of_row wr _ j _ _ _ e3];exact z6g (by omega) (by omega)
     have hnext:zga b (wTo b t)=(ss1 ((wTo b t).getD (t-2) 0)+(wTo b t).getD (t-7) 0+ss0 ((wTo b t).getD (t-15) 0)+(wTo b t).getD (t-16) 0)%4294967296:=by
      rw[zga,hlen,if_neg (by omega)]
     have hc0:=hcell (t-15) (by omega)
     have hc1:=hcell (t-2) (by omega)
     have hc2:=hcell (t-7) (by omega)
     have hc3:=hcell (t-16) (by omega)
     have hbx:=zlb b t (t-15)
     have hby:=zlb b t (t-2)
     generalize (wTo b t).getD (t-15) 0=x at*
     generalize (wTo b t).getD (t-2) 0=y at*
     generalize (wTo b t).getD (t-7) 0=m7 at*
     generalize (wTo b t).getD (t-16) 0=m16 at*
     obtain⟨G1,g1,g2⟩:=z1b (n1:=7) (n2:=18) (d:=8) (D:=8) rfl hbx (by omega) (by omega) (by omega)
     obtain⟨G2,g3,g4⟩:=z1b (n1:=17) (n2:=19) (d:=1024) (D:=1024) rfl hby (by omega) (by omega) (by omega)
     rw[<-ss0]at g2
     rw[<-ss1]at g4
     obtain⟨S1,S2,s1,s2,s3⟩:=zbwb (a:=ss1 y) (b:=m7) (c:=ss0 x) (d:=m16) trivial
     rw[<-hnext]at s3
     have HN:=Lib.hid hnext
     have HLn:=Lib.hid hlen
     clear hnext hlen hcell
     generalize hR:zga b (wTo b t)=R at*
     have HR:=Lib.hid hR
     clear hR
     generalize ss0 x=X0 at*
     generalize ss1 y=Y1 at*
     have HX:Hid (x<4294967296):=Lib.hid hbx
     have HY:Hid (y<4294967296):=Lib.hid hby
     have a0:(0:Int)<=(t:Int)-15:=by omega
     have a1:(0:Int)<=(t:Int)-2:=by omega
     have a2:(0:Int)<=(t:Int)-7:=by omega
     have a3:(0:Int)<=(t:Int)-16:=by omega
     have b0:(t:Int)-15<64:=by omega
     have b1:(t:Int)-2<64:=by omega
     have b2:(t:Int)-7<64:=by omega
     have b3:(t:Int)-16<64:=by omega
     have a4:(7:Int)<=(t:Int):=by omega
     have a5:(16:Int)<=(t:Int):=by omega
     have n0:((t:Int)-15).toNat=t-15:=by omega
     have n1:((t:Int)-2).toNat=t-2:=by omega
     have n2:((t:Int)-7).toNat=t-7:=by omega
     have n3:((t:Int)-16).toNat=t-16:=by omega
     have w0:IntKind.i64.wrap ((t:Int)-15)=(t:Int)-15:=IntWalk.i64_in _ (by omega)
     have w1:IntKind.i64.wrap ((t:Int)-2)=(t:Int)-2:=IntWalk.i64_in _ (by omega)
     have w2:IntKind.i64.wrap ((t:Int)-7)=(t:Int)-7:=IntWalk.i64_in _ (by omega)
     have w3:IntKind.i64.wrap ((t:Int)-16)=(t:Int)-16:=IntWalk.i64_in _ (by omega)
     go_wp2_with fail
     go_quiet (fail)
     go_wp2_with fail
     refine(zis 7 x HX.out (by omega) _).mono ?_
     rintro e w' ⟨rfl,rfl⟩
     go_wp2_with fail
     refine(zis 18 x HX.out (by omega) _).mono ?_
     rintro e w' ⟨rfl,rfl⟩
     go_wp2_with fail
     refine(zis 17 y HY.out (by omega) _).mono ?_
     rintro e w' ⟨rfl,rfl⟩
     go_wp2_with fail
     refine(zis 19 y HY.out (by omega) _).mono ?_
     rintro e w' ⟨rfl,rfl⟩
     go_wp2_with fail
     have e2':Ext w (wr.drewN nq):=e2.drewN nq
     have e5':Spare (wr.drewN nq) w.heap.size:=e5
     have e3':(wr.drewN nq).heap[w.heap.size+1]?=some (.cells (zdv (wTo b t)) 206 (0,0)):=e3
     have hc2':(wr.drewN nq).cell? ⟨w.heap.size+1,t-7,none⟩=some (.int .u32 (m7:Int)):=hc2
     have hc3':(wr.drewN nq).cell? ⟨w.heap.size+1,t-16,none⟩=some (.int .u32 (m16:Int)):=hc3
     clear e2 e3 e5 hc0 hc1 hc2 hc3
     generalize wr.drewN nq=w5 at*
     go_still_tail 15,(by kernel_rfl)
     change wpList _ _ _ _ _ w5.drew
     have e2:Ext w w5.drew:=e2'.drew
     have e5:Spare w5.drew w.heap.size:=e5'
     have e3:w5.drew.heap[w.heap.size+1]?=some (.cells (zdv (wTo b t)) 206 (0,0)):=e3'
     clear e2' e3' e5' hc2' hc3'
     generalize w5.drew=w6 at*
     have s4:w6.cell? ⟨w.heap.size+1,t,none⟩=some (u32v 0):=by
      rw[cell_of_row w6 _ t _ _ _ e3]
      exact zr0 (by rw[zcl];omega) (by rw[zcl];omega) (by omega)
     have s5:w6.frozen? ⟨w.heap.size+1,t,none⟩=false:=by simp[World.frozen?,e3]
     go_wp2_with fail
     go_roundw
     case rel=>
      refine⟨t+1,by simp,by omega,by omega,by(repeat (first |exact Ext.refl _ |refine Ext.drew ?_ |refine Ext.drewN ?_ _ |refine Ext.alloc ?_ _ |(refine Ext.setCell ?_ (by first |omega |(simp;done) |(simp;omega)) _) |refine Ext.trans ?_ (by assumption))),e5.set (by simp) _,?_⟩
      rw[setCell_eq_setRow _ _ _ _ _ _ _ e3,setRow_heap _ _ _ _ _ _ e3,wTo]
      have:=ztz (L:=wTo b t) (by rw[zcl];omega) R
      rw[zcl]at this
      rw[show(Value.int .u32 (R:Int))=u32v R from rfl,this,HR.out]
     case measure=>(first |omega |(simp[intOf];done) |(simp[intOf];omega))
    ·have h64:t=64:=by omega
     subst h64
     have hs64:(zdv (wTo b 64)).size=64:=z5w (by rw[zcl];omega)
     have hval:zdv (wTo b 64)=((wTo b 64).map u32v).toArray:=by unfold zdv;rw[zcl];simp
     have hone:(zdv (wTo b 64)).all (·.oneCell')=true:=by rw[hval];simp[u32v,Value.oneCell']
     obtain⟨Z,hZ,hZs⟩:=e5
     generalize zdv (wTo b 64)=cs at*
     go_upto_region 14 with fail
     apply wp_region_lit
     refine zfg rfl 206 _ rfl (some 92) rfl (w.heap.size+1) cs rfl 206 (0,0) _ e3 Tryz.underlying206 rfl (by rw[hs64];kernel_rfl) ?_
     refine wpList_store_rowTo rfl 206 _ _ rfl rfl w.heap.size cs rfl rfl 206 Z hZ (by rw[hs64];kernel_rfl) (by rw[hs64];exact hZs) hone ?_
     apply wpList_nil
     go_wp2_with fail
     refine bodyPost_ret (results_cell_row rfl _ _ w.heap.size 206 _ (0,0) _ rfl (setRow_heap _ _ _ _ _ _ hZ) Tryz.underlying206 rfl (by rw[hs64];kernel_rfl)) rfl ?_
     exact⟨_,rfl,e2.setRow (Nat.le_refl _) _,by rw[hval]⟩
end
section
theorem zsd{a b c:World}{g:Option Nat}(h:a.grownBy b g)(k:b.grownBy c g):a.grownBy c g:=
 ⟨k.os.trans h.os,k.tape.trans h.tape,k.output.trans h.output,Nat.le_trans h.size k.size,λi hi hn=>(k.block i (Nat.lt_of_lt_of_le hi h.size) hn).trans (h.block i hi hn)⟩
theorem zvq{a b:World}{g:Option Nat}(h:a.grownBy b g):a.grownBy b.drew g:=⟨h.os,h.tape,h.output,h.size,h.block⟩
theorem zsl{a b:World}{g:Option Nat}(h:a.grownBy b g)(n:Nat):a.grownBy (b.drewN n) g:=⟨h.os,h.tape,h.output,h.size,h.block⟩
theorem zz4{a b:World}(h:Ext a b)(g:Option Nat):a.grownBy b g:=⟨h.os,h.tape,h.output,h.size,λk hk _=>h.block k hk⟩
theorem zgf{a b:World}{g:Nat}(h:a.grownBy b (some g)){p:Addr}(hp:p.block=g)(v:Value):a.grownBy (b.setCell p v) (some g):=
 ⟨h.os,h.tape,h.output,by simpa[World.setCell]using h.size,λk hk hn=>(Below.heap_setCell _ _ _ _ (λe=>hn (by rw[e,hp]))).trans (h.block k hk hn)⟩
section
variable {P:Program} {ops:Array Oper} {rest:List Oper} {o:Oper} {a:Act} {w:World} {Q:Exit->Act->World->Prop}
theorem zdf(hgd:o.guard=none)(ty:TypeId)(ho:o.op= .alloc ty)(d:Option Tmp)(hd:o.dst=d)(n:Nat)
  (hi:((P.info? ty).bind (·.zero)).map (·.cells.size)=some n)
  (h: ∀(w':World) (Z:Array Value),Z.size=n->w'.heap[w.heap.size]?=some (.cells Z ty (0,0))->w'.heap.size=w.heap.size+1->Ext w w'->wpList P ops Q rest (a.put d (.pointer (some ⟨w.heap.size,0,none⟩))) w'):
  wpList P ops Q (o::rest) a w:=by
 subst hd
 cases hp:P.info? ty with
 |none=>simp[hp]at hi
 |some i=>
  cases hz:i.zero with
  |none=>simp[hp,hz]at hi
  |some z=>
   simp only[hp,hz,Option.bind_some,Option.map_some,Option.some.injEq]at hi
   refine wpList_plain hgd λK hK=>?_
   have hr:(execOp a.eval o).run P w= .ok (.value (.pointer (some ⟨w.heap.size,0,none⟩))) (w.alloc (.cells z.cells ty)):=by
    unfold execOp
    simp[ho,Instr.alloc,zeroValue,typeInfo,hp,hz,newVar,newRow,newObj,Result.andThen]
    rfl
   unfold Oper.wp
   rw[hr,Oper.upon_value]
   exact hK _ _ (h _ _ hi (heap_alloc_new w _) (by rw[World.alloc];simp) (za3 w _))
theorem zd0(hgd:o.guard=none)(ty:TypeId)(x y:Operand)(ho:o.op= .store ty x y)(hd:o.dst=none)(g:Nat)(cells:Array Value)
  (hx:a.eval x= .pointer (some ⟨g,0,none⟩)) (hy:a.eval y= .agg cells) (t:TypeId) (old:Array Value) (hg:w.heap[g]?=some (.cells old t (0,0))) (hi:(P.info? ty).map (·.size)=some cells.size)
  (hold:old.size=cells.size) (h1:cells.all (·.oneCell')=true)
  (h: ∀w':World,w'.heap[g]?=some (.cells cells t (0,0))->w'.heap.size=w.heap.size->w.grownBy w' (some g)->wpList P ops Q rest (a.put none undef) w'):wpList P ops Q (o::rest) a w:=by
 refine wpList_store_row hgd ty x y ho g cells hx hy t old hg hi hold h1 ?_
 rw[hd]
 refine h _ (setRow_heap w g _ cells t (0,0) hg) (by simp[World.setRow]) ⟨rfl,rfl,rfl,by simp[World.setRow],λk hk hn=>setRow_other w g k _ (λe=>hn (by rw[e]))⟩
theorem zug(hgd:o.guard=none)(s x:Operand)(dT sT elem:TypeId)(ho:o.op= .call {callee:= .builtin .copy,args:= #[s,x],argTypes:= #[dT,sT]})
  (hu:P.underlying dT=some (.slice elem)) (hs1:(P.info? elem).map (·.size)=some 1) (g od dLen dCap:Nat) (ad:Addr) (sLen sCap:Nat) (cur:Array Value) (t:TypeId) (cs:List Value)
  (hs:a.eval s= .slice (some ⟨g,od,none⟩) dLen dCap) (hx:a.eval x= .slice (some ad) sLen sCap) (hg:w.heap[g]?=some (.cells cur t (0,0))) (hn:cs.length=Nat.min sLen dLen)
  (hsrc: ∀j v,cs[j]?=some v->w.cell? (ad.add j)=some v) (hfit:od+cs.length<=cur.size) (h1: ∀v∈cs,v.oneCell'=true)
  (h: ∀w':World,w'.heap[g]?=some (.cells (cur.toList.take od++cs++cur.toList.drop (od+cs.length)).toArray t (0,0))->w'.heap.size=w.heap.size->w.grownBy w' (some g)->wpList P ops Q rest (a.put o.dst (goInt cs.length)) w'):
  wpList P ops Q (o::rest) a w:=by
 have hr:=run_copy_row P w dT sT o.type elem g od dLen dCap ad sLen sCap cur t cs hu hs1 hg hn hsrc hfit h1
 refine wpList_plain hgd λK hK=>?_
 unfold Oper.wp execOp
 simp only[ho,resolve,invoke,builtin,Sem.run_bind,Sem.run_pure,Result.andThen_ok,List.map_toArray,List.map_cons,List.map_nil,hs,hx,hr]
 exact hK _ _ (h _ (setRow_heap w g _ _ t (0,0) hg) (by simp[World.setRow]) ⟨rfl,rfl,rfl,by simp[World.setRow],λk hk hn=>setRow_other w g k _ (λe=>hn (by rw[e]))⟩)
end
end
section
theorem zghb{e:Nat}(he:e<4294967296):4294967295^^^e=4294967295-e:=by
 have h1:(~~~(BitVec.ofNat 32 e)).toNat=2^32-1-(BitVec.ofNat 32 e).toNat:=BitVec.toNat_not
 rw[BitVec.not_def,BitVec.toNat_xor,BitVec.toNat_allOnes,BitVec.toNat_ofNat,Nat.mod_eq_of_lt (by omega)]at h1
 simpa using h1
theorem ze3b{k w:Nat}{s:H8}(h:s.ok): ∃X1 A1 NE A2 CH S1 S2 S3 T1:Nat,
  bits BinOp.xor IntKind.u32 (rotr 6 s.e:Int) (rotr 11 s.e:Int)=(X1:Int)/\bits BinOp.xor IntKind.u32 (X1:Int) (rotr 25 s.e:Int)=(bs1 s.e:Int)/\
  IntKind.u32.wrap ((s.h:Int)+(bs1 s.e:Int))=(S1:Int)/\
  bits BinOp.and IntKind.u32 (s.e:Int) (s.f:Int)=(A1:Int)/\bits BinOp.xor IntKind.u32 IntKind.u32.max (s.e:Int)=(NE:Int)/\bits BinOp.and IntKind.u32 (NE:Int) (s.g:Int)=(A2:Int)/\
  bits BinOp.xor IntKind.u32 (A1:Int) (A2:Int)=(CH:Int)/\IntKind.u32.wrap ((S1:Int)+(CH:Int))=(S2:Int)/\
  IntKind.u32.wrap ((S2:Int)+(k:Int))=(S3:Int)/\IntKind.u32.wrap ((S3:Int)+(w:Int))=(T1:Int)/\T1=t1N k w s%4294967296/\
  ((S1:Int)+(CH:Int))%4294967296=(S2:Int)/\((S1:Int)+(CH:Int)+(k:Int))%4294967296=(S3:Int)/\((S1:Int)+(CH:Int)+(k:Int)+(w:Int))%4294967296=(T1:Int)/\((S3:Int)+(w:Int))%4294967296=(T1:Int):=by
 obtain⟨ha,hb,hc,hd,he,hf,hg,hh⟩:=h
 have r6:=zcr (n:=6) he (by omega) (by omega)
 have r11:=zcr (n:=11) he (by omega) (by omega)
 have r25:=zcr (n:=25) he (by omega) (by omega)
 have hch:(s.e&&&s.f)^^^((4294967295-s.e)&&&s.g)=chN s.e s.f s.g:=rfl
 refine⟨_,_,4294967295-s.e,_,_,(s.h+bs1 s.e)%4294967296,(s.h+bs1 s.e+chN s.e s.f s.g)%4294967296,(s.h+bs1 s.e+chN s.e s.f s.g+k)%4294967296,_,
  u32_xor_nat _ _ r6 r11,u32_xor_nat _ _ (zdy r6 r11) r25,?_,u32_and_nat _ _ he hf,?_,u32_and_nat _ _ (by omega) hg,u32_xor_nat _ _ (zf0 he) (zf0 (by omega)),?_,?_,?_,rfl,?_,?_,?_,?_⟩
 ·rw[zem (n:=s.h+bs1 s.e) (by omega)]
 ·rw[show IntKind.u32.max=((4294967295:Nat):Int)from rfl,u32_xor_nat _ _ (by omega) he,zghb he]
 ·rw[hch,zem (n:=(s.h+bs1 s.e)%4294967296+chN s.e s.f s.g) (by omega)];omega
 ·rw[zem (n:=(s.h+bs1 s.e+chN s.e s.f s.g)%4294967296+k) (by omega)];omega
 ·rw[zem (n:=(s.h+bs1 s.e+chN s.e s.f s.g+k)%4294967296+w) (by omega)]
  unfold t1N;omega
 ·rw[hch];omega
 ·rw[hch];omega
 ·rw[hch];unfold t1N;omega
 ·unfold t1N;omega
theorem zejb{s:H8}(h:s.ok): ∃X1 A1 A2 A3 M1 MJ T2:Nat,
  bits BinOp.xor IntKind.u32 (rotr 2 s.a:Int) (rotr 13 s.a:Int)=(X1:Int)/\bits BinOp.xor IntKind.u32 (X1:Int) (rotr 22 s.a:Int)=(bs0 s.a:Int)/\
  bits BinOp.and IntKind.u32 (s.a:Int) (s.b:Int)=(A1:Int)/\bits BinOp.and IntKind.u32 (s.a:Int) (s.c:Int)=(A2:Int)/\bits BinOp.xor IntKind.u32 (A1:Int) (A2:Int)=(M1:Int)/\
  bits BinOp.and IntKind.u32 (s.b:Int) (s.c:Int)=(A3:Int)/\bits BinOp.xor IntKind.u32 (M1:Int) (A3:Int)=(MJ:Int)/\
  IntKind.u32.wrap ((bs0 s.a:Int)+(MJ:Int))=(T2:Int)/\T2=t2N s%4294967296:=by
 obtain⟨ha,hb,hc,hd,he,hf,hg,hh⟩:=h
 have r2:=zcr (n:=2) ha (by omega) (by omega)
 have r13:=zcr (n:=13) ha (by omega) (by omega)
 have r22:=zcr (n:=22) ha (by omega) (by omega)
 have hmj:((s.a&&&s.b)^^^(s.a&&&s.c))^^^(s.b&&&s.c)=majN s.a s.b s.c:=rfl
 refine⟨_,_,_,_,_,_,_,u32_xor_nat _ _ r2 r13,u32_xor_nat _ _ (zdy r2 r13) r22,u32_and_nat _ _ ha hb,u32_and_nat _ _ ha hc,u32_xor_nat _ _ (zf0 ha) (zf0 ha),u32_and_nat _ _ hb hc,u32_xor_nat _ _ (zdy (zf0 ha) (zf0 ha)) (zf0 hb),?_,rfl⟩
 rw[hmj,zem (n:=bs0 s.a+majN s.a s.b s.c) (by omega)]
 rfl
end
section
def s8(s:H8):Array Value:=(s.list.map u32v).toArray
def k64:Array Value:=(kInts.map (Value.int .u32)).toArray
def w64(b:List UInt8):Array Value:=((wTo b 64).map u32v).toArray
theorem z3u:k64.size=64:=rfl
theorem z3c(b:List UInt8):(w64 b).size=64:=by simp[w64,zcl]
theorem ze4b{t:Nat}(ht:t<64):k64[t]?=some (.int .u32 ((kTab.getD t 0:Nat):Int)):=by
 have h:t<kTab.length:=ht
 unfold k64 kInts
 rw[List.getElem?_toArray,List.getElem?_map,List.getElem?_map,List.getElem?_eq_getElem h,List.getD_eq_getElem?_getD,List.getElem?_eq_getElem h]
 rfl
theorem zexb(b:List UInt8){t:Nat}(ht:t<64):(w64 b)[t]?=some (.int .u32 (((wTo b 64).getD t 0:Nat):Int)):=by
 have h:t< (wTo b 64).length:=by rw[zcl];exact ht
 unfold w64
 rw[List.getElem?_toArray,List.getElem?_map,List.getElem?_eq_getElem h,List.getD_eq_getElem?_getD,List.getElem?_eq_getElem h]
 rfl
theorem z9z(s:H8):(s8 s).all (·.oneCell')=true:=by simp[s8,u32v,Value.oneCell']
theorem ztu(s:H8):(s8 s).size=8:=rfl
theorem zs7{w:World}{G:Nat}{s:H8}(h:w.heap[G]?=some (.cells (s8 s) 184 (0,0))):
  w.cell? ⟨G,0,none⟩=some (.int .u32 (s.a:Int))/\w.cell? ⟨G,1,none⟩=some (.int .u32 (s.b:Int))/\w.cell? ⟨G,2,none⟩=some (.int .u32 (s.c:Int))/\w.cell? ⟨G,3,none⟩=some (.int .u32 (s.d:Int))/\
  w.cell? ⟨G,4,none⟩=some (.int .u32 (s.e:Int))/\w.cell? ⟨G,5,none⟩=some (.int .u32 (s.f:Int))/\w.cell? ⟨G,6,none⟩=some (.int .u32 (s.g:Int))/\w.cell? ⟨G,7,none⟩=some (.int .u32 (s.h:Int)):=by
 refine⟨?_,?_,?_,?_,?_,?_,?_,?_⟩<;>(rw[cell_of_row w _ _ _ _ _ h];rfl)
theorem zi4(n x:Nat)(N:Int)(hN:N=(n:Int))(hx:x<4294967296)(hn:n=2\/n=6\/n=7\/n=11\/n=13\/n=17\/n=18\/n=19\/n=22\/n=25)(w:World):
  Calls Tryz.prog 195 #[.int .u32 (x:Int), .int .i64 N] w λe w'=>e= .returned (.int .u32 (rotr n x:Int))/\w'=w:=by
 subst hN
 exact(zis n x hx hn w).mono λ_ _ ⟨h1,h2⟩=>⟨h1,h2.symm⟩
theorem z8r{w:World}{G:Nat}{s s':H8}(h:w.heap[G]?=some (.cells (s8 s) 184 (0,0))){j:Nat}{v:Value}(hv:(s8 s).setIfInBounds j v=s8 s'):
  (w.setCell ⟨G,j,none⟩ v).heap[G]?=some (.cells (s8 s') 184 (0,0)):=by
 rw[setCell_eq_setRow _ _ _ _ _ _ _ h,setRow_heap _ _ _ _ _ _ h,hv]
theorem ze0b{y:H8}{j:Nat}{v:Value}(h:([y.a,y.b,y.c,y.d,y.e,y.f,y.g].map u32v)[j]?=some v):(s8 y)[j]?=some v:=by
 match j,h with
 |0,h=>exact h
 |1,h=>exact h
 |2,h=>exact h
 |3,h=>exact h
 |4,h=>exact h
 |5,h=>exact h
 |6,h=>exact h
 |n+7,h=>simp at h
def zrq(s x:H8)(i:Nat):Array Value:=(((addH s x).list.take i++s.list.drop i).map u32v).toArray
theorem zxd(s x:H8){i:Nat}(hi:i<8):(zrq s x i)[i]?=some (.int .u32 ((s.list.getD i 0:Nat):Int))/\(s8 x)[i]?=some (.int .u32 ((x.list.getD i 0:Nat):Int))/\
  (zrq s x i).setIfInBounds i (.int .u32 (((s.list.getD i 0+x.list.getD i 0)%4294967296:Nat):Int))=zrq s x (i+1):=by
 match i,hi with
 |0,_=>exact⟨rfl,rfl,rfl⟩
 |1,_=>exact⟨rfl,rfl,rfl⟩
 |2,_=>exact⟨rfl,rfl,rfl⟩
 |3,_=>exact⟨rfl,rfl,rfl⟩
 |4,_=>exact⟨rfl,rfl,rfl⟩
 |5,_=>exact⟨rfl,rfl,rfl⟩
 |6,_=>exact⟨rfl,rfl,rfl⟩
 |7,_=>exact⟨rfl,rfl,rfl⟩
def zf3b(G:Nat)(s x:H8)(i:Value)(w wr:World):Prop:=
 ∃t:Nat,i= .int .i64 (t:Int)/\t<=8/\w.grownBy wr (some G)/\wr.heap[G]?=some (.cells (zrq s x t) 184 (0,0))
def zd5b(B3:Nat)(b:List UInt8)(s:H8)(i:Value)(w wr:World):Prop:=
 ∃t:Nat,i= .int .i64 (t:Int)/\t<=64/\w.grownBy wr (some B3)/\wr.heap[B3]?=some (.cells (s8 (zek b s t)) 184 (0,0))
theorem ze1b:k64.all (·.oneCell')=true:=by kernel_rfl
theorem zc5b(b:List UInt8):(w64 b).all (·.oneCell')=true:=by simp[w64,u32v,Value.oneCell']
set_option maxRecDepth 100000 in
set_option maxHeartbeats 600000 in
theorem zb7b(p:AC)(b:List UInt8){S:Nat->Prop}(w:World)(hp:By w S p b)(hl:b.length=64)(G:Nat)(s:H8)(hs:s.ok)(hG:w.heap[G]?=some (.cells (s8 s) 184 (0,0))):
  Calls Tryz.prog 170 #[.pointer (some ⟨G,0,none⟩), .slice p.a b.length p.c] w λe w'=>e= .returned (.tuple #[])/\w.grownBy w' (some G)/\w'.heap[G]?=some (.cells (s8 (zmc s b)) 184 (0,0)):=by
 obtain⟨n,hn⟩: ∃n,n=b.length:=⟨_,rfl⟩
 rw[<-hn]
 have HN:=Lib.hid hn
 have HL:=Lib.hid hl
 clear hl hn
 go_enter Tryz.func170,Tryz.ntmps170
 go_wp2_with fail
 rw[HN.out]
 refine(z71 p b w hp HL.out).mono ?_
 rintro e w1 ⟨v,rfl,hb1,rfl⟩
 rw[<-w64]
 go_wp2_with fail
 refine(z60 w1).mono ?_
 rintro e w2 ⟨v,rfl,hb2,rfl⟩
 rw[<-k64]
 iterate 2 first |go_values |go_skip |go_guarded |go_step |go_upon |go_back |go_simp
 refine zdf rfl 206 rfl (some 4) rfl 64 (by kernel_rfl) ?_
 intro w3 Z3 z3 h3 l3 x3
 refine zdf rfl 206 rfl (some 5) rfl 64 (by kernel_rfl) ?_
 intro w4 Z4 z4 h4 l4 x4
 refine zd0 rfl 206 _ _ rfl rfl w2.heap.size (w64 b) rfl rfl 206 Z3 ((x4.block _ (by omega)).trans h3) (by rw[z3c];kernel_rfl) (by rw[z3c];exact z3) (zc5b b) ?_
 intro w5 h5 l5 x5
 refine zd0 rfl 206 _ _ rfl rfl w3.heap.size k64 rfl rfl 206 Z4 ((x5.block _ (by omega) (by simp;omega)).trans h4) (by rw[z3u];kernel_rfl) (by rw[z3u];exact z4) ze1b ?_
 intro w6 h6 l6 x6
 apply wpList_nil
 go_upto_region 1 with fail
 have f2:Ext w w2:=hb1.trans hb2
 have f3:Ext w w3:=f2.trans x3
 have f4:Ext w w4:=f3.trans x4
 have f5:Ext w w5:=f4.grown x5 (λk hk=>by cases hk;exact f2.size)
 have f6:Ext w w6:=f5.grown x6 (λk hk=>by cases hk;exact f3.size)
 have hGl:G<w.heap.size:=(Array.getElem?_eq_some_iff.1 hG).1
 have hG6:w6.heap[G]?=some (.cells (s8 s) 184 (0,0)):=(f6.block G hGl).trans hG
 have q1:w6.heap[w2.heap.size]?=some (.cells (w64 b) 206 (0,0)):=(x6.block _ (by omega) (by simp;omega)).trans h5
 have s8s:(s8 s).size=8:=rfl
 apply wp_region_lit
 refine Great.wpList_runTo rfl (some 16) rfl (.pointer (some ⟨G,0,none⟩)) w6 rfl ?_
 refine Great.wpList_runTo rfl (some 17) rfl (.pointer (some ⟨G,0,none⟩)) w6 rfl ?_
 refine zfg rfl 184 _ rfl (some 18) rfl G (s8 s) rfl 184 (0,0) _ hG6 Tryz.underlying184 rfl (by rw[s8s];kernel_rfl) ?_
 refine zdf rfl 184 rfl (some 6) rfl 8 (by kernel_rfl) ?_
 intro w7 Z7 z7 h7 l7 x7
 refine zd0 rfl 184 _ _ rfl rfl w6.heap.size (s8 s) rfl rfl 184 Z7 h7 (by rw[s8s];kernel_rfl) (by rw[s8s];exact z7) (z9z s) ?_
 intro w8 h8 l8 x8
 apply wpList_nil
 have f7:Ext w w7:=f6.trans x7
 have f8:Ext w w8:=f7.grown x8 (λk hk=>by cases hk;exact f6.size)
 have hB1:w8.heap[w2.heap.size]?=some (.cells (w64 b) 206 (0,0)):=(x8.block _ (by omega) (by simp;omega)).trans ((x7.block _ (by omega)).trans q1)
 have hB2:w8.heap[w3.heap.size]?=some (.cells k64 206 (0,0)):=(x8.block _ (by omega) (by simp;omega)).trans ((x7.block _ (by omega)).trans h6)
 have hG8:w8.heap[G]?=some (.cells (s8 s) 184 (0,0)):=(f8.block G hGl).trans hG
 obtain⟨B1,e1⟩: ∃B1,B1=w2.heap.size:=⟨_,rfl⟩
 obtain⟨B2,e2⟩: ∃B2,B2=w3.heap.size:=⟨_,rfl⟩
 obtain⟨B3,e3⟩: ∃B3,B3=w6.heap.size:=⟨_,rfl⟩
 have n1:B1≠B3:=by omega
 have n2:B2≠B3:=by omega
 have n3:w.heap.size<=B3:=by rw[e3];exact f6.size
 have n4:B3<w8.heap.size:=by omega
 have n5:B1<w8.heap.size:=by omega
 have n6:B2<w8.heap.size:=by omega
 have n7:G<w8.heap.size:=Nat.lt_of_lt_of_le hGl f8.size
 rw[<-e1]at hB1⊢
 rw[<-e2]at hB2⊢
 rw[<-e3]at h8⊢
 clear e1 e2 e3 h3 l3 x3 h4 l4 x4 h5 l5 x5 h6 l6 x6 h7 l7 x7 l8 x8 q1 hG6 z3 z4 z7 f2 f3 f4 f5 f6 f7 hb1 hb2
 generalize p.c=pc
 generalize p.a=pa
 have d8:Hid (w8=w8):=Lib.hid rfl
 go_wp2_with fail
 go_loopw [19] (λi wr=>zd5b B3 b s i w8 wr) (λi _=>64-(intOf i).toNat)
 case atStart=>exact⟨0,rfl,by omega,World.grownBy.refl _ _,h8⟩
 case round=>
  obtain⟨t,rfl,e1,e2,e3⟩:=hrel
  by_cases ht:t<64
  ·have ht2:(t:Int)<64:=by omega
   have ht0:(0:Int)<=t:=by omega
   have hy:=zol (b:=b) hs t
   have hck:=(cell_of_row wr B2 t _ _ _ ((e2.block B2 n6 (by simp;omega)).trans hB2)).trans (ze4b ht)
   have hcw:=(cell_of_row wr B1 t _ _ _ ((e2.block B1 n5 (by simp;omega)).trans hB1)).trans (zexb b ht)
   have hnx:zek b s (t+1)=zuv (kTab.getD t 0) ((wTo b 64).getD t 0) (zek b s t):=rfl
   obtain⟨c0,c1,c2,c3,c4,c5,c6,c7⟩:=zs7 e3
   generalize kTab.getD t 0=kt at*
   generalize (wTo b 64).getD t 0=wt at*
   generalize zek b s t=y at*
   have be:y.e<4294967296:=hy.2.2.2.2.1
   have ba:y.a<4294967296:=hy.1
   have R6:=zi4 6 y.e 6 rfl be (by omega)
   have R11:=zi4 11 y.e 11 rfl be (by omega)
   have R25:=zi4 25 y.e 25 rfl be (by omega)
   have R2:=zi4 2 y.a 2 rfl ba (by omega)
   have R13:=zi4 13 y.a 13 rfl ba (by omega)
   have R22:=zi4 22 y.a 22 rfl ba (by omega)
   obtain⟨X1,A1,NE,A2,CH,S1,S2,S3,T1,g1,g2,g3,g4,g5,g6,g7,g8,g9,g10,g11,g12,g13,g14,g15⟩:=ze3b (k:=kt) (w:=wt) hy
   obtain⟨X1',A1',A2',A3',M1',MJ',T2,k1,k2,k3,k4,k5,k6,k7,k8,k9⟩:=zejb hy
   have HT1:=Lib.hid g11
   have HT2:=Lib.hid k9
   have HNX:=Lib.hid hnx
   have HY:=Lib.hid hy
   clear g11 k9 hnx hy be ba
   go_wp2_with fail
   go_quiet (fail)
   revert nq;intro nq1
   go_wp2_with fail
   go_quiet (first |(go_at_call_of 195 (Value.int IntKind.i64 6);exact(R6 _).mono λ_ _ h=>⟨h.1,_,h.2⟩) |(go_at_call_of 195 (Value.int IntKind.i64 11);exact(R11 _).mono λ_ _ h=>⟨h.1,_,h.2⟩) |(go_at_call_of 195 (Value.int IntKind.i64 25);exact(R25 _).mono λ_ _ h=>⟨h.1,_,h.2⟩))
   revert nq;intro nq2
   go_wp2_with fail
   go_quiet (first |(go_at_call_of 195 (Value.int IntKind.i64 2);exact(R2 _).mono λ_ _ h=>⟨h.1,_,h.2⟩) |(go_at_call_of 195 (Value.int IntKind.i64 13);exact(R13 _).mono λ_ _ h=>⟨h.1,_,h.2⟩) |(go_at_call_of 195 (Value.int IntKind.i64 22);exact(R22 _).mono λ_ _ h=>⟨h.1,_,h.2⟩))
   revert nq;intro nq3
   go_wp2_with fail
   have e2':=zsl (zsl e2 (nq1+nq2)) nq3
   have e3':((wr.drewN (nq1+nq2)).drewN nq3).heap[B3]?=some (.cells (s8 y) 184 (0,0)):=e3
   clear e2 e3 c0 c1 c2 c3 c4 c5 c6 c7 hck hcw R6 R11 R25 R2 R13 R22 g1 g2 g3 g4 g5 g6 g7 g8 g9 g10 g12 g13 g14 g15 k1 k2 k3 k4 k5 k6 k7 k8
   generalize (wr.drewN (nq1+nq2)).drewN nq3=w9 at*
   go_still_tail 2,(by kernel_rfl)
   change wpList _ _ _ _ _ w9.drew
   have e2:=zvq e2'
   have e3:w9.drew.heap[B3]?=some (.cells (s8 y) 184 (0,0)):=e3'
   clear e2' e3'
   generalize w9.drew=w10 at*
   obtain⟨c0,c1,c2,c3,c4,c5,c6,c7⟩:=zs7 e3
   refine zug rfl _ _ _ _ 162 rfl Tryz.underlying210 (by kernel_rfl) B3 1 7 7 ⟨B3,0,none⟩ 7 8 (s8 y) 184 ([y.a,y.b,y.c,y.d,y.e,y.f,y.g].map u32v) rfl rfl e3 rfl ?_ (by rw[ztu];exact Nat.le_refl _) (by simp[u32v,Value.oneCell']) ?_
   ·intro j v hj
    rw[zst,cell_of_row w10 B3 _ _ _ _ e3,Nat.zero_add]
    exact ze0b hj
   intro w11 h11 l11 x11
   have e4:w11.heap[B3]?=some (.cells (s8 ⟨y.a,y.a,y.b,y.c,y.d,y.e,y.f,y.g⟩) 184 (0,0)):=h11
   have e5:=zsd e2 x11
   clear h11 e2 e3 c0 c1 c2 c3 c4 c5 c6 c7 x11
   obtain⟨c0,c1,c2,c3,c4,c5,c6,c7⟩:=zs7 e4
   have z0:w11.frozen? ⟨B3,0,none⟩=false:=by simp[World.frozen?,e4]
   have z4:w11.frozen? ⟨B3,4,none⟩=false:=by simp[World.frozen?,e4]
   obtain⟨E',hE⟩: ∃E':Nat,E'=(y.d+T1)%4294967296:=⟨_,rfl⟩
   obtain⟨A',hA⟩: ∃A':Nat,A'=(T1+T2)%4294967296:=⟨_,rfl⟩
   have v1:IntKind.u32.wrap ((y.d:Int)+(T1:Int))=(E':Int):=by rw[hE,zem (n:=y.d+T1) (by omega)]
   have v2:IntKind.u32.wrap ((T1:Int)+(T2:Int))=(A':Int):=by rw[hA,zem (n:=T1+T2) (by omega)]
   have v3:((y.d:Int)+(T1:Int))%4294967296=(E':Int):=by rw[hE];omega
   have v4:((T1:Int)+(T2:Int))%4294967296=(A':Int):=by rw[hA];omega
   have HE:=Lib.hid hE
   have HA:=Lib.hid hA
   clear hE hA
   apply wpList_nil
   go_wp2_with fail
   refine⟨⟨t+1,by simp,by omega,zgf (zgf e5 rfl _) rfl _,?_⟩,by(first |omega |(simp[intOf];done) |(simp[intOf];omega))⟩
   have hfin:(⟨A',y.a,y.b,y.c,E',y.e,y.f,y.g⟩:H8)=zek b s (t+1):=by
    rw[HNX.out,zuv,HA.out,HE.out,HT1.out,HT2.out]
    congr 1<;>omega
   rw[<-hfin]
   exact z8r (z8r e4 (s':=⟨y.a,y.a,y.b,y.c,E',y.e,y.f,y.g⟩) rfl) rfl
  ·have h64:t=64:=by omega
   have H64:=Lib.hid h64
   have f9:Ext w wr:=f8.grown e2 (λk hk=>by cases hk;exact n3)
   have q3:wr.heap[G]?=some (.cells (s8 s) 184 (0,0)):=(f9.block G hGl).trans hG
   have e3':wr.heap[B3]?=some (.cells (s8 (zek b s 64)) 184 (0,0)):=by rw[<-H64.out];exact e3
   have hw:zmc s b=addH s (zek b s 64):=rfl
   have n8:G≠B3:=by omega
   have n9:B3<wr.heap.size:=Nat.lt_of_lt_of_le n4 e2.size
   have HX:=Lib.hid hw
   clear h64 e2 e3 hw hB1 hB2 h8 hG8
   generalize zek b s 64=x at*
   go_wp2_with fail
   go_loopw [93] (λi wr'=>zf3b G s x i wr wr') (λi _=>8-(intOf i).toNat)
   case atStart=>exact⟨0,rfl,by omega,World.grownBy.refl _ _,q3⟩
   case round=>
    rename_i K0 _
    obtain⟨t,rfl,e1,e2,e3⟩:=hrel
    by_cases ht:t<8
    ·have ht2:(t:Int)<8:=by omega
     have ht0:(0:Int)<=t:=by omega
     obtain⟨a1,a2,a3⟩:=zxd s x ht
     have hc0:=(cell_of_row _ G t _ _ _ e3).trans a1
     have hc1:=(cell_of_row _ B3 t _ _ _ ((e2.block B3 n9 (by simp;omega)).trans e3')).trans a2
     clear a1 a2
     generalize s.list.getD t 0=X at*
     generalize x.list.getD t 0=Y at*
     obtain⟨R,hR⟩: ∃R:Nat,R=(X+Y)%4294967296:=⟨_,rfl⟩
     have v1:IntKind.u32.wrap ((X:Int)+(Y:Int))=(R:Int):=by rw[hR,zem (n:=X+Y) (by omega)]
     have v3:((X:Int)+(Y:Int))%4294967296=(R:Int):=by rw[hR];omega
     rw[<-hR]at a3
     have A3:=Lib.hid a3
     clear hR a3
     go_wp2_with fail
     go_still_tail 11,(by kernel_rfl)
     change wpList _ _ _ _ _ wr.drew
     have e2':=zvq e2
     have e3'':wr.drew.heap[G]?=some (.cells (zrq s x t) 184 (0,0)):=e3
     have hc0':wr.drew.cell? ⟨G,t,none⟩=some (.int .u32 (X:Int)):=hc0
     have z0:wr.drew.frozen? ⟨G,t,none⟩=false:=by simp[World.frozen?,e3'']
     clear e2 e3 hc0 hc1
     generalize wr.drew=w9 at*
     go_wp2_with fail
     refine⟨⟨t+1,by simp,by omega,zgf e2' rfl _,?_⟩,by(first |omega |(simp[intOf];done) |(simp[intOf];omega))⟩
     rw[setCell_eq_setRow _ _ _ _ _ _ _ e3'',setRow_heap _ _ _ _ _ _ e3'',A3.out]
    ·have h8:t=8:=by omega
     subst h8
     have hz:zrq s x 8=s8 (addH s x):=rfl
     go_wp2_with fail
     go_end0
     exact⟨rfl,zsd (zz4 f9 (some G)) e2,by rw[HX.out,<-hz];exact e3⟩
end
section
def zerb(n:Nat)(w:World)(v:Value)(wr:World):Prop:=
 ∃(k:Nat) (g:Option Nat),k<=zdb n/\OwB wr w.heap.size v (128::List.replicate k 0) g/\Ext w wr
def zbkb(n:Nat)(w:World)(v i:Value)(wr:World):Prop:=
 ∃(j:Nat) (done:List UInt8) (g:Option Nat),i= .int .i64 ((j:Int)-1)/\j<=8/\done.length+j=9+zdb n/\zjo n=done++beB j (n*8)/\OwB wr w.heap.size v done g/\Ext w wr
theorem z42{n k:Nat}(h:k<=zdb n):((n+(k+1))%64=56↔k=zdb n):=by
 unfold zdb at*;omega
theorem zaqb(n:Nat)(w:World)(hn:n<=1000000000000):
  Calls Tryz.prog 169 #[.int .i64 (n:Int)] w (Ret w λw' v=>∃g,OwB w' w.heap.size v (zjo n) g):=by
 go_enter Tryz.func169,Tryz.ntmps169
 go_wp2_with fail
 go_loopw [3] (λv wr=>zerb n w v wr) (λv _=>100-(match v with | .slice _ k _=>k |_=>0))
 case atStart=>exact⟨0,some w.heap.size,Nat.zero_le _,OwB.ofNew (l:=[128]) (Nat.le_refl _) rfl rfl (by decide),by(repeat (first |exact Ext.refl _ |refine Ext.drew ?_ |refine Ext.drewN ?_ _ |refine Ext.alloc ?_ _ |(refine Ext.setCell ?_ (by first |omega |(simp;done) |(simp;omega)) _) |refine Ext.trans ?_ (by assumption)))⟩
 case round=>
  obtain⟨k,g,e1,e2,e3⟩:=hrel
  have hk:k<64:=Nat.lt_of_le_of_lt e1 (zmg n)
  obtain⟨a,c,rfl⟩:=e2.form
  have hlen:(128::List.replicate k (0:UInt8)).length=k+1:=by simp
  have hiff:=z42 e1
  have hsnoc:(128::List.replicate k (0:UInt8))++[0]=128::List.replicate (k+1) 0:=by simp[List.replicate_succ']
  have HS:=Lib.hid hsnoc
  have E1:=Lib.hid e1
  clear hsnoc
  obtain⟨L,hL⟩: ∃L,L=128::List.replicate k (0:UInt8):=⟨_,rfl⟩
  rw[<-hL]at e2 hlen⊢
  have HL:=Lib.hid hL
  clear hL e1
  have hL64:L.length<=64:=by omega
  by_cases hz:k=zdb n
  ·have h56:((n:Int)+(L.length:Int))%64=56:=by have:=hiff.2 hz;omega
   have HZ:=Lib.hid hz
   have HN:=Lib.hid hlen
   clear hiff hz hlen
   go_wp2_with fail
   go_loopw [3,4] (λv i wr'=>zbkb n w v i wr') (λ_ i _=>(intOf i+1).toNat)
   case atStart=>
    refine⟨8,L,g,rfl,by omega,by have h1:=HN.out;have h2:=HZ.out;omega,?_,e2,e3⟩
    rw[HL.out,HZ.out];rfl
   case round=>
    clear e2 e3 h56 hk
    obtain⟨j,done,g,rfl,e1,e2,e3,e4,e5⟩:=hrel
    have E3:=Lib.hid e3
    have E2':=Lib.hid e2
    have E2:done.length<=73:=by have:=zmg n;omega
    obtain⟨a,c,rfl⟩:=e4.form
    clear e3 e2
    by_cases h0:j=0
    ·subst h0
     go_wp2_with fail
     go_ret
     exact⟨_,rfl,(by(repeat (first |exact Ext.refl _ |refine Ext.drew ?_ |refine Ext.drewN ?_ _ |refine Ext.alloc ?_ _ |(refine Ext.setCell ?_ (by first |omega |(simp;done) |(simp;omega)) _) |refine Ext.trans ?_ (by assumption)))),g,by rw[E3.out];simpa[beB]using e4⟩
    ·obtain⟨k,rfl⟩: ∃k,j=k+1:=⟨j-1,by omega⟩
     have ek:((k+1:Nat):Int)-1=(k:Int):=by omega
     rw[ek]
     clear h0 ek
     go_wp2_with (first |(at_builtin;refine zdn ?_))
     refine zdu (zcj (l2:=[UInt8.ofNat (n*8/256^k)]) rfl (.tmp 19) (.tmp 27) rfl rfl (e4.alloc _) rfl rfl (zzk _ ?_) ?_ ?_ ?_)
     ·rw[ztq,<-z9q];simp
     ·simp;omega
     ·have:=e5.le;simp;omega
     intro a' c' g' w' r1 r2 r3
     have r4:=(e4.alloc _).grown r2 (e5.alloc _) (Nat.le_refl _)
     go_wp2_with fail
     go_roundw
     case rel=>exact⟨k,_,g',rfl,by omega,by have:=E2'.out;simp;omega,by rw[E3.out,beB,List.append_assoc];rfl,r1,r4⟩
     case measure=>(first |omega |(simp[intOf];done) |(simp[intOf];omega))
  ·have h56: ¬((n:Int)+(L.length:Int))%64=56:=by intro h;exact hz (hiff.1 (by omega))
   have HZ:=Lib.hid hz
   have HN:=Lib.hid hlen
   clear hiff hz hlen
   go_wp2_with (first |(at_builtin;refine zdn ?_))
   refine zdu (zcj (l2:=[0]) rfl (.tmp 12) (.tmp 13) rfl rfl (e2.alloc _) rfl rfl (zzk _ rfl) ?_ ?_ ?_)
   ·simp;omega
   ·have:=e3.le;simp;omega
   intro a' c' g' w' r1 r2 r3
   have r4:=(e2.alloc _).grown r2 (e3.alloc _) (Nat.le_refl _)
   go_wp2_with fail
   go_roundw
   case rel=>exact⟨k+1,g',by have h1:=E1.out;have h2:=HZ.out;omega,by rw[<-HS.out,<-HL.out];exact r1,r4⟩
   case measure=>have h1:=HN.out;show 100-(L.length+1)<100-L.length;omega
end
section
theorem z4v(w:World):Calls Tryz.prog 168 #[] w (Ret w λ_ v=>v= .agg (s8 h0Tab)):=
 (z8f w).mono λ_ _ ⟨v,h1,h2,h3⟩=>⟨v,h1,h2,h3⟩
theorem zxi(p:AC)(b:List UInt8){S:Nat->Prop}(w:World)(hp:By w S p b)(hl:b.length=64)(G:Nat)(s:H8)(hs:s.ok)(hG:w.heap[G]?=some (.cells (s8 s) 184 (0,0))):
  Calls Tryz.prog 170 #[.pointer (some ⟨G,0,none⟩), .slice p.a 64 p.c] w λe w'=>e= .returned (.tuple #[])/\w.grownBy w' (some G)/\w'.heap[G]?=some (.cells (s8 (zmc s b)) 184 (0,0)):=by
 have:=zb7b p b w hp hl G s hs hG
 rwa[hl]at this
theorem By.take{w:World}{S:Nat->Prop}{p:AC}{l:List UInt8}(h:By w S p l){k:Nat}(hk:k<=l.length):By w S p (l.take k):=by
 have hl:=h.lens
 have:=Sl.cut (a:=p.a) (c:=p.c) h (Nat.zero_le k) hk (by omega) (λ_ b o e=>by simpa using e)
 unfold By
 rw[List.length_take,Nat.min_eq_left hk]
 simpa using this
theorem By.drop{w:World}{S:Nat->Prop}{p:AC}{l:List UInt8}(h:By w S p l){k:Nat}(hk:k<=l.length){a:Option Addr}(ha:k<l.length->∀b o,p.a=some ⟨b,o,none⟩->a=some ⟨b,o+k,none⟩):By w S ⟨a,p.c-k⟩ (l.drop k):=by
 have hl:=h.lens
 have:=Sl.cut (a:=a) (c:=p.c-k) h hk (Nat.le_refl _) (by omega) (λh b o e=>by simpa using ha h b o e)
 unfold By
 rw[List.length_drop]
 have e:((l.map bv).drop (k*1)).take ((l.length-k)*1)=(l.drop k).map bv:=by
  rw[Nat.mul_one,Nat.mul_one,List.take_of_length_le (by simp),List.map_drop]
 rwa[e]at this
def zrp(w:World)(B:Nat):Prop:=∃Z:Array Value,w.heap[B]?=some (.cells Z 159 (0,0))/\Z.size=32
def SumF(L R:List UInt8)(m n G:Nat)(q:AC)(w w':World):Prop:=
 64*m<=L.length/\R=L.drop (64*m)/\n=R.length/\w.heap.size<G/\G<w'.heap.size/\By w' (λk=>k≠G) q R/\w'.heap[G]?=some (.cells (s8 (runH m h0Tab L)) 184 (0,0))/\Ext w w'/\zrp w' w.heap.size
theorem SumF.next{L R:List UInt8}{m n G:Nat}{q:AC}{w w7 w8:World}(h:SumF L R m n G q w w7)(hR:64<=R.length)(x8:w7.grownBy w8 (some G))
  (h8:w8.heap[G]?=some (.cells (s8 (zmc (runH m h0Tab L) (R.take 64))) 184 (0,0))) {a:Option Addr} {c:Nat} (hc:c=q.c-64)
  (ha:q.c≠64->∀b o,q.a=some ⟨b,o,none⟩->a=some ⟨b,o+64,none⟩):SumF L (R.drop 64) (m+1) (n-64) G ⟨a,c⟩ w w8:=by
 obtain⟨h1,h2,h3,h4,h5,h6,h7,h9,Z,z1,z2⟩:=h
 have hlen:R.length=L.length-64*m:=by rw[h2,List.length_drop]
 have hl:=h6.lens
 refine⟨by omega,?_,?_,h4,Nat.lt_of_lt_of_le h5 x8.size,?_,?_,h9.grown x8 (λk hk=>by cases hk;omega),Z,?_,z2⟩
 ·rw[h2,List.drop_drop];congr 1
 ·rw[List.length_drop,h3]
 ·subst hc
  have:=h6.drop hR (a:=a) (λhlt b o e=>ha (by omega) b o e)
  exact this.same (Same.of_grown x8 (λb hb e=>hb (Option.some.inj e)))
 ·rw[h8,zph,h2]
 ·rw[x8.block _ (by have:=h9.size;omega) (by simp;omega)];exact z1
def zf9(s:H8)(Z:Array Value)(t:Nat):Array Value:=(((outH s).take (4*t)).map bv++Z.toList.drop (4*t)).toArray
theorem zaab(s:H8){t:Nat}(ht:t<8):(outH s).take (4*(t+1))=(outH s).take (4*t)++beB 4 (s.list.getD t 0):=by
 match t,ht with
 |0,_=>rfl
 |1,_=>rfl
 |2,_=>rfl
 |3,_=>rfl
 |4,_=>rfl
 |5,_=>rfl
 |6,_=>rfl
 |7,_=>rfl
theorem zro(A:List Value)(z v:Value)(R:List Value){k:Nat}(hk:k=A.length):(A++z::R).set k v=(A++[v])++R:=by subst hk;simp
theorem zazb(s:H8){Z:Array Value}(hZ:Z.size=32){t:Nat}(ht:t<8)(x:Nat)(hx:s.list.getD t 0=x):
  ((((zf9 s Z t).setIfInBounds (4*t) (bv (UInt8.ofNat (x/256^3)))).setIfInBounds (4*t+1) (bv (UInt8.ofNat (x/256^2)))).setIfInBounds (4*t+2) (bv (UInt8.ofNat (x/256^1)))).setIfInBounds (4*t+3) (bv (UInt8.ofNat (x/256^0)))=zf9 s Z (t+1):=by
 have hlen:((outH s).take (4*t)).length=4*t:=by rw[List.length_take,zhs];omega
 have hzl:Z.toList.length=32:=by simpa using hZ
 obtain⟨z0,z1,z2,z3,hz⟩: ∃z0 z1 z2 z3,Z.toList.drop (4*t)=z0::z1::z2::z3::Z.toList.drop (4*(t+1)):=by
  refine⟨Z.toList[4*t],Z.toList[4*t+1],Z.toList[4*t+2],Z.toList[4*t+3],?_⟩
  rw[List.drop_eq_getElem_cons (by omega),List.drop_eq_getElem_cons (i:=4*t+1) (by omega),List.drop_eq_getElem_cons (i:=4*t+1+1) (by omega),List.drop_eq_getElem_cons (i:=4*t+1+1+1) (by omega)]
  rw[show 4*(t+1)=4*t+1+1+1+1 by omega]
 apply Array.ext'
 simp only[zf9,Array.toList_setIfInBounds,zaab s ht,hz,hx,beB]
 rw[zro _ _ _ _ (by rw[List.length_map,hlen]),zro _ _ _ _ (by simp[zhs];omega),zro _ _ _ _ (by simp[zhs];omega),zro _ _ _ _ (by simp[zhs];omega)]
 simp
theorem zyn(w:World)(n:Nat)(T:TypeId)(cs:Array Value)(i:Nat)(v:Value)(hT:Tryz.prog.underlying T=some (.array n 162))(hi:i<n)(hv:cs[i]?=some v):
  (Instr.index T (.agg cs) (.int .i64 (i:Int))).run Tryz.prog w= .ok v w:=by
 have h1:(0:Int)<=(i:Int)/\(i:Int)< (n:Int):=by omega
 have hs:(Tryz.prog.info? 162).map (·.size)=some 1:=by kernel_rfl
 cases hq:Tryz.prog.info? 162 with
 |none=>simp[hq]at hs
 |some q=>
  have hq1:q.size=1:=by simpa[hq]using hs
  simp[Instr.index,run_underlying hT,asIntOf,h1,part,isAgg,run_underlying Tryz.underlying162,sizeOf,typeInfo,hq,hq1,hv,Result.andThen,go_sem]
  intro h;omega
theorem zrm{w:World}{B:Nat}{c:Array Value}{T:TypeId}{fr:Nat×Nat}(h:w.heap[B]?=some (.cells c T fr))(j:Nat)(v:Value):(w.setCell ⟨B,j,none⟩ v).heap[B]?=some (.cells (c.setIfInBounds j v) T fr):=by
 rw[setCell_eq_setRow _ _ _ _ _ _ _ h,setRow_heap _ _ _ _ _ _ h]
def zftb(s:H8)(Z:Array Value)(B:Nat)(i:Value)(w wr:World):Prop:=
 ∃t:Nat,i= .int .i64 (t:Int)/\t<=8/\w.grownBy wr (some B)/\wr.heap[B]?=some (.cells (zf9 s Z t) 159 (0,0))
theorem zq6(x:Nat)(k:Nat){D:Int}(hD:D=((256^k:Nat):Int)): ∃Y:Int,IntKind.u8.wrap ((x:Int)/D)=Y/\((x:Int)/D)%256=Y/\Value.int .u8 Y=bv (UInt8.ofNat (x/256^k)):=by
 refine⟨((x:Int)/D)%256,by rw[IntKind.wrap_u8'],rfl,?_⟩
 rw[bv,ztq,hD];simp
def SumJ(L:List UInt8)(pv:Value)(w:World)(a':Act)(w':World):Prop:=
 ∃(m n G:Nat) (q:AC) (R:List UInt8) (u8 u9 u10 u11 u12 u13 u14 u15 u16 u17 u18 u19 u20 u21 u22:Value),
  a'={tmps:= #[pv,undef, .pointer (some ⟨w.heap.size,0,none⟩), .pointer (some ⟨G,0,none⟩), .slice q.a n q.c,undef,undef,undef,u8,u9,u10,u11,u12,u13,u14,u15,u16,u17,u18,u19,u20,u21,u22,undef,undef,undef,undef,undef,undef,undef,undef,undef,undef,undef,undef,undef,undef,undef,undef,undef,undef,undef,undef,undef,undef,undef,undef,undef,undef,undef,undef,undef,undef,undef,undef,undef],defers:=[]}/\
  SumF L R m n G q w w'
def SumM(a':Act)(_:World):Nat:=match a'.tmps.getD 4 undef with | .slice _ k _=>k |_=>0
set_option maxRecDepth 100000 in
theorem zczb(p:AC)(b:List UInt8){S:Nat->Prop}(w:World)(hp:By w S p b)(hb:b.length<=100000000000):
  Calls Tryz.prog 132 #[.slice p.a b.length p.c] w (Ret w λ_ v=>v= .agg ((shaB b).map bv).toArray):=by
 go_enter Tryz.func132,Tryz.ntmps132
 go_upto_region 0 with fail
 apply wp_region_lit
 refine zdf rfl 159 rfl (some 2) rfl 32 (by kernel_rfl) ?_
 intro w1 Z1 z1 h1 l1 x1
 apply wpList_nil
 have hs1:zrp w1 w.heap.size:=⟨Z1,h1,z1⟩
 clear h1 z1
 obtain⟨L,hL⟩: ∃L,L=b++zjo b.length:=⟨_,rfl⟩
 have HL:=Lib.hid hL
 have hz:=zmg b.length
 have hLl:L.length=b.length+(9+zdb b.length):=by rw[hL,List.length_append,zqz]
 have hmod:L.length%64=0:=by rw[hLl];exact z1g _
 have HT:=Lib.hid (zqz b.length)
 clear hL
 generalize zdb b.length=z at*
 have HM:=Lib.hid hmod
 have HLl:=Lib.hid hLl
 have hL1:64<=L.length:=by omega
 have hL2:L.length<=100000000100:=by omega
 clear hmod hLl
 go_wp2_with fail
 refine wp_scope_jumps 0 (SumJ L (.slice p.a b.length p.c) w) SumM rfl ?_ ?_
 rotate_left
 ·rintro a' w7 ⟨m,n,G,q,R,u8,u9,u10,u11,u12,u13,u14,u15,u16,u17,u18,u19,u20,u21,u22,rfl,SF⟩
  have hn0:n%64=0:=by
   obtain⟨g1,g2,g3,_⟩:=id SF
   have:=HM.out
   rw[g3,g2,List.length_drop];omega
  have hL3:n<=100000000100:=by
   obtain⟨g1,g2,g3,_⟩:=id SF
   rw[g3,g2,List.length_drop];omega
  by_cases hz0:n=0
  ·obtain⟨g1,g2,g3,g4,g5,g6,g7,g8,Z,g9,g10⟩:=id SF
   have hm:m=L.length/64:=by
    rw[hz0]at g3
    have:=HM.out
    have:(L.drop (64*m)).length=0:=by rw[<-g2,<-g3]
    rw[List.length_drop]at this
    omega
   have hsh:shaB b=outH (runH m h0Tab L):=by unfold shaB;rw[<-HL.out,hm]
   generalize runH m h0Tab L=s at*
   subst hz0
   have HS:=Lib.hid hsh
   clear hsh hm g1 g2 g3 g6 SF hn0
   go_upto_region 6 with fail
   apply wp_region_lit
   refine zdf rfl 159 rfl (some 5) rfl 32 (by kernel_rfl) ?_
   intro w8 Y hY h8 l8 x8
   apply wpList_nil
   go_upto_region 7 with fail
   apply wp_region_lit
   refine zfg rfl 184 _ rfl (some 23) rfl G (s8 s) rfl 184 (0,0) _ ((x8.block G g5).trans g7) Tryz.underlying184 rfl (by rw[ztu];kernel_rfl) ?_
   have f8:Ext w w8:=g8.trans x8
   have g9':w8.heap[w.heap.size]?=some (.cells Z 159 (0,0)):=(x8.block _ (by omega)).trans g9
   obtain⟨B,hB⟩: ∃B,B=w7.heap.size:=⟨_,rfl⟩
   rw[<-hB]at h8⊢
   have hB1:w.heap.size<B:=by omega
   have hB2:B<w8.heap.size:=by omega
   have h80:w8.heap[B]?=some (.cells (zf9 s Y 0) 159 (0,0)):=by rw[h8];simp[zf9]
   clear hB l8 x8 h8 g9 g8 g7 g5
   go_wp2_with fail
   go_loopw [24] (λi wr=>zftb s Y B i w8 wr) (λi _=>8-(intOf i).toNat)
   case atStart=>exact⟨0,rfl,by omega,World.grownBy.refl _ _,h80⟩
   case round=>
    obtain⟨t,rfl,e1,e2,e3⟩:=hrel
    by_cases ht:t<8
    ·have ht2:(t:Int)<8:=by omega
     have ht0:(0:Int)<=t:=by omega
     have hget:=zyn wr 8 184 (s8 s) t _ Tryz.underlying184 ht (zxd s s ht).2.1
     have hcellE: ∀k,k<32->∃v,wr.cell? ⟨B,k,none⟩=some v:=λk hk=>by
      have hsz:(zf9 s Y t).size=32:=by
       have hYl:Y.toList.length=32:=by simpa using hY
       simp only[zf9,List.size_toArray,List.length_append,List.length_map,List.length_take,List.length_drop,zhs,hYl];omega
      exact⟨(zf9 s Y t)[k],by rw[cell_of_row wr _ k _ _ _ e3];simp[hsz,hk]⟩
     obtain⟨v0,hc0⟩:=hcellE (4*t) (by omega)
     obtain⟨v1,hc1⟩:=hcellE (4*t+1) (by omega)
     obtain⟨v2,hc2⟩:=hcellE (4*t+2) (by omega)
     obtain⟨v3,hc3⟩:=hcellE (4*t+3) (by omega)
     have hfz: ∀k,wr.frozen? ⟨B,k,none⟩=false:=λk=>by simp[World.frozen?,e3]
     have z0:=hfz (4*t)
     have z1:=hfz (4*t+1)
     have z2:=hfz (4*t+2)
     have z3:=hfz (4*t+3)
     have hstep:=zazb s hY ht _ rfl
     clear hcellE hfz
     generalize s.list.getD t 0=X at*
     obtain⟨Y0,y0,y0',y0''⟩:=zq6 X 3 (D:=16777216) rfl
     obtain⟨Y1,y1,y1',y1''⟩:=zq6 X 2 (D:=65536) rfl
     obtain⟨Y2,y2,y2',y2''⟩:=zq6 X 1 (D:=256) rfl
     obtain⟨Y3,y3,y3',y3''⟩:=zq6 X 0 (D:=1) rfl
     rw[Int.ediv_one]at y3 y3'
     rw[<-y0'',<-y1'',<-y2'',<-y3'']at hstep
     have HST:=Lib.hid hstep
     clear hstep y0'' y1'' y2'' y3''
     have a0:(0:Int)<=4*(t:Int):=by omega
     have a1:(0:Int)<=4*(t:Int)+1:=by omega
     have a2:(0:Int)<=4*(t:Int)+2:=by omega
     have a3:(0:Int)<=4*(t:Int)+3:=by omega
     have b0:4*(t:Int)<32:=by omega
     have b1:4*(t:Int)+1<32:=by omega
     have b2:4*(t:Int)+2<32:=by omega
     have b3:4*(t:Int)+3<32:=by omega
     have n0:(4*(t:Int)).toNat=4*t:=by omega
     have n1:(4*(t:Int)+1).toNat=4*t+1:=by omega
     have n2:(4*(t:Int)+2).toNat=4*t+2:=by omega
     have n3:(4*(t:Int)+3).toNat=4*t+3:=by omega
     go_wp2_with fail
     refine⟨⟨t+1,by simp,by omega,zgf (zgf (zgf (zgf e2 rfl _) rfl _) rfl _) rfl _,?_⟩,by(first |omega |(simp[intOf];done) |(simp[intOf];omega))⟩
     rw[zrm (zrm (zrm (zrm e3 _ _) _ _) _ _) _ _,HST.out]
    ·have h8:t=8:=by omega
     subst h8
     have hfin:zf9 s Y 8=((shaB b).map bv).toArray:=by
      have hYl:Y.toList.length=32:=by simpa using hY
      unfold zf9
      rw[HS.out,List.take_of_length_le (by rw[zhs];omega),List.drop_of_length_le (by omega),List.append_nil]
     have hs32:(zf9 s Y 8).size=32:=by rw[hfin];simp[zff]
     have hone:(zf9 s Y 8).all (·.oneCell')=true:=by rw[hfin];simp[Value.oneCell']
     have f9:Ext w wr:=f8.grown e2 (λk hk=>by cases hk;omega)
     have hZ:wr.heap[w.heap.size]?=some (.cells Z 159 (0,0)):=(e2.block _ (by omega) (by simp;omega)).trans g9'
     generalize zf9 s Y 8=cs at*
     go_upto_region 12 with fail
     apply wp_region_lit
     refine zfg rfl 159 _ rfl (some 55) rfl B cs rfl 159 (0,0) _ e3 Tryz.underlying159 rfl (by rw[hs32];kernel_rfl) ?_
     refine zd0 rfl 159 _ _ rfl rfl w.heap.size cs rfl rfl 159 Z hZ (by rw[hs32];kernel_rfl) (by rw[hs32];exact g10) hone ?_
     intro w9 h9 l9 x9
     apply wpList_nil
     go_wp2_with fail
     refine bodyPost_ret (results_cell_row rfl _ _ w.heap.size 159 _ (0,0) _ rfl h9 Tryz.underlying159 rfl (by rw[hs32];kernel_rfl)) rfl ?_
     exact⟨_,rfl,f9.grown x9 (λk hk=>by cases hk;exact Nat.le_refl _),by rw[hfin]⟩
  ·have hz1:64<=n:=by omega
   obtain⟨g1,g2,g3,g4,g5,g6,g7,g8,g9⟩:=id SF
   have SG:=Lib.hid SF
   have hR1:64<=R.length:=by omega
   have hn1:64<=n:=by omega
   have hc:=g6.lens
   have hpos:(0:Int)< (n:Int):=by omega
   have hc64:(64:Int)<=(q.c:Int):=by omega
   have hnc:n<=q.c:=by omega
   obtain⟨qb,qo,hqa,_⟩:=g6.form (by omega)
   rw[hqa]
   have hq:q=⟨some ⟨qb,qo,none⟩,q.c⟩:=by rw[<-hqa]
   have hst:=zxi ⟨some ⟨qb,qo,none⟩,q.c⟩ (R.take 64) w7 (by rw[<-hq];exact g6.take hR1) (by rw[List.length_take];omega) G _ (zra m h0Tab L z4o) g7
   have HQ:=Lib.hid hqa
   clear hq g1 g2 g3 g4 g5 g6 g7 g8 g9 hqa SF
   go_wp2_with fail
   refine hst.mono ?_
   rintro e w8 ⟨rfl,x8,h8⟩
   clear hst
   go_wp2_with fail
   ·go_step3
    exact⟨rfl,⟨m+1,n-64,G,⟨some ⟨qb,qo,none⟩,0⟩,R.drop 64,_,_,_,_,_,_,_,_,_,_,_,_,_,_,_,rfl,SG.out.next hR1 x8 h8 (by omega) (λh'=>absurd h h')⟩,by simp[SumM];omega⟩
   ·go_step3
    exact⟨rfl,⟨m+1,n-64,G,⟨some ⟨qb,qo+64,none⟩,q.c-64⟩,R.drop 64,_,_,_,_,_,_,_,_,_,_,_,_,_,_,_,rfl,SG.out.next hR1 x8 h8 rfl (λ_ b o e=>by rw[HQ.out]at e;cases e;rfl)⟩,by simp[SumM];omega⟩
 ·go_wp2_with fail
  refine(z4v w1).mono ?_
  rintro e w2 ⟨v,rfl,x2,rfl⟩
  iterate 2 first |go_values |go_skip |go_guarded |go_step |go_upon |go_back |go_simp
  refine zdf rfl 184 rfl (some 3) rfl 8 (by kernel_rfl) ?_
  intro w3 Z3 z3 h3 l3 x3
  refine zd0 rfl 184 _ _ rfl rfl w2.heap.size (s8 h0Tab) rfl rfl 184 Z3 h3 (by rw[ztu];kernel_rfl) (by rw[ztu];exact z3) (z9z _) ?_
  intro w4 h4 l4 x4
  apply wpList_nil
  have f2:Ext w w2:=x1.trans x2
  have f3:Ext w w3:=f2.trans x3
  have f4:Ext w w4:=f3.grown x4 (λk hk=>by cases hk;exact f2.size)
  have n1:w.heap.size<w2.heap.size:=by have:=x2.size;omega
  have n2:w2.heap.size<w4.heap.size:=by omega
  have hs4:zrp w4 w.heap.size:=by
   obtain⟨Z,q1,q2⟩:=hs1
   exact⟨Z,(x4.block _ (by omega) (by simp;omega)).trans ((x3.block _ n1).trans ((x2.block _ (by omega)).trans q1)),q2⟩
  obtain⟨G,hG⟩: ∃G,G=w2.heap.size:=⟨_,rfl⟩
  rw[<-hG]at h4 n1 n2⊢
  clear hs1 l3 x3 l4 x4 h3 z3 hG l1 x1 x2 f2 f3
  go_wp2_with fail
  refine(zvp p b _ (hp.ext f4) (by omega)).mono ?_
  rintro e w5 ⟨v,rfl,x5,g5,o5⟩
  obtain⟨a5,c5,rfl⟩:=o5.form
  go_wp2_with fail
  refine(zaqb b.length _ (by omega)).mono ?_
  rintro e w6 ⟨v,rfl,x6,g6,o6⟩
  obtain⟨p6,rfl,b6⟩:=o6.by_
  rw[HT.out]at o6⊢
  go_wp2_with (first |(at_builtin;refine zdn ?_))
  refine zdu (zcj (l2:=zjo b.length) rfl (.tmp 10) (.tmp 13) rfl rfl (o5.ext x6) rfl HT.out.symm b6 ?_ ?_ ?_)
  ·rw[HT.out];omega
  ·have h1:=x5.size;have h2:=x6.size;omega
  intro a7 c7 g7 w7 r1 r2 r3
  have x7:Ext w4 w7:=(o5.ext x6).grown r2 (x5.trans x6) (Nat.le_refl _)
  rw[<-HL.out,<-HLl.out]at r1
  rw[<-HLl.out]
  have f7:Ext w w7:=f4.trans x7
  have h7:w7.heap[G]?=some (.cells (s8 h0Tab) 184 (0,0)):=(x7.block G n2).trans h4
  have hs7:zrp w7 w.heap.size:=by
   obtain⟨Z,q1,q2⟩:=hs4
   exact⟨Z,(x7.block _ (by omega)).trans q1,q2⟩
  obtain⟨q,hq,b7⟩:=r1.by_
  injection hq with e1 _ e2
  subst e1;subst e2
  have b7':By w7 (λk=>k≠G) q L:=b7.mono λk hk _=>by have:=f4.size;omega
  clear r1 r2 r3 b7 o5 x5 x6 b6 o6 hs4 h4
  go_wp2_with fail
  go_step3
  obtain⟨R,hR⟩: ∃R,R=L:=⟨_,rfl⟩
  obtain⟨m,hm⟩: ∃m:Nat,m=0:=⟨_,rfl⟩
  obtain⟨n,hn⟩: ∃n,n=L.length:=⟨_,rfl⟩
  have SF:SumF L R m n G q w w7:=by
   subst hm;subst hR;subst hn
   exact⟨by omega,by simp,rfl,n1,Nat.lt_of_lt_of_le n2 x7.size,b7',h7,f7,hs7⟩
  rw[<-hn]
  rw[<-hn]at hL1 hL2
  clear hR hm hn b7' h7 f7 hs7
  obtain⟨g1,g2,g3,g4,g5,g6,g7,g8,g9⟩:=id SF
  have SG:=Lib.hid SF
  have hR1:64<=R.length:=by omega
  have hn1:64<=n:=by omega
  have hc:=g6.lens
  have hpos:(0:Int)< (n:Int):=by omega
  have hc64:(64:Int)<=(q.c:Int):=by omega
  have hnc:n<=q.c:=by omega
  obtain⟨qb,qo,hqa,_⟩:=g6.form (by omega)
  rw[hqa]
  have hq:q=⟨some ⟨qb,qo,none⟩,q.c⟩:=by rw[<-hqa]
  have hst:=zxi ⟨some ⟨qb,qo,none⟩,q.c⟩ (R.take 64) w7 (by rw[<-hq];exact g6.take hR1) (by rw[List.length_take];omega) G _ (zra m h0Tab L z4o) g7
  have HQ:=Lib.hid hqa
  clear hq g1 g2 g3 g4 g5 g6 g7 g8 g9 hqa SF
  go_wp2_with fail
  refine hst.mono ?_
  rintro e w8 ⟨rfl,x8,h8⟩
  clear hst
  go_wp2_with fail
  ·go_step3
   exact⟨rfl,⟨m+1,n-64,G,⟨some ⟨qb,qo,none⟩,0⟩,R.drop 64,_,_,_,_,_,_,_,_,_,_,_,_,_,_,_,rfl,SG.out.next hR1 x8 h8 (by omega) (λh'=>absurd h h')⟩⟩
  ·go_step3
   exact⟨rfl,⟨m+1,n-64,G,⟨some ⟨qb,qo+64,none⟩,q.c-64⟩,R.drop 64,_,_,_,_,_,_,_,_,_,_,_,_,_,_,_,rfl,SG.out.next hR1 x8 h8 rfl (λ_ b o e=>by rw[HQ.out]at e;cases e;rfl)⟩⟩
end
section
theorem wpList_appRun{P:Program}{ops:Array Oper}{rest:List Oper}{o:Oper}{a:Act}{w:World}{Q:Exit->Act->World->Prop}(hgd:o.guard=none)(s x:Operand)(t u:TypeId)
  (ho:o.op= .call {callee:= .builtin .append,args:= #[s,x],argTypes:= #[t,u]}) {v y v':Value} {w':World} (hs:a.eval s=v) (hx:a.eval x=y)
  (hr:(Builtin.append_ #[t,u] o.type #[v,y]).run P w= .ok v' w') (h:wpList P ops Q rest (a.put o.dst v') w'):wpList P ops Q (o::rest) a w:=by
 refine wpList_plain hgd λK hK=>?_
 unfold Oper.wp execOp
 simp only[ho,resolve,invoke,builtin,Sem.run_bind,Sem.run_pure,Result.andThen_ok,List.map_toArray,List.map_cons,List.map_nil,hs,hx,hr]
 exact hK _ _ h
set_option maxRecDepth 100000 in
theorem z8p(n:Nat)(w:World)(hn:n<=1000000000000):
  Calls Tryz.prog 171 #[.slice none 0 0, .int .i64 (n:Int)] w (Ret w λw' v=>∃g,OwB w' w.heap.size v [] g):=by
 rcases Nat.eq_zero_or_pos n with rfl |hpos
 ·go_enter Tryz.func171,Tryz.ntmps171
  go_wp2_with fail
  go_ret
  exact⟨_,rfl,(by(repeat (first |exact Ext.refl _ |refine Ext.drew ?_ |refine Ext.drewN ?_ _ |refine Ext.alloc ?_ _ |(refine Ext.setCell ?_ (by first |omega |(simp;done) |(simp;omega)) _) |refine Ext.trans ?_ (by assumption)))),none,OwB.nil _ _⟩
 ·obtain⟨i0,hi,hz0,hz1,hz2⟩:=info_parts Tryz.infoU8
  have hr:=λty=>Lib.run_append_grow_zeros w 28 3 ty 5 i0 (.int .u8 0) .i64 .i64 Tryz.underlying28 Tryz.underlying3 hi hz0 none 0 0 [] (run_firstCells_none w.drew i0.size 0 0 0) n hpos (by rw[hz1];decide) (by omega) (by omega) (by rw[hz2];omega) (growslice_fits (by omega) (by rw[hz2];omega))
  simp only[Nat.zero_add]at hr
  have hge:=grownCap_ge w n 0 5
  have hle:=grownCap_le_maxLen w n 0 5 (by unfold maxLen;omega)
  have hcs:((([]:List Value).toArray++Builtin.zeroCells (Value.int .u8 0).cells n++Builtin.zeroCells (Value.int .u8 0).cells (grownCap w n 0 5-n))).size=grownCap w n 0 5:=by
   simp only[Array.size_append,List.size_toArray,size_zeroCells,show(Value.int IntKind.u8 0).cells.size=1 from rfl]
   simp only[List.length_nil];omega
  generalize grownCap w n 0 5=G at*
  generalize ([]:List Value).toArray++Builtin.zeroCells (Value.int .u8 0).cells n++Builtin.zeroCells (Value.int .u8 0).cells (G-n)=cs at*
  unfold maxLen at hle
  go_enter Tryz.func171,Tryz.ntmps171
  go_wp2_with (first |(at_builtin;refine zdn ?_))
  refine zdu (wpList_appRun rfl (.tmp 20) (.tmp 21) _ _ rfl rfl rfl (hr _) ?_)
  clear hr
  go_wp2_with fail
  go_ret
  refine⟨_,rfl,(by(repeat (first |exact Ext.refl _ |refine Ext.drew ?_ |refine Ext.drewN ?_ _ |refine Ext.alloc ?_ _ |(refine Ext.setCell ?_ (by first |omega |(simp;done) |(simp;omega)) _) |refine Ext.trans ?_ (by assumption)))),some w.heap.size,?_⟩
  exact⟨by simp, .inr ⟨w.heap.size,G,cs,rfl,rfl,Nat.le_refl _,heap_alloc_new w.drew _,Nat.zero_le _,by unfold maxLen;omega,by simpa using hcs,by simp⟩⟩
abbrev slv(q:AC×List UInt8):Value:= .slice q.1.a q.2.length q.1.c
def Pa(w:World)(p:AC)(ps:List (AC×List UInt8)):Prop:=Sl w (λ_=>True) 1 p ps.length (ps.map slv)/\∀q∈ps,By w (λ_=>True) q.1 q.2
def catB(ps:List (AC×List UInt8)):List UInt8:=ps.flatMap (·.2)
theorem Pa.ext{w w':World}{p:AC}{ps:List (AC×List UInt8)}(h:Pa w p ps)(k:Ext w w'):Pa w' p ps:=⟨Sl.ext h.1 k,λq hq=>(h.2 q hq).ext k⟩
theorem Pa.at_{w:World}{p:AC}{ps:List (AC×List UInt8)}(h:Pa w p ps){k:Nat}(hk:k<ps.length): ∃b o,p.a=some ⟨b,o,none⟩/\w.cell? ⟨b,o+k,none⟩=some (slv ps[k])/\By w (λ_=>True) ps[k].1 ps[k].2:=by
 obtain⟨b,o,e,_,_,hc⟩:=Sl.at_ h.1 (by omega)
 exact⟨b,o,e,hc k _ (by simp[hk]),h.2 _ (List.getElem_mem hk)⟩
theorem zz9(ps:List (AC×List UInt8)){k:Nat}(hk:k<ps.length):catB (ps.take (k+1))=catB (ps.take k)++ps[k].2:=by
 unfold catB
 rw[List.take_add_one,List.flatMap_append,List.getElem?_eq_getElem hk];simp
theorem z9k(ps:List (AC×List UInt8))(k:Nat):(catB (ps.take k)).length<=(catB ps).length:=by
 have h:catB ps=catB (ps.take k)++catB (ps.drop k):=by
  unfold catB;rw[<-List.flatMap_append,List.take_append_drop]
 rw[h,List.length_append];omega
def zdfb(ps:List (AC×List UInt8))(s i:Value)(w wr:World):Prop:=
 ∃j:Nat,i= .int .i64 (j:Int)/\j<=ps.length/\s= .int .i64 ((catB (ps.take j)).length:Int)/\Ext w wr
def zeeb(ps:List (AC×List UInt8))(s i:Value)(base:Nat)(w wr:World):Prop:=
 ∃(j:Nat) (g:Option Nat),i= .int .i64 (j:Int)/\j<=ps.length/\OwB wr base s (catB (ps.take j)) g/\Ext w wr
set_option maxRecDepth 100000 in
theorem z6s(p:AC)(ps:List (AC×List UInt8))(w:World)(hp:Pa w p ps)(hl:(catB ps).length<=1000000000000):
  Calls Tryz.prog 133 #[.slice p.a ps.length p.c] w (Ret w λw' v=>∃g,OwB w' w.heap.size v (catB ps) g):=by
 have hlen:=Sl.capLe hp.1
 unfold maxLen at hlen
 obtain⟨N,hN⟩: ∃N,N=ps.length:=⟨_,rfl⟩
 have HN:=Lib.hid hN
 have hN63:N<=9223372036854775807:=by omega
 rw[<-hN]
 clear hN hlen
 go_enter Tryz.func133,Tryz.ntmps133
 go_wp2_with fail
 go_loopw [3,11] (λs i wr=>zdfb ps s i w wr) (λ_ i _=>N-(intOf i).toNat)
 case atStart=>exact⟨0,rfl,Nat.zero_le _,rfl,Ext.refl _⟩
 case round=>
  obtain⟨j,rfl,e1,rfl,e3⟩:=hrel
  rw[<-HN.out]at e1
  by_cases hj:j<N
  ·have hj':j<ps.length:=by rw[<-HN.out];exact hj
   obtain⟨b,o,hpa,hc,hby⟩:=(hp.ext e3).at_ hj'
   have hcat:=zz9 ps hj'
   have hle:=z9k ps (j+1)
   rw[hcat,List.length_append]at hle
   have hL:(catB (ps.take (j+1))).length=(catB (ps.take j)).length+ps[j].2.length:=by rw[hcat,List.length_append]
   have HLL:=Lib.hid hL
   have hj0:(0:Int)<=(j:Int):=by omega
   have hjN:(j:Int)< (N:Int):=by omega
   generalize ps[j]=q at*
   generalize (catB (ps.take j)).length=A at*
   have hA:A+q.2.length<=1000000000000:=by omega
   rw[hpa]
   clear hpa hcat hle hL hby
   go_wp2_with fail
   go_roundw
   case rel=>exact⟨j+1,by simp,by have:=HN.out;omega,by rw[HLL.out];simp,e3⟩
   case measure=>(first |omega |(simp[intOf];done) |(simp[intOf];omega))
  ·have hjN:j=N:=by omega
   have HJ:=Lib.hid hjN
   have hall:catB (ps.take j)=catB ps:=by rw[hjN,HN.out,List.take_length]
   obtain⟨A,hA⟩: ∃A,A=(catB (ps.take j)).length:=⟨_,rfl⟩
   have hAl:A<=1000000000000:=by rw[hA,hall];exact hl
   rw[<-hA]
   clear hA hall hjN
   go_wp2_with fail
   refine(z8p A _ hAl).mono ?_
   rintro e w1 ⟨v,rfl,hb1,g1,o1⟩
   go_wp2_with fail
   go_loopw [6,27] (λs i wr'=>zeeb ps s i wr.heap.size wr wr') (λ_ i _=>N-(intOf i).toNat)
   case atStart=>exact⟨0,g1,rfl,Nat.zero_le _,o1,hb1⟩
   case round=>
    rename_i K0 _
    obtain⟨k,g,rfl,d1,d2,d3⟩:=hrel
    rw[<-HN.out]at d1
    have hf:=e3
    by_cases hk:k<N
    ·have hk':k<ps.length:=by rw[<-HN.out];exact hk
     obtain⟨b,o,hpa,hc,hby⟩:=(hp.ext (hf.trans d3)).at_ hk'
     have hcat:=zz9 ps hk'
     have hle:=z9k ps (k+1)
     rw[hcat,List.length_append]at hle
     have HC:=Lib.hid hcat
     have hk0:(0:Int)<=(k:Int):=by omega
     have hkN:(k:Int)< (N:Int):=by omega
     generalize ps[k]=q at*
     obtain⟨a,c,rfl⟩:=d2.form
     generalize catB (ps.take k)=L at*
     rw[hpa]
     clear hpa hcat
     go_wp2_with (first |(at_builtin;refine zdn ?_))
     refine zdu (zcj rfl (.tmp 31) (.tmp 32) rfl rfl d2 rfl rfl hby ?_ ?_ ?_)
     ·omega
     ·have h2:=d3.size;omega
     intro a' c' g' w' r1 r2 r3
     have r4:=d2.grown r2 d3 (Nat.le_refl _)
     go_wp2_with fail
     go_roundw
     case rel=>exact⟨k+1,g',by simp,by have:=HN.out;omega,by rw[HC.out];exact r1,r4⟩
     case measure=>(first |omega |(simp[intOf];done) |(simp[intOf];omega))
    ·have hkN:k=N:=by omega
     have hall:catB (ps.take k)=catB ps:=by rw[hkN,HN.out,List.take_length]
     obtain⟨a,c,rfl⟩:=d2.form
     go_wp2_with fail
     go_ret
     exact⟨_,rfl,hf.trans d3,g,by rw[hall]at d2⊢;exact d2.base_mono e3.size⟩
set_option maxRecDepth 100000 in
theorem z4t(p:AC)(ps:List (AC×List UInt8))(w:World)(hp:Pa w p ps)(hl:(catB ps).length<=100000000000):
  Calls Tryz.prog 92 #[.slice p.a ps.length p.c] w (Ret w λw' v=>∃g,OwB w' w.heap.size v (shaB (catB ps)) g):=by
 go_enter Tryz.func92,Tryz.ntmps92
 go_wp2_with fail
 refine(z6s p ps _ hp (by omega)).mono ?_
 rintro e w1 ⟨v,rfl,x1,g1,o1⟩
 obtain⟨q,rfl,b1⟩:=o1.by_
 go_wp2_with fail
 refine(zczb q (catB ps) _ b1 hl).mono ?_
 rintro e w2 ⟨v,rfl,x2,rfl⟩
 have hs32:((shaB (catB ps)).map bv).toArray.size=32:=by simp[zff]
 have hone:((shaB (catB ps)).map bv).toArray.all (·.oneCell')=true:=by simp[Value.oneCell']
 obtain⟨cs,hcs⟩: ∃cs,cs=((shaB (catB ps)).map bv).toArray:=⟨_,rfl⟩
 rw[<-hcs]at hs32 hone⊢
 have HC:=Lib.hid hcs
 clear hcs
 iterate 2 first |go_values |go_skip |go_guarded |go_step |go_upon |go_back |go_simp
 refine zdf rfl 159 rfl (some 3) rfl 32 (by kernel_rfl) ?_
 intro w3 Z3 z3 h3 l3 x3
 refine zd0 rfl 159 _ _ rfl rfl w2.heap.size cs rfl rfl 159 Z3 h3 (by rw[hs32];kernel_rfl) (by rw[hs32];exact z3) hone ?_
 intro w4 h4 l4 x4
 apply wpList_nil
 have f2:Ext w w2:=x1.trans x2
 have f4:Ext w w4:=(f2.trans x3).grown x4 (λk hk=>by cases hk;exact f2.size)
 have hB:w.heap.size<=w2.heap.size:=f2.size
 generalize w2.heap.size=B at*
 clear x4 l4 l3 h3 x3 x2 x1 f2
 go_wp2_with fail
 go_ret
 refine⟨_,rfl,f4,none,?_⟩
 have hs:=Sl.block (S:=(w.heap.size<= ·)) (sz:=1) (n:=32) (c:=32) h4 hB (by rw[hs32]) (Nat.le_refl _) (by unfold maxLen;omega)
 rw[HC.out]at hs
 unfold OwB
 rw[zff]
 exact⟨by simp[zff], .inl ⟨rfl,_,rfl,hs⟩⟩
end
end Go.Proofs.YtpdllgbfemnemaaGreat
