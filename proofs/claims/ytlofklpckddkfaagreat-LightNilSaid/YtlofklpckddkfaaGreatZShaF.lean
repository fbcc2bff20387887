import Derived.Test.YtlofklpckddkfaaGreatZOnes
import Derived.Test.YtlofklpckddkfaaGreatZSha
import Derived.Deep.Cut
import Derived.StillTailTactics
import Derived.IntWalk
import Derived.Great.BuildSlice
import Derived.Deep.WholeRow
import Derived.Great.Walk
import Derived.Laws.CopyRow
namespace Go.Proofs.YtlofklpckddkfaaGreat
open Go.RowKit
set_option linter.unusedVariables false
section
theorem zb9{x:Int}{n:Nat}(h:x=(n:Int)):IntKind.u32.wrap x=((n%4294967296:Nat):Int):=by rw[IntKind.wrap_u32',h];omega
theorem zc4{x:Int}{n:Nat}(h:x=(n:Int))(hn:n<4294967296):IntKind.u32.wrap x=(n:Int):=by rw[zb9 h,Nat.mod_eq_of_lt hn]
theorem z80{n x:Nat}(hx:x<4294967296)(h1:1<=n)(h2:n<=31):(x*2^(32-n))%4294967296|||x/2^n=rotr n x:=by
 unfold rotr
 have hp:=za3 n
 have hq:=za3 (32-n)
 have e:2^(32-n)*2^n=4294967296:=by rw[<-Nat.pow_add,show 32-n+n=32 by omega]
 have hd:x/2^n<2^(32-n):=Nat.div_lt_of_lt_mul (by rw[Nat.mul_comm,e];exact hx)
 have hm:x*2^(32-n)%4294967296=x%2^n*2^(32-n):=by
  rw[<-e,Nat.mul_comm x,Nat.mul_mod_mul_left,Nat.mul_comm]
 rw[hm,nat_join (32-n) _ _ (by simp) hd,Nat.add_comm]
theorem zdk{a b:Int}(h:a=b):Ending.returned (.int .u32 a)= .returned (.int .u32 b):=by rw[h]
theorem zdl{n x:Nat}(hx:x<4294967296)(h1:1<=n)(h2:n<=31)(A B:Nat)(ha:A=2^(32-n))(hb:B=2^n):
  bits BinOp.or IntKind.u32 ((x:Int)*(A:Int)%4294967296) ((x:Int)/(B:Int))=(rotr n x:Int):=by
 have e1:(x:Int)*(A:Int)%4294967296=((x*A%4294967296:Nat):Int):=by simp
 have e2:(x:Int)/(B:Int)=((x/B:Nat):Int):=by simp
 rw[e1,e2,u32_or_nat _ _ (Nat.mod_lt _ (by omega)) (Nat.lt_of_le_of_lt (Nat.div_le_self _ _) hx),ha,hb,z80 hx h1 h2]
set_option maxRecDepth 100000 in
theorem z1y(n x:Nat)(hx:x<4294967296)(hn:n=2\/n=6\/n=7\/n=11\/n=13\/n=17\/n=18\/n=19\/n=22\/n=25)(w:World):
  Calls Tryz.prog 496 #[.int .u32 (x:Int), .int .i64 (-(n:Int))] w λe w'=>e= .returned (.int .u32 (rotr n x:Int))/\w=w':=by
 rcases hn with rfl |rfl |rfl |rfl |rfl |rfl |rfl |rfl |rfl |rfl
 ·have hk:bits BinOp.and IntKind.u64 (IntKind.u64.wrap (-2)) 31=(30:Int):=by decide+kernel
  go_enter Tryz.func496,Tryz.ntmps496
  go_wp2_with fail
  go_ret
  exact⟨zdk (zdl hx (by omega) (by omega) 1073741824 4 rfl rfl),rfl⟩
 ·have hk:bits BinOp.and IntKind.u64 (IntKind.u64.wrap (-6)) 31=(26:Int):=by decide+kernel
  go_enter Tryz.func496,Tryz.ntmps496
  go_wp2_with fail
  go_ret
  exact⟨zdk (zdl hx (by omega) (by omega) 67108864 64 rfl rfl),rfl⟩
 ·have hk:bits BinOp.and IntKind.u64 (IntKind.u64.wrap (-7)) 31=(25:Int):=by decide+kernel
  go_enter Tryz.func496,Tryz.ntmps496
  go_wp2_with fail
  go_ret
  exact⟨zdk (zdl hx (by omega) (by omega) 33554432 128 rfl rfl),rfl⟩
 ·have hk:bits BinOp.and IntKind.u64 (IntKind.u64.wrap (-11)) 31=(21:Int):=by decide+kernel
  go_enter Tryz.func496,Tryz.ntmps496
  go_wp2_with fail
  go_ret
  exact⟨zdk (zdl hx (by omega) (by omega) 2097152 2048 rfl rfl),rfl⟩
 ·have hk:bits BinOp.and IntKind.u64 (IntKind.u64.wrap (-13)) 31=(19:Int):=by decide+kernel
  go_enter Tryz.func496,Tryz.ntmps496
  go_wp2_with fail
  go_ret
  exact⟨zdk (zdl hx (by omega) (by omega) 524288 8192 rfl rfl),rfl⟩
 ·have hk:bits BinOp.and IntKind.u64 (IntKind.u64.wrap (-17)) 31=(15:Int):=by decide+kernel
  go_enter Tryz.func496,Tryz.ntmps496
  go_wp2_with fail
  go_ret
  exact⟨zdk (zdl hx (by omega) (by omega) 32768 131072 rfl rfl),rfl⟩
 ·have hk:bits BinOp.and IntKind.u64 (IntKind.u64.wrap (-18)) 31=(14:Int):=by decide+kernel
  go_enter Tryz.func496,Tryz.ntmps496
  go_wp2_with fail
  go_ret
  exact⟨zdk (zdl hx (by omega) (by omega) 16384 262144 rfl rfl),rfl⟩
 ·have hk:bits BinOp.and IntKind.u64 (IntKind.u64.wrap (-19)) 31=(13:Int):=by decide+kernel
  go_enter Tryz.func496,Tryz.ntmps496
  go_wp2_with fail
  go_ret
  exact⟨zdk (zdl hx (by omega) (by omega) 8192 524288 rfl rfl),rfl⟩
 ·have hk:bits BinOp.and IntKind.u64 (IntKind.u64.wrap (-22)) 31=(10:Int):=by decide+kernel
  go_enter Tryz.func496,Tryz.ntmps496
  go_wp2_with fail
  go_ret
  exact⟨zdk (zdl hx (by omega) (by omega) 1024 4194304 rfl rfl),rfl⟩
 ·have hk:bits BinOp.and IntKind.u64 (IntKind.u64.wrap (-25)) 31=(7:Int):=by decide+kernel
  go_enter Tryz.func496,Tryz.ntmps496
  go_wp2_with fail
  go_ret
  exact⟨zdk (zdl hx (by omega) (by omega) 128 33554432 rfl rfl),rfl⟩
theorem ze7(n x:Nat)(hx:x<4294967296)(hn:n=2\/n=6\/n=7\/n=11\/n=13\/n=17\/n=18\/n=19\/n=22\/n=25)(w:World):
  Calls Tryz.prog 430 #[.int .u32 (x:Int), .int .i64 (n:Int)] w λe w'=>e= .returned (.int .u32 (rotr n x:Int))/\w=w':=by
 have HN:=Lib.hid hn
 have h0:n<=25:=by omega
 clear hn
 go_enter Tryz.func430,Tryz.ntmps430
 go_wp2_with fail
 refine(z1y n x hx HN.out _).mono ?_
 rintro e w' ⟨rfl,rfl⟩
 go_wp2_with fail
 go_ret
 exact⟨rfl,rfl⟩
def u32v(n:Nat):Value:= .int .u32 (n:Int)
theorem zw4(w:World):
  Calls Tryz.prog 324 #[] w (Ret w λ_ v=>v= .agg #[.int .u32 1779033703, .int .u32 3144134277, .int .u32 1013904242, .int .u32 2773480762, .int .u32 1359893119, .int .u32 2600822924, .int .u32 528734635, .int .u32 1541459225]):=by
 go_enter Tryz.func324,Tryz.ntmps324
 go_wp2_with fail
 refine bodyPost_ret (results_cell_row rfl _ _ w.heap.size 415 _ (0,0) _ rfl (heap_alloc_new w _) Tryz.underlying415 rfl (by kernel_rfl)) rfl ?_
 exact⟨_,rfl,(by(repeat (first |exact Ext.refl _ |refine Ext.drew ?_ |refine Ext.drewN ?_ _ |refine Ext.alloc ?_ _ |(refine Ext.setCell ?_ (by first |omega |(simp;done) |(simp;omega)) _) |refine Ext.trans ?_ (by assumption)))),rfl⟩
def kInts:List Int:=kTab.map Int.ofNat
theorem zu8(w:World):
  Calls Tryz.prog 429 #[] w (Ret w λ_ v=>v= .agg (kInts.map (Value.int .u32)).toArray):=by
 go_enter Tryz.func429,Tryz.ntmps429
 go_upto_region 1 with fail
 apply wp_region_lit
 refine wpList_buildFlatArrTo rfl 499 414 64 _ rfl .u32 kInts (some 1) rfl Tryz.underlying499 (by kernel_rfl) (by kernel_rfl) (by kernel_rfl) ?_
 refine wpList_store_rowTo rfl 499 _ _ rfl rfl w.heap.size (kInts.map (Value.int .u32)).toArray rfl rfl 499 _ (heap_alloc_new w _) (by kernel_rfl) (by kernel_rfl) (by kernel_rfl) ?_
 rw[World.setRow_alloc_new]
 obtain⟨cs,hcs⟩: ∃cs:Array Value,cs=(kInts.map (Value.int .u32)).toArray:=⟨_,rfl⟩
 have hs:cs.size=64:=by rw[hcs];rfl
 rw[<-hcs]
 apply wpList_nil
 go_wp2_with fail
 refine bodyPost_ret (results_cell_row rfl _ _ w.heap.size 499 _ (0,0) _ rfl (heap_alloc_new w _) Tryz.underlying499 rfl (by rw[hs];kernel_rfl)) rfl ?_
 exact⟨_,rfl,(by(repeat (first |exact Ext.refl _ |refine Ext.drew ?_ |refine Ext.drewN ?_ _ |refine Ext.alloc ?_ _ |(refine Ext.setCell ?_ (by first |omega |(simp;done) |(simp;omega)) _) |refine Ext.trans ?_ (by assumption)))),by rw[hcs]⟩
def zbw(L:List Nat):Array Value:=((L++List.replicate (64-L.length) 0).map u32v).toArray
theorem zwv{L:List Nat}(h:L.length<=64):(zbw L).size=64:=by simp[zbw];omega
theorem zwu{L:List Nat}(h:L.length<=64){j:Nat}(hj:j<L.length):(zbw L)[j]?=some (u32v (L.getD j 0)):=by
 unfold zbw
 rw[List.getElem?_toArray,List.map_append,List.getElem?_append_left (by simpa using hj)]
 simp[List.getD_eq_getElem?_getD,hj]
theorem zli{L:List Nat}(h:L.length<=64){j:Nat}(h1:L.length<=j)(h2:j<64):(zbw L)[j]?=some (u32v 0):=by
 unfold zbw
 rw[List.getElem?_toArray,List.map_append,List.getElem?_append_right (by simpa using h1)]
 rw[List.length_map,List.getElem?_map,List.getElem?_replicate,if_pos (by omega)]
 rfl
theorem znj{L:List Nat}(h:L.length<64)(x:Nat):(zbw L).setIfInBounds L.length (u32v x)=zbw (L++[x]):=by
 apply Array.ext'
 simp only[zbw,Array.toList_setIfInBounds,List.length_append,List.length_singleton,List.map_append]
 rw[show 64-L.length=(64-(L.length+1))+1 by omega,List.replicate_succ]
 simp
theorem ztc(w:World)(o o':Obj):((w.alloc o).alloc o').heap[w.heap.size+1]?=some o':=by
 have:=heap_alloc_new (w.alloc o) o'
 rwa[show(w.alloc o).heap.size=w.heap.size+1 by rw[World.alloc];simp]at this
theorem By.stands{w:World}{S:Nat->Prop}{p:AC}{l:List UInt8}(h:By w S p l)(hk:0<l.length):
  ∃b o,p.a=some ⟨b,o,none⟩/\∀w',Ext w w'->∀k,k<l.length->w'.cell? ⟨b,o+k,none⟩=some (.int .u8 ((l.getD k 0).toNat:Int)):=by
 obtain⟨b,o,e,_,hb,hc⟩:=Sl.at_ h hk
 refine⟨b,o,e,λw' hw k hk=>?_⟩
 rw[hw.cells.1 b _ hb]
 exact hc k _ (by simp[hk])
theorem zyl{x0 x1 x2 x3:Nat}(h0:x0<256)(h1:x1<256)(h2:x2<256)(h3:x3<256): ∃A0 A1 A2 C1 C2:Nat,
  IntKind.u32.wrap ((x0:Int)*16777216)=(A0:Int)/\IntKind.u32.wrap ((x1:Int)*65536)=(A1:Int)/\IntKind.u32.wrap ((x2:Int)*256)=(A2:Int)/\
  bits BinOp.or IntKind.u32 (A0:Int) (A1:Int)=(C1:Int)/\bits BinOp.or IntKind.u32 (C1:Int) (A2:Int)=(C2:Int)/\
  bits BinOp.or IntKind.u32 (C2:Int) (x3:Int)=((((x0*256+x1)*256+x2)*256+x3:Nat):Int):=by
 refine⟨x0*16777216,x1*65536,x2*256,x0*16777216+x1*65536,x0*16777216+x1*65536+x2*256,zc4 (by omega) (by omega),zc4 (by omega) (by omega),zc4 (by omega) (by omega),?_,?_,?_⟩
 ·rw[u32_or_nat _ _ (by omega) (by omega),nat_join 24 _ _ (by omega) (by omega)]
 ·rw[u32_or_nat _ _ (by omega) (by omega),nat_join 16 _ _ (by omega) (by omega)]
 ·rw[u32_or_nat _ _ (by omega) (by omega),nat_join 8 _ _ (by omega) (by omega)]
  omega
theorem Ext.setRow{a w:World}(h:Ext a w){g:Nat}(hg:a.heap.size<=g)(cs:Array Value):Ext a (w.setRow g cs):=by
 refine⟨h.os,h.tape,h.output,?_,λk hk=>?_⟩
 ·have:=h.size
  simpa[World.setRow]using this
 ·rw[setRow_other w g k cs (by omega)]
  exact h.block k hk
theorem zc7{P:Program}{ops:Array Oper}{rest:List Oper}{o:Oper}{a:Act}{w:World}{Q:Exit->Act->World->Prop}(hgd:o.guard=none)(ty:TypeId)(x:Operand)(ho:o.op= .load ty x)
  (d:Option Tmp) (hd:o.dst=d) (g:Nat) (cells:Array Value) (hx:a.eval x= .pointer (some ⟨g,0,none⟩)) (t:TypeId) (fr:Nat×Nat) (D:TypeDesc) (hg:w.heap[g]?=some (.cells cells t fr))
  (hu:P.underlying ty=some D) (hD:(match D with | .struct _ | .array _ _=>true |_=>false)=true) (hi:(P.info? ty).map (·.size)=some cells.size)
  (h:wpList P ops Q rest (a.put d (.agg cells)) w):wpList P ops Q (o::rest) a w:=by
 subst hd
 have hr:=run_loadVar_row (P:=P) w g t ty cells fr D hg hu hD hi
 refine wpList_plain hgd λK hK=>?_
 unfold Oper.wp execOp
 simp only[ho,Instr.loadAt,Instr.sureAddr,hx,Sem.run_bind,Sem.run_pure,Result.andThen_ok,hr]
 exact hK _ _ h
def Spare(w:World)(B:Nat):Prop:=∃Z:Array Value,w.heap[B]?=some (.cells Z 499 (0,0))/\Z.size=64
theorem Spare.set{w:World}{B:Nat}(h:Spare w B){p:Addr}(hp:B≠p.block)(v:Value):Spare (w.setCell p v) B:=by
 obtain⟨Z,h1,h2⟩:=h
 exact⟨Z,by rw[Below.heap_setCell _ _ _ _ hp];exact h1,h2⟩
def z3o(B:Nat)(b:List UInt8)(i:Value)(w wr:World):Prop:=
 ∃t:Nat,i= .int .i64 (t:Int)/\t<=16/\Ext w wr/\Spare wr w.heap.size/\wr.heap[B]?=some (.cells (zbw (wTo b t)) 499 (0,0))
def zz2(B:Nat)(b:List UInt8)(i:Value)(w wr:World):Prop:=
 ∃t:Nat,i= .int .i64 (t:Int)/\16<=t/\t<=64/\Ext w wr/\Spare wr w.heap.size/\wr.heap[B]?=some (.cells (zbw (wTo b t)) 499 (0,0))
theorem zsg{x n1 n2 d:Nat}{D:Int}(hD:D=(d:Int))(hx:x<4294967296)(h1:1<=n1/\n1<=31)(h2:1<=n2/\n2<=31)(hd:0<d): ∃A:Nat,
  bits BinOp.xor IntKind.u32 (rotr n1 x:Int) (rotr n2 x:Int)=(A:Int)/\bits BinOp.xor IntKind.u32 (A:Int) ((x:Int)/D)=(((rotr n1 x^^^rotr n2 x)^^^(x/d):Nat):Int):=by
 refine⟨_,u32_xor_nat _ _ (zdm hx h1.1 h1.2) (zdm hx h2.1 h2.2),?_⟩
 rw[hD,<-Int.natCast_ediv,u32_xor_nat _ _ (znq (zdm hx h1.1 h1.2) (zdm hx h2.1 h2.2)) (Nat.lt_of_le_of_lt (Nat.div_le_self _ _) hx)]
theorem z19{a b c d:Nat}(h:True): ∃A B:Nat,IntKind.u32.wrap ((a:Int)+(b:Int))=(A:Int)/\IntKind.u32.wrap ((A:Int)+(c:Int))=(B:Int)/\
  IntKind.u32.wrap ((B:Int)+(d:Int))=(((a+b+c+d)%4294967296:Nat):Int):=by
 refine⟨(a+b)%4294967296,(a+b+c)%4294967296,?_,?_,?_⟩
 ·rw[zb9 (n:=a+b) (by omega)]
 ·rw[zb9 (n:=(a+b)%4294967296+c) (by omega)];omega
 ·rw[zb9 (n:=(a+b+c)%4294967296+d) (by omega)];omega
set_option maxHeartbeats 4000000 in
set_option maxRecDepth 100000 in
theorem zzv(p:AC)(b:List UInt8){S:Nat->Prop}(w:World)(hp:By w S p b)(hl:b.length=64):
  Calls Tryz.prog 428 #[.slice p.a b.length p.c] w (Ret w λ_ v=>v= .agg ((wTo b 64).map u32v).toArray):=by
 have hm:=hp.lens
 unfold maxLen at hm
 obtain⟨pb,po,hpa,hpc⟩:=hp.stands (by omega)
 rw[hpa,hl]
 have HL:=Lib.hid hl
 obtain⟨pc,hc⟩: ∃pc,pc=p.c:=⟨_,rfl⟩
 rw[<-hc]
 clear hl hm hpa hc
 go_enter Tryz.func428,Tryz.ntmps428
 go_wp2_with fail
 go_loopw [10] (λi wr=>z3o (w.heap.size+1) b i w wr) (λi _=>16-(intOf i).toNat)
 case atStart=>
  refine⟨0,rfl,by omega,by(repeat (first |exact Ext.refl _ |refine Ext.drew ?_ |refine Ext.drewN ?_ _ |refine Ext.alloc ?_ _ |(refine Ext.setCell ?_ (by first |omega |(simp;done) |(simp;omega)) _) |refine Ext.trans ?_ (by assumption))),⟨_,by rw[Below.heap_alloc _ _ _ (by simp)];exact heap_alloc_new w _,rfl⟩,?_⟩
  exact ztc w _ _
 case round=>
  obtain⟨t,rfl,e1,e2,e5,e3⟩:=hrel
  by_cases ht:t<16
  ·have ht2:(t:Int)<16:=by omega
   have ht0:(0:Int)<=t:=by omega
   have hcell: ∀k (hk:k<64),wr.cell? ⟨pb,po+k,none⟩=some (.int .u8 ((b.getD k 0).toNat:Int)):=λk hk=>hpc wr e2 k (by rw[HL.out];exact hk)
   have hc0:=hcell (4*t) (by omega)
   have hc1:=hcell (4*t+1) (by omega)
   have hc2:=hcell (4*t+2) (by omega)
   have hc3:=hcell (4*t+3) (by omega)
   obtain⟨x0,hx0⟩: ∃x:Nat,x=(b.getD (4*t) 0).toNat:=⟨_,rfl⟩
   obtain⟨x1,hx1⟩: ∃x:Nat,x=(b.getD (4*t+1) 0).toNat:=⟨_,rfl⟩
   obtain⟨x2,hx2⟩: ∃x:Nat,x=(b.getD (4*t+2) 0).toNat:=⟨_,rfl⟩
   obtain⟨x3,hx3⟩: ∃x:Nat,x=(b.getD (4*t+3) 0).toNat:=⟨_,rfl⟩
   have hb0:x0<256:=by rw[hx0];exact UInt8.toNat_lt _
   have hb1:x1<256:=by rw[hx1];exact UInt8.toNat_lt _
   have hb2:x2<256:=by rw[hx2];exact UInt8.toNat_lt _
   have hb3:x3<256:=by rw[hx3];exact UInt8.toNat_lt _
   have hB:be32 b (4*t)=((x0*256+x1)*256+x2)*256+x3:=by unfold be32;rw[hx0,hx1,hx2,hx3]
   rw[<-hx0]at hc0
   rw[<-hx1]at hc1
   rw[<-hx2]at hc2
   rw[<-hx3]at hc3
   have H0:=Lib.hid hB
   clear hx0 hx1 hx2 hx3 hB hcell
   have a0:(0:Int)<=4*(t:Int):=by omega
   have a1:(0:Int)<=4*(t:Int)+1:=by omega
   have a2:(0:Int)<=4*(t:Int)+2:=by omega
   have a3:(0:Int)<=4*(t:Int)+3:=by omega
   have b0:4*(t:Int)<64:=by omega
   have b1:4*(t:Int)+1<64:=by omega
   have b2:4*(t:Int)+2<64:=by omega
   have b3:4*(t:Int)+3<64:=by omega
   have n0:(4*(t:Int)).toNat=4*t:=by omega
   have n1:(4*(t:Int)+1).toNat=4*t+1:=by omega
   have n2:(4*(t:Int)+2).toNat=4*t+2:=by omega
   have n3:(4*(t:Int)+3).toNat=4*t+3:=by omega
   have w0:IntKind.i64.wrap (4*(t:Int))=4*(t:Int):=IntWalk.i64_in _ (by omega)
   have w1:IntKind.i64.wrap (4*(t:Int)+1)=4*(t:Int)+1:=IntWalk.i64_in _ (by omega)
   have w2:IntKind.i64.wrap (4*(t:Int)+2)=4*(t:Int)+2:=IntWalk.i64_in _ (by omega)
   have w3:IntKind.i64.wrap (4*(t:Int)+3)=4*(t:Int)+3:=IntWalk.i64_in _ (by omega)
   obtain⟨A0,A1,A2,C1,C2,q0,q1,q2,q3,q4,q5⟩:=zyl hb0 hb1 hb2 hb3
   have r0:IntKind.u32.wrap (x0:Int)=(x0:Int):=zc4 rfl (by omega)
   have r1:IntKind.u32.wrap (x1:Int)=(x1:Int):=zc4 rfl (by omega)
   have r2:IntKind.u32.wrap (x2:Int)=(x2:Int):=zc4 rfl (by omega)
   have r3:IntKind.u32.wrap (x3:Int)=(x3:Int):=zc4 rfl (by omega)
   have ht64:(t:Int)<64:=by omega
   rw[<-H0.out]at q5
   obtain⟨R,hR⟩: ∃R,R=be32 b (4*t):=⟨_,rfl⟩
   rw[<-hR]at q5
   have HR:=Lib.hid hR
   clear hR
   go_wp2_with fail
   go_still_tail 35,(by kernel_rfl)
   change wpList _ _ _ _ _ wr.drew
   have e2':Ext w wr.drew:=e2.drew
   have e5':Spare wr.drew w.heap.size:=e5
   have e3':wr.drew.heap[w.heap.size+1]?=some (.cells (zbw (wTo b t)) 499 (0,0)):=e3
   clear e2 e3 e5 hc0 hc1 hc2 hc3
   generalize wr.drew=w2 at*
   have s1:w2.cell? ⟨w.heap.size+1,t,none⟩=some (u32v 0):=by
    rw[cell_of_row w2 _ t _ _ _ e3']
    exact zli (by rw[zbq];omega) (by rw[zbq];omega) (by omega)
   have s2:w2.frozen? ⟨w.heap.size+1,t,none⟩=false:=by simp[World.frozen?,e3']
   go_wp2_with fail
   go_roundw
   case rel=>
    refine⟨t+1,by simp,by omega,by(repeat (first |exact Ext.refl _ |refine Ext.drew ?_ |refine Ext.drewN ?_ _ |refine Ext.alloc ?_ _ |(refine Ext.setCell ?_ (by first |omega |(simp;done) |(simp;omega)) _) |refine Ext.trans ?_ (by assumption))),e5'.set (by simp) _,?_⟩
    rw[setCell_eq_setRow _ _ _ _ _ _ _ e3',setRow_heap _ _ _ _ _ _ e3',wTo]
    have:=znj (L:=wTo b t) (by rw[zbq];omega) R
    rw[zbq]at this
    rw[show(Value.int .u32 (R:Int))=u32v R from rfl,this,HR.out,zi1,zbq,if_pos ht]
   case measure=>(first |omega |(simp[intOf];done) |(simp[intOf];omega))
  ·have h16:t=16:=by omega
   have H16:=Lib.hid h16
   clear hpc h16
   go_wp2_with fail
   go_loopw [5] (λi wr'=>zz2 (w.heap.size+1) b i w wr') (λi _=>64-(intOf i).toNat)
   case atStart=>exact⟨16,rfl,by omega,by omega,e2,e5,by rw[<-H16.out];exact e3⟩
   case round=>
    clear e2 e3 e5
    rename_i wr0 _
    obtain⟨t,rfl,e1,e4,e2,e5,e3⟩:=hrel
    by_cases ht:t<64
    ·have ht2:(t:Int)<64:=by omega
     have ht0:(0:Int)<=t:=by omega
     have hlen:(wTo b t).length=t:=zbq b t
     have hcell: ∀j,j<t->wr.cell? ⟨w.heap.size+1,j,none⟩=some (.int .u32 (((wTo b t).getD j 0:Nat):Int)):=λj hj=>by
      rw[cell_of_row wr _ j _ _ _ e3];exact zwu (by omega) (by omega)
     have hnext:zi1 b (wTo b t)=(ss1 ((wTo b t).getD (t-2) 0)+(wTo b t).getD (t-7) 0+ss0 ((wTo b t).getD (t-15) 0)+(wTo b t).getD (t-16) 0)%4294967296:=by
      rw[zi1,hlen,if_neg (by omega)]
     have hc0:=hcell (t-15) (by omega)
     have hc1:=hcell (t-2) (by omega)
     have hc2:=hcell (t-7) (by omega)
     have hc3:=hcell (t-16) (by omega)
     have hbx:=zzq b t (t-15)
     have hby:=zzq b t (t-2)
     generalize (wTo b t).getD (t-15) 0=x at*
     generalize (wTo b t).getD (t-2) 0=y at*
     generalize (wTo b t).getD (t-7) 0=m7 at*
     generalize (wTo b t).getD (t-16) 0=m16 at*
     obtain⟨G1,g1,g2⟩:=zsg (n1:=7) (n2:=18) (d:=8) (D:=8) rfl hbx (by omega) (by omega) (by omega)
     obtain⟨G2,g3,g4⟩:=zsg (n1:=17) (n2:=19) (d:=1024) (D:=1024) rfl hby (by omega) (by omega) (by omega)
     rw[<-ss0]at g2
     rw[<-ss1]at g4
     obtain⟨S1,S2,s1,s2,s3⟩:=z19 (a:=ss1 y) (b:=m7) (c:=ss0 x) (d:=m16) trivial
     rw[<-hnext]at s3
     have HN:=Lib.hid hnext
     have HLn:=Lib.hid hlen
     clear hnext hlen hcell
     generalize hR:zi1 b (wTo b t)=R at*
     have HR:=Lib.hid hR
     clear hR
     generalize ss0 x=X0 at*
     generalize ss1 y=Y1 at*
     have HX:Hid (x<4294967296):=Lib.hid hbx
     have HY:Hid (y<4294967296):=Lib.hid hby
     have a0:(0:Int)<=(t:Int)-15:=by omega
     have a1:(0:Int)<=(t:Int)-2:=by omega
     have a2:(0:Int)<=(t:Int)-7:=by omega
     have a3:(0:Int)<=(t:Int)-16:=by omega
     have b0:(t:Int)-15<64:=by omega
     have b1:(t:Int)-2<64:=by omega
     have b2:(t:Int)-7<64:=by omega
     have b3:(t:Int)-16<64:=by omega
     have a4:(7:Int)<=(t:Int):=by omega
     have a5:(16:Int)<=(t:Int):=by omega
     have n0:((t:Int)-15).toNat=t-15:=by omega
     have n1:((t:Int)-2).toNat=t-2:=by omega
     have n2:((t:Int)-7).toNat=t-7:=by omega
     have n3:((t:Int)-16).toNat=t-16:=by omega
     have w0:IntKind.i64.wrap ((t:Int)-15)=(t:Int)-15:=IntWalk.i64_in _ (by omega)
     have w1:IntKind.i64.wrap ((t:Int)-2)=(t:Int)-2:=IntWalk.i64_in _ (by omega)
     have w2:IntKind.i64.wrap ((t:Int)-7)=(t:Int)-7:=IntWalk.i64_in _ (by omega)
     have w3:IntKind.i64.wrap ((t:Int)-16)=(t:Int)-16:=IntWalk.i64_in _ (by omega)
     go_wp2_with fail
     go_quiet (fail)
     go_wp2_with fail
     refine(ze7 7 x HX.out (by omega) _).mono ?_
     rintro e w' ⟨rfl,rfl⟩
     go_wp2_with fail
     refine(ze7 18 x HX.out (by omega) _).mono ?_
     rintro e w' ⟨rfl,rfl⟩
     go_wp2_with fail
     refine(ze7 17 y HY.out (by omega) _).mono ?_
     rintro e w' ⟨rfl,rfl⟩
     go_wp2_with fail
     refine(ze7 19 y HY.out (by omega) _).mono ?_
     rintro e w' ⟨rfl,rfl⟩
     go_wp2_with fail
     have e2':Ext w (wr.drewN nq):=e2.drewN nq
     have e5':Spare (wr.drewN nq) w.heap.size:=e5
     have e3':(wr.drewN nq).heap[w.heap.size+1]?=some (.cells (zbw (wTo b t)) 499 (0,0)):=e3
     have hc2':(wr.drewN nq).cell? ⟨w.heap.size+1,t-7,none⟩=some (.int .u32 (m7:Int)):=hc2
     have hc3':(wr.drewN nq).cell? ⟨w.heap.size+1,t-16,none⟩=some (.int .u32 (m16:Int)):=hc3
     clear e2 e3 e5 hc0 hc1 hc2 hc3
     generalize wr.drewN nq=w5 at*
     go_still_tail 15,(by kernel_rfl)
     change wpList _ _ _ _ _ w5.drew
     have e2:Ext w w5.drew:=e2'.drew
     have e5:Spare w5.drew w.heap.size:=e5'
     have e3:w5.drew.heap[w.heap.size+1]?=some (.cells (zbw (wTo b t)) 499 (0,0)):=e3'
     clear e2' e3' e5' hc2' hc3'
     generalize w5.drew=w6 at*
     have s4:w6.cell? ⟨w.heap.size+1,t,none⟩=some (u32v 0):=by
      rw[cell_of_row w6 _ t _ _ _ e3]
      exact zli (by rw[zbq];omega) (by rw[zbq];omega) (by omega)
     have s5:w6.frozen? ⟨w.heap.size+1,t,none⟩=false:=by simp[World.frozen?,e3]
     go_wp2_with fail
     go_roundw
     case rel=>
      refine⟨t+1,by simp,by omega,by omega,by(repeat (first |exact Ext.refl _ |refine Ext.drew ?_ |refine Ext.drewN ?_ _ |refine Ext.alloc ?_ _ |(refine Ext.setCell ?_ (by first |omega |(simp;done) |(simp;omega)) _) |refine Ext.trans ?_ (by assumption))),e5.set (by simp) _,?_⟩
      rw[setCell_eq_setRow _ _ _ _ _ _ _ e3,setRow_heap _ _ _ _ _ _ e3,wTo]
      have:=znj (L:=wTo b t) (by rw[zbq];omega) R
      rw[zbq]at this
      rw[show(Value.int .u32 (R:Int))=u32v R from rfl,this,HR.out]
     case measure=>(first |omega |(simp[intOf];done) |(simp[intOf];omega))
    ·have h64:t=64:=by omega
     subst h64
     have hs64:(zbw (wTo b 64)).size=64:=zwv (by rw[zbq];omega)
     have hval:zbw (wTo b 64)=((wTo b 64).map u32v).toArray:=by unfold zbw;rw[zbq];simp
     have hone:(zbw (wTo b 64)).all (·.oneCell')=true:=by rw[hval];simp[u32v,Value.oneCell']
     obtain⟨Z,hZ,hZs⟩:=e5
     generalize zbw (wTo b 64)=cs at*
     go_upto_region 14 with fail
     apply wp_region_lit
     refine zc7 rfl 499 _ rfl (some 92) rfl (w.heap.size+1) cs rfl 499 (0,0) _ e3 Tryz.underlying499 rfl (by rw[hs64];kernel_rfl) ?_
     refine wpList_store_rowTo rfl 499 _ _ rfl rfl w.heap.size cs rfl rfl 499 Z hZ (by rw[hs64];kernel_rfl) (by rw[hs64];exact hZs) hone ?_
     apply wpList_nil
     go_wp2_with fail
     refine bodyPost_ret (results_cell_row rfl _ _ w.heap.size 499 _ (0,0) _ rfl (setRow_heap _ _ _ _ _ _ hZ) Tryz.underlying499 rfl (by rw[hs64];kernel_rfl)) rfl ?_
     exact⟨_,rfl,e2.setRow (Nat.le_refl _) _,by rw[hval]⟩
end
section
theorem zk9{a b c:World}{g:Option Nat}(h:a.grownBy b g)(k:b.grownBy c g):a.grownBy c g:=
 ⟨k.os.trans h.os,k.tape.trans h.tape,k.output.trans h.output,Nat.le_trans h.size k.size,λi hi hn=>(k.block i (Nat.lt_of_lt_of_le hi h.size) hn).trans (h.block i hi hn)⟩
theorem zmq{a b:World}{g:Option Nat}(h:a.grownBy b g):a.grownBy b.drew g:=⟨h.os,h.tape,h.output,h.size,h.block⟩
theorem zk8{a b:World}{g:Option Nat}(h:a.grownBy b g)(n:Nat):a.grownBy (b.drewN n) g:=⟨h.os,h.tape,h.output,h.size,h.block⟩
theorem zqr{a b:World}(h:Ext a b)(g:Option Nat):a.grownBy b g:=⟨h.os,h.tape,h.output,h.size,λk hk _=>h.block k hk⟩
theorem zdt{a b:World}{g:Nat}(h:a.grownBy b (some g)){p:Addr}(hp:p.block=g)(v:Value):a.grownBy (b.setCell p v) (some g):=
 ⟨h.os,h.tape,h.output,by simpa[World.setCell]using h.size,λk hk hn=>(Below.heap_setCell _ _ _ _ (λe=>hn (by rw[e,hp]))).trans (h.block k hk hn)⟩
section
variable {P:Program} {ops:Array Oper} {rest:List Oper} {o:Oper} {a:Act} {w:World} {Q:Exit->Act->World->Prop}
theorem zbm(hgd:o.guard=none)(ty:TypeId)(ho:o.op= .alloc ty)(d:Option Tmp)(hd:o.dst=d)(n:Nat)
  (hi:((P.info? ty).bind (·.zero)).map (·.cells.size)=some n)
  (h: ∀(w':World) (Z:Array Value),Z.size=n->w'.heap[w.heap.size]?=some (.cells Z ty (0,0))->w'.heap.size=w.heap.size+1->Ext w w'->wpList P ops Q rest (a.put d (.pointer (some ⟨w.heap.size,0,none⟩))) w'):
  wpList P ops Q (o::rest) a w:=by
 subst hd
 cases hp:P.info? ty with
 |none=>simp[hp]at hi
 |some i=>
  cases hz:i.zero with
  |none=>simp[hp,hz]at hi
  |some z=>
   simp only[hp,hz,Option.bind_some,Option.map_some,Option.some.injEq]at hi
   refine wpList_plain hgd λK hK=>?_
   have hr:(execOp a.eval o).run P w= .ok (.value (.pointer (some ⟨w.heap.size,0,none⟩))) (w.alloc (.cells z.cells ty)):=by
    unfold execOp
    simp[ho,Instr.alloc,zeroValue,typeInfo,hp,hz,newVar,newRow,newObj,Result.andThen]
    rfl
   unfold Oper.wp
   rw[hr,Oper.upon_value]
   exact hK _ _ (h _ _ hi (heap_alloc_new w _) (by rw[World.alloc];simp) (za0 w _))
theorem zbx(hgd:o.guard=none)(ty:TypeId)(x y:Operand)(ho:o.op= .store ty x y)(hd:o.dst=none)(g:Nat)(cells:Array Value)
  (hx:a.eval x= .pointer (some ⟨g,0,none⟩)) (hy:a.eval y= .agg cells) (t:TypeId) (old:Array Value) (hg:w.heap[g]?=some (.cells old t (0,0))) (hi:(P.info? ty).map (·.size)=some cells.size)
  (hold:old.size=cells.size) (h1:cells.all (·.oneCell')=true)
  (h: ∀w':World,w'.heap[g]?=some (.cells cells t (0,0))->w'.heap.size=w.heap.size->w.grownBy w' (some g)->wpList P ops Q rest (a.put none undef) w'):wpList P ops Q (o::rest) a w:=by
 refine wpList_store_row hgd ty x y ho g cells hx hy t old hg hi hold h1 ?_
 rw[hd]
 refine h _ (setRow_heap w g _ cells t (0,0) hg) (by simp[World.setRow]) ⟨rfl,rfl,rfl,by simp[World.setRow],λk hk hn=>setRow_other w g k _ (λe=>hn (by rw[e]))⟩
theorem znp(hgd:o.guard=none)(s x:Operand)(dT sT elem:TypeId)(ho:o.op= .call {callee:= .builtin .copy,args:= #[s,x],argTypes:= #[dT,sT]})
  (hu:P.underlying dT=some (.slice elem)) (hs1:(P.info? elem).map (·.size)=some 1) (g od dLen dCap:Nat) (ad:Addr) (sLen sCap:Nat) (cur:Array Value) (t:TypeId) (cs:List Value)
  (hs:a.eval s= .slice (some ⟨g,od,none⟩) dLen dCap) (hx:a.eval x= .slice (some ad) sLen sCap) (hg:w.heap[g]?=some (.cells cur t (0,0))) (hn:cs.length=Nat.min sLen dLen)
  (hsrc: ∀j v,cs[j]?=some v->w.cell? (ad.add j)=some v) (hfit:od+cs.length<=cur.size) (h1: ∀v∈cs,v.oneCell'=true)
  (h: ∀w':World,w'.heap[g]?=some (.cells (cur.toList.take od++cs++cur.toList.drop (od+cs.length)).toArray t (0,0))->w'.heap.size=w.heap.size->w.grownBy w' (some g)->wpList P ops Q rest (a.put o.dst (goInt cs.length)) w'):
  wpList P ops Q (o::rest) a w:=by
 have hr:=run_copy_row P w dT sT o.type elem g od dLen dCap ad sLen sCap cur t cs hu hs1 hg hn hsrc hfit h1
 refine wpList_plain hgd λK hK=>?_
 unfold Oper.wp execOp
 simp only[ho,resolve,invoke,builtin,Sem.run_bind,Sem.run_pure,Result.andThen_ok,List.map_toArray,List.map_cons,List.map_nil,hs,hx,hr]
 exact hK _ _ (h _ (setRow_heap w g _ _ t (0,0) hg) (by simp[World.setRow]) ⟨rfl,rfl,rfl,by simp[World.setRow],λk hk hn=>setRow_other w g k _ (λe=>hn (by rw[e]))⟩)
end
end
section
theorem z9q{e:Nat}(he:e<4294967296):4294967295^^^e=4294967295-e:=by
 have h1:(~~~(BitVec.ofNat 32 e)).toNat=2^32-1-(BitVec.ofNat 32 e).toNat:=BitVec.toNat_not
 rw[BitVec.not_def,BitVec.toNat_xor,BitVec.toNat_allOnes,BitVec.toNat_ofNat,Nat.mod_eq_of_lt (by omega)]at h1
 simpa using h1
theorem z51{k w:Nat}{s:H8}(h:s.ok): ∃X1 A1 NE A2 CH S1 S2 S3 T1:Nat,
  bits BinOp.xor IntKind.u32 (rotr 6 s.e:Int) (rotr 11 s.e:Int)=(X1:Int)/\bits BinOp.xor IntKind.u32 (X1:Int) (rotr 25 s.e:Int)=(bs1 s.e:Int)/\
  IntKind.u32.wrap ((s.h:Int)+(bs1 s.e:Int))=(S1:Int)/\
  bits BinOp.and IntKind.u32 (s.e:Int) (s.f:Int)=(A1:Int)/\bits BinOp.xor IntKind.u32 IntKind.u32.max (s.e:Int)=(NE:Int)/\bits BinOp.and IntKind.u32 (NE:Int) (s.g:Int)=(A2:Int)/\
  bits BinOp.xor IntKind.u32 (A1:Int) (A2:Int)=(CH:Int)/\IntKind.u32.wrap ((S1:Int)+(CH:Int))=(S2:Int)/\
  IntKind.u32.wrap ((S2:Int)+(k:Int))=(S3:Int)/\IntKind.u32.wrap ((S3:Int)+(w:Int))=(T1:Int)/\T1=t1N k w s%4294967296/\
  ((S1:Int)+(CH:Int))%4294967296=(S2:Int)/\((S1:Int)+(CH:Int)+(k:Int))%4294967296=(S3:Int)/\((S1:Int)+(CH:Int)+(k:Int)+(w:Int))%4294967296=(T1:Int)/\((S3:Int)+(w:Int))%4294967296=(T1:Int):=by
 obtain⟨ha,hb,hc,hd,he,hf,hg,hh⟩:=h
 have r6:=zdm (n:=6) he (by omega) (by omega)
 have r11:=zdm (n:=11) he (by omega) (by omega)
 have r25:=zdm (n:=25) he (by omega) (by omega)
 have hch:(s.e&&&s.f)^^^((4294967295-s.e)&&&s.g)=chN s.e s.f s.g:=rfl
 refine⟨_,_,4294967295-s.e,_,_,(s.h+bs1 s.e)%4294967296,(s.h+bs1 s.e+chN s.e s.f s.g)%4294967296,(s.h+bs1 s.e+chN s.e s.f s.g+k)%4294967296,_,
  u32_xor_nat _ _ r6 r11,u32_xor_nat _ _ (znq r6 r11) r25,?_,u32_and_nat _ _ he hf,?_,u32_and_nat _ _ (by omega) hg,u32_xor_nat _ _ (zgg he) (zgg (by omega)),?_,?_,?_,rfl,?_,?_,?_,?_⟩
 ·rw[zb9 (n:=s.h+bs1 s.e) (by omega)]
 ·rw[show IntKind.u32.max=((4294967295:Nat):Int)from rfl,u32_xor_nat _ _ (by omega) he,z9q he]
 ·rw[hch,zb9 (n:=(s.h+bs1 s.e)%4294967296+chN s.e s.f s.g) (by omega)];omega
 ·rw[zb9 (n:=(s.h+bs1 s.e+chN s.e s.f s.g)%4294967296+k) (by omega)];omega
 ·rw[zb9 (n:=(s.h+bs1 s.e+chN s.e s.f s.g+k)%4294967296+w) (by omega)]
  unfold t1N;omega
 ·rw[hch];omega
 ·rw[hch];omega
 ·rw[hch];unfold t1N;omega
 ·unfold t1N;omega
theorem z52{s:H8}(h:s.ok): ∃X1 A1 A2 A3 M1 MJ T2:Nat,
  bits BinOp.xor IntKind.u32 (rotr 2 s.a:Int) (rotr 13 s.a:Int)=(X1:Int)/\bits BinOp.xor IntKind.u32 (X1:Int) (rotr 22 s.a:Int)=(bs0 s.a:Int)/\
  bits BinOp.and IntKind.u32 (s.a:Int) (s.b:Int)=(A1:Int)/\bits BinOp.and IntKind.u32 (s.a:Int) (s.c:Int)=(A2:Int)/\bits BinOp.xor IntKind.u32 (A1:Int) (A2:Int)=(M1:Int)/\
  bits BinOp.and IntKind.u32 (s.b:Int) (s.c:Int)=(A3:Int)/\bits BinOp.xor IntKind.u32 (M1:Int) (A3:Int)=(MJ:Int)/\
  IntKind.u32.wrap ((bs0 s.a:Int)+(MJ:Int))=(T2:Int)/\T2=t2N s%4294967296:=by
 obtain⟨ha,hb,hc,hd,he,hf,hg,hh⟩:=h
 have r2:=zdm (n:=2) ha (by omega) (by omega)
 have r13:=zdm (n:=13) ha (by omega) (by omega)
 have r22:=zdm (n:=22) ha (by omega) (by omega)
 have hmj:((s.a&&&s.b)^^^(s.a&&&s.c))^^^(s.b&&&s.c)=majN s.a s.b s.c:=rfl
 refine⟨_,_,_,_,_,_,_,u32_xor_nat _ _ r2 r13,u32_xor_nat _ _ (znq r2 r13) r22,u32_and_nat _ _ ha hb,u32_and_nat _ _ ha hc,u32_xor_nat _ _ (zgg ha) (zgg ha),u32_and_nat _ _ hb hc,u32_xor_nat _ _ (znq (zgg ha) (zgg ha)) (zgg hb),?_,rfl⟩
 rw[hmj,zb9 (n:=bs0 s.a+majN s.a s.b s.c) (by omega)]
 rfl
end
end Go.Proofs.YtlofklpckddkfaaGreat
