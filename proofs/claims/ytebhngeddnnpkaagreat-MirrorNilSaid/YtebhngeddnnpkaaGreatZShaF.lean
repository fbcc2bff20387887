import Derived.Test.YtebhngeddnnpkaaGreatZWire
import Derived.Deep.Cut
import Derived.StillTailTactics
import Derived.IntWalk
import Derived.Great.BuildSlice
import Derived.Deep.WholeRow
import Derived.Great.Walk
import Derived.Laws.CopyRow
namespace Go.Proofs.YtebhngeddnnpkaaGreat
open Go.RowKit
set_option linter.unusedVariables false
section
def rotr(n x:Nat):Nat:=x/2^n+x%2^n*2^(32-n)
def chN(e f g:Nat):Nat:=(e&&&f)^^^((4294967295-e)&&&g)
def majN(a b c:Nat):Nat:=((a&&&b)^^^(a&&&c))^^^(b&&&c)
def bs0(a:Nat):Nat:=(rotr 2 a^^^rotr 13 a)^^^rotr 22 a
def bs1(e:Nat):Nat:=(rotr 6 e^^^rotr 11 e)^^^rotr 25 e
def ss0(x:Nat):Nat:=(rotr 7 x^^^rotr 18 x)^^^(x/8)
def ss1(x:Nat):Nat:=(rotr 17 x^^^rotr 19 x)^^^(x/1024)
theorem z9v:(2:Nat)^32=4294967296:=rfl
theorem zds{n x:Nat}(hx:x<4294967296)(h1:1<=n)(h2:n<=31):rotr n x<4294967296:=by
 unfold rotr
 have hp:=za4 n
 have hq:=za4 (32-n)
 have e:2^(32-n)*2^n=4294967296:=by rw[<-Nat.pow_add,show 32-n+n=32 by omega]
 have hd:x/2^n<2^(32-n):=Nat.div_lt_of_lt_mul (by rw[Nat.mul_comm,e];exact hx)
 have hm:x%2^n<2^n:=Nat.mod_lt _ hp
 generalize x/2^n=d at*
 generalize x%2^n=m at*
 have:=Nat.mul_le_mul_right (2^(32-n)) (show m+1<=2^n from hm)
 rw[Nat.add_mul,Nat.mul_comm (2^n),e]at this
 omega
theorem znr{a b:Nat}(ha:a<4294967296)(hb:b<4294967296):a^^^b<4294967296:=by
 rw[<-z9v]at*;exact Nat.xor_lt_two_pow ha hb
theorem zgp{a b:Nat}(ha:a<4294967296):a&&&b<4294967296:=Nat.lt_of_le_of_lt Nat.and_le_left ha
structure H8 where
 a:Nat
 b:Nat
 c:Nat
 d:Nat
 e:Nat
 f:Nat
 g:Nat
 h:Nat
def H8.ok(s:H8):Prop:=s.a<4294967296/\s.b<4294967296/\s.c<4294967296/\s.d<4294967296/\s.e<4294967296/\s.f<4294967296/\s.g<4294967296/\s.h<4294967296
def H8.list(s:H8):List Nat:=[s.a,s.b,s.c,s.d,s.e,s.f,s.g,s.h]
def be32(b:List UInt8)(i:Nat):Nat:=(((b.getD i 0).toNat*256+(b.getD (i+1) 0).toNat)*256+(b.getD (i+2) 0).toNat)*256+(b.getD (i+3) 0).toNat
theorem z3u(b:List UInt8)(i:Nat):be32 b i<4294967296:=by
 unfold be32
 have h0:=(b.getD i 0).toNat_lt
 have h1:=(b.getD (i+1) 0).toNat_lt
 have h2:=(b.getD (i+2) 0).toNat_lt
 have h3:=(b.getD (i+3) 0).toNat_lt
 omega
def zi3(b:List UInt8)(L:List Nat):Nat:=
 if L.length<16 then be32 b (4*L.length)
 else(ss1 (L.getD (L.length-2) 0)+L.getD (L.length-7) 0+ss0 (L.getD (L.length-15) 0)+L.getD (L.length-16) 0)%4294967296
def wTo(b:List UInt8):Nat->List Nat
 |0=>[]
 |t+1=>wTo b t++[zi3 b (wTo b t)]
theorem zbt(b:List UInt8): ∀t,(wTo b t).length=t
 |0=>rfl
 |t+1=>by rw[wTo,List.length_append,zbt b t];rfl
theorem z2d(b:List UInt8)(L:List Nat):zi3 b L<4294967296:=by
 unfold zi3
 split
 ·exact z3u _ _
 ·exact Nat.mod_lt _ (by omega)
theorem zzu(b:List UInt8): ∀t,∀x∈wTo b t,x<4294967296
 |0,x,h=>by cases h
 |t+1,x,h=>by
  rcases List.mem_append.1 h with h |h
  ·exact zzu b t x h
  ·rw[List.mem_singleton.1 h];exact z2d _ _
def kTab:List Nat:=[
 0x428a2f98,0x71374491,0xb5c0fbcf,0xe9b5dba5,0x3956c25b,0x59f111f1,0x923f82a4,0xab1c5ed5,
 0xd807aa98,0x12835b01,0x243185be,0x550c7dc3,0x72be5d74,0x80deb1fe,0x9bdc06a7,0xc19bf174,
 0xe49b69c1,0xefbe4786,0x0fc19dc6,0x240ca1cc,0x2de92c6f,0x4a7484aa,0x5cb0a9dc,0x76f988da,
 0x983e5152,0xa831c66d,0xb00327c8,0xbf597fc7,0xc6e00bf3,0xd5a79147,0x06ca6351,0x14292967,
 0x27b70a85,0x2e1b2138,0x4d2c6dfc,0x53380d13,0x650a7354,0x766a0abb,0x81c2c92e,0x92722c85,
 0xa2bfe8a1,0xa81a664b,0xc24b8b70,0xc76c51a3,0xd192e819,0xd6990624,0xf40e3585,0x106aa070,
 0x19a4c116,0x1e376c08,0x2748774c,0x34b0bcb5,0x391c0cb3,0x4ed8aa4a,0x5b9cca4f,0x682e6ff3,
 0x748f82ee,0x78a5636f,0x84c87814,0x8cc70208,0x90befffa,0xa4506ceb,0xbef9a3f7,0xc67178f2]
def h0Tab:H8:=⟨0x6a09e667,0xbb67ae85,0x3c6ef372,0xa54ff53a,0x510e527f,0x9b05688c,0x1f83d9ab,0x5be0cd19⟩
theorem zzt(b:List UInt8)(n t:Nat):(wTo b n).getD t 0<4294967296:=by
 rcases Nat.lt_or_ge t n with h |h
 ·have hl:t< (wTo b n).length:=by rw[zbt];exact h
  rw[List.getD_eq_getElem?_getD,List.getElem?_eq_getElem hl]
  exact zzu _ _ _ (List.getElem_mem hl)
 ·rw[List.getD_eq_getElem?_getD,List.getElem?_eq_none (by rw[zbt];exact h)];decide
def t1N(k w:Nat)(s:H8):Nat:=s.h+bs1 s.e+chN s.e s.f s.g+k+w
def t2N(s:H8):Nat:=bs0 s.a+majN s.a s.b s.c
def znc(k w:Nat)(s:H8):H8:=⟨(t1N k w s+t2N s)%4294967296,s.a,s.b,s.c,(s.d+t1N k w s)%4294967296,s.e,s.f,s.g⟩
theorem zzd{k w:Nat}{s:H8}(h:s.ok):(znc k w s).ok:=by
 obtain⟨ha,hb,hc,hd,he,hf,hg,hh⟩:=h
 exact⟨Nat.mod_lt _ (by omega),ha,hb,hc,Nat.mod_lt _ (by omega),he,hf,hg⟩
def zdc(b:List UInt8)(s:H8):Nat->H8
 |0=>s
 |t+1=>znc (kTab.getD t 0) ((wTo b 64).getD t 0) (zdc b s t)
theorem znd{b:List UInt8}{s:H8}(h:s.ok): ∀t,(zdc b s t).ok
 |0=>h
 |t+1=>zzd (znd h t)
def addH(s x:H8):H8:=⟨(s.a+x.a)%4294967296,(s.b+x.b)%4294967296,(s.c+x.c)%4294967296,(s.d+x.d)%4294967296,(s.e+x.e)%4294967296,(s.f+x.f)%4294967296,(s.g+x.g)%4294967296,(s.h+x.h)%4294967296⟩
theorem z3r(s x:H8):(addH s x).ok:=⟨Nat.mod_lt _ (by omega),Nat.mod_lt _ (by omega),Nat.mod_lt _ (by omega),Nat.mod_lt _ (by omega),Nat.mod_lt _ (by omega),Nat.mod_lt _ (by omega),Nat.mod_lt _ (by omega),Nat.mod_lt _ (by omega)⟩
def zkx(s:H8)(b:List UInt8):H8:=addH s (zdc b s 64)
def runH:Nat->H8->List UInt8->H8
 |0,s,_=>s
 |m+1,s,l=>runH m (zkx s (l.take 64)) (l.drop 64)
theorem zob: ∀(m:Nat) (s:H8) (l:List UInt8),s.ok->(runH m s l).ok
 |0,s,l,h=>h
 |m+1,s,l,h=>zob m _ _ (z3r _ _)
theorem zpe: ∀(m:Nat) (s:H8) (l:List UInt8),runH (m+1) s l=zkx (runH m s l) ((l.drop (64*m)).take 64)
 |0,s,l=>by simp[runH]
 |m+1,s,l=>by
  rw[runH,zpe m,runH,List.drop_drop,show 64+64*m=64*(m+1)by omega]
def zdd(n:Nat):Nat:=(119-n%64)%64
def zhd(n:Nat):List UInt8:=128::(List.replicate (zdd n) 0++beB 8 (n*8))
theorem zpm(n:Nat):(zhd n).length=9+zdd n:=by
 unfold zhd
 rw[List.length_cons,List.length_append,List.length_replicate,zam];omega
theorem zj9(n:Nat):zdd n<64:=Nat.mod_lt _ (by omega)
theorem z1p(n:Nat):(n+(9+zdd n))%64=0:=by unfold zdd;omega
def outH(s:H8):List UInt8:=s.list.flatMap (beB 4)
theorem zem(s:H8):(outH s).length=32:=by simp[outH,H8.list,zam]
def shaB(l:List UInt8):List UInt8:=outH (runH ((l++zhd l.length).length/64) h0Tab (l++zhd l.length))
theorem zdl(l:List UInt8):(shaB l).length=32:=zem _
theorem z2m:h0Tab.ok:=by unfold H8.ok;decide
end
section
theorem zcd{x:Int}{n:Nat}(h:x=(n:Int)):IntKind.u32.wrap x=((n%4294967296:Nat):Int):=by rw[IntKind.wrap_u32',h];omega
theorem zc4{x:Int}{n:Nat}(h:x=(n:Int))(hn:n<4294967296):IntKind.u32.wrap x=(n:Int):=by rw[zcd h,Nat.mod_eq_of_lt hn]
theorem z85{n x:Nat}(hx:x<4294967296)(h1:1<=n)(h2:n<=31):(x*2^(32-n))%4294967296|||x/2^n=rotr n x:=by
 unfold rotr
 have hp:=za4 n
 have hq:=za4 (32-n)
 have e:2^(32-n)*2^n=4294967296:=by rw[<-Nat.pow_add,show 32-n+n=32 by omega]
 have hd:x/2^n<2^(32-n):=Nat.div_lt_of_lt_mul (by rw[Nat.mul_comm,e];exact hx)
 have hm:x*2^(32-n)%4294967296=x%2^n*2^(32-n):=by
  rw[<-e,Nat.mul_comm x,Nat.mul_mod_mul_left,Nat.mul_comm]
 rw[hm,nat_join (32-n) _ _ (by simp) hd,Nat.add_comm]
theorem zdq{a b:Int}(h:a=b):Ending.returned (.int .u32 a)= .returned (.int .u32 b):=by rw[h]
theorem zdr{n x:Nat}(hx:x<4294967296)(h1:1<=n)(h2:n<=31)(A B:Nat)(ha:A=2^(32-n))(hb:B=2^n):
  bits BinOp.or IntKind.u32 ((x:Int)*(A:Int)%4294967296) ((x:Int)/(B:Int))=(rotr n x:Int):=by
 have e1:(x:Int)*(A:Int)%4294967296=((x*A%4294967296:Nat):Int):=by simp
 have e2:(x:Int)/(B:Int)=((x/B:Nat):Int):=by simp
 rw[e1,e2,u32_or_nat _ _ (Nat.mod_lt _ (by omega)) (Nat.lt_of_le_of_lt (Nat.div_le_self _ _) hx),ha,hb,z85 hx h1 h2]
set_option maxRecDepth 100000 in
theorem z1x(n x:Nat)(hx:x<4294967296)(hn:n=2\/n=6\/n=7\/n=11\/n=13\/n=17\/n=18\/n=19\/n=22\/n=25)(w:World):
  Calls Tryz.prog 487 #[.int .u32 (x:Int), .int .i64 (-(n:Int))] w λe w'=>e= .returned (.int .u32 (rotr n x:Int))/\w=w':=by
 rcases hn with rfl |rfl |rfl |rfl |rfl |rfl |rfl |rfl |rfl |rfl
 ·have hk:bits BinOp.and IntKind.u64 (IntKind.u64.wrap (-2)) 31=(30:Int):=by decide+kernel
  go_enter Tryz.func487,Tryz.ntmps487
  go_wp2_with fail
  go_ret
  exact⟨zdq (zdr hx (by omega) (by omega) 1073741824 4 rfl rfl),rfl⟩
 ·have hk:bits BinOp.and IntKind.u64 (IntKind.u64.wrap (-6)) 31=(26:Int):=by decide+kernel
  go_enter Tryz.func487,Tryz.ntmps487
  go_wp2_with fail
  go_ret
  exact⟨zdq (zdr hx (by omega) (by omega) 67108864 64 rfl rfl),rfl⟩
 ·have hk:bits BinOp.and IntKind.u64 (IntKind.u64.wrap (-7)) 31=(25:Int):=by decide+kernel
  go_enter Tryz.func487,Tryz.ntmps487
  go_wp2_with fail
  go_ret
  exact⟨zdq (zdr hx (by omega) (by omega) 33554432 128 rfl rfl),rfl⟩
 ·have hk:bits BinOp.and IntKind.u64 (IntKind.u64.wrap (-11)) 31=(21:Int):=by decide+kernel
  go_enter Tryz.func487,Tryz.ntmps487
  go_wp2_with fail
  go_ret
  exact⟨zdq (zdr hx (by omega) (by omega) 2097152 2048 rfl rfl),rfl⟩
 ·have hk:bits BinOp.and IntKind.u64 (IntKind.u64.wrap (-13)) 31=(19:Int):=by decide+kernel
  go_enter Tryz.func487,Tryz.ntmps487
  go_wp2_with fail
  go_ret
  exact⟨zdq (zdr hx (by omega) (by omega) 524288 8192 rfl rfl),rfl⟩
 ·have hk:bits BinOp.and IntKind.u64 (IntKind.u64.wrap (-17)) 31=(15:Int):=by decide+kernel
  go_enter Tryz.func487,Tryz.ntmps487
  go_wp2_with fail
  go_ret
  exact⟨zdq (zdr hx (by omega) (by omega) 32768 131072 rfl rfl),rfl⟩
 ·have hk:bits BinOp.and IntKind.u64 (IntKind.u64.wrap (-18)) 31=(14:Int):=by decide+kernel
  go_enter Tryz.func487,Tryz.ntmps487
  go_wp2_with fail
  go_ret
  exact⟨zdq (zdr hx (by omega) (by omega) 16384 262144 rfl rfl),rfl⟩
 ·have hk:bits BinOp.and IntKind.u64 (IntKind.u64.wrap (-19)) 31=(13:Int):=by decide+kernel
  go_enter Tryz.func487,Tryz.ntmps487
  go_wp2_with fail
  go_ret
  exact⟨zdq (zdr hx (by omega) (by omega) 8192 524288 rfl rfl),rfl⟩
 ·have hk:bits BinOp.and IntKind.u64 (IntKind.u64.wrap (-22)) 31=(10:Int):=by decide+kernel
  go_enter Tryz.func487,Tryz.ntmps487
  go_wp2_with fail
  go_ret
  exact⟨zdq (zdr hx (by omega) (by omega) 1024 4194304 rfl rfl),rfl⟩
 ·have hk:bits BinOp.and IntKind.u64 (IntKind.u64.wrap (-25)) 31=(7:Int):=by decide+kernel
  go_enter Tryz.func487,Tryz.ntmps487
  go_wp2_with fail
  go_ret
  exact⟨zdq (zdr hx (by omega) (by omega) 128 33554432 rfl rfl),rfl⟩
theorem zfb(n x:Nat)(hx:x<4294967296)(hn:n=2\/n=6\/n=7\/n=11\/n=13\/n=17\/n=18\/n=19\/n=22\/n=25)(w:World):
  Calls Tryz.prog 403 #[.int .u32 (x:Int), .int .i64 (n:Int)] w λe w'=>e= .returned (.int .u32 (rotr n x:Int))/\w=w':=by
 have HN:=Lib.hid hn
 have h0:n<=25:=by omega
 clear hn
 go_enter Tryz.func403,Tryz.ntmps403
 go_wp2_with fail
 refine(z1x n x hx HN.out _).mono ?_
 rintro e w' ⟨rfl,rfl⟩
 go_wp2_with fail
 go_ret
 exact⟨rfl,rfl⟩
def u32v(n:Nat):Value:= .int .u32 (n:Int)
theorem zw2(w:World):
  Calls Tryz.prog 273 #[] w (Ret w λ_ v=>v= .agg #[.int .u32 1779033703, .int .u32 3144134277, .int .u32 1013904242, .int .u32 2773480762, .int .u32 1359893119, .int .u32 2600822924, .int .u32 528734635, .int .u32 1541459225]):=by
 go_enter Tryz.func273,Tryz.ntmps273
 go_wp2_with fail
 refine bodyPost_ret (results_cell_row rfl _ _ w.heap.size 369 _ (0,0) _ rfl (heap_alloc_new w _) Tryz.underlying369 rfl (by kernel_rfl)) rfl ?_
 exact⟨_,rfl,(by(repeat (first |exact Ext.refl _ |refine Ext.drew ?_ |refine Ext.drewN ?_ _ |refine Ext.alloc ?_ _ |(refine Ext.setCell ?_ (by first |omega |(simp;done) |(simp;omega)) _) |refine Ext.trans ?_ (by assumption)))),rfl⟩
def kInts:List Int:=kTab.map Int.ofNat
theorem zu5(w:World):
  Calls Tryz.prog 402 #[] w (Ret w λ_ v=>v= .agg (kInts.map (Value.int .u32)).toArray):=by
 go_enter Tryz.func402,Tryz.ntmps402
 go_upto_region 1 with fail
 apply wp_region_lit
 refine wpList_buildFlatArrTo rfl 484 368 64 _ rfl .u32 kInts (some 1) rfl Tryz.underlying484 (by kernel_rfl) (by kernel_rfl) (by kernel_rfl) ?_
 refine wpList_store_rowTo rfl 484 _ _ rfl rfl w.heap.size (kInts.map (Value.int .u32)).toArray rfl rfl 484 _ (heap_alloc_new w _) (by kernel_rfl) (by kernel_rfl) (by kernel_rfl) ?_
 rw[World.setRow_alloc_new]
 obtain⟨cs,hcs⟩: ∃cs:Array Value,cs=(kInts.map (Value.int .u32)).toArray:=⟨_,rfl⟩
 have hs:cs.size=64:=by rw[hcs];rfl
 rw[<-hcs]
 apply wpList_nil
 go_wp2_with fail
 refine bodyPost_ret (results_cell_row rfl _ _ w.heap.size 484 _ (0,0) _ rfl (heap_alloc_new w _) Tryz.underlying484 rfl (by rw[hs];kernel_rfl)) rfl ?_
 exact⟨_,rfl,(by(repeat (first |exact Ext.refl _ |refine Ext.drew ?_ |refine Ext.drewN ?_ _ |refine Ext.alloc ?_ _ |(refine Ext.setCell ?_ (by first |omega |(simp;done) |(simp;omega)) _) |refine Ext.trans ?_ (by assumption)))),by rw[hcs]⟩
def zbz(L:List Nat):Array Value:=((L++List.replicate (64-L.length) 0).map u32v).toArray
theorem zwt{L:List Nat}(h:L.length<=64):(zbz L).size=64:=by simp[zbz];omega
theorem zws{L:List Nat}(h:L.length<=64){j:Nat}(hj:j<L.length):(zbz L)[j]?=some (u32v (L.getD j 0)):=by
 unfold zbz
 rw[List.getElem?_toArray,List.map_append,List.getElem?_append_left (by simpa using hj)]
 simp[List.getD_eq_getElem?_getD,hj]
theorem zle{L:List Nat}(h:L.length<=64){j:Nat}(h1:L.length<=j)(h2:j<64):(zbz L)[j]?=some (u32v 0):=by
 unfold zbz
 rw[List.getElem?_toArray,List.map_append,List.getElem?_append_right (by simpa using h1)]
 rw[List.length_map,List.getElem?_map,List.getElem?_replicate,if_pos (by omega)]
 rfl
theorem znk{L:List Nat}(h:L.length<64)(x:Nat):(zbz L).setIfInBounds L.length (u32v x)=zbz (L++[x]):=by
 apply Array.ext'
 simp only[zbz,Array.toList_setIfInBounds,List.length_append,List.length_singleton,List.map_append]
 rw[show 64-L.length=(64-(L.length+1))+1 by omega,List.replicate_succ]
 simp
theorem zta(w:World)(o o':Obj):((w.alloc o).alloc o').heap[w.heap.size+1]?=some o':=by
 have:=heap_alloc_new (w.alloc o) o'
 rwa[show(w.alloc o).heap.size=w.heap.size+1 by rw[World.alloc];simp]at this
theorem By.stands{w:World}{S:Nat->Prop}{p:AC}{l:List UInt8}(h:By w S p l)(hk:0<l.length):
  ∃b o,p.a=some ⟨b,o,none⟩/\∀w',Ext w w'->∀k,k<l.length->w'.cell? ⟨b,o+k,none⟩=some (.int .u8 ((l.getD k 0).toNat:Int)):=by
 obtain⟨b,o,e,_,hb,hc⟩:=Sl.at_ h hk
 refine⟨b,o,e,λw' hw k hk=>?_⟩
 rw[hw.cells.1 b _ hb]
 exact hc k _ (by simp[hk])
theorem zyn{x0 x1 x2 x3:Nat}(h0:x0<256)(h1:x1<256)(h2:x2<256)(h3:x3<256): ∃A0 A1 A2 C1 C2:Nat,
  IntKind.u32.wrap ((x0:Int)*16777216)=(A0:Int)/\IntKind.u32.wrap ((x1:Int)*65536)=(A1:Int)/\IntKind.u32.wrap ((x2:Int)*256)=(A2:Int)/\
  bits BinOp.or IntKind.u32 (A0:Int) (A1:Int)=(C1:Int)/\bits BinOp.or IntKind.u32 (C1:Int) (A2:Int)=(C2:Int)/\
  bits BinOp.or IntKind.u32 (C2:Int) (x3:Int)=((((x0*256+x1)*256+x2)*256+x3:Nat):Int):=by
 refine⟨x0*16777216,x1*65536,x2*256,x0*16777216+x1*65536,x0*16777216+x1*65536+x2*256,zc4 (by omega) (by omega),zc4 (by omega) (by omega),zc4 (by omega) (by omega),?_,?_,?_⟩
 ·rw[u32_or_nat _ _ (by omega) (by omega),nat_join 24 _ _ (by omega) (by omega)]
 ·rw[u32_or_nat _ _ (by omega) (by omega),nat_join 16 _ _ (by omega) (by omega)]
 ·rw[u32_or_nat _ _ (by omega) (by omega),nat_join 8 _ _ (by omega) (by omega)]
  omega
theorem Ext.setRow{a w:World}(h:Ext a w){g:Nat}(hg:a.heap.size<=g)(cs:Array Value):Ext a (w.setRow g cs):=by
 refine⟨h.os,h.tape,h.output,?_,λk hk=>?_⟩
 ·have:=h.size
  simpa[World.setRow]using this
 ·rw[setRow_other w g k cs (by omega)]
  exact h.block k hk
theorem zc8{P:Program}{ops:Array Oper}{rest:List Oper}{o:Oper}{a:Act}{w:World}{Q:Exit->Act->World->Prop}(hgd:o.guard=none)(ty:TypeId)(x:Operand)(ho:o.op= .load ty x)
  (d:Option Tmp) (hd:o.dst=d) (g:Nat) (cells:Array Value) (hx:a.eval x= .pointer (some ⟨g,0,none⟩)) (t:TypeId) (fr:Nat×Nat) (D:TypeDesc) (hg:w.heap[g]?=some (.cells cells t fr))
  (hu:P.underlying ty=some D) (hD:(match D with | .struct _ | .array _ _=>true |_=>false)=true) (hi:(P.info? ty).map (·.size)=some cells.size)
  (h:wpList P ops Q rest (a.put d (.agg cells)) w):wpList P ops Q (o::rest) a w:=by
 subst hd
 have hr:=run_loadVar_row (P:=P) w g t ty cells fr D hg hu hD hi
 refine wpList_plain hgd λK hK=>?_
 unfold Oper.wp execOp
 simp only[ho,Instr.loadAt,Instr.sureAddr,hx,Sem.run_bind,Sem.run_pure,Result.andThen_ok,hr]
 exact hK _ _ h
def Spare(w:World)(B:Nat):Prop:=∃Z:Array Value,w.heap[B]?=some (.cells Z 484 (0,0))/\Z.size=64
theorem Spare.set{w:World}{B:Nat}(h:Spare w B){p:Addr}(hp:B≠p.block)(v:Value):Spare (w.setCell p v) B:=by
 obtain⟨Z,h1,h2⟩:=h
 exact⟨Z,by rw[Below.heap_setCell _ _ _ _ hp];exact h1,h2⟩
def z3q(B:Nat)(b:List UInt8)(i:Value)(w wr:World):Prop:=
 ∃t:Nat,i= .int .i64 (t:Int)/\t<=16/\Ext w wr/\Spare wr w.heap.size/\wr.heap[B]?=some (.cells (zbz (wTo b t)) 484 (0,0))
def zz4(B:Nat)(b:List UInt8)(i:Value)(w wr:World):Prop:=
 ∃t:Nat,i= .int .i64 (t:Int)/\16<=t/\t<=64/\Ext w wr/\Spare wr w.heap.size/\wr.heap[B]?=some (.cells (zbz (wTo b t)) 484 (0,0))
theorem zsh{x n1 n2 d:Nat}{D:Int}(hD:D=(d:Int))(hx:x<4294967296)(h1:1<=n1/\n1<=31)(h2:1<=n2/\n2<=31)(hd:0<d): ∃A:Nat,
  bits BinOp.xor IntKind.u32 (rotr n1 x:Int) (rotr n2 x:Int)=(A:Int)/\bits BinOp.xor IntKind.u32 (A:Int) ((x:Int)/D)=(((rotr n1 x^^^rotr n2 x)^^^(x/d):Nat):Int):=by
 refine⟨_,u32_xor_nat _ _ (zds hx h1.1 h1.2) (zds hx h2.1 h2.2),?_⟩
 rw[hD,<-Int.natCast_ediv,u32_xor_nat _ _ (znr (zds hx h1.1 h1.2) (zds hx h2.1 h2.2)) (Nat.lt_of_le_of_lt (Nat.div_le_self _ _) hx)]
theorem z2a{a b c d:Nat}(h:True): ∃A B:Nat,IntKind.u32.wrap ((a:Int)+(b:Int))=(A:Int)/\IntKind.u32.wrap ((A:Int)+(c:Int))=(B:Int)/\
  IntKind.u32.wrap ((B:Int)+(d:Int))=(((a+b+c+d)%4294967296:Nat):Int):=by
 refine⟨(a+b)%4294967296,(a+b+c)%4294967296,?_,?_,?_⟩
 ·rw[zcd (n:=a+b) (by omega)]
 ·rw[zcd (n:=(a+b)%4294967296+c) (by omega)];omega
 ·rw[zcd (n:=(a+b+c)%4294967296+d) (by omega)];omega
set_option maxHeartbeats 4000000 in
set_option maxRecDepth 100000 in
theorem zzy(p:AC)(b:List UInt8){S:Nat->Prop}(w:World)(hp:By w S p b)(hl:b.length=64):
  Calls Tryz.prog 401 #[.slice p.a b.length p.c] w (Ret w λ_ v=>v= .agg ((wTo b 64).map u32v).toArray):=by
 have hm:=hp.lens
 unfold maxLen at hm
 obtain⟨pb,po,hpa,hpc⟩:=hp.stands (by omega)
 rw[hpa,hl]
 have HL:=Lib.hid hl
 obtain⟨pc,hc⟩: ∃pc,pc=p.c:=⟨_,rfl⟩
 rw[<-hc]
 clear hl hm hpa hc
 go_enter Tryz.func401,Tryz.ntmps401
 go_wp2_with fail
 go_loopw [10] (λi wr=>z3q (w.heap.size+1) b i w wr) (λi _=>16-(intOf i).toNat)
 case atStart=>
  refine⟨0,rfl,by omega,by(repeat (first |exact Ext.refl _ |refine Ext.drew ?_ |refine Ext.drewN ?_ _ |refine Ext.alloc ?_ _ |(refine Ext.setCell ?_ (by first |omega |(simp;done) |(simp;omega)) _) |refine Ext.trans ?_ (by assumption))),⟨_,by rw[Below.heap_alloc _ _ _ (by simp)];exact heap_alloc_new w _,rfl⟩,?_⟩
  exact zta w _ _
 case round=>
  obtain⟨t,rfl,e1,e2,e5,e3⟩:=hrel
  by_cases ht:t<16
  ·have ht2:(t:Int)<16:=by omega
   have ht0:(0:Int)<=t:=by omega
   have hcell: ∀k (hk:k<64),wr.cell? ⟨pb,po+k,none⟩=some (.int .u8 ((b.getD k 0).toNat:Int)):=λk hk=>hpc wr e2 k (by rw[HL.out];exact hk)
   have hc0:=hcell (4*t) (by omega)
   have hc1:=hcell (4*t+1) (by omega)
   have hc2:=hcell (4*t+2) (by omega)
   have hc3:=hcell (4*t+3) (by omega)
   obtain⟨x0,hx0⟩: ∃x:Nat,x=(b.getD (4*t) 0).toNat:=⟨_,rfl⟩
   obtain⟨x1,hx1⟩: ∃x:Nat,x=(b.getD (4*t+1) 0).toNat:=⟨_,rfl⟩
   obtain⟨x2,hx2⟩: ∃x:Nat,x=(b.getD (4*t+2) 0).toNat:=⟨_,rfl⟩
   obtain⟨x3,hx3⟩: ∃x:Nat,x=(b.getD (4*t+3) 0).toNat:=⟨_,rfl⟩
   have hb0:x0<256:=by rw[hx0];exact UInt8.toNat_lt _
   have hb1:x1<256:=by rw[hx1];exact UInt8.toNat_lt _
   have hb2:x2<256:=by rw[hx2];exact UInt8.toNat_lt _
   have hb3:x3<256:=by rw[hx3];exact UInt8.toNat_lt _
   have hB:be32 b (4*t)=((x0*256+x1)*256+x2)*256+x3:=by unfold be32;rw[hx0,hx1,hx2,hx3]
   rw[<-hx0]at hc0
   rw[<-hx1]at hc1
   rw[<-hx2]at hc2
   rw[<-hx3]at hc3
   have H0:=Lib.hid hB
   clear hx0 hx1 hx2 hx3 hB hcell
   have a0:(0:Int)<=4*(t:Int):=by omega
   have a1:(0:Int)<=4*(t:Int)+1:=by omega
   have a2:(0:Int)<=4*(t:Int)+2:=by omega
   have a3:(0:Int)<=4*(t:Int)+3:=by omega
   have b0:4*(t:Int)<64:=by omega
   have b1:4*(t:Int)+1<64:=by omega
   have b2:4*(t:Int)+2<64:=by omega
   have b3:4*(t:Int)+3<64:=by omega
   have n0:(4*(t:Int)).toNat=4*t:=by omega
   have n1:(4*(t:Int)+1).toNat=4*t+1:=by omega
   have n2:(4*(t:Int)+2).toNat=4*t+2:=by omega
   have n3:(4*(t:Int)+3).toNat=4*t+3:=by omega
   have w0:IntKind.i64.wrap (4*(t:Int))=4*(t:Int):=IntWalk.i64_in _ (by omega)
   have w1:IntKind.i64.wrap (4*(t:Int)+1)=4*(t:Int)+1:=IntWalk.i64_in _ (by omega)
   have w2:IntKind.i64.wrap (4*(t:Int)+2)=4*(t:Int)+2:=IntWalk.i64_in _ (by omega)
   have w3:IntKind.i64.wrap (4*(t:Int)+3)=4*(t:Int)+3:=IntWalk.i64_in _ (by omega)
   obtain⟨A0,A1,A2,C1,C2,q0,q1,q2,q3,q4,q5⟩:=zyn hb0 hb1 hb2 hb3
   have r0:IntKind.u32.wrap (x0:Int)=(x0:Int):=zc4 rfl (by omega)
   have r1:IntKind.u32.wrap (x1:Int)=(x1:Int):=zc4 rfl (by omega)
   have r2:IntKind.u32.wrap (x2:Int)=(x2:Int):=zc4 rfl (by omega)
   have r3:IntKind.u32.wrap (x3:Int)=(x3:Int):=zc4 rfl (by omega)
   have ht64:(t:Int)<64:=by omega
   rw[<-H0.out]at q5
   obtain⟨R,hR⟩: ∃R,R=be32 b (4*t):=⟨_,rfl⟩
   rw[<-hR]at q5
   have HR:=Lib.hid hR
   clear hR
   go_wp2_with fail
   go_still_tail 35,(by kernel_rfl)
   change wpList _ _ _ _ _ wr.drew
   have e2':Ext w wr.drew:=e2.drew
   have e5':Spare wr.drew w.heap.size:=e5
   have e3':wr.drew.heap[w.heap.size+1]?=some (.cells (zbz (wTo b t)) 484 (0,0)):=e3
   clear e2 e3 e5 hc0 hc1 hc2 hc3
   generalize wr.drew=w2 at*
   have s1:w2.cell? ⟨w.heap.size+1,t,none⟩=some (u32v 0):=by
    rw[cell_of_row w2 _ t _ _ _ e3']
    exact zle (by rw[zbt];omega) (by rw[zbt];omega) (by omega)
   have s2:w2.frozen? ⟨w.heap.size+1,t,none⟩=false:=by simp[World.frozen?,e3']
   go_wp2_with fail
   go_roundw
   case rel=>
    refine⟨t+1,by simp,by omega,by(repeat (first |exact Ext.refl _ |refine Ext.drew ?_ |refine Ext.drewN ?_ _ |refine Ext.alloc ?_ _ |(refine Ext.setCell ?_ (by first |omega |(simp;done) |(simp;omega)) _) |refine Ext.trans ?_ (by assumption))),e5'.set (by simp) _,?_⟩
    rw[setCell_eq_setRow _ _ _ _ _ _ _ e3',setRow_heap _ _ _ _ _ _ e3',wTo]
    have:=znk (L:=wTo b t) (by rw[zbt];omega) R
    rw[zbt]at this
    rw[show(Value.int .u32 (R:Int))=u32v R from rfl,this,HR.out,zi3,zbt,if_pos ht]
   case measure=>(first |omega |(simp[intOf];done) |(simp[intOf];omega))
  ·have h16:t=16:=by omega
   have H16:=Lib.hid h16
   clear hpc h16
   go_wp2_with fail
   go_loopw [5] (λi wr'=>zz4 (w.heap.size+1) b i w wr') (λi _=>64-(intOf i).toNat)
   case atStart=>exact⟨16,rfl,by omega,by omega,e2,e5,by rw[<-H16.out];exact e3⟩
   case round=>
    clear e2 e3 e5
    rename_i wr0 _
    obtain⟨t,rfl,e1,e4,e2,e5,e3⟩:=hrel
    by_cases ht:t<64
    ·have ht2:(t:Int)<64:=by omega
     have ht0:(0:Int)<=t:=by omega
     have hlen:(wTo b t).length=t:=zbt b t
     have hcell: ∀j,j<t->wr.cell? ⟨w.heap.size+1,j,none⟩=some (.int .u32 (((wTo b t).getD j 0:Nat):Int)):=λj hj=>by
      rw[cell_of_row wr _ j _ _ _ e3];exact zws (by omega) (by omega)
     have hnext:zi3 b (wTo b t)=(ss1 ((wTo b t).getD (t-2) 0)+(wTo b t).getD (t-7) 0+ss0 ((wTo b t).getD (t-15) 0)+(wTo b t).getD (t-16) 0)%4294967296:=by
      rw[zi3,hlen,if_neg (by omega)]
     have hc0:=hcell (t-15) (by omega)
     have hc1:=hcell (t-2) (by omega)
     have hc2:=hcell (t-7) (by omega)
     have hc3:=hcell (t-16) (by omega)
     have hbx:=zzt b t (t-15)
     have hby:=zzt b t (t-2)
     generalize (wTo b t).getD (t-15) 0=x at*
     generalize (wTo b t).getD (t-2) 0=y at*
     generalize (wTo b t).getD (t-7) 0=m7 at*
     generalize (wTo b t).getD (t-16) 0=m16 at*
     obtain⟨G1,g1,g2⟩:=zsh (n1:=7) (n2:=18) (d:=8) (D:=8) rfl hbx (by omega) (by omega) (by omega)
     obtain⟨G2,g3,g4⟩:=zsh (n1:=17) (n2:=19) (d:=1024) (D:=1024) rfl hby (by omega) (by omega) (by omega)
     rw[<-ss0]at g2
     rw[<-ss1]at g4
     obtain⟨S1,S2,s1,s2,s3⟩:=z2a (a:=ss1 y) (b:=m7) (c:=ss0 x) (d:=m16) trivial
     rw[<-hnext]at s3
     have HN:=Lib.hid hnext
     have HLn:=Lib.hid hlen
     clear hnext hlen hcell
     generalize hR:zi3 b (wTo b t)=R at*
     have HR:=Lib.hid hR
     clear hR
     generalize ss0 x=X0 at*
     generalize ss1 y=Y1 at*
     have HX:Hid (x<4294967296):=Lib.hid hbx
     have HY:Hid (y<4294967296):=Lib.hid hby
     have a0:(0:Int)<=(t:Int)-15:=by omega
     have a1:(0:Int)<=(t:Int)-2:=by omega
     have a2:(0:Int)<=(t:Int)-7:=by omega
     have a3:(0:Int)<=(t:Int)-16:=by omega
     have b0:(t:Int)-15<64:=by omega
     have b1:(t:Int)-2<64:=by omega
     have b2:(t:Int)-7<64:=by omega
     have b3:(t:Int)-16<64:=by omega
     have a4:(7:Int)<=(t:Int):=by omega
     have a5:(16:Int)<=(t:Int):=by omega
     have n0:((t:Int)-15).toNat=t-15:=by omega
     have n1:((t:Int)-2).toNat=t-2:=by omega
     have n2:((t:Int)-7).toNat=t-7:=by omega
     have n3:((t:Int)-16).toNat=t-16:=by omega
     have w0:IntKind.i64.wrap ((t:Int)-15)=(t:Int)-15:=IntWalk.i64_in _ (by omega)
     have w1:IntKind.i64.wrap ((t:Int)-2)=(t:Int)-2:=IntWalk.i64_in _ (by omega)
     have w2:IntKind.i64.wrap ((t:Int)-7)=(t:Int)-7:=IntWalk.i64_in _ (by omega)
     have w3:IntKind.i64.wrap ((t:Int)-16)=(t:Int)-16:=IntWalk.i64_in _ (by omega)
     go_wp2_with fail
     go_quiet (fail)
     go_wp2_with fail
     refine(zfb 7 x HX.out (by omega) _).mono ?_
     rintro e w' ⟨rfl,rfl⟩
     go_wp2_with fail
     refine(zfb 18 x HX.out (by omega) _).mono ?_
     rintro e w' ⟨rfl,rfl⟩
     go_wp2_with fail
     refine(zfb 17 y HY.out (by omega) _).mono ?_
     rintro e w' ⟨rfl,rfl⟩
     go_wp2_with fail
     refine(zfb 19 y HY.out (by omega) _).mono ?_
     rintro e w' ⟨rfl,rfl⟩
     go_wp2_with fail
     have e2':Ext w (wr.drewN nq):=e2.drewN nq
     have e5':Spare (wr.drewN nq) w.heap.size:=e5
     have e3':(wr.drewN nq).heap[w.heap.size+1]?=some (.cells (zbz (wTo b t)) 484 (0,0)):=e3
     have hc2':(wr.drewN nq).cell? ⟨w.heap.size+1,t-7,none⟩=some (.int .u32 (m7:Int)):=hc2
     have hc3':(wr.drewN nq).cell? ⟨w.heap.size+1,t-16,none⟩=some (.int .u32 (m16:Int)):=hc3
     clear e2 e3 e5 hc0 hc1 hc2 hc3
     generalize wr.drewN nq=w5 at*
     go_still_tail 15,(by kernel_rfl)
     change wpList _ _ _ _ _ w5.drew
     have e2:Ext w w5.drew:=e2'.drew
     have e5:Spare w5.drew w.heap.size:=e5'
     have e3:w5.drew.heap[w.heap.size+1]?=some (.cells (zbz (wTo b t)) 484 (0,0)):=e3'
     clear e2' e3' e5' hc2' hc3'
     generalize w5.drew=w6 at*
     have s4:w6.cell? ⟨w.heap.size+1,t,none⟩=some (u32v 0):=by
      rw[cell_of_row w6 _ t _ _ _ e3]
      exact zle (by rw[zbt];omega) (by rw[zbt];omega) (by omega)
     have s5:w6.frozen? ⟨w.heap.size+1,t,none⟩=false:=by simp[World.frozen?,e3]
     go_wp2_with fail
     go_roundw
     case rel=>
      refine⟨t+1,by simp,by omega,by omega,by(repeat (first |exact Ext.refl _ |refine Ext.drew ?_ |refine Ext.drewN ?_ _ |refine Ext.alloc ?_ _ |(refine Ext.setCell ?_ (by first |omega |(simp;done) |(simp;omega)) _) |refine Ext.trans ?_ (by assumption))),e5.set (by simp) _,?_⟩
      rw[setCell_eq_setRow _ _ _ _ _ _ _ e3,setRow_heap _ _ _ _ _ _ e3,wTo]
      have:=znk (L:=wTo b t) (by rw[zbt];omega) R
      rw[zbt]at this
      rw[show(Value.int .u32 (R:Int))=u32v R from rfl,this,HR.out]
     case measure=>(first |omega |(simp[intOf];done) |(simp[intOf];omega))
    ·have h64:t=64:=by omega
     subst h64
     have hs64:(zbz (wTo b 64)).size=64:=zwt (by rw[zbt];omega)
     have hval:zbz (wTo b 64)=((wTo b 64).map u32v).toArray:=by unfold zbz;rw[zbt];simp
     have hone:(zbz (wTo b 64)).all (·.oneCell')=true:=by rw[hval];simp[u32v,Value.oneCell']
     obtain⟨Z,hZ,hZs⟩:=e5
     generalize zbz (wTo b 64)=cs at*
     go_upto_region 14 with fail
     apply wp_region_lit
     refine zc8 rfl 484 _ rfl (some 92) rfl (w.heap.size+1) cs rfl 484 (0,0) _ e3 Tryz.underlying484 rfl (by rw[hs64];kernel_rfl) ?_
     refine wpList_store_rowTo rfl 484 _ _ rfl rfl w.heap.size cs rfl rfl 484 Z hZ (by rw[hs64];kernel_rfl) (by rw[hs64];exact hZs) hone ?_
     apply wpList_nil
     go_wp2_with fail
     refine bodyPost_ret (results_cell_row rfl _ _ w.heap.size 484 _ (0,0) _ rfl (setRow_heap _ _ _ _ _ _ hZ) Tryz.underlying484 rfl (by rw[hs64];kernel_rfl)) rfl ?_
     exact⟨_,rfl,e2.setRow (Nat.le_refl _) _,by rw[hval]⟩
end
section
theorem zk5{a b c:World}{g:Option Nat}(h:a.grownBy b g)(k:b.grownBy c g):a.grownBy c g:=
 ⟨k.os.trans h.os,k.tape.trans h.tape,k.output.trans h.output,Nat.le_trans h.size k.size,λi hi hn=>(k.block i (Nat.lt_of_lt_of_le hi h.size) hn).trans (h.block i hi hn)⟩
theorem zms{a b:World}{g:Option Nat}(h:a.grownBy b g):a.grownBy b.drew g:=⟨h.os,h.tape,h.output,h.size,h.block⟩
theorem zk4{a b:World}{g:Option Nat}(h:a.grownBy b g)(n:Nat):a.grownBy (b.drewN n) g:=⟨h.os,h.tape,h.output,h.size,h.block⟩
theorem zq0{a b:World}(h:Ext a b)(g:Option Nat):a.grownBy b g:=⟨h.os,h.tape,h.output,h.size,λk hk _=>h.block k hk⟩
theorem zd0{a b:World}{g:Nat}(h:a.grownBy b (some g)){p:Addr}(hp:p.block=g)(v:Value):a.grownBy (b.setCell p v) (some g):=
 ⟨h.os,h.tape,h.output,by simpa[World.setCell]using h.size,λk hk hn=>(Below.heap_setCell _ _ _ _ (λe=>hn (by rw[e,hp]))).trans (h.block k hk hn)⟩
section
variable {P:Program} {ops:Array Oper} {rest:List Oper} {o:Oper} {a:Act} {w:World} {Q:Exit->Act->World->Prop}
theorem zbp(hgd:o.guard=none)(ty:TypeId)(ho:o.op= .alloc ty)(d:Option Tmp)(hd:o.dst=d)(n:Nat)
  (hi:((P.info? ty).bind (·.zero)).map (·.cells.size)=some n)
  (h: ∀(w':World) (Z:Array Value),Z.size=n->w'.heap[w.heap.size]?=some (.cells Z ty (0,0))->w'.heap.size=w.heap.size+1->Ext w w'->wpList P ops Q rest (a.put d (.pointer (some ⟨w.heap.size,0,none⟩))) w'):
  wpList P ops Q (o::rest) a w:=by
 subst hd
 cases hp:P.info? ty with
 |none=>simp[hp]at hi
 |some i=>
  cases hz:i.zero with
  |none=>simp[hp,hz]at hi
  |some z=>
   simp only[hp,hz,Option.bind_some,Option.map_some,Option.some.injEq]at hi
   refine wpList_plain hgd λK hK=>?_
   have hr:(execOp a.eval o).run P w= .ok (.value (.pointer (some ⟨w.heap.size,0,none⟩))) (w.alloc (.cells z.cells ty)):=by
    unfold execOp
    simp[ho,Instr.alloc,zeroValue,typeInfo,hp,hz,newVar,newRow,newObj,Result.andThen]
    rfl
   unfold Oper.wp
   rw[hr,Oper.upon_value]
   exact hK _ _ (h _ _ hi (heap_alloc_new w _) (by rw[World.alloc];simp) (zaz w _))
theorem zb0(hgd:o.guard=none)(ty:TypeId)(x y:Operand)(ho:o.op= .store ty x y)(hd:o.dst=none)(g:Nat)(cells:Array Value)
  (hx:a.eval x= .pointer (some ⟨g,0,none⟩)) (hy:a.eval y= .agg cells) (t:TypeId) (old:Array Value) (hg:w.heap[g]?=some (.cells old t (0,0))) (hi:(P.info? ty).map (·.size)=some cells.size)
  (hold:old.size=cells.size) (h1:cells.all (·.oneCell')=true)
  (h: ∀w':World,w'.heap[g]?=some (.cells cells t (0,0))->w'.heap.size=w.heap.size->w.grownBy w' (some g)->wpList P ops Q rest (a.put none undef) w'):wpList P ops Q (o::rest) a w:=by
 refine wpList_store_row hgd ty x y ho g cells hx hy t old hg hi hold h1 ?_
 rw[hd]
 refine h _ (setRow_heap w g _ cells t (0,0) hg) (by simp[World.setRow]) ⟨rfl,rfl,rfl,by simp[World.setRow],λk hk hn=>setRow_other w g k _ (λe=>hn (by rw[e]))⟩
theorem znq(hgd:o.guard=none)(s x:Operand)(dT sT elem:TypeId)(ho:o.op= .call {callee:= .builtin .copy,args:= #[s,x],argTypes:= #[dT,sT]})
  (hu:P.underlying dT=some (.slice elem)) (hs1:(P.info? elem).map (·.size)=some 1) (g od dLen dCap:Nat) (ad:Addr) (sLen sCap:Nat) (cur:Array Value) (t:TypeId) (cs:List Value)
  (hs:a.eval s= .slice (some ⟨g,od,none⟩) dLen dCap) (hx:a.eval x= .slice (some ad) sLen sCap) (hg:w.heap[g]?=some (.cells cur t (0,0))) (hn:cs.length=Nat.min sLen dLen)
  (hsrc: ∀j v,cs[j]?=some v->w.cell? (ad.add j)=some v) (hfit:od+cs.length<=cur.size) (h1: ∀v∈cs,v.oneCell'=true)
  (h: ∀w':World,w'.heap[g]?=some (.cells (cur.toList.take od++cs++cur.toList.drop (od+cs.length)).toArray t (0,0))->w'.heap.size=w.heap.size->w.grownBy w' (some g)->wpList P ops Q rest (a.put o.dst (goInt cs.length)) w'):
  wpList P ops Q (o::rest) a w:=by
 have hr:=run_copy_row P w dT sT o.type elem g od dLen dCap ad sLen sCap cur t cs hu hs1 hg hn hsrc hfit h1
 refine wpList_plain hgd λK hK=>?_
 unfold Oper.wp execOp
 simp only[ho,resolve,invoke,builtin,Sem.run_bind,Sem.run_pure,Result.andThen_ok,List.map_toArray,List.map_cons,List.map_nil,hs,hx,hr]
 exact hK _ _ (h _ (setRow_heap w g _ _ t (0,0) hg) (by simp[World.setRow]) ⟨rfl,rfl,rfl,by simp[World.setRow],λk hk hn=>setRow_other w g k _ (λe=>hn (by rw[e]))⟩)
end
end
section
theorem z9s{e:Nat}(he:e<4294967296):4294967295^^^e=4294967295-e:=by
 have h1:(~~~(BitVec.ofNat 32 e)).toNat=2^32-1-(BitVec.ofNat 32 e).toNat:=BitVec.toNat_not
 rw[BitVec.not_def,BitVec.toNat_xor,BitVec.toNat_allOnes,BitVec.toNat_ofNat,Nat.mod_eq_of_lt (by omega)]at h1
 simpa using h1
theorem z56{k w:Nat}{s:H8}(h:s.ok): ∃X1 A1 NE A2 CH S1 S2 S3 T1:Nat,
  bits BinOp.xor IntKind.u32 (rotr 6 s.e:Int) (rotr 11 s.e:Int)=(X1:Int)/\bits BinOp.xor IntKind.u32 (X1:Int) (rotr 25 s.e:Int)=(bs1 s.e:Int)/\
  IntKind.u32.wrap ((s.h:Int)+(bs1 s.e:Int))=(S1:Int)/\
  bits BinOp.and IntKind.u32 (s.e:Int) (s.f:Int)=(A1:Int)/\bits BinOp.xor IntKind.u32 IntKind.u32.max (s.e:Int)=(NE:Int)/\bits BinOp.and IntKind.u32 (NE:Int) (s.g:Int)=(A2:Int)/\
  bits BinOp.xor IntKind.u32 (A1:Int) (A2:Int)=(CH:Int)/\IntKind.u32.wrap ((S1:Int)+(CH:Int))=(S2:Int)/\
  IntKind.u32.wrap ((S2:Int)+(k:Int))=(S3:Int)/\IntKind.u32.wrap ((S3:Int)+(w:Int))=(T1:Int)/\T1=t1N k w s%4294967296/\
  ((S1:Int)+(CH:Int))%4294967296=(S2:Int)/\((S1:Int)+(CH:Int)+(k:Int))%4294967296=(S3:Int)/\((S1:Int)+(CH:Int)+(k:Int)+(w:Int))%4294967296=(T1:Int)/\((S3:Int)+(w:Int))%4294967296=(T1:Int):=by
 obtain⟨ha,hb,hc,hd,he,hf,hg,hh⟩:=h
 have r6:=zds (n:=6) he (by omega) (by omega)
 have r11:=zds (n:=11) he (by omega) (by omega)
 have r25:=zds (n:=25) he (by omega) (by omega)
 have hch:(s.e&&&s.f)^^^((4294967295-s.e)&&&s.g)=chN s.e s.f s.g:=rfl
 refine⟨_,_,4294967295-s.e,_,_,(s.h+bs1 s.e)%4294967296,(s.h+bs1 s.e+chN s.e s.f s.g)%4294967296,(s.h+bs1 s.e+chN s.e s.f s.g+k)%4294967296,_,
  u32_xor_nat _ _ r6 r11,u32_xor_nat _ _ (znr r6 r11) r25,?_,u32_and_nat _ _ he hf,?_,u32_and_nat _ _ (by omega) hg,u32_xor_nat _ _ (zgp he) (zgp (by omega)),?_,?_,?_,rfl,?_,?_,?_,?_⟩
 ·rw[zcd (n:=s.h+bs1 s.e) (by omega)]
 ·rw[show IntKind.u32.max=((4294967295:Nat):Int)from rfl,u32_xor_nat _ _ (by omega) he,z9s he]
 ·rw[hch,zcd (n:=(s.h+bs1 s.e)%4294967296+chN s.e s.f s.g) (by omega)];omega
 ·rw[zcd (n:=(s.h+bs1 s.e+chN s.e s.f s.g)%4294967296+k) (by omega)];omega
 ·rw[zcd (n:=(s.h+bs1 s.e+chN s.e s.f s.g+k)%4294967296+w) (by omega)]
  unfold t1N;omega
 ·rw[hch];omega
 ·rw[hch];omega
 ·rw[hch];unfold t1N;omega
 ·unfold t1N;omega
theorem z58{s:H8}(h:s.ok): ∃X1 A1 A2 A3 M1 MJ T2:Nat,
  bits BinOp.xor IntKind.u32 (rotr 2 s.a:Int) (rotr 13 s.a:Int)=(X1:Int)/\bits BinOp.xor IntKind.u32 (X1:Int) (rotr 22 s.a:Int)=(bs0 s.a:Int)/\
  bits BinOp.and IntKind.u32 (s.a:Int) (s.b:Int)=(A1:Int)/\bits BinOp.and IntKind.u32 (s.a:Int) (s.c:Int)=(A2:Int)/\bits BinOp.xor IntKind.u32 (A1:Int) (A2:Int)=(M1:Int)/\
  bits BinOp.and IntKind.u32 (s.b:Int) (s.c:Int)=(A3:Int)/\bits BinOp.xor IntKind.u32 (M1:Int) (A3:Int)=(MJ:Int)/\
  IntKind.u32.wrap ((bs0 s.a:Int)+(MJ:Int))=(T2:Int)/\T2=t2N s%4294967296:=by
 obtain⟨ha,hb,hc,hd,he,hf,hg,hh⟩:=h
 have r2:=zds (n:=2) ha (by omega) (by omega)
 have r13:=zds (n:=13) ha (by omega) (by omega)
 have r22:=zds (n:=22) ha (by omega) (by omega)
 have hmj:((s.a&&&s.b)^^^(s.a&&&s.c))^^^(s.b&&&s.c)=majN s.a s.b s.c:=rfl
 refine⟨_,_,_,_,_,_,_,u32_xor_nat _ _ r2 r13,u32_xor_nat _ _ (znr r2 r13) r22,u32_and_nat _ _ ha hb,u32_and_nat _ _ ha hc,u32_xor_nat _ _ (zgp ha) (zgp ha),u32_and_nat _ _ hb hc,u32_xor_nat _ _ (znr (zgp ha) (zgp ha)) (zgp hb),?_,rfl⟩
 rw[hmj,zcd (n:=bs0 s.a+majN s.a s.b s.c) (by omega)]
 rfl
end
end Go.Proofs.YtebhngeddnnpkaaGreat
