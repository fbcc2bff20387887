import Derived.Test.YtpcfoglfakeimaaGreatZFc
import Derived.Test.YtpcfoglfakeimaaGreatZNx
import Derived.Lib.AppendZerosOnto
import Derived.RangeFuncNested
import Derived.RangeFuncLeaves
import Derived.Test.YtpcfoglfakeimaaGreatZFa
namespace Go.Proofs.YtpcfoglfakeimaaGreat.Sx
open Go.RowKit
section
structure X8 where
 a:UInt64
 b:UInt64
 c:UInt64
 d:UInt64
 e:UInt64
 f:UInt64
 g:UInt64
 h:UInt64
abbrev X8.l(x:X8):List UInt64:=[x.a,x.b,x.c,x.d,x.e,x.f,x.g,x.h]
def X8.t1(x:X8)(k w:UInt64):UInt64:=x.h+((rorW x.e 14^^^rorW x.e 18)^^^rorW x.e 41)+((x.e&&&x.f)^^^((18446744073709551615^^^x.e)&&&x.g))+k+w
def X8.t2(x:X8):UInt64:=((rorW x.a 28^^^rorW x.a 34)^^^rorW x.a 39)+(((x.a&&&x.b)^^^(x.a&&&x.c))^^^(x.b&&&x.c))
def X8.next(x:X8)(k w:UInt64):X8:=⟨x.t1 k w+x.t2,x.a,x.b,x.c,x.d+x.t1 k w,x.e,x.f,x.g⟩
def X8.add(x y:X8):X8:=⟨x.a+y.a,x.b+y.b,x.c+y.c,x.d+y.d,x.e+y.e,x.f+y.f,x.g+y.g,x.h+y.h⟩
def xN(s:X8)(k w:List UInt64):Nat->X8
 |0=>s
 |j+1=>(xN s k w j).next (k.getD j 0) (w.getD j 0)
theorem zcqb(s:X8)(k w:List UInt64):xN s k w 0=s:=rfl
theorem zcpb(s:X8)(k w:List UInt64)(j:Nat):xN s k w (j+1)=(xN s k w j).next (k.getD j 0) (w.getD j 0):=rfl
attribute [irreducible] xN
def z2c(s:X8)(k:List UInt64)(b:List UInt8):X8:=s.add (xN s k (wB b 64) 80)
abbrev X8.bx(x:X8):Ow:= .box [.r (W x.a), .r (W x.b), .r (W x.c), .r (W x.d), .r (W x.e), .r (W x.f), .r (W x.g), .r (W x.h)]
abbrev X8.v(x:X8):List RV:=[W x.a,W x.b,W x.c,W x.d,W x.e,W x.f,W x.g,W x.h]
def stI(s:X8)(k w:List UInt64)(j:Nat):St:={F:=[(3, .own 0),(4, .own 1),(6, .own 2),(7, .own 3),(8, .own 4),(18, .r (I j))],O:=[(0,some s.bx),(1,some (boxW k)),(2,some (X8.bx ⟨0,0,0,0,0,0,0,0⟩)),(3,some (boxW w)),(4,some (xN s k w j).bx)],nx:=5}
theorem z5q(s:X8)(k w:List UInt64)(j:Nat):stOk [(0,0),(1,1),(2,2),(3,3),(4,4)] (stI s k w j)=true:=by
 simp only[stOk,stI,boxW,List.all_cons,List.all_nil,zdl,zdw]
 rfl
set_option maxHeartbeats 4000000 in
theorem z7o(s:X8)(k:List UInt64)(b:List UInt8)(hk:k.length=80)(hb:b.length=128):aG 312 [.ag s.v, .ag (k.map W),bs b] (.r (.ag (z2c s k b).v)):=by
 refine aT Tryz.func312 rfl ?_
 refine ze (zbcb b hb) ?_
 (conv=>whnf)
 generalize hq:(za4 _&&_)=q
 obtain rfl:=hq.symm.trans (zht (l:=(wB b 64).map W) 80 (by rw[List.length_map,zcm]) rfl)
 clear hq
 refine zd7 (by rw[List.length_map,List.length_map,zcm];rfl) ?_
 refine za rfl rfl ?_
 refine Vloop.mk' (stI s k (wB b 64)) (λj=>j<=80) (λj=>80-j) 0 (by omega) (zac [(0,0),(1,1),(2,2),(3,3),(4,4)] (z5q s k (wB b 64) 0) ⟨rfl,rfl,rfl,rfl,rfl,cr,trivial⟩ ⟨(aD aZ),zad (k.map W),(aD aZ),zad ((wB b 64).map W),by rw[zcqb];exact⟨_,_,rfl,cr,_,_,rfl,cr,_,_,rfl,cr,_,_,rfl,cr,_,_,rfl,cr,_,_,rfl,cr,_,_,rfl,cr,_,_,rfl,cr,rfl⟩,trivial⟩) ?_
 intro j hj
 refine zh (λh=>zq ?_) (λh=>zt ?_)
 ·simp only[zb]at h
  have hj':j<80:=by omega
  generalize hX:xN s k (wB b 64) j=x
  refine aV ?_
  refine Vadr.any (by decide) ?_
  refine Vadr.any (by decide) ?_
  refine aV ?_
  refine Vadr.any (by decide) ?_
  refine ze (zc0 _ 14 (by decide)) ?_
  refine ze (zc0 _ 18 (by decide)) ?_
  refine Vbits.wxor _ _ rfl rfl ?_
  refine ze (zc0 _ 41 (by decide)) ?_
  refine Vbits.wxor _ _ rfl rfl ?_
  refine Vint.wadd _ _ rfl rfl ?_
  refine Vadr.any (by decide) ?_
  refine Vbits.wand _ _ rfl rfl ?_
  refine Vbits.wxor 18446744073709551615 _ rfl rfl ?_
  refine Vadr.any (by decide) ?_
  refine Vbits.wand _ _ rfl rfl ?_
  refine Vbits.wxor _ _ rfl rfl ?_
  refine Vint.wadd _ _ rfl rfl ?_
  (conv=>whnf)
  generalize hq:zaz _ _ _ _ _=q
  obtain rfl:=hq.symm.trans (zbc rfl rfl rfl)
  clear hq
  refine Vadr.mk' j rfl (by omega) ?_
  (conv=>whnf)
  generalize hq:zaz _ _ _ _ _=q
  obtain rfl:=hq.symm.trans (zbc rfl rfl rfl)
  clear hq
  (conv=>whnf)
  generalize hq:lget _ _=q
  obtain rfl:=hq.symm.trans (zhy (l:=k) (j:=j) (by rw[hk];omega))
  clear hq
  refine Vint.wadd _ _ rfl rfl ?_
  (conv=>whnf)
  generalize hq:zaz _ _ _ _ _=q
  obtain rfl:=hq.symm.trans (zbc rfl rfl rfl)
  clear hq
  refine Vadr.mk' j rfl (by omega) ?_
  (conv=>whnf)
  generalize hq:zaz _ _ _ _ _=q
  obtain rfl:=hq.symm.trans (zbc rfl rfl rfl)
  clear hq
  (conv=>whnf)
  generalize hq:lget _ _=q
  obtain rfl:=hq.symm.trans (zhy (l:=wB b 64) (j:=j) (by rw[zcm];omega))
  clear hq
  refine Vint.wadd _ _ rfl rfl ?_
  refine aV ?_
  refine ze (zc0 _ 28 (by decide)) ?_
  refine ze (zc0 _ 34 (by decide)) ?_
  refine Vbits.wxor _ _ rfl rfl ?_
  refine ze (zc0 _ 39 (by decide)) ?_
  refine Vbits.wxor _ _ rfl rfl ?_
  refine Vadr.any (by decide) ?_
  refine Vbits.wand _ _ rfl rfl ?_
  refine Vadr.any (by decide) ?_
  refine Vbits.wand _ _ rfl rfl ?_
  refine Vbits.wxor _ _ rfl rfl ?_
  refine Vadr.any (by decide) ?_
  refine Vadr.any (by decide) ?_
  refine Vbits.wand _ _ rfl rfl ?_
  refine Vbits.wxor _ _ rfl rfl ?_
  refine Vint.wadd _ _ rfl rfl ?_
  refine aV ?_
  refine Vcutn.mk' 1 7 rfl rfl (by decide) (by decide) ?_
  refine Vcutn.mk' 0 7 rfl rfl (by decide) (by decide) ?_
  refine Vstep.copyBox (n:=7) (m:=7) (ys:=[W x.a,W x.b,W x.c,W x.d,W x.e,W x.f,W x.g]) (zs:=[.r (W x.a), .r (W x.a), .r (W x.b), .r (W x.c), .r (W x.d), .r (W x.e), .r (W x.f), .r (W x.g)]) Tab_ok rfl rfl rfl rfl rfl rfl rfl (by show 1*1+7<=8;decide) rfl (.inr ⟨0,rfl,by show 0+7<=8;decide,rfl⟩) rfl ?_
  refine Vadr.any (by decide) ?_
  refine Vint.wadd _ _ rfl rfl ?_
  refine Vadr.any (by decide) ?_
  refine Vint.wadd _ _ rfl rfl ?_
  refine Vadr.any (by decide) ?_
  refine zd (m:=((j+1:Nat):Int)) (by omega) (by omega) ?_
  exact⟨j+1,by omega,by omega,zac [(0,0),(1,1),(2,2),(3,3),(4,4)] (z5q s k (wB b 64) (j+1)) ⟨rfl,rfl,rfl,rfl,rfl,cr,trivial⟩ ⟨(aD aZ),zad (k.map W),(aD aZ),zad ((wB b 64).map W),by rw[zcpb,hX];exact⟨_,_,rfl,cr,_,_,rfl,cr,_,_,rfl,cr,_,_,rfl,cr,_,_,rfl,cr,_,_,rfl,cr,_,_,rfl,cr,_,_,rfl,cr,rfl⟩,trivial⟩⟩
 ·simp only[zb]at h
  obtain rfl:j=80:=by omega
  generalize hX:xN s k (wB b 64) 80=x
  refine Vloop.rounds 9 ?_
  repeat' ((conv=>whnf);first|refine Vrounds.step mixed Tab_ok ?_|refine zu rfl (zq ?_)|refine zw rfl (zt ?_)|refine Vadr.any (by decide) ?_|refine Vint.any (k:= .i64) ?_|refine Vint.wadd _ _ rfl rfl ?_|refine za rfl rfl ?_|refine aV ?_)
  subst hX
  exact cr
end
section
variable {P:Program} {T:TT} {B:Bs} {N:Nat} {S:St} {a:Act} {w:World} {k:Kp} {g:Env} {o:Oper} {Q:Exit->Act->World->Prop}
abbrev zs(m:Nat):List Value:=List.replicate m (Value.int .u8 0)
abbrev zR(m:Nat):List RV:=List.replicate m (.i .u8 0)
theorem zfsb(w:World)(k:Kp)(m:Nat):RV.listAt w k (zR m) (zs m):=by
 rw[RV.listAt_iff]
 refine⟨by simp,λj f u hf hu=>?_⟩
 rw[List.getElem?_replicate]at hf hu
 split at hf
 ·rename_i h
  rw[if_pos h]at hu
  cases hf;cases hu
  exact⟨rfl,by simp[RV.at_]⟩
 ·cases hf
theorem zrt{z:Array Value}(h:z= #[.int .u8 0]) (m:Nat):Builtin.zeroCells z m=(zs m).toArray:=by
 subst h
 apply Array.ext'
 simp only[Builtin.zeroCells,List.size_toArray,List.length_cons,List.length_nil,Nat.zero_add,Nat.mul_one,Nat.mod_one,Array.toList_map,Array.toList_range]
 apply List.ext_getElem
 ·simp
 ·intro i h1 h2
  simp
theorem zkd(w:World)(t tn ty e:TypeId)(i:TypeInfo)(z:Value)(kq kn:IntKind)(ht:P.underlying t=some (.slice e))(htn:P.underlying tn=some (.int kn))(hi:P.info? e=some i)(hz:i.zero=some z)(hsize:i.size=1)(hby:i.bytes=1)(hzl:z.cells= #[.int .u8 0])
  (g sLen sCap:Nat) (cur:Array Value) (hg:w.heap[g]?=some (.cells cur e (0,0))) (m:Nat) (hm:0<m) (hroom:sLen+m<=sCap) (hfit:sLen+m<=cur.size) (hmm:m<=140737488355328):
  (Builtin.append_ #[t,tn] ty #[.slice (some ⟨g,0,none⟩) sLen sCap, .int kq (m:Int)]).run P w=
   .ok (.slice (some ⟨g,0,none⟩) (sLen+m) sCap) (w.setRow g (cur.toList.take sLen++zs m++cur.toList.drop (sLen+m)).toArray):=by
 have hst:=run_storeCells_at P g sLen e (zs m) 0 cur w hg (by simpa using hfit) (λu hu=>by rw[List.eq_of_mem_replicate hu];rfl)
 simp only[Nat.add_zero,List.length_replicate]at hst
 have hk:m≠0:=by omega
 have hw:IntKind.i64.wrap (m:Int)=m:=by rw[IntKind.wrap_i64];omega
 have hneg: ¬((m:Int)<0):=by omega
 have h48i: ¬(281474976710656< (m:Int)):=by omega
 have hzc:=zrt hzl m
 simp[Builtin.append_,run_underlying ht,run_underlying htn,sizeOf,typeInfo,zeroValue,hi,hz,hsize,hby,asInt,asIntOf,hw,hneg,h48i,hk,hroom,hzc,Addr.add_lit,hst]
theorem zu3{t t' ty e:TypeId}{kn kq:IntKind}{i:TypeInfo}{z:Value}(ht:P.underlying t=some (.slice e))(hu:P.underlying t'=some (.int kn))(hi:P.info? e=some i)(hz:i.zero=some z)
  (hsize:i.size=1) (hby:i.bytes=1) (hzl:z.cells= #[.int .u8 0])
  {n:Nat} {cells:List RV} {pub:Bool} {u:Value} {ob:Option Nat} (hch:chAt w k e 1 n cells pub u ob) (m:Nat) (hm:0<m) (hbytes:n+m<=140737488355328):
  ∃xs b cap cur w',(Builtin.append_ #[t,t'] ty #[u, .int kq (m:Int)]).run P w= .ok (.slice (some ⟨b,0,none⟩) (n+m) cap) w'/\RV.listAt w k cells xs/\
   w'.heap[b]?=some (.cells cur e (0,0))/\n+m<=cap/\cap<=maxLen/\cap*1<=cur.size/\cur.toList.take ((n+m)*1)=xs++zs m/\w.grownBy w' ob/\(ob=some b\/b=w.heap.size)/\
   (∀b0,ob=some b0->(∃cur0,w.heap[b0]?=some (.cells cur0 e (0,0))/\cur0.toList.take (n*1)=xs)/\(b=b0\/b=w.heap.size/\w'.heap[b0]?=w.heap[b0]?)):=by
 obtain⟨hcl,hch⟩:=hch
 have hl:(zs m).length=m:=List.length_replicate
 have hzs:z.cells.size=1:=by rw[hzl];rfl
 have h63:n+m<=maxLen:=by simp only[maxLen];omega
 have fin: ∀(xs:List Value) (old:Nat),xs.length=n->
   (w.drew.alloc (.cells (xs.toArray++(zs m).toArray++Builtin.zeroCells z.cells (grownCap w (n+m) old e-(n+m))) e)).heap[w.heap.size]?=some (.cells (xs.toArray++(zs m).toArray++Builtin.zeroCells z.cells (grownCap w (n+m) old e-(n+m))) e (0,0))/\
   n+m<=grownCap w (n+m) old e/\grownCap w (n+m) old e<=maxLen/\(xs.toArray++(zs m).toArray++Builtin.zeroCells z.cells (grownCap w (n+m) old e-(n+m))).size=grownCap w (n+m) old e*1/\
   (xs.toArray++(zs m).toArray++Builtin.zeroCells z.cells (grownCap w (n+m) old e-(n+m))).toList.take ((n+m)*1)=xs++zs m/\
   ∀row,w.grownBy (w.drew.alloc (.cells (xs.toArray++(zs m).toArray++Builtin.zeroCells z.cells (grownCap w (n+m) old e-(n+m))) e)) row:=λxs old hx=>by
  have hge:=grownCap_ge w (n+m) old e
  refine⟨heap_alloc_new w.drew _,hge,grownCap_le_maxLen w (n+m) old e h63,?_,?_,λrow=>⟨rfl,rfl,rfl,by simp,λk hk _=>Below.heap_alloc w.drew _ k hk⟩⟩
  ·simp only[Array.size_append,List.size_toArray,size_zeroCells,hzs,hl,hx]
   omega
  ·simp only[Array.toList_append]
   rw[show(n+m)*1=(xs++zs m).length by rw[aL,hl,hx,Nat.mul_one]]
   exact List.take_left
 rcases hch with⟨rfl,⟨rfl,p,rfl⟩ |⟨hn0,_,b,o,rfl,hnm,hbl,hcell⟩⟩ |⟨b,cap,cur,rfl,rfl,hh,hnc,hcm,hcs,hkb,hlist⟩
 ·have hc0:cells=[]:=List.eq_nil_of_length_eq_zero (by simpa using hcl)
  subst hc0
  cases p with
  |none=>
   have hr:=Lib.run_append_nil_zeros (P:=P) w t t' ty e i z kq kn ht hu hi hz m hm (by omega) (by omega) (by rw[hby];omega)
   rw[zrt hzl m]at hr
   obtain⟨f1,f2,f3,f4,f5,f6⟩:=fin [] 0 rfl
   simp only[Nat.zero_add,List.nil_append,Array.empty_append]at f1 f2 f3 f4 f5 f6⊢
   exact⟨[],w.heap.size,_,_,_,hr,by simp[RV.listAt],f1,f2,f3,Nat.le_of_eq f4.symm,f5,f6 _, .inr rfl,λb0 h=>by cases h⟩
  |some p=>
   have hr:=Lib.run_append_grow_zeros (P:=P) w t t' ty e i z kq kn ht hu hi hz (some p) 0 0 [] (run_firstCells_some (P:=P) w.drew i.size 0 p 0 0 [] (by simp) (by simp)) m hm (by omega) (by omega) (by omega) (by rw[hby];omega) (growslice_fits (by omega) (by rw[hby];omega))
   rw[zrt hzl m]at hr
   obtain⟨f1,f2,f3,f4,f5,f6⟩:=fin [] 0 rfl
   exact⟨[],w.heap.size,_,_,_,hr,by simp[RV.listAt],f1,f2,f3,Nat.le_of_eq f4.symm,f5,f6 _, .inr rfl,λb0 h=>by cases h⟩
 ·obtain⟨xs,hlist,hxl,hcell⟩:=RV.cells_list cells o hcell
  have hr:=Lib.run_append_grow_zeros (P:=P) w t t' ty e i z kq kn ht hu hi hz (some ⟨b,o,none⟩) n n xs (run_firstCells_some (P:=P) w.drew i.size n ⟨b,o,none⟩ n n xs (by rw[hsize,hxl,hcl]) (by simpa using(λj v hj=>by rw[Addr.add_mid];exact hcell j v hj: ∀j v,xs[j]?=some v->w.cell? ((⟨b,o,none⟩:Addr).add j)=some v))) m hm (by omega) (by omega) (by omega) (by rw[hby];omega) (growslice_fits (by omega) (by rw[hby];omega))
  rw[zrt hzl m]at hr
  obtain⟨f1,f2,f3,f4,f5,f6⟩:=fin xs n (by rw[hxl,hcl,Nat.mul_one])
  exact⟨xs,w.heap.size,_,_,_,hr,hlist,f1,f2,f3,Nat.le_of_eq f4.symm,f5,f6 _, .inr rfl,λb0 hb0=>by cases hb0⟩
 ·have hxl:(cur.toList.take (n*1)).length=n:=by rw[zay hlist,hcl,Nat.mul_one]
  have hlt:b<w.heap.size:=(Array.getElem?_eq_some_iff.1 hh).1
  by_cases hfit:n+m<=cap
  ·have hr:=zkd (P:=P) w t t' ty e i z kq kn ht hu hi hz hsize hby hzl b n cap cur hh m hm hfit (by omega) (by omega)
   refine⟨_,b,cap,_,_,hr,hlist,setRow_heap w b cur _ e (0,0) hh,hfit,hcm,?_,?_,⟨rfl,rfl,rfl,by simp[World.setRow],λx hx hne=>setRow_other w b x _ (λh=>hne (by rw[h]))⟩, .inl rfl,λb0 hb0=>?_⟩
   ·simp only[List.size_toArray,aL,List.length_take,hl,List.length_drop,Array.length_toList]
    omega
   ·rw[Nat.mul_one]at hxl⊢
    rw[Nat.mul_one]
    rw[show n+m=(cur.toList.take n++zs m).length by rw[aL,hxl,hl],List.toList_toArray]
    exact List.take_left
   ·cases hb0
    exact⟨⟨cur,hh,rfl⟩, .inl rfl⟩
  ·have hr:=Lib.run_append_grow_zeros (P:=P) w t t' ty e i z kq kn ht hu hi hz (some ⟨b,0,none⟩) n cap (cur.toList.take (n*1)) (run_firstCells_some (P:=P) w.drew i.size n ⟨b,0,none⟩ n cap (cur.toList.take (n*1)) (by rw[hsize,hxl,Nat.mul_one]) (by
    have hc: ∀j v,(cur.toList.take (n*1))[j]?=some v->w.cell? ((⟨b,0,none⟩:Addr).add j)=some v:=λj v hj=>by
     rw[Addr.add_mid,Nat.zero_add,cell_of_row w b j cur e (0,0) hh]
     rw[List.getElem?_take]at hj
     split at hj
     ·simpa using hj
     ·cases hj
    simpa using hc)) m hm (by omega) (by omega) (by omega) (by rw[hby];omega) (growslice_fits (by omega) (by rw[hby];omega))
   rw[zrt hzl m]at hr
   obtain⟨f1,f2,f3,f4,f5,f6⟩:=fin (cur.toList.take (n*1)) cap hxl
   refine⟨_,w.heap.size,_,_,_,hr,hlist,f1,f2,f3,Nat.le_of_eq f4.symm,f5,f6 _, .inr rfl,λb0 hb0=>?_⟩
   cases hb0
   exact⟨⟨cur,hh,rfl⟩, .inr ⟨rfl,Below.heap_alloc w.drew _ b hlt⟩⟩
theorem Vstep.appZ{x y:Operand}{t t' e:TypeId}{ti te ts:TI}{kn kq:IntKind}{f:TF}{id:Option Nat}{n:Nat}{cells:List RV}{pub:Bool}{m:Nat}{K:St->Prop}(hT:TOk P T)
  (hop:o.op= .call {callee:= .builtin .append,args:= #[x,y],argTypes:= #[t,t']}) (hti:tget T t=some ti) (hk:ti.k= .slice e) (hte:tget T e=some te) (hke:te.sz=1/\te.bytes=1/\te.zero=[.int .u8 0]) (hts:tget T t'=some ts) (hks:ts.k= .int kn)
  (hx:opr S x=some f) (hl:lhsv S e 1 f=some (id,e,1,n,cells,pub)) (hy:opr S y=some (.r (.i kq (m:Int)))) (hm:0<m) (hlen:n+m<=140737488355328)
  (hK:newK (S.strike id) o.dst (.r .any) (some (.ch e 1 (n+m) (cells++zR m) pub)) K):Vstep P S o K:=by
 rw[zat]at hK
 refine Vstep.one (S':=(S.strike id).mk_ o.dst (.ch e 1 (n+m) (cells++zR m) pub)) ?_ hK
 rintro B N a w k Q ⟨g,hs⟩ hd
 obtain⟨q,hq⟩:=hT.get hti
 obtain⟨d,hdd,hko,_⟩:=q.desc
 rw[hq,hk]at*
 simp only[KOk]at hko
 subst hko
 obtain⟨qe,hqe⟩:=hT.get hte
 obtain⟨i,hi,hsz,hby,z,hz,hzc⟩:=qe.info
 rw[hqe]at hi
 obtain⟨qs,hqs⟩:=hT.get hts
 obtain⟨ds,hds,hkos,_⟩:=qs.desc
 rw[hqs,hks]at*
 simp only[KOk]at hkos
 subst hkos
 have hy':=(zag hs hy).2
 simp only[TF.at_,RV.at_]at hy'
 obtain⟨ob,hch,hid⟩:=zwi hs hl (zag hs hx).2
 have run: ∀{v:Value} {w':World},(Builtin.append_ #[t,t'] o.type #[a.eval x, .int kq (m:Int)]).run P w= .ok v w'->(execOp a.eval o).run P w= .ok (.value v) w':=λ{v w'} hr=>by
  simp[execOp,hop,resolve,invoke,builtin,hy',hr]
 have hzl:z.cells= #[.int .u8 0]:=by rw[<-Array.toArray_toList (xs:=z.cells),hzc,hke.2.2]
 obtain⟨xs,b,cap,cur,w',hrun,hxs,hh,h1,h2,h3,h4,hgr,hbb,hb0⟩:=zu3 (ty:=o.type) hdd hds hi hz (hsz.trans hke.1) (hby.trans hke.2.1) hzl hch m hm hlen
 obtain⟨k',hsat⟩:=znq (o:=o) hs hd hch hid (zfsb w k m) (by rw[List.length_replicate,Nat.mul_one]) hxs hh h1 h2 h3 h4 hgr hbb hb0
 exact za0 (run hrun) ⟨k',hsat⟩
end
section
def padZ(n:Nat):Nat:=(239-n%128)%128
def lenC(n j:Nat):UInt8:=UInt8.ofNat (shrW (UInt64.ofNat n*8) (8*(7-j))).toNat
def le8B(n:Nat):Nat->List UInt8
 |0=>[]
 |j+1=>le8B n j++[lenC n j]
theorem zwg(n:Nat): ∀j,(le8B n j).length=j
 |0=>rfl
 |j+1=>by rw[le8B,aL,zwg n j];rfl
def wzB(b:List UInt8)(j:Nat):List UInt8:=b++[128]++List.replicate j 0
def wlB(b:List UInt8)(j:Nat):List UInt8:=wzB b (padZ b.length)++List.replicate 8 0++le8B b.length j
theorem zcob(b:List UInt8)(j:Nat):(wzB b j).length=b.length+1+j:=by simp[wzB];omega
theorem z0f(b:List UInt8)(j:Nat):(wlB b j).length=b.length+1+padZ b.length+8+j:=by simp[wlB,zcob,zwg];omega
theorem z88(b:List UInt8):wzB b 0=b++[128]:=by simp[wzB]
theorem z87(b:List UInt8)(j:Nat):wzB b (j+1)=wzB b j++[0]:=by simp[wzB,List.replicate_succ']
theorem z86(b:List UInt8):wlB b 0=wzB b (padZ b.length)++List.replicate 8 0:=by simp[wlB,le8B]
theorem z85(b:List UInt8)(j:Nat):wlB b (j+1)=wlB b j++[lenC b.length j]:=by simp[wlB,le8B]
attribute [irreducible] wzB wlB lenC
def zcw(b:List UInt8):List UInt8:=wlB b 8
theorem zrp(b:List UInt8):(zcw b).length=b.length+17+padZ b.length:=by rw[zcw,z0f];omega
theorem z2i(b:List UInt8):(zcw b).length%128=0:=by rw[zrp];unfold padZ;omega
def whZ(b:List UInt8)(j:Nat):St:={F:=[(0, .r (bs b)),(3, .own 0)],O:=[(0,some (.ch 5 1 (b.length+1+j) ((wzB b j).map U8) true))],nx:=1}
def whL(b:List UInt8)(j:Nat):St:={F:=[(0, .r (bs b)),(3, .own 0),(4, .r (I (7-(j:Int))))],O:=[(0,some (.ch 5 1 (b.length+1+padZ b.length+8+j) ((wlB b j).map U8) true))],nx:=1}
theorem z2h{n:Nat}{l:List UInt8}{c:UInt8}{K:Nat->List RV->Prop}(hl:n<=100000000000)(hK:K (n+1) ((l++[c]).map U8)):Vapp n 1 1 (l.map U8) [U8 c] K:=
 Vapp.mk' (by simp[maxLen];omega) (by omega) rfl (by simp) hK
theorem zfbb(m:Nat):zR m=(List.replicate m (0:UInt8)).map U8:=by simp
set_option maxHeartbeats 1000000 in
theorem z4e(b:List UInt8)(hb:b.length<=10000000000):aG 311 [bs b] (bch (zcw b)):=by
 refine aT Tryz.func311 rfl ?_
 refine ze (zvs b (by omega)) ?_
 refine zy ?_
 refine z2h (n:=b.length) (l:=b) (c:=128) (by omega) ?_
 have hz:padZ b.length<128:=by unfold padZ;omega
 refine Vloop.mk' (whZ b) (λj=>j<=padZ b.length) (λj=>padZ b.length-j) 0 (by omega) (zac [(0,2)] rfl ⟨cr,rfl,trivial⟩ ⟨⟨rfl,rfl,rfl,rfl,by rw[z88];exact zn _⟩,trivial⟩) ?_
 intro j hj
 refine Vrem.nat (b.length+1+j) 128 rfl rfl (by omega) ?_
 refine zh (λh=>zq ?_) (λh=>zt ?_)
 ·simp only[zb]at h
  have hj':j<padZ b.length:=by
   have:(b.length+1+j)%128≠112:=by omega
   rcases Nat.lt_or_ge j (padZ b.length)with h' |h'
   ·exact h'
   ·have:j=padZ b.length:=by omega
    unfold padZ at this
    omega
  refine zy ?_
  refine z2h (n:=b.length+1+j) (l:=wzB b j) (c:=0) (by omega) ?_
  exact⟨j+1,by omega,by omega,zac [(0,2)] rfl ⟨cr,rfl,trivial⟩ ⟨⟨rfl,rfl,rfl,rfl,by rw[z87];exact zn _⟩,trivial⟩⟩
 ·simp only[zb]at h
  obtain rfl:j=padZ b.length:=by
   have h1:(b.length+1+j)%128=112:=by omega
   unfold padZ at hj⊢
   omega
  refine Vstep.appZ (m:=8) Tab_ok rfl rfl rfl rfl ⟨rfl,rfl,rfl⟩ rfl rfl rfl rfl rfl (by decide) (by omega) ?_
  rw[zfbb,<-List.map_append]
  refine Vloop.mk' (whL b) (λj=>j<=8) (λj=>8-j) 0 (by omega) (zac [(0,1)] rfl ⟨cr,rfl,cr,trivial⟩ ⟨⟨rfl,rfl,rfl,rfl,by rw[z86];exact zn _⟩,trivial⟩) ?_
  intro j hj
  refine zh (λh=>zq ?_) (λh=>zt ?_)
  ·simp only[zb]at h
   have hj':j<8:=by omega
   refine Vint.w _ rfl ?_
   refine Vint.wmul _ 8 rfl rfl ?_
   refine zd (m:=((8*(7-j):Nat):Int)) (by omega) (by omega) ?_
   refine Vshr.w _ (8*(7-j)) rfl rfl ?_
   refine Vint.u8 _ rfl ?_
   refine zy ?_
   refine z2h (n:=b.length+1+padZ b.length+8+j) (l:=wlB b j) (by omega) ?_
   refine zd (m:=7-((j+1:Nat):Int)) (by omega) (by omega) ?_
   exact⟨j+1,by omega,by omega,zac [(0,2)] rfl ⟨cr,rfl,cr,trivial⟩ ⟨⟨rfl,rfl,rfl,rfl,by rw[z85];unfold lenC;exact zn _⟩,trivial⟩⟩
  ·simp only[zb]at h
   obtain rfl:j=8:=by omega
   have:=z0f b 8
   show some _=some _
   rw[zcw,this]
end
section
def funS(f:FuncId)(rvs:List RV):Stable where
 at_ w k v:=∃cap,v= .func (.func f) #[] cap/\RV.partsAt w k rvs cap.toList
 mono:=λh ⟨cap,e,hp⟩=>⟨cap,e,RV.parts_mono h rvs _ hp⟩
 one:=by rintro w k v ⟨cap,rfl,_⟩;rfl
section
variable {P:Program} {S:St} {o:Oper}
theorem Vstep.mkfunS{f:FuncId}{cap:Array Operand}{rvs:List RV}{K:St->Prop}(hop:o.op= .makeFunc (.func f) #[] cap) (hc:oprs S cap.toList=some rvs) (hK:newK S o.dst (.r (.s (funS f rvs))) none K):Vstep P S o K:=by
 rw[zat]at hK
 refine Vstep.one (λB N a w k Q ⟨g,hs⟩ hd=>?_) hK
 have hp:=zlj hs hc
 refine za0 (v:= .func (.func f) #[] (cap.map a.eval)) (w':=w) (by simp[execOp,hop,Instr.makeFunc]) ⟨k,g,hs.put hd trivial ?_⟩
 simp only[TF.at_,RV.at_]
 exact⟨_,rfl,by simpa using hp⟩
end
theorem zanb(l:List UInt8)(m:Nat)(hm:1<=m):aG 310 [bs l,I m] (.r (.s (funS 354 [.ptr [bs l], .ptr [I m]]))):=by
 refine aT Tryz.func310 rfl ?_
 refine zh (λh=>?_) (λh=>zt ?_)
 ·simp only[zb]at h
  omega
 refine Vstep.sub (zie (id:=0) (t:=2) [bs l] rfl rfl) (Vstep.sub (zie (id:=1) (t:=3) [I m] rfl rfl) (Vstep.mkfunS rfl rfl ?_))
 exact cr
def iv8:X8:=⟨7640891576956012808,13503953896175478587,4354685564936845355,11912009170470909681,5840696475078001361,11170449401992604703,2270897969802886507,6620516959819538809⟩
def k80:List UInt64:=[4794697086780616226,8158064640168781261,13096744586834688815,16840607885511220156,4131703408338449720,6480981068601479193,10538285296894168987,12329834152419229976,15566598209576043074,1334009975649890238,2608012711638119052,6128411473006802146,8268148722764581231,9286055187155687089,11230858885718282805,13951009754708518548,16472876342353939154,17275323862435702243,1135362057144423861,2597628984639134821,3308224258029322869,5365058923640841347,6679025012923562964,8573033837759648693,10970295158949994411,12119686244451234320,12683024718118986047,13788192230050041572,14330467153632333762,15395433587784984357,489312712824947311,1452737877330783856,2861767655752347644,3322285676063803686,5560940570517711597,5996557281743188959,7280758554555802590,8532644243296465576,9350256976987008742,10552545826968843579,11727347734174303076,12113106623233404929,14000437183269869457,14369950271660146224,15101387698204529176,15463397548674623760,17586052441742319658,1182934255886127544,1847814050463011016,2177327727835720531,2830643537854262169,3796741975233480872,4115178125766777443,5681478168544905931,6601373596472566643,7507060721942968483,8399075790359081724,8693463985226723168,9568029438360202098,10144078919501101548,10430055236837252648,11840083180663258601,13761210420658862357,14299343276471374635,14566680578165727644,15097957966210449927,16922976911328602910,17689382322260857208,500013540394364858,748580250866718886,1242879168328830382,1977374033974150939,2944078676154940804,3659926193048069267,4368137639120453308,4836135668995329356,5532061633213252278,6448918945643986474,6902733635092675308,7801388544844847127]
theorem zj7:k80.length=80:=rfl
theorem zamb:aG 308 [] (.r (.ag iv8.v)):=by
 refine aT Tryz.func308 rfl ?_
 repeat' ((conv=>whnf);first|refine za rfl rfl ?_)
 exact cr
set_option maxRecDepth 100000 in
set_option maxHeartbeats 1000000 in
theorem z64:aG 309 [] (.r (.ag (k80.map W))):=by
 refine aT Tryz.func309 rfl ?_
 repeat' ((conv=>whnf);first|refine za rfl rfl ?_)
 exact zf (by kernel_rfl)
attribute [irreducible] k80 iv8
end
section
variable {P:Program} {T:TT} {B:Bs} {N:Nat} {S:St} {a:Act} {w:World} {k:Kp} {g:Env} {o:Oper} {Q:Exit->Act->World->Prop}
def zsg(o:Oper):Bool:=match o.op with
 | .defer _=>false
 |_=>true
theorem z8c{n l:Nat}{next:Act->World->Prop}(hnd:zsg o=true)(h:o.wp P a w next Q):o.wpIn (Fence.wide.inRound l) n P a w next Q:=by
 refine⟨λ_ _=>trivial,?_⟩
 rw[Oper.semAt_eq _ _ _ (λc e=>by simp[zsg,e]at hnd)]
 unfold Oper.wp at h
 generalize (execOp a.eval o).run P w=r at h
 cases r with
 |ok x w'=>
  cases x with
  |value v=>exact h
  |skip=>exact h
  |defer d=>exact h
  |enter f args=>exact⟨λhd=>by simp[Fence.wide]at hd,CallsIn.inRound l (callsIn_wide.2 h)⟩
  |row row args=>exact⟨λhd=>by simp[Fence.wide]at hd,λc cs _=>by
    obtain⟨v,w',r,s⟩:=h c cs
    exact⟨v,w',r,stepsIn_wide.2 s⟩⟩
  |_=>exact h.elim
 |halt x w'=>
  cases x with
  |panic v=>exact h
  |_=>exact h.elim
theorem zlc{n l:Nat}{ops:Array Oper}(hQ: ¬LetsOut Q): ∀{r:List Oper} {a:Act} {w:World},(∀o∈r,zsg o=true)->wpList P ops Q r a w->wpListIn (Fence.wide.inRound l) n P ops Q r a w
 |[],_,_,_,h=>h
 |o::r,a,w,hn,h=>by
  unfold wpList at h
  unfold wpListIn
  have ih: ∀a w,wpList P ops Q r a w->wpListIn (Fence.wide.inRound l) n P ops Q r a w:=λa w h=>zlc hQ (λo ho=>hn o (by simp[ho])) h
  split at h
  ·rename_i hw
   rw[if_pos hw]
   rcases h with h |⟨_,h⟩
   ·exact z8c (hn o (by simp)) (Oper.wp_mono (λa w h=>ih a w h) h)
   ·exact absurd h hQ
  ·rename_i hw
   rw[if_neg hw]
   exact⟨λ_ _=>trivial,ih _ _ h⟩
end
theorem zyj(n:Nat)(hn:1<=n)(Bs Bn oS oN b off m K L cap:Nat)(hm:0<m)(hL:m*K=L)(hlen:L<=cap)(hbig:L<=1000000000000)(Kp:World->World->Prop)(w:World)
  (hKp: ∀A B,Kp A B->B.cell? ⟨Bs,oS,none⟩=A.cell? ⟨Bs,oS,none⟩/\B.cell? ⟨Bn,oN,none⟩=A.cell? ⟨Bn,oN,none⟩)
  (hBs:w.cell? ⟨Bs,oS,none⟩=some (.slice (some ⟨b,off,none⟩) L cap)) (hBn:w.cell? ⟨Bn,oN,none⟩=some (.int .i64 m)):
  SeqStopsK (α:=Fin K) Fence.wide n aP 354 #[.pointer (some ⟨Bs,oS,none⟩), .pointer (some ⟨Bn,oN,none⟩)] (λx=> #[zf1 b off m x.val]) Kp (λxs=>xs.map (·.val)=upto (λj=>j) K) (λ_=>True) K w:=by
 intro l J Jx W hW hJ hJx hY h0
 have hc: ∀a v,w.cell? a=some v->W.cell? a=some v:=λa v h=>(World.cell?_of_block (hW.block _ (World.block_lt_of_cell? w a h))).trans h
 refine(z2r n hn l Bs Bn oS oN b off m K L cap hm hL hlen hbig Kp hKp (λpre W=>∃p:List (Fin K),p.map (·.val)=pre/\J p W) (λpre W=>∃p:List (Fin K),p.map (·.val)=pre/\Jx p W) ?_ ?_ W (hc _ _ hBs) (hc _ _ hBn) ⟨[],rfl,h0⟩).mono ?_
 ·rintro pre W ⟨p,hp,hj⟩
  exact⟨p,hp,hJ p W W.drew none hj ⟨rfl,rfl,rfl,Nat.le_refl _,λ_ _ _=>rfl⟩ (λr e=>by cases e)⟩
 ·rintro pre k W hk ⟨p,hp,hj⟩ hlt
  obtain⟨fn,tmps,assign,body,hy,hR⟩:=hY p ⟨k,hlt⟩ W hj (by rw[<-hp,List.length_map]at hk;omega)
  refine⟨fn,tmps,assign,body,hy,hR.mono ?_⟩
  rintro e W' (⟨h1,h2,h3⟩ |⟨h1,h2⟩)
  ·exact .inl ⟨h1,⟨_,by simp[hp],h2⟩,h3⟩
  ·exact .inr ⟨h1,⟨_,by simp[hp],h2⟩⟩
 ·rintro e W' ⟨hv,(⟨ys,rfl,p,hp,hj⟩ |⟨pre,_,p,hp,hj⟩)⟩
  ·exact⟨hv, .inl ⟨p,hp,hj⟩⟩
  ·exact⟨hv, .inr ⟨p,trivial,hj⟩⟩
abbrev valW(x:UInt64):Value:= .int .u64 (x.toNat:Int)
theorem zsu{w:World}{k:Kp}{g:Env}{b:Nat}{l:List UInt64}(h:(boxW l).at_ w k g (.pointer (some ⟨b,0,none⟩),some b)):k b=0/\∃cur ty,w.heap[b]?=some (.cells cur ty (0,0))/\cur.toList=l.map valW:=by
 simp only[Ow.at_]at h
 obtain⟨b',cur,ty,e,hh,hk,hs,hc⟩:=h
 injection e with e1 e2
 injection e2 with e2
 subst e2
 refine⟨hk,cur,ty,hh,?_⟩
 apply List.ext_getElem
 ·rw[Array.length_toList,hs];simp
 ·intro i h1 h2
  have h3:i<l.length:=by simpa using h2
  have:=hc i (.r (W l[i])) cur[i] (by simp[h3]) (by rw[Array.getElem?_eq_getElem])
  simp only[TF.at_,RV.at_]at this
  rw[Array.getElem_toList,this.2]
  simp
theorem z5z{w:World}{k:Kp}{g:Env}{b:Nat}{l:List UInt64}{cur:Array Value}{ty:TypeId}(hk:k b=0)(hh:w.heap[b]?=some (.cells cur ty (0,0)))(hc:cur.toList=l.map valW):(boxW l).at_ w k g (.pointer (some ⟨b,0,none⟩),some b):=by
 simp only[Ow.at_]
 refine⟨b,cur,ty,rfl,hh,hk,by rw[<-Array.length_toList,hc];simp,λj f u hf hu=>?_⟩
 rw[<-Array.getElem?_toList,hc]at hu
 rw[List.getElem?_map,List.getElem?_map]at hf
 rw[List.getElem?_map]at hu
 cases hx:l[j]? with
 |none=>rw[hx]at hf;cases hf
 |some x=>
  rw[hx]at hf hu
  cases hf;cases hu
  exact⟨rfl,by simp[TF.at_,RV.at_]⟩
def zc9(l:List UInt8)(m x:Nat):List UInt8:=(l.drop (m*x)).take m
theorem zp7{l:List UInt8}{m K x:Nat}(hl:m*K=l.length)(hx:x<K):(zc9 l m x).length=m:=by
 have:m*x+m<=m*K:=by rw[<-Nat.mul_succ];exact Nat.mul_le_mul_left _ hx
 rw[zc9,List.length_take,List.length_drop]
 omega
theorem z6d{w:World}{k:Kp}{b off:Nat}{l:List UInt8}{m K x:Nat}(hm:0<m)(hl:m*K=l.length)(hbig:l.length<=1000000000000)(hx:x<K)(hb:b<w.heap.size)(h:RV.cellsAt w k b off (l.map U8)):(bs (zc9 l m x)).at_ w k (zf1 b off m x):=by
 have hcl:=zp7 hl hx
 have hmx:m*x+m<=l.length:=by rw[<-hl,<-Nat.mul_succ];exact Nat.mul_le_mul_left _ hx
 show RV.at_ w k (.sl 1 (zc9 l m x).length ((zc9 l m x).map U8)) _
 simp only[RV.at_]
 refine⟨_,m,by rw[hcl];rfl,Nat.le_of_eq hcl,by simp only[maxLen];omega,by simp,λ_=>⟨b,off+m*x,rfl,hb,?_⟩⟩
 rw[RV.cellsAt_iff]at h⊢
 intro j q hq
 rw[List.getElem?_map]at hq
 obtain⟨c,hc,rfl⟩:=Option.map_eq_some_iff.1 hq
 rw[zc9,List.getElem?_take]at hc
 split at hc
 ·rw[List.getElem?_drop]at hc
  have:=h (m*x+j) (U8 c) (by rw[List.getElem?_map,hc];rfl)
  rw[<-Nat.add_assoc]at this
  exact this
 ·cases hc
theorem z24(t:Nat)(f:TF)(r:List (Nat×TF)):fget ((t,f)::r) t=some f:=by
 simp only[fget]
 rw[Nat.beq_refl]
theorem ztq(t:Nat)(f:Option Ow)(r:List (Nat×Option Ow)):oget ((t,f)::r) t=f:=by
 simp only[oget]
 rw[Nat.beq_refl]
def zn3(D:Nat):GOw where
 at_:=λw _ vb=>vb=(.int .i64 0,some D)/\w.heap[D]?=some (.deferred (some []))
 mono:=λ_ h ⟨e,hh⟩=>⟨e,by rw[(h D (by rw[e])).1];exact hh⟩
 one:=λ⟨e,_⟩=>by rw[e];rfl
theorem SatE.rebase{B:Bs}{N:Nat}{S:St}{a:Act}{w:World}{k:Kp}{g:Env}(hs:SatE B N S a w k g){i b:Nat}{ow:Ow}(ho:oget S.O i=some ow)(hg:(g i).2=some b)(j:Nat):SatE ⟨w,k,[b],a.defers⟩ N {F:=(j, .nm i (g i).1)::S.F,O:=[(i,some ow)],nx:=S.nx} a w k g:=by
 obtain⟨q1,q2,q3,q4⟩:=hs.owns i ow ho
 refine⟨hs.size,rfl,⟨rfl,rfl,rfl,Nat.le_refl _,λ_ _ _=>rfl⟩,λ_ _ _=>rfl,λt f hf=>?_,λid o h=>?_,λx y o o' b' hx hy hne=>?_⟩
 ·rcases za5 hf with⟨rfl,rfl⟩ |⟨_,hf⟩
  ·exact⟨q1,rfl⟩
  ·exact hs.facts t f hf
 ·rcases zal h with⟨rfl,e⟩ |⟨_,h⟩
  ·cases e
   exact⟨q1,q2,q3,λb' hb'=>⟨.inr (by rw[hg]at hb';cases hb';simp),(q4 b' hb').2⟩⟩
  ·cases h
 ·rcases zal hx with⟨rfl,_⟩ |⟨_,h⟩
  ·rcases zal hy with⟨rfl,_⟩ |⟨_,h⟩
   ·exact absurd rfl hne
   ·cases h
  ·cases h
set_option maxHeartbeats 1000000 in
theorem z5f{N:Nat}{w0 w:World}{k0 k:Kp}{a:Act}{g:Env}{S0:St}{i3 t12 p q:Nat}{l:List UInt8}{m K:Nat}{X:List Nat->List UInt64}{assign body:Code}{Q:Exit->Act->World->Prop}
  (hs:SatE ⟨w0,k0,[],[]⟩ N S0 a w k g) (h3:oget S0.O i3=some (boxW (X []))) (ht:fget S0.F t12=some (.r (.s (funS 354 [.ptr [bs l], .ptr [I m]]))))
  (hm:0<m) (hK:0<K) (hl:m*K=l.length) (hbig:l.length<=1000000000000) (hp:p<N) (hq:q<N)
  (hasg: ∀(ld:Nat) (a:Act) (W:World) (Kk:Act->World->Prop),Kk (a.put (some q) (a.tmps.getD p undef)) W->assign.wpIn (Fence.wide.inRound ld) 1 aP (Exit.then Kk (λ_ _ _=>False)) a W)
  (hbody: ∀(ld:Nat) (v:Value) (pre:List Nat) (x:Nat) (a:Act) (W:World) (k:Kp) (b:Nat),x<K->Sat ⟨W,k,[b],[]⟩ N {F:=(q, .r (bs (zc9 l m x)))::(p, .r (bs (zc9 l m x)))::(1000000+i3, .nm i3 v)::S0.F,O:=[(i3,some (boxW (X pre)))],nx:=S0.nx} a W k->
   body.wpIn (Fence.wide.inRound ld) 1 aP (λe a' W'=>e= .normal/\∃k',Sat ⟨W,k,[b],[]⟩ N {F:=[(1000000+i3, .nm i3 v)],O:=[(i3,some (boxW (X (pre++[x]))))],nx:=S0.nx} a' W' k') a W)
  (hdone: ∀D W k' g',SatE ⟨w0,k0,[],[{target:= .collected D,args:= #[]}]⟩ N ((S0.set i3 (some (boxW (X (upto (λj=>j) K))))).mk_ none (.gen (zn3 D))) {a with defers:=[{target:= .collected D,args:= #[]}]} W k' g'->Q .normal {a with defers:=[{target:= .collected D,args:= #[]}]} W):
  (Code.rangeFunc (.tmp t12) #[p] assign body).wpIn Fence.wide 3 aP Q a w:=by
 have hdf:a.defers=[]:=hs.defers
 obtain⟨hlt3,hlo3,hat3,hblk3⟩:=hs.owns i3 _ h3
 obtain⟨b3,e3⟩: ∃b3,g i3=(.pointer (some ⟨b3,0,none⟩),some b3):=by
  simp only[Ow.at_]at hat3
  obtain⟨b3,_,_,e,_⟩:=hat3
  exact⟨b3,e⟩
 rw[e3]at hat3
 obtain⟨hk3,cur3,ty3,hh3,hv3⟩:=zsu hat3
 have hb3:b3<w.heap.size:=(Array.getElem?_eq_some_iff.1 hh3).1
 have h12:=(hs.facts t12 _ ht).2
 simp only[TF.at_,RV.at_]at h12
 obtain⟨cap,hv,hparts⟩:=h12
 obtain⟨vS,vN,hcap,hS,hN'⟩:=zw0 hparts
 simp only[RV.at_]at hS hN'
 obtain⟨Bs,oS,rfl,hBs,hcS⟩:=hS
 obtain⟨Bn,oN,rfl,hBn,hcN⟩:=hN'
 simp only[RV.cellsAt]at hcS hcN
 obtain⟨⟨hkS,uS,hcellS,_,huS⟩,_⟩:=hcS
 obtain⟨⟨hkN,uN,hcellN,_,huN⟩,_⟩:=hcN
 simp only[RV.at_]at huS huN
 subst huN
 obtain⟨aa,cc,rfl,hlc,hmax,_,hblk⟩:=huS
 obtain⟨b,off,rfl,hbl,hcb⟩:=hblk (by rw[<-hl];exact Nat.mul_pos hm hK)
 have hcapE:cap= #[.pointer (some ⟨Bs,oS,none⟩), .pointer (some ⟨Bn,oN,none⟩)]:=by apply Array.ext';exact hcap
 subst hcapE
 have hneS:Bs≠b3:=λe=>by rw[e,hk3]at hkS;omega
 have hneN:Bn≠b3:=λe=>by rw[e,hk3]at hkN;omega
 obtain⟨KP,hKP⟩: ∃KP:World->World->Prop,KP= λA B=>∀x,x<w.heap.size->x≠b3->B.heap[x]?=A.heap[x]?:=⟨_,rfl⟩
 obtain⟨I,hI⟩: ∃I:List (Fin K)->World->Prop,I= λpre W=>Keep [b3] w W/\∃cur ty,W.heap[b3]?=some (.cells cur ty (0,0))/\cur.toList=(X (pre.map (·.val))).map valW:=⟨_,rfl⟩
 have hchunk: ∀x,x<K->(bs (zc9 l m x)).at_ w k (zf1 b off m x):=λx hx=>z6d hm hl hbig hx hbl hcb
 have sat: ∀pre W,I pre W->∃k',Le w k W k'/\SatE ⟨w0,k0,[],[]⟩ N (S0.set i3 (some (boxW (X (pre.map (·.val)))))) a W k' g:=by
  intro pre W hi
  rw[hI]at hi
  obtain⟨hkeep,cur,ty,hh,hcv⟩:=hi
  have hw:Wrote w k W (λc=>if c<w.heap.size then k c else 0) (some b3):=⟨hkeep.os,hkeep.tape,hkeep.output,hkeep.size,λc hc hne=>⟨hkeep.block c hc (by simpa usingλe=>hne (by rw[e])),by simp[hc]⟩,λc hc=>by
   cases hc
   refine⟨by simp[hb3],λo ho=>by omega,λh=>by omega⟩⟩
  exact⟨_,hw.le,hs.redo h3 (by rw[e3]) hw (by
   intro f hf
   obtain⟨r,_,rfl⟩:=List.mem_map.1 hf
   trivial) (by rw[e3];exact z5z (by simp[hb3,hk3]) hh hcv)⟩
 refine wpIn_rangeFunc_ownH (α:=Fin K) (gf:=354) (w0:=w) rfl (by decide) hv trivial (λargs w=>zc7 Tryz.func354 rfl (by decide) args)
  (zyj 2 (by decide) Bs Bn oS oN b off m K l.length cc hm hl hlc hbig KP w (λA B h=>?_) hcellS hcellN) (λh1 h2=>?_) (λW ld o o' hld h _ _=>?_) (Below.refl _ _) (λ_=>rfl) I (λ_ _ _=>False) ?_ (λ_ _ _ _ _ h=>h.elim) ?_
  (λx a' _=>a'=(a.put (some p) (zf1 b off m x.val)).put (some q) (zf1 b off m x.val)) (λx a' _ _ _ _ h _ _=>h) ?_ ?_ ?_ (λ_ _ _ _ _ _ h=>h.elim)
 ·rw[hKP]at h
  exact⟨World.cell?_of_block (h Bs hBs hneS),World.cell?_of_block (h Bn hBn hneN)⟩
 ·rw[hKP]at h1 h2⊢
  exactλx hx hne=>(h2 x hx hne).trans (h1 x hx hne)
 ·rw[hKP]
  exactλx hx hne=>World.putObj_heap_other (by omega)
 ·intro s W W' row hi hg hr
  rw[hI]at hi⊢
  obtain⟨hkeep,cur,ty,hh,hcv⟩:=hi
  have hnr: ∀c,c<w.heap.size->some c≠row:=λc hc e=>by have:=(hr c e.symm).1;omega
  have hblk: ∀c,c<w.heap.size->W'.heap[c]?=W.heap[c]?:=λc hc=>hg.block c (Nat.lt_of_lt_of_le hc hkeep.size) (hnr c hc)
  exact⟨⟨hg.os.trans hkeep.os,hg.tape.trans hkeep.tape,hg.output.trans hkeep.output,Nat.le_trans hkeep.size hg.size,λc hc hn=>(hblk c hc).trans (hkeep.block c hc hn)⟩,cur,ty,(hblk b3 hb3).trans hh,hcv⟩
 ·rw[hI]
  exact⟨⟨rfl,rfl,rfl,Nat.le_refl _,λ_ _ _=>rfl⟩,cur3,ty3,hh3,hv3⟩
 ·intro ld pre x W Kk hi hk
  refine hasg ld _ W Kk (hk _ W (KeepsFrom.refl _ _) (by rw[hKP];exactλ_ _ _=>rfl) hi ?_)
  have e:({tmps:=(#[p].zip #[zf1 b off m x.val]).foldl (λt (p,v)=>t.setIfInBounds p v) a.tmps,defers:=[]}:Act)=a.put (some p) (zf1 b off m x.val):=by
   cases a
   subst hdf
   simp[Act.put]
  rw[e]
  congr 1
  simp only[Act.put]
  exact zhs (by rw[hs.size];exact hp)
 ·intro ld pre x a' W hld _ hi hax hlen
  subst hax
  obtain⟨k',hle,hsW⟩:=sat pre W hi
  have hx:=x.isLt
  have hch:=RV.mono hle _ _ (hchunk x.val hx)
  have hr:=hsW.rebase (i:=i3) (ow:=boxW (X (pre.map (λy:Fin K=>y.val)))) (b:=b3) (ztq _ _ _) (by rw[e3]) (1000000+i3)
  have hr2:=(hr.put (dst:=some p) (λd e=>by cases e;exact hp) (f:= .r (bs (zc9 l m x.val))) trivial hch).put (dst:=some q) (λd e=>by cases e;exact hq) (f:= .r (bs (zc9 l m x.val))) trivial hch
  rw[hdf]at hr2
  refine wpIn_mono (hbody ld (g i3).1 (pre.map (λy:Fin K=>y.val)) x.val _ W k' b3 hx ⟨g,hr2⟩) ?_
  rintro e a2 W2 ⟨rfl,k2,g2,h2⟩
  rw[hI]at hi
  obtain⟨hkeep,_⟩:=hi
  have hk2:Keep [b3] W W2:=h2.keep
  have hn:=(h2.facts (1000000+i3) _ (z24 _ _ _)).2
  simp only[TF.at_]at hn
  obtain⟨_,_,h2at,_⟩:=h2.owns i3 _ (ztq _ _ _)
  have e2:g2 i3=(.pointer (some ⟨b3,0,none⟩),some b3):=by
   simp only[Ow.at_]at h2at
   obtain⟨b',_,_,e,_⟩:=h2at
   rw[e]at hn⊢
   rw[e3]at hn
   injection hn with hn
   injection hn with hn
   injection hn with hn
   rw[hn]
  rw[e2]at h2at
  obtain⟨_,cur2,ty2,hh2,hv2⟩:=zsu h2at
  refine⟨⟨hk2.size,λc o hc ho _=>(hk2.block c (Array.getElem?_eq_some_iff.1 ho).1 (by simp;omega)).trans ho⟩,?_,?_⟩
  ·rw[hKP]
   exactλc hc hne=>hk2.block c (Nat.lt_of_lt_of_le hc hkeep.size) (by simpa using hne)
  ·rw[hI]
   exact⟨⟨hk2.os.trans hkeep.os,hk2.tape.trans hkeep.tape,hk2.output.trans hkeep.output,Nat.le_trans hkeep.size hk2.size,λc hc hn=>(hk2.block c (Nat.lt_of_lt_of_le hc hkeep.size) hn).trans (hkeep.block c hc hn)⟩,cur2,ty2,hh2,by rw[hv2];simp⟩
 ·intro D xs W hwD hS hi hD
  obtain⟨k',_,hsW⟩:=sat xs W hi
  rw[hdf]
  rw[hS]at hsW
  have h2:SatE ⟨w0,k0,[],[{target:= .collected D,args:= #[]}]⟩ N (S0.set i3 (some (boxW (X (upto (λj=>j) K))))) {a with defers:=[{target:= .collected D,args:= #[]}]} W k' g:=⟨hsW.size,rfl,hsW.keep,hsW.kk,hsW.facts,hsW.owns,hsW.apart⟩
  refine hdone D W k' _ (h2.adopt (dst:=none) (λd e=>by cases e) (o:= .gen (zn3 D)) (vb:=(.int .i64 0,some D)) trivial ⟨rfl,hD⟩ (λc hc=>?_) (λi o' c ho hc=>?_))
  ·cases hc
   exact⟨.inl (Nat.le_trans hs.keep.size hwD),(Array.getElem?_eq_some_iff.1 hD).1⟩
  ·cases hc
   intro hg
   have:D<w.heap.size:=by
    rcases zal ho with⟨rfl,_⟩ |⟨_,h⟩
    ·exact(hblk3 D hg).2
    ·exact((hs.owns i o' h).2.2.2 D hg).2
   omega
theorem z4z{T:TT}{P:Program}(hT:TOk P T){F:Fence}{n N:Nat}{fn:Func}{res:Res}{S':St}{D idD:Nat}{a':Act}{w W2:World}{k k2:Kp}{e:Exit}(he:e= .normal\/e= .ret)
  (hq:finv T fn.results res e (S'.set idD none)) (ho:oget S'.O idD=some (.gen (zn3 D))) (hs:Sat ⟨w,k,[],[{target:= .collected D,args:= #[]}]⟩ N S' a' W2 k2):
  bodyPostM F n P fn (λe w'=>∃v,e=Ending.returned v/\Ext w w'/\∃k':Kp,(∀b,b<w.heap.size->k' b=k b)/\res.at_ w.heap.size w' k' v) e a' W2:=by
 obtain⟨g2,hs⟩:=hs
 obtain⟨_,_,hat,hblk⟩:=hs.owns idD _ ho
 simp only[Ow.at_,zn3]at hat
 obtain⟨hg2,hh⟩:=hat
 have hlt:D<W2.heap.size:=(Array.getElem?_eq_some_iff.1 hh).1
 have hw:Wrote W2 k2 (W2.putObj D (.deferred none)) k2 (some D):=⟨rfl,rfl,rfl,by simp,λb _ hne=>⟨World.putObj_heap_other (λe=>hne (by rw[e])),rfl⟩,λb hb=>by
  cases hb
  refine⟨Nat.le_refl _,λo _=>?_,λ_ es c e=>by rw[hh]at e;cases e⟩
  simp[World.cell?,hh,World.putObj_heap_same hlt]⟩
 have h3:=hs.wrote hw (id:=some idD) ⟨⟨_,ho⟩,by rw[hg2]⟩
 have h5:=zlu (a':={a' with defers:=[]}) hT hq ⟨g2,h3.size,rfl,h3.keep,h3.kk,h3.facts,h3.owns,h3.apart⟩
 have hdf:a'.defers=_:=hs.defers
 rcases he with rfl |rfl
 all_goals
  obtain⟨_,v,hr,hR⟩:=h5
  show LeavesInM F n P fn a'.tmps _ a'.defers .returning W2
  rw[hdf]
  exact⟨nofun, .inl ⟨D,_,rfl,run_takeDeferred hh,v,hr,hR⟩⟩
end Go.Proofs.YtpcfoglfakeimaaGreat.Sx
