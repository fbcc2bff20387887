import Derived.Test.YtebhngeddnnpkaaGreatZShaF
import Derived.Test.YtebhngeddnnpkaaGreatZGeoB
namespace Go.Proofs.YtebhngeddnnpkaaGreat
open Go.RowKit
set_option linter.unusedVariables false
section
def s8(s:H8):Array Value:=(s.list.map u32v).toArray
def k64:Array Value:=(kInts.map (Value.int .u32)).toArray
def w64(b:List UInt8):Array Value:=((wTo b 64).map u32v).toArray
theorem zuf:k64.size=64:=rfl
theorem zuv(b:List UInt8):(w64 b).size=64:=by simp[w64,zbt]
theorem z4y{t:Nat}(ht:t<64):k64[t]?=some (.int .u32 ((kTab.getD t 0:Nat):Int)):=by
 have h:t<kTab.length:=ht
 unfold k64 kInts
 rw[List.getElem?_toArray,List.getElem?_map,List.getElem?_map,List.getElem?_eq_getElem h,List.getD_eq_getElem?_getD,List.getElem?_eq_getElem h]
 rfl
theorem z59(b:List UInt8){t:Nat}(ht:t<64):(w64 b)[t]?=some (.int .u32 (((wTo b 64).getD t 0:Nat):Int)):=by
 have h:t< (wTo b 64).length:=by rw[zbt];exact ht
 unfold w64
 rw[List.getElem?_toArray,List.getElem?_map,List.getElem?_eq_getElem h,List.getD_eq_getElem?_getD,List.getElem?_eq_getElem h]
 rfl
theorem zzf(s:H8):(s8 s).all (·.oneCell')=true:=by simp[s8,u32v,Value.oneCell']
theorem znf(s:H8):(s8 s).size=8:=rfl
theorem zl3{w:World}{G:Nat}{s:H8}(h:w.heap[G]?=some (.cells (s8 s) 369 (0,0))):
  w.cell? ⟨G,0,none⟩=some (.int .u32 (s.a:Int))/\w.cell? ⟨G,1,none⟩=some (.int .u32 (s.b:Int))/\w.cell? ⟨G,2,none⟩=some (.int .u32 (s.c:Int))/\w.cell? ⟨G,3,none⟩=some (.int .u32 (s.d:Int))/\
  w.cell? ⟨G,4,none⟩=some (.int .u32 (s.e:Int))/\w.cell? ⟨G,5,none⟩=some (.int .u32 (s.f:Int))/\w.cell? ⟨G,6,none⟩=some (.int .u32 (s.g:Int))/\w.cell? ⟨G,7,none⟩=some (.int .u32 (s.h:Int)):=by
 refine⟨?_,?_,?_,?_,?_,?_,?_,?_⟩<;>(rw[cell_of_row w _ _ _ _ _ h];rfl)
theorem zfk(n x:Nat)(N:Int)(hN:N=(n:Int))(hx:x<4294967296)(hn:n=2\/n=6\/n=7\/n=11\/n=13\/n=17\/n=18\/n=19\/n=22\/n=25)(w:World):
  Calls Tryz.prog 403 #[.int .u32 (x:Int), .int .i64 N] w λe w'=>e= .returned (.int .u32 (rotr n x:Int))/\w'=w:=by
 subst hN
 exact(zfb n x hx hn w).mono λ_ _ ⟨h1,h2⟩=>⟨h1,h2.symm⟩
theorem zzg{w:World}{G:Nat}{s s':H8}(h:w.heap[G]?=some (.cells (s8 s) 369 (0,0))){j:Nat}{v:Value}(hv:(s8 s).setIfInBounds j v=s8 s'):
  (w.setCell ⟨G,j,none⟩ v).heap[G]?=some (.cells (s8 s') 369 (0,0)):=by
 rw[setCell_eq_setRow _ _ _ _ _ _ _ h,setRow_heap _ _ _ _ _ _ h,hv]
theorem z5o{y:H8}{j:Nat}{v:Value}(h:([y.a,y.b,y.c,y.d,y.e,y.f,y.g].map u32v)[j]?=some v):(s8 y)[j]?=some v:=by
 match j,h with
 |0,h=>exact h
 |1,h=>exact h
 |2,h=>exact h
 |3,h=>exact h
 |4,h=>exact h
 |5,h=>exact h
 |6,h=>exact h
 |n+7,h=>simp at h
def zkb(s x:H8)(i:Nat):Array Value:=(((addH s x).list.take i++s.list.drop i).map u32v).toArray
theorem zof(s x:H8){i:Nat}(hi:i<8):(zkb s x i)[i]?=some (.int .u32 ((s.list.getD i 0:Nat):Int))/\(s8 x)[i]?=some (.int .u32 ((x.list.getD i 0:Nat):Int))/\
  (zkb s x i).setIfInBounds i (.int .u32 (((s.list.getD i 0+x.list.getD i 0)%4294967296:Nat):Int))=zkb s x (i+1):=by
 match i,hi with
 |0,_=>exact⟨rfl,rfl,rfl⟩
 |1,_=>exact⟨rfl,rfl,rfl⟩
 |2,_=>exact⟨rfl,rfl,rfl⟩
 |3,_=>exact⟨rfl,rfl,rfl⟩
 |4,_=>exact⟨rfl,rfl,rfl⟩
 |5,_=>exact⟨rfl,rfl,rfl⟩
 |6,_=>exact⟨rfl,rfl,rfl⟩
 |7,_=>exact⟨rfl,rfl,rfl⟩
def z6m(G:Nat)(s x:H8)(i:Value)(w wr:World):Prop:=
 ∃t:Nat,i= .int .i64 (t:Int)/\t<=8/\w.grownBy wr (some G)/\wr.heap[G]?=some (.cells (zkb s x t) 369 (0,0))
def z3o(B3:Nat)(b:List UInt8)(s:H8)(i:Value)(w wr:World):Prop:=
 ∃t:Nat,i= .int .i64 (t:Int)/\t<=64/\w.grownBy wr (some B3)/\wr.heap[B3]?=some (.cells (s8 (zdc b s t)) 369 (0,0))
theorem z4z:k64.all (·.oneCell')=true:=by kernel_rfl
theorem z6a(b:List UInt8):(w64 b).all (·.oneCell')=true:=by simp[w64,u32v,Value.oneCell']
set_option maxRecDepth 100000 in
set_option maxHeartbeats 600000 in
theorem z14(p:AC)(b:List UInt8){S:Nat->Prop}(w:World)(hp:By w S p b)(hl:b.length=64)(G:Nat)(s:H8)(hs:s.ok)(hG:w.heap[G]?=some (.cells (s8 s) 369 (0,0))):
  Calls Tryz.prog 275 #[.pointer (some ⟨G,0,none⟩), .slice p.a b.length p.c] w λe w'=>e= .returned (.tuple #[])/\w.grownBy w' (some G)/\w'.heap[G]?=some (.cells (s8 (zkx s b)) 369 (0,0)):=by
 obtain⟨n,hn⟩: ∃n,n=b.length:=⟨_,rfl⟩
 rw[<-hn]
 have HN:=Lib.hid hn
 have HL:=Lib.hid hl
 clear hl hn
 go_enter Tryz.func275,Tryz.ntmps275
 go_wp2_with fail
 rw[HN.out]
 refine(zzy p b w hp HL.out).mono ?_
 rintro e w1 ⟨v,rfl,hb1,rfl⟩
 rw[<-w64]
 go_wp2_with fail
 refine(zu5 w1).mono ?_
 rintro e w2 ⟨v,rfl,hb2,rfl⟩
 rw[<-k64]
 iterate 2 first |go_values |go_skip |go_guarded |go_step |go_upon |go_back |go_simp
 refine zbp rfl 484 rfl (some 4) rfl 64 (by kernel_rfl) ?_
 intro w3 Z3 z3 h3 l3 x3
 refine zbp rfl 484 rfl (some 5) rfl 64 (by kernel_rfl) ?_
 intro w4 Z4 z4 h4 l4 x4
 refine zb0 rfl 484 _ _ rfl rfl w2.heap.size (w64 b) rfl rfl 484 Z3 ((x4.block _ (by omega)).trans h3) (by rw[zuv];kernel_rfl) (by rw[zuv];exact z3) (z6a b) ?_
 intro w5 h5 l5 x5
 refine zb0 rfl 484 _ _ rfl rfl w3.heap.size k64 rfl rfl 484 Z4 ((x5.block _ (by omega) (by simp;omega)).trans h4) (by rw[zuf];kernel_rfl) (by rw[zuf];exact z4) z4z ?_
 intro w6 h6 l6 x6
 apply wpList_nil
 go_upto_region 1 with fail
 have f2:Ext w w2:=hb1.trans hb2
 have f3:Ext w w3:=f2.trans x3
 have f4:Ext w w4:=f3.trans x4
 have f5:Ext w w5:=f4.grown x5 (λk hk=>by cases hk;exact f2.size)
 have f6:Ext w w6:=f5.grown x6 (λk hk=>by cases hk;exact f3.size)
 have hGl:G<w.heap.size:=(Array.getElem?_eq_some_iff.1 hG).1
 have hG6:w6.heap[G]?=some (.cells (s8 s) 369 (0,0)):=(f6.block G hGl).trans hG
 have q1:w6.heap[w2.heap.size]?=some (.cells (w64 b) 484 (0,0)):=(x6.block _ (by omega) (by simp;omega)).trans h5
 have s8s:(s8 s).size=8:=rfl
 apply wp_region_lit
 refine Great.wpList_runTo rfl (some 16) rfl (.pointer (some ⟨G,0,none⟩)) w6 rfl ?_
 refine Great.wpList_runTo rfl (some 17) rfl (.pointer (some ⟨G,0,none⟩)) w6 rfl ?_
 refine zc8 rfl 369 _ rfl (some 18) rfl G (s8 s) rfl 369 (0,0) _ hG6 Tryz.underlying369 rfl (by rw[s8s];kernel_rfl) ?_
 refine zbp rfl 369 rfl (some 6) rfl 8 (by kernel_rfl) ?_
 intro w7 Z7 z7 h7 l7 x7
 refine zb0 rfl 369 _ _ rfl rfl w6.heap.size (s8 s) rfl rfl 369 Z7 h7 (by rw[s8s];kernel_rfl) (by rw[s8s];exact z7) (zzf s) ?_
 intro w8 h8 l8 x8
 apply wpList_nil
 have f7:Ext w w7:=f6.trans x7
 have f8:Ext w w8:=f7.grown x8 (λk hk=>by cases hk;exact f6.size)
 have hB1:w8.heap[w2.heap.size]?=some (.cells (w64 b) 484 (0,0)):=(x8.block _ (by omega) (by simp;omega)).trans ((x7.block _ (by omega)).trans q1)
 have hB2:w8.heap[w3.heap.size]?=some (.cells k64 484 (0,0)):=(x8.block _ (by omega) (by simp;omega)).trans ((x7.block _ (by omega)).trans h6)
 have hG8:w8.heap[G]?=some (.cells (s8 s) 369 (0,0)):=(f8.block G hGl).trans hG
 obtain⟨B1,e1⟩: ∃B1,B1=w2.heap.size:=⟨_,rfl⟩
 obtain⟨B2,e2⟩: ∃B2,B2=w3.heap.size:=⟨_,rfl⟩
 obtain⟨B3,e3⟩: ∃B3,B3=w6.heap.size:=⟨_,rfl⟩
 have n1:B1≠B3:=by omega
 have n2:B2≠B3:=by omega
 have n3:w.heap.size<=B3:=by rw[e3];exact f6.size
 have n4:B3<w8.heap.size:=by omega
 have n5:B1<w8.heap.size:=by omega
 have n6:B2<w8.heap.size:=by omega
 have n7:G<w8.heap.size:=Nat.lt_of_lt_of_le hGl f8.size
 rw[<-e1]at hB1⊢
 rw[<-e2]at hB2⊢
 rw[<-e3]at h8⊢
 clear e1 e2 e3 h3 l3 x3 h4 l4 x4 h5 l5 x5 h6 l6 x6 h7 l7 x7 l8 x8 q1 hG6 z3 z4 z7 f2 f3 f4 f5 f6 f7 hb1 hb2
 generalize p.c=pc
 generalize p.a=pa
 have d8:Hid (w8=w8):=Lib.hid rfl
 go_wp2_with fail
 go_loopw [19] (λi wr=>z3o B3 b s i w8 wr) (λi _=>64-(intOf i).toNat)
 case atStart=>exact⟨0,rfl,by omega,World.grownBy.refl _ _,h8⟩
 case round=>
  obtain⟨t,rfl,e1,e2,e3⟩:=hrel
  by_cases ht:t<64
  ·have ht2:(t:Int)<64:=by omega
   have ht0:(0:Int)<=t:=by omega
   have hy:=znd (b:=b) hs t
   have hck:=(cell_of_row wr B2 t _ _ _ ((e2.block B2 n6 (by simp;omega)).trans hB2)).trans (z4y ht)
   have hcw:=(cell_of_row wr B1 t _ _ _ ((e2.block B1 n5 (by simp;omega)).trans hB1)).trans (z59 b ht)
   have hnx:zdc b s (t+1)=znc (kTab.getD t 0) ((wTo b 64).getD t 0) (zdc b s t):=rfl
   obtain⟨c0,c1,c2,c3,c4,c5,c6,c7⟩:=zl3 e3
   generalize kTab.getD t 0=kt at*
   generalize (wTo b 64).getD t 0=wt at*
   generalize zdc b s t=y at*
   have be:y.e<4294967296:=hy.2.2.2.2.1
   have ba:y.a<4294967296:=hy.1
   have R6:=zfk 6 y.e 6 rfl be (by omega)
   have R11:=zfk 11 y.e 11 rfl be (by omega)
   have R25:=zfk 25 y.e 25 rfl be (by omega)
   have R2:=zfk 2 y.a 2 rfl ba (by omega)
   have R13:=zfk 13 y.a 13 rfl ba (by omega)
   have R22:=zfk 22 y.a 22 rfl ba (by omega)
   obtain⟨X1,A1,NE,A2,CH,S1,S2,S3,T1,g1,g2,g3,g4,g5,g6,g7,g8,g9,g10,g11,g12,g13,g14,g15⟩:=z56 (k:=kt) (w:=wt) hy
   obtain⟨X1',A1',A2',A3',M1',MJ',T2,k1,k2,k3,k4,k5,k6,k7,k8,k9⟩:=z58 hy
   have HT1:=Lib.hid g11
   have HT2:=Lib.hid k9
   have HNX:=Lib.hid hnx
   have HY:=Lib.hid hy
   clear g11 k9 hnx hy be ba
   go_wp2_with fail
   go_quiet (fail)
   revert nq;intro nq1
   go_wp2_with fail
   go_quiet (first |(go_at_call_of 403 (Value.int IntKind.i64 6);exact(R6 _).mono λ_ _ h=>⟨h.1,_,h.2⟩) |(go_at_call_of 403 (Value.int IntKind.i64 11);exact(R11 _).mono λ_ _ h=>⟨h.1,_,h.2⟩) |(go_at_call_of 403 (Value.int IntKind.i64 25);exact(R25 _).mono λ_ _ h=>⟨h.1,_,h.2⟩))
   revert nq;intro nq2
   go_wp2_with fail
   go_quiet (first |(go_at_call_of 403 (Value.int IntKind.i64 2);exact(R2 _).mono λ_ _ h=>⟨h.1,_,h.2⟩) |(go_at_call_of 403 (Value.int IntKind.i64 13);exact(R13 _).mono λ_ _ h=>⟨h.1,_,h.2⟩) |(go_at_call_of 403 (Value.int IntKind.i64 22);exact(R22 _).mono λ_ _ h=>⟨h.1,_,h.2⟩))
   revert nq;intro nq3
   go_wp2_with fail
   have e2':=zk4 (zk4 e2 (nq1+nq2)) nq3
   have e3':((wr.drewN (nq1+nq2)).drewN nq3).heap[B3]?=some (.cells (s8 y) 369 (0,0)):=e3
   clear e2 e3 c0 c1 c2 c3 c4 c5 c6 c7 hck hcw R6 R11 R25 R2 R13 R22 g1 g2 g3 g4 g5 g6 g7 g8 g9 g10 g12 g13 g14 g15 k1 k2 k3 k4 k5 k6 k7 k8
   generalize (wr.drewN (nq1+nq2)).drewN nq3=w9 at*
   go_still_tail 2,(by kernel_rfl)
   change wpList _ _ _ _ _ w9.drew
   have e2:=zms e2'
   have e3:w9.drew.heap[B3]?=some (.cells (s8 y) 369 (0,0)):=e3'
   clear e2' e3'
   generalize w9.drew=w10 at*
   obtain⟨c0,c1,c2,c3,c4,c5,c6,c7⟩:=zl3 e3
   refine znq rfl _ _ _ _ 368 rfl Tryz.underlying488 (by kernel_rfl) B3 1 7 7 ⟨B3,0,none⟩ 7 8 (s8 y) 369 ([y.a,y.b,y.c,y.d,y.e,y.f,y.g].map u32v) rfl rfl e3 rfl ?_ (by rw[znf];exact Nat.le_refl _) (by simp[u32v,Value.oneCell']) ?_
   ·intro j v hj
    rw[zgn,cell_of_row w10 B3 _ _ _ _ e3,Nat.zero_add]
    exact z5o hj
   intro w11 h11 l11 x11
   have e4:w11.heap[B3]?=some (.cells (s8 ⟨y.a,y.a,y.b,y.c,y.d,y.e,y.f,y.g⟩) 369 (0,0)):=h11
   have e5:=zk5 e2 x11
   clear h11 e2 e3 c0 c1 c2 c3 c4 c5 c6 c7 x11
   obtain⟨c0,c1,c2,c3,c4,c5,c6,c7⟩:=zl3 e4
   have z0:w11.frozen? ⟨B3,0,none⟩=false:=by simp[World.frozen?,e4]
   have z4:w11.frozen? ⟨B3,4,none⟩=false:=by simp[World.frozen?,e4]
   obtain⟨E',hE⟩: ∃E':Nat,E'=(y.d+T1)%4294967296:=⟨_,rfl⟩
   obtain⟨A',hA⟩: ∃A':Nat,A'=(T1+T2)%4294967296:=⟨_,rfl⟩
   have v1:IntKind.u32.wrap ((y.d:Int)+(T1:Int))=(E':Int):=by rw[hE,zcd (n:=y.d+T1) (by omega)]
   have v2:IntKind.u32.wrap ((T1:Int)+(T2:Int))=(A':Int):=by rw[hA,zcd (n:=T1+T2) (by omega)]
   have v3:((y.d:Int)+(T1:Int))%4294967296=(E':Int):=by rw[hE];omega
   have v4:((T1:Int)+(T2:Int))%4294967296=(A':Int):=by rw[hA];omega
   have HE:=Lib.hid hE
   have HA:=Lib.hid hA
   clear hE hA
   apply wpList_nil
   go_wp2_with fail
   refine⟨⟨t+1,by simp,by omega,zd0 (zd0 e5 rfl _) rfl _,?_⟩,by(first |omega |(simp[intOf];done) |(simp[intOf];omega))⟩
   have hfin:(⟨A',y.a,y.b,y.c,E',y.e,y.f,y.g⟩:H8)=zdc b s (t+1):=by
    rw[HNX.out,znc,HA.out,HE.out,HT1.out,HT2.out]
    congr 1<;>omega
   rw[<-hfin]
   exact zzg (zzg e4 (s':=⟨y.a,y.a,y.b,y.c,E',y.e,y.f,y.g⟩) rfl) rfl
  ·have h64:t=64:=by omega
   have H64:=Lib.hid h64
   have f9:Ext w wr:=f8.grown e2 (λk hk=>by cases hk;exact n3)
   have q3:wr.heap[G]?=some (.cells (s8 s) 369 (0,0)):=(f9.block G hGl).trans hG
   have e3':wr.heap[B3]?=some (.cells (s8 (zdc b s 64)) 369 (0,0)):=by rw[<-H64.out];exact e3
   have hw:zkx s b=addH s (zdc b s 64):=rfl
   have n8:G≠B3:=by omega
   have n9:B3<wr.heap.size:=Nat.lt_of_lt_of_le n4 e2.size
   have HX:=Lib.hid hw
   clear h64 e2 e3 hw hB1 hB2 h8 hG8
   generalize zdc b s 64=x at*
   go_wp2_with fail
   go_loopw [93] (λi wr'=>z6m G s x i wr wr') (λi _=>8-(intOf i).toNat)
   case atStart=>exact⟨0,rfl,by omega,World.grownBy.refl _ _,q3⟩
   case round=>
    rename_i K0 _
    obtain⟨t,rfl,e1,e2,e3⟩:=hrel
    by_cases ht:t<8
    ·have ht2:(t:Int)<8:=by omega
     have ht0:(0:Int)<=t:=by omega
     obtain⟨a1,a2,a3⟩:=zof s x ht
     have hc0:=(cell_of_row _ G t _ _ _ e3).trans a1
     have hc1:=(cell_of_row _ B3 t _ _ _ ((e2.block B3 n9 (by simp;omega)).trans e3')).trans a2
     clear a1 a2
     generalize s.list.getD t 0=X at*
     generalize x.list.getD t 0=Y at*
     obtain⟨R,hR⟩: ∃R:Nat,R=(X+Y)%4294967296:=⟨_,rfl⟩
     have v1:IntKind.u32.wrap ((X:Int)+(Y:Int))=(R:Int):=by rw[hR,zcd (n:=X+Y) (by omega)]
     have v3:((X:Int)+(Y:Int))%4294967296=(R:Int):=by rw[hR];omega
     rw[<-hR]at a3
     have A3:=Lib.hid a3
     clear hR a3
     go_wp2_with fail
     go_still_tail 11,(by kernel_rfl)
     change wpList _ _ _ _ _ wr.drew
     have e2':=zms e2
     have e3'':wr.drew.heap[G]?=some (.cells (zkb s x t) 369 (0,0)):=e3
     have hc0':wr.drew.cell? ⟨G,t,none⟩=some (.int .u32 (X:Int)):=hc0
     have z0:wr.drew.frozen? ⟨G,t,none⟩=false:=by simp[World.frozen?,e3'']
     clear e2 e3 hc0 hc1
     generalize wr.drew=w9 at*
     go_wp2_with fail
     refine⟨⟨t+1,by simp,by omega,zd0 e2' rfl _,?_⟩,by(first |omega |(simp[intOf];done) |(simp[intOf];omega))⟩
     rw[setCell_eq_setRow _ _ _ _ _ _ _ e3'',setRow_heap _ _ _ _ _ _ e3'',A3.out]
    ·have h8:t=8:=by omega
     subst h8
     have hz:zkb s x 8=s8 (addH s x):=rfl
     go_wp2_with fail
     go_end0
     exact⟨rfl,zk5 (zq0 f9 (some G)) e2,by rw[HX.out,<-hz];exact e3⟩
end
section
def z3p(n:Nat)(w:World)(v:Value)(wr:World):Prop:=
 ∃(k:Nat) (g:Option Nat),k<=zdd n/\OwB wr w.heap.size v (128::List.replicate k 0) g/\Ext w wr
def zz3(n:Nat)(w:World)(v i:Value)(wr:World):Prop:=
 ∃(j:Nat) (done:List UInt8) (g:Option Nat),i= .int .i64 ((j:Int)-1)/\j<=8/\done.length+j=9+zdd n/\zhd n=done++beB j (n*8)/\OwB wr w.heap.size v done g/\Ext w wr
theorem zwy{n k:Nat}(h:k<=zdd n):((n+(k+1))%64=56↔k=zdd n):=by
 unfold zdd at*;omega
theorem z2b(n:Nat)(w:World)(hn:n<=1000000000000):
  Calls Tryz.prog 274 #[.int .i64 (n:Int)] w (Ret w λw' v=>∃g,OwB w' w.heap.size v (zhd n) g):=by
 go_enter Tryz.func274,Tryz.ntmps274
 go_wp2_with fail
 go_loopw [3] (λv wr=>z3p n w v wr) (λv _=>100-(match v with | .slice _ k _=>k |_=>0))
 case atStart=>exact⟨0,some w.heap.size,Nat.zero_le _,OwB.ofNew (l:=[128]) (Nat.le_refl _) rfl rfl (by decide),by(repeat (first |exact Ext.refl _ |refine Ext.drew ?_ |refine Ext.drewN ?_ _ |refine Ext.alloc ?_ _ |(refine Ext.setCell ?_ (by first |omega |(simp;done) |(simp;omega)) _) |refine Ext.trans ?_ (by assumption)))⟩
 case round=>
  obtain⟨k,g,e1,e2,e3⟩:=hrel
  have hk:k<64:=Nat.lt_of_le_of_lt e1 (zj9 n)
  obtain⟨a,c,rfl⟩:=e2.form
  have hlen:(128::List.replicate k (0:UInt8)).length=k+1:=by simp
  have hiff:=zwy e1
  have hsnoc:(128::List.replicate k (0:UInt8))++[0]=128::List.replicate (k+1) 0:=by simp[List.replicate_succ']
  have HS:=Lib.hid hsnoc
  have E1:=Lib.hid e1
  clear hsnoc
  obtain⟨L,hL⟩: ∃L,L=128::List.replicate k (0:UInt8):=⟨_,rfl⟩
  rw[<-hL]at e2 hlen⊢
  have HL:=Lib.hid hL
  clear hL e1
  have hL64:L.length<=64:=by omega
  by_cases hz:k=zdd n
  ·have h56:((n:Int)+(L.length:Int))%64=56:=by have:=hiff.2 hz;omega
   have HZ:=Lib.hid hz
   have HN:=Lib.hid hlen
   clear hiff hz hlen
   go_wp2_with fail
   go_loopw [3,4] (λv i wr'=>zz3 n w v i wr') (λ_ i _=>(intOf i+1).toNat)
   case atStart=>
    refine⟨8,L,g,rfl,by omega,by have h1:=HN.out;have h2:=HZ.out;omega,?_,e2,e3⟩
    rw[HL.out,HZ.out];rfl
   case round=>
    clear e2 e3 h56 hk
    obtain⟨j,done,g,rfl,e1,e2,e3,e4,e5⟩:=hrel
    have E3:=Lib.hid e3
    have E2':=Lib.hid e2
    have E2:done.length<=73:=by have:=zj9 n;omega
    obtain⟨a,c,rfl⟩:=e4.form
    clear e3 e2
    by_cases h0:j=0
    ·subst h0
     go_wp2_with fail
     go_ret
     exact⟨_,rfl,(by(repeat (first |exact Ext.refl _ |refine Ext.drew ?_ |refine Ext.drewN ?_ _ |refine Ext.alloc ?_ _ |(refine Ext.setCell ?_ (by first |omega |(simp;done) |(simp;omega)) _) |refine Ext.trans ?_ (by assumption)))),g,by rw[E3.out];simpa[beB]using e4⟩
    ·obtain⟨k,rfl⟩: ∃k,j=k+1:=⟨j-1,by omega⟩
     have ek:((k+1:Nat):Int)-1=(k:Int):=by omega
     rw[ek]
     clear h0 ek
     go_wp2_with (first |(at_builtin;refine zdm ?_))
     refine zdg (zbi (l2:=[UInt8.ofNat (n*8/256^k)]) rfl (.tmp 19) (.tmp 27) rfl rfl (e4.alloc _) rfl rfl (zm5 _ ?_) ?_ ?_ ?_)
     ·rw[zi0,<-zr0];simp
     ·simp;omega
     ·have:=e5.le;simp;omega
     intro a' c' g' w' r1 r2 r3
     have r4:=(e4.alloc _).grown r2 (e5.alloc _) (Nat.le_refl _)
     go_wp2_with fail
     go_roundw
     case rel=>exact⟨k,_,g',rfl,by omega,by have:=E2'.out;simp;omega,by rw[E3.out,beB,List.append_assoc];rfl,r1,r4⟩
     case measure=>(first |omega |(simp[intOf];done) |(simp[intOf];omega))
  ·have h56: ¬((n:Int)+(L.length:Int))%64=56:=by intro h;exact hz (hiff.1 (by omega))
   have HZ:=Lib.hid hz
   have HN:=Lib.hid hlen
   clear hiff hz hlen
   go_wp2_with (first |(at_builtin;refine zdm ?_))
   refine zdg (zbi (l2:=[0]) rfl (.tmp 12) (.tmp 13) rfl rfl (e2.alloc _) rfl rfl (zm5 _ rfl) ?_ ?_ ?_)
   ·simp;omega
   ·have:=e3.le;simp;omega
   intro a' c' g' w' r1 r2 r3
   have r4:=(e2.alloc _).grown r2 (e3.alloc _) (Nat.le_refl _)
   go_wp2_with fail
   go_roundw
   case rel=>exact⟨k+1,g',by have h1:=E1.out;have h2:=HZ.out;omega,by rw[<-HS.out,<-HL.out];exact r1,r4⟩
   case measure=>have h1:=HN.out;show 100-(L.length+1)<100-L.length;omega
end
section
theorem zu0(w:World):Calls Tryz.prog 273 #[] w (Ret w λ_ v=>v= .agg (s8 h0Tab)):=
 (zw2 w).mono λ_ _ ⟨v,h1,h2,h3⟩=>⟨v,h1,h2,h3⟩
theorem zpk(p:AC)(b:List UInt8){S:Nat->Prop}(w:World)(hp:By w S p b)(hl:b.length=64)(G:Nat)(s:H8)(hs:s.ok)(hG:w.heap[G]?=some (.cells (s8 s) 369 (0,0))):
  Calls Tryz.prog 275 #[.pointer (some ⟨G,0,none⟩), .slice p.a 64 p.c] w λe w'=>e= .returned (.tuple #[])/\w.grownBy w' (some G)/\w'.heap[G]?=some (.cells (s8 (zkx s b)) 369 (0,0)):=by
 have:=z14 p b w hp hl G s hs hG
 rwa[hl]at this
theorem By.take{w:World}{S:Nat->Prop}{p:AC}{l:List UInt8}(h:By w S p l){k:Nat}(hk:k<=l.length):By w S p (l.take k):=by
 have hl:=h.lens
 have:=Sl.cut (a:=p.a) (c:=p.c) h (Nat.zero_le k) hk (by omega) (λ_ b o e=>by simpa using e)
 unfold By
 rw[List.length_take,Nat.min_eq_left hk]
 simpa using this
theorem By.drop{w:World}{S:Nat->Prop}{p:AC}{l:List UInt8}(h:By w S p l){k:Nat}(hk:k<=l.length){a:Option Addr}(ha:k<l.length->∀b o,p.a=some ⟨b,o,none⟩->a=some ⟨b,o+k,none⟩):By w S ⟨a,p.c-k⟩ (l.drop k):=by
 have hl:=h.lens
 have:=Sl.cut (a:=a) (c:=p.c-k) h hk (Nat.le_refl _) (by omega) (λh b o e=>by simpa using ha h b o e)
 unfold By
 rw[List.length_drop]
 have e:((l.map bv).drop (k*1)).take ((l.length-k)*1)=(l.drop k).map bv:=by
  rw[Nat.mul_one,Nat.mul_one,List.take_of_length_le (by simp),List.map_drop]
 rwa[e]at this
def zka(w:World)(B:Nat):Prop:=∃Z:Array Value,w.heap[B]?=some (.cells Z 237 (0,0))/\Z.size=32
def SumF(L R:List UInt8)(m n G:Nat)(q:AC)(w w':World):Prop:=
 64*m<=L.length/\R=L.drop (64*m)/\n=R.length/\w.heap.size<G/\G<w'.heap.size/\By w' (λk=>k≠G) q R/\w'.heap[G]?=some (.cells (s8 (runH m h0Tab L)) 369 (0,0))/\Ext w w'/\zka w' w.heap.size
theorem SumF.next{L R:List UInt8}{m n G:Nat}{q:AC}{w w7 w8:World}(h:SumF L R m n G q w w7)(hR:64<=R.length)(x8:w7.grownBy w8 (some G))
  (h8:w8.heap[G]?=some (.cells (s8 (zkx (runH m h0Tab L) (R.take 64))) 369 (0,0))) {a:Option Addr} {c:Nat} (hc:c=q.c-64)
  (ha:q.c≠64->∀b o,q.a=some ⟨b,o,none⟩->a=some ⟨b,o+64,none⟩):SumF L (R.drop 64) (m+1) (n-64) G ⟨a,c⟩ w w8:=by
 obtain⟨h1,h2,h3,h4,h5,h6,h7,h9,Z,z1,z2⟩:=h
 have hlen:R.length=L.length-64*m:=by rw[h2,List.length_drop]
 have hl:=h6.lens
 refine⟨by omega,?_,?_,h4,Nat.lt_of_lt_of_le h5 x8.size,?_,?_,h9.grown x8 (λk hk=>by cases hk;omega),Z,?_,z2⟩
 ·rw[h2,List.drop_drop];congr 1
 ·rw[List.length_drop,h3]
 ·subst hc
  have:=h6.drop hR (a:=a) (λhlt b o e=>ha (by omega) b o e)
  exact this.same (Same.of_grown x8 (λb hb e=>hb (Option.some.inj e)))
 ·rw[h8,zpe,h2]
 ·rw[x8.block _ (by have:=h9.size;omega) (by simp;omega)];exact z1
def zdx(s:H8)(Z:Array Value)(t:Nat):Array Value:=(((outH s).take (4*t)).map bv++Z.toList.drop (4*t)).toArray
theorem z1m(s:H8){t:Nat}(ht:t<8):(outH s).take (4*(t+1))=(outH s).take (4*t)++beB 4 (s.list.getD t 0):=by
 match t,ht with
 |0,_=>rfl
 |1,_=>rfl
 |2,_=>rfl
 |3,_=>rfl
 |4,_=>rfl
 |5,_=>rfl
 |6,_=>rfl
 |7,_=>rfl
theorem zkt(A:List Value)(z v:Value)(R:List Value){k:Nat}(hk:k=A.length):(A++z::R).set k v=(A++[v])++R:=by subst hk;simp
theorem z1n(s:H8){Z:Array Value}(hZ:Z.size=32){t:Nat}(ht:t<8)(x:Nat)(hx:s.list.getD t 0=x):
  ((((zdx s Z t).setIfInBounds (4*t) (bv (UInt8.ofNat (x/256^3)))).setIfInBounds (4*t+1) (bv (UInt8.ofNat (x/256^2)))).setIfInBounds (4*t+2) (bv (UInt8.ofNat (x/256^1)))).setIfInBounds (4*t+3) (bv (UInt8.ofNat (x/256^0)))=zdx s Z (t+1):=by
 have hlen:((outH s).take (4*t)).length=4*t:=by rw[List.length_take,zem];omega
 have hzl:Z.toList.length=32:=by simpa using hZ
 obtain⟨z0,z1,z2,z3,hz⟩: ∃z0 z1 z2 z3,Z.toList.drop (4*t)=z0::z1::z2::z3::Z.toList.drop (4*(t+1)):=by
  refine⟨Z.toList[4*t],Z.toList[4*t+1],Z.toList[4*t+2],Z.toList[4*t+3],?_⟩
  rw[List.drop_eq_getElem_cons (by omega),List.drop_eq_getElem_cons (i:=4*t+1) (by omega),List.drop_eq_getElem_cons (i:=4*t+1+1) (by omega),List.drop_eq_getElem_cons (i:=4*t+1+1+1) (by omega)]
  rw[show 4*(t+1)=4*t+1+1+1+1 by omega]
 apply Array.ext'
 simp only[zdx,Array.toList_setIfInBounds,z1m s ht,hz,hx,beB]
 rw[zkt _ _ _ _ (by rw[List.length_map,hlen]),zkt _ _ _ _ (by simp[zem];omega),zkt _ _ _ _ (by simp[zem];omega),zkt _ _ _ _ (by simp[zem];omega)]
 simp
theorem zp4(w:World)(n:Nat)(T:TypeId)(cs:Array Value)(i:Nat)(v:Value)(hT:Tryz.prog.underlying T=some (.array n 368))(hi:i<n)(hv:cs[i]?=some v):
  (Instr.index T (.agg cs) (.int .i64 (i:Int))).run Tryz.prog w= .ok v w:=by
 have h1:(0:Int)<=(i:Int)/\(i:Int)< (n:Int):=by omega
 have hs:(Tryz.prog.info? 368).map (·.size)=some 1:=by kernel_rfl
 cases hq:Tryz.prog.info? 368 with
 |none=>simp[hq]at hs
 |some q=>
  have hq1:q.size=1:=by simpa[hq]using hs
  simp[Instr.index,run_underlying hT,asIntOf,h1,part,isAgg,run_underlying Tryz.underlying368,sizeOf,typeInfo,hq,hq1,hv,Result.andThen,go_sem]
  intro h;omega
theorem zkd{w:World}{B:Nat}{c:Array Value}{T:TypeId}{fr:Nat×Nat}(h:w.heap[B]?=some (.cells c T fr))(j:Nat)(v:Value):(w.setCell ⟨B,j,none⟩ v).heap[B]?=some (.cells (c.setIfInBounds j v) T fr):=by
 rw[setCell_eq_setRow _ _ _ _ _ _ _ h,setRow_heap _ _ _ _ _ _ h]
def z6o(s:H8)(Z:Array Value)(B:Nat)(i:Value)(w wr:World):Prop:=
 ∃t:Nat,i= .int .i64 (t:Int)/\t<=8/\w.grownBy wr (some B)/\wr.heap[B]?=some (.cells (zdx s Z t) 237 (0,0))
theorem zkz(x:Nat)(k:Nat){D:Int}(hD:D=((256^k:Nat):Int)): ∃Y:Int,IntKind.u8.wrap ((x:Int)/D)=Y/\((x:Int)/D)%256=Y/\Value.int .u8 Y=bv (UInt8.ofNat (x/256^k)):=by
 refine⟨((x:Int)/D)%256,by rw[IntKind.wrap_u8'],rfl,?_⟩
 rw[bv,zi0,hD];simp
def SumJ(L:List UInt8)(pv:Value)(w:World)(a':Act)(w':World):Prop:=
 ∃(m n G:Nat) (q:AC) (R:List UInt8) (u8 u9 u10 u11 u12 u13 u14 u15 u16 u17 u18 u19 u20 u21 u22:Value),
  a'={tmps:= #[pv,undef, .pointer (some ⟨w.heap.size,0,none⟩), .pointer (some ⟨G,0,none⟩), .slice q.a n q.c,undef,undef,undef,u8,u9,u10,u11,u12,u13,u14,u15,u16,u17,u18,u19,u20,u21,u22,undef,undef,undef,undef,undef,undef,undef,undef,undef,undef,undef,undef,undef,undef,undef,undef,undef,undef,undef,undef,undef,undef,undef,undef,undef,undef,undef,undef,undef,undef,undef,undef,undef],defers:=[]}/\
  SumF L R m n G q w w'
def SumM(a':Act)(_:World):Nat:=match a'.tmps.getD 4 undef with | .slice _ k _=>k |_=>0
set_option maxRecDepth 100000 in
theorem z55(p:AC)(b:List UInt8){S:Nat->Prop}(w:World)(hp:By w S p b)(hb:b.length<=100000000000):
  Calls Tryz.prog 154 #[.slice p.a b.length p.c] w (Ret w λ_ v=>v= .agg ((shaB b).map bv).toArray):=by
 go_enter Tryz.func154,Tryz.ntmps154
 go_upto_region 0 with fail
 apply wp_region_lit
 refine zbp rfl 237 rfl (some 2) rfl 32 (by kernel_rfl) ?_
 intro w1 Z1 z1 h1 l1 x1
 apply wpList_nil
 have hs1:zka w1 w.heap.size:=⟨Z1,h1,z1⟩
 clear h1 z1
 obtain⟨L,hL⟩: ∃L,L=b++zhd b.length:=⟨_,rfl⟩
 have HL:=Lib.hid hL
 have hz:=zj9 b.length
 have hLl:L.length=b.length+(9+zdd b.length):=by rw[hL,List.length_append,zpm]
 have hmod:L.length%64=0:=by rw[hLl];exact z1p _
 have HT:=Lib.hid (zpm b.length)
 clear hL
 generalize zdd b.length=z at*
 have HM:=Lib.hid hmod
 have HLl:=Lib.hid hLl
 have hL1:64<=L.length:=by omega
 have hL2:L.length<=100000000100:=by omega
 clear hmod hLl
 go_wp2_with fail
 refine wp_scope_jumps 0 (SumJ L (.slice p.a b.length p.c) w) SumM rfl ?_ ?_
 rotate_left
 ·rintro a' w7 ⟨m,n,G,q,R,u8,u9,u10,u11,u12,u13,u14,u15,u16,u17,u18,u19,u20,u21,u22,rfl,SF⟩
  have hn0:n%64=0:=by
   obtain⟨g1,g2,g3,_⟩:=id SF
   have:=HM.out
   rw[g3,g2,List.length_drop];omega
  have hL3:n<=100000000100:=by
   obtain⟨g1,g2,g3,_⟩:=id SF
   rw[g3,g2,List.length_drop];omega
  by_cases hz0:n=0
  ·obtain⟨g1,g2,g3,g4,g5,g6,g7,g8,Z,g9,g10⟩:=id SF
   have hm:m=L.length/64:=by
    rw[hz0]at g3
    have:=HM.out
    have:(L.drop (64*m)).length=0:=by rw[<-g2,<-g3]
    rw[List.length_drop]at this
    omega
   have hsh:shaB b=outH (runH m h0Tab L):=by unfold shaB;rw[<-HL.out,hm]
   generalize runH m h0Tab L=s at*
   subst hz0
   have HS:=Lib.hid hsh
   clear hsh hm g1 g2 g3 g6 SF hn0
   go_upto_region 6 with fail
   apply wp_region_lit
   refine zbp rfl 237 rfl (some 5) rfl 32 (by kernel_rfl) ?_
   intro w8 Y hY h8 l8 x8
   apply wpList_nil
   go_upto_region 7 with fail
   apply wp_region_lit
   refine zc8 rfl 369 _ rfl (some 23) rfl G (s8 s) rfl 369 (0,0) _ ((x8.block G g5).trans g7) Tryz.underlying369 rfl (by rw[znf];kernel_rfl) ?_
   have f8:Ext w w8:=g8.trans x8
   have g9':w8.heap[w.heap.size]?=some (.cells Z 237 (0,0)):=(x8.block _ (by omega)).trans g9
   obtain⟨B,hB⟩: ∃B,B=w7.heap.size:=⟨_,rfl⟩
   rw[<-hB]at h8⊢
   have hB1:w.heap.size<B:=by omega
   have hB2:B<w8.heap.size:=by omega
   have h80:w8.heap[B]?=some (.cells (zdx s Y 0) 237 (0,0)):=by rw[h8];simp[zdx]
   clear hB l8 x8 h8 g9 g8 g7 g5
   go_wp2_with fail
   go_loopw [24] (λi wr=>z6o s Y B i w8 wr) (λi _=>8-(intOf i).toNat)
   case atStart=>exact⟨0,rfl,by omega,World.grownBy.refl _ _,h80⟩
   case round=>
    obtain⟨t,rfl,e1,e2,e3⟩:=hrel
    by_cases ht:t<8
    ·have ht2:(t:Int)<8:=by omega
     have ht0:(0:Int)<=t:=by omega
     have hget:=zp4 wr 8 369 (s8 s) t _ Tryz.underlying369 ht (zof s s ht).2.1
     have hcellE: ∀k,k<32->∃v,wr.cell? ⟨B,k,none⟩=some v:=λk hk=>by
      have hsz:(zdx s Y t).size=32:=by
       have hYl:Y.toList.length=32:=by simpa using hY
       simp only[zdx,List.size_toArray,List.length_append,List.length_map,List.length_take,List.length_drop,zem,hYl];omega
      exact⟨(zdx s Y t)[k],by rw[cell_of_row wr _ k _ _ _ e3];simp[hsz,hk]⟩
     obtain⟨v0,hc0⟩:=hcellE (4*t) (by omega)
     obtain⟨v1,hc1⟩:=hcellE (4*t+1) (by omega)
     obtain⟨v2,hc2⟩:=hcellE (4*t+2) (by omega)
     obtain⟨v3,hc3⟩:=hcellE (4*t+3) (by omega)
     have hfz: ∀k,wr.frozen? ⟨B,k,none⟩=false:=λk=>by simp[World.frozen?,e3]
     have z0:=hfz (4*t)
     have z1:=hfz (4*t+1)
     have z2:=hfz (4*t+2)
     have z3:=hfz (4*t+3)
     have hstep:=z1n s hY ht _ rfl
     clear hcellE hfz
     generalize s.list.getD t 0=X at*
     obtain⟨Y0,y0,y0',y0''⟩:=zkz X 3 (D:=16777216) rfl
     obtain⟨Y1,y1,y1',y1''⟩:=zkz X 2 (D:=65536) rfl
     obtain⟨Y2,y2,y2',y2''⟩:=zkz X 1 (D:=256) rfl
     obtain⟨Y3,y3,y3',y3''⟩:=zkz X 0 (D:=1) rfl
     rw[Int.ediv_one]at y3 y3'
     rw[<-y0'',<-y1'',<-y2'',<-y3'']at hstep
     have HST:=Lib.hid hstep
     clear hstep y0'' y1'' y2'' y3''
     have a0:(0:Int)<=4*(t:Int):=by omega
     have a1:(0:Int)<=4*(t:Int)+1:=by omega
     have a2:(0:Int)<=4*(t:Int)+2:=by omega
     have a3:(0:Int)<=4*(t:Int)+3:=by omega
     have b0:4*(t:Int)<32:=by omega
     have b1:4*(t:Int)+1<32:=by omega
     have b2:4*(t:Int)+2<32:=by omega
     have b3:4*(t:Int)+3<32:=by omega
     have n0:(4*(t:Int)).toNat=4*t:=by omega
     have n1:(4*(t:Int)+1).toNat=4*t+1:=by omega
     have n2:(4*(t:Int)+2).toNat=4*t+2:=by omega
     have n3:(4*(t:Int)+3).toNat=4*t+3:=by omega
     go_wp2_with fail
     refine⟨⟨t+1,by simp,by omega,zd0 (zd0 (zd0 (zd0 e2 rfl _) rfl _) rfl _) rfl _,?_⟩,by(first |omega |(simp[intOf];done) |(simp[intOf];omega))⟩
     rw[zkd (zkd (zkd (zkd e3 _ _) _ _) _ _) _ _,HST.out]
    ·have h8:t=8:=by omega
     subst h8
     have hfin:zdx s Y 8=((shaB b).map bv).toArray:=by
      have hYl:Y.toList.length=32:=by simpa using hY
      unfold zdx
      rw[HS.out,List.take_of_length_le (by rw[zem];omega),List.drop_of_length_le (by omega),List.append_nil]
     have hs32:(zdx s Y 8).size=32:=by rw[hfin];simp[zdl]
     have hone:(zdx s Y 8).all (·.oneCell')=true:=by rw[hfin];simp[Value.oneCell']
     have f9:Ext w wr:=f8.grown e2 (λk hk=>by cases hk;omega)
     have hZ:wr.heap[w.heap.size]?=some (.cells Z 237 (0,0)):=(e2.block _ (by omega) (by simp;omega)).trans g9'
     generalize zdx s Y 8=cs at*
     go_upto_region 12 with fail
     apply wp_region_lit
     refine zc8 rfl 237 _ rfl (some 55) rfl B cs rfl 237 (0,0) _ e3 Tryz.underlying237 rfl (by rw[hs32];kernel_rfl) ?_
     refine zb0 rfl 237 _ _ rfl rfl w.heap.size cs rfl rfl 237 Z hZ (by rw[hs32];kernel_rfl) (by rw[hs32];exact g10) hone ?_
     intro w9 h9 l9 x9
     apply wpList_nil
     go_wp2_with fail
     refine bodyPost_ret (results_cell_row rfl _ _ w.heap.size 237 _ (0,0) _ rfl h9 Tryz.underlying237 rfl (by rw[hs32];kernel_rfl)) rfl ?_
     exact⟨_,rfl,f9.grown x9 (λk hk=>by cases hk;exact Nat.le_refl _),by rw[hfin]⟩
  ·have hz1:64<=n:=by omega
   obtain⟨g1,g2,g3,g4,g5,g6,g7,g8,g9⟩:=id SF
   have SG:=Lib.hid SF
   have hR1:64<=R.length:=by omega
   have hn1:64<=n:=by omega
   have hc:=g6.lens
   have hpos:(0:Int)< (n:Int):=by omega
   have hc64:(64:Int)<=(q.c:Int):=by omega
   have hnc:n<=q.c:=by omega
   obtain⟨qb,qo,hqa,_⟩:=g6.form (by omega)
   rw[hqa]
   have hq:q=⟨some ⟨qb,qo,none⟩,q.c⟩:=by rw[<-hqa]
   have hst:=zpk ⟨some ⟨qb,qo,none⟩,q.c⟩ (R.take 64) w7 (by rw[<-hq];exact g6.take hR1) (by rw[List.length_take];omega) G _ (zob m h0Tab L z2m) g7
   have HQ:=Lib.hid hqa
   clear hq g1 g2 g3 g4 g5 g6 g7 g8 g9 hqa SF
   go_wp2_with fail
   refine hst.mono ?_
   rintro e w8 ⟨rfl,x8,h8⟩
   clear hst
   go_wp2_with fail
   ·go_step3
    exact⟨rfl,⟨m+1,n-64,G,⟨some ⟨qb,qo,none⟩,0⟩,R.drop 64,_,_,_,_,_,_,_,_,_,_,_,_,_,_,_,rfl,SG.out.next hR1 x8 h8 (by omega) (λh'=>absurd h h')⟩,by simp[SumM];omega⟩
   ·go_step3
    exact⟨rfl,⟨m+1,n-64,G,⟨some ⟨qb,qo+64,none⟩,q.c-64⟩,R.drop 64,_,_,_,_,_,_,_,_,_,_,_,_,_,_,_,rfl,SG.out.next hR1 x8 h8 rfl (λ_ b o e=>by rw[HQ.out]at e;cases e;rfl)⟩,by simp[SumM];omega⟩
 ·go_wp2_with fail
  refine(zu0 w1).mono ?_
  rintro e w2 ⟨v,rfl,x2,rfl⟩
  iterate 2 first |go_values |go_skip |go_guarded |go_step |go_upon |go_back |go_simp
  refine zbp rfl 369 rfl (some 3) rfl 8 (by kernel_rfl) ?_
  intro w3 Z3 z3 h3 l3 x3
  refine zb0 rfl 369 _ _ rfl rfl w2.heap.size (s8 h0Tab) rfl rfl 369 Z3 h3 (by rw[znf];kernel_rfl) (by rw[znf];exact z3) (zzf _) ?_
  intro w4 h4 l4 x4
  apply wpList_nil
  have f2:Ext w w2:=x1.trans x2
  have f3:Ext w w3:=f2.trans x3
  have f4:Ext w w4:=f3.grown x4 (λk hk=>by cases hk;exact f2.size)
  have n1:w.heap.size<w2.heap.size:=by have:=x2.size;omega
  have n2:w2.heap.size<w4.heap.size:=by omega
  have hs4:zka w4 w.heap.size:=by
   obtain⟨Z,q1,q2⟩:=hs1
   exact⟨Z,(x4.block _ (by omega) (by simp;omega)).trans ((x3.block _ n1).trans ((x2.block _ (by omega)).trans q1)),q2⟩
  obtain⟨G,hG⟩: ∃G,G=w2.heap.size:=⟨_,rfl⟩
  rw[<-hG]at h4 n1 n2⊢
  clear hs1 l3 x3 l4 x4 h3 z3 hG l1 x1 x2 f2 f3
  go_wp2_with fail
  refine(zf3 p b _ (hp.ext f4) (by omega)).mono ?_
  rintro e w5 ⟨v,rfl,x5,g5,o5⟩
  obtain⟨a5,c5,rfl⟩:=o5.form
  go_wp2_with fail
  refine(z2b b.length _ (by omega)).mono ?_
  rintro e w6 ⟨v,rfl,x6,g6,o6⟩
  obtain⟨p6,rfl,b6⟩:=o6.by_
  rw[HT.out]at o6⊢
  go_wp2_with (first |(at_builtin;refine zdm ?_))
  refine zdg (zbi (l2:=zhd b.length) rfl (.tmp 10) (.tmp 13) rfl rfl (o5.ext x6) rfl HT.out.symm b6 ?_ ?_ ?_)
  ·rw[HT.out];omega
  ·have h1:=x5.size;have h2:=x6.size;omega
  intro a7 c7 g7 w7 r1 r2 r3
  have x7:Ext w4 w7:=(o5.ext x6).grown r2 (x5.trans x6) (Nat.le_refl _)
  rw[<-HL.out,<-HLl.out]at r1
  rw[<-HLl.out]
  have f7:Ext w w7:=f4.trans x7
  have h7:w7.heap[G]?=some (.cells (s8 h0Tab) 369 (0,0)):=(x7.block G n2).trans h4
  have hs7:zka w7 w.heap.size:=by
   obtain⟨Z,q1,q2⟩:=hs4
   exact⟨Z,(x7.block _ (by omega)).trans q1,q2⟩
  obtain⟨q,hq,b7⟩:=r1.by_
  injection hq with e1 _ e2
  subst e1;subst e2
  have b7':By w7 (λk=>k≠G) q L:=b7.mono λk hk _=>by have:=f4.size;omega
  clear r1 r2 r3 b7 o5 x5 x6 b6 o6 hs4 h4
  go_wp2_with fail
  go_step3
  obtain⟨R,hR⟩: ∃R,R=L:=⟨_,rfl⟩
  obtain⟨m,hm⟩: ∃m:Nat,m=0:=⟨_,rfl⟩
  obtain⟨n,hn⟩: ∃n,n=L.length:=⟨_,rfl⟩
  have SF:SumF L R m n G q w w7:=by
   subst hm;subst hR;subst hn
   exact⟨by omega,by simp,rfl,n1,Nat.lt_of_lt_of_le n2 x7.size,b7',h7,f7,hs7⟩
  rw[<-hn]
  rw[<-hn]at hL1 hL2
  clear hR hm hn b7' h7 f7 hs7
  obtain⟨g1,g2,g3,g4,g5,g6,g7,g8,g9⟩:=id SF
  have SG:=Lib.hid SF
  have hR1:64<=R.length:=by omega
  have hn1:64<=n:=by omega
  have hc:=g6.lens
  have hpos:(0:Int)< (n:Int):=by omega
  have hc64:(64:Int)<=(q.c:Int):=by omega
  have hnc:n<=q.c:=by omega
  obtain⟨qb,qo,hqa,_⟩:=g6.form (by omega)
  rw[hqa]
  have hq:q=⟨some ⟨qb,qo,none⟩,q.c⟩:=by rw[<-hqa]
  have hst:=zpk ⟨some ⟨qb,qo,none⟩,q.c⟩ (R.take 64) w7 (by rw[<-hq];exact g6.take hR1) (by rw[List.length_take];omega) G _ (zob m h0Tab L z2m) g7
  have HQ:=Lib.hid hqa
  clear hq g1 g2 g3 g4 g5 g6 g7 g8 g9 hqa SF
  go_wp2_with fail
  refine hst.mono ?_
  rintro e w8 ⟨rfl,x8,h8⟩
  clear hst
  go_wp2_with fail
  ·go_step3
   exact⟨rfl,⟨m+1,n-64,G,⟨some ⟨qb,qo,none⟩,0⟩,R.drop 64,_,_,_,_,_,_,_,_,_,_,_,_,_,_,_,rfl,SG.out.next hR1 x8 h8 (by omega) (λh'=>absurd h h')⟩⟩
  ·go_step3
   exact⟨rfl,⟨m+1,n-64,G,⟨some ⟨qb,qo+64,none⟩,q.c-64⟩,R.drop 64,_,_,_,_,_,_,_,_,_,_,_,_,_,_,_,rfl,SG.out.next hR1 x8 h8 rfl (λ_ b o e=>by rw[HQ.out]at e;cases e;rfl)⟩⟩
end
end Go.Proofs.YtebhngeddnnpkaaGreat
