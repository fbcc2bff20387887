import Derived.Test.YtpdllgbfemnemaaGreatZKb
import Derived.Test.YtpdllgbfemnemaaGreatZSxY
import Derived.Shelf.RegionOpenPlain
import Derived.Lib.Walk
import Derived.Lib.SliceRun
import Derived.Lib.Overlaps
import Derived.Laws.Externs
import Derived.Laws.IdiomCopy
import Derived.Lib.AppendZerosOnto
import Derived.Laws.NewBlocks
import Derived.Test.YtpdllgbfemnemaaGreatZMk
namespace Go.Proofs.YtpdllgbfemnemaaGreat.Sx
open Go.RowKit
section
open Go.RowKit Go.Lib
section
variable {P:Program}
theorem zhj(w:World)(dT sT ty elem:TypeId)(sz g o dLen dCap:Nat)(a:Addr)(sLen sCap m:Nat)(cur:Array Value)(t:TypeId)(cs:List Value)
  (hu:P.underlying dT=some (.slice elem)) (hs:(P.info? elem).map (·.size)=some sz)
  (hg:w.heap[g]?=some (.cells cur t (0,0))) (hm:Nat.min sLen dLen=m) (hn:cs.length=m*sz)
  (hsrc: ∀j v,cs[j]?=some v->w.cell? (a.add j)=some v) (hfit:o+cs.length<=cur.size) (h1: ∀v∈cs,v.oneCell'=true):
  (Builtin.copy_ #[dT,sT] ty #[.slice (some ⟨g,o,none⟩) dLen dCap, .slice (some a) sLen sCap]).run P w=
   .ok (goInt (m:Int)) (w.setRow g (cur.toList.take o++cs++cur.toList.drop (o+cs.length)).toArray):=by
 subst hm
 have hl:=run_loadCells_list (P:=P) w a cs hsrc
 have hst:=run_storeCells_at P g o t cs 0 cur w hg (by simpa using hfit) h1
 cases hq:P.info? elem with
 |none=>simp[hq]at hs
 |some i=>
  have hi:i.size=sz:=by simpa[hq]using hs
  simp[Builtin.copy_,run_underlying hu,Builtin.lenOf,Builtin.firstCells,sizeOf,typeInfo,hq,hi,<-hn,hl,hst]
theorem znd{w:World}{b:Nat}{cur:Array Value}{e:TypeId}{p n:Nat}(hh:w.heap[b]?=some (.cells cur e (0,0))){j:Nat}{v:Value}(h:((cur.toList.drop p).take n)[j]?=some v):w.cell? ⟨b,p+j,none⟩=some v:=by
 rw[cell_of_row w b (p+j) cur e (0,0) hh]
 rw[List.getElem?_take]at h
 split at h
 ·rw[List.getElem?_drop]at h
  simpa using h
 ·cases h
theorem zne{ops:Array Oper}{rest:List Oper}{o:Oper}{a:Act}{w:World}{Q:Exit->Act->World->Prop}(hgd:o.guard=none)(d s:Operand)(t t':TypeId)
  (ho:o.op= .call {callee:= .builtin .copy,args:= #[d,s],argTypes:= #[t,t']}) {v u:Value} (hd:a.eval d=v) (hs:a.eval s=u) {v':Value} {w':World}
  (hr:(Builtin.copy_ #[t,t'] o.type #[v,u]).run P w= .ok v' w') (h:wpList P ops Q rest (a.put o.dst v') w'):wpList P ops Q (o::rest) a w:=
 wpList_plain hgd λK hK=>by
  unfold Oper.wp execOp
  simp only[ho,resolve,invoke,builtin,Sem.run_bind,Sem.run_pure,Result.andThen_ok,List.map_toArray,List.map_cons,List.map_nil,hd,hs,hr]
  exact hK _ _ h
theorem zqn{ops:Array Oper}{o:Oper}{a:Act}{w:World}{K:Act->World->Prop}{Q:Exit->Act->World->Prop}{E:Prop}
  (hg:o.guard=none) (d x:Operand) (dT sT:TypeId) (hop:o.op=Op.call {callee:=Callee.builtin Builtin.copy,args:= #[d,x],argTypes:= #[dT,sT]})
  (v u:Value) (hd:a.eval d=v) (hx:a.eval x=u) {v':Value} {w':World} (hr:(Builtin.copy_ #[dT,sT] o.type #[v,u]).run P w= .ok v' w') (hK:K (a.put o.dst v') w'):
  if Region.wanted o (yielded ops a.tmps)=true then Oper.wp P o a w K Q else E:=by
 have hw:Region.wanted o (yielded ops a.tmps)=true:=by simp[Region.wanted,hg]
 rw[if_pos hw]
 unfold Oper.wp
 simp[execOp,hop,resolve,invoke,builtin,hd,hx,hr,Result.andThen]
 exact hK
end
theorem zb4b{α:Type}(L vs:List α)(p q:Nat)(hv:vs.length=2)(hl:p+2+q<=L.length):
  ((L.take (p+2)++(L.drop p).take q++L.drop (p+2+q)).take p++vs++(L.take (p+2)++(L.drop p).take q++L.drop (p+2+q)).drop (p+2)).take (p+2+q)=(L.take (p+q)).take p++vs++(L.take (p+q)).drop p:=by
 have h1:(L.take (p+2)).length=p+2:=by rw[List.length_take];omega
 have h2:((L.drop p).take q).length=q:=by rw[List.length_take,List.length_drop];omega
 have e1:(L.take (p+2)++(L.drop p).take q++L.drop (p+2+q)).take p=L.take p:=by
  rw[List.append_assoc,List.take_append_of_le_length (by omega),List.take_take,Nat.min_eq_left (by omega)]
 have e2:(L.take (p+2)++(L.drop p).take q++L.drop (p+2+q)).drop (p+2)=(L.drop p).take q++L.drop (p+2+q):=by
  rw[List.append_assoc]
  exact List.drop_left' h1
 rw[e1,e2,List.take_take,Nat.min_eq_left (by omega),List.drop_take,Nat.add_sub_cancel_left]
 rw[<-List.append_assoc]
 have h3:(L.take p++vs++(L.drop p).take q).length=p+2+q:=by rw[List.length_append,List.length_append,h2,hv,List.length_take];omega
 exact List.take_left' h3
def znk(w:World)(ob:Option Nat)(n:Nat)(ys:List Value)(e:Ending)(w':World):Prop:=
 ∃b cap cur,e= .returned (.slice (some ⟨b,0,none⟩) (n+1) cap)/\w'.heap[b]?=some (.cells cur 79 (0,0))/\n+1<=cap/\cap<=maxLen/\cur.size=cap*2/\
  cur.toList.take ((n+1)*2)=ys/\w.grownBy w' ob/\(ob=some b\/b=w.heap.size)
theorem zpl: ∃i z,Tryz.prog.info? 79=some i/\i.size=2/\i.bytes=32/\i.zero=some z/\z.cells.size=2:=by
 obtain⟨q,hq⟩:=Tab_ok.get (t:=79) rfl
 obtain⟨i,hi,h1,h2,z,hz,hzc⟩:=q.info
 exact⟨i,z,hi,h1,h2,hz,by rw[<-Array.length_toList,hzc];rfl⟩
theorem zmh:(Tryz.prog.info? 79).map (·.size)=some 2:=by
 obtain⟨i,z,hi,h1,_⟩:=zpl
 rw[hi];simp[h1]
theorem z2a(w:World):(Go.sizeOf 79).run Tryz.prog w= .ok 2 w:=by
 obtain⟨q,hq⟩:=Tab_ok.get (t:=79) rfl
 exact zel q hq
set_option maxHeartbeats 4000000 in
set_option maxRecDepth 100000 in
theorem z85(b n c i vb vc:Nat)(cur vcur:Array Value)(tv:TypeId)(vs:List Value)(w:World)(hi:i<n)(hroom:n+1<=c)(hc63:c<=9223372036854775807)(hvb:vb≠b)
  (hh:w.heap[b]?=some (.cells cur 79 (0,0))) (hcs:cur.size=c*2) (hv:w.heap[vb]?=some (.cells vcur tv (0,0))) (hvs:vcur.toList.take 2=vs) (hvl:vs.length=2)
  (h1c: ∀v∈cur.toList.take (n*2),v.oneCell'=true) (h1v: ∀v∈vs,v.oneCell'=true) (ys:List Value) (hys:ys=(cur.toList.take (n*2)).take (i*2)++vs++(cur.toList.take (n*2)).drop (i*2)):
  Calls Tryz.prog 108 #[.slice (some ⟨b,0,none⟩) n c, .int .i64 i, .slice (some ⟨vb,0,none⟩) 1 vc] w
   (znk w (some b) n ys):=by
 have hz2: ¬((i:Int)=(n:Int)):=by omega
 have hov: ∀lb cb,(callFunc 145 #[.slice (some ⟨vb,0,none⟩) 1 vc, .slice (some ⟨b,(i+1)*2,none⟩) lb cb]).run Tryz.prog w= .ok (.value (.bool false)) w:=λlb cb=>by
  rw[run_callFunc_extern Tryz.func145 (by kernel_rfl) (by kernel_rfl) (by kernel_rfl) (e:=Extern.SlicesOverlaps.overlaps #[23,23] #[4]) (by kernel_rfl),
   Lib.run_overlaps_apart w 23 4 79 Tryz.underlying23 2 z2a ⟨vb,0,none⟩ ⟨b,(i+1)*2,none⟩ 1 vc lb cb hvb tv 79 vcur.size cur.size (by simp[World.shape?,hv]) (by simp[World.shape?,hh]) (by omega) (by simp[World.frozen?,hv]) (by simp[World.frozen?,hv])]
  rfl
 have hw1:IntKind.i64.wrap ((i:Int)+1)=(i:Int)+1:=by rw[IntKind.wrap_i64];omega
 have hb1:(0:Int)<=(i:Int)+1:=by omega
 have hin:i<=n:=by omega
 have htn:((i:Int)+1).toNat=i+1:=by omega
 have hb2: ¬(c=i+1):=by omega
 have hb3:(i:Int)<=(n:Int)+1:=by omega
 have hb4: ¬(c=i):=by omega
 obtain⟨cs,hcs0⟩: ∃cs,cs=(cur.toList.drop (i*2)).take ((n-i)*2):=⟨_,rfl⟩
 have hcl:cs.length=(n-i)*2:=by rw[hcs0,List.length_take,List.length_drop,Array.length_toList];omega
 have h1: ∀v∈cs,v.oneCell'=true:=λv hv=>by
  refine h1c v ?_
  rw[hcs0,<-Nat.add_sub_cancel_left (n:=i*2) (m:=(n-i)*2),<-List.drop_take,show i*2+(n-i)*2=n*2 by omega]at hv
  exact List.mem_of_mem_drop hv
 obtain⟨cur1,hc1⟩: ∃cur1,cur1=(cur.toList.take ((i+1)*2)++cs++cur.toList.drop ((i+1)*2+cs.length)).toArray:=⟨_,rfl⟩
 have hcp1: ∀ty dc sc,(Builtin.copy_ #[23,23] ty #[.slice (some ⟨b,(i+1)*2,none⟩) (n-i) dc, .slice (some ⟨b,i*2,none⟩) (n+1-i) sc]).run Tryz.prog w.drew= .ok (goInt ((n-i:Nat):Int)) (w.drew.setRow b cur1):=λty dc sc=>by
  rw[hc1]
  exact zhj w.drew 23 23 ty 79 2 b ((i+1)*2) (n-i) dc ⟨b,i*2,none⟩ (n+1-i) sc (n-i) cur 79 cs Tryz.underlying23 zmh hh
   (by simp only[Nat.min_def];split<;>omega) hcl (λj v hj=>by rw[Addr.add_lit];rw[hcs0]at hj;exact znd (w:=w.drew) hh hj) (by omega) h1
 obtain⟨W1,hW1⟩: ∃W1,W1=w.drew.setRow b cur1:=⟨_,rfl⟩
 have hr1:W1.heap[b]?=some (.cells cur1 79 (0,0)):=by rw[hW1];exact setRow_heap w.drew b cur cur1 _ (0,0) hh
 have hr2:W1.heap[vb]?=some (.cells vcur tv (0,0)):=by rw[hW1,setRow_other w.drew b vb cur1 hvb];exact hv
 have hcz:cur1.size=cur.size:=by
  rw[hc1]
  simp only[List.size_toArray,List.length_append,List.length_take,List.length_drop,Array.length_toList,hcl]
  omega
 obtain⟨cur2,hc2⟩: ∃cur2,cur2=(cur1.toList.take (i*2)++vs++cur1.toList.drop (i*2+vs.length)).toArray:=⟨_,rfl⟩
 have hcp2: ∀(W:World),W.heap=W1.heap->∀ty dc,(Builtin.copy_ #[23,23] ty #[.slice (some ⟨b,i*2,none⟩) (n+1-i) dc, .slice (some ⟨vb,0,none⟩) 1 vc]).run Tryz.prog W= .ok (goInt 1) (W.setRow b cur2):=λW hW ty dc=>by
  rw[hc2]
  exact zhj W 23 23 ty 79 2 b (i*2) (n+1-i) dc ⟨vb,0,none⟩ 1 vc 1 cur1 79 vs Tryz.underlying23 zmh (by rw[hW];exact hr1)
   (by simp only[Nat.min_def];split<;>omega) hvl (λj v hj=>by
    rw[Addr.add_lit]
    rw[<-hvs]at hj
    exact znd (w:=W) (p:=0) (n:=2) (by rw[hW];exact hr2) (by simpa using hj)) (by omega) h1v
 rw[<-hW1]at hcp1
 have hfin: ∀W:World,W.heap=W1.heap->W.os=w.os->W.tape=w.tape->W.output=w.output->znk w (some b) n ys (.returned (.slice (some ⟨b,0,none⟩) (n+1) c)) (W.setRow b cur2):=λW hW e1 e2 e3=>by
  have hlen:i*2<=cur.toList.length:=by rw[Array.length_toList];omega
  refine⟨b,c,cur2,rfl,setRow_heap W b cur1 cur2 _ (0,0) (by rw[hW];exact hr1),hroom,by unfold maxLen;omega,?_,?_,⟨by simpa[World.setRow]using e1,by simpa[World.setRow]using e2,by simpa[World.setRow]using e3,?_,λx hx hne=>?_⟩, .inl rfl⟩
  ·rw[hc2]
   simp only[List.size_toArray,List.length_append,List.length_take,List.length_drop,Array.length_toList,hcz,hvl]
   omega
  ·rw[hys,hc2,List.toList_toArray,hc1,List.toList_toArray,hcs0]
   have:=zb4b cur.toList vs (i*2) ((n-i)*2) hvl (by rw[Array.length_toList];omega)
   rw[show(i+1)*2=i*2+2 by omega,hvl,show(n+1)*2=i*2+2+(n-i)*2 by omega,show n*2=i*2+(n-i)*2 by omega]
   rw[show((cur.toList.drop (i*2)).take ((n-i)*2)).length=(n-i)*2 by rw[<-hcs0];exact hcl]
   exact this
  ·simp only[World.setRow,Array.size_modify,hW,hW1]
   exact Nat.le_refl _
  ·have hxb:x≠b:=λe=>hne (by rw[e])
   rw[setRow_other W b x cur2 hxb,hW,hW1,setRow_other w.drew b x cur1 hxb]
   rfl
 have hmixed:Tryz.prog.follows .mixedOrders=true:=mixed
 clear hys h1 hc2 hcz hc1 hcs0 hcl
 go_enter Tryz.func108,Tryz.ntmps108
 go_wp2_with (simp only[hov])
 go_region_law_o (refine zqn rfl _ _ 23 23 rfl _ _ (by simp[Act.eval,Act.put]) (by simp[Act.eval,Act.put]) (hcp1 _ _ _) ?_)
 go_wp2_with (at_builtin;refine zne rfl _ _ 23 23 rfl rfl rfl (hcp2 _ rfl _ _) ?_)
 go_ret
 exact hfin _ (by rw[hW1]) rfl rfl rfl
set_option maxHeartbeats 4000000 in
set_option maxRecDepth 100000 in
theorem zdzb(base:Option Addr)(n c vb vc:Nat)(w w1:World)(v:Value)(hnc:n<=c)(hc63:c<=9223372036854775807)(h0:base=none->n=0/\c=0)
  (hr:(Builtin.append_ #[23,23] 23 #[.slice base n c, .slice (some ⟨vb,0,none⟩) 1 vc]).run Tryz.prog w= .ok v w1):
  Calls Tryz.prog 108 #[.slice base n c, .int .i64 n, .slice (some ⟨vb,0,none⟩) 1 vc] w λe w'=>e= .returned v/\w'=w1:=by
 cases base with
 |none=>
  obtain⟨rfl,rfl⟩:=h0 rfl
  clear h0
  go_enter Tryz.func108,Tryz.ntmps108
  go_wp2_with (at_builtin;refine Go.Proofs.YtpdllgbfemnemaaGreat.wpList_appRun rfl _ _ _ _ rfl rfl rfl hr ?_)
  go_ret
  exact⟨rfl,rfl⟩
 |some a=>
  clear h0
  obtain⟨ab,ao,asp⟩:=a
  go_enter Tryz.func108,Tryz.ntmps108
  go_wp2_with (at_builtin;refine Go.Proofs.YtpdllgbfemnemaaGreat.wpList_appRun rfl _ _ _ _ rfl rfl rfl hr ?_)
  all_goals (go_ret;exact⟨rfl,rfl⟩)
set_option maxHeartbeats 4000000 in
set_option maxRecDepth 100000 in
theorem zbzb(b n i vb vc:Nat)(cur vcur:Array Value)(tv:TypeId)(vs:List Value)(w:World)(hi:i<n)(hbig:(n+1)*32<=140737488355328)(c:Nat)(hnc:n<=c)(hroom:c<n+1)
  (hh:w.heap[b]?=some (.cells cur 79 (0,0))) (hcs:cur.size=c*2) (hv:w.heap[vb]?=some (.cells vcur tv (0,0))) (hvs:vcur.toList.take 2=vs) (hvl:vs.length=2)
  (h1c: ∀v∈cur.toList.take (n*2),v.oneCell'=true) (h1v: ∀v∈vs,v.oneCell'=true) (ys:List Value) (hys:ys=(cur.toList.take (n*2)).take (i*2)++vs++(cur.toList.take (n*2)).drop (i*2)):
  Calls Tryz.prog 108 #[.slice (some ⟨b,0,none⟩) n c, .int .i64 i, .slice (some ⟨vb,0,none⟩) 1 vc] w
   (znk w (some b) n ys):=by
 have hz2: ¬((i:Int)=(n:Int)):=by omega
 have hz3:(c:Int)< (n:Int)+1:=by omega
 obtain⟨i0,z,hi0,hzs,hzb,hz0,hzc⟩:=zpl
 have hbw:b<w.heap.size:=(Array.getElem?_eq_some_iff.1 hh).1
 have hvw:vb<w.heap.size:=(Array.getElem?_eq_some_iff.1 hv).1
 have hkk:(n:Int)+1-(i:Int)=((n+1-i:Nat):Int):=by omega
 have hik:i+(n+1-i)=n+1:=by omega
 obtain⟨os,hos⟩: ∃os,os=cur.toList.take (i*2):=⟨_,rfl⟩
 have hol:os.length=i*2:=by rw[hos,List.length_take,Array.length_toList];omega
 have hold:(Builtin.firstCells i0.size i (.slice (some ⟨b,0,none⟩) i c)).run Tryz.prog w.drew= .ok os.toArray w.drew:=by
  rw[hzs]
  exact run_firstCells_some w.drew 2 i ⟨b,0,none⟩ i c os hol (λj v hj=>by
   rw[Addr.add_lit]
   rw[hos]at hj
   exact znd (w:=w.drew) (p:=0) (n:=i*2) hh (by simpa using hj))
 obtain⟨G,hG⟩: ∃G,G=grownCap w (n+1) c 79:=⟨_,rfl⟩
 have hGn:n+1<=G:=by rw[hG];exact grownCap_ge w _ _ _
 have hG64:G<=maxLen:=by
  rw[hG];exact grownCap_le_maxLen w (n+1) c 79 (by unfold maxLen;omega)
 have hG63:G<=9223372036854775807:=by unfold maxLen at hG64;omega
 obtain⟨ROW,hROW⟩: ∃ROW:Array Value,ROW=os.toArray++Builtin.zeroCells z.cells (n+1-i)++Builtin.zeroCells z.cells (G-(n+1)):=⟨_,rfl⟩
 have hrz: ∀ty,(Builtin.append_ #[23,3] ty #[.slice (some ⟨b,0,none⟩) i c, .int .i64 ((n:Int)+1-(i:Int))]).run Tryz.prog w=
   .ok (.slice (some ⟨w.heap.size,0,none⟩) (n+1) G) (w.drew.alloc (.cells ROW 79)):=λty=>by
  have h:=Lib.run_append_grow_zeros w 23 3 ty 79 i0 z .i64 .i64 Tryz.underlying23 Tryz.underlying3 hi0 hz0 (some ⟨b,0,none⟩) i c os hold (n+1-i) (by omega) (by omega) (by omega) (by omega) (by rw[hzb];omega) (by rw[hzb,hik];exact growslice_fits hroom hbig)
  rw[hik]at h
  rw[hkk,hROW,hG]
  exact h
 have hRl:ROW.size=G*2:=by
  rw[hROW]
  simp only[Array.size_append,List.size_toArray,size_zeroCells,hzc,hol]
  omega
 obtain⟨W1,hW1⟩: ∃W1,W1=w.drew.alloc (.cells ROW 79):=⟨_,rfl⟩
 rw[<-hW1]at hrz
 obtain⟨N,hN⟩: ∃N,N=w.heap.size:=⟨_,rfl⟩
 rw[<-hN]at hrz hbw hvw
 have hr1:W1.heap[N]?=some (.cells ROW 79 (0,0)):=by rw[hW1,hN];exact heap_alloc_new w.drew _
 have hrest: ∀x,x<N->W1.heap[x]?=w.heap[x]?:=λx hx=>by rw[hW1];exact Below.heap_alloc w.drew _ x (by rw[hN]at hx;exact hx)
 have hsz1:W1.heap.size=N+1:=by rw[hW1,hN];simp
 obtain⟨cs,hcs0⟩: ∃cs,cs=(cur.toList.drop (i*2)).take ((n-i)*2):=⟨_,rfl⟩
 have hcl:cs.length=(n-i)*2:=by rw[hcs0,List.length_take,List.length_drop,Array.length_toList];omega
 have h1: ∀v∈cs,v.oneCell'=true:=λv hv=>by
  refine h1c v ?_
  rw[hcs0,<-Nat.add_sub_cancel_left (n:=i*2) (m:=(n-i)*2),<-List.drop_take,show i*2+(n-i)*2=n*2 by omega]at hv
  exact List.mem_of_mem_drop hv
 obtain⟨R1,hR1⟩: ∃R1,R1=(ROW.toList.take (i*2)++vs++ROW.toList.drop (i*2+vs.length)).toArray:=⟨_,rfl⟩
 have hR1s:R1.size=G*2:=by
  rw[hR1]
  simp only[List.size_toArray,List.length_append,List.length_take,List.length_drop,Array.length_toList,hRl,hvl]
  omega
 obtain⟨R2,hR2⟩: ∃R2,R2=(R1.toList.take ((i+1)*2)++cs++R1.toList.drop ((i+1)*2+cs.length)).toArray:=⟨_,rfl⟩
 have hcpA: ∀(W:World),W.heap=W1.heap->∀ty dc,(Builtin.copy_ #[23,23] ty #[.slice (some ⟨N,i*2,none⟩) (n+1-i) dc, .slice (some ⟨vb,0,none⟩) 1 vc]).run Tryz.prog W= .ok (goInt 1) (W.setRow N R1):=λW hW ty dc=>by
  rw[hR1]
  exact zhj W 23 23 ty 79 2 N (i*2) (n+1-i) dc ⟨vb,0,none⟩ 1 vc 1 ROW 79 vs Tryz.underlying23 zmh (by rw[hW];exact hr1)
   (by simp only[Nat.min_def];split<;>omega) hvl (λj v hj=>by
    rw[Addr.add_lit]
    rw[<-hvs]at hj
    exact znd (w:=W) (p:=0) (n:=2) (by rw[hW,hrest vb hvw];exact hv) (by simpa using hj)) (by omega) h1v
 have hcpB: ∀(W:World),W.heap=(W1.setRow N R1).heap->∀ty dc sc,(Builtin.copy_ #[23,23] ty #[.slice (some ⟨N,(i+1)*2,none⟩) (n-i) dc, .slice (some ⟨b,i*2,none⟩) (n-i) sc]).run Tryz.prog W= .ok (goInt ((n-i:Nat):Int)) (W.setRow N R2):=λW hW ty dc sc=>by
  rw[hR2]
  exact zhj W 23 23 ty 79 2 N ((i+1)*2) (n-i) dc ⟨b,i*2,none⟩ (n-i) sc (n-i) R1 79 cs Tryz.underlying23 zmh (by rw[hW];exact setRow_heap W1 N ROW R1 _ (0,0) hr1)
   (by simp only[Nat.min_def];split<;>omega) hcl (λj v hj=>by
    rw[Addr.add_lit]
    rw[hcs0]at hj
    exact znd (w:=W) (by rw[hW,setRow_other W1 N b R1 (by omega),hrest b hbw];exact hh) hj) (by omega) h1
 have hfin: ∀W:World,W.heap=(W1.setRow N R1).heap->W.os=w.os->W.tape=w.tape->W.output=w.output->znk w (some b) n ys (.returned (.slice (some ⟨N,0,none⟩) (n+1) G)) (W.setRow N R2):=λW hW e1 e2 e3=>by
  refine⟨N,G,R2,rfl,setRow_heap W N R1 R2 _ (0,0) (by rw[hW];exact setRow_heap W1 N ROW R1 _ (0,0) hr1),hGn,hG64,?_,?_,⟨by simpa[World.setRow]using e1,by simpa[World.setRow]using e2,by simpa[World.setRow]using e3,?_,λx hx hne=>?_⟩, .inr hN⟩
  ·rw[hR2]
   simp only[List.size_toArray,List.length_append,List.length_take,List.length_drop,Array.length_toList,hR1s,hcl]
   omega
  ·rw[hys,hR2,List.toList_toArray,hR1,List.toList_toArray,hcl,hvl]
   have e3:ROW.toList.take (i*2)=os:=by
    rw[hROW,Array.toList_append,Array.toList_append,List.append_assoc]
    exact List.take_left' hol
   rw[e3]
   have e4:(os++vs++ROW.toList.drop (i*2+2)).take ((i+1)*2)=os++vs:=List.take_left' (by rw[List.length_append,hol,hvl];omega)
   rw[e4,List.take_left' (by rw[List.length_append,List.length_append,hol,hvl,hcl];omega),hos,hcs0]
   rw[List.take_take,Nat.min_eq_left (by omega),show n*2=i*2+(n-i)*2 by omega,List.drop_take,Nat.add_sub_cancel_left]
  ·simp only[World.setRow,Array.size_modify,hW,hsz1,hN]
   omega
  ·have hx':x<N:=by rw[hN];exact hx
   rw[setRow_other W N x R2 (by omega),hW,setRow_other W1 N x R1 (by omega),hrest x hx']
 have hw1:IntKind.i64.wrap ((i:Int)+1)=(i:Int)+1:=by rw[IntKind.wrap_i64];omega
 have hb1:(0:Int)<=(i:Int)+1:=by omega
 have hin:i<=n:=by omega
 have htn:((i:Int)+1).toNat=i+1:=by omega
 have hb3:(i:Int)<=(n:Int):=by omega
 have hGi: ¬(G=i):=by omega
 have hGim: ¬(G=i+1):=by omega
 have hci: ¬(c=i):=by omega
 have hmixed:Tryz.prog.follows .mixedOrders=true:=mixed
 have q1:W1.os=w.os:=by rw[hW1];rfl
 have q2:W1.tape=w.tape:=by rw[hW1];rfl
 have q3:W1.output=w.output:=by rw[hW1];rfl
 clear hW1 hN hrest hsz1 hkk hik hold hROW hG hRl hys h1 hR1 hR2 hR1s hcs0 hcl hos hol
 go_enter Tryz.func108,Tryz.ntmps108
 go_wp2_with (first
  |(at_builtin;refine Go.Proofs.YtpdllgbfemnemaaGreat.wpList_appRun rfl _ _ _ _ rfl rfl rfl (hrz _) ?_)
  |(at_builtin;refine zne rfl _ _ 23 23 rfl rfl rfl (hcpA _ rfl _ _) ?_))
 go_region_law_o (refine zqn rfl _ _ 23 23 rfl (.slice (some ⟨N,(i+1)*2,none⟩) (n-i) (G-(i+1))) (.slice (some ⟨b,i*2,none⟩) (n-i) (c-i)) (by simp[Act.eval,Act.put]) (by simp[Act.eval,Act.put]) (hcpB (W1.setRow N R1).drew rfl 3 (G-(i+1)) (c-i)) ?_)
 go_wp2
 go_ret
 exact hfin _ rfl q1 q2 q3
end
section
def z0u(w:World)(k:Kp)(ob:Option Nat)(m:Nat)(out:List RV)(e:Ending)(w':World):Prop:=
 ∃v,e= .returned v/\Keep ob.toList w w'/\∃k':Kp,(∀b,b<w.heap.size->some b≠ob->k' b=k b)/\∃ob',chAt w' k' 79 2 m out false v ob'/\∀b,ob'=some b->(w.heap.size<=b\/ob=some b)/\b<w'.heap.size
theorem zpt{w:World}{k:Kp}{ob:Option Nat}{n:Nat}{ys:List Value}{out:List RV}{e:Ending}{w':World}(h:znk w ob n ys e w')(hl:RV.listAt w k out ys)(hol:out.length=(n+1)*2)(hk: ∀b,ob=some b->k b=0):
  z0u w k ob (n+1) out e w':=by
 obtain⟨b,cap,cur,rfl,hh,h1,h2,h3,h4,hg,hb⟩:=h
 have hbs:b<w'.heap.size:=(Array.getElem?_eq_some_iff.1 hh).1
 have hkk: ∀x,x<w.heap.size->some x≠ob->kset k b 0 x=k x:=λx hx hne=>by
  have:x≠b:=by
   rcases hb with h |h
   ·exactλe=>hne (by rw[h,e])
   ·omega
  simp[kset,this]
 have hw:Wrote w k w' (kset k b 0) ob:=by
  refine⟨hg.os,hg.tape,hg.output,hg.size,λx hx hne=>⟨hg.block x hx hne,hkk x hx hne⟩,λx hx=>?_⟩
  have hk0:=hk x hx.symm
  exact⟨by omega,λo ho=>by omega,λh=>by omega⟩
 refine⟨_,rfl,⟨hg.os,hg.tape,hg.output,hg.size,λx hx hne=>hg.block x hx λe=>hne (by rw[<-e];simp)⟩,kset k b 0,hkk,some b,⟨hol, .inr ⟨b,cap,cur,rfl,rfl,hh,h1,h2,h3,by simp[zc1],?_⟩⟩,λx hx=>?_⟩
 ·rw[h4]
  exact RV.list_mono hw.le _ _ hl
 ·cases hx
  exact⟨hb.symm.imp (λh=>Nat.le_of_eq h.symm) λh=>h,hbs⟩
theorem zc0b{w:World}{k:Kp}{n i:Nat}{cells cells2:List RV}{u uv:Value}{ob ob2:Option Nat}(hch:chAt w k 79 2 n cells false u ob)(hch2:chAt w k 79 2 1 cells2 false uv ob2)
  (hap: ∀b,ob=some b->ob2≠some b) (hi:i<=n) (hn:n<=1000000000000):
  Calls Tryz.prog 108 #[u, .int .i64 (i:Int),uv] w (z0u w k ob (n+1) (cells.take (i*2)++cells2++cells.drop (i*2))):=by
 obtain⟨hcl,hch'⟩:=id hch
 obtain⟨hcl2,hch2⟩:=hch2
 rcases hch2 with⟨_,⟨h,_⟩ |⟨_,h,_⟩⟩ |⟨vb,vc,vcur,rfl,rfl,hv,hv1,hv2,hv3,hv4,hv5⟩
 ·omega
 ·cases h
 have hvl:(vcur.toList.take (1*2)).length=2:=by rw[List.length_take,Array.length_toList];omega
 have hone: ∀{fs:List RV} {us:List Value},RV.listAt w k fs us->∀v∈us,v.oneCell'=true:=λ{fs us} h v hm=>by
  rw[RV.listAt_iff]at h
  obtain⟨j,hj⟩:=List.getElem?_of_mem hm
  have hjl:j<fs.length:=by rw[<-h.1];exact(List.getElem?_eq_some_iff.1 hj).1
  exact(h.2 j _ v (List.getElem?_eq_getElem hjl) hj).1
 have hk0: ∀b,ob=some b->k b=0:=λb hb=>by
  have:=(hch.blk hb).1
  simpa using this
 have hol:(cells.take (i*2)++cells2++cells.drop (i*2)).length=(n+1)*2:=by
  simp only[List.length_append,List.length_take,List.length_drop,hcl,hcl2]
  omega
 by_cases hin:i=n
 ·subst hin
  obtain⟨i0,z,hi0,hzs,hzb,hz0,hzc⟩:=zpl
  obtain⟨xs,b,cap,cur,w',hrun,hxs,hh,h1,h2,h3,h4,hgr,hbb,hb0⟩:=z3g (ty:=23) (qb:=vb) (qo:=0) (m:=1) (c:=vc) (news:=vcur.toList.take (1*2)) Tryz.underlying23 hi0 hz0 hzs hzb hzc hch hvl
   (λj u hj=>znd (p:=0) (n:=1*2) hv (by simpa using hj)) (hone hv5) (by omega) (by unfold maxLen;omega) (by omega)
  have hxl:xs.length=i*2:=(zcd hxs).trans hcl
  have hout:RV.listAt w k (cells.take (i*2)++cells2++cells.drop (i*2)) (xs++vcur.toList.take (1*2)):=by
   rw[List.take_of_length_le (by omega),List.drop_eq_nil_of_le (by omega),List.append_nil]
   exact zcf hxs hv5
  have hpost: ∀(base:Option Addr) (c:Nat),u= .slice base i c->i<=c->c<=maxLen->(base=none->i=0/\c=0)->Calls Tryz.prog 108 #[u, .int .i64 (i:Int), .slice (some ⟨vb,0,none⟩) 1 vc] w (z0u w k ob (i+1) (cells.take (i*2)++cells2++cells.drop (i*2))):=λbase c hu hic hcm hb=>by
   subst hu
   refine(zdzb base i c vb vc w w' _ hic (by unfold maxLen at hcm;omega) hb hrun).mono ?_
   rintro e w'' ⟨rfl,rfl⟩
   refine zpt ⟨b,cap,cur,rfl,hh,h1,h2,h3,h4,hgr,hbb⟩ hout hol hk0
  rcases hch' with⟨_,⟨rfl,p,rfl⟩ |⟨_,h,_⟩⟩ |⟨b,cap,cur,rfl,rfl,_,g1,g2,_⟩
  ·exact hpost p 0 rfl (Nat.le_refl _) (by unfold maxLen;omega) λ_=>⟨rfl,rfl⟩
  ·cases h
  ·exact hpost _ cap rfl g1 g2 λh=>by cases h
 ·have hlt:i<n:=by omega
  rcases hch' with⟨_,⟨h,_⟩ |⟨_,h,_⟩⟩ |⟨b,cap,cur,rfl,rfl,hh,g1,g2,g3,g4,g5⟩
  ·omega
  ·cases h
  have hne:vb≠b:=λe=>hap b rfl (by rw[e])
  have hout:RV.listAt w k (cells.take (i*2)++cells2++cells.drop (i*2)) ((cur.toList.take (n*2)).take (i*2)++vcur.toList.take (1*2)++(cur.toList.take (n*2)).drop (i*2)):=
   zcf (zcf (zf3 g5 _) hv5) (zjl g5 _)
  have hm:cap<=9223372036854775807:=by unfold maxLen at g2;omega
  by_cases hroom:n+1<=cap
  ·exact(z85 b n cap i vb vc cur vcur _ _ w hlt hroom hm hne hh g3 hv rfl hvl (hone g5) (hone hv5) _ rfl).mono λe w' h=>zpt h hout hol hk0
  ·exact(zbzb b n i vb vc cur vcur _ _ w hlt (by omega) cap g1 (by omega) hh g3 hv rfl hvl (hone g5) (hone hv5) _ rfl).mono λe w' h=>zpt h hout hol hk0
theorem Vstep.ins{S:St}{o:Oper}{x y z:Operand}{ts:Array TypeId}{id id2 n i:Nat}{cells cells2:List RV}{K:St->Prop}
  (hop:o.op= .call {callee:= .value (.func 108),args:= #[x,y,z],argTypes:=ts}) (hx:opr S x=some (.own id)) (ho:oget S.O id=some (.ch 79 2 n cells false))
  (hy:opr S y=some (.r (.i .i64 (i:Int)))) (hz:opr S z=some (.own id2)) (ho2:oget S.O id2=some (.ch 79 2 1 cells2 false)) (hne:id≠id2) (hi:i<=n) (hn:n<=1000000000000)
  (hK:newK (S.set id none) o.dst (.own S.nx) (some (.ch 79 2 (n+1) (cells.take (i*2)++cells2++cells.drop (i*2)) false)) K):Vstep Tryz.prog S o K:=by
 rw[zci]at hK
 refine Vstep.one (λB N a w k Q ⟨g,hs⟩ hd=>?_) hK
 have hxv:=(zak hs hx).2
 have hyv:=(zak hs hy).2
 have hzv:=(zak hs hz).2
 simp only[TF.at_,RV.at_]at hxv hyv hzv
 obtain⟨q1,q2,q3,q4⟩:=hs.owns id _ ho
 obtain⟨r1,r2,r3,r4⟩:=hs.owns id2 _ ho2
 simp only[Ow.at_]at q3 r3
 obtain⟨fn,c,hf,hb,hnm⟩:zks Tryz.prog 108:=za8 Tryz.func108 rfl (by kernel_rfl)
 unfold Oper.wp
 rw[show(execOp a.eval o).run Tryz.prog w=(callFunc 108 #[a.eval x,a.eval y,a.eval z]).run Tryz.prog w by simp[execOp,hop,resolve,Deferred.ofValue,invoke,Act.eval],zgp hf hb hnm]
 simp only[Oper.upon]
 rw[hxv,hyv,hzv]
 refine(zc0b q3 r3 (λb hb=>hs.apart id id2 _ _ b ho ho2 hne hb) hi hn).mono ?_
 rintro en w' ⟨v,rfl,hkeep,k',hk',ob',hch,hob⟩
 simp only
 have hw:Wrote w k w' k' (g id).2:=by
  refine⟨hkeep.os,hkeep.tape,hkeep.output,hkeep.size,λb hb hne=>⟨hkeep.block b hb (λhm=>hne ?_),hk' b hb hne⟩,λb hb=>?_⟩
  ·rw[Option.mem_toList]at hm;exact hm.symm
  ·have hkb:=(q3.blk hb.symm).1
   simp only[Bool.false_eq_true,if_false]at hkb
   exact⟨by omega,λo' ho'=>by omega,λh=>by omega⟩
 have h1:=hs.wrote hw (id:=some id) ⟨⟨_,ho⟩,rfl⟩
 refine⟨k',_,h1.adopt hd (o:= .ch 79 2 (n+1) _ false) (vb:=(v,ob')) trivial hch (λb hb=>⟨?_,(hob b hb).2⟩) λi o' b hi hb hgi=>?_⟩
 ·rcases(hob b hb).1 with h |h
  ·left;have:=hs.keep.size;omega
  ·exact(q4 b h).1
 ·rcases zav hi with⟨_,e'⟩ |⟨hne,hi⟩
  ·cases e'
  ·rcases(hob b hb).1 with h |h
   ·have:=((hs.owns i o' hi).2.2.2 b hgi).2;omega
   ·exact hs.apart id i _ o' b ho hi hne h hgi
end
section
def lOff:Nat->Nat
 |0=>0 |1=>1 |2=>2 |3=>4 |_=>5
def zyu(b:Nat):Array Value:= #[.pointer (some ⟨b,0,none⟩), .pointer (some ⟨b,1,none⟩), .pointer (some ⟨b,2,none⟩), .pointer (some ⟨b,4,none⟩), .pointer (some ⟨b,5,none⟩)]
def zggb(l:Leaf)(w:World)(k:Kp)(t:Value)(wr:World):Prop:=
 ∃(j:Nat) (k':Kp) (cur z:Array Value) (e e2 e3:TypeId),t= .int .i64 j/\j<=5/\Go.Proofs.YtpdllgbfemnemaaGreat.Ext w wr/\(∀b,b<w.heap.size->k' b=k b)/\wr.heap[w.heap.size]?=some (.cells cur e (0,0))/\k' w.heap.size=0/\k' (w.heap.size+1)=0/\
  RV.listAt wr k' l.c cur.toList/\wr.heap[w.heap.size+1]?=some (.cells z e2 (0,0))/\z.size=6/\wr.heap[w.heap.size+2]?=some (.cells (zyu w.heap.size) e3 (0,0))
theorem z0i(l:Leaf)(hl:l.fit)(w:World)(k:Kp)(us:Array Value)(hus:RV.listAt w k l.c us.toList):
  Calls Tryz.prog 143 #[.agg us] w (Ret w λw' v=>∃k':Kp,(∀b,b<w.heap.size->k' b=k b)/\(RV.ag l.c).at_ w' k' v):=by
 have hz:us.size=6:=by rw[<-Array.length_toList];exact zcd hus
 go_enter Tryz.func143,Tryz.ntmps143
 go_wp2_with fail
 go_loopw [12] (λt wr=>zggb l w k t wr) (λt _=>(5-intOf t).toNat)
 case atStart=>
  have f1: ∀o1 o2 o3:Obj,(((w.alloc o1).alloc o2).alloc o3).heap[w.heap.size]?=some o1:=λo1 o2 o3=>by
   rw[Below.heap_alloc _ _ _ (by simp;omega),Below.heap_alloc _ _ _ (by simp),heap_alloc_new]
  have f2: ∀o1 o2 o3:Obj,(((w.alloc o1).alloc o2).alloc o3).heap[w.heap.size+1]?=some o2:=λo1 o2 o3=>by
   rw[Below.heap_alloc _ _ _ (by simp)]
   have:=heap_alloc_new (w.alloc o1) o2
   rwa[zn2]at this
  have f3: ∀o1 o2 o3:Obj,(((w.alloc o1).alloc o2).alloc o3).heap[w.heap.size+2]?=some o3:=λo1 o2 o3=>by
   have:=heap_alloc_new ((w.alloc o1).alloc o2) o3
   rwa[zn2,zn2]at this
  have hx:Go.Proofs.YtpdllgbfemnemaaGreat.Ext w (((w.alloc (.cells us 56)).alloc (.cells #[.slice none 0 0, .slice none 0 0, .slice none 0 0, .int .u8 0, .slice none 0 0, .slice none 0 0] 56)).alloc (.cells (zyu w.heap.size) 188)):=(by(repeat (first |exact Ext.refl _ |refine Ext.drew ?_ |refine Ext.drewN ?_ _ |refine Ext.alloc ?_ _ |(refine Ext.setCell ?_ (by first |omega |(simp;done) |(simp;omega)) _) |refine Ext.trans ?_ (by assumption))))
  have ko: ∀b,b<w.heap.size->kset (kset k w.heap.size 0) (w.heap.size+1) 0 b=k b:=λb hb=>by rw[zdw b (by omega),zdw b hb]
  exact⟨0,kset (kset k w.heap.size 0) (w.heap.size+1) 0,us,_,_,_,_,rfl,by omega,hx,ko,f1 _ _ _,by rw[zdw _ (by omega),zc1],zc1,RV.list_mono (Ext.le hx ko) _ _ hus,f2 _ _ _,rfl,f3 _ _ _⟩
 case round=>
  obtain⟨j,k',cur,z,e,e2,e3,rfl,hj,hx,hk,hc,hk0,hk1,hlist,hz2,hzs,hp⟩:=hrel
  have hcs:cur.size=6:=by rw[<-Array.length_toList];exact zcd hlist
  by_cases h5:j=5
  ·subst h5
   simp only[RV.listAt]at hlist
   obtain⟨x0,r0,q0,y0,z0,x1,r1,rfl,y1,z1,x2,r2,rfl,y2,z2,x3,r3,rfl,y3,z3,x4,r4,rfl,y4,z4,x5,r5,rfl,y5,z5,rfl⟩:=hlist
   have hcur:cur= #[x0,x1,x2,x3,x4,x5]:=by apply Array.ext';exact q0
   have c0:wr.cell? ⟨w.heap.size,0,none⟩=some x0:=by rw[cell_of_row wr _ 0 cur e (0,0) hc,hcur];rfl
   have c1:wr.cell? ⟨w.heap.size,1,none⟩=some x1:=by rw[cell_of_row wr _ 1 cur e (0,0) hc,hcur];rfl
   have c2:wr.cell? ⟨w.heap.size,2,none⟩=some x2:=by rw[cell_of_row wr _ 2 cur e (0,0) hc,hcur];rfl
   have c3:wr.cell? ⟨w.heap.size,3,none⟩=some x3:=by rw[cell_of_row wr _ 3 cur e (0,0) hc,hcur];rfl
   have c4:wr.cell? ⟨w.heap.size,4,none⟩=some x4:=by rw[cell_of_row wr _ 4 cur e (0,0) hc,hcur];rfl
   have c5:wr.cell? ⟨w.heap.size,5,none⟩=some x5:=by rw[cell_of_row wr _ 5 cur e (0,0) hc,hcur];rfl
   obtain⟨v0,v1,v2,v3,v4,v5,hzz⟩: ∃v0 v1 v2 v3 v4 v5,z= #[v0,v1,v2,v3,v4,v5]:=by
    obtain⟨L⟩:=z
    match L,hzs with
    |[a,b,c,d,e,f],_=>exact⟨a,b,c,d,e,f,rfl⟩
   have d0:wr.cell? ⟨w.heap.size+1,0,none⟩=some v0:=by rw[cell_of_row wr _ 0 z e2 (0,0) hz2,hzz];rfl
   have d1:wr.cell? ⟨w.heap.size+1,1,none⟩=some v1:=by rw[cell_of_row wr _ 1 z e2 (0,0) hz2,hzz];rfl
   have d2:wr.cell? ⟨w.heap.size+1,2,none⟩=some v2:=by rw[cell_of_row wr _ 2 z e2 (0,0) hz2,hzz];rfl
   have d3:wr.cell? ⟨w.heap.size+1,3,none⟩=some v3:=by rw[cell_of_row wr _ 3 z e2 (0,0) hz2,hzz];rfl
   have d4:wr.cell? ⟨w.heap.size+1,4,none⟩=some v4:=by rw[cell_of_row wr _ 4 z e2 (0,0) hz2,hzz];rfl
   have d5:wr.cell? ⟨w.heap.size+1,5,none⟩=some v5:=by rw[cell_of_row wr _ 5 z e2 (0,0) hz2,hzz];rfl
   have st: ∀(W:World) (i:Nat) (x old:Value),x.oneCell'=true->W.cell? ⟨w.heap.size+1,i,none⟩=some old->W.frozen? ⟨w.heap.size+1,i,none⟩=false->(store ⟨w.heap.size+1,i,none⟩ x).run Tryz.prog W= .ok () (W.setCell ⟨w.heap.size+1,i,none⟩ x):=λW i x old hx hc hf=>by
    rw[run_store Tryz.prog W _ x _ hx]
    simp[hc,hf]
   have fz: ∀j,wr.frozen? ⟨w.heap.size+1,j,none⟩=false:=λj=>by simp[World.frozen?,hz2]
   have s0:=st wr 0 x0 v0 y0 d0 (fz 0)
   have s1:=st (wr.setCell ⟨w.heap.size+1,0,none⟩ x0) 1 x1 v1 y1 (by rw[World.cell?_setCell_other _ _ _ _ (by simp)];exact d1) (by simp only[World.frozen?_setCell];exact fz 1)
   have s2:=st ((wr.setCell ⟨w.heap.size+1,0,none⟩ x0).setCell ⟨w.heap.size+1,1,none⟩ x1) 2 x2 v2 y2 (by rw[World.cell?_setCell_other _ _ _ _ (by simp),World.cell?_setCell_other _ _ _ _ (by simp)];exact d2) (by simp only[World.frozen?_setCell];exact fz 2)
   have s3:=st (((wr.setCell ⟨w.heap.size+1,0,none⟩ x0).setCell ⟨w.heap.size+1,1,none⟩ x1).setCell ⟨w.heap.size+1,2,none⟩ x2) 3 x3 v3 y3 (by rw[World.cell?_setCell_other _ _ _ _ (by simp),World.cell?_setCell_other _ _ _ _ (by simp),World.cell?_setCell_other _ _ _ _ (by simp)];exact d3) (by simp only[World.frozen?_setCell];exact fz 3)
   have s4:=st ((((wr.setCell ⟨w.heap.size+1,0,none⟩ x0).setCell ⟨w.heap.size+1,1,none⟩ x1).setCell ⟨w.heap.size+1,2,none⟩ x2).setCell ⟨w.heap.size+1,3,none⟩ x3) 4 x4 v4 y4 (by rw[World.cell?_setCell_other _ _ _ _ (by simp),World.cell?_setCell_other _ _ _ _ (by simp),World.cell?_setCell_other _ _ _ _ (by simp),World.cell?_setCell_other _ _ _ _ (by simp)];exact d4) (by simp only[World.frozen?_setCell];exact fz 4)
   have s5:=st (((((wr.setCell ⟨w.heap.size+1,0,none⟩ x0).setCell ⟨w.heap.size+1,1,none⟩ x1).setCell ⟨w.heap.size+1,2,none⟩ x2).setCell ⟨w.heap.size+1,3,none⟩ x3).setCell ⟨w.heap.size+1,4,none⟩ x4) 5 x5 v5 y5 (by rw[World.cell?_setCell_other _ _ _ _ (by simp),World.cell?_setCell_other _ _ _ _ (by simp),World.cell?_setCell_other _ _ _ _ (by simp),World.cell?_setCell_other _ _ _ _ (by simp),World.cell?_setCell_other _ _ _ _ (by simp)];exact d5) (by simp only[World.frozen?_setCell];exact fz 5)
   clear st
   obtain⟨Wf,hWf⟩: ∃Wf,Wf=wr.setRow (w.heap.size+1) #[x0,x1,x2,x3,x4,x5]:=⟨_,rfl⟩
   have hfe:(((((wr.setCell ⟨w.heap.size+1,0,none⟩ x0).setCell ⟨w.heap.size+1,1,none⟩ x1).setCell ⟨w.heap.size+1,2,none⟩ x2).setCell ⟨w.heap.size+1,3,none⟩ x3).setCell ⟨w.heap.size+1,4,none⟩ x4).setCell ⟨w.heap.size+1,5,none⟩ x5=Wf:=by
    rw[hWf,setCell_eq_setRow wr (w.heap.size+1) 0 z e2 (0,0) x0 hz2,setCell_eq_setRow _ (w.heap.size+1) 1 _ e2 (0,0) x1 (setRow_heap wr _ z _ e2 (0,0) hz2),setRow_setRow,
     setCell_eq_setRow _ (w.heap.size+1) 2 _ e2 (0,0) x2 (setRow_heap wr _ z _ e2 (0,0) hz2),setRow_setRow,setCell_eq_setRow _ (w.heap.size+1) 3 _ e2 (0,0) x3 (setRow_heap wr _ z _ e2 (0,0) hz2),setRow_setRow,
     setCell_eq_setRow _ (w.heap.size+1) 4 _ e2 (0,0) x4 (setRow_heap wr _ z _ e2 (0,0) hz2),setRow_setRow,setCell_eq_setRow _ (w.heap.size+1) 5 _ e2 (0,0) x5 (setRow_heap wr _ z _ e2 (0,0) hz2),setRow_setRow,hzz]
    rfl
   have hfh:Wf.heap[w.heap.size+1]?=some (.cells #[x0,x1,x2,x3,x4,x5] e2 (0,0)):=by rw[hWf];exact setRow_heap wr _ z _ e2 (0,0) hz2
   have e0:Wf.cell? ⟨w.heap.size+1,0,none⟩=some x0:=by rw[cell_of_row Wf _ 0 _ e2 (0,0) hfh];rfl
   have e1':Wf.cell? ⟨w.heap.size+1,1,none⟩=some x1:=by rw[cell_of_row Wf _ 1 _ e2 (0,0) hfh];rfl
   have e2':Wf.cell? ⟨w.heap.size+1,2,none⟩=some x2:=by rw[cell_of_row Wf _ 2 _ e2 (0,0) hfh];rfl
   have e3':Wf.cell? ⟨w.heap.size+1,3,none⟩=some x3:=by rw[cell_of_row Wf _ 3 _ e2 (0,0) hfh];rfl
   have e4':Wf.cell? ⟨w.heap.size+1,4,none⟩=some x4:=by rw[cell_of_row Wf _ 4 _ e2 (0,0) hfh];rfl
   have e5':Wf.cell? ⟨w.heap.size+1,5,none⟩=some x5:=by rw[cell_of_row Wf _ 5 _ e2 (0,0) hfh];rfl
   have hle:Le wr k' Wf k':=by
    refine(Wrote.le (ob:=some (w.heap.size+1)) ⟨by rw[hWf];rfl,by rw[hWf];rfl,by rw[hWf];rfl,by rw[hWf];simp[World.setRow],λx hx hne=>⟨?_,rfl⟩,λx hx=>?_⟩)
    ·rw[hWf];exact setRow_other wr _ x _ λe=>hne (by rw[e])
    ·cases hx
     exact⟨Nat.le_refl _,λo ho=>by omega,λh=>by omega⟩
   have hxf:Go.Proofs.YtpdllgbfemnemaaGreat.Ext w Wf:=by
    refine⟨by rw[hWf];exact hx.os,by rw[hWf];exact hx.tape,by rw[hWf];exact hx.output,Nat.le_trans hx.size hle.size,λx hxx=>?_⟩
    rw[hWf,setRow_other wr _ x _ (by omega)]
    exact hx.block x hxx
   have hres:(RV.ag l.c).at_ Wf k' (.agg #[x0,x1,x2,x3,x4,x5]):=by
    simp only[RV.at_]
    refine⟨_,rfl,RV.list_mono hle _ _ ?_⟩
    simp only[RV.listAt]
    exact⟨x0,_,rfl,y0,z0,x1,_,rfl,y1,z1,x2,_,rfl,y2,z2,x3,_,rfl,y3,z3,x4,_,rfl,y4,z4,x5,_,rfl,y5,z5,rfl⟩
   clear hWf
   go_wp2_with fail
   refine⟨rfl, .agg #[x0,x1,x2,x3,x4,x5],?_,_,rfl,hxf,k',hk,hres⟩
   have hr:=zgz (P:=Tryz.prog) (w:=Wf) (b:=w.heap.size+1) (off:=0) (us:=[x0,x1,x2,x3,x4,x5]) (Tab_ok.get (t:=56) rfl).1 rfl rfl rfl (λj u hu=>by
    rw[Nat.zero_add,cell_of_row Wf _ j _ e2 (0,0) hfh]
    simpa using hu)
   rw[zgy,Array.mapM_eq_mapM_toList]
   simp only[Instr.loadAt,Instr.sureAddr,Sem.run_bind,Sem.run_pure,Result.andThen_ok]at hr
   show(do
    let vs<-List.toArray<$>List.mapM (znz _) [ResultVar.cell 2 56]
    pure (if h:vs.size=1 then vs[0]else .tuple vs)).run Tryz.prog Wf=_
   simp[znz,asAddr]
   exact hr
  ·have hj5:j<5:=by omega
   have hll:l.box.length<=1000000000000/\l.sign.length<=1000000000000/\l.ident.length<=1000000000000/\l.parent.length<=1000000000000/\l.sig.length<=1000000000000:=by
    obtain⟨h1,h2,h3,h4,h5⟩:=hl
    omega
   obtain⟨lj,hlj,hll,ho,hpt⟩: ∃lj:List UInt8,l.c[lOff j]?=some (bs lj)/\lj.length<=1000000000000/\lOff j<6/\(zyu w.heap.size)[j]?=some (.pointer (some ⟨w.heap.size,lOff j,none⟩)):=by
    match j,hj5 with
    |0,_=>exact⟨l.box,rfl,hll.1,by decide,rfl⟩
    |1,_=>exact⟨l.sign,rfl,hll.2.1,by decide,rfl⟩
    |2,_=>exact⟨l.ident,rfl,hll.2.2.1,by decide,rfl⟩
    |3,_=>exact⟨l.parent,rfl,hll.2.2.2.1,by decide,rfl⟩
    |4,_=>exact⟨l.sig,rfl,hll.2.2.2.2,by decide,rfl⟩
   obtain⟨o,hoo⟩: ∃o,o=lOff j:=⟨_,rfl⟩
   rw[<-hoo]at hlj ho hpt
   clear hoo
   obtain⟨u,hu,hu1,hcu⟩: ∃u,(bs lj).at_ wr k' u/\u.oneCell'=true/\wr.cell? ⟨w.heap.size,o,none⟩=some u:=by
    have hoc:o<cur.toList.length:=by rw[Array.length_toList];omega
    have:=(RV.listAt_iff _ _).1 hlist |>.2 o _ cur.toList[o] hlj (List.getElem?_eq_getElem hoc)
    exact⟨_,this.2,this.1,by rw[cell_of_row wr _ o cur e (0,0) hc,<-Array.getElem?_toList];exact List.getElem?_eq_getElem hoc⟩
   have hcp:wr.cell? ⟨w.heap.size+1+1,j,none⟩=some (.pointer (some ⟨w.heap.size,o,none⟩)):=by
    rw[cell_of_row wr _ j _ e3 (0,0) hp];exact hpt
   obtain⟨p,rfl,hby⟩:=zfv hu
   clear h5 hpt
   go_wp2_with fail
   refine(zvc p lj _ hby (by omega)).mono ?_
   rintro e' w1 ⟨v,rfl,hb,g1,hov⟩
   obtain⟨k1,hk1',hch⟩:=zio (k:=k') hov
   have hvat:(bs lj).at_ w1 k1 v:=by
    obtain⟨_,h,_⟩:=hch
    exact h.sl
   have hv1:v.oneCell'=true:=by
    obtain⟨_,h,_⟩:=hch
    exact h.one
   have hsw:w.heap.size+2<wr.heap.size:=(Array.getElem?_eq_some_iff.1 hp).1
   have hle1:Le wr k' w1 k1:=Ext.le hb hk1'
   have hc1:w1.heap[w.heap.size]?=some (.cells cur e (0,0)):=(hb.block _ (by omega)).trans hc
   obtain⟨cur2,hcur2⟩: ∃cur2,cur2=(cur.toList.take o++[v]++cur.toList.drop (o+1)).toArray:=⟨_,rfl⟩
   obtain⟨W2,hW2⟩: ∃W2,W2=w1.setRow w.heap.size cur2:=⟨_,rfl⟩
   have hst:(storeCells ⟨w.heap.size,o,none⟩ [v]).run Tryz.prog w1= .ok () W2:=by
    rw[hW2,hcur2]
    exact run_storeCells_at Tryz.prog w.heap.size o e [v] 0 cur w1 hc1 (by simp;omega) (by simpa using hv1)
   have hc2:W2.heap[w.heap.size]?=some (.cells cur2 e (0,0)):=by rw[hW2];exact setRow_heap w1 _ cur _ e (0,0) hc1
   have hrest: ∀x,x≠w.heap.size->W2.heap[x]?=w1.heap[x]?:=λx hx=>by rw[hW2];exact setRow_other w1 _ x _ hx
   have hle2:Le w1 k1 W2 k1:=by
    refine(Wrote.le (ob:=some w.heap.size) ⟨by rw[hW2];rfl,by rw[hW2];rfl,by rw[hW2];rfl,by rw[hW2];simp[World.setRow],λx hx hne=>⟨hrest x λe=>hne (by rw[e]),rfl⟩,λx hx=>?_⟩)
    cases hx
    have:k1 w.heap.size=0:=(hk1' _ (by omega)).trans hk0
    exact⟨Nat.le_refl _,λo ho=>by omega,λh=>by omega⟩
   have hxf:Go.Proofs.YtpdllgbfemnemaaGreat.Ext w W2:=by
    refine⟨by rw[hW2];exact hb.os.trans hx.os,by rw[hW2];exact hb.tape.trans hx.tape,by rw[hW2];exact hb.output.trans hx.output,Nat.le_trans hx.size (Nat.le_trans hb.size hle2.size),λx hxx=>?_⟩
    rw[hrest x (by omega),hb.block x (by omega)]
    exact hx.block x hxx
   have hlist2:RV.listAt W2 k1 l.c cur2.toList:=by
    have h1:=RV.list_mono (hle1.trans hle2) _ _ hlist
    have h2:RV.listAt W2 k1 [bs lj] [v]:=by
     simp only[RV.listAt]
     exact⟨v,_,rfl,hv1,RV.mono hle2 _ _ hvat,rfl⟩
    have h3:l.c=l.c.take o++[bs lj]++l.c.drop (o+1):=by
     have hoc:o<l.c.length:=ho
     have h4:l.c[o]=bs lj:=by rw[List.getElem?_eq_getElem hoc]at hlj;exact Option.some.inj hlj
     rw[<-h4,List.append_assoc,List.singleton_append,<-List.drop_eq_getElem_cons hoc,List.take_append_drop]
    rw[h3,hcur2,List.toList_toArray]
    exact zcf (zcf (zf3 h1 o) h2) (zjl h1 (o+1))
   have hz2':W2.heap[w.heap.size+1]?=some (.cells z e2 (0,0)):=by rw[hrest _ (by omega),hb.block _ (by omega)];exact hz2
   have hp':W2.heap[w.heap.size+2]?=some (.cells (zyu w.heap.size) e3 (0,0)):=by rw[hrest _ (by omega),hb.block _ (by omega)];exact hp
   clear hW2 hrest
   go_wp2_with fail
   rw[hst]
   go_wp2_with fail
   go_roundw
   case rel=>exact⟨j+1,k1,cur2,z,e,e2,e3,rfl,by omega,hxf,λb hb=>(hk1' b (by omega)).trans (hk b hb),hc2,(hk1' _ (by omega)).trans hk0,(hk1' _ (by omega)).trans hk1,hlist2,hz2',hzs,hp'⟩
   case measure=>(first |omega |(simp[intOf];done) |(simp[intOf];omega))
theorem zvh(l:Leaf)(hl:l.fit):zaf Tryz.prog 143 [.ag l.c] (.r (.ag l.c)):=
 zb1 (za8 Tryz.func143 rfl (by kernel_rfl)) λw k vs hp=>by
  obtain⟨a,rfl,h1⟩:=zhe hp
  simp only[RV.at_]at h1
  obtain⟨us,rfl,h2⟩:=h1
  exact z0i l hl w k us h2
end
section
abbrev z3h(L:List Stub):Ow:= .ch 79 2 L.length (L.flatMap Stub.c) false
theorem zw1{α β:Type}{f:α->List β}{sz:Nat}(hf: ∀x,(f x).length=sz): ∀(l:List α) (j:Nat),(l.flatMap f).take (j*sz)=(l.take j).flatMap f
 |[],j=>by simp
 |x::l,0=>by simp
 |x::l,j+1=>by
  rw[List.flatMap_cons,List.take_succ_cons,List.flatMap_cons,Nat.add_mul,Nat.one_mul,Nat.add_comm,<-zw1 hf l j]
  rw[List.take_append,hf x,List.take_of_length_le (by rw[hf x];omega),Nat.add_sub_cancel_left]
theorem zus(own:Stub)(F:List Stub):RV.sl 2 (F.length+1) ((F.flatMap Stub.c).take (zfw own F*2)++own.c++(F.flatMap Stub.c).drop (zfw own F*2))=zkv (insL own F):=by
 rw[zw1 (sz:=2) (λ_=>rfl),zpy (sz:=2) (λ_=>rfl),<-zevb]
 have hle:=zsr own F
 unfold zkv
 rw[show(F.take (zfw own F)++own::F.drop (zfw own F)).length=F.length+1 by rw[List.length_append,List.length_cons,List.length_take,List.length_drop];omega]
 simp
theorem zc4b(s:Lean_)(hs:s.fitN)(hl:s.lookOk=true)(x:Int)(h0:List UInt8)(hcl: ∀l:Leaf,l.fit->zaf Tryz.prog 143 [.ag l.c] (.r (.ag l.c)))
  (hho:zaf Tryz.prog 52 [.ag (zce s),I x] (.r (bs h0))):
  zaf Tryz.prog 63 [.ag s.c,I x] (.r (.ag (zbm s x h0).c)):=by
 refine zac (T:=Tab) mixed Tab_ok Tryz.func63 rfl (by kernel_rfl) ?_
 have glook:=zny s (by have:=hs.1;omega) (by have:=hs.2.1;omega)
 simp only[zkm,hl,if_true]at glook
 obtain⟨hs1,hs2,hs3,hs4⟩:=id hs
 obtain⟨p,hp⟩: ∃p:Int->Bool,p= λy=> !zal y x:=⟨_,rfl⟩
 refine za rfl rfl ?_
 refine ze glook ?_
 refine zy (λj:Nat=>{F:=[(2, .own 0),(3, .own 1),(4, .own 2),(5, .own 3),(7, .own 4),(24, .r (spots s.opn)),(25, .r (I s.opn.length)),(26, .r (I j))],O:=[(0,some (.box (s.c.map .r))),(1,some (.box [.r (I x)])),(2,some (.box (zero4.map .r))),(3,some (.box ((zce s).map .r))),(4,some (.box [.r (I s.leaves), .r (I s.own), .own 5, .own 6])),(5,some (zda ((s.opn.take j).filter λy=>p y.at_))),(6,some (z3h []))],nx:=7})
  (λj=>j<=s.opn.length) (λj=>s.opn.length-j) 0 (by omega)
  ((zcu true 4 2 77 11 (cells:=[.r (I s.leaves), .r (I s.own), .r (.x (.slice none 0 0)), .r (.x (.slice none 0 0))]) rfl rfl).trans ((zcu false 4 3 79 2 (cells:=[.r (I s.leaves), .r (I s.own), .own 5, .r (.x (.slice none 0 0))]) rfl rfl).trans (zad [(0,0),(1,1),(2,2),(3,3),(4,4),(5,5),(6,6)] rfl ⟨rfl,rfl,rfl,rfl,rfl,cr,cr,cr,trivial⟩ ⟨zab _,zab [I x],zab zero4,zab (zce s),cvc (zax _) (cvc (zax _) (cvc rfl (cvc rfl rfl))),⟨rfl,rfl,rfl,rfl,zn _⟩,⟨rfl,rfl,rfl,rfl,zn _⟩,trivial⟩))) ?_
 intro j hj
 refine zh (λh=>zq ?_) (λh=>zt ?_)
 ·simp only[zb]at h
  have hj':j<s.opn.length:=by omega
  refine zm (by omega) (by omega) (zfa rfl hj') ?_
  refine za rfl rfl ?_
  refine ze (zi9 _ _) ?_
  have hsn:=zpu (p:=λy:Spot=>p y.at_) hj'
  have hfl:=zmb (p:=λy:Spot=>p y.at_) (l:=s.opn) (j:=j)
  have hpj:p s.opn[j].at_= !zal s.opn[j].at_ x:=by rw[hp]
  cases hu:zal s.opn[j].at_ x with
  |true=>
   rw[hpj,hu,if_neg (by simp)]at hsn
   refine zw rfl (zt ?_)
   refine zd (m:=((j+1:Nat):Int)) (by omega) (by omega) ?_
   rw[<-hsn]
   exact⟨j+1,hj',by omega,zad [(0,0),(1,1),(2,2),(3,3),(4,4),(5,5),(6,6)] rfl ⟨rfl,rfl,rfl,rfl,rfl,cr,cr,cr,trivial⟩ ⟨zab _,zab [I x],zab zero4,zab (zce s),cvc (zax _) (cvc (zax _) (cvc rfl (cvc rfl rfl))),⟨rfl,rfl,rfl,rfl,zn _⟩,⟨rfl,rfl,rfl,rfl,zn _⟩,trivial⟩⟩
  |false=>
   rw[hpj,hu,if_pos (by simp)]at hsn
   refine zu rfl (zq ?_)
   refine Vdraw.mk' (by kernel_rfl) ?_
   refine za rfl rfl ?_
   refine ze (z2s s.opn[j].node (hs3 _ (List.getElem_mem hj')) (hcl _ (hs3 _ (List.getElem_mem hj')).1)) ?_
   refine zx ?_
   refine Vapp.mk' (j:=((s.opn.take (j+1)).filter λy=>p y.at_).length) (zs:=((s.opn.take (j+1)).filter λy=>p y.at_).flatMap Spot.c) (by simp only[maxLen];omega) (by simp;omega) (by rw[hsn];simp) (by rw[hsn];simp[zb8,cellsOf]) ?_
   refine zd (m:=((j+1:Nat):Int)) (by omega) (by omega) ?_
   exact⟨j+1,hj',by omega,zad [(0,0),(1,1),(2,2),(3,3),(4,4),(5,_),(6,6)] rfl ⟨rfl,rfl,rfl,rfl,rfl,cr,cr,cr,trivial⟩ ⟨zab _,zab [I x],zab zero4,zab (zce s),cvc (zax _) (cvc (zax _) (cvc rfl (cvc rfl rfl))),⟨rfl,rfl,rfl,rfl,zn _⟩,⟨rfl,rfl,rfl,rfl,zn _⟩,trivial⟩⟩
 simp only[zb]at h
 rw[List.take_of_length_le (by omega)]
 clear h hj
 refine zy (λj:Nat=>{F:=[(2, .own 0),(3, .own 1),(4, .own 2),(5, .own 3),(7, .own 4),(48, .r (zkv s.shut)),(49, .r (I s.shut.length)),(50, .r (I j))],O:=[(0,some (.box (s.c.map .r))),(1,some (.box [.r (I x)])),(2,some (.box (zero4.map .r))),(3,some (.box ((zce s).map .r))),(4,some (.box [.r (I s.leaves), .r (I s.own), .own 5, .own 6])),(5,some (zda (s.opn.filter λy=>p y.at_))),(6,some (z3h ((s.shut.take j).filter λy=>p y.at_)))],nx:=7})
  (λj=>j<=s.shut.length) (λj=>s.shut.length-j) 0 (by omega) (zad [(0,0),(1,1),(2,2),(3,3),(4,4),(5,5),(6,6)] rfl ⟨rfl,rfl,rfl,rfl,rfl,cr,cr,cr,trivial⟩ ⟨zab _,zab [I x],zab zero4,zab (zce s),cvc (zax _) (cvc (zax _) (cvc rfl (cvc rfl rfl))),⟨rfl,rfl,rfl,rfl,zn _⟩,⟨rfl,rfl,rfl,rfl,zn _⟩,trivial⟩) ?_
 intro j hj
 refine zh (λh=>zq ?_) (λh=>zt ?_)
 ·simp only[zb]at h
  have hj':j<s.shut.length:=by omega
  refine zm (by omega) (by omega) (zfd rfl hj') ?_
  refine za rfl rfl ?_
  refine ze (zi9 _ _) ?_
  have hsn:=zpu (p:=λy:Stub=>p y.at_) hj'
  have hfl:=zmb (p:=λy:Stub=>p y.at_) (l:=s.shut) (j:=j)
  have hpj:p s.shut[j].at_= !zal s.shut[j].at_ x:=by rw[hp]
  cases hu:zal s.shut[j].at_ x with
  |true=>
   rw[hpj,hu,if_neg (by simp)]at hsn
   refine zw rfl (zt ?_)
   refine zd (m:=((j+1:Nat):Int)) (by omega) (by omega) ?_
   rw[<-hsn]
   exact⟨j+1,hj',by omega,zad [(0,0),(1,1),(2,2),(3,3),(4,4),(5,5),(6,6)] rfl ⟨rfl,rfl,rfl,rfl,rfl,cr,cr,cr,trivial⟩ ⟨zab _,zab [I x],zab zero4,zab (zce s),cvc (zax _) (cvc (zax _) (cvc rfl (cvc rfl rfl))),⟨rfl,rfl,rfl,rfl,zn _⟩,⟨rfl,rfl,rfl,rfl,zn _⟩,trivial⟩⟩
  |false=>
   rw[hpj,hu,if_pos (by simp)]at hsn
   refine zu rfl (zq ?_)
   refine Vdraw.mk' (by kernel_rfl) ?_
   refine ze (zfe s.shut[j].hash (by have:=hs4 _ (List.getElem_mem hj');omega)) ?_
   refine zx ?_
   refine Vapp.mk' (j:=((s.shut.take (j+1)).filter λy=>p y.at_).length) (zs:=((s.shut.take (j+1)).filter λy=>p y.at_).flatMap Stub.c) (by simp only[maxLen];omega) (by simp;omega) (by rw[hsn];simp) (by rw[hsn];simp[zb8,cellsOf,bs]) ?_
   refine zd (m:=((j+1:Nat):Int)) (by omega) (by omega) ?_
   exact⟨j+1,hj',by omega,zad [(0,0),(1,1),(2,2),(3,3),(4,4),(5,5),(6,_)] rfl ⟨rfl,rfl,rfl,rfl,rfl,cr,cr,cr,trivial⟩ ⟨zab _,zab [I x],zab zero4,zab (zce s),cvc (zax _) (cvc (zax _) (cvc rfl (cvc rfl rfl))),⟨rfl,rfl,rfl,rfl,zn _⟩,⟨rfl,rfl,rfl,rfl,zn _⟩,trivial⟩⟩
 simp only[zb]at h
 rw[List.take_of_length_le (by omega)]
 clear h hj
 obtain⟨F,hF⟩: ∃F,F=s.shut.filter λy=>p y.at_:=⟨_,rfl⟩
 have hFl:F.length<=1000000:=by
  have:=List.length_filter_le (λy:Stub=>p y.at_) s.shut
  rw[hF];omega
 rw[<-hF]
 refine Vstep.sub (ze4 (t:=3) [I x] rfl rfl) (Vstep.mkfun z07 (λ_=>True) (λy=>decide (x<y.at_)) rfl rfl (λy _=>zddb y x) ?_)
 refine Vstep.peek rfl rfl rfl rfl rfl (λ_ _ _ _ _ h=>by simpa[RV.at_]using h) (z2l F (λ_=>True) _ (by omega) λ_ _=>trivial) ?_
 by_cases hneg:idxG (λy:Stub=>decide (x<y.at_)) 0 F<0
 ·refine zu (by simpa using hneg) (zq ?_)
  have hat:zfw ⟨x,h0⟩ F=F.length:=by simp only[zfw];rw[if_pos hneg]
  refine Vdraw.cut 9 (by kernel_rfl) ?_
  refine zg rfl ?_
  refine za rfl rfl ?_
  refine zg rfl ?_
  refine ze hho ?_
  refine Vpub.own ?_
  refine Vstep.thenSub (Vstep.ins (i:=zfw ⟨x,h0⟩ F) rfl rfl rfl (by rw[hat];rfl) rfl rfl (show(6:Nat)≠7 by decide) (zsr _ _) (by omega) ?_)
  refine⟨_,zj1 (id:=8) rfl,?_⟩
  refine za rfl rfl ?_
  refine za rfl rfl ?_
  refine zf ?_
  have e1:=zus ⟨x,h0⟩ F
  refine Eq.trans (b:=RV.ag [I s.leaves,I s.own,spots (s.opn.filter λy=>p y.at_),zkv (insL ⟨x,h0⟩ F)]) (congrArg (λz=>RV.ag [I s.leaves,I s.own,spots (s.opn.filter λy=>p y.at_),z]) e1) ?_
  rw[hF,hp]
  rfl
 ·refine zw (by simpa using hneg) (zt ?_)
  have hat:((zfw ⟨x,h0⟩ F:Nat):Int)=idxG (λy:Stub=>decide (x<y.at_)) 0 F:=by simp only[zfw];rw[if_neg hneg];omega
  refine Vdraw.cut 9 (by kernel_rfl) ?_
  refine zg rfl ?_
  refine za rfl rfl ?_
  refine zg rfl ?_
  refine ze hho ?_
  refine Vpub.own ?_
  refine Vstep.thenSub (Vstep.ins (i:=zfw ⟨x,h0⟩ F) rfl rfl rfl (by rw[hat];rfl) rfl rfl (show(6:Nat)≠7 by decide) (zsr _ _) (by omega) ?_)
  refine⟨_,zj1 (id:=8) rfl,?_⟩
  refine za rfl rfl ?_
  refine za rfl rfl ?_
  refine zf ?_
  have e1:=zus ⟨x,h0⟩ F
  refine Eq.trans (b:=RV.ag [I s.leaves,I s.own,spots (s.opn.filter λy=>p y.at_),zkv (insL ⟨x,h0⟩ F)]) (congrArg (λz=>RV.ag [I s.leaves,I s.own,spots (s.opn.filter λy=>p y.at_),z]) e1) ?_
  rw[hF,hp]
  rfl
end
section
theorem zrz{s:Lean_}(hr:zbf s=true): ∀x∈s.opn,x.node.right=true:=by
 have hp:=hr
 simp only[zbf,Bool.and_eq_true,decide_eq_true_eq]at hp
 obtain⟨d,o,hd,hn,ho,he,_⟩:=zoz hp.2.1 hp.2.2.1 hp.2.2.2.1
 have hO:=(zip hd ho hn he).1 (by rw[<-zod];exact hr)
 intro x hx
 have:=hO.1 x hx
 simp only[okR,Bool.and_eq_true]at this
 exact this.2.2.1
end
end Go.Proofs.YtpdllgbfemnemaaGreat.Sx
