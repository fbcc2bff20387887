import Derived.Test.YtpcfoglfakeimaaGreatZNk
import Derived.Test.YtpcfoglfakeimaaGreatZGeoB
import Derived.Test.YtpcfoglfakeimaaGreatZNa
import Derived.Test.YtpcfoglfakeimaaGreatZSxPt
namespace Go.Proofs.YtpcfoglfakeimaaGreat.Sx
open Go.RowKit
def zap(f:Nat->List RV)(j:Nat):List RV:=(List.range j).flatMap f
theorem zbo(f:Nat->List RV)(j:Nat):zap f (j+1)=zap f j++f j:=by
 unfold zap;rw[List.range_succ,List.flatMap_append];simp
theorem zc8{f h:Nat->List RV}: ∀{j:Nat},(∀x,x<j->f x=h x)->zap f j=zap h j
 |0,_=>rfl
 |j+1,e=>by rw[zbo,zbo,zc8 λx hx=>e x (by omega),e j (by omega)]
theorem zde{f:Nat->List RV}(h: ∀x,(f x).length=10): ∀j,(zap f j).length=j*10
 |0=>rfl
 |j+1=>by rw[zbo,aL,zde h j,h];omega
def updN{α:Type}(f:Nat->α)(i:Nat)(v:α):Nat->α:=λx=>if x=i then v else f x
theorem zfx{α:Type}{f:Nat->α}{i:Nat}{v:α}:updN f i v i=v:=if_pos rfl
theorem zfy{α:Type}{f:Nat->α}{i x:Nat}{v:α}(h:x≠i):updN f i v x=f x:=if_neg h
theorem zex{r:List (Nat×Nat)}{a b i:Nat}(h:a≠i):zax ((a,b)::r) i=zax r i:=by rw[zax,zij h]
abbrev nodX(l:List RV)(n:Nat):Ow:= .ch 60 10 n l false
abbrev zcp(t:List Node)(x:Nat):List Int:=(nT t x).par.late
theorem z7q(t:List Node)(ht:t.length<=1000000)(hfit: ∀x∈t,x.fit):zif aP 17 [nods t] 1000001
  (λτ:Nat->Option Addr×Nat=>(0,some (nodX (zap (λx=>(nT t x).cx (τ x)) t.length) t.length))::tO 1 τ (zcp t) t.length) (λ_=> .own 0):=by
 refine zj1 Tab_ok Tryz.func17 rfl (by kernel_rfl) (Vcode.vcg mixed Tab_ok ?_)
 refine⟨.inr (Vcode.loop (ι:=Nat×(Nat->Option Addr×Nat)) (λi=>⟨[(3, .own 0),(6, .r (nods t)),(7, .r (I t.length)),(8, .r (I i.1))],(0,some (nodX (zap (λx=>(nT t x).cx (i.2 x)) i.1) i.1))::tO 1 i.2 (zcp t) i.1,1000001⟩) (λi=>i.1<=t.length) (λi=>t.length-i.1) (0,λ_=>(none,0)) (Nat.zero_le _)
  ((zgg 3 60 10 rfl).trans (zac [(0,0)] rfl ⟨rfl,cr,cr,cr,trivial⟩ ⟨⟨rfl,rfl,rfl,rfl,zn _⟩,trivial⟩)) ?_)⟩
 rintro⟨j,τ⟩ hj
 replace hj:j<=t.length:=hj
 refine Vcode.seqv mixed Tab_ok ?_
 refine zh (λh=>?_) (λh=>?_)
 ·simp only[zb]at h
  have hj':j<t.length:=by omega
  have hx:=hfit _ (zf9 hj')
  refine Vcode.seqv mixed Tab_ok (zq ?_)
  refine Vcode.seqc (Vcode.block (Vcode.seqv mixed Tab_ok ?_))
  refine zm (by omega) (by omega) (zbf rfl hj') ?_
  refine za rfl rfl ?_
  refine Vcode.steps (Vstep.step Tab_ok (Vstep.step Tab_ok ?_))
  refine za rfl rfl ?_
  refine Vstep.callG rfl rfl (zn _) (z69 (nT t j) hx) (by omega) λv=>?_
  refine Vstep.step Tab_ok ?_
  refine zy ?_
  refine Vstep.step Tab_ok ?_
  refine Vapp.mk' (j:=j+1) (zs:=zap (λx=>(nT t x).cx (updN τ j v x)) (j+1)) (by show j+1<=maxLen;simp only[maxLen];omega) (by show(j+1)*208<=_;omega) rfl (by
   rw[zbo,zfx]
   congr 1
   exact zc8 λx hx=>by rw[zfy (by omega)]) ?_
  refine Vstep.step Tab_ok ?_
  refine Vcode.vcg mixed Tab_ok ?_
  refine zd (m:=((j+1:Nat):Int)) (by omega) (by omega) ?_
  refine⟨(j+1,updN τ j v),by show j+1<=t.length;omega,by show t.length-(j+1)<t.length-j;omega,zgy [(0,1000005)] (λi=>if i=j+1 then 1000002 else i) (O':=[(0,some (nodX (zap (λx=>(nT t x).cx (updN τ j v x)) (j+1)) (j+1)))]) (tl:=tO 1 (updN τ j v) (zcp t) (j+1)) rfl ⟨rfl,cr,cr,cr,trivial⟩ ⟨⟨rfl,rfl,rfl,rfl,zn _⟩,trivial⟩ ?_ ?_⟩
  ·intro id o h
   obtain⟨x,hx,rfl,rfl⟩:=zc4 h
   have e0:(if x+1=j+1 then 1000002 else x+1:Nat)≠1000005:=by split<;>omega
   refine⟨by omega,trivial,by rw[zex (by omega)];rfl,?_,λy hy=>?_⟩
   ·show oget ((1000005,_)::(0,none)::(1000004,_)::(1000002,some (.gen (zdi (nT t j).par.late v)))::(1000001,_)::(1000001,_)::(0,_)::tO 1 τ (zcp t) j) (if x+1=j+1 then 1000002 else x+1)=_
    rcases Nat.lt_or_ge x j with hxj |hxj
    ·rw[if_neg (by omega),zfy (by omega)]
     repeat rw[zbm (by omega)]
     exact zby hxj
    ·obtain rfl:x=j:=by omega
     rw[if_pos rfl,zfx]
     rfl
   ·simp at hy;subst hy;exactλe=>e0 e.symm
  ·intro a b o o' ha hb e
   obtain⟨x,hx,rfl,_⟩:=zc4 ha
   obtain⟨y,hy,rfl,_⟩:=zc4 hb
   replace e:(if x+1=j+1 then 1000002 else x+1:Nat)=(if y+1=j+1 then 1000002 else y+1):=e
   split at e<;>split at e<;>omega
 ·simp only[zb]at h
  obtain rfl:j=t.length:=by omega
  refine Vcode.vcg mixed Tab_ok (zt ?_)
  refine⟨_,zo _,?_⟩
  refine⟨.inl rfl,τ,⟨[(2, .own 0)],[(0,some (nodX (zap (λx=>(nT t x).cx (τ x)) t.length) t.length))]++tO 1 τ (zcp t) t.length,1000001⟩,zgy [(0,0)] id rfl ⟨rfl,trivial⟩ ⟨⟨rfl,rfl,rfl,rfl,zn _⟩,trivial⟩ ?_ ?_,rfl,⟨[],(List.append_nil _).symm⟩,rfl⟩
  ·intro id o h
   obtain⟨x,hx,rfl,rfl⟩:=zc4 h
   refine⟨by omega,trivial,by rw[zex (by omega)];rfl,?_,λy hy=>?_⟩
   ·show oget ((0,_)::tO 1 τ (zcp t) t.length) (x+1)=_
    rw[zbm (by omega)];exact zby hx
   ·simp at hy;subst hy;simp
  ·intro a b o o' _ _ h;exact h
section
open Go.RowKit Go.Lib
theorem zgz{P:Program}{ops:Array Oper}{rest:List Oper}{o:Oper}{a:Act}{w:World}{Q:Exit->Act->World->Prop}(hgd:o.guard=none)(s x:Operand)(t u:TypeId)
  (ho:o.op= .call {callee:= .builtin .append,args:= #[s,x],argTypes:= #[t,u]}) {v y v':Value} {w':World} (hs:a.eval s=v) (hx:a.eval x=y)
  (hr:(Builtin.append_ #[t,u] o.type #[v,y]).run P w= .ok v' w') (h:wpList P ops Q rest (a.put o.dst v') w'):wpList P ops Q (o::rest) a w:=by
 refine wpList_plain hgd λK hK=>?_
 unfold Oper.wp execOp
 simp only[ho,resolve,invoke,builtin,Sem.run_bind,Sem.run_pure,Result.andThen_ok,List.map_toArray,List.map_cons,List.map_nil,hs,hx,hr]
 exact hK _ _ h
theorem z4k{α:Type}(L vs:List α)(p q:Nat)(hv:vs.length=1)(hl:p+1+q<=L.length):
  ((L.take (p+1)++(L.drop p).take q++L.drop (p+1+q)).take p++vs++(L.take (p+1)++(L.drop p).take q++L.drop (p+1+q)).drop (p+1)).take (p+1+q)=(L.take (p+q)).take p++vs++(L.take (p+q)).drop p:=by
 have h1:(L.take (p+1)).length=p+1:=by rw[List.length_take];omega
 have h2:((L.drop p).take q).length=q:=by rw[List.length_take,List.length_drop];omega
 have e1:(L.take (p+1)++(L.drop p).take q++L.drop (p+1+q)).take p=L.take p:=by
  rw[List.append_assoc,List.take_append_of_le_length (by omega),List.take_take,Nat.min_eq_left (by omega)]
 have e2:(L.take (p+1)++(L.drop p).take q++L.drop (p+1+q)).drop (p+1)=(L.drop p).take q++L.drop (p+1+q):=by
  rw[List.append_assoc]
  exact List.drop_left' h1
 rw[e1,e2,List.take_take,Nat.min_eq_left (by omega),List.drop_take,Nat.add_sub_cancel_left]
 rw[<-List.append_assoc]
 have h3:(L.take p++vs++(L.drop p).take q).length=p+1+q:=by rw[aL,aL,h2,hv,List.length_take];omega
 exact List.take_left' h3
def zig(w:World)(ob:Option Nat)(n:Nat)(ys:List Value)(e:Ending)(w':World):Prop:=
 ∃b cap cur,e= .returned (.slice (some ⟨b,0,none⟩) (n+1) cap)/\w'.heap[b]?=some (.cells cur 3 (0,0))/\n+1<=cap/\cap<=maxLen/\cap*1<=cur.size/\
  cur.toList.take ((n+1)*1)=ys/\w.grownBy w' ob/\(ob=some b\/b=w.heap.size)
theorem zmv: ∃i z,Tryz.prog.info? 3=some i/\i.size=1/\i.bytes=8/\i.zero=some z/\z.cells.size=1:=by
 obtain⟨q,hq⟩:=Tab_ok.get (t:=3) rfl
 obtain⟨i,hi,h1,h2,z,hz,hzc⟩:=q.info
 exact⟨i,z,hi,h1,h2,hz,by rw[<-Array.length_toList,hzc];rfl⟩
theorem zjg:(Tryz.prog.info? 3).map (·.size)=some 1:=by
 obtain⟨i,z,hi,h1,_⟩:=zmv
 rw[hi];simp[h1]
theorem zy0(w:World):(Go.sizeOf 3).run aP w= .ok 1 w:=by
 obtain⟨q,hq⟩:=Tab_ok.get (t:=3) rfl
 exact za3 q hq
set_option maxHeartbeats 4000000 in
set_option maxRecDepth 100000 in
theorem z1s(b n c i vb vc:Nat)(cur vcur:Array Value)(tv:TypeId)(vs:List Value)(w:World)(hi:i<n)(hroom:n+1<=c)(hc63:c<=9223372036854775807)(hvb:vb≠b)
  (hh:w.heap[b]?=some (.cells cur 3 (0,0))) (hcs:c*1<=cur.size) (hv:w.heap[vb]?=some (.cells vcur tv (0,0))) (hvs:vcur.toList.take 1=vs) (hvl:vs.length=1)
  (h1c: ∀v∈cur.toList.take (n*1),v.oneCell'=true) (h1v: ∀v∈vs,v.oneCell'=true) (ys:List Value) (hys:ys=(cur.toList.take (n*1)).take (i*1)++vs++(cur.toList.take (n*1)).drop (i*1)):
  Calls aP 90 #[.slice (some ⟨b,0,none⟩) n c, .int .i64 i, .slice (some ⟨vb,0,none⟩) 1 vc] w
   (zig w (some b) n ys):=by
 have hz2: ¬((i:Int)=(n:Int)):=by omega
 have hov: ∀lb cb,(callFunc 133 #[.slice (some ⟨vb,0,none⟩) 1 vc, .slice (some ⟨b,(i+1)*1,none⟩) lb cb]).run aP w= .ok (.value (.bool false)) w:=λlb cb=>by
  rw[run_callFunc_extern Tryz.func133 (by kernel_rfl) (by kernel_rfl) (by kernel_rfl) (e:=Extern.SlicesOverlaps.overlaps #[23,23] #[4]) (by kernel_rfl),
   Lib.run_overlaps_apart w 23 4 3 Tryz.underlying23 1 zy0 ⟨vb,0,none⟩ ⟨b,(i+1)*1,none⟩ 1 vc lb cb hvb tv 3 vcur.size cur.size (by simp[World.shape?,hv]) (by simp[World.shape?,hh]) (by omega) (by simp[World.frozen?,hv]) (by simp[World.frozen?,hv])]
  rfl
 have hw1:IntKind.i64.wrap ((i:Int)+1)=(i:Int)+1:=by rw[IntKind.wrap_i64];omega
 have hb1:(0:Int)<=(i:Int)+1:=by omega
 have hin:i<=n:=by omega
 have htn:((i:Int)+1).toNat=i+1:=by omega
 have hb2: ¬(c=i+1):=by omega
 have hb3:(i:Int)<=(n:Int)+1:=by omega
 have hb4: ¬(c=i):=by omega
 obtain⟨cs,hcs0⟩: ∃cs,cs=(cur.toList.drop (i*1)).take ((n-i)*1):=⟨_,rfl⟩
 have hcl:cs.length=(n-i)*1:=by rw[hcs0,List.length_take,List.length_drop,Array.length_toList];omega
 have h1: ∀v∈cs,v.oneCell'=true:=λv hv=>by
  refine h1c v ?_
  rw[hcs0,<-Nat.add_sub_cancel_left (n:=i*1) (m:=(n-i)*1),<-List.drop_take,show i*1+(n-i)*1=n*1 by omega]at hv
  exact List.mem_of_mem_drop hv
 obtain⟨cur1,hc1⟩: ∃cur1,cur1=(cur.toList.take ((i+1)*1)++cs++cur.toList.drop ((i+1)*1+cs.length)).toArray:=⟨_,rfl⟩
 have hcp1: ∀ty dc sc,(Builtin.copy_ #[23,23] ty #[.slice (some ⟨b,(i+1)*1,none⟩) (n-i) dc, .slice (some ⟨b,i*1,none⟩) (n+1-i) sc]).run aP w.drew= .ok (goInt ((n-i:Nat):Int)) (w.drew.setRow b cur1):=λty dc sc=>by
  rw[hc1]
  exact zfm w.drew 23 23 ty 3 1 b ((i+1)*1) (n-i) dc ⟨b,i*1,none⟩ (n+1-i) sc (n-i) cur 3 cs Tryz.underlying23 zjg hh
   (by simp only[Nat.min_def];split<;>omega) hcl (λj v hj=>by rw[Addr.add_lit];rw[hcs0]at hj;exact zkc (w:=w.drew) hh hj) (by omega) h1
 obtain⟨W1,hW1⟩: ∃W1,W1=w.drew.setRow b cur1:=⟨_,rfl⟩
 have hr1:W1.heap[b]?=some (.cells cur1 3 (0,0)):=by rw[hW1];exact setRow_heap w.drew b cur cur1 _ (0,0) hh
 have hr2:W1.heap[vb]?=some (.cells vcur tv (0,0)):=by rw[hW1,setRow_other w.drew b vb cur1 hvb];exact hv
 have hcz:cur1.size=cur.size:=by
  rw[hc1]
  simp only[List.size_toArray,aL,List.length_take,List.length_drop,Array.length_toList,hcl]
  omega
 obtain⟨cur2,hc2⟩: ∃cur2,cur2=(cur1.toList.take (i*1)++vs++cur1.toList.drop (i*1+vs.length)).toArray:=⟨_,rfl⟩
 have hcp2: ∀(W:World),W.heap=W1.heap->∀ty dc,(Builtin.copy_ #[23,23] ty #[.slice (some ⟨b,i*1,none⟩) (n+1-i) dc, .slice (some ⟨vb,0,none⟩) 1 vc]).run aP W= .ok (goInt 1) (W.setRow b cur2):=λW hW ty dc=>by
  rw[hc2]
  exact zfm W 23 23 ty 3 1 b (i*1) (n+1-i) dc ⟨vb,0,none⟩ 1 vc 1 cur1 3 vs Tryz.underlying23 zjg (by rw[hW];exact hr1)
   (by simp only[Nat.min_def];split<;>omega) hvl (λj v hj=>by
    rw[Addr.add_lit]
    rw[<-hvs]at hj
    exact zkc (w:=W) (p:=0) (n:=1) (by rw[hW];exact hr2) (by simpa using hj)) (by omega) h1v
 rw[<-hW1]at hcp1
 have hfin: ∀W:World,W.heap=W1.heap->W.os=w.os->W.tape=w.tape->W.output=w.output->zig w (some b) n ys (.returned (.slice (some ⟨b,0,none⟩) (n+1) c)) (W.setRow b cur2):=λW hW e1 e2 e3=>by
  have hlen:i*1<=cur.toList.length:=by rw[Array.length_toList];omega
  refine⟨b,c,cur2,rfl,setRow_heap W b cur1 cur2 _ (0,0) (by rw[hW];exact hr1),hroom,by unfold maxLen;omega,?_,?_,⟨by simpa[World.setRow]using e1,by simpa[World.setRow]using e2,by simpa[World.setRow]using e3,?_,λx hx hne=>?_⟩, .inl rfl⟩
  ·rw[hc2]
   simp only[List.size_toArray,aL,List.length_take,List.length_drop,Array.length_toList,hcz,hvl]
   omega
  ·rw[hys,hc2,List.toList_toArray,hc1,List.toList_toArray,hcs0]
   have:=z4k cur.toList vs (i*1) ((n-i)*1) hvl (by rw[Array.length_toList];omega)
   rw[show(i+1)*1=i*1+1 by omega,hvl,show(n+1)*1=i*1+1+(n-i)*1 by omega,show n*1=i*1+(n-i)*1 by omega]
   rw[show((cur.toList.drop (i*1)).take ((n-i)*1)).length=(n-i)*1 by rw[<-hcs0];exact hcl]
   exact this
  ·simp only[World.setRow,Array.size_modify,hW,hW1]
   exact Nat.le_refl _
  ·have hxb:x≠b:=λe=>hne (by rw[e])
   rw[setRow_other W b x cur2 hxb,hW,hW1,setRow_other w.drew b x cur1 hxb]
   rfl
 have hmixed:Tryz.prog.follows .mixedOrders=true:=mixed
 simp only[Nat.mul_one]at hov hcp1 hcp2
 clear hys h1 hc2 hcz hc1 hcs0 hcl
 go_enter Tryz.func90,Tryz.ntmps90
 go_wp2_with (simp only[hov])
 go_region_law_o (refine znj rfl _ _ 23 23 rfl _ _ (by simp[Act.eval,Act.put]) (by simp[Act.eval,Act.put]) (hcp1 _ _ _) ?_)
 go_wp2_with (at_builtin;refine zki rfl _ _ 23 23 rfl rfl rfl (hcp2 _ rfl _ _) ?_)
 go_ret
 exact hfin _ (by rw[hW1]) rfl rfl rfl
set_option maxHeartbeats 4000000 in
set_option maxRecDepth 100000 in
theorem z7x(base:Option Addr)(n c vb vc:Nat)(w w1:World)(v:Value)(hnc:n<=c)(hc63:c<=9223372036854775807)(h0:base=none->n=0/\c=0)
  (hr:(Builtin.append_ #[23,23] 23 #[.slice base n c, .slice (some ⟨vb,0,none⟩) 1 vc]).run aP w= .ok v w1):
  Calls aP 90 #[.slice base n c, .int .i64 n, .slice (some ⟨vb,0,none⟩) 1 vc] w λe w'=>e= .returned v/\w'=w1:=by
 cases base with
 |none=>
  obtain⟨rfl,rfl⟩:=h0 rfl
  clear h0
  go_enter Tryz.func90,Tryz.ntmps90
  go_wp2_with (at_builtin;refine zgz rfl _ _ _ _ rfl rfl rfl hr ?_)
  go_ret
  exact⟨rfl,rfl⟩
 |some a=>
  clear h0
  obtain⟨ab,ao,asp⟩:=a
  go_enter Tryz.func90,Tryz.ntmps90
  go_wp2_with (at_builtin;refine zgz rfl _ _ _ _ rfl rfl rfl hr ?_)
  all_goals (go_ret;exact⟨rfl,rfl⟩)
set_option maxHeartbeats 4000000 in
set_option maxRecDepth 100000 in
theorem z4j(b n i vb vc:Nat)(cur vcur:Array Value)(tv:TypeId)(vs:List Value)(w:World)(hi:i<n)(hbig:(n+1)*8<=140737488355328)(c:Nat)(hnc:n<=c)(hroom:c<n+1)
  (hh:w.heap[b]?=some (.cells cur 3 (0,0))) (hcs:c*1<=cur.size) (hv:w.heap[vb]?=some (.cells vcur tv (0,0))) (hvs:vcur.toList.take 1=vs) (hvl:vs.length=1)
  (h1c: ∀v∈cur.toList.take (n*1),v.oneCell'=true) (h1v: ∀v∈vs,v.oneCell'=true) (ys:List Value) (hys:ys=(cur.toList.take (n*1)).take (i*1)++vs++(cur.toList.take (n*1)).drop (i*1)):
  Calls aP 90 #[.slice (some ⟨b,0,none⟩) n c, .int .i64 i, .slice (some ⟨vb,0,none⟩) 1 vc] w
   (zig w (some b) n ys):=by
 have hz2: ¬((i:Int)=(n:Int)):=by omega
 have hz3:(c:Int)< (n:Int)+1:=by omega
 obtain⟨i0,z,hi0,hzs,hzb,hz0,hzc⟩:=zmv
 have hbw:b<w.heap.size:=(Array.getElem?_eq_some_iff.1 hh).1
 have hvw:vb<w.heap.size:=(Array.getElem?_eq_some_iff.1 hv).1
 have hkk:(n:Int)+1-(i:Int)=((n+1-i:Nat):Int):=by omega
 have hik:i+(n+1-i)=n+1:=by omega
 obtain⟨os,hos⟩: ∃os,os=cur.toList.take (i*1):=⟨_,rfl⟩
 have hol:os.length=i*1:=by rw[hos,List.length_take,Array.length_toList];omega
 have hold:(Builtin.firstCells i0.size i (.slice (some ⟨b,0,none⟩) i c)).run aP w.drew= .ok os.toArray w.drew:=by
  rw[hzs]
  exact run_firstCells_some w.drew 1 i ⟨b,0,none⟩ i c os hol (λj v hj=>by
   rw[Addr.add_lit]
   rw[hos]at hj
   exact zkc (w:=w.drew) (p:=0) (n:=i*1) hh (by simpa using hj))
 obtain⟨G,hG⟩: ∃G,G=grownCap w (n+1) c 3:=⟨_,rfl⟩
 have hGn:n+1<=G:=by rw[hG];exact grownCap_ge w _ _ _
 have hG64:G<=maxLen:=by
  rw[hG];exact grownCap_le_maxLen w (n+1) c 3 (by unfold maxLen;omega)
 have hG63:G<=9223372036854775807:=by unfold maxLen at hG64;omega
 obtain⟨ROW,hROW⟩: ∃ROW:Array Value,ROW=os.toArray++Builtin.zeroCells z.cells (n+1-i)++Builtin.zeroCells z.cells (G-(n+1)):=⟨_,rfl⟩
 have hrz: ∀ty,(Builtin.append_ #[23,3] ty #[.slice (some ⟨b,0,none⟩) i c, .int .i64 ((n:Int)+1-(i:Int))]).run aP w=
   .ok (.slice (some ⟨w.heap.size,0,none⟩) (n+1) G) (w.drew.alloc (.cells ROW 3)):=λty=>by
  have h:=Lib.run_append_grow_zeros w 23 3 ty 3 i0 z .i64 .i64 Tryz.underlying23 Tryz.underlying3 hi0 hz0 (some ⟨b,0,none⟩) i c os hold (n+1-i) (by omega) (by omega) (by omega) (by omega) (by rw[hzb];omega) (by rw[hzb,hik];exact growslice_fits hroom hbig)
  rw[hik]at h
  rw[hkk,hROW,hG]
  exact h
 have hRl:ROW.size=G*1:=by
  rw[hROW]
  simp only[Array.size_append,List.size_toArray,size_zeroCells,hzc,hol]
  omega
 obtain⟨W1,hW1⟩: ∃W1,W1=w.drew.alloc (.cells ROW 3):=⟨_,rfl⟩
 rw[<-hW1]at hrz
 obtain⟨N,hN⟩: ∃N,N=w.heap.size:=⟨_,rfl⟩
 rw[<-hN]at hrz hbw hvw
 have hr1:W1.heap[N]?=some (.cells ROW 3 (0,0)):=by rw[hW1,hN];exact heap_alloc_new w.drew _
 have hrest: ∀x,x<N->W1.heap[x]?=w.heap[x]?:=λx hx=>by rw[hW1];exact Below.heap_alloc w.drew _ x (by rw[hN]at hx;exact hx)
 have hsz1:W1.heap.size=N+1:=by rw[hW1,hN];simp
 obtain⟨cs,hcs0⟩: ∃cs,cs=(cur.toList.drop (i*1)).take ((n-i)*1):=⟨_,rfl⟩
 have hcl:cs.length=(n-i)*1:=by rw[hcs0,List.length_take,List.length_drop,Array.length_toList];omega
 have h1: ∀v∈cs,v.oneCell'=true:=λv hv=>by
  refine h1c v ?_
  rw[hcs0,<-Nat.add_sub_cancel_left (n:=i*1) (m:=(n-i)*1),<-List.drop_take,show i*1+(n-i)*1=n*1 by omega]at hv
  exact List.mem_of_mem_drop hv
 obtain⟨R1,hR1⟩: ∃R1,R1=(ROW.toList.take (i*1)++vs++ROW.toList.drop (i*1+vs.length)).toArray:=⟨_,rfl⟩
 have hR1s:R1.size=G*1:=by
  rw[hR1]
  simp only[List.size_toArray,aL,List.length_take,List.length_drop,Array.length_toList,hRl,hvl]
  omega
 obtain⟨R2,hR2⟩: ∃R2,R2=(R1.toList.take ((i+1)*1)++cs++R1.toList.drop ((i+1)*1+cs.length)).toArray:=⟨_,rfl⟩
 have hcpA: ∀(W:World),W.heap=W1.heap->∀ty dc,(Builtin.copy_ #[23,23] ty #[.slice (some ⟨N,i*1,none⟩) (n+1-i) dc, .slice (some ⟨vb,0,none⟩) 1 vc]).run aP W= .ok (goInt 1) (W.setRow N R1):=λW hW ty dc=>by
  rw[hR1]
  exact zfm W 23 23 ty 3 1 N (i*1) (n+1-i) dc ⟨vb,0,none⟩ 1 vc 1 ROW 3 vs Tryz.underlying23 zjg (by rw[hW];exact hr1)
   (by simp only[Nat.min_def];split<;>omega) hvl (λj v hj=>by
    rw[Addr.add_lit]
    rw[<-hvs]at hj
    exact zkc (w:=W) (p:=0) (n:=1) (by rw[hW,hrest vb hvw];exact hv) (by simpa using hj)) (by omega) h1v
 have hcpB: ∀(W:World),W.heap=(W1.setRow N R1).heap->∀ty dc sc,(Builtin.copy_ #[23,23] ty #[.slice (some ⟨N,(i+1)*1,none⟩) (n-i) dc, .slice (some ⟨b,i*1,none⟩) (n-i) sc]).run aP W= .ok (goInt ((n-i:Nat):Int)) (W.setRow N R2):=λW hW ty dc sc=>by
  rw[hR2]
  exact zfm W 23 23 ty 3 1 N ((i+1)*1) (n-i) dc ⟨b,i*1,none⟩ (n-i) sc (n-i) R1 3 cs Tryz.underlying23 zjg (by rw[hW];exact setRow_heap W1 N ROW R1 _ (0,0) hr1)
   (by simp only[Nat.min_def];split<;>omega) hcl (λj v hj=>by
    rw[Addr.add_lit]
    rw[hcs0]at hj
    exact zkc (w:=W) (by rw[hW,setRow_other W1 N b R1 (by omega),hrest b hbw];exact hh) hj) (by omega) h1
 have hfin: ∀W:World,W.heap=(W1.setRow N R1).heap->W.os=w.os->W.tape=w.tape->W.output=w.output->zig w (some b) n ys (.returned (.slice (some ⟨N,0,none⟩) (n+1) G)) (W.setRow N R2):=λW hW e1 e2 e3=>by
  refine⟨N,G,R2,rfl,setRow_heap W N R1 R2 _ (0,0) (by rw[hW];exact setRow_heap W1 N ROW R1 _ (0,0) hr1),hGn,hG64,?_,?_,⟨by simpa[World.setRow]using e1,by simpa[World.setRow]using e2,by simpa[World.setRow]using e3,?_,λx hx hne=>?_⟩, .inr hN⟩
  ·rw[hR2]
   simp only[List.size_toArray,aL,List.length_take,List.length_drop,Array.length_toList,hR1s,hcl]
   omega
  ·rw[hys,hR2,List.toList_toArray,hR1,List.toList_toArray,hcl,hvl]
   have e3:ROW.toList.take (i*1)=os:=by
    rw[hROW,Array.toList_append,Array.toList_append,List.append_assoc]
    exact List.take_left' hol
   rw[e3]
   have e4:(os++vs++ROW.toList.drop (i*1+1)).take ((i+1)*1)=os++vs:=List.take_left' (by rw[aL,hol,hvl];omega)
   rw[e4,List.take_left' (by rw[aL,aL,hol,hvl,hcl];omega),hos,hcs0]
   rw[List.take_take,Nat.min_eq_left (by omega),show n*1=i*1+(n-i)*1 by omega,List.drop_take,Nat.add_sub_cancel_left]
  ·simp only[World.setRow,Array.size_modify,hW,hsz1,hN]
   omega
  ·have hx':x<N:=by rw[hN];exact hx
   rw[setRow_other W N x R2 (by omega),hW,setRow_other W1 N x R1 (by omega),hrest x hx']
 have hw1:IntKind.i64.wrap ((i:Int)+1)=(i:Int)+1:=by rw[IntKind.wrap_i64];omega
 have hb1:(0:Int)<=(i:Int)+1:=by omega
 have hin:i<=n:=by omega
 have htn:((i:Int)+1).toNat=i+1:=by omega
 have hb3:(i:Int)<=(n:Int):=by omega
 have hGi: ¬(G=i):=by omega
 have hGim: ¬(G=i+1):=by omega
 have hci: ¬(c=i):=by omega
 have hmixed:Tryz.prog.follows .mixedOrders=true:=mixed
 have q1:W1.os=w.os:=by rw[hW1];rfl
 have q2:W1.tape=w.tape:=by rw[hW1];rfl
 have q3:W1.output=w.output:=by rw[hW1];rfl
 simp only[Nat.mul_one]at hcpA hcpB
 clear hW1 hN hrest hsz1 hkk hik hold hROW hG hRl hys h1 hR1 hR2 hR1s hcs0 hcl hos hol
 go_enter Tryz.func90,Tryz.ntmps90
 go_wp2_with (first
  |(at_builtin;refine zgz rfl _ _ _ _ rfl rfl rfl (hrz _) ?_)
  |(at_builtin;refine zki rfl _ _ 23 23 rfl rfl rfl (hcpA _ rfl _ _) ?_))
 go_region_law_o (refine znj rfl _ _ 23 23 rfl (.slice (some ⟨N,i+1,none⟩) (n-i) (G-(i+1))) (.slice (some ⟨b,i,none⟩) (n-i) (c-i)) (by simp[Act.eval,Act.put]) (by simp[Act.eval,Act.put]) (hcpB (W1.setRow N R1).drew rfl 3 (G-(i+1)) (c-i)) ?_)
 go_wp2
 go_ret
 exact hfin _ rfl q1 q2 q3
def zrw(w:World)(k:Kp)(ob:Option Nat)(m:Nat)(out:List RV)(e:Ending)(w':World):Prop:=
 ∃v,e= .returned v/\Keep ob.toList w w'/\∃k':Kp,(∀b,b<w.heap.size->some b≠ob->k' b=k b)/\∃ob',chAt w' k' 3 1 m out false v ob'/\∀b,ob'=some b->(w.heap.size<=b\/ob=some b)/\b<w'.heap.size
theorem zk9{w:World}{k:Kp}{ob:Option Nat}{n:Nat}{ys:List Value}{out:List RV}{e:Ending}{w':World}(h:zig w ob n ys e w')(hl:RV.listAt w k out ys)(hol:out.length=(n+1)*1)(hk: ∀b,ob=some b->k b=0):
  zrw w k ob (n+1) out e w':=by
 obtain⟨b,cap,cur,rfl,hh,h1,h2,h3,h4,hg,hb⟩:=h
 have hbs:b<w'.heap.size:=(Array.getElem?_eq_some_iff.1 hh).1
 have hkk: ∀x,x<w.heap.size->some x≠ob->kset k b 0 x=k x:=λx hx hne=>by
  have:x≠b:=by
   rcases hb with h |h
   ·exactλe=>hne (by rw[h,e])
   ·omega
  simp[kset,this]
 have hw:Wrote w k w' (kset k b 0) ob:=by
  refine⟨hg.os,hg.tape,hg.output,hg.size,λx hx hne=>⟨hg.block x hx hne,hkk x hx hne⟩,λx hx=>?_⟩
  have hk0:=hk x hx.symm
  exact⟨by omega,λo ho=>by omega,λh=>by omega⟩
 refine⟨_,rfl,⟨hg.os,hg.tape,hg.output,hg.size,λx hx hne=>hg.block x hx λe=>hne (by rw[<-e];simp)⟩,kset k b 0,hkk,some b,⟨hol, .inr ⟨b,cap,cur,rfl,rfl,hh,h1,h2,h3,by simp[zbu],?_⟩⟩,λx hx=>?_⟩
 ·rw[h4]
  exact RV.list_mono hw.le _ _ hl
 ·cases hx
  exact⟨hb.symm.imp (λh=>Nat.le_of_eq h.symm) λh=>h,hbs⟩
theorem z7w{w:World}{k:Kp}{n i:Nat}{cells cells2:List RV}{u uv:Value}{ob ob2:Option Nat}(hch:chAt w k 3 1 n cells false u ob)(hch2:chAt w k 3 1 1 cells2 false uv ob2)
  (hap: ∀b,ob=some b->ob2≠some b) (hi:i<=n) (hn:n<=1000000000000):
  Calls aP 90 #[u, .int .i64 (i:Int),uv] w (zrw w k ob (n+1) (cells.take (i*1)++cells2++cells.drop (i*1))):=by
 obtain⟨hcl,hch'⟩:=id hch
 obtain⟨hcl2,hch2⟩:=hch2
 rcases hch2 with⟨_,⟨h,_⟩ |⟨_,h,_⟩⟩ |⟨vb,vc,vcur,rfl,rfl,hv,hv1,hv2,hv3,hv4,hv5⟩
 ·omega
 ·cases h
 have hvl:(vcur.toList.take (1*1)).length=1:=by rw[List.length_take,Array.length_toList];omega
 have hone: ∀{fs:List RV} {us:List Value},RV.listAt w k fs us->∀v∈us,v.oneCell'=true:=λ{fs us} h v hm=>by
  rw[RV.listAt_iff]at h
  obtain⟨j,hj⟩:=List.getElem?_of_mem hm
  have hjl:j<fs.length:=by rw[<-h.1];exact(List.getElem?_eq_some_iff.1 hj).1
  exact(h.2 j _ v (List.getElem?_eq_getElem hjl) hj).1
 have hk0: ∀b,ob=some b->k b=0:=λb hb=>by
  have:=(hch.blk hb).1
  simpa using this
 have hol:(cells.take (i*1)++cells2++cells.drop (i*1)).length=(n+1)*1:=by
  simp only[aL,List.length_take,List.length_drop,hcl,hcl2]
  omega
 by_cases hin:i=n
 ·subst hin
  obtain⟨i0,z,hi0,hzs,hzb,hz0,hzc⟩:=zmv
  obtain⟨xs,b,cap,cur,w',hrun,hxs,hh,h1,h2,h3,h4,hgr,hbb,hb0⟩:=zy7 (ty:=23) (qb:=vb) (qo:=0) (m:=1) (c:=vc) (news:=vcur.toList.take (1*1)) Tryz.underlying23 hi0 hz0 hzs hzb hzc hch hvl
   (λj u hj=>zkc (p:=0) (n:=1*1) hv (by simpa using hj)) (hone hv5) (by omega) (by unfold maxLen;omega) (by omega)
  have hxl:xs.length=i*1:=(zay hxs).trans hcl
  have hout:RV.listAt w k (cells.take (i*1)++cells2++cells.drop (i*1)) (xs++vcur.toList.take (1*1)):=by
   rw[List.take_of_length_le (by omega),List.drop_eq_nil_of_le (by omega),List.append_nil]
   exact za6 hxs hv5
  have hpost: ∀(base:Option Addr) (c:Nat),u= .slice base i c->i<=c->c<=maxLen->(base=none->i=0/\c=0)->Calls aP 90 #[u, .int .i64 (i:Int), .slice (some ⟨vb,0,none⟩) 1 vc] w (zrw w k ob (i+1) (cells.take (i*1)++cells2++cells.drop (i*1))):=λbase c hu hic hcm hb=>by
   subst hu
   refine(z7x base i c vb vc w w' _ hic (by unfold maxLen at hcm;omega) hb hrun).mono ?_
   rintro e w'' ⟨rfl,rfl⟩
   refine zk9 ⟨b,cap,cur,rfl,hh,h1,h2,h3,h4,hgr,hbb⟩ hout hol hk0
  rcases hch' with⟨_,⟨rfl,p,rfl⟩ |⟨_,h,_⟩⟩ |⟨b,cap,cur,rfl,rfl,_,g1,g2,_⟩
  ·exact hpost p 0 rfl (Nat.le_refl _) (by unfold maxLen;omega) λ_=>⟨rfl,rfl⟩
  ·cases h
  ·exact hpost _ cap rfl g1 g2 λh=>by cases h
 ·have hlt:i<n:=by omega
  rcases hch' with⟨_,⟨h,_⟩ |⟨_,h,_⟩⟩ |⟨b,cap,cur,rfl,rfl,hh,g1,g2,g3,g4,g5⟩
  ·omega
  ·cases h
  have hne:vb≠b:=λe=>hap b rfl (by rw[e])
  have hout:RV.listAt w k (cells.take (i*1)++cells2++cells.drop (i*1)) ((cur.toList.take (n*1)).take (i*1)++vcur.toList.take (1*1)++(cur.toList.take (n*1)).drop (i*1)):=
   za6 (za6 (zbp g5 _) hv5) (zb7 g5 _)
  have hm:cap<=9223372036854775807:=by unfold maxLen at g2;omega
  by_cases hroom:n+1<=cap
  ·exact(z1s b n cap i vb vc cur vcur _ _ w hlt hroom hm hne hh g3 hv rfl hvl (hone g5) (hone hv5) _ rfl).mono λe w' h=>zk9 h hout hol hk0
  ·exact(z4j b n i vb vc cur vcur _ _ w hlt (by omega) cap g1 (by omega) hh g3 hv rfl hvl (hone g5) (hone hv5) _ rfl).mono λe w' h=>zk9 h hout hol hk0
end
section
variable {P:Program} {T:TT} {B:Bs} {N:Nat} {S:St} {a:Act} {w:World} {k:Kp} {g:Env} {o:Oper}
theorem Vstep.callT{xs:Array Operand}{ts:Array TypeId}{f:FuncId}{vs args:List RV}{m n:Nat}{c:(Nat->Option Addr×Nat)->Ow}{ls:Nat->List Int}{K:St->Prop}(hop:o.op= .call {callee:= .value (.func f),args:=xs,argTypes:=ts})
  (hx:oprs S xs.toList=some vs) (hc:Cvs vs args) (hg:zif P f args m (λτ=>(0,some (c τ))::tO 1 τ ls n) (λ_=> .own 0)) (hf: ∀τ,(c τ).free) (hm:n<m) (nx nx':Nat) (hnx:S.nx=nx) (hnx':nx+m<=nx')
  (hK: ∀τ,newK ⟨S.F,(nx,some (c τ))::(S.O++tO (nx+1) τ ls n),nx'⟩ o.dst (.own nx) none K):Vstep P S o K:=by
 subst hnx
 refine Vstep.callFx nx' hnx' hop hx hc hg (λτ=>(S.nx,some (c τ))::(S.O++tO (S.nx+1) τ ls n)) (λ_=> .own S.nx) (λτ id o' h=>?_) (λτ=>⟨?_,λw k g1 v h g2 hg2=>?_⟩) λτ=>?_
 ·rcases zal h with⟨rfl,e⟩ |⟨_,h⟩
  ·cases e;exact .inr ⟨0,rfl,by omega,rfl,hf τ⟩
  ·rcases zpk h with h |h
   ·exact .inl h
   ·obtain⟨x,hx,rfl,rfl⟩:=zc4 h
    exact .inr ⟨x+1,by omega,by omega,by rw[zbm (by omega)];exact zby hx,trivial⟩
 ·show S.nx<nx';omega
 ·simp only[TF.at_]at h⊢
  rw[h,<-hg2 0];rfl
 ·have:=hK τ
  rw[zat]at this
  exact this
theorem zzu{l:List Int}{v:Option Addr×Nat}{vb:Value×Option Nat}{k':Kp}(h:(zdi l v).at_ w k vb)(hle:Le w k w k')(hk: ∀b,vb.2=some b->k' b=l.length):(is l).at_ w k' vb.1:=by
 obtain⟨_,h1,h2⟩:=h
 have h3:chAt w k' 3 1 l.length (l.map I) true vb.1 vb.2:=by
  refine⟨h1,?_⟩
  rcases h2 with⟨h,h' |⟨_,h',_⟩⟩ |⟨b,cap,cur,e1,e2,e3,e4,e5,e6,e7,e8⟩
  ·exact .inl ⟨h, .inl h'⟩
  ·cases h'
  ·refine .inr ⟨b,cap,cur,e1,e2,e3,e4,e5,e6,?_,RV.list_mono hle _ _ e8⟩
   rw[if_pos rfl,hk b e1,Nat.mul_one]
 exact h3.sl
theorem Vstep.peekT{f:FuncId}{x:Operand}{xs:List Operand}{ts:Array TypeId}{id:Nat}{l:List Int}{v:Option Addr×Nat}{vs:List RV}{K:St->Prop}{args:Array Operand}{r:RV}
  (hop:o.op= .call {callee:= .value (.func f),args:=args,argTypes:=ts}) (hargs:args.toList=x::xs) (hx:opr S x=some (.r (.x (.slice v.1 l.length v.2)))) (ho:oget S.O id=some (.gen (zdi l v))) (hxs:oprs S xs=some vs)
  (hr: ∀w k w' k' v,r.at_ w k v->r.at_ w' k' v) (hg:zab P f (is l::vs) (.r r)) (hK:newK S o.dst (.r r) none K):Vstep P S o K:=by
 rw[zat]at hK
 refine Vstep.one (λB N a w k Q ⟨g,hs⟩ hd=>?_) hK
 obtain⟨⟨fn,c,hf,hb,hn⟩,hg⟩:=hg
 have hxv:=(zag hs hx).2
 simp only[TF.at_,RV.at_]at hxv
 obtain⟨q1,q2,q3,q4⟩:=hs.owns id _ ho
 simp only[Ow.at_]at q3
 have hch:chAt w k 3 1 l.length (l.map I) false (g id).1 (g id).2:=q3.2
 let k1:Kp:=match(g id).2 with
  |some b=>kset k b l.length
  |none=>k
 have hw:Wrote w k w k1 (g id).2:=by
  refine⟨rfl,rfl,rfl,Nat.le_refl _,λb hb hne=>⟨rfl,?_⟩,λb hb=>?_⟩
  ·simp only[k1]
   cases hob:(g id).2 with
   |none=>rfl
   |some b'=>simp only[kset];rw[if_neg (λh=>hne (by rw[hob,h]))]
  ·have hkb:=(hch.blk hb.symm).1
   simp only[Bool.false_eq_true,if_false]at hkb
   exact⟨by omega,λ_ _=>rfl,λh=>by omega⟩
 have hle:=hw.le
 have hp:=RV.parts_mono hle _ _ (zlj hs hxs)
 have hsl:(is l).at_ w k1 (a.eval x):=by
  rw[hxv,<-q3.1]
  exact zzu q3 hle λb hb=>by simp only[k1,hb,zbu]
 have hp2:RV.partsAt w k1 (is l::vs) (a.eval x::xs.map a.eval):=by simp only[RV.partsAt];exact⟨_,_,rfl,hsl,hp⟩
 unfold Oper.wp
 have hargs':args.map a.eval=(a.eval x::xs.map a.eval).toArray:=by apply Array.ext';simp[hargs]
 rw[show(execOp a.eval o).run P w=(callFunc f (a.eval x::xs.map a.eval).toArray).run P w by simp[execOp,hop,resolve,Deferred.ofValue,invoke,Act.eval,hargs'],zc7 hf hb hn]
 simp only[Oper.upon]
 refine(hg w k1 _ hp2).mono ?_
 rintro en w' ⟨v,rfl,hext,k',hk',hres⟩
 simp only
 exact⟨k,g,(hs.ext hext λ_ _=>rfl).put hd trivial (hr _ _ _ _ _ hres)⟩
theorem Vstep.insT{x y z:Operand}{ts:Array TypeId}{id id2 i:Nat}{l l':List Int}{q:Int}{v:Option Addr×Nat}{K:St->Prop}
  (hop:o.op= .call {callee:= .value (.func 90),args:= #[x,y,z],argTypes:=ts}) (hx:opr S x=some (.r (.x (.slice v.1 l.length v.2)))) (ho:oget S.O id=some (.gen (zdi l v)))
  (hy:opr S y=some (.r (.i .i64 (i:Int)))) (hz:opr S z=some (.own id2)) (ho2:oget S.O id2=some (.ch 3 1 1 [I q] false)) (hne:id≠id2) (hi:i<=l.length) (hn:l.length<=1000000000000) (hl':l'=l.take i++[q]++l.drop i)
  (hK: ∀v':Option Addr×Nat,newK ⟨S.F,(S.nx,some (.gen (zdi l' v')))::(id,none)::S.O,S.nx+1⟩ o.dst (.r (.x (.slice v'.1 l'.length v'.2))) none K):Vstep aP S o K:=by
 refine⟨Option Addr×Nat,λv'=>St.put ⟨S.F,(S.nx,some (.gen (zdi l' v')))::(id,none)::S.O,S.nx+1⟩ o.dst (.r (.x (.slice v'.1 l'.length v'.2))),λB N a w k Q ⟨g,hs⟩ hd=>?_,λv'=>by have:=hK v';rw[zat]at this;exact this⟩
 have hxv:=(zag hs hx).2
 have hyv:=(zag hs hy).2
 have hzv:=(zag hs hz).2
 simp only[TF.at_,RV.at_]at hxv hyv hzv
 obtain⟨q1,q2,q3,q4⟩:=hs.owns id _ ho
 obtain⟨r1,r2,r3,r4⟩:=hs.owns id2 _ ho2
 simp only[Ow.at_]at q3 r3
 rw[<-q3.1]at hxv
 replace q3:chAt w k 3 1 l.length (l.map I) false (g id).1 (g id).2:=q3.2
 obtain⟨fn,c,hf,hb,hnm⟩:zkn aP 90:=zfo Tryz.func90 rfl (by kernel_rfl)
 unfold Oper.wp
 rw[show(execOp a.eval o).run aP w=(callFunc 90 #[a.eval x,a.eval y,a.eval z]).run aP w by simp[execOp,hop,resolve,Deferred.ofValue,invoke,Act.eval],zc7 hf hb hnm]
 simp only[Oper.upon]
 rw[hxv,hyv,hzv]
 refine(z7w q3 r3 (λb hb=>hs.apart id id2 _ _ b ho ho2 hne hb) hi hn).mono ?_
 rintro en w' ⟨u,rfl,hkeep,k',hk',ob',hch,hob⟩
 simp only
 have hcells:(l.map I).take (i*1)++[I q]++(l.map I).drop (i*1)=l'.map I:=by rw[hl',Nat.mul_one];simp[List.map_take,List.map_drop]
 have hlen:l'.length=l.length+1:=by rw[hl'];simp;omega
 rw[hcells,<-hlen]at hch
 have hw:Wrote w k w' k' (g id).2:=by
  refine⟨hkeep.os,hkeep.tape,hkeep.output,hkeep.size,λb hb hne=>⟨hkeep.block b hb (λhm=>hne ?_),hk' b hb hne⟩,λb hb=>?_⟩
  ·rw[Option.mem_toList]at hm;exact hm.symm
  ·have hkb:=(q3.blk hb.symm).1
   simp only[Bool.false_eq_true,if_false]at hkb
   exact⟨by omega,λo' ho'=>by omega,λh=>by omega⟩
 have h1:=hs.wrote hw (id:=some id) ⟨⟨_,ho⟩,rfl⟩
 obtain⟨v',hv'⟩: ∃v':Option Addr×Nat,u= .slice v'.1 l'.length v'.2:=by
  obtain⟨_,⟨h1,⟨h2,p,h3⟩ |⟨_,h2,_⟩⟩ |⟨b,cap,cur,h1,h2,_⟩⟩:=hch
  ·exact⟨(p,0),by rw[h3,h2]⟩
  ·cases h2
  ·exact⟨(some ⟨b,0,none⟩,cap),h2⟩
 have h2:=h1.adopt (dst:=none) (λd e=>by cases e) (o:= .gen (zdi l' v')) (vb:=(u,ob')) trivial ⟨hv',hch⟩ (λb hb=>⟨?_,(hob b hb).2⟩) λi o' b hi hb hgi=>?_
 ·exact⟨v',k',_,SatE.put h2 hd trivial (by simp only[TF.at_,RV.at_];exact hv')⟩
 ·rcases(hob b hb).1 with h |h
  ·left;have:=hs.keep.size;omega
  ·exact(q4 b h).1
 ·rcases zal hi with⟨_,e'⟩ |⟨hne,hi⟩
  ·cases e'
  ·rcases(hob b hb).1 with h |h
   ·have:=((hs.owns i o' hi).2.2.2 b hgi).2;omega
   ·exact hs.apart id i _ o' b ho hi hne h hgi
theorem z80{id0 n base m:Nat}{e:TypeId}{sz:Nat}{cells cells':List RV}{τ:Nat->Option Addr×Nat}{ls:Nat->List Int}{O':List (Nat×Option Ow)}(ho:oget S.O id0=some (.ch e sz n cells false))
  (ht: ∀x,x<m->oget S.O (x+base)=some (.gen (zdi (ls x) (τ x)))) (hne: ∀x,x<m->x+base≠id0) (hO: ∀id o,oget O' id=some o->id≠id0->oget S.O id=some o/\∀x,x<m->id≠x+base) (hO0:oget O' id0=some (.ch e sz n cells' false)) (hlen:cells'.length=cells.length)
  (hcells: ∀w k us,(∀x,x<m->(is (ls x)).at_ w k (.slice (τ x).1 (ls x).length (τ x).2))->RV.listAt w k cells us->RV.listAt w k cells' us):Sub S ⟨S.F,O',S.nx⟩:=by
 intro B N a w k ⟨g,hs⟩
 classical
 let tb:Nat->Prop:=λb=>∃x,x<m/\(g (x+base)).2=some b
 let k1:Kp:=λb=>if h:tb b then(ls h.choose).length else k b
 have hin: ∀x,x<m->∀b,(g (x+base)).2=some b->k1 b=(ls x).length:=λx hx b hb=>by
  have h:tb b:=⟨x,hx,hb⟩
  simp only[k1,dif_pos h]
  have h2:=h.choose_spec
  rcases Nat.decEq (h.choose+base) (x+base)with e |e
  ·exact absurd hb (hs.apart _ _ _ _ b (ht _ h2.1) (ht x hx) e h2.2)
  ·rw[show h.choose=x by omega]
 have hout: ∀b,¬tb b->k1 b=k b:=λb h=>by simp only[k1,dif_neg h]
 have hz: ∀x,x<m->∀b,(g (x+base)).2=some b->k b=0:=λx hx b hb=>by
  obtain⟨_,_,q3,_⟩:=hs.owns _ _ (ht x hx)
  simp only[Ow.at_]at q3
  have q3':chAt w k 3 1 (ls x).length ((ls x).map I) false (g (x+base)).1 (g (x+base)).2:=q3.2
  have:=(q3'.blk hb).1
  simpa using this
 have hle:Le w k w k1:=⟨Nat.le_refl _,λb _=>by
  by_cases h:tb b
  ·obtain⟨x,hx,hb⟩:=h
   rw[hz x hx b hb];omega
  ·rw[hout b h];exact Nat.le_refl _,λ_ _ _ _=>rfl,λ_ _ _ _ _ h=>h⟩
 have hnot: ∀id o b,oget S.O id=some o->(∀x,x<m->id≠x+base)->(g id).2=some b->¬tb b:=λid o b h hid hb ⟨x,hx,hb'⟩=>hs.apart id _ o _ b h (ht x hx) (hid x hx) hb hb'
 have hrd: ∀x,x<m->(is (ls x)).at_ w k1 (.slice (τ x).1 (ls x).length (τ x).2):=λx hx=>by
  obtain⟨_,_,q3,_⟩:=hs.owns _ _ (ht x hx)
  simp only[Ow.at_]at q3
  have:=zzu q3 hle (λb hb=>hin x hx b hb)
  rw[q3.1]at this
  exact this
 refine⟨k1,g,hs.size,hs.defers,hs.keep,λb hb hx=>?_,λt f hf=>⟨(hs.facts t f hf).1,TF.mono hle (hs.facts t f hf).2⟩,λid o' h=>?_,λi j oi oj b hi hj hne'=>?_⟩
 ·have: ¬tb b:=λ⟨x,hx',hbb⟩=>by
   rcases((hs.owns _ _ (ht x hx')).2.2.2 b hbb).1 with h |h
   ·omega
   ·exact hx h
  rw[hout b this]
  exact hs.kk b hb hx
 ·by_cases hid:id=id0
  ·subst hid
   rw[hO0]at h
   cases h
   obtain⟨q1,q2,q3,q4⟩:=hs.owns _ _ ho
   refine⟨q1,trivial,?_,q4⟩
   simp only[Ow.at_]at q3⊢
   have h0:=λb hb=>hnot _ _ b ho (λx hx=>(hne x hx).symm) hb
   have q5:=chAt.mono hle (λb hb=>⟨rfl,hout b (h0 b hb)⟩) q3
   obtain⟨c1,c2⟩:=q5
   refine⟨by rw[hlen];exact c1,?_⟩
   rcases c2 with⟨c2,c3 |⟨_,c3,_⟩⟩ |⟨b,cap,cur,e1,e2,hh,s1,s2,s3,s4,s5⟩
   ·exact .inl ⟨c2, .inl c3⟩
   ·cases c3
   ·exact .inr ⟨b,cap,cur,e1,e2,hh,s1,s2,s3,s4,hcells w k1 _ hrd s5⟩
  ·obtain⟨h1,h2⟩:=hO id o' h hid
   obtain⟨q1,q2,q3,q4⟩:=hs.owns _ _ h1
   exact⟨q1,q2,Ow.mono hle (λb hb=>⟨rfl,hout b (hnot _ _ b h1 h2 hb)⟩) q3,q4⟩
 ·have src: ∀i oi,oget O' i=some oi->∃o,oget S.O i=some o:=λi oi h=>by
   by_cases hid:i=id0
   ·subst hid;exact⟨_,ho⟩
   ·exact⟨_,(hO i oi h hid).1⟩
  obtain⟨_,hi⟩:=src i oi hi
  obtain⟨_,hj⟩:=src j oj hj
  exact hs.apart i j _ _ b hi hj hne'
end
end Go.Proofs.YtpcfoglfakeimaaGreat.Sx
