import Derived.Test.YtpdllgbfemnemaaGreatZKb
import Derived.Laws.BytesArg
import Derived.Lib.Bytes
import Derived.Test.YtpdllgbfemnemaaGreatZTn
import Derived.Test.YtpdllgbfemnemaaGreatZKq
import Derived.Test.YtpdllgbfemnemaaGreatZNd
import Derived.Test.YtpdllgbfemnemaaGreatZTs
namespace Go.Proofs.YtpdllgbfemnemaaGreat.Sx
open Go.RowKit
set_option linter.unusedVariables false
section
def nums(l:List UInt8):List Int:=l.map λb=>(b.toNat:Int)
theorem z3q{S:Nat->Prop}(p:AC)(l:List UInt8)(w:World)(hp:By w S p l):(convert 28 9 (.slice p.a l.length p.c)).run Tryz.prog w= .ok (.string (strOfNums (nums l))) w:=by
 rcases Nat.eq_zero_or_pos l.length with hn |hn
 ·have hl:l=[]:=List.eq_nil_of_length_eq_zero hn
  subst hl
  rw[run_convert_bytes_string w _ _ _ _ _ _ Tryz.underlying28 Tryz.underlying5 Tryz.underlying9]
  simp only[List.length_nil]
  cases p.a<;>simp[Conv.bytesToString,loadCells]
  all_goals rfl
 ·obtain⟨b,o,e,hc⟩:=hp.form hn
  rw[e]
  exact run_convert_bytes_arg w _ _ Tryz.underlying28 Tryz.underlying5 b o l.length p.c (nums l) (by simp[nums]) (λi hi=>by
   rw[hc i hi]
   simp[nums,hi]) _ Tryz.underlying9
theorem zeob(l m:List UInt8):((strOfNums (nums l)).toList==(strOfNums (nums m)).toList)=decide (l=m):=by
 have h: ∀l:List UInt8,(strOfNums (nums l)).toList=l:=λl=>by
  rw[Lib.strOfNums_toList]
  simp[Lib.bytesOf,nums,Function.comp_def]
 rw[h,h]
 by_cases e:l=m
 ·subst e
  simp
 ·simp[e]
theorem z54(p q:AC)(l m:List UInt8){S:Nat->Prop}(w:World)(hp:By w S p l)(hq:By w S q m):
  Calls Tryz.prog 151 #[.slice p.a l.length p.c, .slice q.a m.length q.c] w λe w'=>e= .returned (.bool (decide (l=m)))/\w'=w:=by
 have g1:=z3q p l w hp
 have g2:=z3q q m w hq
 rw[<-zeob]
 generalize strOfNums (nums l)=s1 at*
 generalize strOfNums (nums m)=s2 at*
 obtain⟨a,c⟩:=p
 obtain⟨a',c'⟩:=q
 go_enter Tryz.func151,Tryz.ntmps151
 go_wp2_with fail
 go_ret
 exact⟨rfl,rfl⟩
theorem zb2b(l m:List UInt8):zaf Tryz.prog 151 [bs l,bs m] (.r (.b (decide (l=m)))):=
 zb1 (za8 Tryz.func151 rfl (by kernel_rfl)) λw k vs hp=>by
  obtain⟨a,b,rfl,h1,h2⟩:=zim hp
  obtain⟨p,rfl,hp1⟩:=zfv h1
  obtain⟨q,rfl,hq1⟩:=zfv h2
  exact(z54 p q l m w hp1 hq1).mono λ_ _ ⟨e,hw⟩=>⟨_,e,hw▸Ext.refl _,k,λ_ _=>rfl,by simp[Res.at_,RV.at_]⟩
end
section
theorem zqi(s:Lean_)(hs:s.fitN)(x:Int)(hx:zae s.opn x=none):zaf Tryz.prog 152 [zj0 s.leaves s.own s.opn s.shut,I x] (.r (bs (zbe s.shut x))):=by
 refine zac (T:=Tab) mixed Tab_ok Tryz.func152 rfl (by kernel_rfl) ?_
 obtain⟨hs1,hs2,hs3,hs4⟩:=id hs
 refine Vstep.node2 rfl rfl rfl (λn hn=>by rw[hx]at hn;cases hn) (λ_=>?_)
 refine zu rfl (zq ?_)
 refine Vstep.hash1 rfl rfl rfl (λm hm=>?_) (λhm=>?_)
 ·obtain⟨e,sp,hsp,_,rfl⟩:=zc0 hm
  have:=hs4 sp hsp
  refine ze (zfe _ (by omega)) ?_
  exact zf (by rw[e];rfl)
 ·refine Vcall.mk' (zfe [] (by simp)) (zk (Cv.nil 1) Cvs.nil) ?_
  exact zf (by rw[zkt hm];rfl)
theorem z1z(s:Lean_)(hs:s.fitN)(k:Nat)(hk:k<65536):zaf Tryz.prog 152 [zj0 s.leaves s.own s.opn s.shut,I (nd 0 k)] (.r (bs (zaj s 0 k))):=by
 cases hx:zae s.opn (nd 0 k)with
 |none=>
  have:=zqi s hs (nd 0 k) hx
  have e:zaj s 0 k=zbe s.shut (nd 0 k):=by simp[zaj,hx]
  rw[e];exact this
 |some n=>
  have e:zaj s 0 k=shaB (zfz k n):=by simp[zaj,hx]
  rw[e]
  refine zac (T:=Tab) mixed Tab_ok Tryz.func152 rfl (by kernel_rfl) ?_
  refine Vstep.node2 rfl rfl rfl (λm hm=>?_) (λhm=>by rw[hx]at hm;cases hm)
  rw[hx]at hm
  cases hm
  obtain⟨sp,hsp,_,rfl⟩:=za7 hx
  have hfit:=hs.2.2.1 sp hsp
  refine zw rfl (zt ?_)
  refine⟨by decide,_,rfl,?_⟩
  refine zu (by rw[zck];rfl) (zq ?_)
  refine⟨by decide,(k:Int),?_,?_⟩
  ·rw[zd1,Int.tdiv_eq_ediv_of_nonneg (by omega)]
   rw[show(((2*k:Nat):Int))/2=k by omega]
   exact wrap_i64 (by omega)
  refine za rfl rfl ?_
  refine ze (zrr k sp.node hfit) ?_
  have hle:=zxj k sp.node hfit
  refine zx ?_
  refine Vcall.mk' (zyt [zfz k sp.node] (by simp;omega)) (zk (zf (by rw[bss1];rfl)) Cvs.nil) ?_
  exact zf (by simp[bs])
theorem z43(s:Lean_)(hs:s.fitN)(h:Nat)(hh:h+1<=16)(ih: ∀k,k<2^(16-h)->zaf Tryz.prog 152 [zj0 s.leaves s.own s.opn s.shut,I (nd h k)] (.r (bs (zaj s h k))))(k:Nat)(hk:k<2^(16-(h+1))):
  zaf Tryz.prog 152 [zj0 s.leaves s.own s.opn s.shut,I (nd (h+1) k)] (.r (bs (zaj s (h+1) k))):=by
 have hleft:=zdk (d:=16) (by omega) (show h+1<=16 by omega) hk
 have hright:=zc7 (d:=16) (by omega) (show h+1<=16 by omega) hk
 have hk2:2^(16-h)=2*2^(16-(h+1)):=by rw[show 16-h=(16-(h+1))+1 by omega,Nat.pow_succ];omega
 cases hx:zae s.opn (nd (h+1) k)with
 |none=>
  have:=zqi s hs (nd (h+1) k) hx
  have e:zaj s (h+1) k=zbe s.shut (nd (h+1) k):=by simp[zaj,hx]
  rw[e];exact this
 |some n=>
  have e:zaj s (h+1) k=shaB (zf2 n (zaj s h (2*k)) (zaj s h (2*k+1))):=by simp[zaj,hx]
  rw[e]
  refine zac (T:=Tab) mixed Tab_ok Tryz.func152 rfl (by kernel_rfl) ?_
  refine Vstep.node2 rfl rfl rfl (λm hm=>?_) (λhm=>by rw[hx]at hm;cases hm)
  rw[hx]at hm
  cases hm
  obtain⟨sp,hsp,_,rfl⟩:=za7 hx
  have hfit:=hs.2.2.1 sp hsp
  refine zw rfl (zt ?_)
  refine⟨by decide,_,rfl,?_⟩
  refine zw (by rw[zc5];rfl) (zt ?_)
  refine Vdraw.mk' (by kernel_rfl) ?_
  refine za rfl rfl ?_
  refine za rfl rfl ?_
  refine ze (zii _) ?_
  rw[hleft]
  refine ze (ih (2*k) (by omega)) ?_
  refine za rfl rfl ?_
  refine ze (zg5 _) ?_
  rw[hright]
  refine ze (ih (2*k+1) (by omega)) ?_
  refine ze (zu5 sp.node _ _ hfit) ?_
  have hle:=zxv sp.node (zaj s h (2*k)) (zaj s h (2*k+1)) hfit
  refine zx ?_
  refine Vcall.mk' (zyt [zf2 sp.node (zaj s h (2*k)) (zaj s h (2*k+1))] (by simp;omega)) (zk (zf (by rw[bss1];rfl)) Cvs.nil) ?_
  exact zf (by simp[bs])
theorem z30(s:Lean_)(hs:s.fitN): ∀(h k:Nat),h<=16->k<2^(16-h)->zaf Tryz.prog 152 [zj0 s.leaves s.own s.opn s.shut,I (nd h k)] (.r (bs (zaj s h k)))
 |0,k,_,hk=>z1z s hs k (by simpa using hk)
 |h+1,k,hh,hk=>z43 s hs h hh (λk hk=>z30 s hs h k (by omega) hk) k hk
end
section
def putN(O:List Spot)(x:Int):Spot:=⟨x,(zae O x).getD Node.zero⟩
def putH(H:List Stub)(x:Int):Stub:=⟨x,zbe H x⟩
def zfo(leaves own:Int)(O:List Spot)(H:List Stub):Lean_:=⟨leaves,own,(zcb (O.map λs=>s.at_)).map (putN O),(zcb (H.map λs=>s.at_)).map (putH H)⟩
theorem zx2{l:List Int}{x:Int}:x∈zcb l↔x∈l:=by unfold zcb;exact List.mem_mergeSort
theorem zl0(l:List Int):(zcb l).length=l.length:=by unfold zcb;exact List.length_mergeSort l
theorem z5l{O:List Spot}{x:Int}(h:x∈O.map λs=>s.at_): ∃s∈O,zae O x=some s.node:=by
 cases hf:zae O x with
 |none=>
  simp only[zae,Option.map_eq_none_iff,List.find?_eq_none,decide_eq_true_eq]at hf
  obtain⟨s,hs,e⟩:=List.mem_map.1 h
  exact absurd e (hf s hs)
 |some n=>
  obtain⟨s,hs,_,rfl⟩:=za7 hf
  exact⟨s,hs,rfl⟩
theorem z5b{H:List Stub}{x:Int}(h:x∈H.map λs=>s.at_): ∃s∈H,zcc H x=some s.hash:=by
 cases hf:zcc H x with
 |none=>
  simp only[zcc,Option.map_eq_none_iff,List.find?_eq_none,decide_eq_true_eq]at hf
  obtain⟨s,hs,e⟩:=List.mem_map.1 h
  exact absurd e (hf s hs)
 |some n=>
  obtain⟨_,s,hs,_,rfl⟩:=zc0 hf
  exact⟨s,hs,rfl⟩
set_option maxHeartbeats 4000000 in
theorem zcbb(leaves own:Int)(O:List Spot)(H:List Stub)(hOn:O.length<=1000000)(hHn:H.length<=1000000)(hOf: ∀s∈O,s.node.fit)(hOi: ∀s∈O,i64 s.at_)(hHi: ∀s∈H,i64 s.at_)(hHl: ∀s∈H,s.hash.length<=1000000000):
  zaf Tryz.prog 117 [zj0 leaves own O H] (.r (.ag (zfo leaves own O H).c)):=by
 refine zac (T:=Tab) mixed Tab_ok Tryz.func117 rfl (by kernel_rfl) ?_
 have kN:=zxz (za5 O) (by simpa[za5]using hOn) (λx hx=>by
  simp only[za5,List.mem_map]at hx
  obtain⟨s,hs,rfl⟩:=hx
  exact hOi s hs)
 have kH:=zxl (zba H) (by simpa[zba]using hHn) (λx hx=>by
  simp only[zba,List.mem_map]at hx
  obtain⟨s,hs,rfl⟩:=hx
  exact hHi s hs)
 rw[zui]at kN
 rw[zve]at kH
 obtain⟨K,hK⟩: ∃K,K=zcb (O.map λs=>s.at_):=⟨_,rfl⟩
 obtain⟨M,hM⟩: ∃M,M=zcb (H.map λs=>s.at_):=⟨_,rfl⟩
 have hKl:K.length<=1000000:=by rw[hK,zl0,List.length_map];exact hOn
 have hMl:M.length<=1000000:=by rw[hM,zl0,List.length_map];exact hHn
 have hKm: ∀x∈K,∃s∈O,zae O x=some s.node:=λx hx=>z5l (zx2.1 (hK▸hx))
 have hMm: ∀x∈M,∃s∈H,zcc H x=some s.hash:=λx hx=>z5b (zx2.1 (hM▸hx))
 rw[<-hK]at kN
 rw[<-hM]at kH
 have hL:zfo leaves own O H=⟨leaves,own,K.map (putN O),M.map (putH H)⟩:=by rw[hK,hM];rfl
 rw[hL]
 clear hL hK hM
 refine ze (z2r (za5 O)) ?_
 refine ze kN ?_
 refine zy (λj:Nat=>{F:=[(1, .own 0),(2, .own 1),(3, .own 2),(16, .r (is K)),(17, .r (I K.length)),(18, .r (I j))],O:=[(0,some (pbox leaves own O H)),(1,some (.box (zero4.map .r))),(2,some (.box [.r (I leaves), .r (I own), .own 3, .own 4])),(3,some (zda ((K.take j).map (putN O)))),(4,some (zd6 []))],nx:=5})
  (λj=>j<=K.length) (λj=>K.length-j) 0 (by omega)
  ((zcu true 2 2 77 11 (cells:=[.r (I leaves), .r (I own), .r (.x (.slice none 0 0)), .r (.x (.slice none 0 0))]) rfl rfl).trans ((zcu true 2 3 79 2 (cells:=[.r (I leaves), .r (I own), .own 4, .r (.x (.slice none 0 0))]) rfl rfl).trans (zad [(0,0),(1,1),(2,2),(3,4),(4,5)] rfl ⟨rfl,rfl,rfl,cr,cr,cr,trivial⟩ ⟨⟨_,_,rfl,cr,_,_,rfl,cr,_,_,rfl,cr,_,_,rfl,cr,rfl⟩,zab zero4,cvc (zax _) (cvc (zax _) (cvc rfl (cvc rfl rfl))),⟨rfl,rfl,rfl,rfl,zn _⟩,⟨rfl,rfl,rfl,rfl,zn _⟩,trivial⟩))) ?_
 intro j hj
 refine zh (λh=>zq ?_) (λh=>zt ?_)
 ·simp only[zb]at h
  have hj':j<K.length:=by omega
  obtain⟨s,hs,hfs⟩:=hKm K[j] (List.getElem_mem hj')
  refine zm (by omega) (by omega) (zai rfl hj') (zg rfl ?_)
  refine Vdraw.code (Vcode.float mixed Tab_ok 10 [⟨0,22, .adr 2 2,[]⟩,⟨1,23, .own 3,[0]⟩,⟨2,24, .r (I K[j]),[]⟩,⟨5,27, .r (I K[j]),[]⟩] [(3,[]),(4,[]),(6,[5]),(7,[]),(8,[2]),(9,[])] (by kernel_rfl) (F:=[(1, .own 0),(2, .own 1),(3, .own 2),(5, .r (I K[j])),(16, .r (is K)),(17, .r (I K.length)),(18, .r (I j))]) (O:=[(0,some (pbox leaves own O H)),(1,some (.box (zero4.map .r))),(2,some (.box [.r (I leaves), .r (I own), .own 3, .own 4])),(3,some (zda ((K.take j).map (putN O)))),(4,some (zd6 []))]) (nx:=5) (zad [(0,0),(1,1),(2,2),(3,3),(4,4)] rfl ⟨rfl,rfl,rfl,cr,cr,cr,cr,trivial⟩ ⟨⟨_,_,rfl,cr,_,_,rfl,cr,_,_,rfl,cr,_,_,rfl,cr,rfl⟩,zab zero4,cvc (zax _) (cvc (zax _) (cvc rfl (cvc rfl rfl))),⟨rfl,rfl,rfl,rfl,zn _⟩,⟨rfl,rfl,rfl,rfl,zn _⟩,trivial⟩) ?_)
  refine⟨rfl,⟨λY=>zo _,λY=>zo _,λY=>zo _,λY=>zo _,trivial⟩,(25, .adr 0 2)::[(1, .own 0),(2, .own 1),(3, .own 2),(5, .r (I K[j])),(16, .r (is K)),(17, .r (I K.length)),(18, .r (I j))],[(0,some (pbox leaves own O H)),(1,some (.box (zero4.map .r))),(2,some (.box [.r (I leaves), .r (I own), .own 3, .own 4])),(3,some (zda ((K.take j).map (putN O)))),(4,some (zd6 []))],5,λY=>zo _,?_⟩
  refine⟨rfl,⟨λY=>zo _,λY=>zo _,λY=>zo _,λY=>zo _,trivial⟩,(26, .r (.s (mapS (za5 O))))::(25, .adr 0 2)::[(1, .own 0),(2, .own 1),(3, .own 2),(5, .r (I K[j])),(16, .r (is K)),(17, .r (I K.length)),(18, .r (I j))],[(0,some (pbox leaves own O H)),(1,some (.box (zero4.map .r))),(2,some (.box [.r (I leaves), .r (I own), .own 3, .own 4])),(3,some (zda ((K.take j).map (putN O)))),(4,some (zd6 []))],5,λY=>zo _,?_⟩
  refine⟨rfl,⟨λY=>zo _,λY=>zo _,λY=>zo _,λY=>zo _,trivial⟩,(28, .r (.ag s.node.c))::(26, .r (.s (mapS (za5 O))))::(25, .adr 0 2)::[(1, .own 0),(2, .own 1),(3, .own 2),(5, .r (I K[j])),(16, .r (is K)),(17, .r (I K.length)),(18, .r (I j))],[(0,some (pbox leaves own O H)),(1,some (.box (zero4.map .r))),(2,some (.box [.r (I leaves), .r (I own), .own 3, .own 4])),(3,some (zda ((K.take j).map (putN O)))),(4,some (zd6 []))],5,λY=>Vstep.node1 rfl rfl rfl (λn hn=>by rw[hfs]at hn;cases hn;exact zo _) (λhn=>by rw[hfs]at hn;cases hn),?_⟩
  refine⟨rfl,⟨λY=>zo _,λY=>zo _,λY=>zo _,λY=>zo _,trivial⟩,(29, .r (.ag s.node.c))::(28, .r (.ag s.node.c))::(26, .r (.s (mapS (za5 O))))::(25, .adr 0 2)::[(1, .own 0),(2, .own 1),(3, .own 2),(5, .r (I K[j])),(16, .r (is K)),(17, .r (I K.length)),(18, .r (I j))],[(0,some (pbox leaves own O H)),(1,some (.box (zero4.map .r))),(2,some (.box [.r (I leaves), .r (I own), .own 3, .own 4])),(3,some (zda ((K.take j).map (putN O)))),(4,some (zd6 []))],5,λY=>ze (z2s s.node (hOf s hs) (zvh _ (hOf s hs).1)) (zo _),?_⟩
  refine⟨rfl,⟨λY=>zo _,λY=>zo _,λY=>zo _,λY=>zo _,trivial⟩,(30, .r (.ag (Spot.c ⟨K[j],s.node⟩)))::(29, .r (.ag s.node.c))::(28, .r (.ag s.node.c))::(26, .r (.s (mapS (za5 O))))::(25, .adr 0 2)::[(1, .own 0),(2, .own 1),(3, .own 2),(5, .r (I K[j])),(16, .r (is K)),(17, .r (I K.length)),(18, .r (I j))],[(0,some (pbox leaves own O H)),(1,some (.box (zero4.map .r))),(2,some (.box [.r (I leaves), .r (I own), .own 3, .own 4])),(3,some (zda ((K.take j).map (putN O)))),(4,some (zd6 []))],5,λY=>zo _,?_⟩
  refine⟨rfl,⟨λY=>zo _,λY=>zo _,λY=>zo _,λY=>zo _,trivial⟩,(31, .own 5)::(30, .r (.ag (Spot.c ⟨K[j],s.node⟩)))::(29, .r (.ag s.node.c))::(28, .r (.ag s.node.c))::(26, .r (.s (mapS (za5 O))))::(25, .adr 0 2)::[(1, .own 0),(2, .own 1),(3, .own 2),(5, .r (I K[j])),(16, .r (is K)),(17, .r (I K.length)),(18, .r (I j))],(5,some (.ch 77 11 1 (Spot.c ⟨K[j],s.node⟩) true))::[(0,some (pbox leaves own O H)),(1,some (.box (zero4.map .r))),(2,some (.box [.r (I leaves), .r (I own), .own 3, .own 4])),(3,some (zda ((K.take j).map (putN O)))),(4,some (zd6 []))],6,λY=>zx (zo _),?_⟩
  refine⟨rfl,⟨λY=>zo _,λY=>zo _,λY=>zo _,λY=>zo _,trivial⟩,?_⟩
  have hsn:(K.take (j+1)).map (putN O)=(K.take j).map (putN O)++[⟨K[j],s.node⟩]:=by
   rw[List.take_succ_eq_append_getElem hj',List.map_append]
   simp[putN,hfs]
  refine Vapp.mk' (j:=((K.take (j+1)).map (putN O)).length) (zs:=((K.take (j+1)).map (putN O)).flatMap Spot.c) (by simp only[maxLen,List.length_map,List.length_take];omega) (by simp;omega) (by rw[hsn];simp) (by rw[hsn];simp[zb8,cellsOf]) ?_
  refine zd (m:=((j+1:Nat):Int)) (by omega) (by omega) ?_
  exact⟨j+1,hj',by omega,zad [(0,0),(1,1),(2,2),(3,_),(4,4)] rfl ⟨rfl,rfl,rfl,cr,cr,cr,trivial⟩ ⟨⟨_,_,rfl,cr,_,_,rfl,cr,_,_,rfl,cr,_,_,rfl,cr,rfl⟩,zab zero4,cvc (zax _) (cvc (zax _) (cvc rfl (cvc rfl rfl))),⟨rfl,rfl,rfl,rfl,zn _⟩,⟨rfl,rfl,rfl,rfl,zn _⟩,trivial⟩⟩
 simp only[zb]at h
 rw[List.take_of_length_le (by omega)]
 clear h hj
 refine ze (z4e (zba H)) ?_
 refine ze kH ?_
 refine zy (λj:Nat=>{F:=[(1, .own 0),(2, .own 1),(3, .own 2),(38, .r (is M)),(39, .r (I M.length)),(40, .r (I j))],O:=[(0,some (pbox leaves own O H)),(1,some (.box (zero4.map .r))),(2,some (.box [.r (I leaves), .r (I own), .own 3, .own 4])),(3,some (zda (K.map (putN O)))),(4,some (zd6 ((M.take j).map (putH H))))],nx:=5})
  (λj=>j<=M.length) (λj=>M.length-j) 0 (by omega)
  (zad [(0,0),(1,1),(2,2),(3,3),(4,4)] rfl ⟨rfl,rfl,rfl,cr,cr,cr,trivial⟩ ⟨⟨_,_,rfl,cr,_,_,rfl,cr,_,_,rfl,cr,_,_,rfl,cr,rfl⟩,zab zero4,cvc (zax _) (cvc (zax _) (cvc rfl (cvc rfl rfl))),⟨rfl,rfl,rfl,rfl,zn _⟩,⟨rfl,rfl,rfl,rfl,zn _⟩,trivial⟩) ?_
 intro j hj
 refine zh (λh=>zq ?_) (λh=>zt ?_)
 ·simp only[zb]at h
  have hj':j<M.length:=by omega
  obtain⟨s,hs,hfs⟩:=hMm M[j] (List.getElem_mem hj')
  have hsl:=hHl s hs
  refine zm (by omega) (by omega) (zai rfl hj') (zg rfl ?_)
  refine Vdraw.code (Vcode.float mixed Tab_ok 10 [⟨0,44, .adr 2 3,[]⟩,⟨1,45, .own 4,[0]⟩,⟨2,46, .r (I M[j]),[]⟩,⟨5,49, .r (I M[j]),[]⟩] [(3,[]),(4,[]),(6,[5]),(7,[]),(8,[2]),(9,[])] (by kernel_rfl) (F:=[(1, .own 0),(2, .own 1),(3, .own 2),(7, .r (I M[j])),(38, .r (is M)),(39, .r (I M.length)),(40, .r (I j))]) (O:=[(0,some (pbox leaves own O H)),(1,some (.box (zero4.map .r))),(2,some (.box [.r (I leaves), .r (I own), .own 3, .own 4])),(3,some (zda (K.map (putN O)))),(4,some (zd6 ((M.take j).map (putH H))))]) (nx:=5) (zad [(0,0),(1,1),(2,2),(3,3),(4,4)] rfl ⟨rfl,rfl,rfl,cr,cr,cr,cr,trivial⟩ ⟨⟨_,_,rfl,cr,_,_,rfl,cr,_,_,rfl,cr,_,_,rfl,cr,rfl⟩,zab zero4,cvc (zax _) (cvc (zax _) (cvc rfl (cvc rfl rfl))),⟨rfl,rfl,rfl,rfl,zn _⟩,⟨rfl,rfl,rfl,rfl,zn _⟩,trivial⟩) ?_)
  refine⟨rfl,⟨λY=>zo _,λY=>zo _,λY=>zo _,λY=>zo _,trivial⟩,(47, .adr 0 3)::[(1, .own 0),(2, .own 1),(3, .own 2),(7, .r (I M[j])),(38, .r (is M)),(39, .r (I M.length)),(40, .r (I j))],[(0,some (pbox leaves own O H)),(1,some (.box (zero4.map .r))),(2,some (.box [.r (I leaves), .r (I own), .own 3, .own 4])),(3,some (zda (K.map (putN O)))),(4,some (zd6 ((M.take j).map (putH H))))],5,λY=>zo _,?_⟩
  refine⟨rfl,⟨λY=>zo _,λY=>zo _,λY=>zo _,λY=>zo _,trivial⟩,(48, .r (.s (mapS (zba H))))::(47, .adr 0 3)::[(1, .own 0),(2, .own 1),(3, .own 2),(7, .r (I M[j])),(38, .r (is M)),(39, .r (I M.length)),(40, .r (I j))],[(0,some (pbox leaves own O H)),(1,some (.box (zero4.map .r))),(2,some (.box [.r (I leaves), .r (I own), .own 3, .own 4])),(3,some (zda (K.map (putN O)))),(4,some (zd6 ((M.take j).map (putH H))))],5,λY=>zo _,?_⟩
  refine⟨rfl,⟨λY=>zo _,λY=>zo _,λY=>zo _,λY=>zo _,trivial⟩,(50, .r (bs s.hash))::(48, .r (.s (mapS (zba H))))::(47, .adr 0 3)::[(1, .own 0),(2, .own 1),(3, .own 2),(7, .r (I M[j])),(38, .r (is M)),(39, .r (I M.length)),(40, .r (I j))],[(0,some (pbox leaves own O H)),(1,some (.box (zero4.map .r))),(2,some (.box [.r (I leaves), .r (I own), .own 3, .own 4])),(3,some (zda (K.map (putN O)))),(4,some (zd6 ((M.take j).map (putH H))))],5,λY=>Vstep.hash1 rfl rfl rfl (λn hn=>by rw[hfs]at hn;cases hn;exact zo _) (λhn=>by rw[hfs]at hn;cases hn),?_⟩
  refine⟨rfl,⟨λY=>zo _,λY=>zo _,λY=>zo _,λY=>zo _,trivial⟩,(51, .own 5)::(50, .r (bs s.hash))::(48, .r (.s (mapS (zba H))))::(47, .adr 0 3)::[(1, .own 0),(2, .own 1),(3, .own 2),(7, .r (I M[j])),(38, .r (is M)),(39, .r (I M.length)),(40, .r (I j))],(5,some (.ch 5 1 s.hash.length (s.hash.map U8) true))::[(0,some (pbox leaves own O H)),(1,some (.box (zero4.map .r))),(2,some (.box [.r (I leaves), .r (I own), .own 3, .own 4])),(3,some (zda (K.map (putN O)))),(4,some (zd6 ((M.take j).map (putH H))))],6,λY=>ze (zfe s.hash (by omega)) (zo _),?_⟩
  refine⟨rfl,⟨λY=>zo _,λY=>zo _,λY=>zo _,λY=>zo _,trivial⟩,(52, .r (.ag (Stub.c ⟨M[j],s.hash⟩)))::(51, .own 5)::(50, .r (bs s.hash))::(48, .r (.s (mapS (zba H))))::(47, .adr 0 3)::[(1, .own 0),(2, .own 1),(3, .own 2),(7, .r (I M[j])),(38, .r (is M)),(39, .r (I M.length)),(40, .r (I j))],(5,some (.ch 5 1 s.hash.length (s.hash.map U8) true))::[(0,some (pbox leaves own O H)),(1,some (.box (zero4.map .r))),(2,some (.box [.r (I leaves), .r (I own), .own 3, .own 4])),(3,some (zda (K.map (putN O)))),(4,some (zd6 ((M.take j).map (putH H))))],6,λY=>zo _,?_⟩
  refine⟨rfl,⟨λY=>zo _,λY=>zo _,λY=>zo _,λY=>zo _,trivial⟩,(53, .own 6)::(52, .r (.ag (Stub.c ⟨M[j],s.hash⟩)))::(51, .own 5)::(50, .r (bs s.hash))::(48, .r (.s (mapS (zba H))))::(47, .adr 0 3)::[(1, .own 0),(2, .own 1),(3, .own 2),(7, .r (I M[j])),(38, .r (is M)),(39, .r (I M.length)),(40, .r (I j))],(6,some (.ch 79 2 1 (Stub.c ⟨M[j],s.hash⟩) true))::(5,some (.ch 5 1 s.hash.length (s.hash.map U8) true))::[(0,some (pbox leaves own O H)),(1,some (.box (zero4.map .r))),(2,some (.box [.r (I leaves), .r (I own), .own 3, .own 4])),(3,some (zda (K.map (putN O)))),(4,some (zd6 ((M.take j).map (putH H))))],7,λY=>zx (zo _),?_⟩
  refine⟨rfl,⟨λY=>zo _,λY=>zo _,λY=>zo _,λY=>zo _,trivial⟩,?_⟩
  have hsn:(M.take (j+1)).map (putH H)=(M.take j).map (putH H)++[⟨M[j],s.hash⟩]:=by
   rw[List.take_succ_eq_append_getElem hj',List.map_append]
   simp[putH,(zc0 hfs).1]
  refine Vapp.mk' (j:=((M.take (j+1)).map (putH H)).length) (zs:=((M.take (j+1)).map (putH H)).flatMap Stub.c) (by simp only[maxLen,List.length_map,List.length_take];omega) (by simp;omega) (by rw[hsn];simp) (by rw[hsn];simp[zb8,cellsOf,bs]) ?_
  refine zd (m:=((j+1:Nat):Int)) (by omega) (by omega) ?_
  exact⟨j+1,hj',by omega,zad [(0,0),(1,1),(2,2),(3,3),(4,_)] rfl ⟨rfl,rfl,rfl,cr,cr,cr,trivial⟩ ⟨⟨_,_,rfl,cr,_,_,rfl,cr,_,_,rfl,cr,_,_,rfl,cr,rfl⟩,zab zero4,cvc (zax _) (cvc (zax _) (cvc rfl (cvc rfl rfl))),⟨rfl,rfl,rfl,rfl,zn _⟩,⟨rfl,rfl,rfl,rfl,zn _⟩,trivial⟩⟩
 simp only[zb]at h
 rw[List.take_of_length_le (by omega)]
 clear h hj
 refine za rfl rfl ?_
 refine za rfl rfl ?_
 exact zf rfl
end
section
def Piece.lean(p:Piece):Lean_:=⟨p.leaves,p.own,p.opn,p.shut⟩
structure Piece.Ok (p:Piece) (only:Bool) (d:Nat) (l:List UInt8):Prop where
 hd:d<=16
 leaves:p.leaves=2^d
 fits:za0 p.leaves=true
 own:p.own<p.leaves
 len:l.length<=1048576
 tree:zb7 d 0 l= .ok (p.opn,p.shut) []
 right:zeh p.leaves p.own p.opn p.shut only=true
theorem zbob{only:Bool}{n i:Nat}{y:List Spot×List Stub}{r:List UInt8}{e:Nat}(h:endP only n i y r= .err e):e=3\/e=5:=by
 unfold endP at h
 split at h
 ·split at h
  ·cases h
  ·injection h with h;omega
 ·injection h with h;omega
theorem zt7{mark:Int}{b:List UInt8}{e:Nat}(h:zb6 mark b= .err e):3<=e/\e<=6:=by
 unfold zb6 at h
 split at h
 ·injection h with h;omega
 cases h0:numP 1 (λn=>decide ((n:Int)=mark)) b with
 |err e'=>rw[h0]at h;injection h with h;have:=zja h0;omega
 |ok m r0=>
  rw[h0]at h
  simp only[zki]at h
  cases h1:numP 4 (λn=>za0 n) r0 with
  |err e'=>rw[h1]at h;injection h with h;have:=zja h1;omega
  |ok n r1=>
   rw[h1]at h
   simp only[zk8]at h
   cases h2:numP 4 (λi=>decide ((i:Int)<n)) r1 with
   |err e'=>rw[h2]at h;injection h with h;have:=zja h2;omega
   |ok i r2=>
    rw[h2]at h
    simp only[zni]at h
    cases h3:zb7 n.log2 0 r2 with
    |err e'=>rw[h3]at h;injection h with h;have:=zql _ _ h3;omega
    |ok y r3=>
     rw[h3]at h
     have:=zbob h;omega
theorem zqx{mark:Int}{b r:List UInt8}{p:Piece}(h:zb6 mark b= .ok p r):r=[]/\∃d l,p.Ok (decide (mark=2)) d l:=by
 unfold zb6 at h
 split at h
 ·cases h
 rename_i hb
 cases h0:numP 1 (λn=>decide ((n:Int)=mark)) b with
 |err e'=>rw[h0]at h;cases h
 |ok m r0=>
  rw[h0]at h
  simp only[zki]at h
  obtain⟨_,hr0⟩:=ze2 h0
  cases h1:numP 4 (λn=>za0 n) r0 with
  |err e'=>rw[h1]at h;cases h
  |ok n r1=>
   rw[h1]at h
   simp only[zk8]at h
   obtain⟨hf,hr1⟩:=ze2 h1
   cases h2:numP 4 (λi=>decide ((i:Int)<n)) r1 with
   |err e'=>rw[h2]at h;cases h
   |ok i r2=>
    rw[h2]at h
    simp only[zni]at h
    obtain⟨hi,hr2⟩:=ze2 h2
    simp only[decide_eq_true_eq]at hi
    obtain⟨d,hd,hn⟩:=zde hf
    have hn2:n=2^d:=by omega
    have hdl:n.log2=d:=by rw[hn2,Nat.log2_two_pow]
    have hl2:r2.length<=1048576:=by rw[hr2,hr1,hr0,List.length_drop,List.length_drop,List.length_drop];omega
    rw[hdl]at h
    cases h3:zb7 d 0 r2 with
    |err e'=>rw[h3]at h;cases h
    |ok y r3=>
     rw[h3]at h
     simp only[endP]at h
     split at h
     ·rename_i h5
      split at h
      ·rename_i hp
       injection h with h4 h6
       subst h4
       rw[List.eq_nil_of_length_eq_zero h5]at h3
       exact⟨h6.symm,d,r2,hd,hn2,hf,Int.ofNat_lt.1 hi,hl2,h3,hp⟩
      ·cases h
     ·cases h
section
variable {p:Piece} {only:Bool} {d:Nat} {l:List UInt8}
theorem Piece.Ok.spots(h:p.Ok only d l):(∀s∈p.opn,s.node.fit)/\(∀s∈p.shut,s.hash.length=32):=zqf d 0 (by have:=h.len;omega) h.tree
theorem Piece.Ok.at_(h:p.Ok only d l):(∀s∈p.opn,inR d 0 s.at_)/\(∀s∈p.shut,inR d 0 s.at_):=⟨(zi3 d 0 h.tree).1,(zi3 d 0 h.tree).2.1⟩
theorem Piece.Ok.lens(h:p.Ok only d l):p.opn.length+p.shut.length<=131072:=by
 have h1:=zm6 d 0 h.tree
 have h2:2^(d+1)<=131072:=Nat.pow_le_pow_right (n:=2) (by omega) (show d+1<=17 by have:=h.hd;omega)
 simp only at h1
 omega
theorem Piece.Ok.fitN(h:p.Ok only d l):p.lean.fitN:=by
 have h1:=h.lens
 have h2:=h.spots
 exact⟨by simp only[Piece.lean];omega,by simp only[Piece.lean];omega,h2.1,λs hs=>by rw[h2.2 s hs];decide⟩
end
def chkP(mark:Int)(b h:List UInt8)(i:Int):PR Piece:=match zb6 mark b with
 | .err e=> .err e
 | .ok p r=>if(p.own:Int)=i then(if zaj p.lean p.leaves.log2 0=h then .ok p r else .err 17)else .err 7
set_option maxHeartbeats 2000000 in
theorem zceb(mark:Int)(b h:List UInt8)(i:Int):zaf Tryz.prog 116 [bs b,bs h,I i,I mark] (.r (zos (chkP mark b h i))):=by
 have gr:=zd3b mark b
 refine zac (T:=Tab) mixed Tab_ok Tryz.func116 rfl (by kernel_rfl) ?_
 cases hp:zb6 mark b with
 |err e=>
  have he:=zt7 hp
  have eR:chkP mark b h i= .err e:=by unfold chkP;rw[hp]
  rw[hp]at gr
  simp only[zos]at gr
  refine ze gr ?_
  refine zu (by simp only[zb];omega) (zq ?_)
  refine za rfl rfl ?_
  exact⟨_,rfl,zf (by rw[eR];rfl)⟩
 |ok p r=>
  obtain⟨hr,d,l,hk⟩:=zqx hp
  have eR:chkP mark b h i=(if(p.own:Int)=i then(if zaj p.lean p.leaves.log2 0=h then .ok p r else .err 17)else .err 7):=by unfold chkP;rw[hp]
  rw[hp]at gr
  simp only[zos,Piece.R]at gr
  refine ze gr ?_
  refine zw rfl (zt ?_)
  refine zh (λh1=>zq ?_) (λh1=>zt ?_)
  ·simp only[zb]at h1
   refine za rfl rfl ?_
   exact⟨_,rfl,zf (by rw[eR,if_neg h1];rfl)⟩
  simp only[zb]at h1
  rw[if_pos h1]at eR
  have hdl:p.leaves.log2=d:=by rw[hk.leaves,Nat.log2_two_pow]
  have hroot:zgu (p.leaves:Int)=(nd d 0:Int):=by rw[zgu,hk.fits,if_pos rfl,hk.leaves,zg0]
  have gh:=z30 p.lean hk.fitN d 0 hk.hd (zag _)
  rw[hdl]at eR
  refine Vdraw.mk' (by kernel_rfl) ?_
  refine za rfl rfl ?_
  refine ze (zvn _) ?_
  rw[hroot]
  refine ze gh ?_
  refine Vcall.bool (zb2b (zaj p.lean d 0) h) (λh2=>zw rfl (zt ?_)) (λh2=>zu rfl (zq ?_))
  ·simp only[zb]at h2
   refine za rfl rfl ?_
   refine za rfl rfl ?_
   exact⟨_,rfl,zf (by rw[eR,if_pos h2];rfl)⟩
  ·simp only[zb]at h2
   refine za rfl rfl ?_
   exact⟨_,rfl,zf (by rw[eR,if_neg h2];rfl)⟩
theorem z08{mark:Int}{b h:List UInt8}{i:Int}{e:Nat}(hc:chkP mark b h i= .err e):3<=e/\e<=17:=by
 unfold chkP at hc
 cases hp:zb6 mark b with
 |err e'=>rw[hp]at hc;injection hc with hc;have:=zt7 hp;omega
 |ok p r=>
  rw[hp]at hc
  simp only at hc
  split at hc
  ·split at hc
   ·cases hc
   ·injection hc with hc;omega
  ·injection hc with hc;omega
theorem z4g{mark:Int}{b h r:List UInt8}{i:Int}{p:Piece}(hc:chkP mark b h i= .ok p r):zb6 mark b= .ok p r/\(p.own:Int)=i/\zaj p.lean p.leaves.log2 0=h:=by
 unfold chkP at hc
 cases hp:zb6 mark b with
 |err e'=>rw[hp]at hc;cases hc
 |ok q s=>
  rw[hp]at hc
  simp only at hc
  split at hc
  ·rename_i h1
   split at hc
   ·rename_i h2
    cases hc
    exact⟨rfl,h1,h2⟩
   ·cases hc
  ·cases hc
def Piece.sparse(p:Piece):Lean_:=zfo p.leaves p.own p.opn p.shut
def zk6(q:PR Piece):RV:=match q with
 | .err e=> .tu [.ag zero4,Er e]
 | .ok p _=> .tu [.ag p.sparse.c,Er 0]
theorem zchb(b h:List UInt8)(i:Int):zaf Tryz.prog 74 [bs b,bs h,I i] (.r (zk6 (chkP 1 b h i))):=by
 have gr:=zceb 1 b h i
 refine zac (T:=Tab) mixed Tab_ok Tryz.func74 rfl (by kernel_rfl) ?_
 cases hp:chkP 1 b h i with
 |err e=>
  have he:=z08 hp
  rw[hp]at gr
  simp only[zos]at gr
  refine ze gr ?_
  refine zu (by simp only[zb];omega) (zq ?_)
  refine za rfl rfl ?_
  exact⟨_,rfl,zf rfl⟩
 |ok p r=>
  obtain⟨hp1,_,_⟩:=z4g hp
  obtain⟨hr,d,l,hk⟩:=zqx hp1
  obtain⟨hs1,hs2⟩:=hk.spots
  obtain⟨ha1,ha2⟩:=hk.at_
  have hl:=hk.lens
  rw[hp]at gr
  simp only[zos,Piece.R]at gr
  refine ze gr ?_
  refine zw rfl (zt ?_)
  refine za rfl rfl ?_
  refine ze (zcbb p.leaves p.own p.opn p.shut (by omega) (by omega) hs1 (λs hs=>zq8 hk.hd (zag _) (ha1 s hs)) (λs hs=>zq8 hk.hd (zag _) (ha2 s hs)) (λs hs=>by rw[hs2 s hs];decide)) ?_
  refine za rfl rfl ?_
  exact⟨_,rfl,zf rfl⟩
def zml(s:Lean_)(part:List UInt8):PR Piece:=if zbf s then chkP 1 part (zaj s (lv (s.leaves-1).toNat) 0) s.own else .err 3
theorem zfbb(s:Lean_)(hs:s.fitN)(part:List UInt8):zaf Tryz.prog 35 [.ag s.c,bs part] (.r (zk6 (zml s part))):=by
 have gh:=zewb s hs
 refine zac (T:=Tab) mixed Tab_ok Tryz.func35 rfl (by kernel_rfl) ?_
 cases hr:zbf s with
 |false=>
  have eR:zml s part= .err 3:=by unfold zml;rw[hr];rfl
  simp only[hr,Bool.false_eq_true,if_false]at gh
  refine za rfl rfl ?_
  refine ze gh ?_
  refine zu rfl (zq ?_)
  refine za rfl rfl ?_
  exact⟨_,rfl,zf (by rw[eR];rfl)⟩
 |true=>
  have eR:zml s part=chkP 1 part (zaj s (lv (s.leaves-1).toNat) 0) s.own:=by unfold zml;rw[hr];rfl
  simp only[hr,if_true]at gh
  refine za rfl rfl ?_
  refine ze gh ?_
  refine zw rfl (zt ?_)
  have gc:=zchb part (zaj s (lv (s.leaves-1).toNat) 0) s.own
  rw[<-eR]at gc
  cases hq:zml s part with
  |err e=>
   rw[hq]at gc
   simp only[zk6]at gc
   refine ze gc ?_
   refine za rfl rfl ?_
   exact⟨_,rfl,zf rfl⟩
  |ok p r=>
   rw[hq]at gc
   simp only[zk6]at gc
   refine ze gc ?_
   refine za rfl rfl ?_
   exact⟨_,rfl,zf rfl⟩
end
end Go.Proofs.YtpdllgbfemnemaaGreat.Sx
