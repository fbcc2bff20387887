import Derived.Test.YtkegaaonpekkgaaGreatZIb
import Derived.Test.YtkegaaonpekkgaaGreatZBytes
import Derived.Test.YtkegaaonpekkgaaGreatZKd
import Derived.Test.YtkegaaonpekkgaaGreatZSxY
import Derived.Shelf.RegionOpenPlain
import Derived.Lib.Walk
import Derived.Lib.SliceRun
import Derived.Lib.Overlaps
import Derived.Laws.Externs
import Derived.Laws.IdiomCopy
import Derived.Lib.AppendZerosOnto
import Derived.Laws.NewBlocks
import Derived.Test.YtkegaaonpekkgaaGreatZMe
import Derived.Test.YtkegaaonpekkgaaGreatZHg
import Derived.Test.YtkegaaonpekkgaaGreatZSxBx
import Derived.Test.YtkegaaonpekkgaaGreatZJo
import Derived.Test.YtkegaaonpekkgaaGreatZTl
import Derived.Test.YtkegaaonpekkgaaGreatZFs
import Derived.Test.YtkegaaonpekkgaaGreatZEt
namespace Go.Proofs.YtkegaaonpekkgaaGreat.Sx
open Go.RowKit
def putN(O:List Spot)(x:Int):Spot:=⟨x,(zbk O x).getD Node.zero⟩
def putH(H:List Stub)(x:Int):Stub:=⟨x,z6g H x⟩
def zo9(leaves own:Int)(O:List Spot)(H:List Stub):Lean_:=⟨leaves,own,(zbo (O.map λs=>s.at_)).map (putN O),(zbo (H.map λs=>s.at_)).map (putH H)⟩
theorem zvc{l:List Int}{x:Int}:x∈zbo l↔x∈l:=by unfold zbo;exact List.mem_mergeSort
theorem zvb(l:List Int):(zbo l).length=l.length:=by unfold zbo;exact List.length_mergeSort l
theorem z30{O:List Spot}{x:Int}(h:x∈O.map λs=>s.at_): ∃s∈O,zbk O x=some s.node:=by
 cases hf:zbk O x with
 |none=>
  simp only[zbk,Option.map_eq_none_iff,List.find?_eq_none,decide_eq_true_eq]at hf
  obtain⟨s,hs,e⟩:=List.mem_map.1 h
  exact absurd e (hf s hs)
 |some n=>
  obtain⟨s,hs,_,rfl⟩:=z7a hf
  exact⟨s,hs,rfl⟩
theorem z6d{H:List Stub}{x:Int}(h:x∈H.map λs=>s.at_): ∃s∈H,zhh H x=some s.hash:=by
 cases hf:zhh H x with
 |none=>
  simp only[zhh,Option.map_eq_none_iff,List.find?_eq_none,decide_eq_true_eq]at hf
  obtain⟨s,hs,e⟩:=List.mem_map.1 h
  exact absurd e (hf s hs)
 |some n=>
  obtain⟨_,s,hs,_,rfl⟩:=zu8 hf
  exact⟨s,hs,rfl⟩
set_option maxHeartbeats 4000000 in
theorem zbrb(leaves own:Int)(O:List Spot)(H:List Stub)(hOn:O.length<=1000000)(hHn:H.length<=1000000)(hOf: ∀s∈O,s.node.fit)(hOi: ∀s∈O,i64 s.at_)(hHi: ∀s∈H,i64 s.at_)(hHl: ∀s∈H,s.hash.length<=1000000000):
  aG 274 [zy0 leaves own O H] (.r (.ag (zo9 leaves own O H).c)):=by
 refine aT Tryz.func274 rfl ?_
 have kN:=zua (zbw O) (by simpa[zbw]using hOn) (λx hx=>by
  simp only[zbw,List.mem_map]at hx
  obtain⟨s,hs,rfl⟩:=hx
  exact hOi s hs)
 have kH:=zt9 (zb2 H) (by simpa[zb2]using hHn) (λx hx=>by
  simp only[zb2,List.mem_map]at hx
  obtain⟨s,hs,rfl⟩:=hx
  exact hHi s hs)
 rw[zmc]at kN
 rw[zly]at kH
 obtain⟨K,hK⟩: ∃K,K=zbo (O.map λs=>s.at_):=⟨_,rfl⟩
 obtain⟨M,hM⟩: ∃M,M=zbo (H.map λs=>s.at_):=⟨_,rfl⟩
 have hKl:K.length<=1000000:=by rw[hK,zvb,List.length_map];exact hOn
 have hMl:M.length<=1000000:=by rw[hM,zvb,List.length_map];exact hHn
 have hKm: ∀x∈K,∃s∈O,zbk O x=some s.node:=λx hx=>z30 (zvc.1 (hK▸hx))
 have hMm: ∀x∈M,∃s∈H,zhh H x=some s.hash:=λx hx=>z6d (zvc.1 (hM▸hx))
 rw[<-hK]at kN
 rw[<-hM]at kH
 have hL:zo9 leaves own O H=⟨leaves,own,K.map (putN O),M.map (putH H)⟩:=by rw[hK,hM];rfl
 rw[hL]
 clear hL hK hM
 refine ze (z1s (zbw O)) ?_
 refine ze kN ?_
 refine zy (λj:Nat=>{F:=[(1, .own 0),(2, .own 1),(3, .own 2),(16, .r (is K)),(17, .r (I K.length)),(18, .r (I j))],O:=[(0,some (pbox leaves own O H)),(1,some (.box (zero4.map .r))),(2,some (.box [.r (I leaves), .r (I own), .own 3, .own 4])),(3,some (zcw ((K.take j).map (putN O)))),(4,some (zcx []))],nx:=5})
  (λj=>j<=K.length) (λj=>K.length-j) 0 (by omega)
  ((zb4 true 2 2 241 11 (cells:=[.r (I leaves), .r (I own), .r (.x (.slice none 0 0)), .r (.x (.slice none 0 0))]) rfl rfl).trans ((zb4 true 2 3 432 2 (cells:=[.r (I leaves), .r (I own), .own 4, .r (.x (.slice none 0 0))]) rfl rfl).trans (zac [(0,0),(1,1),(2,2),(3,4),(4,5)] rfl ⟨rfl,rfl,rfl,cr,cr,cr,trivial⟩ ⟨(aC aZ),zae zero4,cvc (zbi _) (cvc (zbi _) (cvc rfl (cvc rfl rfl))),⟨rfl,rfl,rfl,rfl,zn _⟩,⟨rfl,rfl,rfl,rfl,zn _⟩,trivial⟩))) ?_
 intro j hj
 refine zh (λh=>zp ?_) (λh=>zq ?_)
 ·simp only[zb]at h
  have hj':j<K.length:=by omega
  obtain⟨s,hs,hfs⟩:=hKm K[j] (List.getElem_mem hj')
  refine zm (by omega) (by omega) (za3 rfl hj') (zg rfl ?_)
  refine Vdraw.code (Vcode.float mixed Tab_ok 10 [⟨0,22, .adr 2 2,[]⟩,⟨1,23, .own 3,[0]⟩,⟨2,24, .r (I K[j]),[]⟩,⟨5,27, .r (I K[j]),[]⟩] [(3,[]),(4,[]),(6,[5]),(7,[]),(8,[2]),(9,[])] (by kernel_rfl) (F:=[(1, .own 0),(2, .own 1),(3, .own 2),(5, .r (I K[j])),(16, .r (is K)),(17, .r (I K.length)),(18, .r (I j))]) (O:=[(0,some (pbox leaves own O H)),(1,some (.box (zero4.map .r))),(2,some (.box [.r (I leaves), .r (I own), .own 3, .own 4])),(3,some (zcw ((K.take j).map (putN O)))),(4,some (zcx []))]) (nx:=5) (zac [(0,0),(1,1),(2,2),(3,3),(4,4)] rfl ⟨rfl,rfl,rfl,cr,cr,cr,cr,trivial⟩ ⟨(aC aZ),zae zero4,cvc (zbi _) (cvc (zbi _) (cvc rfl (cvc rfl rfl))),⟨rfl,rfl,rfl,rfl,zn _⟩,⟨rfl,rfl,rfl,rfl,zn _⟩,trivial⟩) ?_)
  refine⟨rfl,⟨λY=>zo _,λY=>zo _,λY=>zo _,λY=>zo _,trivial⟩,(25, .adr 0 2)::[(1, .own 0),(2, .own 1),(3, .own 2),(5, .r (I K[j])),(16, .r (is K)),(17, .r (I K.length)),(18, .r (I j))],[(0,some (pbox leaves own O H)),(1,some (.box (zero4.map .r))),(2,some (.box [.r (I leaves), .r (I own), .own 3, .own 4])),(3,some (zcw ((K.take j).map (putN O)))),(4,some (zcx []))],5,λY=>zo _,?_⟩
  refine⟨rfl,⟨λY=>zo _,λY=>zo _,λY=>zo _,λY=>zo _,trivial⟩,(26, .r (.s (mapS (zbw O))))::(25, .adr 0 2)::[(1, .own 0),(2, .own 1),(3, .own 2),(5, .r (I K[j])),(16, .r (is K)),(17, .r (I K.length)),(18, .r (I j))],[(0,some (pbox leaves own O H)),(1,some (.box (zero4.map .r))),(2,some (.box [.r (I leaves), .r (I own), .own 3, .own 4])),(3,some (zcw ((K.take j).map (putN O)))),(4,some (zcx []))],5,λY=>zo _,?_⟩
  refine⟨rfl,⟨λY=>zo _,λY=>zo _,λY=>zo _,λY=>zo _,trivial⟩,(28, .r (.ag s.node.c))::(26, .r (.s (mapS (zbw O))))::(25, .adr 0 2)::[(1, .own 0),(2, .own 1),(3, .own 2),(5, .r (I K[j])),(16, .r (is K)),(17, .r (I K.length)),(18, .r (I j))],[(0,some (pbox leaves own O H)),(1,some (.box (zero4.map .r))),(2,some (.box [.r (I leaves), .r (I own), .own 3, .own 4])),(3,some (zcw ((K.take j).map (putN O)))),(4,some (zcx []))],5,λY=>Vstep.node1 rfl rfl rfl (λn hn=>by rw[hfs]at hn;cases hn;exact zo _) (λhn=>by rw[hfs]at hn;cases hn),?_⟩
  refine⟨rfl,⟨λY=>zo _,λY=>zo _,λY=>zo _,λY=>zo _,trivial⟩,(29, .r (.ag s.node.c))::(28, .r (.ag s.node.c))::(26, .r (.s (mapS (zbw O))))::(25, .adr 0 2)::[(1, .own 0),(2, .own 1),(3, .own 2),(5, .r (I K[j])),(16, .r (is K)),(17, .r (I K.length)),(18, .r (I j))],[(0,some (pbox leaves own O H)),(1,some (.box (zero4.map .r))),(2,some (.box [.r (I leaves), .r (I own), .own 3, .own 4])),(3,some (zcw ((K.take j).map (putN O)))),(4,some (zcx []))],5,λY=>ze (ze3 s.node (hOf s hs) (zb1 _ (hOf s hs).1)) (zo _),?_⟩
  refine⟨rfl,⟨λY=>zo _,λY=>zo _,λY=>zo _,λY=>zo _,trivial⟩,(30, .r (.ag (Spot.c ⟨K[j],s.node⟩)))::(29, .r (.ag s.node.c))::(28, .r (.ag s.node.c))::(26, .r (.s (mapS (zbw O))))::(25, .adr 0 2)::[(1, .own 0),(2, .own 1),(3, .own 2),(5, .r (I K[j])),(16, .r (is K)),(17, .r (I K.length)),(18, .r (I j))],[(0,some (pbox leaves own O H)),(1,some (.box (zero4.map .r))),(2,some (.box [.r (I leaves), .r (I own), .own 3, .own 4])),(3,some (zcw ((K.take j).map (putN O)))),(4,some (zcx []))],5,λY=>zo _,?_⟩
  refine⟨rfl,⟨λY=>zo _,λY=>zo _,λY=>zo _,λY=>zo _,trivial⟩,(31, .own 5)::(30, .r (.ag (Spot.c ⟨K[j],s.node⟩)))::(29, .r (.ag s.node.c))::(28, .r (.ag s.node.c))::(26, .r (.s (mapS (zbw O))))::(25, .adr 0 2)::[(1, .own 0),(2, .own 1),(3, .own 2),(5, .r (I K[j])),(16, .r (is K)),(17, .r (I K.length)),(18, .r (I j))],(5,some (.ch 241 11 1 (Spot.c ⟨K[j],s.node⟩) true))::[(0,some (pbox leaves own O H)),(1,some (.box (zero4.map .r))),(2,some (.box [.r (I leaves), .r (I own), .own 3, .own 4])),(3,some (zcw ((K.take j).map (putN O)))),(4,some (zcx []))],6,λY=>zw (zo _),?_⟩
  refine⟨rfl,⟨λY=>zo _,λY=>zo _,λY=>zo _,λY=>zo _,trivial⟩,?_⟩
  have hsn:(K.take (j+1)).map (putN O)=(K.take j).map (putN O)++[⟨K[j],s.node⟩]:=by
   rw[List.take_succ_eq_append_getElem hj',List.map_append]
   simp[putN,hfs]
  refine Vapp.mk' (j:=((K.take (j+1)).map (putN O)).length) (zs:=((K.take (j+1)).map (putN O)).flatMap Spot.c) (by simp only[maxLen,List.length_map,List.length_take];omega) (by simp;omega) (by rw[hsn];simp) (by rw[hsn];simp[zde,cellsOf]) ?_
  refine zd (m:=((j+1:Nat):Int)) (by omega) (by omega) ?_
  exact⟨j+1,hj',by omega,zac [(0,0),(1,1),(2,2),(3,_),(4,4)] rfl ⟨rfl,rfl,rfl,cr,cr,cr,trivial⟩ ⟨(aC aZ),zae zero4,cvc (zbi _) (cvc (zbi _) (cvc rfl (cvc rfl rfl))),⟨rfl,rfl,rfl,rfl,zn _⟩,⟨rfl,rfl,rfl,rfl,zn _⟩,trivial⟩⟩
 simp only[zb]at h
 rw[List.take_of_length_le (by omega)]
 clear h hj
 refine ze (z1r (zb2 H)) ?_
 refine ze kH ?_
 refine zy (λj:Nat=>{F:=[(1, .own 0),(2, .own 1),(3, .own 2),(38, .r (is M)),(39, .r (I M.length)),(40, .r (I j))],O:=[(0,some (pbox leaves own O H)),(1,some (.box (zero4.map .r))),(2,some (.box [.r (I leaves), .r (I own), .own 3, .own 4])),(3,some (zcw (K.map (putN O)))),(4,some (zcx ((M.take j).map (putH H))))],nx:=5})
  (λj=>j<=M.length) (λj=>M.length-j) 0 (by omega)
  (zac [(0,0),(1,1),(2,2),(3,3),(4,4)] rfl ⟨rfl,rfl,rfl,cr,cr,cr,trivial⟩ ⟨(aC aZ),zae zero4,cvc (zbi _) (cvc (zbi _) (cvc rfl (cvc rfl rfl))),⟨rfl,rfl,rfl,rfl,zn _⟩,⟨rfl,rfl,rfl,rfl,zn _⟩,trivial⟩) ?_
 intro j hj
 refine zh (λh=>zp ?_) (λh=>zq ?_)
 ·simp only[zb]at h
  have hj':j<M.length:=by omega
  obtain⟨s,hs,hfs⟩:=hMm M[j] (List.getElem_mem hj')
  have hsl:=hHl s hs
  refine zm (by omega) (by omega) (za3 rfl hj') (zg rfl ?_)
  refine Vdraw.code (Vcode.float mixed Tab_ok 10 [⟨0,44, .adr 2 3,[]⟩,⟨1,45, .own 4,[0]⟩,⟨2,46, .r (I M[j]),[]⟩,⟨5,49, .r (I M[j]),[]⟩] [(3,[]),(4,[]),(6,[5]),(7,[]),(8,[2]),(9,[])] (by kernel_rfl) (F:=[(1, .own 0),(2, .own 1),(3, .own 2),(7, .r (I M[j])),(38, .r (is M)),(39, .r (I M.length)),(40, .r (I j))]) (O:=[(0,some (pbox leaves own O H)),(1,some (.box (zero4.map .r))),(2,some (.box [.r (I leaves), .r (I own), .own 3, .own 4])),(3,some (zcw (K.map (putN O)))),(4,some (zcx ((M.take j).map (putH H))))]) (nx:=5) (zac [(0,0),(1,1),(2,2),(3,3),(4,4)] rfl ⟨rfl,rfl,rfl,cr,cr,cr,cr,trivial⟩ ⟨(aC aZ),zae zero4,cvc (zbi _) (cvc (zbi _) (cvc rfl (cvc rfl rfl))),⟨rfl,rfl,rfl,rfl,zn _⟩,⟨rfl,rfl,rfl,rfl,zn _⟩,trivial⟩) ?_)
  refine⟨rfl,⟨λY=>zo _,λY=>zo _,λY=>zo _,λY=>zo _,trivial⟩,(47, .adr 0 3)::[(1, .own 0),(2, .own 1),(3, .own 2),(7, .r (I M[j])),(38, .r (is M)),(39, .r (I M.length)),(40, .r (I j))],[(0,some (pbox leaves own O H)),(1,some (.box (zero4.map .r))),(2,some (.box [.r (I leaves), .r (I own), .own 3, .own 4])),(3,some (zcw (K.map (putN O)))),(4,some (zcx ((M.take j).map (putH H))))],5,λY=>zo _,?_⟩
  refine⟨rfl,⟨λY=>zo _,λY=>zo _,λY=>zo _,λY=>zo _,trivial⟩,(48, .r (.s (mapS (zb2 H))))::(47, .adr 0 3)::[(1, .own 0),(2, .own 1),(3, .own 2),(7, .r (I M[j])),(38, .r (is M)),(39, .r (I M.length)),(40, .r (I j))],[(0,some (pbox leaves own O H)),(1,some (.box (zero4.map .r))),(2,some (.box [.r (I leaves), .r (I own), .own 3, .own 4])),(3,some (zcw (K.map (putN O)))),(4,some (zcx ((M.take j).map (putH H))))],5,λY=>zo _,?_⟩
  refine⟨rfl,⟨λY=>zo _,λY=>zo _,λY=>zo _,λY=>zo _,trivial⟩,(50, .r (bs s.hash))::(48, .r (.s (mapS (zb2 H))))::(47, .adr 0 3)::[(1, .own 0),(2, .own 1),(3, .own 2),(7, .r (I M[j])),(38, .r (is M)),(39, .r (I M.length)),(40, .r (I j))],[(0,some (pbox leaves own O H)),(1,some (.box (zero4.map .r))),(2,some (.box [.r (I leaves), .r (I own), .own 3, .own 4])),(3,some (zcw (K.map (putN O)))),(4,some (zcx ((M.take j).map (putH H))))],5,λY=>Vstep.hash1 rfl rfl rfl (λn hn=>by rw[hfs]at hn;cases hn;exact zo _) (λhn=>by rw[hfs]at hn;cases hn),?_⟩
  refine⟨rfl,⟨λY=>zo _,λY=>zo _,λY=>zo _,λY=>zo _,trivial⟩,(51, .own 5)::(50, .r (bs s.hash))::(48, .r (.s (mapS (zb2 H))))::(47, .adr 0 3)::[(1, .own 0),(2, .own 1),(3, .own 2),(7, .r (I M[j])),(38, .r (is M)),(39, .r (I M.length)),(40, .r (I j))],(5,some (.ch 5 1 s.hash.length (s.hash.map U8) true))::[(0,some (pbox leaves own O H)),(1,some (.box (zero4.map .r))),(2,some (.box [.r (I leaves), .r (I own), .own 3, .own 4])),(3,some (zcw (K.map (putN O)))),(4,some (zcx ((M.take j).map (putH H))))],6,λY=>ze (zbx s.hash (by omega)) (zo _),?_⟩
  refine⟨rfl,⟨λY=>zo _,λY=>zo _,λY=>zo _,λY=>zo _,trivial⟩,(52, .r (.ag (Stub.c ⟨M[j],s.hash⟩)))::(51, .own 5)::(50, .r (bs s.hash))::(48, .r (.s (mapS (zb2 H))))::(47, .adr 0 3)::[(1, .own 0),(2, .own 1),(3, .own 2),(7, .r (I M[j])),(38, .r (is M)),(39, .r (I M.length)),(40, .r (I j))],(5,some (.ch 5 1 s.hash.length (s.hash.map U8) true))::[(0,some (pbox leaves own O H)),(1,some (.box (zero4.map .r))),(2,some (.box [.r (I leaves), .r (I own), .own 3, .own 4])),(3,some (zcw (K.map (putN O)))),(4,some (zcx ((M.take j).map (putH H))))],6,λY=>zo _,?_⟩
  refine⟨rfl,⟨λY=>zo _,λY=>zo _,λY=>zo _,λY=>zo _,trivial⟩,(53, .own 6)::(52, .r (.ag (Stub.c ⟨M[j],s.hash⟩)))::(51, .own 5)::(50, .r (bs s.hash))::(48, .r (.s (mapS (zb2 H))))::(47, .adr 0 3)::[(1, .own 0),(2, .own 1),(3, .own 2),(7, .r (I M[j])),(38, .r (is M)),(39, .r (I M.length)),(40, .r (I j))],(6,some (.ch 432 2 1 (Stub.c ⟨M[j],s.hash⟩) true))::(5,some (.ch 5 1 s.hash.length (s.hash.map U8) true))::[(0,some (pbox leaves own O H)),(1,some (.box (zero4.map .r))),(2,some (.box [.r (I leaves), .r (I own), .own 3, .own 4])),(3,some (zcw (K.map (putN O)))),(4,some (zcx ((M.take j).map (putH H))))],7,λY=>zw (zo _),?_⟩
  refine⟨rfl,⟨λY=>zo _,λY=>zo _,λY=>zo _,λY=>zo _,trivial⟩,?_⟩
  have hsn:(M.take (j+1)).map (putH H)=(M.take j).map (putH H)++[⟨M[j],s.hash⟩]:=by
   rw[List.take_succ_eq_append_getElem hj',List.map_append]
   simp[putH,(zu8 hfs).1]
  refine Vapp.mk' (j:=((M.take (j+1)).map (putH H)).length) (zs:=((M.take (j+1)).map (putH H)).flatMap Stub.c) (by simp only[maxLen,List.length_map,List.length_take];omega) (by simp;omega) (by rw[hsn];simp) (by rw[hsn];simp[zde,cellsOf,bs]) ?_
  refine zd (m:=((j+1:Nat):Int)) (by omega) (by omega) ?_
  exact⟨j+1,hj',by omega,zac [(0,0),(1,1),(2,2),(3,3),(4,_)] rfl ⟨rfl,rfl,rfl,cr,cr,cr,trivial⟩ ⟨(aC aZ),zae zero4,cvc (zbi _) (cvc (zbi _) (cvc rfl (cvc rfl rfl))),⟨rfl,rfl,rfl,rfl,zn _⟩,⟨rfl,rfl,rfl,rfl,zn _⟩,trivial⟩⟩
 simp only[zb]at h
 rw[List.take_of_length_le (by omega)]
 clear h hj
 refine za rfl rfl ?_
 refine za rfl rfl ?_
 exact zf rfl
theorem zjnb(pv:Value)(lf:Leaf):Acts aP 373 1 [(0, .box [.r (nods [L1 lf])])] [.r (I 0), .own 0] [(0,pv)] 2 [(0, .box [.r (nods [L1 lf])])] (.r (.tu [.ag (L1 lf).c, .b true])):=by
 refine zah (T:=Tab) mixed Tab_ok Tryz.func373 rfl (by kernel_rfl) rfl ⟨⟨_,_,rfl,rfl,zai,zai⟩,trivial⟩ ?_
 refine zm i00 i01 (idx0 lf) ?_
 refine za rfl rfl ?_
 exact zan (.inl rfl) [(0,0),(1,1)] [(3, .own 1),(4, .r (.b true))] [(1,some (.box ((L1 lf).c.map .r)))] rfl ⟨rfl,cr,⟨rfl,rfl⟩,trivial⟩ ⟨(aA aZ),(aD (aB aZ)),trivial⟩ ⟨⟨1000000,rfl⟩,trivial⟩ (za rfl rfl ⟨_,rfl,cr⟩)
structure VD where
 lf:Leaf
 i:Int
 only:Bool
 p0:Value
 p1:Value
 p2:Value
 p3:Value
 p4:Value
 p5:Value
 p6:Value
 p7:Value
 p8:Value
def VD.fat(c:VD):Value:= .func (.func 373) #[] #[c.p0]
def VD.vis(c:VD):Value:= .func (.func 450) #[] #[c.p3,c.p6,c.p8,c.p4]
def VD.chi(c:VD):Value:= .func (.func 448) #[] #[c.p1,c.p7,c.p2,c.p5]
def VD.mem(c:VD)(A B:List Int)(ok:Bool):List (Nat×Ow):=
 [(0, .box [.r (nods [L1 c.lf])]),(1, .box [.r (I c.i)]),(2, .box [.r (.b c.only)]),(3, .box [.r (.x c.fat)]),(4, .box [.own 9]),(5, .box [.own 10]),(6, .box [.r (.b ok)]),(7, .box [.r (.x c.vis)]),(8, .box [.r (.x c.chi)]),
 (9, .ch 3 1 A.length (A.map I) false),(10, .ch 3 1 B.length (B.map I) false)]
def VD.nms(c:VD):List (Nat×Value):=[(0,c.p0),(1,c.p1),(2,c.p2),(3,c.p3),(4,c.p4),(5,c.p5),(6,c.p6),(7,c.p7),(8,c.p8)]
theorem VD.same(c:VD)(A B A' B':List Int)(ok ok':Bool):zjz (c.mem A B ok) (c.mem A' B' ok') c.nms:=
 ⟨⟨_,_,rfl,rfl,zai,zai⟩,⟨_,_,rfl,rfl,zai,zai⟩,⟨_,_,rfl,rfl,zai,zai⟩,⟨_,_,rfl,rfl,zai,zai⟩,⟨_,_,rfl,rfl,zai,zai⟩,⟨_,_,rfl,rfl,zai,zai⟩,⟨_,_,rfl,rfl,zai,zai⟩,⟨_,_,rfl,rfl,zai,zai⟩,⟨_,_,rfl,rfl,zai,zai⟩,trivial⟩
set_option maxHeartbeats 2000000 in
theorem VD.visit(c:VD)(A B:List Int)(ok:Bool)(hlf:c.lf.fit)(hA:A.length<=1000000):
  Acts aP 450 11 (c.mem A B ok) [.r (I 0), .r (I 0), .r (is []), .own 3, .own 6, .own 8, .own 4] c.nms 11 (c.mem (A++[(0:Int)]) B ok) (.r (.tu [])):=by
 refine zah (T:=Tab) mixed Tab_ok Tryz.func450 rfl (by kernel_rfl) rfl (c.same _ _ _ _ _ _) ?_
 refine zj [(0,0)] [0] (λvs _=>zjnb (vs 0) c.lf) (Handed.clo (fs:=[.r (I _)]) (cs:=[.own 0]) rfl rfl ⟨_,_,rfl,cr,rfl⟩ ⟨_,_,rfl,⟨0,1000000,rfl,rfl⟩,rfl⟩) rfl ⟨(aA aZ),trivial⟩ ⟨zad,trivial⟩ ?_
 refine zu rfl (zq ?_)
 refine zu rfl (zq ?_)
 refine⟨by decide,_,rfl,?_⟩
 refine zu rfl (zq ?_)
 refine zw ?_
 refine Vapp.mk' (j:=(A++[(0:Int)]).length) (zs:=(A++[(0:Int)]).map I) (by simp only[maxLen,aL];omega) (by simp;omega) (by rw[aL (bs:=[_])];rfl) (List.map_append (f:=I) (l₁:=A) (l₂:=[(0:Int)])).symm ?_
 refine⟨by decide,_,rfl,?_⟩
 refine zu rfl (zq ?_)
 exact zan (.inr rfl) [(0,0),(1,1),(2,2),(3,3),(4,4),(5,5),(6,6),(7,7),(8,8),(9,15),(10,10)] [] [] rfl ⟨⟨rfl,rfl⟩,⟨rfl,rfl⟩,⟨rfl,rfl⟩,⟨rfl,rfl⟩,⟨rfl,rfl⟩,⟨rfl,rfl⟩,⟨rfl,rfl⟩,⟨rfl,rfl⟩,⟨rfl,rfl⟩,trivial⟩ ⟨(aA aZ),(aA aZ),(aA aZ),(aA aZ),⟨_,_,rfl,rfl,rfl⟩,⟨_,_,rfl,rfl,rfl⟩,(aA aZ),(aA aZ),(aA aZ),⟨rfl,rfl,rfl,rfl,zn _⟩,⟨rfl,rfl,rfl,rfl,zn _⟩,trivial⟩ ⟨⟨1000000,rfl⟩,⟨1000001,rfl⟩,⟨1000002,rfl⟩,⟨1000003,rfl⟩,⟨1000004,rfl⟩,⟨1000005,rfl⟩,⟨1000006,rfl⟩,⟨1000007,rfl⟩,⟨1000008,rfl⟩,trivial⟩ ⟨_,rfl,cr⟩
set_option maxHeartbeats 2000000 in
theorem zchb(lf:Leaf)(hlf:lf.fit)(p0:Value)(i:Int)(only:Bool):
  Acts aP 372 1 [(0, .box [.r (nods [L1 lf])])] [.r (I 1), .r (I i), .r (.b only), .r (.x (.func (.func 373) #[] #[p0]))] [(0,p0)] 11 [(0, .box [.r (nods [L1 lf])])] (.r (.tu [is [0],is [], .b true])):=by
 refine zah (T:=Tab) mixed Tab_ok Tryz.func372 rfl (by kernel_rfl) rfl ⟨⟨_,_,rfl,rfl,zai,zai⟩,trivial⟩ ?_
 refine Vstep.nm 1 1000001 rfl λp1=>Vstep.nm 7 1000007 rfl λp7=>Vstep.nm 2 1000002 rfl λp2=>Vstep.nm 5 1000005 rfl λp5=>Vstep.mkfunX [p1,p7,p2,p5] rfl ⟨_,_,rfl,⟨1,1000001,rfl,rfl⟩,_,_,rfl,⟨7,1000007,rfl,rfl⟩,_,_,rfl,⟨2,1000002,rfl,rfl⟩,_,_,rfl,⟨5,1000005,rfl,rfl⟩,rfl⟩ ?_
 refine Vstep.nm 3 1000003 rfl λp3=>Vstep.nm 6 1000006 rfl λp6=>Vstep.nm 8 1000008 rfl λp8=>Vstep.nm 4 1000004 rfl λp4=>Vstep.mkfunX [p3,p6,p8,p4] rfl ⟨_,_,rfl,⟨3,1000003,rfl,rfl⟩,_,_,rfl,⟨6,1000006,rfl,rfl⟩,_,_,rfl,⟨8,1000008,rfl,rfl⟩,_,_,rfl,⟨4,1000004,rfl,rfl⟩,rfl⟩ ?_
 refine Vdraw.cut 3 (by kernel_rfl) ?_
 refine ze (z7n 1) ?_
 have hvis:=VD.visit ⟨lf,i,only,p0,p1,p2,p3,p4,p5,p6,p7,p8⟩ [] [] true hlf (by decide)
 simp only[List.nil_append]at hvis
 refine Vstep.sub (Sub.trans (zb4 false 4 0 3 1 rfl rfl) (zb4 false 5 0 3 1 rfl rfl)) ?_
 refine zj [(0,0),(1,1),(2,2),(3,3),(4,4),(5,5),(6,6),(7,7),(8,8),(9,9),(10,10)] [0,1,2,3,4,5,6,7,8] (λvs hv=>zhl (by simp only[List.map];rw[hv 0 0 1000000 _ rfl rfl,hv 1 1 1000001 _ rfl rfl,hv 2 2 1000002 _ rfl rfl,hv 3 3 1000003 _ rfl rfl,hv 4 4 1000004 _ rfl rfl,hv 5 5 1000005 _ rfl rfl,hv 6 6 1000006 _ rfl rfl,hv 7 7 1000007 _ rfl rfl,hv 8 8 1000008 _ rfl rfl];rfl) hvis) (Handed.clo (fs:=[.r (I _), .r (I _), .r (is [])]) (cs:=[.own 3, .own 6, .own 8, .own 4]) rfl rfl ⟨_,_,rfl,cr,_,_,rfl,cr,_,_,rfl,Cv.nil 1,rfl⟩ ⟨_,_,rfl,⟨3,1000003,rfl,rfl⟩,_,_,rfl,⟨6,1000006,rfl,rfl⟩,_,_,rfl,⟨8,1000008,rfl,rfl⟩,_,_,rfl,⟨4,1000004,rfl,rfl⟩,rfl⟩) rfl ⟨(aA aZ),(aA aZ),(aA aZ),(aA aZ),⟨_,_,rfl,rfl,rfl⟩,⟨_,_,rfl,rfl,rfl⟩,(aA aZ),(aA aZ),(aA aZ),⟨rfl,rfl,rfl,rfl,zn _⟩,⟨rfl,rfl,rfl,rfl,zn _⟩,trivial⟩ ⟨zad,zad,zad,zad,zad,zad,zad,zad,zad,zlb,zlb,trivial⟩ ?_
 refine Vdraw.code (Vcode.float mixed Tab_ok 5 [⟨0,19, .own 9,[]⟩,⟨1,20, .own 10,[]⟩,⟨2,21, .r (.b true),[]⟩] [(3,[0]),(4,[1])] (by kernel_rfl) (F:=[(8, .own 4),(9, .own 5),(10, .own 6),(1000000, .nm 0 p0)]) (O:=[(0,some (.box [.r (nods [L1 lf])])),(4,some (.box [.own 9])),(5,some (.box [.own 10])),(6,some (.box [.r (.b true)])),(9,some (.ch 3 1 1 [I 0] false)),(10,some (.ch 3 1 0 [] false))]) (nx:=11) (zac [(0,0),(4,4),(5,5),(6,6),(9,20),(10,21)] rfl ⟨rfl,rfl,rfl,⟨rfl,rfl⟩,trivial⟩ ⟨(aA aZ),⟨_,_,rfl,rfl,rfl⟩,⟨_,_,rfl,rfl,rfl⟩,(aA aZ),⟨rfl,rfl,rfl,rfl,zn _⟩,⟨rfl,rfl,rfl,rfl,zn _⟩,trivial⟩) ?_)
 refine⟨rfl,⟨λY=>zo _,λY=>zo _,λY=>zo _,trivial⟩,[(8, .own 4),(9, .own 5),(10, .own 6),(1000000, .nm 0 p0)],(4,some (.box [.own 9]))::[(0,some (.box [.r (nods [L1 lf])])),(4,some (.box [.own 9])),(5,some (.box [.own 10])),(6,some (.box [.r (.b true)])),(9,some (.ch 3 1 1 [I 0] false)),(10,some (.ch 3 1 0 [] false))],11,λY=>zo _,?_⟩
 refine⟨rfl,⟨λY=>zo _,λY=>zo _,λY=>zo _,trivial⟩,[(8, .own 4),(9, .own 5),(10, .own 6),(1000000, .nm 0 p0)],(5,some (.box [.own 10]))::(4,some (.box [.own 9]))::[(0,some (.box [.r (nods [L1 lf])])),(4,some (.box [.own 9])),(5,some (.box [.own 10])),(6,some (.box [.r (.b true)])),(9,some (.ch 3 1 1 [I 0] false)),(10,some (.ch 3 1 0 [] false))],11,λY=>zo _,?_⟩
 refine⟨rfl,⟨λY=>zo _,λY=>zo _,λY=>zo _,trivial⟩,?_⟩
 refine z1m (Sub.trans (zbd (id:=9) rfl) (zbd (id:=10) rfl)) ?_
 exact zan (.inl rfl) [(0,0),(4,4),(5,5),(6,6),(9,9),(10,10)] [(8, .own 4),(9, .own 5),(10, .own 6)] [(4,some (.box [.own 9])),(5,some (.box [.own 10])),(6,some (.box [.r (.b true)])),(9,some (.ch 3 1 1 [I 0] true)),(10,some (.ch 3 1 0 [] true))] rfl ⟨rfl,rfl,rfl,⟨rfl,rfl⟩,trivial⟩ ⟨(aA aZ),⟨_,_,rfl,rfl,rfl⟩,⟨_,_,rfl,rfl,rfl⟩,(aA aZ),⟨rfl,rfl,rfl,rfl,zn _⟩,⟨rfl,rfl,rfl,rfl,zn _⟩,trivial⟩ ⟨⟨1000000,rfl⟩,trivial⟩ ⟨_,rfl,cr⟩
theorem Vsem.fieldN{P:Program}{T:TT}{S:St}{o:Oper}(hT:TOk P T){t:TypeId}{x:Operand}{i off:Nat}{ft:TypeId}{ti tf:TI}{fs:List (Nat×TypeId)}{cells cs:List RV}{K:TF->Option Ow->Prop}(hop:o.op= .field t x i)(hti:tget T t=some ti)(hk:ti.k= .struct fs)(hfs:lget fs i=some (off,ft))(htf:tget T ft=some tf)(hag:tf.agg=true)
  (hx:opr S x=some (.r (.ag cells))) (hb:off+tf.sz<=cells.length) (hc:(cells.drop off).take tf.sz=cs) (hK:K (.r (.ag cs)) none):Vsem P S o K:=by
 subst hc
 refine⟨_,_,λB N a w k Q ⟨g,hs⟩ hd=>?_,hK⟩
 have hv:=(zaf hs hx).2
 simp only[TF.at_,RV.at_]at hv
 obtain⟨us,e,hl⟩:=hv
 rw[zat]at hfs
 have hul:=(RV.listAt_iff _ _).1 hl
 have hus:off+tf.sz<=us.size:=by rw[<-Array.length_toList,hul.1];exact hb
 obtain⟨q,hq⟩:=hT.get hti
 obtain⟨d,hdd,hko,_⟩:=q.desc
 rw[hq]at hdd
 rw[hk]at hko
 obtain⟨fields,rfl,hfl⟩:=hko
 obtain⟨qf,hqf⟩:=hT.get htf
 have hsize:=zba (w:=w) qf hqf
 obtain⟨df,hdf,_,hrow⟩:=qf.desc
 rw[hqf]at hdf
 rw[hag]at hrow
 have hagg:(isAgg ft).run P w= .ok true w:=by
  unfold isAgg
  rw[Sem.run_bind,run_underlying hdf w]
  cases df<;>simp_all [TypeDesc.isRow]
 rw[<-hfl,List.getElem?_map]at hfs
 cases hfi:fields.toList[i]? with
 |none=>simp[hfi]at hfs
 |some fd=>
  simp only[hfi,Option.map_some,Option.some.injEq,Prod.mk.injEq]at hfs
  obtain⟨h0,rfl⟩:=hfs
  have hfa:fields[i]?=some fd:=by simpa using hfi
  refine zau (v:= .agg (us.extract off (off+tf.sz))) (w':=w) ?_ ⟨k,g,hs.put hd trivial ?_⟩
  ·simp[execOp,hop,Instr.field,run_underlying hdd w,hfa,e,part,hagg,asAgg,hsize,h0,hus]
  ·simp only[TF.at_,RV.at_]
   refine⟨_,rfl,?_⟩
   rw[Array.toList_extract,List.extract_eq_take_drop,Nat.add_sub_cancel_left]
   exact zct (zdu hl off) _
structure BoxedP where
 enc:List UInt8
 box:List UInt8
 deriving DecidableEq
abbrev BoxedP.c(b:BoxedP):List RV:=[bs b.enc,bs b.box]
def zfmb(l:List BoxedP):RV:= .sl 2 l.length (l.flatMap BoxedP.c)
structure StepW where
 box:List UInt8
 to:List BoxedP
 deriving DecidableEq
abbrev StepW.c(s:StepW):List RV:=[bs s.box,zfmb s.to]
def zmob(l:List StepW):RV:= .sl 2 l.length (l.flatMap StepW.c)
structure MadeP where
 sparse:Lean_
 leaf:Leaf
 steps:List StepW
 keys:List KeyP
 secrets:List (List UInt8)
 commit:List UInt8
abbrev MadeP.c(m:MadeP):List RV:=[I m.sparse.leaves,I m.sparse.own,zsf m.sparse.opn,z6h m.sparse.shut,bs m.leaf.box,bs m.leaf.sign,bs m.leaf.ident,U8 m.leaf.src,bs m.leaf.parent,bs m.leaf.sig,zmob m.steps,keyR m.keys,bss m.secrets,bs m.commit]
def zd2(old:Leaf)(q low:List UInt8):Leaf:=⟨q,old.sign,old.ident,3,low,old.sig⟩
theorem zxc(s:Lean_)(hn:s.leaves=1)(ho:s.own=0):aG 276 [.ag s.c] (.r (zk4 [])):=by
 obtain⟨n,o,A,H⟩:=s
 simp only at hn ho
 subst hn;subst ho
 refine aT Tryz.func276 rfl ?_
 have e1:zo1 0 1=[]:=by decide
 have e2:zon 0 1=[]:=by decide
 refine zd (m:=0) rfl (by show-9223372036854775808<=(2*0:Int)/\(2*0:Int)<=9223372036854775807;decide) ?_
 refine ze (zw7 0 1) ?_
 refine zd (m:=0) rfl (by show-9223372036854775808<=(2*0:Int)/\(2*0:Int)<=9223372036854775807;decide) ?_
 refine ze (zxa 0 1) ?_
 rw[e1,e2]
 refine zy (λ_:Unit=>{F:=[(3, .r nl),(23, .r (I 0)),(24, .r (I 0))],O:=[],nx:=0}) (λ_=>True) (λ_=>0) () trivial (zac [] rfl ⟨cr,cr,cr,trivial⟩ trivial) ?_
 intro _ _
 refine zu rfl (zq ?_)
 exact Cv.nil 3
def oneS(n:Node):Lean_:=⟨1,0,[⟨0,n⟩],[]⟩
theorem z5w{n:Node}(hr:n.right=true)(hk:n.kind.toNat=1):sR (oneS n)=true:=by
 have hpar:n.par.late=[]:=by
  unfold Node.right at hr
  rw[if_neg (by omega),if_pos hk]at hr
  simp only[Bool.and_eq_true,Par.none,decide_eq_true_eq]at hr
  exact List.eq_nil_of_length_eq_zero (by omega)
 have hf:ze2 0 n=true:=by
  unfold ze2
  rw[hr,hpar]
  have:zgi 0=2:=rfl
  rw[this]
  simp
  omega
 have hl:zi8 [⟨0,n⟩] 0=true:=by simp[zi8,zbk,hk]
 have hv:visV [⟨0,n⟩] 0 false 0 0 0 []=([0],[],true):=by
  unfold visV
  have:zbk [⟨0,n⟩] ((nd 0 0:Nat):Int)=some n:=by simp[zbk,nd]
  rw[this]
  rfl
 unfold sR ascS atsO atsH zd3 oneS
 simp only[List.map_cons,List.map_nil,List.all_cons,List.all_nil]
 have hlog:(1:Int).toNat.log2=0:=rfl
 have hz:(0:Int).toNat=0:=rfl
 rw[show(2*(0:Int))=0 from rfl,hl,hf,hlog]
 simp only[hv]
 have hs1:zbo [0]=[0]:=by simp[zbo]
 have hs2:zbo []=[]:=by simp[zbo]
 have hf1:zd9 1=true:=by decide
 simp[ascL,hf1,hs1,hs2]
theorem z2p{n:Node}(hf:n.fit):(oneS n).bd:=by
 refine⟨(by show i64 1;unfold i64;decide),(by show i64 0;unfold i64;decide),(by show 1<=1000000;omega),(by show 0<=1000000;omega),λx hx=>?_,λx hx=>(by cases hx),λx hx=>?_,λx hx=>(by cases hx)⟩
 ·rw[List.mem_singleton.1 hx];show i64 0;unfold i64;decide
 ·rw[List.mem_singleton.1 hx];exact hf
abbrev zcl(lf:Leaf):Lean_:=oneS (L1 lf)
theorem z74(lf:Leaf):aG 195 [nods [L1 lf],I 0] (.r (.b true)):=by
 refine aT Tryz.func195 rfl ?_
 refine zt rfl ?_
 refine ze (zjt lf) ?_
 refine zt rfl ?_
 refine zd (m:=0) rfl (by decide) ?_
 refine zm i00 i01 (idx0 lf) ?_
 refine zg rfl ?_
 refine zt rfl ?_
 exact cr
theorem zxz(lf:Leaf)(hlf:lf.fit)(hlr:lf.right=true):aG 112 [nods [L1 lf],I 0] (.r (.tu [.ag lf.c, .b true])):=by
 refine aT Tryz.func112 rfl ?_
 refine ze (zi2 lf hlf hlr) ?_
 refine zu rfl ?_
 refine ze (z74 lf) ?_
 refine zu rfl (zq ?_)
 refine zd (m:=0) rfl (by decide) ?_
 refine zm i00 i01 (idx0 lf) ?_
 refine za rfl rfl ?_
 refine ze (ze3 (L1 lf) (zdx hlf) (zb1 _ hlf)) ?_
 refine Vsem.fieldN Tab_ok rfl rfl rfl rfl rfl rfl rfl (Nat.le_of_ble_eq_true rfl) rfl ?_
 refine za rfl rfl ?_
 exact⟨_,rfl,cr⟩
theorem zgxb(lf:Leaf)(hlf:lf.fit)(hlr:lf.right=true)(only:Bool):aG 273 [nods [L1 lf],I 0, .b only] (.r (.tu [(zcl lf).pr,Er 0])):=by
 refine za1 (T:=Tab) mixed Tab_ok Tryz.func273 rfl (by kernel_rfl) ?_
 refine ze (z7r lf hlf hlr) ?_
 refine zu rfl (zq ?_)
 refine ze (zxz lf hlf hlr) ?_
 refine zu rfl (zq ?_)
 refine Vcode.run Tab_ok ?_
 refine zd (m:=2) rfl i2b ?_
 refine⟨by decide,1,by decide,?_⟩
 refine Vstep.mapMk 2000001 rfl λb1=>?_
 refine Vstep.mapMk 2000002 rfl λb2=>?_
 refine Vstep.nm 0 1000000 rfl λp0=>Vstep.mkfunX [p0] rfl ⟨_,_,rfl,⟨0,1000000,rfl,rfl⟩,rfl⟩ ?_
 refine zj [(0,0)] [0] (λvs hv=>zhl (by simp only[List.map];rw[hv 0 0 1000000 _ rfl rfl]) (zchb lf hlf p0 0 only)) (zi rfl ⟨_,_,rfl,cr,_,_,rfl,cr,_,_,rfl,cr,_,_,rfl,cr,rfl⟩) rfl ⟨(aA aZ),trivial⟩ ⟨zad,trivial⟩ ?_
 refine Vloop.rounds 2 (Vrounds.step mixed Tab_ok ?_)
 refine zt rfl (zp ?_)
 refine zm i00 i01 rfl ?_
 refine zg rfl ?_
 refine aV ?_
 refine zm i00 i01 (idx0 lf) ?_
 refine za rfl rfl ?_
 refine Vstep.mapPut 3 2000001 rfl rfl rfl rfl rfl rfl rfl zk9 zig rfl ?_
 refine zd (m:=1) rfl (by decide) ?_
 refine Vrounds.step mixed Tab_ok ?_
 refine zu rfl (zq ?_)
 refine Vloop.rounds 1 (Vrounds.step mixed Tab_ok ?_)
 refine zu rfl (zq ?_)
 refine za rfl rfl ?_
 refine⟨_,Sub.trans (zhj (id:=1) (i:=2) (im:=3) (gh:=2000001) rfl rfl rfl rfl (by decide)) (zhj (id:=1) (i:=3) (im:=4) (gh:=2000002) rfl rfl rfl rfl (by decide)),?_⟩
 refine za rfl rfl ?_
 exact⟨_,rfl,cr⟩
theorem zgtb(lf:Leaf)(hlf:lf.fit)(hlr:lf.right=true):aG 182 [nods [L1 lf],I 0] (.r (.tu [.ag (zcl lf).c,Er 0])):=by
 refine aT Tryz.func182 rfl ?_
 have c2:=zbrb 1 0 (zcl lf).opn [] (by show 1<=1000000;decide) (by decide) (λs hs=>by
  rw[List.mem_singleton.1 hs]
  exact zdx hlf) (λs hs=>by
  rw[List.mem_singleton.1 hs]
  exact⟨by show(-9223372036854775808:Int)<=0;decide,by show(0:Int)<=9223372036854775807;decide⟩) (λs hs=>by cases hs) (λs hs=>by cases hs)
 have e:zo9 1 0 (zcl lf).opn []=zcl lf:=by simp[zo9,zbo,oneS,putN,zbk]
 rw[e]at c2
 refine ze (zgxb lf hlf hlr false) ?_
 refine zu rfl (zq ?_)
 refine za rfl rfl ?_
 refine ze c2 ?_
 refine za rfl rfl ?_
 exact⟨_,rfl,cr⟩
theorem z2z{jn wl ep:List UInt8}(h1:jn.length=32)(h2:wl.length=32)(h3:ep.length=32):(secE jn wl ep).sm:=by
 have q: ∀l:List UInt8,(labB ep l [] 32).length<=1000000:=λl=>by rw[zbb ep l [] (n:=32) (by omega)];decide
 exact⟨by show jn.length<=_;omega,by show wl.length<=_;omega,by show ep.length<=_;omega,q _,q _,q _,q _,q _,q _,q _,q _,q _⟩
structure GrpV where
 v:ViewP
 o:Leaf
 sg:List UInt8
structure GrpV.ok (g:GrpV) (id:List UInt8):Prop where
 sm:g.v.sm
 own:g.v.own=0
 ctx:g.v.ctx=⟨id,0,hash1 g.o,[]⟩
 box:g.o.box.length=32
 sign:g.o.sign.length=32
 ident:g.o.ident.length<=64
 parent:g.o.parent.length=0
 lsig:g.o.sig.length=64
 right:g.o.right=true
 sg:g.sg.length<=1000000
 sgl:g.sg.length=32
 spub:g.o.sign=pubS g.sg
theorem zjob(id ident seed:List UInt8)(hid:id.length<=64)(hi:ident.length<=64)(h0:ident.length≠0)(hs:seed.length=32):
  ∃g:GrpV,g.ok id/\aG 7 [bs id,bs ident,bs seed] (.r (.tu [.ptr (grR g.v g.o g.sg),Er 0]))/\zmt aP 7 [bs id,bs ident,bs seed] (grR g.v g.o g.sg) [Er 0]:=by
 rcases z8f ident seed hs hi with⟨e0,_⟩ |⟨_,w,hw,cp⟩
 ·exact absurd e0 h0
 have hf:w.leaf.fit:=⟨by have:=hw.box;omega,by have:=hw.sign;omega,by have:=hw.ident;omega,by have:=hw.parent;omega,by have:=hw.lsig;omega⟩
 have ct:=zov w.leaf hf hw.right
 have hh:=zht w.leaf
 have cs:=zc2 seed grpS (by omega) (by decide)
 have hx:=zbb seed (sB grpS) [] (n:=32) (by omega)
 generalize labB seed (sB grpS) [] 32=x at cs hx
 have cn:=zte x z32 ⟨id,0,hash1 w.leaf,[]⟩ ⟨by show id.length<=_;omega,by show 0<18446744073709551616;decide,by show(hash1 w.leaf).length<=_;omega,by show 0<=1000000;decide⟩ (by show id.length+(hash1 w.leaf).length+0<=_;omega) (by omega) (by decide)
 obtain⟨s,hs2,hsm,hcf⟩: ∃s:SecP,s=schS (ze7 x z32 (ctxB ⟨id,0,hash1 w.leaf,[]⟩)) (ctxB ⟨id,0,hash1 w.leaf,[]⟩)/\s.sm/\s.cf.length=32:=by
  refine⟨_,rfl,z2z (zbb _ _ _ (n:=32) (by omega)) (zbb _ _ _ (n:=32) (by omega)) (zbb _ _ _ (n:=32) (by omega)),zbb _ _ _ (n:=32) (by omega)⟩
 rw[<-hs2]at cn
 have cg:=zxx s [] (by omega) (by decide)
 have hg:=zbm s.cf []
 generalize macB s.cf []=tg at cg hg
 have ci:=zlx [] tg (by decide) (by omega)
 have hit:(intB [] tg).length=32:=zcd _
 generalize intB [] tg=it at ci hit
 refine⟨⟨⟨⟨id,0,hash1 w.leaf,[]⟩,0,it,tg,s,⟨0,w.b⟩⟩,w.leaf,w.c⟩,⟨⟨by show id.length<=_;omega,by show(hash1 w.leaf).length<=_;omega,by show 0<=1000000;decide,by show it.length<=_;omega,by show tg.length<=_;omega,hsm,by show w.b.length<=_;have:=hw.b;omega⟩,rfl,rfl,hw.box,hw.sign,hw.ident,hw.parent,hw.lsig,hw.right,by show w.c.length<=_;have:=hw.c;omega,hw.c,hw.spub⟩,?_⟩
 exact⟨zxr id ident seed w.init w.sig w.a w.b w.c (hash1 w.leaf) x z32 tg it w.leaf s hid cp ct cs zhs cn cg ci,z77 id ident seed w.init w.sig w.a w.b w.c (hash1 w.leaf) x z32 tg it w.leaf s hid cp ct cs zhs cn cg ci⟩
theorem z0x(l m:List (List UInt8))(hl:l.length<=1000000)(hm:m.length<=1000000):aG 168 [bss l,bss m] (.r (.b (decide (l=m)))):=by
 refine aT Tryz.func168 rfl ?_
 by_cases hlen:l.length=m.length
 ·refine zu (by simp only[zb];omega) (zq ?_)
  refine zy (λi:Nat=>⟨[(0, .r (bss l)),(1, .r (bss m)),(5, .r (I i))],[],0⟩) (λi=>i<=l.length/\l.take i=m.take i) (λi=>l.length-i) 0 ⟨by omega,by simp⟩ (zac [] rfl ⟨cr,cr,cr,trivial⟩ trivial) ?_
  rintro i ⟨hi,he⟩
  refine zh (λh=>zp ?_) (λh=>zq ?_)
  ·simp only[zb]at h
   have h1:i<l.length:=by omega
   have h2:i<m.length:=by omega
   refine aV ?_
   refine zm (by omega) (by omega) (za3 rfl h1) (zg rfl ?_)
   refine zm (by omega) (by omega) (za3 rfl h2) (zg rfl ?_)
   refine Vcall.bool (ziz l[i] m[i]) (λh3=>zu rfl (zq ?_)) (λh3=>zt rfl (zp ?_))
   ·simp only[decide_eq_true_eq]at h3
    refine zd (m:=((i+1:Nat):Int)) (by omega) (by omega) ?_
    refine⟨i+1,⟨h1,?_⟩,by omega,zac [] rfl ⟨cr,cr,cr,trivial⟩ trivial⟩
    rw[List.take_succ_eq_append_getElem h1,List.take_succ_eq_append_getElem h2,he,h3]
   ·simp only[decide_eq_false_iff_not]at h3
    refine zf (congrArg RV.b (Eq.symm ?_))
    rw[decide_eq_false_iff_not]
    intro e
    subst e
    exact h3 rfl
  ·simp only[zb]at h
   refine zf (congrArg RV.b (Eq.symm ?_))
   rw[decide_eq_true_eq,<-List.take_of_length_le (show l.length<=i by omega),he,List.take_of_length_le (by omega)]
 ·refine zt (by simp only[zb];omega) (zp ?_)
  refine zf (congrArg RV.b (Eq.symm ?_))
  rw[decide_eq_false_iff_not]
  exactλe=>hlen (by rw[e])
end Go.Proofs.YtkegaaonpekkgaaGreat.Sx
