import Derived.Test.YtkegaaonpekkgaaGreatZTn
import Derived.Test.YtkegaaonpekkgaaGreatZKb
import Derived.Test.YtkegaaonpekkgaaGreatZGeoB
import Derived.Test.YtkegaaonpekkgaaGreatZSxY
import Derived.Shelf.RegionOpenPlain
import Derived.Lib.Walk
import Derived.Lib.SliceRun
import Derived.Lib.Overlaps
import Derived.Laws.Externs
import Derived.Laws.IdiomCopy
import Derived.Lib.AppendZerosOnto
import Derived.Laws.NewBlocks
import Derived.Test.YtkegaaonpekkgaaGreatZSxPt
import Derived.Test.YtkegaaonpekkgaaGreatZTc
namespace Go.Proofs.YtkegaaonpekkgaaGreat.Sx
open Go.RowKit
def putN(O:List Spot)(x:Int):Spot:=⟨x,(zbi O x).getD Node.zero⟩
def putH(H:List Stub)(x:Int):Stub:=⟨x,z4e H x⟩
def zn5(leaves own:Int)(O:List Spot)(H:List Stub):Lean_:=⟨leaves,own,(zbl (O.map λs=>s.at_)).map (putN O),(zbl (H.map λs=>s.at_)).map (putH H)⟩
theorem ztz{l:List Int}{x:Int}:x∈zbl l↔x∈l:=by unfold zbl;exact List.mem_mergeSort
theorem zty(l:List Int):(zbl l).length=l.length:=by unfold zbl;exact List.length_mergeSort l
theorem z1y{O:List Spot}{x:Int}(h:x∈O.map λs=>s.at_): ∃s∈O,zbi O x=some s.node:=by
 cases hf:zbi O x with
 |none=>
  simp only[zbi,Option.map_eq_none_iff,List.find?_eq_none,decide_eq_true_eq]at hf
  obtain⟨s,hs,e⟩:=List.mem_map.1 h
  exact absurd e (hf s hs)
 |some n=>
  obtain⟨s,hs,_,rfl⟩:=z43 hf
  exact⟨s,hs,rfl⟩
theorem z4b{H:List Stub}{x:Int}(h:x∈H.map λs=>s.at_): ∃s∈H,zgu H x=some s.hash:=by
 cases hf:zgu H x with
 |none=>
  simp only[zgu,Option.map_eq_none_iff,List.find?_eq_none,decide_eq_true_eq]at hf
  obtain⟨s,hs,e⟩:=List.mem_map.1 h
  exact absurd e (hf s hs)
 |some n=>
  obtain⟨_,s,hs,_,rfl⟩:=ztv hf
  exact⟨s,hs,rfl⟩
set_option maxHeartbeats 4000000 in
theorem z9e(leaves own:Int)(O:List Spot)(H:List Stub)(hOn:O.length<=1000000)(hHn:H.length<=1000000)(hOf: ∀s∈O,s.node.fit)(hOi: ∀s∈O,i64 s.at_)(hHi: ∀s∈H,i64 s.at_)(hHl: ∀s∈H,s.hash.length<=1000000000):
  aG 274 [zxi leaves own O H] (.r (.ag (zn5 leaves own O H).c)):=by
 refine aT Tryz.func274 rfl ?_
 have kN:=zsv (zbt O) (by simpa[zbt]using hOn) (λx hx=>by
  simp only[zbt,List.mem_map]at hx
  obtain⟨s,hs,rfl⟩:=hx
  exact hOi s hs)
 have kH:=zsu (zby H) (by simpa[zby]using hHn) (λx hx=>by
  simp only[zby,List.mem_map]at hx
  obtain⟨s,hs,rfl⟩:=hx
  exact hHi s hs)
 rw[zlf]at kN
 rw[zk4]at kH
 obtain⟨K,hK⟩: ∃K,K=zbl (O.map λs=>s.at_):=⟨_,rfl⟩
 obtain⟨M,hM⟩: ∃M,M=zbl (H.map λs=>s.at_):=⟨_,rfl⟩
 have hKl:K.length<=1000000:=by rw[hK,zty,List.length_map];exact hOn
 have hMl:M.length<=1000000:=by rw[hM,zty,List.length_map];exact hHn
 have hKm: ∀x∈K,∃s∈O,zbi O x=some s.node:=λx hx=>z1y (ztz.1 (hK▸hx))
 have hMm: ∀x∈M,∃s∈H,zgu H x=some s.hash:=λx hx=>z4b (ztz.1 (hM▸hx))
 rw[<-hK]at kN
 rw[<-hM]at kH
 have hL:zn5 leaves own O H=⟨leaves,own,K.map (putN O),M.map (putH H)⟩:=by rw[hK,hM];rfl
 rw[hL]
 clear hL hK hM
 refine ze (z0a (zbt O)) ?_
 refine ze kN ?_
 refine zy (λj:Nat=>{F:=[(1, .own 0),(2, .own 1),(3, .own 2),(16, .r (is K)),(17, .r (I K.length)),(18, .r (I j))],O:=[(0,some (pbox leaves own O H)),(1,some (.box (zero4.map .r))),(2,some (.box [.r (I leaves), .r (I own), .own 3, .own 4])),(3,some (zcm ((K.take j).map (putN O)))),(4,some (zcn []))],nx:=5})
  (λj=>j<=K.length) (λj=>K.length-j) 0 (by omega)
  ((zb0 true 2 2 241 11 (cells:=[.r (I leaves), .r (I own), .r (.x (.slice none 0 0)), .r (.x (.slice none 0 0))]) rfl rfl).trans ((zb0 true 2 3 432 2 (cells:=[.r (I leaves), .r (I own), .own 4, .r (.x (.slice none 0 0))]) rfl rfl).trans (zad [(0,0),(1,1),(2,2),(3,4),(4,5)] rfl ⟨rfl,rfl,rfl,cr,cr,cr,trivial⟩ ⟨(aC aZ),zae zero4,cvc (zbg _) (cvc (zbg _) (cvc rfl (cvc rfl rfl))),⟨rfl,rfl,rfl,rfl,zn _⟩,⟨rfl,rfl,rfl,rfl,zn _⟩,trivial⟩))) ?_
 intro j hj
 refine zh (λh=>zp ?_) (λh=>zq ?_)
 ·simp only[zb]at h
  have hj':j<K.length:=by omega
  obtain⟨s,hs,hfs⟩:=hKm K[j] (List.getElem_mem hj')
  refine zm (by omega) (by omega) (zbh rfl hj') (zg rfl ?_)
  refine Vdraw.code (Vcode.float mixed Tab_ok 10 [⟨0,22, .adr 2 2,[]⟩,⟨1,23, .own 3,[0]⟩,⟨2,24, .r (I K[j]),[]⟩,⟨5,27, .r (I K[j]),[]⟩] [(3,[]),(4,[]),(6,[5]),(7,[]),(8,[2]),(9,[])] (by kernel_rfl) (F:=[(1, .own 0),(2, .own 1),(3, .own 2),(5, .r (I K[j])),(16, .r (is K)),(17, .r (I K.length)),(18, .r (I j))]) (O:=[(0,some (pbox leaves own O H)),(1,some (.box (zero4.map .r))),(2,some (.box [.r (I leaves), .r (I own), .own 3, .own 4])),(3,some (zcm ((K.take j).map (putN O)))),(4,some (zcn []))]) (nx:=5) (zad [(0,0),(1,1),(2,2),(3,3),(4,4)] rfl ⟨rfl,rfl,rfl,cr,cr,cr,cr,trivial⟩ ⟨(aC aZ),zae zero4,cvc (zbg _) (cvc (zbg _) (cvc rfl (cvc rfl rfl))),⟨rfl,rfl,rfl,rfl,zn _⟩,⟨rfl,rfl,rfl,rfl,zn _⟩,trivial⟩) ?_)
  refine⟨rfl,⟨λY=>zo _,λY=>zo _,λY=>zo _,λY=>zo _,trivial⟩,(25, .adr 0 2)::[(1, .own 0),(2, .own 1),(3, .own 2),(5, .r (I K[j])),(16, .r (is K)),(17, .r (I K.length)),(18, .r (I j))],[(0,some (pbox leaves own O H)),(1,some (.box (zero4.map .r))),(2,some (.box [.r (I leaves), .r (I own), .own 3, .own 4])),(3,some (zcm ((K.take j).map (putN O)))),(4,some (zcn []))],5,λY=>zo _,?_⟩
  refine⟨rfl,⟨λY=>zo _,λY=>zo _,λY=>zo _,λY=>zo _,trivial⟩,(26, .r (.s (mapS (zbt O))))::(25, .adr 0 2)::[(1, .own 0),(2, .own 1),(3, .own 2),(5, .r (I K[j])),(16, .r (is K)),(17, .r (I K.length)),(18, .r (I j))],[(0,some (pbox leaves own O H)),(1,some (.box (zero4.map .r))),(2,some (.box [.r (I leaves), .r (I own), .own 3, .own 4])),(3,some (zcm ((K.take j).map (putN O)))),(4,some (zcn []))],5,λY=>zo _,?_⟩
  refine⟨rfl,⟨λY=>zo _,λY=>zo _,λY=>zo _,λY=>zo _,trivial⟩,(28, .r (.ag s.node.c))::(26, .r (.s (mapS (zbt O))))::(25, .adr 0 2)::[(1, .own 0),(2, .own 1),(3, .own 2),(5, .r (I K[j])),(16, .r (is K)),(17, .r (I K.length)),(18, .r (I j))],[(0,some (pbox leaves own O H)),(1,some (.box (zero4.map .r))),(2,some (.box [.r (I leaves), .r (I own), .own 3, .own 4])),(3,some (zcm ((K.take j).map (putN O)))),(4,some (zcn []))],5,λY=>Vstep.node1 rfl rfl rfl (λn hn=>by rw[hfs]at hn;cases hn;exact zo _) (λhn=>by rw[hfs]at hn;cases hn),?_⟩
  refine⟨rfl,⟨λY=>zo _,λY=>zo _,λY=>zo _,λY=>zo _,trivial⟩,(29, .r (.ag s.node.c))::(28, .r (.ag s.node.c))::(26, .r (.s (mapS (zbt O))))::(25, .adr 0 2)::[(1, .own 0),(2, .own 1),(3, .own 2),(5, .r (I K[j])),(16, .r (is K)),(17, .r (I K.length)),(18, .r (I j))],[(0,some (pbox leaves own O H)),(1,some (.box (zero4.map .r))),(2,some (.box [.r (I leaves), .r (I own), .own 3, .own 4])),(3,some (zcm ((K.take j).map (putN O)))),(4,some (zcn []))],5,λY=>ze (zep s.node (hOf s hs) (zbx _ (hOf s hs).1)) (zo _),?_⟩
  refine⟨rfl,⟨λY=>zo _,λY=>zo _,λY=>zo _,λY=>zo _,trivial⟩,(30, .r (.ag (Spot.c ⟨K[j],s.node⟩)))::(29, .r (.ag s.node.c))::(28, .r (.ag s.node.c))::(26, .r (.s (mapS (zbt O))))::(25, .adr 0 2)::[(1, .own 0),(2, .own 1),(3, .own 2),(5, .r (I K[j])),(16, .r (is K)),(17, .r (I K.length)),(18, .r (I j))],[(0,some (pbox leaves own O H)),(1,some (.box (zero4.map .r))),(2,some (.box [.r (I leaves), .r (I own), .own 3, .own 4])),(3,some (zcm ((K.take j).map (putN O)))),(4,some (zcn []))],5,λY=>zo _,?_⟩
  refine⟨rfl,⟨λY=>zo _,λY=>zo _,λY=>zo _,λY=>zo _,trivial⟩,(31, .own 5)::(30, .r (.ag (Spot.c ⟨K[j],s.node⟩)))::(29, .r (.ag s.node.c))::(28, .r (.ag s.node.c))::(26, .r (.s (mapS (zbt O))))::(25, .adr 0 2)::[(1, .own 0),(2, .own 1),(3, .own 2),(5, .r (I K[j])),(16, .r (is K)),(17, .r (I K.length)),(18, .r (I j))],(5,some (.ch 241 11 1 (Spot.c ⟨K[j],s.node⟩) true))::[(0,some (pbox leaves own O H)),(1,some (.box (zero4.map .r))),(2,some (.box [.r (I leaves), .r (I own), .own 3, .own 4])),(3,some (zcm ((K.take j).map (putN O)))),(4,some (zcn []))],6,λY=>zw (zo _),?_⟩
  refine⟨rfl,⟨λY=>zo _,λY=>zo _,λY=>zo _,λY=>zo _,trivial⟩,?_⟩
  have hsn:(K.take (j+1)).map (putN O)=(K.take j).map (putN O)++[⟨K[j],s.node⟩]:=by
   rw[List.take_succ_eq_append_getElem hj',List.map_append]
   simp[putN,hfs]
  refine Vapp.mk' (j:=((K.take (j+1)).map (putN O)).length) (zs:=((K.take (j+1)).map (putN O)).flatMap Spot.c) (by simp only[maxLen,List.length_map,List.length_take];omega) (by simp;omega) (by rw[hsn];simp) (by rw[hsn];simp[zc6,cellsOf]) ?_
  refine zd (m:=((j+1:Nat):Int)) (by omega) (by omega) ?_
  exact⟨j+1,hj',by omega,zad [(0,0),(1,1),(2,2),(3,_),(4,4)] rfl ⟨rfl,rfl,rfl,cr,cr,cr,trivial⟩ ⟨(aC aZ),zae zero4,cvc (zbg _) (cvc (zbg _) (cvc rfl (cvc rfl rfl))),⟨rfl,rfl,rfl,rfl,zn _⟩,⟨rfl,rfl,rfl,rfl,zn _⟩,trivial⟩⟩
 simp only[zb]at h
 rw[List.take_of_length_le (by omega)]
 clear h hj
 refine ze (zz9 (zby H)) ?_
 refine ze kH ?_
 refine zy (λj:Nat=>{F:=[(1, .own 0),(2, .own 1),(3, .own 2),(38, .r (is M)),(39, .r (I M.length)),(40, .r (I j))],O:=[(0,some (pbox leaves own O H)),(1,some (.box (zero4.map .r))),(2,some (.box [.r (I leaves), .r (I own), .own 3, .own 4])),(3,some (zcm (K.map (putN O)))),(4,some (zcn ((M.take j).map (putH H))))],nx:=5})
  (λj=>j<=M.length) (λj=>M.length-j) 0 (by omega)
  (zad [(0,0),(1,1),(2,2),(3,3),(4,4)] rfl ⟨rfl,rfl,rfl,cr,cr,cr,trivial⟩ ⟨(aC aZ),zae zero4,cvc (zbg _) (cvc (zbg _) (cvc rfl (cvc rfl rfl))),⟨rfl,rfl,rfl,rfl,zn _⟩,⟨rfl,rfl,rfl,rfl,zn _⟩,trivial⟩) ?_
 intro j hj
 refine zh (λh=>zp ?_) (λh=>zq ?_)
 ·simp only[zb]at h
  have hj':j<M.length:=by omega
  obtain⟨s,hs,hfs⟩:=hMm M[j] (List.getElem_mem hj')
  have hsl:=hHl s hs
  refine zm (by omega) (by omega) (zbh rfl hj') (zg rfl ?_)
  refine Vdraw.code (Vcode.float mixed Tab_ok 10 [⟨0,44, .adr 2 3,[]⟩,⟨1,45, .own 4,[0]⟩,⟨2,46, .r (I M[j]),[]⟩,⟨5,49, .r (I M[j]),[]⟩] [(3,[]),(4,[]),(6,[5]),(7,[]),(8,[2]),(9,[])] (by kernel_rfl) (F:=[(1, .own 0),(2, .own 1),(3, .own 2),(7, .r (I M[j])),(38, .r (is M)),(39, .r (I M.length)),(40, .r (I j))]) (O:=[(0,some (pbox leaves own O H)),(1,some (.box (zero4.map .r))),(2,some (.box [.r (I leaves), .r (I own), .own 3, .own 4])),(3,some (zcm (K.map (putN O)))),(4,some (zcn ((M.take j).map (putH H))))]) (nx:=5) (zad [(0,0),(1,1),(2,2),(3,3),(4,4)] rfl ⟨rfl,rfl,rfl,cr,cr,cr,cr,trivial⟩ ⟨(aC aZ),zae zero4,cvc (zbg _) (cvc (zbg _) (cvc rfl (cvc rfl rfl))),⟨rfl,rfl,rfl,rfl,zn _⟩,⟨rfl,rfl,rfl,rfl,zn _⟩,trivial⟩) ?_)
  refine⟨rfl,⟨λY=>zo _,λY=>zo _,λY=>zo _,λY=>zo _,trivial⟩,(47, .adr 0 3)::[(1, .own 0),(2, .own 1),(3, .own 2),(7, .r (I M[j])),(38, .r (is M)),(39, .r (I M.length)),(40, .r (I j))],[(0,some (pbox leaves own O H)),(1,some (.box (zero4.map .r))),(2,some (.box [.r (I leaves), .r (I own), .own 3, .own 4])),(3,some (zcm (K.map (putN O)))),(4,some (zcn ((M.take j).map (putH H))))],5,λY=>zo _,?_⟩
  refine⟨rfl,⟨λY=>zo _,λY=>zo _,λY=>zo _,λY=>zo _,trivial⟩,(48, .r (.s (mapS (zby H))))::(47, .adr 0 3)::[(1, .own 0),(2, .own 1),(3, .own 2),(7, .r (I M[j])),(38, .r (is M)),(39, .r (I M.length)),(40, .r (I j))],[(0,some (pbox leaves own O H)),(1,some (.box (zero4.map .r))),(2,some (.box [.r (I leaves), .r (I own), .own 3, .own 4])),(3,some (zcm (K.map (putN O)))),(4,some (zcn ((M.take j).map (putH H))))],5,λY=>zo _,?_⟩
  refine⟨rfl,⟨λY=>zo _,λY=>zo _,λY=>zo _,λY=>zo _,trivial⟩,(50, .r (bs s.hash))::(48, .r (.s (mapS (zby H))))::(47, .adr 0 3)::[(1, .own 0),(2, .own 1),(3, .own 2),(7, .r (I M[j])),(38, .r (is M)),(39, .r (I M.length)),(40, .r (I j))],[(0,some (pbox leaves own O H)),(1,some (.box (zero4.map .r))),(2,some (.box [.r (I leaves), .r (I own), .own 3, .own 4])),(3,some (zcm (K.map (putN O)))),(4,some (zcn ((M.take j).map (putH H))))],5,λY=>Vstep.hash1 rfl rfl rfl (λn hn=>by rw[hfs]at hn;cases hn;exact zo _) (λhn=>by rw[hfs]at hn;cases hn),?_⟩
  refine⟨rfl,⟨λY=>zo _,λY=>zo _,λY=>zo _,λY=>zo _,trivial⟩,(51, .own 5)::(50, .r (bs s.hash))::(48, .r (.s (mapS (zby H))))::(47, .adr 0 3)::[(1, .own 0),(2, .own 1),(3, .own 2),(7, .r (I M[j])),(38, .r (is M)),(39, .r (I M.length)),(40, .r (I j))],(5,some (.ch 5 1 s.hash.length (s.hash.map U8) true))::[(0,some (pbox leaves own O H)),(1,some (.box (zero4.map .r))),(2,some (.box [.r (I leaves), .r (I own), .own 3, .own 4])),(3,some (zcm (K.map (putN O)))),(4,some (zcn ((M.take j).map (putH H))))],6,λY=>ze (zbu s.hash (by omega)) (zo _),?_⟩
  refine⟨rfl,⟨λY=>zo _,λY=>zo _,λY=>zo _,λY=>zo _,trivial⟩,(52, .r (.ag (Stub.c ⟨M[j],s.hash⟩)))::(51, .own 5)::(50, .r (bs s.hash))::(48, .r (.s (mapS (zby H))))::(47, .adr 0 3)::[(1, .own 0),(2, .own 1),(3, .own 2),(7, .r (I M[j])),(38, .r (is M)),(39, .r (I M.length)),(40, .r (I j))],(5,some (.ch 5 1 s.hash.length (s.hash.map U8) true))::[(0,some (pbox leaves own O H)),(1,some (.box (zero4.map .r))),(2,some (.box [.r (I leaves), .r (I own), .own 3, .own 4])),(3,some (zcm (K.map (putN O)))),(4,some (zcn ((M.take j).map (putH H))))],6,λY=>zo _,?_⟩
  refine⟨rfl,⟨λY=>zo _,λY=>zo _,λY=>zo _,λY=>zo _,trivial⟩,(53, .own 6)::(52, .r (.ag (Stub.c ⟨M[j],s.hash⟩)))::(51, .own 5)::(50, .r (bs s.hash))::(48, .r (.s (mapS (zby H))))::(47, .adr 0 3)::[(1, .own 0),(2, .own 1),(3, .own 2),(7, .r (I M[j])),(38, .r (is M)),(39, .r (I M.length)),(40, .r (I j))],(6,some (.ch 432 2 1 (Stub.c ⟨M[j],s.hash⟩) true))::(5,some (.ch 5 1 s.hash.length (s.hash.map U8) true))::[(0,some (pbox leaves own O H)),(1,some (.box (zero4.map .r))),(2,some (.box [.r (I leaves), .r (I own), .own 3, .own 4])),(3,some (zcm (K.map (putN O)))),(4,some (zcn ((M.take j).map (putH H))))],7,λY=>zw (zo _),?_⟩
  refine⟨rfl,⟨λY=>zo _,λY=>zo _,λY=>zo _,λY=>zo _,trivial⟩,?_⟩
  have hsn:(M.take (j+1)).map (putH H)=(M.take j).map (putH H)++[⟨M[j],s.hash⟩]:=by
   rw[List.take_succ_eq_append_getElem hj',List.map_append]
   simp[putH,(ztv hfs).1]
  refine Vapp.mk' (j:=((M.take (j+1)).map (putH H)).length) (zs:=((M.take (j+1)).map (putH H)).flatMap Stub.c) (by simp only[maxLen,List.length_map,List.length_take];omega) (by simp;omega) (by rw[hsn];simp) (by rw[hsn];simp[zc6,cellsOf,bs]) ?_
  refine zd (m:=((j+1:Nat):Int)) (by omega) (by omega) ?_
  exact⟨j+1,hj',by omega,zad [(0,0),(1,1),(2,2),(3,3),(4,_)] rfl ⟨rfl,rfl,rfl,cr,cr,cr,trivial⟩ ⟨(aC aZ),zae zero4,cvc (zbg _) (cvc (zbg _) (cvc rfl (cvc rfl rfl))),⟨rfl,rfl,rfl,rfl,zn _⟩,⟨rfl,rfl,rfl,rfl,zn _⟩,trivial⟩⟩
 simp only[zb]at h
 rw[List.take_of_length_le (by omega)]
 clear h hj
 refine za rfl rfl ?_
 refine za rfl rfl ?_
 exact zf rfl
end Go.Proofs.YtkegaaonpekkgaaGreat.Sx
