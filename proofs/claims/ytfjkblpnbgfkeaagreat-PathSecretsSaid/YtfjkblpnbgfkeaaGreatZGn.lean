import Derived.Test.YtfjkblpnbgfkeaaGreatZQd
import Derived.Test.YtfjkblpnbgfkeaaGreatZTi
import Derived.Test.YtfjkblpnbgfkeaaGreatZKu
import Derived.Test.YtfjkblpnbgfkeaaGreatZKo
import Derived.Test.YtfjkblpnbgfkeaaGreatZEc
import Derived.Test.YtfjkblpnbgfkeaaGreatZTm
import Derived.Test.YtfjkblpnbgfkeaaGreatZFs
namespace Go.Proofs.YtfjkblpnbgfkeaaGreat.Sx
open Go.RowKit
set_option linter.unusedVariables false
section
def zqc(t:List Node)(x:Int):List UInt8:=zec t (lv x.toNat) (x.toNat/2^(lv x.toNat+1))
theorem z7m(t:List Node){h k:Nat}(hh:h<=16)(hk:k<2^(16-h)):zqc t (nd h k)=zec t h k:=by
 obtain⟨e1,e2⟩:=zbvb hh hk
 unfold zqc
 rw[e2,e1]
def zho(t:List Node)(x:Int):Spot:=⟨x,nT t x.toNat⟩
def zjn(t:List Node)(x:Int):Stub:=⟨x,zqc t x⟩
def cutA(t:List Node)(n own:Int):List Int:=zcq (zcy (zcd t t.length) n own)
def cutB(t:List Node)(n own:Int):List Int:=zcq (ze5 (zcd t t.length) n own)
def cutS(t:List Node)(n own:Int):Lean_:=⟨n,own,(cutA t n own).map (zho t),(cutB t n own).map (zjn t)⟩
theorem zvz{t:List Node}(hr: ∀x∈t,x.right=true)(hl: ∀x∈t,x.par.late.length<=1000):zf7 (zcd t t.length):=λs hs=>by
 simp only[zcd,List.mem_map,List.mem_range]at hs
 obtain⟨i,hi,rfl⟩:=hs
 exact⟨Nat.le_trans (hl _ (zkg hi)) (by decide),Node.right_late (hr _ (zkg hi))⟩
theorem zb3b{a b:Nat}(h:2^a=2^b):a=b:=by
 rcases Nat.lt_trichotomy a b with h1 |h1 |h1
 ·have:=Nat.pow_lt_pow_right (show 1<2 by omega) h1;omega
 ·exact h1
 ·have:=Nat.pow_lt_pow_right (show 1<2 by omega) h1;omega
theorem zapb(t:List Node)(hfit: ∀x∈t,x.fit)(hr: ∀x∈t,x.right=true){d:Nat}(hd:d<=16)(hl:t.length+1=2^(d+1)){x:Int}(hx:ofI x ((2^d:Nat):Int)=true):zab Tryz.prog 34 [nods t,I x,is []] (.r (bs (zqc t x))):=by
 obtain⟨d',h,k,hd',e,hh,hk,rfl⟩:=zga hx
 have e':d'=d:=zb3b (by exact_mod_cast e.symm)
 subst e'
 have hk16:=lt16 hd hk
 rw[z7m t (by omega) hk16]
 refine z6y t hfit hr h k (by omega) hk16 ?_
 rw[hl]
 have:=Nat.mul_le_mul_right (2^(h+1)) (show k+1<=2^(d'-h)from hk)
 rwa[<-Nat.pow_add,show d'-h+(h+1)=d'+1 by omega]at this
theorem zth{l:List Int}{z:Int}:z∈zcq l↔z∈l:=by
 unfold zcq
 have: ∀(l a:List Int),z∈l.foldl (λa x=>insD x a) a↔z∈a\/z∈l:=by
  intro l
  induction l with
  |nil=>intro a;simp
  |cons x l ih=>
   intro a
   rw[List.foldl_cons,ih,zwa]
   simp only[List.mem_cons]
   exact⟨λh=>by rcases h with(h |h) |h<;>simp[h],λh=>by rcases h with h |h |h<;>simp[h]⟩
 simpa using this l []
set_option maxHeartbeats 1000000 in
theorem zfeb(t:List Node)(hfit: ∀x∈t,x.fit)(hr: ∀x∈t,x.right=true)(hlt: ∀x∈t,x.par.late.length<=1000){d:Nat}(hd:d<=16)(hl:t.length+1=2^(d+1)){own:Int}(h0:0<=own)(h1:own< ((2^d:Nat):Int))
  (hA: ∀x∈zcy (zcd t t.length) ((2^d:Nat):Int) own,ofI x ((2^d:Nat):Int)=true) (hB: ∀x∈ze5 (zcd t t.length) ((2^d:Nat):Int) own,ofI x ((2^d:Nat):Int)=true)
  (hAl:(zcy (zcd t t.length) ((2^d:Nat):Int) own).length<=1000000) (hBl:(ze5 (zcd t t.length) ((2^d:Nat):Int) own).length<=1000000):
  zab Tryz.prog 13 [nods t,I own, .b false] (.r (.ag (cutS t ((2^d:Nat):Int) own).c)):=by
 refine zaa (T:=Tab) mixed Tab_ok Tryz.func13 rfl (by kernel_rfl) ?_
 have hf:=zi1 d hd
 have hn:=ze8 hf
 have e2:2^(d+1)=2*2^d:=by rw[Nat.pow_succ];omega
 have hp:=z8g hd
 obtain⟨n,hnn⟩: ∃n:Int,n=((2^d:Nat):Int):=⟨_,rfl⟩
 rw[<-hnn]at hf hn h1 hA hB hAl hBl⊢
 refine zd (m:=((t.length+1:Nat):Int)) (by omega) (by omega) ?_
 refine⟨by decide,n,?_,?_⟩
 ·rw[Int.tdiv_eq_ediv_of_nonneg (by omega),show(((t.length+1:Nat):Int))/2=n by omega]
  exact wrap_i64 (by omega)
 refine ze (zavb t (by omega)) ?_
 refine ze (zasb (zcd t t.length) n own (by rw[ztw];omega) (zvz hr hlt) hf h0 h1) ?_
 obtain⟨A,hAe⟩: ∃A,A=cutA t n own:=⟨_,rfl⟩
 obtain⟨B,hBe⟩: ∃B,B=cutB t n own:=⟨_,rfl⟩
 have hS:cutS t n own=⟨n,own,A.map (zho t),B.map (zjn t)⟩:=by rw[hAe,hBe];rfl
 have hA': ∀x∈A,ofI x n=true:=λx hx=>hA x (zth.1 (by rw[hAe]at hx;exact hx))
 have hB': ∀x∈B,ofI x n=true:=λx hx=>hB x (zth.1 (by rw[hBe]at hx;exact hx))
 have hAl':A.length<=1000000:=by rw[hAe];unfold cutA zcq;rw[zjh];simpa using hAl
 have hBl':B.length<=1000000:=by rw[hBe];unfold cutB zcq;rw[zjh];simpa using hBl
 have hAx:zcq (zcy (zcd t t.length) n own)=A:=hAe.symm
 have hBx:zcq (ze5 (zcd t t.length) n own)=B:=hBe.symm
 rw[hAx,hBx,hS]
 refine zx (λj:Nat=>{F:=[(0, .r (nods t)),(6, .own 0),(8, .r (is A)),(9, .r (is B)),(11, .own 1),(12, .r (I j))],O:=[(0,some (.box (zero4.map .r))),(1,some (.box [.r (I n), .r (I own), .own 2, .own 3])),(2,some (zrc ((A.take j).map (zho t)))),(3,some (zxc []))],nx:=4})
  (λj=>j<=A.length) (λj=>A.length-j) 0 (by omega)
  ((zbe true 1 2 96 11 (cells:=[.r (I n), .r (I own), .r (.x (.slice none 0 0)), .r (.x (.slice none 0 0))]) rfl rfl).trans ((zbe true 1 3 99 2 (cells:=[.r (I n), .r (I own), .own 2, .r (.x (.slice none 0 0))]) rfl rfl).trans (zac [(0,0),(1,1),(2,2),(3,3)] rfl ⟨cr,rfl,cr,cr,rfl,cr,trivial⟩ ⟨zad zero4,cvc (za1 _) (cvc (za1 _) (cvc rfl (cvc rfl rfl))),⟨rfl,rfl,rfl,rfl,zn _⟩,⟨rfl,rfl,rfl,rfl,zn _⟩,trivial⟩))) ?_
 intro j hj
 refine zh (λh=>zp ?_) (λh=>zq ?_)
 ·simp only[zb]at h
  have hj':j<A.length:=by omega
  have htk:(A.take j).length=j:=by rw[List.length_take];omega
  obtain⟨x,hx⟩: ∃x,x=A[j]:=⟨_,rfl⟩
  have hxo:=(zf8.1 (hA' x (hx▸List.getElem_mem hj'))).2
  refine Vdraw.mk' (by kernel_rfl) ?_
  refine zm (by omega) (by omega) (zak rfl hj') (zg rfl ?_)
  refine zm (by omega) (by omega) (zak rfl hj') (zg rfl ?_)
  rw[<-hx]
  refine zm (by omega) (by omega) (zqd (j:=x.toNat) (by omega) (by omega)) ?_
  refine za rfl rfl ?_
  refine zw ?_
  have e:(A.take (j+1)).map (zho t)=(A.take j).map (zho t)++[⟨x,nT t x.toNat⟩]:=by rw[zhw hj',List.map_append,<-hx];rfl
  refine Vapp.mk' (j:=((A.take (j+1)).map (zho t)).length) (zs:=((A.take (j+1)).map (zho t)).flatMap Spot.c) (by simp only[maxLen,List.length_map];omega) (by simp;omega) (by rw[e,List.length_append];rfl) (by rw[e,List.flatMap_append];exact congrArg (List.flatMap Spot.c ((A.take j).map (zho t))++ ·) (by simp[zbb,cellsOf])) ?_
  refine zd (m:=((j+1:Nat):Int)) (by omega) (by omega) ?_
  exact⟨j+1,hj',by omega,zac [(0,0),(1,1),(2,_),(3,3)] rfl ⟨cr,rfl,cr,cr,rfl,cr,trivial⟩ ⟨zad zero4,cvc (za1 _) (cvc (za1 _) (cvc rfl (cvc rfl rfl))),⟨rfl,rfl,rfl,rfl,zn _⟩,⟨rfl,rfl,rfl,rfl,zn _⟩,trivial⟩⟩
 simp only[zb]at h
 rw[List.take_of_length_le (by omega)]
 clear h hj
 refine zx (λj:Nat=>{F:=[(0, .r (nods t)),(6, .own 0),(9, .r (is B)),(11, .own 1),(13, .r (I j))],O:=[(0,some (.box (zero4.map .r))),(1,some (.box [.r (I n), .r (I own), .own 2, .own 3])),(2,some (zrc (A.map (zho t)))),(3,some (zxc ((B.take j).map (zjn t))))],nx:=4})
  (λj=>j<=B.length) (λj=>B.length-j) 0 (by omega) (zac [(0,0),(1,1),(2,2),(3,3)] rfl ⟨cr,rfl,cr,rfl,cr,trivial⟩ ⟨zad zero4,cvc (za1 _) (cvc (za1 _) (cvc rfl (cvc rfl rfl))),⟨rfl,rfl,rfl,rfl,zn _⟩,⟨rfl,rfl,rfl,rfl,zn _⟩,trivial⟩) ?_
 intro j hj
 refine zh (λh=>zp ?_) (λh=>zq ?_)
 ·simp only[zb]at h
  have hj':j<B.length:=by omega
  have htk:(B.take j).length=j:=by rw[List.length_take];omega
  obtain⟨x,hx⟩: ∃x,x=B[j]:=⟨_,rfl⟩
  have hxo:=hB' x (hx▸List.getElem_mem hj')
  refine Vdraw.mk' (by kernel_rfl) ?_
  refine zm (by omega) (by omega) (zak rfl hj') (zg rfl ?_)
  refine zm (by omega) (by omega) (zak rfl hj') (zg rfl ?_)
  rw[<-hx]
  refine Vcall.mk' (zapb t hfit hr hd hl (x:=x) (by rw[<-hnn];exact hxo)) (zk (cr) (zk (cr) (zk (Cv.nil 1) Cvs.nil))) ?_
  refine zw ?_
  have e:(B.take (j+1)).map (zjn t)=(B.take j).map (zjn t)++[⟨x,zqc t x⟩]:=by rw[zhw hj',List.map_append,<-hx];rfl
  refine Vapp.mk' (j:=((B.take (j+1)).map (zjn t)).length) (zs:=((B.take (j+1)).map (zjn t)).flatMap Stub.c) (by simp only[maxLen,List.length_map];omega) (by simp;omega) (by rw[e,List.length_append];rfl) (by rw[e,List.flatMap_append];exact congrArg (List.flatMap Stub.c ((B.take j).map (zjn t))++ ·) (by simp[zbb,cellsOf,bs])) ?_
  refine zd (m:=((j+1:Nat):Int)) (by omega) (by omega) ?_
  exact⟨j+1,hj',by omega,zac [(0,0),(1,1),(2,2),(3,_)] rfl ⟨cr,rfl,cr,rfl,cr,trivial⟩ ⟨zad zero4,cvc (za1 _) (cvc (za1 _) (cvc rfl (cvc rfl rfl))),⟨rfl,rfl,rfl,rfl,zn _⟩,⟨rfl,rfl,rfl,rfl,zn _⟩,trivial⟩⟩
 simp only[zb]at h
 rw[List.take_of_length_le (by omega)]
 refine za rfl rfl ?_
 refine za rfl rfl ?_
 exact cr
end
section
structure Rung where
 at_:Int
 to:List Int
 side:List UInt8
abbrev Rung.c(r:Rung):List RV:=[I r.at_,is r.to,bs r.side]
def ze3(l:List Rung):RV:= .sl 3 l.length (l.flatMap Rung.c)
def zqs(l:List Par):RV:= .sl 3 l.length (l.flatMap Par.c)
def zcb:List Rung->List (List UInt8)->List Par×List UInt8
 |r::l,b::m=>(⟨b,(zcb l m).2,[]⟩::(zcb l m).1,shaB (vecB b++vecB (zcb l m).2++vecB r.side))
 |_,_=>([],[])
theorem zhg(r:Rung)(l:List Rung)(b:List UInt8)(m:List (List UInt8)):zcb (r::l) (b::m)=(⟨b,(zcb l m).2,[]⟩::(zcb l m).1,shaB (vecB b++vecB (zcb l m).2++vecB r.side)):=rfl
theorem zks: ∀(l:List Rung) (m:List (List UInt8)),l.length=m.length->(zcb l m).1.length=l.length/\(zcb l m).2.length<=32
 |[],[],_=>⟨rfl,by decide⟩
 |r::l,b::m,h=>by
  have ih:=zks l m (by simpa using h)
  refine⟨by rw[zhg];simp[ih.1],?_⟩
  rw[zhg]
  simp[zc2]
 |[],_::_,h=>by simp at h
 |_::_,[],h=>by simp at h
abbrev zpar:List RV:=[.x (.slice none 0 0), .x (.slice none 0 0), .x (.slice none 0 0)]
def parC(p:Par):List RV:=[bs p.box,bs p.hash, .x (.slice none 0 0)]
theorem z8a(p:Par):(parC p).length=3:=rfl
theorem zn5: ∀(l:List Rung) (m:List (List UInt8)),∀p∈(zcb l m).1,p.late=[]
 |r::l,b::m,p,h=>by
  rw[zhg]at h
  rcases List.mem_cons.1 h with rfl |h
  ·rfl
  ·exact zn5 l m p h
 |[],_,p,h=>by unfold zcb at h;cases h
 |_::_,[],p,h=>by unfold zcb at h;cases h
theorem zzm: ∀{l:List Par},(∀p∈l,p.late=[])->Cvs (l.flatMap parC) (l.flatMap Par.c)
 |[],_=>Cvs.nil
 |p::l,h=>by
  have h0:=h p (by simp)
  have e:Par.c p=[bs p.box,bs p.hash,is []]:=by rw[<-h0]
  rw[List.flatMap_cons,List.flatMap_cons,e]
  exact zk (cr) (zk (cr) (zk (Cv.nil 1) (zzm λq hq=>h q (List.mem_cons_of_mem _ hq))))
def zhf(k:Nat)(ps:List Par):List RV:=(List.replicate k zpar).flatten++ps.flatMap parC
theorem zzr(k:Nat):(List.replicate k zpar).flatten.length=k*3:=by
 induction k with
 |zero=>rfl
 |succ k ih=>rw[List.replicate_succ,List.flatten_cons,List.length_append,ih];show 3+_=_;omega
theorem z3e(ps:List Par):(ps.flatMap parC).length=ps.length*3:=by
 induction ps with
 |nil=>rfl
 |cons p r ih=>rw[List.flatMap_cons,List.length_append,ih,z8a,List.length_cons];omega
theorem z2p(k:Nat)(ps:List Par):(zhf k ps).length=(k+ps.length)*3:=by unfold zhf;rw[List.length_append,zzr,z3e];omega
theorem z6t{A z R new:List RV}{n:Nat}(hA:A.length=n)(hz:z.length=new.length):zbb (A++z++R) n new=A++new++R:=by
 subst hA
 unfold zbb
 rw[List.append_assoc A z R,List.take_left,<-List.drop_drop,List.drop_left,<-hz,List.drop_left]
theorem zz9(k:Nat)(ps:List Par)(p:Par):zbb (zhf (k+1) ps) (k*3) (parC p)=zhf k (p::ps):=by
 have e:(List.replicate (k+1) zpar).flatten=(List.replicate k zpar).flatten++zpar:=by rw[List.replicate_succ'];simp
 unfold zhf
 rw[e,z6t (z:=zpar) (new:=parC p) (zzr k) rfl,List.flatMap_cons,List.append_assoc]
theorem zsx{α:Type}{l:List α}{k:Nat}(h:k<l.length):l.drop k=l[k]::l.drop (k+1):=List.drop_eq_getElem_cons h
abbrev chS(l:List Rung)(m:List (List UInt8))(k:Nat):St:=⟨[(0, .r (ze3 l)),(1, .r (bss m)),(4, .own 0),(5, .r (bs (zcb (l.drop k) (m.drop k)).2)),(6, .r (I ((k:Int)-1)))],[(0,some (.ch 82 3 l.length (zhf k (zcb (l.drop k) (m.drop k)).1) false))],1⟩
set_option maxHeartbeats 2000000 in
theorem zaob(l:List Rung)(m:List (List UInt8))(hlm:l.length=m.length)(hl:l.length<=1000000)(hr: ∀r∈l,r.side.length<=1000000000)(hm: ∀b∈m,b.length<=1000000000):
  zab Tryz.prog 26 [ze3 l,bss m] (.r (.tu [zqs (zcb l m).1,bs (zcb l m).2])):=by
 refine zbo (T:=Tab) mixed Tab_ok Tryz.func26 rfl (by kernel_rfl) ?_
 refine⟨rfl,by omega,by show((l.length:Int)).toNat*72<=_;omega,by show((l.length:Int)).toNat<=_;simp only[maxLen];omega,l.length,zhf l.length [],by omega,by unfold zhf;rw[List.flatMap_nil,List.append_nil];rfl,Vpub.own ?_⟩
 refine zd (m:=(l.length:Int)-1) rfl (by omega) ?_
 have dn:l.drop l.length=[]:=List.drop_eq_nil_of_le (Nat.le_refl _)
 refine Vloop.mkx (chS l m) (λk=>k<=l.length) (λk=>k) l.length (Nat.le_refl _) (zac [(0,0)] rfl ⟨cr,cr,rfl,by rw[dn];exact Cv.nil 1,cr,trivial⟩ ⟨⟨rfl,rfl,rfl,rfl,by rw[dn];exact zn _⟩,trivial⟩) ?_
 intro k hk
 refine zh (λh=>zp ?_) (λh=>zq ?_)
 ·simp only[zb]at h
  obtain⟨j,rfl⟩: ∃j,k=j+1:=⟨k-1,by omega⟩
  have hj:j<l.length:=by omega
  have hjm:j<m.length:=by omega
  have ed:zcb (l.drop j) (m.drop j)=(⟨m[j],(zcb (l.drop (j+1)) (m.drop (j+1))).2,[]⟩::(zcb (l.drop (j+1)) (m.drop (j+1))).1,shaB (vecB m[j]++vecB (zcb (l.drop (j+1)) (m.drop (j+1))).2++vecB l[j].side)):=by
   rw[zsx hj,zsx hjm,zhg]
  have hcl:=zks (l.drop (j+1)) (m.drop (j+1)) (by simp;omega)
  obtain⟨q,hq⟩: ∃q,q=zcb (l.drop (j+1)) (m.drop (j+1)):=⟨_,rfl⟩
  rw[<-hq]at ed hcl
  have hb:=hm m[j] (List.getElem_mem hjm)
  have hs:=hr l[j] (List.getElem_mem hj)
  have v1:=zal m[j]
  have v2:=zal q.2
  have v3:=zal l[j].side
  rw[List.length_drop]at hcl
  refine zm (by omega) (by omega) (zak (j:=j) (by omega) hjm) (zg rfl ?_)
  refine Vadr.mk' j (by omega) (by omega) ?_
  rw[<-hq]
  refine⟨by rw[z2p];show j*3+3<=_;omega,zhf j (⟨m[j],q.2,[]⟩::q.1),zz9 j q.1 ⟨m[j],q.2,[]⟩,?_⟩
  refine Vdraw.mk' (by kernel_rfl) ?_
  refine zm (by omega) (by omega) (zak (j:=j) (by omega) hjm) (zg rfl ?_)
  refine Vcall.mk' (zbk [] m[j] (by simp) (by omega)) (zk (Cv.nil _) (zn _)) ?_
  rw[List.nil_append]
  refine ze (zbk (vecB m[j]) q.2 (by omega) (by omega)) ?_
  refine zm (by omega) (by omega) (zd4 (f:=Rung.c) (λ_=>rfl) (j:=j) (by omega) hj) ?_
  refine zg rfl ?_
  refine ze (zbk (vecB m[j]++vecB q.2) l[j].side (by rw[List.length_append];omega) (by omega)) ?_
  refine zw ?_
  refine ze (zuj [vecB m[j]++vecB q.2++vecB l[j].side] (by simp;omega)) ?_
  refine zd (m:=(j:Int)-1) (by omega) (by omega) ?_
  exact⟨j,by omega,by omega,zac [(0,0)] rfl ⟨cr,cr,rfl,by rw[ed];exact zf (by simp[bs]),cr,trivial⟩ ⟨⟨rfl,rfl,rfl,rfl,by rw[ed];exact zn _⟩,trivial⟩⟩
 ·simp only[zb]at h
  obtain rfl:k=0:=by omega
  refine⟨_,zo _,?_⟩
  refine⟨_,zbw (id:=0) rfl,?_⟩
  rw[List.drop_zero,List.drop_zero]
  have hcl:=zks l m hlm
  refine⟨_,rfl,Cv.tu (zk ?_ (zn _))⟩
  unfold zqs
  rw[hcl.1]
  exact Cv.sl (by unfold zhf;exact zzm (zn5 l m))
end
section
def idxR{α:Type}(q:α->Bool):Nat->List α->Int
 |_,[]=> -1
 |j,x::r=>if q x then(j:Int)else idxR q (j+1) r
theorem zy7{α:Type}(q:α->Bool): ∀(l:List α) (j:Nat),idxR q j l= -1\/((j:Int)<=idxR q j l/\idxR q j l< ((j+l.length:Nat):Int))
 |[],j=> .inl rfl
 |x::r,j=>by
  have ih:=zy7 q r (j+1)
  rw[idxR,List.length_cons]
  by_cases hq:q x=true
  ·rw[if_pos hq];exact .inr ⟨by omega,by omega⟩
  ·rw[if_neg hq]
   rcases ih with h |h
   ·exact .inl h
   ·exact .inr ⟨by omega,by omega⟩
abbrev zuu(r:Rung):RV:= .ag r.c
theorem z3l(l:List Rung)(q:Rung->Bool)(hl:l.length<=1000000000):zab Tryz.prog 72 [ze3 l, .s (cloS Tryz.prog zuu (λ_=>True) q)] (.r (I (idxR q 0 l))):=by
 refine zaa (T:=Tab) mixed Tab_ok Tryz.func72 rfl (by kernel_rfl) ?_
 refine zx (λj:Nat=>{F:=[(0, .r (ze3 l)),(1, .r (.s (cloS Tryz.prog zuu (λ_=>True) q))),(7, .r (I l.length)),(8, .r (I j))],O:=[],nx:=0}) (λj=>j<=l.length/\idxR q 0 l=idxR q j (l.drop j)) (λj=>l.length-j) 0 ⟨by omega,by simp⟩ (zac [] rfl ⟨cr,cr,cr,cr,trivial⟩ trivial) ?_
 rintro j ⟨hj,he⟩
 refine zh (λh=>zp ?_) (λh=>zq ?_)
 ·simp only[zb]at h
  have hj':j<l.length:=by omega
  rw[List.drop_eq_getElem_cons hj']at he
  simp only[idxR]at he
  refine zm (by omega) (by omega) (zd4 (f:=Rung.c) (λ_=>rfl) rfl hj') ?_
  refine za rfl rfl ?_
  refine Vstep.cloB l[j] rfl rfl rfl rfl (cr) trivial (λhq=>zp ?_) (λhq=>zq ?_)
  ·rw[hq]at he
   exact zf (by rw[he];simp)
  ·rw[hq]at he
   refine zd (m:=((j+1:Nat):Int)) (by omega) (by omega) ?_
   exact⟨j+1,⟨hj',by rw[he];simp⟩,by omega,zac [] rfl ⟨cr,cr,cr,cr,trivial⟩ trivial⟩
 ·simp only[zb]at h
  rw[List.drop_eq_nil_of_le (by omega)]at he
  exact zf (by rw[he];rfl)
theorem z0s(r:Rung)(x:Spot):zab Tryz.prog 73 [zuu r, .ptr x.c] (.r (.b (decide (r.at_=x.at_)))):=by
 refine zaa (T:=Tab) mixed Tab_ok Tryz.func73 rfl (by kernel_rfl) ?_
 refine zg rfl ?_
 exact Vcmp.mk' (m:=decide (r.at_=x.at_)) (by rw[Bool.eq_iff_iff];simp only[zb]) (cr)
theorem ze9b:Cvs zc Node.zero.c:=zk (cr) (zk (Cv.nil 1) (zk (Cv.nil 1) (zk (Cv.nil 1) (zk (cr) (zk (Cv.nil 1) (zk (Cv.nil 1) (zk (Cv.nil 1) (zk (Cv.nil 1) (zk (Cv.nil 1) Cvs.nil)))))))))
def zpr:Par:=⟨[],[],[]⟩
theorem zsl:zpr.fit:=⟨by decide,by decide,by decide,λy hy=>by cases hy⟩
def zls(L:List Rung)(x:Int):Int:=idxR (λr=>decide (r.at_=x)) 0 L
def renN(s:Lean_)(L:List Rung)(ps:List Par)(own:Leaf)(x:Spot):Node:=
 if x.at_=2*s.own then⟨1,own,zpr⟩else if 0<=zls L x.at_ then⟨2,zl,ps.getD (zls L x.at_).toNat zpr⟩else if zbh (2*s.own) x.at_=true then Node.zero else x.node
def renX(s:Lean_)(L:List Rung)(ps:List Par)(own:Leaf)(x:Spot):Spot:=⟨x.at_,renN s L ps own x⟩
def renS(s:Lean_)(L:List Rung)(ps:List Par)(own:Leaf):Lean_:=⟨s.leaves,s.own,s.opn.map (renX s L ps own),s.shut⟩
abbrev rnO(s:Lean_)(own:Leaf)(A:List Spot)(B:List Stub):List (Nat×Option Ow):=[(0,some (.box (s.c.map .r))),(1,some (.box (own.c.map .r))),(2,some (.box (zero4.map .r))),(3,some (.box [.r (I s.leaves), .r (I s.own), .own 4, .own 5])),(4,some (zrc A)),(5,some (zxc B))]
set_option maxHeartbeats 8000000 in
theorem z3p(s:Lean_)(L:List Rung)(ps:List Par)(own:Leaf)(hs:s.bd)(hL:L.length<=1000000)(hlp:L.length=ps.length)(hps: ∀p∈ps,p.fit)(ho:own.fit)(h0:0<=s.own/\s.own<65536):
  zab Tryz.prog 30 [.ag s.c,ze3 L,zqs ps, .ag own.c] (.r (.ag (renS s L ps own).c)):=by
 refine zaa (T:=Tab) mixed Tab_ok Tryz.func30 rfl (by kernel_rfl) ?_
 have hlo:=hs.lo
 have hlh:=hs.lh
 have hno:=hs.no
 unfold i64 at hno
 refine zx (λj:Nat=>{F:=[(1, .r (ze3 L)),(2, .r (zqs ps)),(4, .own 0),(7, .own 1),(8, .own 2),(9, .own 3),(22, .r (zc4 s.opn)),(23, .r (I s.opn.length)),(24, .r (I j))],O:=rnO s own ((s.opn.take j).map (renX s L ps own)) [],nx:=6})
  (λj=>j<=s.opn.length) (λj=>s.opn.length-j) 0 (by omega)
  ((zbe true 3 2 96 11 (cells:=[.r (I s.leaves), .r (I s.own), .r (.x (.slice none 0 0)), .r (.x (.slice none 0 0))]) rfl rfl).trans ((zbe true 3 3 99 2 (cells:=[.r (I s.leaves), .r (I s.own), .own 4, .r (.x (.slice none 0 0))]) rfl rfl).trans (zac [(0,0),(1,1),(2,2),(3,3),(4,4),(5,5)] rfl ⟨cr,cr,rfl,rfl,rfl,rfl,cr,cr,cr,trivial⟩ ⟨⟨_,_,rfl,cr,_,_,rfl,cr,_,_,rfl,cr,_,_,rfl,cr,rfl⟩,⟨_,_,rfl,cr,_,_,rfl,cr,_,_,rfl,cr,_,_,rfl,cr,_,_,rfl,cr,_,_,rfl,cr,rfl⟩,zad zero4,cvc (za1 _) (cvc (za1 _) (cvc rfl (cvc rfl rfl))),⟨rfl,rfl,rfl,rfl,zn _⟩,⟨rfl,rfl,rfl,rfl,zn _⟩,trivial⟩))) ?_
 intro j hj
 refine zh (λh=>zp ?_) (λh=>zq ?_)
 ·simp only[zb]at h
  have hj':j<s.opn.length:=by omega
  have hxf:=hs.fo s.opn[j] (List.getElem_mem hj')
  have hsn:=zen (renX s L ps own) hj'
  refine zm (by omega) (by omega) (zd4 (f:=Spot.c) (λ_=>rfl) rfl hj') ?_
  refine za rfl rfl ?_
  refine za rfl rfl ?_
  refine ze (zj6 s.opn[j].node hxf (zdf _ hxf.1)) ?_
  refine Vstep.sub (zgd (t:=11) s.opn[j].c rfl rfl) (Vstep.mkfun zuu (λ_=>True) (λr=>decide (r.at_=s.opn[j].at_)) rfl rfl (λr _=>z0s r s.opn[j]) ?_)
  refine ze (z3l L (λr=>decide (r.at_=s.opn[j].at_)) (by omega)) ?_
  have eI:idxR (λr:Rung=>decide (r.at_=s.opn[j].at_)) 0 L=zls L s.opn[j].at_:=rfl
  rw[eI]
  have hge:=zy7 (λr:Rung=>decide (r.at_=s.opn[j].at_)) L 0
  rw[eI]at hge
  refine zg rfl ?_
  refine zd (m:=2*s.own) rfl (by omega) ?_
  refine zh (λh1=>zp ?_) (λh1=>zq ?_)
  ·simp only[zb]at h1
   have hN:renN s L ps own s.opn[j]=⟨1,own,zpr⟩:=if_pos h1
   refine za rfl rfl ?_
   refine Vcall.mk' (zj6 ⟨1,own,zpr⟩ ⟨ho,zsl⟩ (zdf _ ho)) (zk (Cv.ag (zk (cr) (zk (cr) (zk (cr) (zk (cr) (zk (cr) (zk (cr) (zk (cr) (zk (Cv.nil 1) (zk (Cv.nil 1) (zk (Cv.nil 1) Cvs.nil))))))))))) Cvs.nil) ?_
   refine zg rfl ?_
   refine za rfl rfl ?_
   refine zw ?_
   refine Vapp.mk' (j:=((s.opn.take (j+1)).map (renX s L ps own)).length) (zs:=((s.opn.take j).map (renX s L ps own)).flatMap Spot.c++(I s.opn[j].at_::Node.c ⟨1,own,zpr⟩)) (by simp only[maxLen,List.length_map,List.length_take];omega) (by simp;omega) (by rw[hsn,List.length_append];rfl) (by simp[zbb,cellsOf]) ?_
   refine zd (m:=((j+1:Nat):Int)) (by omega) (by omega) ?_
   exact⟨j+1,hj',by omega,zac [(0,0),(1,1),(2,2),(3,3),(4,_),(5,5)] rfl ⟨cr,cr,rfl,rfl,rfl,rfl,cr,cr,cr,trivial⟩ ⟨⟨_,_,rfl,cr,_,_,rfl,cr,_,_,rfl,cr,_,_,rfl,cr,rfl⟩,⟨_,_,rfl,cr,_,_,rfl,cr,_,_,rfl,cr,_,_,rfl,cr,_,_,rfl,cr,_,_,rfl,cr,rfl⟩,zad zero4,cvc (za1 _) (cvc (za1 _) (cvc rfl (cvc rfl rfl))),⟨rfl,rfl,rfl,rfl,Cvs.of_eq (by rw[hsn,List.flatMap_append];unfold renX;rw[hN];simp)⟩,⟨rfl,rfl,rfl,rfl,zn _⟩,trivial⟩⟩
  ·simp only[zb]at h1
   refine zh (λh2=>zp ?_) (λh2=>zq ?_)
   ·simp only[zb]at h2
    have hlt:(zls L s.opn[j].at_).toNat<ps.length:=by omega
    have hN:renN s L ps own s.opn[j]=⟨2,zl,ps[(zls L s.opn[j].at_).toNat]⟩:=by
     unfold renN
     rw[if_neg h1,if_pos h2,List.getD_eq_getElem?_getD,List.getElem?_eq_getElem hlt]
     rfl
    have hpf:=hps _ (List.getElem_mem hlt)
    refine zm (by omega) (by omega) (zd4 (f:=Par.c) (λ_=>rfl) (j:=(zls L s.opn[j].at_).toNat) (by omega) hlt) ?_
    refine za rfl rfl ?_
    generalize ps[(zls L s.opn[j].at_).toNat]=p at hN hpf⊢
    refine Vcall.mk' (zj6 ⟨2,zl,p⟩ ⟨z6h,hpf⟩ (zdf _ z6h)) (zk (Cv.ag (zk (cr) (zk (Cv.nil 1) (zk (Cv.nil 1) (zk (Cv.nil 1) (zk (cr) (zk (Cv.nil 1) (zk (Cv.nil 1) (zk (cr) (zk (cr) (zk (cr) Cvs.nil))))))))))) Cvs.nil) ?_
    refine zg rfl ?_
    refine za rfl rfl ?_
    refine zw ?_
    refine Vapp.mk' (j:=((s.opn.take (j+1)).map (renX s L ps own)).length) (zs:=((s.opn.take j).map (renX s L ps own)).flatMap Spot.c++(I s.opn[j].at_::Node.c ⟨2,zl,p⟩)) (by simp only[maxLen,List.length_map,List.length_take];omega) (by simp;omega) (by rw[hsn,List.length_append];rfl) (by simp[zbb,cellsOf]) ?_
    refine zd (m:=((j+1:Nat):Int)) (by omega) (by omega) ?_
    exact⟨j+1,hj',by omega,zac [(0,0),(1,1),(2,2),(3,3),(4,_),(5,5)] rfl ⟨cr,cr,rfl,rfl,rfl,rfl,cr,cr,cr,trivial⟩ ⟨⟨_,_,rfl,cr,_,_,rfl,cr,_,_,rfl,cr,_,_,rfl,cr,rfl⟩,⟨_,_,rfl,cr,_,_,rfl,cr,_,_,rfl,cr,_,_,rfl,cr,_,_,rfl,cr,_,_,rfl,cr,rfl⟩,zad zero4,cvc (za1 _) (cvc (za1 _) (cvc rfl (cvc rfl rfl))),⟨rfl,rfl,rfl,rfl,Cvs.of_eq (by rw[hsn,List.flatMap_append];unfold renX;rw[hN];simp)⟩,⟨rfl,rfl,rfl,rfl,zn _⟩,trivial⟩⟩
   ·simp only[zb]at h2
    refine zd (m:=2*s.own) rfl (by omega) ?_
    refine zg rfl ?_
    refine zy (zng (2*s.own) s.opn[j].at_) (λhu=>zp ?_) (λhu=>zq ?_)
    ·have hN:renN s L ps own s.opn[j]=Node.zero:=by unfold renN;rw[if_neg h1,if_neg h2,if_pos hu]
     refine zg rfl ?_
     refine za rfl rfl ?_
     refine zw ?_
     refine Vapp.mk' (j:=((s.opn.take (j+1)).map (renX s L ps own)).length) (zs:=((s.opn.take j).map (renX s L ps own)).flatMap Spot.c++(I s.opn[j].at_::zc)) (by simp only[maxLen,List.length_map,List.length_take];omega) (by simp;omega) (by rw[hsn,List.length_append];rfl) (by simp[zbb,cellsOf];rfl) ?_
     refine zd (m:=((j+1:Nat):Int)) (by omega) (by omega) ?_
     exact⟨j+1,hj',by omega,zac [(0,0),(1,1),(2,2),(3,3),(4,_),(5,5)] rfl ⟨cr,cr,rfl,rfl,rfl,rfl,cr,cr,cr,trivial⟩ ⟨⟨_,_,rfl,cr,_,_,rfl,cr,_,_,rfl,cr,_,_,rfl,cr,rfl⟩,⟨_,_,rfl,cr,_,_,rfl,cr,_,_,rfl,cr,_,_,rfl,cr,_,_,rfl,cr,_,_,rfl,cr,rfl⟩,zad zero4,cvc (za1 _) (cvc (za1 _) (cvc rfl (cvc rfl rfl))),⟨rfl,rfl,rfl,rfl,by rw[hsn,List.flatMap_append];unfold renX;rw[hN];exact Cvs.app (zn _) (zk (cr) ze9b)⟩,⟨rfl,rfl,rfl,rfl,zn _⟩,trivial⟩⟩
    ·have hN:renN s L ps own s.opn[j]=s.opn[j].node:=by unfold renN;rw[if_neg h1,if_neg h2,if_neg (by rw[hu];simp)]
     refine zg rfl ?_
     refine za rfl rfl ?_
     refine zw ?_
     refine Vapp.mk' (j:=((s.opn.take (j+1)).map (renX s L ps own)).length) (zs:=((s.opn.take j).map (renX s L ps own)).flatMap Spot.c++(I s.opn[j].at_::s.opn[j].node.c)) (by simp only[maxLen,List.length_map,List.length_take];omega) (by simp;omega) (by rw[hsn,List.length_append];rfl) (by simp[zbb,cellsOf]) ?_
     refine zd (m:=((j+1:Nat):Int)) (by omega) (by omega) ?_
     exact⟨j+1,hj',by omega,zac [(0,0),(1,1),(2,2),(3,3),(4,_),(5,5)] rfl ⟨cr,cr,rfl,rfl,rfl,rfl,cr,cr,cr,trivial⟩ ⟨⟨_,_,rfl,cr,_,_,rfl,cr,_,_,rfl,cr,_,_,rfl,cr,rfl⟩,⟨_,_,rfl,cr,_,_,rfl,cr,_,_,rfl,cr,_,_,rfl,cr,_,_,rfl,cr,_,_,rfl,cr,rfl⟩,zad zero4,cvc (za1 _) (cvc (za1 _) (cvc rfl (cvc rfl rfl))),⟨rfl,rfl,rfl,rfl,Cvs.of_eq (by rw[hsn,List.flatMap_append];unfold renX;rw[hN];simp)⟩,⟨rfl,rfl,rfl,rfl,zn _⟩,trivial⟩⟩
 simp only[zb]at h
 rw[List.take_of_length_le (by omega)]
 clear h hj
 refine zx (λj:Nat=>{F:=[(4, .own 0),(8, .own 2),(9, .own 3),(72, .r (zuw s.shut)),(73, .r (I s.shut.length)),(74, .r (I j))],O:=rnO s own (s.opn.map (renX s L ps own)) (s.shut.take j),nx:=6})
  (λj=>j<=s.shut.length) (λj=>s.shut.length-j) 0 (by omega)
  (zac [(0,0),(1,1),(2,2),(3,3),(4,4),(5,5)] rfl ⟨rfl,rfl,rfl,cr,cr,cr,trivial⟩ ⟨⟨_,_,rfl,cr,_,_,rfl,cr,_,_,rfl,cr,_,_,rfl,cr,rfl⟩,⟨_,_,rfl,cr,_,_,rfl,cr,_,_,rfl,cr,_,_,rfl,cr,_,_,rfl,cr,_,_,rfl,cr,rfl⟩,zad zero4,cvc (za1 _) (cvc (za1 _) (cvc rfl (cvc rfl rfl))),⟨rfl,rfl,rfl,rfl,zn _⟩,⟨rfl,rfl,rfl,rfl,zn _⟩,trivial⟩) ?_
 intro j hj
 refine zh (λh=>zp ?_) (λh=>zq ?_)
 ·simp only[zb]at h
  have hj':j<s.shut.length:=by omega
  have hxf:=hs.fh s.shut[j] (List.getElem_mem hj')
  have hsn:s.shut.take (j+1)=s.shut.take j++[s.shut[j]]:=List.take_succ_eq_append_getElem hj'
  refine zm (by omega) (by omega) (zd4 (f:=Stub.c) (λ_=>rfl) rfl hj') ?_
  refine za rfl rfl ?_
  refine Vdraw.cut 9 (by kernel_rfl) ?_
  refine ze (zkz s.shut[j].hash (by omega)) ?_
  refine zw ?_
  refine Vapp.mk' (j:=(s.shut.take (j+1)).length) (zs:=(s.shut.take (j+1)).flatMap Stub.c) (by simp only[maxLen,List.length_take];omega) (by simp;omega) (by rw[hsn,List.length_append];rfl) (by rw[hsn,List.flatMap_append];simp[zbb,cellsOf,bs]) ?_
  refine zd (m:=((j+1:Nat):Int)) (by omega) (by omega) ?_
  exact⟨j+1,hj',by omega,zac [(0,0),(1,1),(2,2),(3,3),(4,4),(5,_)] rfl ⟨rfl,rfl,rfl,cr,cr,cr,trivial⟩ ⟨⟨_,_,rfl,cr,_,_,rfl,cr,_,_,rfl,cr,_,_,rfl,cr,rfl⟩,⟨_,_,rfl,cr,_,_,rfl,cr,_,_,rfl,cr,_,_,rfl,cr,_,_,rfl,cr,_,_,rfl,cr,rfl⟩,zad zero4,cvc (za1 _) (cvc (za1 _) (cvc rfl (cvc rfl rfl))),⟨rfl,rfl,rfl,rfl,zn _⟩,⟨rfl,rfl,rfl,rfl,zn _⟩,trivial⟩⟩
 simp only[zb]at h
 rw[List.take_of_length_le (by omega)]
 refine za rfl rfl ?_
 refine za rfl rfl ?_
 exact cr
end
section
theorem Vsem.fieldN{P:Program}{T:TT}{S:St}{o:Oper}(hT:TOk P T){t:TypeId}{x:Operand}{i off:Nat}{ft:TypeId}{ti tf:TI}{fs:List (Nat×TypeId)}{cells cs:List RV}{K:TF->Option Ow->Prop}(hop:o.op= .field t x i)(hti:tget T t=some ti)(hk:ti.k= .struct fs)(hfs:lget fs i=some (off,ft))(htf:tget T ft=some tf)(hag:tf.agg=true)
  (hx:opr S x=some (.r (.ag cells))) (hb:off+tf.sz<=cells.length) (hc:(cells.drop off).take tf.sz=cs) (hK:K (.r (.ag cs)) none):Vsem P S o K:=by
 subst hc
 refine⟨_,_,λB N a w k Q ⟨g,hs⟩ hd=>?_,hK⟩
 have hv:=(zaf hs hx).2
 simp only[TF.at_,RV.at_]at hv
 obtain⟨us,e,hl⟩:=hv
 rw[zan]at hfs
 have hul:=(RV.listAt_iff _ _).1 hl
 have hus:off+tf.sz<=us.size:=by rw[<-Array.length_toList,hul.1];exact hb
 obtain⟨q,hq⟩:=hT.get hti
 obtain⟨d,hdd,hko,_⟩:=q.desc
 rw[hq]at hdd
 rw[hk]at hko
 obtain⟨fields,rfl,hfl⟩:=hko
 obtain⟨qf,hqf⟩:=hT.get htf
 have hsize:=za5 (w:=w) qf hqf
 obtain⟨df,hdf,_,hrow⟩:=qf.desc
 rw[hqf]at hdf
 rw[hag]at hrow
 have hagg:(isAgg ft).run P w= .ok true w:=by
  unfold isAgg
  rw[Sem.run_bind,run_underlying hdf w]
  cases df<;>simp_all [TypeDesc.isRow]
 rw[<-hfl,List.getElem?_map]at hfs
 cases hfi:fields.toList[i]? with
 |none=>simp[hfi]at hfs
 |some fd=>
  simp only[hfi,Option.map_some,Option.some.injEq,Prod.mk.injEq]at hfs
  obtain⟨h0,rfl⟩:=hfs
  have hfa:fields[i]?=some fd:=by simpa using hfi
  refine zas (v:= .agg (us.extract off (off+tf.sz))) (w':=w) ?_ ⟨k,g,hs.put hd trivial ?_⟩
  ·simp[execOp,hop,Instr.field,run_underlying hdd w,hfa,e,part,hagg,asAgg,hsize,h0,hus]
  ·simp only[TF.at_,RV.at_]
   refine⟨_,rfl,?_⟩
   rw[Array.toList_extract,List.extract_eq_take_drop,Nat.add_sub_cancel_left]
   exact zcm (zdn hl off) _
theorem z3z(l:List KeyP)(hl:l.length<=1000000)(hn:0<l.length)(hd:(l.map (·.at_)).Nodup):Acts Tryz.prog 29 1 [(0, .ch keyT 2 l.length (l.flatMap KeyP.c) false)] [.own 0] [] 1 [(0, .ch keyT 2 l.length ((zd5 l).flatMap KeyP.c) false)] (.own 0):=by
 refine zb4 (T:=Tab) mixed Tab_ok Tryz.func29 rfl (by kernel_rfl) rfl trivial ?_
 refine Vstep.inpl (z02 l hl hn hd) hn rfl rfl rfl rfl ?_
 exact zbx (.inl rfl) [(0,0)] [(2, .own 0)] [] rfl ⟨rfl,trivial⟩ ⟨⟨rfl,rfl,rfl,rfl,zn _⟩,trivial⟩ trivial rfl
end
section
structure BoxedP where
 enc:List UInt8
 box:List UInt8
 deriving DecidableEq
abbrev BoxedP.c(b:BoxedP):List RV:=[bs b.enc,bs b.box]
def zadb(l:List BoxedP):RV:= .sl 2 l.length (l.flatMap BoxedP.c)
structure StepW where
 box:List UInt8
 to:List BoxedP
 deriving DecidableEq
abbrev StepW.c(s:StepW):List RV:=[bs s.box,zadb s.to]
def z5v(l:List StepW):RV:= .sl 2 l.length (l.flatMap StepW.c)
structure MadeP where
 sparse:Lean_
 leaf:Leaf
 steps:List StepW
 keys:List KeyP
 secrets:List (List UInt8)
 commit:List UInt8
abbrev MadeP.c(m:MadeP):List RV:=[I m.sparse.leaves,I m.sparse.own,zc4 m.sparse.opn,zuw m.sparse.shut,bs m.leaf.box,bs m.leaf.sign,bs m.leaf.ident,U8 m.leaf.src,bs m.leaf.parent,bs m.leaf.sig,z5v m.steps,keyR m.keys,bss m.secrets,bs m.commit]
abbrev nl:RV:= .x (.slice none 0 0)
abbrev mz(a b:TF)(sec com:RV):List TF:=[.r (I 0), .r (I 0), .r nl, .r nl, .r nl, .r nl, .r nl, .r (.i .u8 0), .r nl, .r nl,a,b, .r sec, .r com]
def zfqb:Rung:=⟨0,[],[]⟩
def ze0(L:List Rung)(pk:Nat->List UInt8)(j:Nat):List KeyP:=(List.range j).map λi=>⟨(L.getD i zfqb).at_,pk i⟩
theorem zx6{L:List Rung}(pk:Nat->List UInt8){j:Nat}(h:j<L.length):ze0 L pk (j+1)=ze0 L pk j++[⟨L[j].at_,pk j⟩]:=by
 unfold ze0
 rw[List.range_succ,List.map_append]
 simp[List.getD_eq_getElem?_getD,List.getElem?_eq_getElem h]
theorem zqn(L:List Rung)(pk:Nat->List UInt8)(j:Nat):(ze0 L pk j).length=j:=by simp[ze0]
def zgo(pb:Nat->List UInt8)(j:Nat):List (List UInt8):=(List.range j).map pb
theorem zqm(pb:Nat->List UInt8)(j:Nat):zgo pb (j+1)=zgo pb j++[pb j]:=by unfold zgo;rw[List.range_succ,List.map_append];rfl
theorem zti(pb:Nat->List UInt8)(j:Nat):(zgo pb j).length=j:=by simp[zgo]
def zuv(l:List (List UInt8)):List RV:=l.flatMap λb=>[bs b,nl]
theorem zxb: ∀l:List (List UInt8),Cvs (zuv l) ((l.map λb=>(⟨b,[]⟩:StepW)).flatMap StepW.c)
 |[]=>Cvs.nil
 |b::l=>zk (cr) (zk (Cv.nil 2) (zxb l))
def zfm(old:Leaf)(q low:List UInt8):Leaf:=⟨q,old.sign,old.ident,3,low,old.sig⟩
abbrev mkS(s:Lean_)(L:List Rung)(Q:List (List UInt8))(seed sig group com:List UInt8)(pk pb:Nat->List UInt8)(j:Nat):St:=
 ⟨[(1, .r (bs seed)),(2, .r (bs sig)),(3, .r (bs group)),(4, .own 0),(8, .own 1),(10, .r (ze3 L)),(11, .r (bss Q)),(12, .own 2),(13, .own 3),(57, .r (ze3 L)),(58, .r (I L.length)),(59, .r (I j))],
 [(0,some (.box (s.c.map .r))),(1,some (.box (mz (.r nl) (.r nl) nl nl))),(2,some (.box (mz (.own 5) (.own 4) (bss (Q.take L.length)) (bs com)))),(3,some (.ch 22 1 j ((zgo pb j).map bs) true)),(4,some (.ch keyT 2 j ((ze0 L pk j).flatMap KeyP.c) false)),(5,some (.ch 77 2 j (zuv (zgo pb j)) true))],6⟩
theorem z6o{Q:List (List UInt8)}{n:Nat}(h:n<=Q.length):RV.sl 1 n ((Q.map bs).take n)=bss (Q.take n):=by
 unfold bss
 rw[List.map_take,List.length_take,Nat.min_eq_left h]
set_option maxHeartbeats 8000000 in
set_option maxRecDepth 100000 in
theorem z31(s:Lean_)(seed sig group com ls pl ql low:List UInt8)(L:List Rung)(Q:List (List UInt8))(pk pb:Nat->List UInt8)(ps:List Par)(N:Node)(ol:Leaf)
  (hs:s.bd) (hR:sR s=true) (ho:0<=s.own/\s.own<65536) (hseed:seed.length=32) (hsig:sig.length=32) (hL:L.length<=16) (hQ:Q.length=L.length+1) (hcom:Q[L.length]?=some com)
  (hps: ∀p∈ps,p.fit) (hpl:ps.length=L.length) (hol:ol.fit) (hpb: ∀i,(pb i).length=32) (hnd:((ze0 L pk L.length++[(⟨2*s.own,pl⟩:KeyP)]).map (·.at_)).Nodup)
  (c0:zab Tryz.prog 24 [.ag s.c] (.r (ze3 L)))
  (c1:zab Tryz.prog 5 [bs seed,I L.length] (.r (bss Q)))
  (c2: ∀i (h:i<Q.length),i<L.length->zab Tryz.prog 6 [bs Q[i]] (.r (.tu [bs (pk i),bs (pb i)])))
  (c3:zab Tryz.prog 26 [ze3 L,bss (zgo pb L.length)] (.r (.tu [zqs ps,bs low])))
  (c4:zab Tryz.prog 27 [.ag s.c,I (2*s.own)] (.r (.tu [.ag N.c, .b true])))
  (c5:zab Tryz.prog 15 [bs seed,Str ⟨#[108,101,97,102]⟩] (.r (bs ls)))
  (c6:zab Tryz.prog 17 [bs ls] (.r (.tu [bs pl,bs ql])))
  (c7:zab Tryz.prog 28 [.ag (zfm N.leaf ql low).c,bs sig,bs group,I s.own] (.r (.tu [.ag ol.c,Er 0]))):
  zab Tryz.prog 12 [.ag s.c,bs seed,bs sig,bs group] (.r (.tu [.ag (MadeP.c ⟨renS s L ps ol,ol,(zgo pb L.length).map λb=>⟨b,[]⟩,zd5 (ze0 L pk L.length++[(⟨2*s.own,pl⟩:KeyP)]),Q.take L.length,com⟩),Er 0])):=by
 refine zaa (T:=Tab) mixed Tab_ok Tryz.func12 rfl (by kernel_rfl) ?_
 refine za rfl rfl ?_
 refine zy (z7b s hs) (λ_=>zu rfl (zq ?_)) (λh=>absurd h (by rw[hR];simp))
 refine zu (by simp only[zb];omega) ?_
 refine zu (by simp only[zb];omega) (zq ?_)
 refine za rfl rfl ?_
 refine ze c0 ?_
 refine ze c1 ?_
 refine Vdraw.mk' (by kernel_rfl) ?_
 refine⟨by omega,by omega,by show(L.length:Int)<=((Q.length:Nat):Int);omega,L.length,(Q.map bs).take L.length,by simp,by simp,?_⟩
 rw[z6o (by omega)]
 refine zm (by omega) (by omega) rfl (zg (f:=bs com) (by rw[Int.toNat_natCast,Nat.mul_one,List.getElem?_take,if_pos (by decide),List.getElem?_drop,Nat.add_zero,List.getElem?_map,hcom];rfl) ?_)
 refine zx (mkS s L Q seed sig group com pk pb) (λj=>j<=L.length) (λj=>L.length-j) 0 (by omega)
  ((zef 13 22 1 rfl).trans ((zbe false 2 11 keyT 2 (cells:=mz (.r nl) (.r nl) (bss (Q.take L.length)) (bs com)) rfl rfl).trans ((zbe true 2 10 77 2 (cells:=mz (.r nl) (.own 4) (bss (Q.take L.length)) (bs com)) rfl rfl).trans
   (zac [(0,0),(1,1),(2,2),(3,3),(4,4),(5,5)] rfl ⟨cr,cr,cr,rfl,rfl,cr,cr,rfl,rfl,cr,cr,cr,trivial⟩ ⟨⟨_,_,rfl,cr,_,_,rfl,cr,_,_,rfl,cr,_,_,rfl,cr,rfl⟩,⟨_,_,rfl,cr,_,_,rfl,cr,_,_,rfl,cr,_,_,rfl,cr,_,_,rfl,cr,_,_,rfl,cr,_,_,rfl,cr,_,_,rfl,cr,_,_,rfl,cr,_,_,rfl,cr,_,_,rfl,cr,_,_,rfl,cr,_,_,rfl,cr,_,_,rfl,cr,rfl⟩,⟨_,_,rfl,cr,_,_,rfl,cr,_,_,rfl,cr,_,_,rfl,cr,_,_,rfl,cr,_,_,rfl,cr,_,_,rfl,cr,_,_,rfl,cr,_,_,rfl,cr,_,_,rfl,cr,_,_,rfl,rfl,_,_,rfl,rfl,_,_,rfl,cr,_,_,rfl,cr,rfl⟩,⟨rfl,rfl,rfl,rfl,zn _⟩,⟨rfl,rfl,rfl,rfl,zn _⟩,⟨rfl,rfl,rfl,rfl,zn _⟩,trivial⟩)))) ?_
 intro j hj
 refine zh (λh=>zp ?_) (λh=>zq ?_)
 ·simp only[zb]at h
  have hj':j<L.length:=by omega
  have hjQ:j<Q.length:=by omega
  have b1:=zti pb j
  have b2:=zqn L pk j
  refine zm (by omega) (by omega) (zd4 (f:=Rung.c) (λ_=>rfl) rfl hj') ?_
  refine za rfl rfl ?_
  refine zm (by omega) (by omega) (zak rfl hjQ) (zg rfl ?_)
  refine ze (c2 j hjQ hj') ?_
  refine zw ?_
  refine Vapp.mk' (j:=j+1) (zs:=(zgo pb (j+1)).map bs) (by simp only[maxLen];omega) (by show(j+1)*24<=_;omega) rfl (by rw[zqm,List.map_append];rfl) ?_
  refine zw ?_
  refine Vapp.mk' (j:=j+1) (zs:=(ze0 L pk (j+1)).flatMap KeyP.c) (by simp only[maxLen];omega) (by show(j+1)*32<=_;omega) rfl (by rw[zx6 pk hj',List.flatMap_append];rfl) ?_
  refine Vdraw.cut 7 (by kernel_rfl) ?_
  refine ze (zkz (pb j) (by rw[hpb];decide)) ?_
  refine zw ?_
  refine Vapp.mk' (j:=j+1) (zs:=zuv (zgo pb (j+1))) (by simp only[maxLen];omega) (by show(j+1)*48<=_;omega) rfl (by rw[zqm];unfold zuv;rw[List.flatMap_append];rfl) ?_
  refine zd (m:=((j+1:Nat):Int)) (by omega) (by omega) ?_
  exact⟨j+1,hj',by omega,zac [(0,0),(1,1),(2,2),(3,8),(4,10),(5,13)] rfl ⟨cr,cr,cr,rfl,rfl,cr,cr,rfl,rfl,cr,cr,cr,trivial⟩ ⟨⟨_,_,rfl,cr,_,_,rfl,cr,_,_,rfl,cr,_,_,rfl,cr,rfl⟩,⟨_,_,rfl,cr,_,_,rfl,cr,_,_,rfl,cr,_,_,rfl,cr,_,_,rfl,cr,_,_,rfl,cr,_,_,rfl,cr,_,_,rfl,cr,_,_,rfl,cr,_,_,rfl,cr,_,_,rfl,cr,_,_,rfl,cr,_,_,rfl,cr,_,_,rfl,cr,rfl⟩,⟨_,_,rfl,cr,_,_,rfl,cr,_,_,rfl,cr,_,_,rfl,cr,_,_,rfl,cr,_,_,rfl,cr,_,_,rfl,cr,_,_,rfl,cr,_,_,rfl,cr,_,_,rfl,cr,_,_,rfl,rfl,_,_,rfl,rfl,_,_,rfl,cr,_,_,rfl,cr,rfl⟩,⟨rfl,rfl,rfl,rfl,zn _⟩,⟨rfl,rfl,rfl,rfl,zn _⟩,⟨rfl,rfl,rfl,rfl,zn _⟩,trivial⟩⟩
 simp only[zb]at h
 obtain rfl:j=L.length:=by omega
 have b1:=zti pb L.length
 have b2:=zqn L pk L.length
 refine Vcall.mk' c3 (zk (cr) (zk (zf (by unfold bss;rw[b1])) Cvs.nil)) ?_
 refine za rfl rfl ?_
 refine zd (m:=2*s.own) rfl (by omega) ?_
 refine ze c4 ?_
 refine za rfl rfl ?_
 refine ze c5 ?_
 refine ze c6 ?_
 refine za rfl rfl ?_
 refine ze c7 ?_
 refine zu rfl (zq ?_)
 refine zd (m:=2*s.own) rfl (by omega) ?_
 refine zw ?_
 obtain⟨K,hK⟩: ∃K,K=ze0 L pk L.length++[(⟨2*s.own,pl⟩:KeyP)]:=⟨_,rfl⟩
 have hKl:K.length=L.length+1:=by rw[hK,List.length_append,b2];rfl
 rw[<-hK]at hnd⊢
 refine Vapp.mk' (j:=K.length) (zs:=K.flatMap KeyP.c) (by simp only[maxLen];omega) (by show(L.length+1)*32<=_;omega) hKl.symm (by rw[hK,List.flatMap_append];rfl) ?_
 refine Vstep.thenSub (zj [(0,9)] [] (λ_ _=>z3z K (by omega) (by omega) hnd) (zi rfl ⟨_,_,rfl,rfl,rfl⟩) rfl ⟨⟨rfl,rfl,rfl,rfl,zn _⟩,trivial⟩ ⟨zba,trivial⟩ ⟨_,zbw (id:=10) rfl,?_⟩)
 refine za rfl rfl ?_
 refine za rfl rfl ?_
 refine ze (z3p s L ps ol hs (by omega) hpl.symm hps hol ho) ?_
 generalize renS s L ps ol=r
 refine za rfl rfl ?_
 refine Vcall.mk' (zj6 ⟨1,ol,zpr⟩ ⟨hol,zsl⟩ (zdf _ hol)) (zk (Cv.ag (zk (cr) (zk (cr) (zk (cr) (zk (cr) (zk (cr) (zk (cr) (zk (cr) (zk (Cv.nil 1) (zk (Cv.nil 1) (zk (Cv.nil 1) Cvs.nil))))))))))) Cvs.nil) ?_
 refine Vsem.fieldN Tab_ok rfl rfl rfl rfl rfl rfl rfl (Nat.le_of_ble_eq_true rfl) rfl ?_
 refine za rfl rfl ?_
 refine za rfl rfl ?_
 have e1:(zd5 K).length=K.length:=(zfv K).length_eq
 refine⟨_,rfl,Cv.tu (zk (Cv.ag (zk (cr) (zk (cr) (zk (cr) (zk (cr) (zk (cr) (zk (cr) (zk (cr) (zk (cr) (zk (cr) (zk (cr) (zk ?_ (zk ?_ (zn _)))))))))))))) (zn _))⟩
 ·unfold z5v
  rw[List.length_map,b1]
  exact Cv.sl (zxb _)
 ·unfold keyR
  rw[e1]
  exact cr
end
end Go.Proofs.YtfjkblpnbgfkeaaGreat.Sx
