import Derived.Test.YtpdllgbfemnemaaGreatZQe
namespace Go.Proofs.YtpdllgbfemnemaaGreat.Sx
open Go.RowKit
set_option linter.unusedVariables false
section
def zjq(t:List Node)(x:Int):List UInt8:=zbc t (lv x.toNat) (x.toNat/2^(lv x.toNat+1))
theorem zn7(t:List Node){h k:Nat}(hh:h<=16)(hk:k<2^(16-h)):zjq t (nd h k)=zbc t h k:=by
 obtain⟨e1,e2⟩:=zi7 hh hk
 unfold zjq
 rw[e2,e1]
def ze7(t:List Node)(x:Int):Spot:=⟨x,nT t x.toNat⟩
def ze9(t:List Node)(x:Int):Stub:=⟨x,zjq t x⟩
def cutA(t:List Node)(n own:Int):List Int:=zb5 (zb3 (zbb t t.length) n own)
def cutB(t:List Node)(n own:Int):List Int:=zb5 (zdg (zbb t t.length) n own)
def cutS(t:List Node)(n own:Int):Lean_:=⟨n,own,(cutA t n own).map (ze7 t),(cutB t n own).map (ze9 t)⟩
theorem z0n{t:List Node}(hr: ∀x∈t,x.right=true)(hl: ∀x∈t,x.par.late.length<=1000):zh8 (zbb t t.length):=λs hs=>by
 simp only[zbb,List.mem_map,List.mem_range]at hs
 obtain⟨i,hi,rfl⟩:=hs
 exact⟨Nat.le_trans (hl _ (zfl hi)) (by decide),Node.right_late (hr _ (zfl hi))⟩
theorem zedb{a b:Nat}(h:2^a=2^b):a=b:=by
 rcases Nat.lt_trichotomy a b with h1 |h1 |h1
 ·have:=Nat.pow_lt_pow_right (show 1<2 by omega) h1;omega
 ·exact h1
 ·have:=Nat.pow_lt_pow_right (show 1<2 by omega) h1;omega
theorem zdmb(t:List Node)(hfit: ∀x∈t,x.fit)(hr: ∀x∈t,x.right=true){d:Nat}(hd:d<=16)(hl:t.length+1=2^(d+1)){x:Int}(hx:ofI x ((2^d:Nat):Int)=true):zaf Tryz.prog 71 [nods t,I x,is []] (.r (bs (zjq t x))):=by
 obtain⟨d',h,k,hd',e,hh,hk,rfl⟩:=zex hx
 have e':d'=d:=zedb (by exact_mod_cast e.symm)
 subst e'
 have hk16:=lt16 hd hk
 rw[zn7 t (by omega) hk16]
 refine zzl t hfit hr h k (by omega) hk16 ?_
 rw[hl]
 have:=Nat.mul_le_mul_right (2^(h+1)) (show k+1<=2^(d'-h)from hk)
 rwa[<-Nat.pow_add,show d'-h+(h+1)=d'+1 by omega]at this
theorem zp8{l:List Int}{z:Int}:z∈zb5 l↔z∈l:=by
 unfold zb5
 have: ∀(l a:List Int),z∈l.foldl (λa x=>insD x a) a↔z∈a\/z∈l:=by
  intro l
  induction l with
  |nil=>intro a;simp
  |cons x l ih=>
   intro a
   rw[List.foldl_cons,ih,zix]
   simp only[List.mem_cons]
   exact⟨λh=>by rcases h with(h |h) |h<;>simp[h],λh=>by rcases h with h |h |h<;>simp[h]⟩
 simpa using this l []
set_option maxHeartbeats 1000000 in
theorem zgfb(t:List Node)(hfit: ∀x∈t,x.fit)(hr: ∀x∈t,x.right=true)(hlt: ∀x∈t,x.par.late.length<=1000){d:Nat}(hd:d<=16)(hl:t.length+1=2^(d+1)){own:Int}(h0:0<=own)(h1:own< ((2^d:Nat):Int))
  (hA: ∀x∈zb3 (zbb t t.length) ((2^d:Nat):Int) own,ofI x ((2^d:Nat):Int)=true) (hB: ∀x∈zdg (zbb t t.length) ((2^d:Nat):Int) own,ofI x ((2^d:Nat):Int)=true)
  (hAl:(zb3 (zbb t t.length) ((2^d:Nat):Int) own).length<=1000000) (hBl:(zdg (zbb t t.length) ((2^d:Nat):Int) own).length<=1000000):
  zaf Tryz.prog 31 [nods t,I own, .b false] (.r (.ag (cutS t ((2^d:Nat):Int) own).c)):=by
 refine zac (T:=Tab) mixed Tab_ok Tryz.func31 rfl (by kernel_rfl) ?_
 have hf:=zdd d hd
 have hn:=zc4 hf
 have e2:2^(d+1)=2*2^d:=by rw[Nat.pow_succ];omega
 have hp:=zhr hd
 obtain⟨n,hnn⟩: ∃n:Int,n=((2^d:Nat):Int):=⟨_,rfl⟩
 rw[<-hnn]at hf hn h1 hA hB hAl hBl⊢
 refine zd (m:=((t.length+1:Nat):Int)) (by omega) (by omega) ?_
 refine⟨by decide,n,?_,?_⟩
 ·rw[Int.tdiv_eq_ediv_of_nonneg (by omega),show(((t.length+1:Nat):Int))/2=n by omega]
  exact wrap_i64 (by omega)
 refine ze (zc2b t (by omega)) ?_
 refine ze (ze2b (zbb t t.length) n own (by rw[zwv];omega) (z0n hr hlt) hf h0 h1) ?_
 obtain⟨A,hAe⟩: ∃A,A=cutA t n own:=⟨_,rfl⟩
 obtain⟨B,hBe⟩: ∃B,B=cutB t n own:=⟨_,rfl⟩
 have hS:cutS t n own=⟨n,own,A.map (ze7 t),B.map (ze9 t)⟩:=by rw[hAe,hBe];rfl
 have hA': ∀x∈A,ofI x n=true:=λx hx=>hA x (zp8.1 (by rw[hAe]at hx;exact hx))
 have hB': ∀x∈B,ofI x n=true:=λx hx=>hB x (zp8.1 (by rw[hBe]at hx;exact hx))
 have hAl':A.length<=1000000:=by rw[hAe];unfold cutA zb5;rw[zh3];simpa using hAl
 have hBl':B.length<=1000000:=by rw[hBe];unfold cutB zb5;rw[zh3];simpa using hBl
 have hAx:zb5 (zb3 (zbb t t.length) n own)=A:=hAe.symm
 have hBx:zb5 (zdg (zbb t t.length) n own)=B:=hBe.symm
 rw[hAx,hBx,hS]
 refine zy (λj:Nat=>{F:=[(0, .r (nods t)),(6, .own 0),(8, .r (is A)),(9, .r (is B)),(11, .own 1),(12, .r (I j))],O:=[(0,some (.box (zero4.map .r))),(1,some (.box [.r (I n), .r (I own), .own 2, .own 3])),(2,some (zda ((A.take j).map (ze7 t)))),(3,some (zd6 []))],nx:=4})
  (λj=>j<=A.length) (λj=>A.length-j) 0 (by omega)
  ((zcu true 1 2 77 11 (cells:=[.r (I n), .r (I own), .r (.x (.slice none 0 0)), .r (.x (.slice none 0 0))]) rfl rfl).trans ((zcu true 1 3 79 2 (cells:=[.r (I n), .r (I own), .own 2, .r (.x (.slice none 0 0))]) rfl rfl).trans (zad [(0,0),(1,1),(2,2),(3,3)] rfl ⟨cr,rfl,cr,cr,rfl,cr,trivial⟩ ⟨zab zero4,cvc (zax _) (cvc (zax _) (cvc rfl (cvc rfl rfl))),⟨rfl,rfl,rfl,rfl,zn _⟩,⟨rfl,rfl,rfl,rfl,zn _⟩,trivial⟩))) ?_
 intro j hj
 refine zh (λh=>zq ?_) (λh=>zt ?_)
 ·simp only[zb]at h
  have hj':j<A.length:=by omega
  have htk:(A.take j).length=j:=by rw[List.length_take];omega
  obtain⟨x,hx⟩: ∃x,x=A[j]:=⟨_,rfl⟩
  have hxo:=(zey.1 (hA' x (hx▸List.getElem_mem hj'))).2
  refine Vdraw.mk' (by kernel_rfl) ?_
  refine zm (by omega) (by omega) (zai rfl hj') (zg rfl ?_)
  refine zm (by omega) (by omega) (zai rfl hj') (zg rfl ?_)
  rw[<-hx]
  refine zm (by omega) (by omega) (zgk (j:=x.toNat) (by omega) (by omega)) ?_
  refine za rfl rfl ?_
  refine zx ?_
  have e:(A.take (j+1)).map (ze7 t)=(A.take j).map (ze7 t)++[⟨x,nT t x.toNat⟩]:=by rw[zj6 hj',List.map_append,<-hx];rfl
  refine Vapp.mk' (j:=((A.take (j+1)).map (ze7 t)).length) (zs:=((A.take (j+1)).map (ze7 t)).flatMap Spot.c) (by simp only[maxLen,List.length_map];omega) (by simp;omega) (by rw[e,List.length_append];rfl) (by rw[e,List.flatMap_append];exact congrArg (List.flatMap Spot.c ((A.take j).map (ze7 t))++ ·) (by simp[zb8,cellsOf])) ?_
  refine zd (m:=((j+1:Nat):Int)) (by omega) (by omega) ?_
  exact⟨j+1,hj',by omega,zad [(0,0),(1,1),(2,_),(3,3)] rfl ⟨cr,rfl,cr,cr,rfl,cr,trivial⟩ ⟨zab zero4,cvc (zax _) (cvc (zax _) (cvc rfl (cvc rfl rfl))),⟨rfl,rfl,rfl,rfl,zn _⟩,⟨rfl,rfl,rfl,rfl,zn _⟩,trivial⟩⟩
 simp only[zb]at h
 rw[List.take_of_length_le (by omega)]
 clear h hj
 refine zy (λj:Nat=>{F:=[(0, .r (nods t)),(6, .own 0),(9, .r (is B)),(11, .own 1),(13, .r (I j))],O:=[(0,some (.box (zero4.map .r))),(1,some (.box [.r (I n), .r (I own), .own 2, .own 3])),(2,some (zda (A.map (ze7 t)))),(3,some (zd6 ((B.take j).map (ze9 t))))],nx:=4})
  (λj=>j<=B.length) (λj=>B.length-j) 0 (by omega) (zad [(0,0),(1,1),(2,2),(3,3)] rfl ⟨cr,rfl,cr,rfl,cr,trivial⟩ ⟨zab zero4,cvc (zax _) (cvc (zax _) (cvc rfl (cvc rfl rfl))),⟨rfl,rfl,rfl,rfl,zn _⟩,⟨rfl,rfl,rfl,rfl,zn _⟩,trivial⟩) ?_
 intro j hj
 refine zh (λh=>zq ?_) (λh=>zt ?_)
 ·simp only[zb]at h
  have hj':j<B.length:=by omega
  have htk:(B.take j).length=j:=by rw[List.length_take];omega
  obtain⟨x,hx⟩: ∃x,x=B[j]:=⟨_,rfl⟩
  have hxo:=hB' x (hx▸List.getElem_mem hj')
  refine Vdraw.mk' (by kernel_rfl) ?_
  refine zm (by omega) (by omega) (zai rfl hj') (zg rfl ?_)
  refine zm (by omega) (by omega) (zai rfl hj') (zg rfl ?_)
  rw[<-hx]
  refine Vcall.mk' (zdmb t hfit hr hd hl (x:=x) (by rw[<-hnn];exact hxo)) (zk (cr) (zk (cr) (zk (Cv.nil 1) Cvs.nil))) ?_
  refine zx ?_
  have e:(B.take (j+1)).map (ze9 t)=(B.take j).map (ze9 t)++[⟨x,zjq t x⟩]:=by rw[zj6 hj',List.map_append,<-hx];rfl
  refine Vapp.mk' (j:=((B.take (j+1)).map (ze9 t)).length) (zs:=((B.take (j+1)).map (ze9 t)).flatMap Stub.c) (by simp only[maxLen,List.length_map];omega) (by simp;omega) (by rw[e,List.length_append];rfl) (by rw[e,List.flatMap_append];exact congrArg (List.flatMap Stub.c ((B.take j).map (ze9 t))++ ·) (by simp[zb8,cellsOf,bs])) ?_
  refine zd (m:=((j+1:Nat):Int)) (by omega) (by omega) ?_
  exact⟨j+1,hj',by omega,zad [(0,0),(1,1),(2,2),(3,_)] rfl ⟨cr,rfl,cr,rfl,cr,trivial⟩ ⟨zab zero4,cvc (zax _) (cvc (zax _) (cvc rfl (cvc rfl rfl))),⟨rfl,rfl,rfl,rfl,zn _⟩,⟨rfl,rfl,rfl,rfl,zn _⟩,trivial⟩⟩
 simp only[zb]at h
 rw[List.take_of_length_le (by omega)]
 refine za rfl rfl ?_
 refine za rfl rfl ?_
 exact cr
end
section
theorem z2c{O:List Spot}{x z:Int}{a:List Int×Bool}(h:a.1.Nodup):(zby O x a z).1.Nodup:=by
 unfold zby
 split
 ·rename_i hz
  rw[List.nodup_append]
  refine⟨h,by simp,λp hp q hq e=>?_⟩
  rw[mem1 hq]at e
  exact hz.2.2 (e▸hp)
 ·exact h
theorem zqb{O:List Spot}{x:Int}: ∀(l:List Int) (a:List Int×Bool),a.1.Nodup->(l.foldl (zby O x) a).1.Nodup
 |[],_,h=>h
 |z::l,a,h=>by rw[List.foldl_cons];exact zqb l _ (z2c h)
theorem zmt{O:List Spot}{x n:Int}: ∀(late:List Int) (a:List Int×Bool),a.1.Nodup->(zd5 O x n late a).1.Nodup
 |[],_,h=>h
 |u::late,a,h=>by
  unfold zd5
  rw[List.foldl_cons]
  exact zmt late _ (zqb _ _ h)
theorem zmy{O:List Spot}{d:Nat}(hd:d<=16)(hF: ∀x n,zae O x=some n->za2 x n=true): ∀(h k:Nat),h<=d->k<2^(d-h)->(zay O ((2^d:Nat):Int) h k).2=true->
  (zay O ((2^d:Nat):Int) h k).1.Nodup/\∀z∈(zay O ((2^d:Nat):Int) h k).1,inR h k z
 |h,k,hh,hk,hw=>by
  have hin: ∀z∈(zay O ((2^d:Nat):Int) h k).1,inR h k z:=λz hz=>
   (zu0 O h k true [] (by omega) (lt16 hd hk)).ra z (((zgr hd hF h k hh hk).2 hw z).1 hz)
  refine⟨?_,hin⟩
  match h,hh,hk,hw with
  |0,hh,hk,hw=>
   unfold zay
   cases hf:zae O (nd 0 k)with
   |none=>simp
   |some n=>exact zmt _ _ (by simp)
  |h+1,hh,hk,hw=>
   have hk2:2^(d-h)=2*2^(d-(h+1)):=by rw[show d-h=(d-(h+1))+1 by omega,Nat.pow_succ];omega
   unfold zay at hw⊢
   cases hf:zae O (nd (h+1) k)with
   |none=>simp
   |some n=>
    simp only[hf]at hw⊢
    split
    ·rename_i h0
     rw[if_pos h0]at hw
     simp only[Bool.and_eq_true]at hw
     obtain⟨n1,i1⟩:=zmy hd hF h (2*k) (by omega) (by omega) hw.1
     obtain⟨n2,i2⟩:=zmy hd hF h (2*k+1) (by omega) (by omega) hw.2
     simp only
     rw[List.nodup_append,List.nodup_append]
     refine⟨⟨by simp,n1,λp hp q hq e=>?_⟩,n2,λp hp q hq e=>?_⟩
     ·rw[mem1 hp]at e
      have:=(zbs (i1 q hq)).2
      omega
     ·have h2:=(zbv (i2 q hq)).2
      rcases List.mem_append.1 hp with hp |hp
      ·rw[mem1 hp]at e;omega
      ·have h1:=(zbs (i1 p hp)).2;omega
    ·exact zmt _ _ (by simp)
theorem zu2{f:Int->List Int}: ∀{l:List Int},(∀x∈l,(f x).Nodup)->l.Pairwise (λx y=>∀z∈f x,z∉f y)->(l.flatMap f).Nodup
 |[],_,_=>by simp
 |x::l,h1,h2=>by
  rw[List.pairwise_cons]at h2
  rw[List.flatMap_cons,List.nodup_append]
  refine⟨h1 x (by simp),zu2 (λy hy=>h1 y (by simp[hy])) h2.2,λp hp q hq e=>?_⟩
  obtain⟨y,hy,hq⟩:=List.mem_flatMap.1 hq
  exact h2.1 y hy p hp (e▸hq)
theorem zse{O:List Spot}{d o:Nat}(hd:d<=16)(ho:o<2^d)(hF: ∀x n,zae O x=some n->za2 x n=true)(hw: ∀c∈zau (2*(o:Int)) ((2^d:Nat):Int),(zbl O ((2^d:Nat):Int) c).2=true):(zb3 O ((2^d:Nat):Int) (o:Int)).Nodup:=by
 have e0:2*(o:Int)=(nd 0 o:Int):=by rw[zd1];omega
 have hwh: ∀i,i<d->(zbl O ((2^d:Nat):Int) (nd i (sibN (o/2^i)))).1.Nodup/\∀z∈(zbl O ((2^d:Nat):Int) (nd i (sibN (o/2^i)))).1,inR i (sibN (o/2^i)) z:=λi hi=>by
  have hs:=zcv ho hi
  have h1:=hw (nd i (sibN (o/2^i))) (by rw[e0,zgl hd ho];exact List.mem_map.2 ⟨i,List.mem_range.2 hi,rfl⟩)
  rw[zh7 _ _ (by omega) (lt16 hd hs)]at h1⊢
  exact zmy hd hF i _ (by omega) hs h1
 unfold zb3
 rw[e0,zoo hd ho,zgl hd ho,List.nodup_append]
 refine⟨?_,?_,?_⟩
 ·rw[List.nodup_cons]
  refine⟨λhm=>?_,?_⟩
  ·obtain⟨i,hi,e⟩:=List.mem_map.1 hm
   have e':nd (i+1) (o/2^(i+1))=nd 0 o:=Int.ofNat.inj e
   have:=(zfk (by have:=List.mem_range.1 hi;omega) (by omega) e').1
   omega
  ·have: ∀(l:List Nat),l.Nodup->(∀i∈l,i<d)->(l.map λh=>(nd (h+1) (o/2^(h+1)):Int)).Nodup:=by
    intro l
    induction l with
    |nil=>intro _ _;simp
    |cons i l ih=>
     intro hn hl
     rw[List.nodup_cons]at hn
     rw[List.map_cons,List.nodup_cons]
     refine⟨λhm=>?_,ih hn.2 λj hj=>hl j (by simp[hj])⟩
     obtain⟨j,hj,e⟩:=List.mem_map.1 hm
     have hi:=hl i (by simp)
     have hj2:=hl j (by simp[hj])
     have e':nd (j+1) (o/2^(j+1))=nd (i+1) (o/2^(i+1)):=Int.ofNat.inj e
     have:=(zfk (by omega) (by omega) e').1
     exact hn.1 ((show j=i by omega)▸hj)
   exact this _ List.nodup_range λi hi=>List.mem_range.1 hi
 ·refine zu2 (λc hc=>?_) ?_
  ·obtain⟨i,hi,rfl⟩:=List.mem_map.1 hc
   exact(hwh i (List.mem_range.1 hi)).1
  ·rw[List.pairwise_map]
   have: ∀(l:List Nat),l.Nodup->(∀i∈l,i<d)->l.Pairwise λi j=>∀z∈(zbl O ((2^d:Nat):Int) (nd i (sibN (o/2^i)))).1,z∉(zbl O ((2^d:Nat):Int) (nd j (sibN (o/2^j)))).1:=by
    intro l
    induction l with
    |nil=>intro _ _;simp
    |cons i l ih=>
     intro hn hl
     rw[List.nodup_cons]at hn
     rw[List.pairwise_cons]
     refine⟨λj hj z hz hz2=>?_,ih hn.2 λj hj=>hl j (by simp[hj])⟩
     have:=zkf ((hwh i (hl i (by simp))).2 z hz) ((hwh j (hl j (by simp[hj]))).2 z hz2)
     exact hn.1 (this▸hj)
   exact this _ List.nodup_range λi hi=>List.mem_range.1 hi
 ·intro p hp q hq e
  obtain⟨c,hc,hq⟩:=List.mem_flatMap.1 hq
  obtain⟨i,hi,rfl⟩:=List.mem_map.1 hc
  have hin:=(hwh i (List.mem_range.1 hi)).2 q hq
  have: ∃j,p=(nd j (o/2^j):Int):=by
   rcases List.mem_cons.1 hp with rfl |hp
   ·exact⟨0,by simp⟩
   ·obtain⟨j,_,rfl⟩:=List.mem_map.1 hp
    exact⟨j+1,rfl⟩
  obtain⟨j,rfl⟩:=this
  exact zn1 (e▸hin)
theorem zv9{x y:Int}(hx:za1 x=true)(hy:za1 y=true):(0<=zbj x->zbj x=zbj y->x=y)/\(0<=zbj x->zbj x≠zbi y)/\(0<=zbi x->zbi x=zbi y->x=y)/\(0<=zbi x->zbi x≠zbj y):=by
 obtain⟨h,k,hh,hk,rfl,_⟩:=zfm hx
 obtain⟨h',k',hh',hk',rfl,_⟩:=zfm hy
 match h,h',hh,hh',hk,hk' with
 |0,_,_,_,hk,_=>
  have:=znj (d:=16) (k:=k) (by omega) (by simpa using hk)
  rw[this.1,this.2]
  exact⟨by omega,by omega,by omega,by omega⟩
 |h+1,0,hh,_,hk,hk'=>
  have:=znj (d:=16) (k:=k') (by omega) (by simpa using hk')
  rw[this.1,this.2]
  exact⟨by omega,by omega,by omega,by omega⟩
 |h+1,h'+1,hh,hh',hk,hk'=>
  rw[zdk (d:=16) (by omega) hh hk,zc7 (d:=16) (by omega) hh hk,zdk (d:=16) (by omega) hh' hk',zc7 (d:=16) (by omega) hh' hk']
  have key: ∀a b:Nat,(nd h a:Int)=(nd h' b:Int)->h=h'/\a=b:=λa b e=>zfk (by omega) (by omega) (by omega)
  refine⟨λ_ e=>?_,λ_ e=>?_,λ_ e=>?_,λ_ e=>?_⟩
  ·obtain⟨rfl,e2⟩:=key _ _ e
   rw[show k=k' by omega]
  ·have:=(key _ _ e).2;omega
  ·obtain⟨rfl,e2⟩:=key _ _ e
   rw[show k=k' by omega]
  ·have:=(key _ _ e).2;omega
theorem zvl{all acc:List Int}{c:Int}(h:acc.Nodup)(hc:0<=c->c∉acc):(addK all acc c).Nodup/\∀z,z∈addK all acc c->z∈acc\/(z=c/\0<=c):=by
 unfold addK
 split
 ·rename_i h1
  refine⟨?_,λz hz=>?_⟩
  ·rw[List.nodup_append]
   refine⟨h,by simp,λp hp q hq e=>?_⟩
   rw[mem1 hq]at e
   exact hc h1.1 (e▸hp)
  ·rcases List.mem_append.1 hz with hz |hz
   ·exact .inl hz
   ·exact .inr ⟨mem1 hz,h1.1⟩
 ·exact⟨h,λz hz=> .inl hz⟩
theorem zoh{all:List Int}: ∀(l acc:List Int),l.Nodup->(∀x∈l,za1 x=true)->acc.Nodup->(∀z∈acc,0<=z/\∀x∈l,z≠zbj x/\z≠zbi x)->(l.foldl (zgt all) acc).Nodup
 |[],_,_,_,h,_=>h
 |x::l,acc,hn,hl,h,hz=>by
  rw[List.nodup_cons]at hn
  rw[List.foldl_cons]
  have hx:=hl x (by simp)
  obtain⟨a1,a2⟩:=zvl (all:=all) (c:=zbj x) h λh0 hm=>((hz _ hm).2 x (by simp)).1 rfl
  obtain⟨b1,b2⟩:=zvl (all:=all) (c:=zbi x) a1 λh0 hm=>by
   rcases a2 _ hm with hm |⟨e,h1⟩
   ·exact((hz _ hm).2 x (by simp)).2 rfl
   ·exact(zv9 hx hx).2.2.2 h0 e
  refine zoh l _ hn.2 (λy hy=>hl y (by simp[hy])) b1 λz hz2=>?_
  have fresh: ∀y∈l,x≠y:=λy hy e=>hn.1 (e▸hy)
  rcases b2 z hz2 with hz2 |⟨rfl,h0⟩
  ·rcases a2 z hz2 with hz2 |⟨rfl,h0⟩
   ·exact⟨(hz z hz2).1,λy hy=>(hz z hz2).2 y (by simp[hy])⟩
   ·refine⟨h0,λy hy=>?_⟩
    have k:=zv9 hx (hl y (by simp[hy]))
    exact⟨λe=>fresh y hy (k.1 h0 e),k.2.1 h0⟩
  ·refine⟨h0,λy hy=>?_⟩
   have k:=zv9 hx (hl y (by simp[hy]))
   exact⟨k.2.2.2 h0,λe=>fresh y hy (k.2.2.1 h0 e)⟩
end
section
theorem zi0(O:List Spot): ∀(h k:Nat) (w:Bool) (l:List Int),(nd h k:Int)∈(shP O h k w l).1
 |0,_,_,_=>by simp[shP]
 |h+1,k,w,l=>by
  unfold shP
  cases zae O (nd (h+1) k)<;>simp
theorem zp2{O O':List Spot}: ∀(h k:Nat) (w:Bool) (l:List Int),(∀z∈(shP O h k w l).1,zae O' z=zae O z)->shP O' h k w l=shP O h k w l
 |0,_,_,_,_=>rfl
 |h+1,k,w,l,hz=>by
  have hself:=hz _ (zi0 O (h+1) k w l)
  have kid: ∀all late j,(∀z∈(kidS (λj w l=>shP O h j w l) h all late j).1,zae O' z=zae O z)->kidS (λj w l=>shP O' h j w l) h all late j=kidS (λj w l=>shP O h j w l) h all late j:=λall late j hzj=>by
   unfold kidS at hzj⊢
   split
   ·rename_i h1
    rw[if_pos h1]at hzj
    exact zp2 h j true [] hzj
   ·rename_i h1
    rw[if_neg h1]at hzj
    split
    ·rename_i h2
     rw[if_pos h2]at hzj
     exact zp2 h j false late hzj
    ·rfl
  unfold shP at hz⊢
  rw[hself]
  cases hf:zae O (nd (h+1) k)with
  |none=>rfl
  |some n=>
   simp only[hf,List.mem_append]at hz⊢
   rw[kid _ _ (2*k) λz h1=>hz z (.inl (.inl h1)),kid _ _ (2*k+1) λz h1=>hz z (.inr h1)]
theorem z5h{O O':List Spot}{o i:Nat}(hf:found O (nd i (sibN (o/2^i)))=true)(hz: ∀z∈(kidT O o i).1,zae O' z=zae O z):kidT O' o i=kidT O o i:=by
 unfold kidT at hz⊢
 rw[if_pos hf]at hz⊢
 have:found O' (nd i (sibN (o/2^i)))=true:=by
  unfold found
  rw[hz _ (zi0 _ _ _ _ _)]
  exact hf
 rw[if_pos this]
 exact zp2 _ _ _ _ hz
theorem zom{O O':List Spot}{o:Nat}: ∀h,(∀i,i<h->found O (nd i (sibN (o/2^i)))=true)->(∀z∈(topS O o h).1,zae O' z=zae O z)->topS O' o h=topS O o h
 |0,_,_=>rfl
 |h+1,hf,hz=>by
  have e1:=zom h (λi hi=>hf i (by omega)) λz h1=>hz z (by
   unfold topS
   split<;>simp[h1])
  have e2:=z5h (O':=O') (hf h (by omega)) λz h1=>hz z (by
   unfold topS
   split<;>simp[h1])
  unfold topS
  rw[e1,e2]
theorem zgh(t:List Node): ∀(l:List Int) (z:Int),zae (l.map (ze7 t)) z=if z∈l then some (nT t z.toNat)else none
 |[],z=>by simp[zae]
 |x::l,z=>by
  have ih:=zgh t l z
  unfold zae at ih⊢
  rw[List.map_cons,List.find?_cons]
  by_cases h:x=z
  ·subst h
   simp[ze7]
  ·have:decide ((ze7 t x).at_=z)=false:=by simp[ze7,h]
   rw[this]
   simp only
   rw[ih]
   have:z≠x:=λe=>h e.symm
   simp[this]
theorem zto(t:List Node): ∀(l:List Int) (z:Int),zcc (l.map (ze9 t)) z=if z∈l then some (zjq t z)else none
 |[],z=>by simp[zcc]
 |x::l,z=>by
  have ih:=zto t l z
  unfold zcc at ih⊢
  rw[List.map_cons,List.find?_cons]
  by_cases h:x=z
  ·subst h
   simp[ze9]
  ·have:decide ((ze9 t x).at_=z)=false:=by simp[ze9,h]
   rw[this]
   simp only
   rw[ih]
   have:z≠x:=λe=>h e.symm
   simp[this]
theorem zu7{l:List Int}{n:Nat}(hp:l.Pairwise (· < ·))(hb: ∀z∈l,0<=z/\z< (n:Int)):l.length<=n:=by
 have h2:((List.range n).map λi:Nat=>(i:Int)).Pairwise (· < ·):=by
  rw[List.pairwise_map]
  exact List.pairwise_lt_range.imp λh=>by omega
 have:=(zft hp h2 λz hz=>List.mem_map.2 ⟨z.toNat,List.mem_range.2 (by have:=hb z hz;omega),by have:=hb z hz;omega⟩).1
 simpa using this
structure TreeOk (t:List Node) (d:Nat):Prop where
 hd:d<=16
 len:t.length+1=2^(d+1)
 fine: ∀x n,zae (zbb t t.length) x=some n->za2 x n=true
 right: ∀x∈t,x.right=true
 fit: ∀x∈t,x.fit
theorem zehb{t:List Node}(r:RightT t)(hfit: ∀x∈t,x.fit): ∃d,TreeOk t d/\ze3 t=((2^d:Nat):Int):=by
 obtain⟨hl,hf,hpos⟩:=zuj r.n
 obtain⟨d,hd,e⟩:=zde hf
 have e2:2^(d+1)=2*2^d:=by rw[Nat.pow_succ];omega
 have hright: ∀x∈t,x.right=true:=λx hx=>by
  obtain⟨j,hj,rfl⟩:=List.mem_iff_getElem.1 hx
  rw[z5a hj];exact(r.ok j hj).1
 refine⟨d,⟨hd,by omega,λx n hx=>?_,hright,hfit⟩,e⟩
 rw[ziv]at hx
 split at hx
 ·rename_i h
  injection hx with hx
  subst hx
  have hj:x.toNat<t.length:=by omega
  obtain⟨a1,a2,a3⟩:=r.ok _ hj
  simp only[za2,Bool.and_eq_true,decide_eq_true_eq,List.all_eq_true]
  refine⟨a1,?_,λu hu=>?_⟩
  ·have hm:x.tmod 2=((x.toNat%2:Nat):Int):=by rw[Int.tmod_eq_emod_of_nonneg h.1];omega
   unfold zco
   rw[hm]
   split<;>omega
  ·have:=(r.late _ hj u hu).2.2.1
   rwa[show((x.toNat:Nat):Int)=x by omega]at this
 ·cases hx
theorem TreeOk.found{t:List Node}{d:Nat}(k:TreeOk t d){z:Int}(hz:inR d 0 z):found (zbb t t.length) z=true:=by
 have:=k.len
 unfold inR at hz
 simp only[Sx.found,ziv]
 rw[if_pos (by omega)]
 rfl
theorem zkh{t:List Node}{d o:Nat}(k:TreeOk t d)(ho:o<2^d):
  cutA t ((2^d:Nat):Int) o=(topS (zbb t t.length) o d).1/\cutB t ((2^d:Nat):Int) o=(topS (zbb t t.length) o d).2/\
  (∀z,z∈zb3 (zbb t t.length) ((2^d:Nat):Int) o↔z∈(topS (zbb t t.length) o d).1)/\(∀z,z∈zdg (zbb t t.length) ((2^d:Nat):Int) o↔z∈(topS (zbb t t.length) o d).2)/\
  (zb3 (zbb t t.length) ((2^d:Nat):Int) o).length=(topS (zbb t t.length) o d).1.length/\(zdg (zbb t t.length) ((2^d:Nat):Int) o).length=(topS (zbb t t.length) o d).2.length:=by
 have hd:=k.hd
 obtain⟨O,hO⟩: ∃O,O=zbb t t.length:=⟨_,rfl⟩
 have hF:=k.fine
 have hfo: ∀z:Int,inR d 0 z->found O z=true:=λz hz=>hO▸k.found hz
 unfold cutA cutB
 rw[<-hO]at hF⊢
 obtain⟨s0,hs0⟩: ∃s0:Lean_,s0=⟨((2^d:Nat):Int),(o:Int),O,[]⟩:=⟨_,rfl⟩
 have eO:s0.opn=O:=by rw[hs0]
 have hn:s0.leaves=((2^d:Nat):Int):=by rw[hs0]
 have he:s0.own=(o:Int):=by rw[hs0]
 have sh:=zdz O hd ho d (Nat.le_refl _)
 have h0:o/2^d=0:=Nat.div_eq_of_lt ho
 rw[h0]at sh
 have hfd: ∀z∈(topS O o d).1,found O z=true:=λz hz=>hfo z (sh.ra z hz)
 obtain⟨f1,f2⟩:=(zgi (s:=s0) hd ho hn he (by rw[eO];exact hF)).1 (by rw[eO];exact hfd)
 have hop:zan s0 true=zau (2*(o:Int)) ((2^d:Nat):Int):=by
  unfold zan
  rw[hn,he,List.filter_eq_self]
  intro c hc
  rw[show 2*(o:Int)=(nd 0 o:Int)by rw[zd1];omega,zgl hd ho]at hc
  obtain⟨i,hi,rfl⟩:=List.mem_map.1 hc
  have hi:=List.mem_range.1 hi
  have hin:inR d 0 (nd i (sibN (o/2^i))):=zgg.2 ⟨by omega,Nat.div_eq_of_lt (zcv ho hi)⟩
  have:=hfo _ hin
  rw[eO]
  simpa[found]using this
 have hall:allL s0=zb3 O ((2^d:Nat):Int) o:=by
  unfold allL ownL zb3
  rw[hop,hn,he,eO]
 have hm:=zrn (s:=s0) hd ho hn he (by rw[eO];exact hF) f2
 have hs:=zov (s:=s0) hd ho (by rw[eO];exact hfd) hm
 have hsl:zjm s0=zdg O ((2^d:Nat):Int) o:=by unfold zjm zdg;rw[hall]
 rw[hall,eO]at hm
 rw[hsl,eO]at hs
 have n1:(zb3 O ((2^d:Nat):Int) o).Nodup:=zse hd ho hF λc hc=>by
  have:=f2 c (by rw[hop];exact hc)
  rwa[hn,eO]at this
 have hnode:=zmw (O:=O) (n:=((2^d:Nat):Int)) (own:=(o:Int)) (zdd d hd) (by omega) (by omega)
 have n2:(zdg O ((2^d:Nat):Int) o).Nodup:=zoh _ _ n1 hnode (by simp) (by simp)
 have e1:zb5 (zb3 O ((2^d:Nat):Int) o)=(topS O o d).1:=by
  rw[zkn n1]
  exact zeb (zf7 _) sh.pa λz=>by rw[zfc,hm]
 have e2:zb5 (zdg O ((2^d:Nat):Int) o)=(topS O o d).2:=by
  rw[zkn n2]
  exact zeb (zf7 _) sh.pb λz=>by rw[zfc,hs]
 have l1:(zb5 (zb3 O ((2^d:Nat):Int) o)).length=(zb3 O ((2^d:Nat):Int) o).length:=by unfold zb5;rw[zh3];simp
 have l2:(zb5 (zdg O ((2^d:Nat):Int) o)).length=(zdg O ((2^d:Nat):Int) o).length:=by unfold zb5;rw[zh3];simp
 exact⟨e1,e2,hm,hs,by rw[<-l1,e1],by rw[<-l2,e2]⟩
theorem za0b{t:List Node}{d o:Nat}(k:TreeOk t d)(ho:o<2^d)(hleaf:(nT t (2*o)).kind.toNat=1):
  GoodS (cutS t ((2^d:Nat):Int) o) d o/\zaj (cutS t ((2^d:Nat):Int) o) d 0=zbc t d 0/\(cutS t ((2^d:Nat):Int) o).opn.length<=2^(d+1)/\(cutS t ((2^d:Nat):Int) o).shut.length<=2^(d+1):=by
 have hd:=k.hd
 have hlen:=k.len
 obtain⟨c1,c2,c3,c4,c5,c6⟩:=zkh k ho
 obtain⟨O,hO⟩: ∃O,O=zbb t t.length:=⟨_,rfl⟩
 have hF:=k.fine
 have hfo: ∀z:Int,inR d 0 z->found O z=true:=λz hz=>hO▸k.found hz
 rw[<-hO]at hF c1 c2 c3 c4 c5 c6
 have sh:=zdz O hd ho d (Nat.le_refl _)
 have h0:o/2^d=0:=Nat.div_eq_of_lt ho
 rw[h0]at sh
 obtain⟨A,hA⟩: ∃A,A=(topS O o d).1:=⟨_,rfl⟩
 obtain⟨B,hB⟩: ∃B,B=(topS O o d).2:=⟨_,rfl⟩
 have hfz: ∀z:Int,inR d 0 z->zae O z=some (nT t z.toNat):=λz hz=>by
  unfold inR at hz
  rw[hO,ziv,if_pos (by omega)]
 obtain⟨s,hs⟩: ∃s,s=cutS t ((2^d:Nat):Int) o:=⟨_,rfl⟩
 have es:s=⟨((2^d:Nat):Int),(o:Int),A.map (ze7 t),B.map (ze9 t)⟩:=by rw[hs,hA,hB,<-c1,<-c2];rfl
 rw[<-hs]
 have eo:s.opn=A.map (ze7 t):=by rw[es]
 have eb:s.shut=B.map (ze9 t):=by rw[es]
 have hn:s.leaves=((2^d:Nat):Int):=by rw[es]
 have he:s.own=(o:Int):=by rw[es]
 have hag: ∀z∈(topS O o d).1,zae s.opn z=zae O z:=λz hz=>by
  rw[eo,zgh,hfz z (sh.ra z hz),hA,if_pos hz]
 have htop:topS s.opn o d=topS O o d:=zom d (λi hi=>hfo _ (zgg.2 ⟨by omega,Nat.div_eq_of_lt (zcv ho hi)⟩)) hag
 have mo:s.opn.map (·.at_)=A:=by rw[eo,List.map_map];exact(List.map_congr_left λx _=>rfl).trans (List.map_id _)
 have mb:s.shut.map (·.at_)=B:=by rw[eb,List.map_map];exact(List.map_congr_left λx _=>rfl).trans (List.map_id _)
 have pa:A.Pairwise (· < ·):=hA▸sh.pa
 have pb:B.Pairwise (· < ·):=hB▸sh.pb
 have ra: ∀z∈A,inR d 0 z:=hA▸sh.ra
 have rb: ∀z∈B,inR d 0 z:=hB▸sh.rb
 have hlA:A.length<=2^(d+1):=zu7 pa λz hz=>by have:=ra z hz;unfold inR at this;omega
 have hlB:B.length<=2^(d+1):=zu7 pb λz hz=>by have:=rb z hz;unfold inR at this;omega
 have hp17:=ztt hd
 have hok: ∀z∈A,okO s.opn z=true:=λz hz=>by
  have e:zae s.opn z=some (nT t z.toNat):=by rw[eo,zgh,if_pos hz]
  unfold okO
  rw[e]
  exact hF z _ (hfz z (ra z hz))
 have hX32: ∀z,(zjq t z).length=32:=λz=>zet t _ _
 have hst: ∀z∈B,zcn s.shut z=true:=λz hz=>by
  have e:zcc s.shut z=some (zjq t z):=by rw[eb,zto,if_pos hz]
  unfold zcn
  rw[e]
  exact decide_eq_true (hX32 z)
 have hownA:(nd 0 o:Int)∈A:=by rw[hA];exact((zcs O o d _).1).2 (.inl ⟨0,by omega,by simp⟩)
 have e20:2*(o:Int)=(nd 0 o:Int):=by rw[zd1];omega
 have hleafK:ze6 s=true:=by
  have e:zae s.opn (2*s.own)=some (nT t (2*o)):=by
   rw[he,e20,eo,zgh,if_pos hownA,zd1,Int.toNat_natCast]
  unfold ze6
  rw[e]
  exact decide_eq_true hleaf
 have hlook:s.lookOk=true:=by
  simp only[Lean_.lookOk,Bool.and_eq_true,zgd]
  rw[mo,mb]
  exact⟨⟨pa,λz hz=>by have:=ziz (ra z hz);omega⟩,pb,λz hz=>by have:=ziz (rb z hz);omega⟩
 have hright:zbf s=true:=by
  rw[zkq s hd ho hn he,htop,<-hA,<-hB]
  refine⟨hlook,hleafK,hok,hst,?_⟩
  rw[eo,eb,List.length_map,List.length_map]
 have hol:s.opn.length=A.length:=by rw[eo,List.length_map]
 have hbl:s.shut.length=B.length:=by rw[eb,List.length_map]
 have hzt: ∀z∈A,z.toNat<t.length:=λz hz=>by have:=ra z hz;unfold inR at this;omega
 have hfit:s.fitN:=by
  refine⟨by omega,by omega,λx hx=>?_,λx hx=>?_⟩
  ·rw[eo]at hx
   obtain⟨z,hz,rfl⟩:=List.mem_map.1 hx
   exact k.fit _ (zfl (hzt z hz))
  ·rw[eb]at hx
   obtain⟨z,hz,rfl⟩:=List.mem_map.1 hx
   have:=hX32 z
   simp only[ze9];omega
 have g:GoodS s d o:=⟨hright,hfit,by unfold zjz;omega,hd,ho,hn,he⟩
 refine⟨g,?_,by omega,by omega⟩
 rw[(ztf hd ho hn he hright).1]
 have key: ∀h j,h<=d->j<2^(d-h)->((nd h j:Int)∈A\/(nd h j:Int)∈B)->zar s h j=zbc t h j:=by
  have stub_case: ∀h j,h<=d->j<2^(d-h)->(nd h j:Int)∈B->zbe s.shut (nd h j)=zbc t h j:=λh j hh hj hm=>by
   have e:zcc s.shut (nd h j)=some (zjq t (nd h j)):=by rw[eb,zto,if_pos hm]
   rw[(zc0 e).1,zn7 t (by omega) (lt16 hd hj)]
  have dj: ∀z∈A,z∉B:=hA▸hB▸sh.dj
  intro h
  induction h with
  |zero=>
   intro j hh hj hm
   rcases hm with hm |hm
   ·have e:zae s.opn (nd 0 j)=some (nT t (nd 0 j)):=by rw[eo,zgh,if_pos hm,Int.toNat_natCast]
    simp only[zar,e,zbc]
   ·have e:zae s.opn (nd 0 j)=none:=by rw[eo,zgh,if_neg λh=>dj _ h hm]
    have:=stub_case 0 j hh hj hm
    simp only[zar,e,this]
  |succ h ih=>
   intro j hh hj hm
   have hk2:2^(d-h)=2*2^(d-(h+1)):=by rw[show d-h=(d-(h+1))+1 by omega,Nat.pow_succ];omega
   rcases hm with hm |hm
   ·have e:zae s.opn (nd (h+1) j)=some (nT t (nd (h+1) j)):=by rw[eo,zgh,if_pos hm,Int.toNat_natCast]
    have hk:=sh.kids (nd (h+1) j) (hA▸hm) (by rw[hfz _ (ra _ hm)];rfl)
    rw[zdk hd (by omega) hj,zc7 hd (by omega) hj,<-hA,<-hB]at hk
    have i1:=ih (2*j) (by omega) (by omega) (hk.1 (by omega))
    have i2:=ih (2*j+1) (by omega) (by omega) (hk.2 (by omega))
    simp only[zar,e,zbc,i1,i2]
   ·have e:zae s.opn (nd (h+1) j)=none:=by rw[eo,zgh,if_neg λh=>dj _ h hm]
    have:=stub_case (h+1) j hh hj hm
    simp only[zar,e,this]
 exact key d 0 (Nat.le_refl _) (zag _) (by rw[hA,hB];exact sh.root)
end
section
theorem zzh{n:Node}(hs:n.small=true)(hl: ∀u∈n.par.late,i64 u):n.fit/\n.par.late.length<=60:=by
 simp only[Node.small,decide_eq_true_eq]at hs
 unfold Node.fit Leaf.fit Par.fit
 refine⟨⟨by omega,by omega,by omega,by omega,hl⟩,by omega⟩
end
end Go.Proofs.YtpdllgbfemnemaaGreat.Sx
