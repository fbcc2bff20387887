import Derived.Test.YtpdllgbfemnemaaGreatZQe
import Derived.Test.YtpdllgbfemnemaaGreatZRe
import Derived.Test.YtpdllgbfemnemaaGreatZKt
import Derived.Test.YtpdllgbfemnemaaGreatZRb
namespace Go.Proofs.YtpdllgbfemnemaaGreat.Sx
open Go.RowKit
set_option linter.unusedVariables false
section
def putB(s:Lean_):Nat->Nat->List UInt8
 |0,k=>match zae s.opn (nd 0 k)with
  |some n=>[1]++zaq n
  |none=>[0]++zbe s.shut (nd 0 k)
 |h+1,k=>match zae s.opn (nd (h+1) k)with
  |some n=>[1]++zaq n++(putB s h (2*k)++putB s h (2*k+1))
  |none=>[0]++zbe s.shut (nd (h+1) k)
theorem zzn{l:List Stub}{b:Nat}(h: ∀s∈l,s.hash.length<=b)(x:Int):(zbe l x).length<=b:=by
 cases hf:zcc l x with
 |none=>rw[zkt hf];simp
 |some m=>
  obtain⟨e,s,hs,_,rfl⟩:=zc0 hf
  rw[e];exact h s hs
structure Lean_.brief (s:Lean_):Prop where
 fit:s.fitN
 node: ∀x n,zae s.opn x=some n->(zaq n).length<=1000000
 hash: ∀x∈s.shut,x.hash.length<=1000000
 right: ∀x∈s.opn,x.node.right=true
theorem zbrb{s:Lean_}{c:Nat}(h1: ∀x n,zae s.opn x=some n->(zaq n).length<=c)(h2: ∀x∈s.shut,x.hash.length<=c): ∀h k,(putB s h k).length+(c+1)<=(c+1)*2^(h+1):=by
 have hb:=λx=>zzn h2 x
 intro h
 induction h with
 |zero=>
  intro k
  have e:(c+1)*2^(0+1)=2*(c+1):=by rw[Nat.mul_comm]
  rw[e]
  unfold putB
  cases hf:zae s.opn (nd 0 k)with
  |some n=>have:=h1 _ n hf;simp only[List.length_append,List.length_cons,List.length_nil];omega
  |none=>have:=hb (nd 0 k);simp only[List.length_append,List.length_cons,List.length_nil];omega
 |succ h ih=>
  intro k
  have e2:(c+1)*2^(h+1+1)=2*((c+1)*2^(h+1)):=by rw[Nat.pow_succ 2 (h+1),<-Nat.mul_assoc,Nat.mul_comm]
  have i1:=ih (2*k)
  have i2:=ih (2*k+1)
  rw[e2]
  unfold putB
  cases hf:zae s.opn (nd (h+1) k)with
  |some n=>
   have:=h1 _ n hf
   simp only[List.length_append,List.length_cons,List.length_nil]
   omega
  |none=>have:=hb (nd (h+1) k);simp only[List.length_append,List.length_cons,List.length_nil];omega
theorem zqa{s:Lean_}(hs:s.brief){h:Nat}(hh:h<=16)(k:Nat):(putB s h k).length<=132000000000:=by
 have h1:=zbrb hs.node hs.hash h k
 have h2:=ztt hh
 omega
theorem zuu(s:Lean_)(hs:s.brief)(x:Int)(hx:zae s.opn x=none):zaf Tryz.prog 79 [.ag s.c,I x] (.r (bs ([0]++zbe s.shut x))):=by
 refine zac (T:=Tab) mixed Tab_ok Tryz.func79 rfl (by kernel_rfl) ?_
 obtain⟨hs1,hs2,hs3,hs4⟩:=id hs.fit
 have hfind:=ze5 s.opn x (by omega)
 rw[hx]at hfind
 have hb:=zzn hs.hash x
 refine ze hfind ?_
 refine zu rfl (zq ?_)
 refine zx ?_
 refine za rfl rfl ?_
 refine ze (z05 s x (by omega)) ?_
 refine ze (zd8 [0] (zbe s.shut x) (by simp) (by omega)) ?_
 exact cr
theorem z5y(s:Lean_)(hs:s.brief)(k:Nat)(hk:k<65536)(n:Node)(hx:zae s.opn (nd 0 k)=some n):zaf Tryz.prog 79 [.ag s.c,I (nd 0 k)] (.r (bs ([1]++zaq n))):=by
 refine zac (T:=Tab) mixed Tab_ok Tryz.func79 rfl (by kernel_rfl) ?_
 obtain⟨hs1,hs2,hs3,hs4⟩:=id hs.fit
 have hle:=hs.node _ n hx
 have hfind:=ze5 s.opn (nd 0 k) (by omega)
 rw[hx]at hfind
 obtain⟨sp,hsp,_,rfl⟩:=za7 hx
 refine ze hfind ?_
 refine zw rfl (zt ?_)
 refine zx ?_
 refine za rfl rfl ?_
 refine ze (zh4 sp.node (hs3 sp hsp) (λ_=>Node.right_late (hs.right sp hsp))) ?_
 refine ze (zd8 [1] (zaq sp.node) (by simp) (by omega)) ?_
 refine⟨by decide,_,rfl,?_⟩
 refine zw (by rw[zck];rfl) (zt ?_)
 exact cr
theorem zalb(s:Lean_)(hs:s.brief)(h:Nat)(hh:h+1<=16)(ih: ∀k,k<2^(16-h)->zaf Tryz.prog 79 [.ag s.c,I (nd h k)] (.r (bs (putB s h k))))
  (k:Nat) (hk:k<2^(16-(h+1))) (n:Node) (hx:zae s.opn (nd (h+1) k)=some n):zaf Tryz.prog 79 [.ag s.c,I (nd (h+1) k)] (.r (bs ([1]++zaq n++(putB s h (2*k)++putB s h (2*k+1))))):=by
 refine zac (T:=Tab) mixed Tab_ok Tryz.func79 rfl (by kernel_rfl) ?_
 have hleft:=zdk (d:=16) (by omega) (show h+1<=16 by omega) hk
 have hright:=zc7 (d:=16) (by omega) (show h+1<=16 by omega) hk
 have hk2:2^(16-h)=2*2^(16-(h+1)):=by rw[show 16-h=(16-(h+1))+1 by omega,Nat.pow_succ];omega
 obtain⟨hs1,hs2,hs3,hs4⟩:=id hs.fit
 have hle:=hs.node _ n hx
 have hfind:=ze5 s.opn (nd (h+1) k) (by omega)
 rw[hx]at hfind
 obtain⟨sp,hsp,_,rfl⟩:=za7 hx
 have l1:=zqa hs (show h<=16 by omega) (2*k)
 have l2:=zqa hs (show h<=16 by omega) (2*k+1)
 refine ze hfind ?_
 refine zw rfl (zt ?_)
 refine zx ?_
 refine za rfl rfl ?_
 refine ze (zh4 sp.node (hs3 sp hsp) (λ_=>Node.right_late (hs.right sp hsp))) ?_
 refine ze (zd8 [1] (zaq sp.node) (by simp) (by omega)) ?_
 refine⟨by decide,_,rfl,?_⟩
 refine zu (by rw[zc5];rfl) (zq ?_)
 refine ze (zgq _) ?_
 rw[hleft,hright]
 refine Vdraw.mk' (by kernel_rfl) ?_
 refine za rfl rfl ?_
 refine ze (ih (2*k) (by omega)) ?_
 refine za rfl rfl ?_
 refine ze (ih (2*k+1) (by omega)) ?_
 refine ze (zd8 (putB s h (2*k)) (putB s h (2*k+1)) (by omega) (by omega)) ?_
 refine ze (zd8 ([1]++zaq sp.node) (putB s h (2*k)++putB s h (2*k+1)) (by simp;omega) (by simp;omega)) ?_
 exact cr
theorem zckb(s:Lean_)(hs:s.brief): ∀(h k:Nat),h<=16->k<2^(16-h)->zaf Tryz.prog 79 [.ag s.c,I (nd h k)] (.r (bs (putB s h k)))
 |0,k,_,hk=>by
  cases hx:zae s.opn (nd 0 k)with
  |none=>
   have e:putB s 0 k=[0]++zbe s.shut (nd 0 k):=by simp[putB,hx]
   rw[e];exact zuu s hs _ hx
  |some n=>
   have e:putB s 0 k=[1]++zaq n:=by simp[putB,hx]
   rw[e];exact z5y s hs k (by simpa using hk) n hx
 |h+1,k,hh,hk=>by
  cases hx:zae s.opn (nd (h+1) k)with
  |none=>
   have e:putB s (h+1) k=[0]++zbe s.shut (nd (h+1) k):=by simp[putB,hx]
   rw[e];exact zuu s hs _ hx
  |some n=>
   have e:putB s (h+1) k=[1]++zaq n++(putB s h (2*k)++putB s h (2*k+1)):=by simp[putB,hx]
   rw[e];exact zalb s hs h hh (λk hk=>zckb s hs h k (by omega) hk) k hk n hx
def zid(mark:UInt8)(s:Lean_)(d:Nat):List UInt8:=[mark]++(beB 4 s.leaves.toNat++beB 4 s.own.toNat)++putB s d 0
theorem z9o(s:Lean_)(hs:s.brief){d o:Nat}(hd:d<=16)(ho:o<2^d)(hn:s.leaves=((2^d:Nat):Int))(he:s.own=(o:Int)):zaf Tryz.prog 38 [.ag s.c, .i .u8 1] (.r (bs (zid 1 s d))):=by
 refine zac (T:=Tab) mixed Tab_ok Tryz.func38 rfl (by kernel_rfl) ?_
 have hb:=zc4 (zdd d hd)
 have h16:=zhr hd
 have hl:=zqa hs hd 0
 have e1:s.leaves.toNat=2^d:=by omega
 have e2:s.own.toNat=o:=by omega
 refine Vdraw.mk' (by kernel_rfl) ?_
 refine zx ?_
 refine⟨((2^d:Nat):Int),by rw[hn,zhq (by omega)],?_⟩
 refine ze (zk0 4 (2^d) (by omega) (by omega)) ?_
 refine⟨((o:Nat):Int),by rw[he,zhq (by omega)],?_⟩
 refine ze (zk0 4 o (by omega) (by omega)) ?_
 refine ze (zd8 (beB 4 (2^d)) (beB 4 o) (by simp[zaw]) (by simp[zaw])) ?_
 refine ze (zd8 [1] (beB 4 (2^d)++beB 4 o) (by simp) (by simp[zaw])) ?_
 refine za rfl rfl ?_
 refine zd (m:=((nd d 0:Nat):Int)) (by rw[zg0,hn]) (by omega) ?_
 refine ze (zckb s hs d 0 hd (zag _)) ?_
 refine ze (zd8 ([1]++(beB 4 (2^d)++beB 4 o)) (putB s d 0) (by simp[zaw]) (by omega)) ?_
 exact zf (by unfold zid;rw[e1,e2];rfl)
end
section
def txtR(s:Lean_):Nat->Nat->List UInt8
 |0,k=>match zae s.opn (nd 0 k)with
  |some n=>[1]++beB 4 k++zaq n
  |none=>[]
 |h+1,k=>match zae s.opn (nd (h+1) k)with
  |some n=>[2]++zaq n++(vecB (zar s h (2*k))++vecB (zar s h (2*k+1)))
  |none=>[]
def txtI(s:Lean_)(x:Int):List UInt8:=txtR s (lv x.toNat) (x.toNat/2^(lv x.toNat+1))
theorem zv4(s:Lean_){h k:Nat}(hh:h<=16)(hk:k<2^(16-h)):txtI s (nd h k)=txtR s h k:=by
 obtain⟨e1,e2⟩:=zi7 hh hk
 unfold txtI
 rw[e2,e1]
theorem z8w(s:Lean_){h k:Nat}{n:Node}(hx:zae s.opn (nd h k)=some n):zar s h k=shaB (txtR s h k):=by
 cases h with
 |zero=>simp[zar,txtR,hx]
 |succ h=>simp[zar,txtR,hx]
theorem zd0b(s:Lean_)(hs:s.fitN)(h k:Nat):(txtR s h k).length<=100000000000:=by
 have hn: ∀x n,zae s.opn x=some n->(zaq n).length<=10000000000:=λx n hx=>by
  obtain⟨sp,hsp,_,rfl⟩:=za7 hx
  exact zds sp.node (hs.2.2.1 sp hsp)
 cases h with
 |zero=>
  unfold txtR
  cases hf:zae s.opn (nd 0 k)with
  |some n=>have:=hn _ n hf;simp only[hf,List.length_append,List.length_cons,List.length_nil,zaw];omega
  |none=>simp[hf]
 |succ h=>
  unfold txtR
  cases hf:zae s.opn (nd (h+1) k)with
  |some n=>
   have:=hn _ n hf
   have l1:=zfs s hs h (2*k)
   have l2:=zfs s hs h (2*k+1)
   have v1:=zat (zar s h (2*k))
   have v2:=zat (zar s h (2*k+1))
   simp only[hf,List.length_append,List.length_cons,List.length_nil]
   omega
  |none=>simp[hf]
theorem zdgb(s:Lean_)(hs:s.fitN)(hr: ∀x∈s.opn,x.node.right=true){h k:Nat}(hh:h<=16)(hk:k<2^(16-h)){n:Node}(hx:zae s.opn (nd h k)=some n):zaf Tryz.prog 82 [.ag s.c,I (nd h k)] (.r (bs (txtR s h k))):=by
 cases h with
 |zero=>
  have e:txtR s 0 k=[1]++beB 4 k++zaq n:=by simp[txtR,hx]
  rw[e]
  exact zo5 s hs hr k (by simpa using hk) n hx
 |succ h=>
  have e:txtR s (h+1) k=[2]++zaq n++(vecB (zar s h (2*k))++vecB (zar s h (2*k+1))):=by simp[txtR,hx]
  rw[e]
  exact zru s hs hr h hh (λk hk=>z5z zok s hs hr h k (by omega) hk) k hk n hx
theorem z96(s:Lean_)(hs:s.fitN)(hr: ∀x∈s.opn,x.node.right=true)(hn: ∀x∈s.opn,za1 x.at_=true):zaf Tryz.prog 41 [.ag s.c] (.r (bss (s.opn.map λx=>txtI s x.at_))):=by
 refine zac (T:=Tab) mixed Tab_ok Tryz.func41 rfl (by kernel_rfl) ?_
 obtain⟨hs1,hs2,hs3,hs4⟩:=id hs
 refine zy (λi:Nat=>{F:=[(1, .own 0),(3, .own 1),(4, .r (I i))],O:=[(0,some (.box (s.c.map .r))),(1,some (.ch 28 1 ((s.opn.take i).map λx=>txtI s x.at_).length (((s.opn.take i).map λx=>txtI s x.at_).map bs) true))],nx:=2})
  (λi=>i<=s.opn.length) (λi=>s.opn.length-i) 0 (by omega)
  ((zew 3 28 1 rfl).trans (zad [(0,0),(1,1)] rfl ⟨rfl,rfl,cr,trivial⟩ ⟨zab _,⟨rfl,rfl,rfl,rfl,zn _⟩,trivial⟩)) ?_
 intro i hi
 refine zh (λh1=>zq ?_) (λh1=>zt ?_)
 ·simp only[zb]at h1
  have hi':i<s.opn.length:=by omega
  have hmem:=List.getElem_mem hi'
  obtain⟨h,k,hh,hk,e,_⟩:=zfm (hn _ hmem)
  obtain⟨m,hm⟩:=Option.isSome_iff_exists.1 (zc9.2 (List.mem_map_of_mem (f:=(·.at_)) hmem))
  rw[e]at hm
  have gt:=zdgb s hs hr hh hk hm
  rw[<-zv4 s hh hk,<-e]at gt
  refine Vdraw.mk' (by kernel_rfl) ?_
  refine za rfl rfl ?_
  refine zm (by omega) (by omega) (zfa rfl hi') (zg rfl ?_)
  refine ze gt ?_
  refine zx ?_
  refine Vapp.mk' (j:=((s.opn.take (i+1)).map λx=>txtI s x.at_).length) (zs:=((s.opn.take (i+1)).map λx=>txtI s x.at_).map bs) (by simp[maxLen];omega) (by simp;omega) (by simp;omega) (by rw[List.take_add_one,List.getElem?_eq_getElem hi',List.map_append,List.map_append];rfl) ?_
  refine zd (m:=((i+1:Nat):Int)) (by omega) (by omega) ?_
  exact⟨i+1,hi',by omega,zad [(0,0),(1,_)] rfl ⟨rfl,rfl,cr,trivial⟩ ⟨zab _,⟨rfl,rfl,rfl,rfl,zn _⟩,trivial⟩⟩
 simp only[zb]at h1
 rw[List.take_of_length_le (by omega)]
 exact cr
def zfi(t:List Node):Nat->Nat->List UInt8
 |0,k=>[1]++beB 4 k++zaq (nT t (nd 0 k))
 |h+1,k=>[2]++zaq (nT t (nd (h+1) k))++(vecB (zbc t h (2*k))++vecB (zbc t h (2*k+1)))
theorem z58(t:List Node)(h k:Nat):zbc t h k=shaB (zfi t h k):=by cases h<;>rfl
def txtT(t:List Node)(j:Nat):List UInt8:=zfi t (lv j) (j/2^(lv j+1))
theorem zbcb(t:List Node)(hfit: ∀x∈t,x.fit){h k:Nat}(hx:nd h k<t.length):(zfi t h k).length<=100000000000:=by
 have hle:=zds _ (hfit _ (zfl hx))
 cases h with
 |zero=>unfold zfi;simp[zaw];omega
 |succ h=>
  have l1:=zet t h (2*k)
  have l2:=zet t h (2*k+1)
  have v1:=zat (zbc t h (2*k))
  have v2:=zat (zbc t h (2*k+1))
  unfold zfi
  simp only[List.length_append,List.length_cons,List.length_nil]
  omega
theorem zfab{d h k:Nat}(hh:h<=d)(hd:d<=16)(hx:nd h k+1<2^(d+1)):(k+1)*2^(h+1)<=2^(d+1):=by
 have e:2^(d+1)=2^(d-h)*2^(h+1):=by rw[<-Nat.pow_add];congr 1;omega
 have hin:=za9 h k
 unfold inR at hin
 have h1:k*2^(h+1)<2^(d-h)*2^(h+1):=by rw[<-e];omega
 have h2:=Nat.lt_of_mul_lt_mul_right h1
 rw[e]
 exact Nat.mul_le_mul_right _ h2
theorem z8j(t:List Node)(hfit: ∀x∈t,x.fit)(hr: ∀x∈t,x.right=true)(d:Nat)(hd:d<=16)(hl:t.length+1=2^(d+1)):zaf Tryz.prog 40 [nods t] (.r (bss ((List.range t.length).map (txtT t)))):=by
 refine zac (T:=Tab) mixed Tab_ok Tryz.func40 rfl (by kernel_rfl) ?_
 have hp:2^(d+1)<=131072:=Nat.pow_le_pow_right (n:=2) (by omega) (show d+1<=17 by omega)
 refine zy (λi:Nat=>{F:=[(0, .r (nods t)),(3, .own 0),(4, .r (I i))],O:=[(0,some (.ch 28 1 ((List.range i).map (txtT t)).length (((List.range i).map (txtT t)).map bs) true))],nx:=1})
  (λi=>i<=t.length) (λi=>t.length-i) 0 (by omega)
  ((zew 3 28 1 rfl).trans (zad [(0,0)] rfl ⟨cr,rfl,cr,trivial⟩ ⟨⟨rfl,rfl,rfl,rfl,zn _⟩,trivial⟩)) ?_
 intro i hi
 refine zh (λh1=>zq ?_) (λh1=>zt ?_)
 ·simp only[zb]at h1
  have hi':i<t.length:=by omega
  have hni:za1 (i:Int)=true:=by rw[zdl];omega
  obtain⟨h,k,hh,hk,e,_⟩:=zfm hni
  have ei:i=nd h k:=Int.ofNat.inj e
  have hhd:h<=d:=by
   rcases Nat.lt_or_ge d h with hlt |hge
   ·exfalso
    have hin:=za9 h k
    unfold inR at hin
    have h2:2^(d+1)<=2^h:=Nat.pow_le_pow_right (by omega) hlt
    have h3:2^h<=nd h k+1:=by unfold nd;omega
    omega
   ·exact hge
  have htop:=zfab hhd hd (show nd h k+1<2^(d+1)by omega)
  have hlt:nd h k<t.length:=by omega
  obtain⟨e1,e2⟩:=zi7 hh hk
  have et:txtT t i=zfi t h k:=by
   unfold txtT
   rw[ei]
   simp only[Int.toNat_natCast]at e1 e2
   rw[e2,e1]
  have gt:zaf Tryz.prog 81 [nods t,I (nd h k),is []] (.r (bs (zfi t h k))):=by
   cases h with
   |zero=>exact zpc t hfit hr k (by simpa using hk) hlt
   |succ h=>exact zrw t hfit hr h hh (λk hk _ hx=>zzl t hfit hr h k (by omega) hk hx) k hk (by omega)
  rw[<-et,<-ei]at gt
  refine Vcall.mk' gt (zk (cr) (zk (cr) (zk (Cv.nil 1) Cvs.nil))) ?_
  refine zx ?_
  refine Vapp.mk' (j:=((List.range (i+1)).map (txtT t)).length) (zs:=((List.range (i+1)).map (txtT t)).map bs) (by simp[maxLen];omega) (by simp;omega) (by simp) (by rw[List.range_succ,List.map_append,List.map_append];rfl) ?_
  refine zd (m:=((i+1:Nat):Int)) (by omega) (by omega) ?_
  exact⟨i+1,hi',by omega,zad [(0,_)] rfl ⟨cr,rfl,cr,trivial⟩ ⟨⟨rfl,rfl,rfl,rfl,zn _⟩,trivial⟩⟩
 simp only[zb]at h1
 have:i=t.length:=by omega
 subst this
 exact cr
end
section
def hitB(x y:List UInt8):Bool:= !decide (x=y)&&decide (shaB x=shaB y)
def z5p(a b:List (List UInt8)):Bool:=a.any λx=>b.any λy=>hitB x y
theorem zzt{α:Type}{p:α->Bool}{l:List α}(h: ∀x∈l,p x=false):l.any p=false:=by
 rw[List.any_eq_false]
 intro x hx
 rw[h x hx];simp
theorem zrg{α:Type}{p:α->Bool}{l:List α}{x:α}(hx:x∈l)(h:p x=true):l.any p=true:=List.any_eq_true.2 ⟨x,hx,h⟩
set_option maxHeartbeats 1000000 in
theorem z8g(a b:List (List UInt8))(ha:a.length<=1000000)(hb:b.length<=1000000)(ha1: ∀x∈a,x.length<=100000000000)(hb1: ∀x∈b,x.length<=100000000000):zaf Tryz.prog 39 [bss a,bss b] (.r (.b (z5p a b))):=by
 refine zac (T:=Tab) mixed Tab_ok Tryz.func39 rfl (by kernel_rfl) ?_
 refine zy (λi:Nat=>{F:=[(0, .r (bss a)),(1, .r (bss b)),(5, .r (I i))],O:=[],nx:=0})
  (λi=>i<=a.length/\∀x∈a.take i,(b.any λy=>hitB x y)=false) (λi=>a.length-i) 0 ⟨by omega,by simp⟩
  (zad [] rfl ⟨cr,cr,cr,trivial⟩ trivial) ?_
 rintro i ⟨hi,hno⟩
 refine zh (λh1=>zq ?_) (λh1=>zt ?_)
 ·simp only[zb,bss]at h1
  have hi':i<a.length:=by omega
  obtain⟨x,hx⟩: ∃x,x=a[i]:=⟨_,rfl⟩
  have hxm:x∈a:=hx▸List.getElem_mem hi'
  refine zm (by omega) (by omega) (zai (f:=bs) rfl hi') (zg rfl ?_)
  rw[<-hx]
  refine ze (zok x (ha1 x hxm)) ?_
  refine zy (λk:Nat=>{F:=[(0, .r (bss a)),(1, .r (bss b)),(5, .r (I i)),(6, .r (bs (shaB x))),(7, .r (I k))],O:=[],nx:=0})
   (λk=>k<=b.length/\∀y∈b.take k,hitB x y=false) (λk=>b.length-k) 0 ⟨by omega,by simp⟩
   (zad [] rfl ⟨cr,cr,cr,cr,cr,trivial⟩ trivial) ?_
  rintro k ⟨hk,hnk⟩
  refine zh (λh2=>zq ?_) (λh2=>zt ?_)
  ·simp only[zb,bss]at h2
   have hk':k<b.length:=by omega
   obtain⟨y,hy⟩: ∃y,y=b[k]:=⟨_,rfl⟩
   have hym:y∈b:=hy▸List.getElem_mem hk'
   refine Vdraw.mk' (by kernel_rfl) ?_
   refine zm (by omega) (by omega) (zai (f:=bs) rfl hi') (zg rfl ?_)
   refine zm (by omega) (by omega) (zai (f:=bs) rfl hk') (zg rfl ?_)
   rw[<-hx,<-hy]
   have next:hitB x y=false->∀z∈b.take (k+1),hitB x z=false:=λh=>zdq (p:=λz=>hitB x z=false) hk' hnk (by rw[<-hy];exact h)
   refine Vcall.bool (zho x y) (λh3=>zw rfl ?_) (λh3=>zu rfl ?_)
   ·simp only[zb]at h3
    refine zt ?_
    refine zd (m:=((k+1:Nat):Int)) (by omega) (by omega) ?_
    exact⟨k+1,⟨hk',next (by simp[hitB,h3])⟩,by omega,zad [] rfl ⟨cr,cr,cr,cr,cr,trivial⟩ trivial⟩
   ·simp only[zb]at h3
    refine zm (by omega) (by omega) (zai (f:=bs) rfl hk') (zg rfl ?_)
    rw[<-hy]
    refine ze (zok y (hb1 y hym)) ?_
    refine Vcall.bool (zho (shaB x) (shaB y)) (λh4=>zq ?_) (λh4=>zt ?_)
    ·simp only[zb]at h4
     refine zf (congrArg RV.b (Eq.symm ?_))
     exact zrg hxm (zrg hym (by simp[hitB,h3,h4]))
    ·simp only[zb]at h4
     refine zd (m:=((k+1:Nat):Int)) (by omega) (by omega) ?_
     exact⟨k+1,⟨hk',next (by simp[hitB,h4])⟩,by omega,zad [] rfl ⟨cr,cr,cr,cr,cr,trivial⟩ trivial⟩
  ·simp only[zb,bss]at h2
   rw[List.take_of_length_le (by omega)]at hnk
   have hn:(b.any λy=>hitB x y)=false:=zzt hnk
   refine zd (m:=((i+1:Nat):Int)) (by omega) (by omega) ?_
   exact⟨i+1,⟨hi',zdq (p:=λx=>(b.any λy=>hitB x y)=false) hi' hno (by rw[<-hx];exact hn)⟩,by omega,zad [] rfl ⟨cr,cr,cr,trivial⟩ trivial⟩
 simp only[zb,bss]at h1
 rw[List.take_of_length_le (by omega)]at hno
 exact zf (congrArg RV.b (Eq.symm (zzt hno)))
end
end Go.Proofs.YtpdllgbfemnemaaGreat.Sx
