import Derived.Test.YtpdllgbfemnemaaGreatZKs
namespace Go.Proofs.YtpdllgbfemnemaaGreat.Sx
open Go.RowKit
def zbbb:Prop:=∀l:List UInt8,l.length<=100000000000->zaf Tryz.prog 80 [bs l] (bch (shaB l))
def zar(s:Lean_):Nat->Nat->List UInt8
 |0,k=>match zae s.opn (nd 0 k)with
  |some n=>shaB ([1]++beB 4 k++zaq n)
  |none=>zbe s.shut (nd 0 k)
 |h+1,k=>match zae s.opn (nd (h+1) k)with
  |some n=>shaB ([2]++zaq n++(vecB (zar s h (2*k))++vecB (zar s h (2*k+1))))
  |none=>zbe s.shut (nd (h+1) k)
theorem zx8(s:Lean_)(hs:s.fitN)(x:Int):(zbe s.shut x).length<=1000000000:=by
 cases h:zcc s.shut x with
 |none=>rw[zkt h];simp
 |some m=>
  obtain⟨e,sp,hsp,_,rfl⟩:=zc0 h
  rw[e]
  exact hs.2.2.2 sp hsp
theorem zfs(s:Lean_)(hs:s.fitN): ∀h k,(zar s h k).length<=1000000000
 |0,k=>by
  unfold zar
  split
  ·rw[zff];omega
  ·exact zx8 s hs _
 |h+1,k=>by
  unfold zar
  split
  ·rw[zff];omega
  ·exact zx8 s hs _
theorem zo5(s:Lean_)(hs:s.fitN)(hr: ∀x∈s.opn,x.node.right=true)(k:Nat)(hk:k<65536)(n:Node)(hn:zae s.opn (nd 0 k)=some n):zaf Tryz.prog 82 [.ag s.c,I (nd 0 k)] (.r (bs ([1]++beB 4 k++zaq n))):=by
 refine zac (T:=Tab) mixed Tab_ok Tryz.func82 rfl (by kernel_rfl) ?_
 obtain⟨hs1,hs2,hs3,hs4⟩:=id hs
 obtain⟨sp,hsp,_,rfl⟩:=za7 hn
 have hfit:=hs3 sp hsp
 have hle:=zds sp.node hfit
 have hfind:=ze5 s.opn (nd 0 k) (by omega)
 rw[hn]at hfind
 refine ze hfind ?_
 refine⟨by decide,_,rfl,?_⟩
 refine zu (by rw[zck];rfl) (zq ?_)
 refine Vdraw.mk' (by kernel_rfl) ?_
 refine zx ?_
 refine⟨by decide,(k:Int),?_,?_⟩
 ·rw[zd1,Int.tdiv_eq_ediv_of_nonneg (by omega),show(((2*k:Nat):Int))/2=k by omega]
  exact wrap_i64 (by omega)
 refine⟨((k:Nat):Int),by have:=zge (k:Int) (by omega);rw[this];simp,?_⟩
 refine ze (zk0 4 k (by omega) (by omega)) ?_
 refine ze (zd8 [1] (beB 4 k) (by simp) (by simp[zaw])) ?_
 refine za rfl rfl ?_
 refine ze (zh4 sp.node hfit (λ_=>Node.right_late (hr sp hsp))) ?_
 refine ze (zd8 ([1]++beB 4 k) (zaq sp.node) (by simp[zaw]) (by omega)) ?_
 exact cr
theorem zru(s:Lean_)(hs:s.fitN)(hr: ∀x∈s.opn,x.node.right=true)(h:Nat)(hh:h+1<=16)(ih: ∀k,k<2^(16-h)->zaf Tryz.prog 61 [.ag s.c,I (nd h k)] (.r (bs (zar s h k))))
  (k:Nat) (hk:k<2^(16-(h+1))) (n:Node) (hn:zae s.opn (nd (h+1) k)=some n):zaf Tryz.prog 82 [.ag s.c,I (nd (h+1) k)] (.r (bs ([2]++zaq n++(vecB (zar s h (2*k))++vecB (zar s h (2*k+1)))))):=by
 refine zac (T:=Tab) mixed Tab_ok Tryz.func82 rfl (by kernel_rfl) ?_
 have hleft:=zdk (d:=16) (by omega) (show h+1<=16 by omega) hk
 have hright:=zc7 (d:=16) (by omega) (show h+1<=16 by omega) hk
 have hk2:2^(16-h)=2*2^(16-(h+1)):=by rw[show 16-h=(16-(h+1))+1 by omega,Nat.pow_succ];omega
 obtain⟨hs1,hs2,hs3,hs4⟩:=id hs
 obtain⟨sp,hsp,_,rfl⟩:=za7 hn
 have hfit:=hs3 sp hsp
 have hle:=zds sp.node hfit
 have l1:=zfs s hs h (2*k)
 have l2:=zfs s hs h (2*k+1)
 have v1:=zat (zar s h (2*k))
 have v2:=zat (zar s h (2*k+1))
 have hfind:=ze5 s.opn (nd (h+1) k) (by omega)
 rw[hn]at hfind
 refine ze hfind ?_
 refine⟨by decide,_,rfl,?_⟩
 refine zw (by rw[zc5];rfl) (zt ?_)
 refine ze (zgq _) ?_
 rw[hleft,hright]
 refine Vdraw.mk' (by kernel_rfl) ?_
 refine zx ?_
 refine za rfl rfl ?_
 refine ze (zh4 sp.node hfit (λ_=>Node.right_late (hr sp hsp))) ?_
 refine ze (zd8 [2] (zaq sp.node) (by simp) (by omega)) ?_
 refine za rfl rfl ?_
 refine ze (ih (2*k) (by omega)) ?_
 refine ze (zec _ (by omega)) ?_
 refine za rfl rfl ?_
 refine ze (ih (2*k+1) (by omega)) ?_
 refine ze (zec _ (by omega)) ?_
 refine ze (zd8 _ _ (by omega) (by omega)) ?_
 refine ze (zd8 ([2]++zaq sp.node) _ (by simp;omega) (by simp;omega)) ?_
 exact cr
theorem z5z(hD:zbbb)(s:Lean_)(hs:s.fitN)(hr: ∀x∈s.opn,x.node.right=true): ∀(h k:Nat),h<=16->k<2^(16-h)->zaf Tryz.prog 61 [.ag s.c,I (nd h k)] (.r (bs (zar s h k))):=by
 obtain⟨hs1,hs2,hs3,hs4⟩:=id hs
 have none_case: ∀(x:Int),zae s.opn x=none->zaf Tryz.prog 61 [.ag s.c,I x] (.r (bs (zbe s.shut x))):=λx hx=>by
  refine zac (T:=Tab) mixed Tab_ok Tryz.func61 rfl (by kernel_rfl) ?_
  have hfind:=ze5 s.opn x (by omega)
  rw[hx]at hfind
  refine ze hfind ?_
  refine zu rfl (zq ?_)
  refine za rfl rfl ?_
  refine ze (z05 s x (by omega)) ?_
  exact cr
 have some_case: ∀(x:Int) (n:Node) (t:List UInt8),zae s.opn x=some n->t.length<=100000000000->zaf Tryz.prog 82 [.ag s.c,I x] (.r (bs t))->zaf Tryz.prog 61 [.ag s.c,I x] (.r (bs (shaB t))):=λx n t hx ht hg=>by
  refine zac (T:=Tab) mixed Tab_ok Tryz.func61 rfl (by kernel_rfl) ?_
  have hfind:=ze5 s.opn x (by omega)
  rw[hx]at hfind
  refine ze hfind ?_
  refine zw rfl (zt ?_)
  refine za rfl rfl ?_
  refine ze hg ?_
  refine ze (hD t ht) ?_
  exact cr
 intro h
 induction h with
 |zero=>
  intro k _ hk
  cases hy:zae s.opn (nd 0 k)with
  |none=>
   have e:zar s 0 k=zbe s.shut (nd 0 k):=by simp[zar,hy]
   rw[e];exact none_case _ hy
  |some n=>
   have e:zar s 0 k=shaB ([1]++beB 4 k++zaq n):=by simp[zar,hy]
   rw[e]
   obtain⟨sp,hsp,_,e2⟩:=za7 hy
   have:=zds n (e2▸hs3 sp hsp)
   exact some_case _ n _ hy (by simp[zaw];omega) (zo5 s hs hr k (by simpa using hk) n hy)
 |succ h ih=>
  intro k hh hk
  cases hy:zae s.opn (nd (h+1) k)with
  |none=>
   have e:zar s (h+1) k=zbe s.shut (nd (h+1) k):=by simp[zar,hy]
   rw[e];exact none_case _ hy
  |some n=>
   have e:zar s (h+1) k=shaB ([2]++zaq n++(vecB (zar s h (2*k))++vecB (zar s h (2*k+1)))):=by simp[zar,hy]
   rw[e]
   obtain⟨sp,hsp,_,e2⟩:=za7 hy
   have:=zds n (e2▸hs3 sp hsp)
   have v1:=zat (zar s h (2*k))
   have v2:=zat (zar s h (2*k+1))
   have l1:=zfs s hs h (2*k)
   have l2:=zfs s hs h (2*k+1)
   exact some_case _ n _ hy (by simp;omega) (zru s hs hr h hh (λk hk=>ih k (by omega) hk) k hk n hy)
end Go.Proofs.YtpdllgbfemnemaaGreat.Sx
