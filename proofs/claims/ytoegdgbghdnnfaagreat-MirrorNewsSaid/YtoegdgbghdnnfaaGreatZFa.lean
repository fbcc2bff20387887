import Derived.RangeFuncNested
import Derived.RangeFuncBound
import Derived.RangeFuncCalls
import Derived.RangeFuncLeaves
import Derived.Shelf.Abstract
import Derived.Shelf.RegionOpen
import Derived.WalkKit
import Derived.OwnWalkIn
import Derived.TacticsInMore
import Derived.LoopNIn
import Derived.LoopIn
import Derived.StillTactics
import Derived.Test.YtoegdgbghdnnfaaGreatProg
namespace Go.Proofs.YtoegdgbghdnnfaaGreat
open Go.RowKit Go.Shelf
attribute [local go_sem] Oper.semAt_some
theorem zh5b:Tryz.prog.follows .mixedOrders=true:=by kernel_rfl
def upto{α:Type}(f:Nat->α)(k:Nat):List α:=(List.range k).map f
theorem z85{α:Type}(f:Nat->α)(k:Nat):upto f (k+1)=upto f k++[f k]:=by simp[upto,List.range_succ]
theorem zqe{α:Type}(f:Nat->α)(k:Nat):(upto f k).length=k:=by simp[upto]
def zg5(b off m:Nat)(j:Nat):Value:= .slice (some ⟨b,off+m*j,none⟩) m m
set_option maxRecDepth 100000 in
set_option maxHeartbeats 4000000 in
theorem z5p(n:Nat)(hn:1<=n)(l Bs Bn oS oN b off m K L cap:Nat)(hm:0<m)(hL:m*K=L)(hlen:L<=cap)(hbig:L<=1000000000000)(Kp:World->World->Prop)
  (hKp: ∀A B,Kp A B->B.cell? ⟨Bs,oS,none⟩=A.cell? ⟨Bs,oS,none⟩/\B.cell? ⟨Bn,oN,none⟩=A.cell? ⟨Bn,oN,none⟩) (J Jx:List Nat->World->Prop)
  (hJd: ∀pre W,J pre W->J pre W.drew)
  (hY: ∀pre k W,pre.length=k->J pre W->k<K->YieldAt Fence.wide (n-1) Tryz.prog l #[zg5 b off m k] W λe W'=>
   (e= .returned (.bool true)/\J (pre++[k]) W'/\Kp W W')\/(e= .returned (.bool false)/\Jx (pre++[k]) W'))
  (W:World) (hBs:W.cell? ⟨Bs,oS,none⟩=some (.slice (some ⟨b,off,none⟩) L cap)) (hBn:W.cell? ⟨Bn,oN,none⟩=some (.int .i64 m)) (h0:J [] W):
  CallsIn Fence.wide n Tryz.prog 360 #[.func (.yield l) #[] #[], .pointer (some ⟨Bs,oS,none⟩), .pointer (some ⟨Bn,oN,none⟩)] W λe W'=>(∃v,e= .returned v)/\
   ((∃ys,ys=upto (λj=>j) K/\J ys W')\/(∃pre:List Nat,pre.length<=K/\Jx pre W')):=by
 refine callsIn_of_wp Tryz.func360 rfl trivial ?_ rfl
 simp only[Tryz.ntmps360,List.size_toArray,List.length_cons,List.length_nil,Nat.reduceAdd,Nat.reduceSub,Array.replicate_succ,Array.replicate_zero,List.push_toArray,List.append_toArray,List.nil_append,List.cons_append]
 gi_wp2
 gi_loopw [4] (λi wr=>∃k ik:Nat,k<=K/\m*k=ik/\i= .int .i64 ik/\J (upto (λj=>j) k) wr/\wr.cell? ⟨Bs,oS,none⟩=some (.slice (some ⟨b,off,none⟩) L cap)/\wr.cell? ⟨Bn,oN,none⟩=some (.int .i64 m))
  (λi _=>L-(intOf i).toNat)
 case atStart=>exact⟨0,0,Nat.zero_le _,rfl,rfl,h0,hBs,hBn⟩
 case round=>
  obtain⟨k,ik,hk,hik,rfl,hJs,hBs',hBn'⟩:=hrel
  by_cases hlt:k<K
  ·have hlt':ik+m<=L:=by
    rw[<-hL,<-hik,<-Nat.mul_succ]
    exact Nat.mul_le_mul_left _ hlt
   have hlti:ik<L:=by omega
   gi_wp2
   refine wpIn_wide.2 ?_
   refine wp_region_still_lit zh5b (by kernel_rfl) ?_
   have hi1:(ik:Int)<=(L:Int):=by omega
   have hi2: ¬cap=ik:=by omega
   have hi3: ¬((L-ik:Nat):Int)< (m:Int):=by omega
   have hi4:(IntKind.i64.wrap ((ik:Int)+(m:Int)))=((ik+m:Nat):Int):=by rw[IntKind.wrap_i64];omega
   have hi5:ik+m<=cap:=by omega
   have hJ2:=hJd _ _ hJs
   obtain⟨fn,tmps,assign,body,hy,hR⟩:=hY _ k _ (zqe _ k) hJ2 hlt
   simp only[zg5,hik]at hy
   repeat still_step
   refine wpStill_nil ?_
   gi_wp2
   refine hR.mono ?_
   rintro e W3 (⟨rfl,hJ3,hk3⟩ |⟨rfl,hJx3⟩)
   ·obtain⟨c1,c2⟩:=hKp _ _ hk3
    have hBs3:W3.cell? ⟨Bs,oS,none⟩=some (.slice (some ⟨b,off,none⟩) L cap):=c1.trans hBs'
    have hBn3:W3.cell? ⟨Bn,oN,none⟩=some (.int .i64 m):=c2.trans hBn'
    gi_wp2
    go_roundw
    case rel=>exact⟨k+1,ik+m,by omega,by rw[Nat.mul_succ,hik],by simp,by rw[z85];exact hJ3,hBs3,hBn3⟩
    case measure=>simp[intOf];omega
   ·gi_wp2
    refine bodyPost_ret (results_none rfl _ _ _) rfl ?_
    exact⟨⟨_,rfl⟩, .inr ⟨_,by rw[List.length_append,zqe];simp;omega,hJx3⟩⟩
  ·obtain rfl:k=K:=by omega
   have hlti: ¬ik<L:=by omega
   gi_wp2
   go_end0
   exact⟨⟨_,rfl⟩, .inl ⟨_,rfl,hJs⟩⟩
end Go.Proofs.YtoegdgbghdnnfaaGreat
