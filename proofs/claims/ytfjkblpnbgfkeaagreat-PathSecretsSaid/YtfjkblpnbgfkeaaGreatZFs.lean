import Derived.Test.YtfjkblpnbgfkeaaGreatZFp
import Derived.Test.YtfjkblpnbgfkeaaGreatZEs
import Derived.ChangeKeysEq
namespace Go.Proofs.YtfjkblpnbgfkeaaGreat.Sx
open Go.RowKit
section
structure Pt where
 x:Fe
 y:Fe
 z:Fe
 t:Fe
abbrev Pt.v(p:Pt):List RV:=[W p.x.a,W p.x.b,W p.x.c,W p.x.d,W p.x.e,W p.y.a,W p.y.b,W p.y.c,W p.y.d,W p.y.e,W p.z.a,W p.z.b,W p.z.c,W p.z.d,W p.z.e,W p.t.a,W p.t.b,W p.t.c,W p.t.d,W p.t.e, .b true]
abbrev Pt.bx(p:Pt):Ow:= .box [.r (W p.x.a), .r (W p.x.b), .r (W p.x.c), .r (W p.x.d), .r (W p.x.e), .r (W p.y.a), .r (W p.y.b), .r (W p.y.c), .r (W p.y.d), .r (W p.y.e), .r (W p.z.a), .r (W p.z.b), .r (W p.z.c), .r (W p.z.d), .r (W p.z.e), .r (W p.t.a), .r (W p.t.b), .r (W p.t.c), .r (W p.t.d), .r (W p.t.e), .r (.b true)]
def Pt.sum(p q:Pt)(dd:Fe):Pt:=
 let a:=(p.y.sub p.x).mul (q.y.sub q.x)
 let b:=(p.y.add p.x).mul (q.y.add q.x)
 let c:=(p.t.mul dd).mul q.t
 let e:=(p.z.add p.z).mul q.z
 let f:=b.sub a
 let g:=e.sub c
 let h:=e.add c
 let i:=b.add a
 ⟨f.mul g,h.mul i,g.mul h,f.mul i⟩
set_option maxHeartbeats 4000000 in
theorem z4a(p q:Pt)(dd:Fe):zab Tryz.prog 223 [.ag p.v, .ag q.v, .ag dd.v] (.r (.ag (p.sum q dd).v)):=by
 refine zaa (T:=Tab) mixed Tab_ok Tryz.func223 rfl (by kernel_rfl) ?_
 repeat' ((conv=>whnf);first |refine za rfl rfl ?_ |refine Vdraw.mk' (by kernel_rfl) ?_)
 refine ze (zhj (p.y) (p.x)) ?_
 repeat' ((conv=>whnf);first |refine za rfl rfl ?_ |refine Vdraw.mk' (by kernel_rfl) ?_)
 refine ze (zhj (q.y) (q.x)) ?_
 repeat' ((conv=>whnf);first |refine za rfl rfl ?_ |refine Vdraw.mk' (by kernel_rfl) ?_)
 refine ze (zb1 (p.y.sub p.x) (q.y.sub q.x)) ?_
 generalize hA:(p.y.sub p.x).mul (q.y.sub q.x)=A
 repeat' ((conv=>whnf);first |refine za rfl rfl ?_ |refine Vdraw.mk' (by kernel_rfl) ?_)
 refine ze (zgm (p.y) (p.x)) ?_
 repeat' ((conv=>whnf);first |refine za rfl rfl ?_ |refine Vdraw.mk' (by kernel_rfl) ?_)
 refine ze (zgm (q.y) (q.x)) ?_
 repeat' ((conv=>whnf);first |refine za rfl rfl ?_ |refine Vdraw.mk' (by kernel_rfl) ?_)
 refine ze (zb1 (p.y.add p.x) (q.y.add q.x)) ?_
 generalize hB:(p.y.add p.x).mul (q.y.add q.x)=B
 repeat' ((conv=>whnf);first |refine za rfl rfl ?_ |refine Vdraw.mk' (by kernel_rfl) ?_)
 refine ze (zb1 (p.t) (dd)) ?_
 repeat' ((conv=>whnf);first |refine za rfl rfl ?_ |refine Vdraw.mk' (by kernel_rfl) ?_)
 refine ze (zb1 (p.t.mul dd) (q.t)) ?_
 generalize hC:(p.t.mul dd).mul q.t=C
 repeat' ((conv=>whnf);first |refine za rfl rfl ?_ |refine Vdraw.mk' (by kernel_rfl) ?_)
 refine ze (zgm (p.z) (p.z)) ?_
 repeat' ((conv=>whnf);first |refine za rfl rfl ?_ |refine Vdraw.mk' (by kernel_rfl) ?_)
 refine ze (zb1 (p.z.add p.z) (q.z)) ?_
 generalize hE:(p.z.add p.z).mul q.z=E
 repeat' ((conv=>whnf);first |refine za rfl rfl ?_ |refine Vdraw.mk' (by kernel_rfl) ?_)
 refine ze (zhj (B) (A)) ?_
 generalize hF:B.sub A=F
 repeat' ((conv=>whnf);first |refine za rfl rfl ?_ |refine Vdraw.mk' (by kernel_rfl) ?_)
 refine ze (zhj (E) (C)) ?_
 generalize hG:E.sub C=G
 repeat' ((conv=>whnf);first |refine za rfl rfl ?_ |refine Vdraw.mk' (by kernel_rfl) ?_)
 refine ze (zgm (E) (C)) ?_
 generalize hH:E.add C=H
 repeat' ((conv=>whnf);first |refine za rfl rfl ?_ |refine Vdraw.mk' (by kernel_rfl) ?_)
 refine ze (zgm (B) (A)) ?_
 generalize hK:B.add A=K
 repeat' ((conv=>whnf);first |refine za rfl rfl ?_ |refine Vdraw.mk' (by kernel_rfl) ?_)
 refine ze (zb1 (F) (G)) ?_
 repeat' ((conv=>whnf);first |refine za rfl rfl ?_ |refine Vdraw.mk' (by kernel_rfl) ?_)
 refine ze (zb1 (H) (K)) ?_
 repeat' ((conv=>whnf);first |refine za rfl rfl ?_ |refine Vdraw.mk' (by kernel_rfl) ?_)
 refine ze (zb1 (G) (H)) ?_
 repeat' ((conv=>whnf);first |refine za rfl rfl ?_ |refine Vdraw.mk' (by kernel_rfl) ?_)
 refine ze (zb1 (F) (K)) ?_
 repeat' ((conv=>whnf);first |refine za rfl rfl ?_ |refine Vdraw.mk' (by kernel_rfl) ?_)
 have e:p.sum q dd=⟨F.mul G,H.mul K,G.mul H,F.mul K⟩:=by
  subst hK hH hG hF hE hC hB hA
  rfl
 rw[e]
 exact cr
end
section
section
variable {P:Program} {T:TT} {S:St}
theorem Vcode.scope3(hm:P.follows .mixedOrders=true)(hT:TOk P T){c1 c2 c3 body:Code}{Q:Exit->St->Prop}(l:Nat){ι:Type}(inv:ι->St)(R:ι->Prop)(μ:ι->Nat)
  (hf:findLabel (.seq c1 (.seq c2 (.seq c3 (.seq (.label l) body)))) l=some (.seq .skip body))
  (first:vcg P T c1 S (λe S'=>e= .normal/\vcg P T c2 S' (λe S2=>e= .normal/\vcg P T c3 S2 (λe S''=>e= .normal/\∃i,R i/\Sub S'' (inv i)))))
  (pass: ∀i,R i->vcg P T body (inv i) (zhl l (λS'=>∃i',R i'/\μ i'<μ i/\Sub S' (inv i')) Q)):Vcode P (.scope (.seq c1 (.seq c2 (.seq c3 (.seq (.label l) body))))) S Q:=by
 refine⟨λB N a w k Q' hs hd hQ=>?_⟩
 have hd0:za2 N (.seq c1 (.seq c2 (.seq c3 (.seq (.label l) body))))=true:=by simpa only[za2]using hd
 have hd1:=hd0
 simp only[za2,Bool.and_eq_true,true_and]at hd1
 let J:Nat->Act->World->Prop:=λn a w=>∃i k,R i/\μ i=n/\Sat B N (inv i) a w k
 refine wp_scope_jumps l (λa w=>∃n,J n a w) (λa w=>leastOf (λn=>J n a w)) hf ?_ ?_
 ·refine wp_seq (zav hm hT c1 S _ first B N a w k _ hs hd1.1 λe S1 a1 w1 k1 hq1 hs1=>?_)
  obtain⟨rfl,hq1⟩:=hq1
  refine wp_seq (zav hm hT c2 S1 _ hq1 B N a1 w1 k1 _ hs1 hd1.2.1 λe S2 a2 w2 k2 hq2 hs2=>?_)
  obtain⟨rfl,hq2⟩:=hq2
  refine wp_seq (zav hm hT c3 S2 _ hq2 B N a2 w2 k2 _ hs2 hd1.2.2.1 λe S2 a2 w2 k2 hq2 hs2=>?_)
  obtain⟨rfl,i,hR,hsub⟩:=hq2
  obtain⟨k3,hs3⟩:=hsub B N a2 w2 k2 hs2
  refine wp_seq (wp_label ?_)
  refine zav hm hT body (inv i) _ (pass i hR) B N a2 w2 k3 _ hs3 hd1.2.2.2 λe S' a' w' k' hq hs'=>?_
  cases e with
  |goto l'=>
   simp only[zhl]at hq
   split at hq
   ·rename_i hb
    obtain⟨i',hR',_,hsub⟩:=hq
    obtain⟨k2,hs2⟩:=hsub B N a' w' k' hs'
    exact⟨Nat.eq_of_beq_eq_true hb,μ i',i',k2,hR',rfl,hs2⟩
   ·exact hq.elim
  |_=>exact hQ _ S' a' w' k' hq hs'
 ·intro a1 w1 hJ
  obtain⟨i,k1,hR,hμ,hs1⟩:=(leastOf_spec hJ).1
  refine wp_seq (wp_skip ?_)
  refine zav hm hT body (inv i) _ (pass i hR) B N a1 w1 k1 _ hs1 hd1.2.2.2 λe S' a' w' k' hq hs'=>?_
  cases e with
  |goto l'=>
   simp only[zhl]at hq
   split at hq
   ·rename_i hb
    obtain⟨i',hR',hlt,hsub⟩:=hq
    obtain⟨k2,hs2⟩:=hsub B N a' w' k' hs'
    have hJ':J (μ i') a' w':=⟨i',k2,hR',rfl,hs2⟩
    refine⟨Nat.eq_of_beq_eq_true hb,⟨μ i',hJ'⟩,?_⟩
    exact Nat.lt_of_le_of_lt ((leastOf_spec ⟨_,hJ'⟩).2 _ hJ') (by rw[<-hμ];exact hlt)
   ·exact hq.elim
  |_=>exact hQ _ S' a' w' k' hq hs'
end
def numF(n:UInt64):Fe:=⟨n&&&msk,shrW n 51,0,0,0⟩
theorem h_n2:zab Tryz.prog 45 [.i .u64 2] (.r (.ag (numF 2).v)):=zi9 2
theorem h_n4:zab Tryz.prog 45 [.i .u64 4] (.r (.ag (numF 4).v)):=zi9 4
theorem h_n5:zab Tryz.prog 45 [.i .u64 5] (.r (.ag (numF 5).v)):=zi9 5
theorem h_nA:zab Tryz.prog 45 [.i .u64 121665] (.r (.ag (numF 121665).v)):=zi9 121665
theorem h_nB:zab Tryz.prog 45 [.i .u64 121666] (.r (.ag (numF 121666).v)):=zi9 121666
attribute [irreducible] numF
def fz:Fe:=⟨0,0,0,0,0⟩
def dC:Fe:=(Fe.sub ⟨0,0,0,0,0⟩ (numF 121665)).mul (numF 121666).inv
theorem h_d:zab Tryz.prog 222 [] (.r (.ag dC.v)):=by
 refine zaa (T:=Tab) mixed Tab_ok Tryz.func222 rfl (by kernel_rfl) ?_
 refine ze h_nA ?_
 refine ze (z0x (numF 121665)) ?_
 refine ze h_nB ?_
 refine ze (zni (numF 121666)) ?_
 refine ze (zb1 (Fe.sub ⟨0,0,0,0,0⟩ (numF 121665)) (numF 121666).inv) ?_
 refine za rfl rfl ?_
 exact cr
attribute [irreducible] dC
def Pt.of(x y:Fe):Pt:=⟨x,y,one,x.mul y⟩
theorem z9h(x y:Fe):zab Tryz.prog 219 [.ag x.v, .ag y.v] (.r (.ag (Pt.of x y).v)):=by
 refine zaa (T:=Tab) mixed Tab_ok Tryz.func219 rfl (by kernel_rfl) ?_
 repeat' ((conv=>whnf);first |refine za rfl rfl ?_ |refine Vdraw.mk' (by kernel_rfl) ?_)
 refine ze zk2 ?_
 repeat' ((conv=>whnf);first |refine za rfl rfl ?_ |refine Vdraw.mk' (by kernel_rfl) ?_)
 refine ze (zb1 x y) ?_
 repeat' ((conv=>whnf);first |refine za rfl rfl ?_ |refine Vdraw.mk' (by kernel_rfl) ?_)
 exact cr
def Pt.nil:Pt:=Pt.of ⟨0,0,0,0,0⟩ one
theorem z37:zab Tryz.prog 221 [] (.r (.ag Pt.nil.v)):=by
 refine zaa (T:=Tab) mixed Tab_ok Tryz.func221 rfl (by kernel_rfl) ?_
 refine ze zk2 ?_
 refine ze (z9h ⟨0,0,0,0,0⟩ one) ?_
 refine za rfl rfl ?_
 exact cr
attribute [irreducible] Pt.nil
theorem zy1(p:Pt):zab Tryz.prog 220 [.ag p.v] (.r (.ag p.v)):=by
 refine zaa (T:=Tab) mixed Tab_ok Tryz.func220 rfl (by kernel_rfl) ?_
 refine zu rfl (zq ?_)
 refine za rfl rfl ?_
 refine za rfl rfl ?_
 exact cr
def dD:Fe:=dC.add dC
def mulP(p:Pt)(s:S4):Nat->Pt
 |0=>Pt.nil
 |j+1=>if s.bit (252-j)=1 then((mulP p s j).sum (mulP p s j) dD).sum p dD else(mulP p s j).sum (mulP p s j) dD
theorem z4y(p:Pt)(s:S4):mulP p s 0=Pt.nil:=rfl
theorem z7x(p:Pt)(s:S4)(j:Nat)(h:s.bit (252-j)=1):mulP p s (j+1)=((mulP p s j).sum (mulP p s j) dD).sum p dD:=by rw[mulP,if_pos h]
theorem z1g(p:Pt)(s:S4)(j:Nat)(h: ¬s.bit (252-j)=1):mulP p s (j+1)=(mulP p s j).sum (mulP p s j) dD:=by rw[mulP,if_neg h]
attribute [irreducible] mulP dD
abbrev z21:Ow:= .box [.r (W 0), .r (W 0), .r (W 0), .r (W 0), .r (W 0), .r (W 0), .r (W 0), .r (W 0), .r (W 0), .r (W 0), .r (W 0), .r (W 0), .r (W 0), .r (W 0), .r (W 0), .r (W 0), .r (W 0), .r (W 0), .r (W 0), .r (W 0), .r (.b false)]
def pmI(p:Pt)(s:S4)(j:Nat):St:={F:=[(2, .own 0),(3, .own 1),(4, .own 2),(5, .own 3),(6, .own 4),(7, .r (I (252-(j:Int))))],O:=[(0,some p.bx),(1,some s.bx),(2,some z21),(3,some (mulP p s j).bx),(4,some dD.bx)],nx:=5}
set_option maxHeartbeats 4000000 in
theorem z4c(p:Pt)(s:S4):zab Tryz.prog 148 [.ag p.v, .ag s.v] (.r (.ag (mulP p s 253).v)):=by
 refine zaa (T:=Tab) mixed Tab_ok Tryz.func148 rfl (by kernel_rfl) ?_
 refine Vcode.scope3 mixed Tab_ok 0 (pmI p s) (λj=>j<=252) (λj=>252-j) rfl ?_ ?_
 ·refine za rfl rfl ?_
  refine ze (zy1 p) ?_
  (conv=>whnf)
  refine⟨rfl,?_⟩
  refine ze z37 ?_
  refine ze h_d ?_
  refine ze h_d ?_
  refine ze (zgm dC dC) ?_
  (conv=>whnf)
  refine⟨rfl,?_⟩
  (conv=>whnf)
  have hD:dC.add dC=dD:=by unfold dD;rfl
  rw[hD]
  refine⟨rfl,0,by omega,zac [(0,0),(1,1),(2,2),(3,3),(4,4)] rfl ⟨rfl,rfl,rfl,rfl,rfl,cr,trivial⟩ ⟨⟨_,_,rfl,cr,_,_,rfl,cr,_,_,rfl,cr,_,_,rfl,cr,_,_,rfl,cr,_,_,rfl,cr,_,_,rfl,cr,_,_,rfl,cr,_,_,rfl,cr,_,_,rfl,cr,_,_,rfl,cr,_,_,rfl,cr,_,_,rfl,cr,_,_,rfl,cr,_,_,rfl,cr,_,_,rfl,cr,_,_,rfl,cr,_,_,rfl,cr,_,_,rfl,cr,_,_,rfl,cr,_,_,rfl,cr,rfl⟩,⟨_,_,rfl,cr,_,_,rfl,cr,_,_,rfl,cr,_,_,rfl,cr,rfl⟩,⟨_,_,rfl,cr,_,_,rfl,cr,_,_,rfl,cr,_,_,rfl,cr,_,_,rfl,cr,_,_,rfl,cr,_,_,rfl,cr,_,_,rfl,cr,_,_,rfl,cr,_,_,rfl,cr,_,_,rfl,cr,_,_,rfl,cr,_,_,rfl,cr,_,_,rfl,cr,_,_,rfl,cr,_,_,rfl,cr,_,_,rfl,cr,_,_,rfl,cr,_,_,rfl,cr,_,_,rfl,cr,_,_,rfl,cr,rfl⟩,by rw[z4y];exact⟨_,_,rfl,cr,_,_,rfl,cr,_,_,rfl,cr,_,_,rfl,cr,_,_,rfl,cr,_,_,rfl,cr,_,_,rfl,cr,_,_,rfl,cr,_,_,rfl,cr,_,_,rfl,cr,_,_,rfl,cr,_,_,rfl,cr,_,_,rfl,cr,_,_,rfl,cr,_,_,rfl,cr,_,_,rfl,cr,_,_,rfl,cr,_,_,rfl,cr,_,_,rfl,cr,_,_,rfl,cr,_,_,rfl,cr,rfl⟩,⟨_,_,rfl,cr,_,_,rfl,cr,_,_,rfl,cr,_,_,rfl,cr,_,_,rfl,cr,rfl⟩,trivial⟩⟩
 ·intro j hj
  refine za rfl rfl ?_
  refine za rfl rfl ?_
  refine za rfl rfl ?_
  refine ze (z4a (mulP p s j) (mulP p s j) dD) ?_
  generalize hY:(mulP p s j).sum (mulP p s j) dD=y
  refine za rfl rfl ?_
  have hbit:=zbbb s (252-j) (by omega)
  have e1:((252-j:Nat):Int)=252-(j:Int):=by omega
  rw[e1]at hbit
  refine ze hbit ?_
  refine zh (λh=>zp ?_) (λh=>zq ?_)
  ·have hb:s.bit (252-j)=1:=by
    rw[beq_iff_eq]at h
    have:(s.bit (252-j)).toNat=1:=by omega
    exact UInt64.toNat_inj.1 this
   have hs:=z7x p s j hb
   rw[hY]at hs
   refine za rfl rfl ?_
   refine za rfl rfl ?_
   refine za rfl rfl ?_
   refine ze (z4a y p dD) ?_
   refine zd (m:=252-((j+1:Nat):Int)) (by omega) (by omega) ?_
   refine zh (λh=>zp ?_) (λh=>zq ?_)
   ·simp only[zb]at h
    exact⟨j+1,by omega,by omega,zac [(0,0),(1,1),(2,2),(3,3),(4,4)] rfl ⟨rfl,rfl,rfl,rfl,rfl,cr,trivial⟩ ⟨⟨_,_,rfl,cr,_,_,rfl,cr,_,_,rfl,cr,_,_,rfl,cr,_,_,rfl,cr,_,_,rfl,cr,_,_,rfl,cr,_,_,rfl,cr,_,_,rfl,cr,_,_,rfl,cr,_,_,rfl,cr,_,_,rfl,cr,_,_,rfl,cr,_,_,rfl,cr,_,_,rfl,cr,_,_,rfl,cr,_,_,rfl,cr,_,_,rfl,cr,_,_,rfl,cr,_,_,rfl,cr,_,_,rfl,cr,rfl⟩,⟨_,_,rfl,cr,_,_,rfl,cr,_,_,rfl,cr,_,_,rfl,cr,rfl⟩,⟨_,_,rfl,cr,_,_,rfl,cr,_,_,rfl,cr,_,_,rfl,cr,_,_,rfl,cr,_,_,rfl,cr,_,_,rfl,cr,_,_,rfl,cr,_,_,rfl,cr,_,_,rfl,cr,_,_,rfl,cr,_,_,rfl,cr,_,_,rfl,cr,_,_,rfl,cr,_,_,rfl,cr,_,_,rfl,cr,_,_,rfl,cr,_,_,rfl,cr,_,_,rfl,cr,_,_,rfl,cr,_,_,rfl,cr,rfl⟩,by rw[hs];exact⟨_,_,rfl,cr,_,_,rfl,cr,_,_,rfl,cr,_,_,rfl,cr,_,_,rfl,cr,_,_,rfl,cr,_,_,rfl,cr,_,_,rfl,cr,_,_,rfl,cr,_,_,rfl,cr,_,_,rfl,cr,_,_,rfl,cr,_,_,rfl,cr,_,_,rfl,cr,_,_,rfl,cr,_,_,rfl,cr,_,_,rfl,cr,_,_,rfl,cr,_,_,rfl,cr,_,_,rfl,cr,_,_,rfl,cr,rfl⟩,⟨_,_,rfl,cr,_,_,rfl,cr,_,_,rfl,cr,_,_,rfl,cr,_,_,rfl,cr,rfl⟩,trivial⟩⟩
   ·simp only[zb]at h
    obtain rfl:j=252:=by omega
    refine za rfl rfl ?_
    refine za rfl rfl ?_
    rw[hs]
    exact cr
  ·have hb: ¬s.bit (252-j)=1:=by
    rw[beq_eq_false_iff_ne]at h
    intro e
    rw[e]at h
    exact h rfl
   have hs:=z1g p s j hb
   rw[hY]at hs
   refine zd (m:=252-((j+1:Nat):Int)) (by omega) (by omega) ?_
   refine zh (λh=>zp ?_) (λh=>zq ?_)
   ·simp only[zb]at h
    exact⟨j+1,by omega,by omega,zac [(0,0),(1,1),(2,2),(3,3),(4,4)] rfl ⟨rfl,rfl,rfl,rfl,rfl,cr,trivial⟩ ⟨⟨_,_,rfl,cr,_,_,rfl,cr,_,_,rfl,cr,_,_,rfl,cr,_,_,rfl,cr,_,_,rfl,cr,_,_,rfl,cr,_,_,rfl,cr,_,_,rfl,cr,_,_,rfl,cr,_,_,rfl,cr,_,_,rfl,cr,_,_,rfl,cr,_,_,rfl,cr,_,_,rfl,cr,_,_,rfl,cr,_,_,rfl,cr,_,_,rfl,cr,_,_,rfl,cr,_,_,rfl,cr,_,_,rfl,cr,rfl⟩,⟨_,_,rfl,cr,_,_,rfl,cr,_,_,rfl,cr,_,_,rfl,cr,rfl⟩,⟨_,_,rfl,cr,_,_,rfl,cr,_,_,rfl,cr,_,_,rfl,cr,_,_,rfl,cr,_,_,rfl,cr,_,_,rfl,cr,_,_,rfl,cr,_,_,rfl,cr,_,_,rfl,cr,_,_,rfl,cr,_,_,rfl,cr,_,_,rfl,cr,_,_,rfl,cr,_,_,rfl,cr,_,_,rfl,cr,_,_,rfl,cr,_,_,rfl,cr,_,_,rfl,cr,_,_,rfl,cr,_,_,rfl,cr,rfl⟩,by rw[hs];exact⟨_,_,rfl,cr,_,_,rfl,cr,_,_,rfl,cr,_,_,rfl,cr,_,_,rfl,cr,_,_,rfl,cr,_,_,rfl,cr,_,_,rfl,cr,_,_,rfl,cr,_,_,rfl,cr,_,_,rfl,cr,_,_,rfl,cr,_,_,rfl,cr,_,_,rfl,cr,_,_,rfl,cr,_,_,rfl,cr,_,_,rfl,cr,_,_,rfl,cr,_,_,rfl,cr,_,_,rfl,cr,_,_,rfl,cr,rfl⟩,⟨_,_,rfl,cr,_,_,rfl,cr,_,_,rfl,cr,_,_,rfl,cr,_,_,rfl,cr,rfl⟩,trivial⟩⟩
   ·simp only[zb]at h
    obtain rfl:j=252:=by omega
    refine za rfl rfl ?_
    refine za rfl rfl ?_
    rw[hs]
    exact cr
end
section
theorem Vsem.fieldAll{P:Program}{T:TT}{S:St}{o:Oper}(hT:TOk P T){t:TypeId}{x:Operand}{i:Nat}{ft:TypeId}{ti tf:TI}{fs:List (Nat×TypeId)}{cells:List RV}{K:TF->Option Ow->Prop}(hop:o.op= .field t x i)(hti:tget T t=some ti)(hk:ti.k= .struct fs)(hfs:lget fs i=some (0,ft))(htf:tget T ft=some tf)(hag:tf.agg=true)
  (hx:opr S x=some (.r (.ag cells))) (hc:cells.length=tf.sz) (hK:K (.r (.ag cells)) none):Vsem P S o K:=by
 refine⟨_,_,λB N a w k Q ⟨g,hs⟩ hd=>?_,hK⟩
 have hv:=(zaf hs hx).2
 simp only[TF.at_,RV.at_]at hv
 obtain⟨us,e,hl⟩:=hv
 rw[zan]at hfs
 have hul:=(RV.listAt_iff _ _).1 hl
 have hus:us.size=tf.sz:=by rw[<-Array.length_toList,hul.1,hc]
 obtain⟨q,hq⟩:=hT.get hti
 obtain⟨d,hdd,hko,_⟩:=q.desc
 rw[hq]at hdd
 rw[hk]at hko
 obtain⟨fields,rfl,hfl⟩:=hko
 obtain⟨qf,hqf⟩:=hT.get htf
 have hsize:=za5 (w:=w) qf hqf
 obtain⟨df,hdf,_,hrow⟩:=qf.desc
 rw[hqf]at hdf
 rw[hag]at hrow
 have hagg:(isAgg ft).run P w= .ok true w:=by
  unfold isAgg
  rw[Sem.run_bind,run_underlying hdf w]
  cases df<;>simp_all [TypeDesc.isRow]
 rw[<-hfl,List.getElem?_map]at hfs
 cases hfi:fields.toList[i]? with
 |none=>simp[hfi]at hfs
 |some fd=>
  simp only[hfi,Option.map_some,Option.some.injEq,Prod.mk.injEq]at hfs
  obtain⟨h0,rfl⟩:=hfs
  have hfa:fields[i]?=some fd:=by simpa using hfi
  refine zas (v:= .agg us) (w':=w) ?_ ⟨k,g,hs.put hd trivial ?_⟩
  ·simp[execOp,hop,Instr.field,run_underlying hdd w,hfa,e,part,hagg,asAgg,hsize,h0,<-hus]
  ·simp only[TF.at_,RV.at_]
   exact⟨us,rfl,hl⟩
def Fe.odd(x:Fe):Bool:=((x.least.a&&&1).toNat:Int)==1
theorem z0y(x:Fe):zab Tryz.prog 225 [.ag x.v] (.r (.b x.odd)):=by
 refine zaa (T:=Tab) mixed Tab_ok Tryz.func225 rfl (by kernel_rfl) ?_
 refine za rfl rfl ?_
 refine ze (zkb x) ?_
 refine Vsem.fieldAll (ft:=110) Tab_ok rfl rfl rfl rfl rfl rfl rfl rfl ?_
 refine zm (by decide) (by decide) rfl ?_
 refine Vbits.wand _ 1 rfl rfl ?_
 refine⟨_,rfl,?_⟩
 exact cr
end
section
set_option maxHeartbeats 1000000 in
theorem z7f(x:Fe):zab Tryz.prog 46 [.ag x.v] (.own 5 1 32 (x.bytes.map U8)):=by
 refine zbo (T:=Tab) mixed Tab_ok Tryz.func46 rfl (by kernel_rfl) ?_
 refine za rfl rfl ?_
 refine ze (zkb x) ?_
 refine⟨rfl,by decide,by decide,by decide,_,_,rfl,zs32,Vpub.own ?_⟩
 refine za rfl rfl ?_
 refine Vloop.mkx (outI x.least) (λi=>i<=5) (λi=>5-i) 0 (by omega) (zac [(0,1)] rfl ⟨rfl,cr,cr,trivial⟩ ⟨⟨rfl,rfl,rfl,rfl,by rw[zsq];exact zn _⟩,trivial⟩) ?_
 intro i hi
 refine zh (λh=>zp ?_) (λh=>zq ?_)
 ·simp only[zb]at h
  have hi':i<5:=by omega
  refine zm (by omega) (by simp;omega) (zzd x.least hi') ?_
  refine zd (m:=((i*51:Nat):Int)) (by omega) (by omega) ?_
  refine Vloop.mkx (inI x.least i) (λk=>k<=51) (λk=>51-k) 0 (by omega) (zac [(0,0)] rfl ⟨rfl,cr,cr,cr,cr,cr,trivial⟩ ⟨⟨rfl,rfl,rfl,rfl,by rw[ztu];exact zn _⟩,trivial⟩) ?_
  intro k hk
  refine zh (λh=>zp ?_) (λh=>zq ?_)
  ·simp only[zb]at h
   have hk':k<51:=by omega
   have hL:(rowB (allF x.least i) ((zfb x.least).getD i 0) (i*51) k).length=32:=by rw[zlq,zkp]
   refine Vdraw.mk' (by kernel_rfl) ?_
   refine zd (m:=((i*51+k:Nat):Int)) (by omega) (by omega) ?_
   refine Vquo.i64 (i*51+k) 8 rfl rfl (by omega) (by omega) ?_
   refine Vadr.mk' ((i*51+k)/8) rfl (by omega) ?_
   refine zg (f:=U8 ((rowB (allF x.least i) ((zfb x.least).getD i 0) (i*51) k).getD ((i*51+k)/8) 0)) (by rw[Nat.mul_one];exact zfz (by rw[hL];omega)) ?_
   refine Vshr.w _ k rfl rfl ?_
   refine Vbits.wand _ 1 rfl rfl ?_
   refine Vint.u8 _ rfl ?_
   refine zd (m:=((i*51+k:Nat):Int)) (by omega) (by omega) ?_
   refine Vrem.nat (i*51+k) 8 rfl rfl (by omega) ?_
   refine Vshl.b _ ((i*51+k)%8) rfl rfl (by omega) ?_
   refine Vbits.or8 _ _ rfl rfl ?_
   refine Vadr.mk' ((i*51+k)/8) rfl (by omega) ?_
   refine⟨by rw[List.length_map,hL];show(i*51+k)/8*1+1<=32;omega,(rowB (allF x.least i) ((zfb x.least).getD i 0) (i*51) (k+1)).map U8,?_,?_⟩
   ·rw[rowB,bitB,Nat.mul_one]
    exact zc0 (by rw[hL];omega)
   refine zd (m:=((k+1:Nat):Int)) (by omega) (by omega) ?_
   exact⟨k+1,by omega,by omega,zac [(0,0)] rfl ⟨rfl,cr,cr,cr,cr,cr,trivial⟩ ⟨⟨rfl,rfl,rfl,rfl,zn _⟩,trivial⟩⟩
  ·simp only[zb]at h
   obtain rfl:k=51:=by omega
   refine⟨_,zo _,?_⟩
   refine zd (m:=((i+1:Nat):Int)) (by omega) (by omega) ?_
   exact⟨i+1,by omega,by omega,zac [(0,0)] rfl ⟨rfl,cr,cr,trivial⟩ ⟨⟨rfl,rfl,rfl,rfl,by rw[zsp];exact zn _⟩,trivial⟩⟩
 ·simp only[zb]at h
  obtain rfl:i=5:=by omega
  refine⟨_,zo _,?_⟩
  refine⟨_,zo _,?_⟩
  exact rfl
def Pt.bytes(p:Pt):List UInt8:=if(p.x.mul p.z.inv).odd then(p.y.mul p.z.inv).bytes.set 31 ((p.y.mul p.z.inv).bytes.getD 31 0|||128)else(p.y.mul p.z.inv).bytes
theorem Pt.bytes_len(p:Pt):p.bytes.length=32:=by
 unfold Pt.bytes
 split
 ·rw[List.length_set,Fe.bytes_len]
 ·exact Fe.bytes_len _
set_option maxHeartbeats 1000000 in
theorem zvm(p:Pt):zab Tryz.prog 150 [.ag p.v] (bch p.bytes):=by
 refine zbo (T:=Tab) mixed Tab_ok Tryz.func150 rfl (by kernel_rfl) ?_
 have hpl:=Pt.bytes_len p
 refine za rfl rfl ?_
 refine ze (zy1 p) ?_
 refine za rfl rfl ?_
 refine ze (zni p.z) ?_
 refine za rfl rfl ?_
 refine za rfl rfl ?_
 refine ze (zb1 p.y p.z.inv) ?_
 refine ze (z7f (p.y.mul p.z.inv)) ?_
 refine za rfl rfl ?_
 refine za rfl rfl ?_
 refine ze (zb1 p.x p.z.inv) ?_
 refine ze (z0y (p.x.mul p.z.inv)) ?_
 have hl:=Fe.bytes_len (p.y.mul p.z.inv)
 refine⟨λh=>?_,λh=>?_⟩
 ·have hb:p.bytes=(p.y.mul p.z.inv).bytes.set 31 ((p.y.mul p.z.inv).bytes.getD 31 0|||128):=by rw[Pt.bytes,if_pos h]
  refine Vadr.any (by decide) ?_
  refine zg (f:=U8 ((p.y.mul p.z.inv).bytes.getD 31 0)) (zfz (by rw[hl];decide)) ?_
  refine Vbits.or8 _ 128 rfl rfl ?_
  refine Vadr.any (by decide) ?_
  refine⟨by rw[List.length_map,hl];decide,p.bytes.map U8,?_,?_⟩
  ·rw[hb]
   exact zc0 (by rw[hl];decide)
  refine⟨_,zbw (id:=2) rfl,?_⟩
  exact congrArg (λn=>some (Ow.ch 5 1 n (p.bytes.map U8) true)) hpl.symm
 ·have hb:p.bytes=(p.y.mul p.z.inv).bytes:=by rw[Pt.bytes,if_neg (by rw[h];decide)]
  refine⟨_,zbw (id:=2) rfl,?_⟩
  rw[hb]at hpl⊢
  exact congrArg (λn=>some (Ow.ch 5 1 n ((p.y.mul p.z.inv).bytes.map U8) true)) hpl.symm
end
section
abbrev u64v(x:UInt64):Value:= .int .u64 (x.toNat:Int)
def feV(x:Fe):Array Value:= #[u64v x.a,u64v x.b,u64v x.c,u64v x.d,u64v x.e]
def feEq(x y:Fe):Bool:=decide (x.a=y.a/\x.b=y.b/\x.c=y.c/\x.d=y.d/\x.e=y.e)
theorem z3a{x:Fe}{w:World}{k:Kp}{v:Value}(h:(RV.ag x.v).at_ w k v):v= .agg (feV x):=by
 simp only[RV.at_]at h
 obtain⟨us,rfl,hl⟩:=h
 simp only[RV.listAt,RV.at_]at hl
 congr 1
 apply Array.ext'
 obtain⟨u0,r0,e0,_,rfl,u1,r1,e1,_,rfl,u2,r2,e2,_,rfl,u3,r3,e3,_,rfl,u4,r4,e4,_,rfl,e5⟩:=hl
 subst e5 e4 e3 e2 e1
 exact e0
theorem zpy:Tryz.prog.underlying 112=some (.struct (Tryz.prog.fieldsOf 112)):=by kernel_rfl
theorem zzn(x:Fe)(w:World):(part 110 (feV x) 0).run Tryz.prog w= .ok (.agg (feV x)) w:=by
 have hagg:(isAgg 110).run Tryz.prog w= .ok true w:=by
  unfold isAgg
  rw[Sem.run_bind,run_underlying (show Tryz.prog.underlying 110=some (.array 5 107)by kernel_rfl) w]
  rfl
 obtain⟨q,hq⟩:=Tab_ok.get (show tget Tab 110=some _ from rfl)
 have hsize:=za5 (w:=w) q hq
 simp only[part,Sem.run_bind,hagg,Result.andThen_ok,if_true,hsize,Sem.run_pure]
 rfl
theorem z5a(x:Fe)(i:Nat)(v:Value)(w:World)(h:(feV x)[i]?=some v):(part 107 (feV x) i).run Tryz.prog w= .ok v w:=by
 have hagg:(isAgg 107).run Tryz.prog w= .ok false w:=by
  unfold isAgg
  rw[Sem.run_bind,run_underlying (show Tryz.prog.underlying 107=some (.int .u64)by kernel_rfl) w]
  rfl
 simp only[part,Sem.run_bind,hagg,Result.andThen_ok,h]
 simp
theorem zvb(x y:Fe)(w:World)(d:Nat): ∀is:List Nat,(∀i∈is,i<5)->∃r:Bool,(Op.eqItems (d+1) 107 1 (feV x) (feV y) is).run Tryz.prog w= .ok r w/\(r=true↔∀i∈is,(feV x)[i]?=(feV y)[i]?)
 |[],_=>⟨true,by simp[Op.eqItems],by simp⟩
 |i::is,h=>by
  obtain⟨r,ih,hr⟩:=zvb x y w d is λj hj=>h j (List.mem_cons_of_mem _ hj)
  have hi:=h i (List.mem_cons_self ..)
  have hx: ∃a:UInt64,(feV x)[i]?=some (u64v a):=by
   have:i=0\/i=1\/i=2\/i=3\/i=4:=by omega
   rcases this with rfl |rfl |rfl |rfl |rfl<;>exact⟨_,rfl⟩
  have hy: ∃a:UInt64,(feV y)[i]?=some (u64v a):=by
   have:i=0\/i=1\/i=2\/i=3\/i=4:=by omega
   rcases this with rfl |rfl |rfl |rfl |rfl<;>exact⟨_,rfl⟩
  obtain⟨a,ha⟩:=hx
  obtain⟨b,hb⟩:=hy
  simp only[Op.eqItems,Sem.run_bind,Nat.mul_one,z5a x i _ w ha,z5a y i _ w hb,Result.andThen_ok,run_equalIn_int w d 107 .u64 .u64 _ _ (show Tryz.prog.underlying 107=some (.int .u64)by kernel_rfl)]
  by_cases hab:(a.toNat:Int)=(b.toNat:Int)
  ·have e:(feV x)[i]?=(feV y)[i]?:=by rw[ha,hb,u64v,u64v,hab]
   exact⟨r,by simp[hab,ih],by rw[hr];simp[e]⟩
  ·have e: ¬(feV x)[i]?=(feV y)[i]?:=by
    rw[ha,hb]
    intro e
    injection e with e
    injection e with _ e
    exact hab e
   exact⟨false,by simp[hab],by simp[e]⟩
theorem zc8b(x y:Fe)(w:World)(dd:Nat):(Op.equalIn (dd+2) 110 (.agg (feV x)) (.agg (feV y))).run Tryz.prog w= .ok (feEq x y) w:=by
 obtain⟨r,hr,hiff⟩:=zvb x y w dd (List.range 5) (λi hi=>List.mem_range.1 hi)
 have hi: ∃i,Tryz.prog.info? 107=some i:=by
  obtain⟨q,hq⟩:=Tab_ok.get (show tget Tab 107=some _ from rfl)
  obtain⟨i,hi,_⟩:=q.info
  rw[hq]at hi
  exact⟨i,hi⟩
 obtain⟨i,hi⟩:=hi
 have harr:=run_equalIn_array (P:=Tryz.prog) w (dd+1) (feV x) (feV y) (show Tryz.prog.underlying 110=some (.array 5 107)by kernel_rfl) hi
 have hcells:Tryz.prog.cellsOf 107=1:=by kernel_rfl
 rw[hcells,hr]at harr
 have hre:r=feEq x y:=by
  have h5:(∀i∈List.range 5,(feV x)[i]?=(feV y)[i]?)↔(x.a=y.a/\x.b=y.b/\x.c=y.c/\x.d=y.d/\x.e=y.e):=by
   have hin: ∀a b:UInt64,some (u64v a)=some (u64v b)->a=b:=λa b e=>by
    simp only[u64v,Option.some.injEq,Value.int.injEq,true_and]at e
    exact UInt64.toNat_inj.1 (Int.ofNat_inj.1 e)
   constructor
   ·intro h
    exact⟨hin _ _ (h 0 (by simp)),hin _ _ (h 1 (by simp)),hin _ _ (h 2 (by simp)),hin _ _ (h 3 (by simp)),hin _ _ (h 4 (by simp))⟩
   ·rintro⟨h0,h1,h2,h3,h4⟩ i _
    simp only[feV,h0,h1,h2,h3,h4]
  rw[h5]at hiff
  unfold feEq
  cases r
  ·exact(decide_eq_false (λh=>by have:=hiff.2 h;cases this)).symm
  ·exact(decide_eq_true (hiff.1 rfl)).symm
 rw[<-hre]
 exact harr
theorem z6s: ∃f,(Tryz.prog.fieldsOf 112).toList=[f]/\f.type=110/\f.offset=0/\f.name≠ "_" :=by
 obtain⟨q,hq⟩:=Tab_ok.get (show tget Tab 112=some _ from rfl)
 obtain⟨d,hdd,hko,_⟩:=q.desc
 rw[hq,zpy]at hdd
 injection hdd with hdd
 subst hdd
 obtain⟨fields,e,hfl⟩:=hko
 injection e with e
 rw[<-e]at hfl
 have hn:((Tryz.prog.fieldsOf 112).toList.all λf=> !(f.name== "_"))=true:=by kernel_rfl
 generalize (Tryz.prog.fieldsOf 112).toList=l at*
 have hlen:=congrArg List.length hfl
 rw[List.length_map]at hlen
 obtain⟨f,rfl⟩:=List.length_eq_one_iff.1 hlen
 simp only[List.map_cons,List.map_nil,List.cons.injEq,Prod.mk.injEq,and_true]at hfl
 simp only[List.all_cons,List.all_nil,Bool.and_true,Bool.not_eq_true',beq_eq_false_iff_ne]at hn
 exact⟨f,rfl,hfl.2,hfl.1,hn⟩
theorem zfbb(x y:Fe)(w:World):(binOp .eql 112 (.agg (feV x)) (.agg (feV y))).run Tryz.prog w= .ok (.bool (feEq x y)) w:=by
 obtain⟨f,hf,ht,ho,hn⟩:=z6s
 rw[run_eql_struct,run_equalIn_agg w 9999 _ _ _ zpy (by kernel_rfl),hf]
 have h1:=zzn x w
 have h2:=zzn y w
 have h3:=zc8b x y w 9997
 simp only[Op.eqFields,ne_eq,hn,not_false_eq_true,if_true,ht,ho,Sem.run_bind,h1,h2,Result.andThen_ok]
 rw[h3]
 simp only[Result.andThen_ok]
 cases feEq x y<;>simp
end
section
theorem Vfun.eqFe{S:St}{o:Oper}{p q:Operand}{t2:TypeId}{x y:Fe}{K:RV->Prop}(hop:o.op= .binOp .eql 112 p q t2)(hx:opr S p=some (.r (.ag x.v)))(hy:opr S q=some (.r (.ag y.v)))(hK:K (.b (feEq x y))):Vfun Tryz.prog S o [p,q] K:=by
 refine⟨[.ag x.v, .ag y.v],by simp only[oprs,hx,hy,St.rv],_,λa w k h=>?_,hK⟩
 obtain⟨u,v,e,h1,h2⟩:=zi0 h
 have e1:=z3a h1
 have e2:=z3a h2
 simp only[List.map_cons,List.map_nil,List.cons.injEq,and_true]at e
 refine⟨.bool (feEq x y),?_,by simp only[RV.at_]⟩
 simp[execOp,hop,e.1,e.2,e1,e2,run_eqGuard_agg (P:=Tryz.prog) w .eql 112 p q _ _ (by kernel_rfl),zfbb x y w]
def zfj(x y:Fe):Bool:=feEq x.least y.least
theorem zvo(x y:Fe):zab Tryz.prog 305 [.ag x.v, .ag y.v] (.r (.b (zfj x y))):=by
 refine zaa (T:=Tab) mixed Tab_ok Tryz.func305 rfl (by kernel_rfl) ?_
 refine Vdraw.mk' (by kernel_rfl) ?_
 refine za rfl rfl ?_
 refine ze (zkb x) ?_
 refine za rfl rfl ?_
 refine ze (zkb y) ?_
 refine Vfun.eqFe (x:=x.least) (y:=y.least) rfl rfl rfl ?_
 exact cr
def zln(a x:Fe):Fe×Bool:=cond (zfj (x.mul x) a) (cond x.odd (Fe.sub ⟨0,0,0,0,0⟩ x,true) (x,true)) (⟨0,0,0,0,0⟩,false)
def zgu(a:Fe):Fe:=a.pow (powE 254 15)
def zq5(a:Fe):Fe:=(zgu a).mul ((numF 2).pow (powE 251 31))
def zq6(a:Fe):Fe:=cond (zfj ((zgu a).mul (zgu a)) a) (zgu a) (zq5 a)
def zdk(a:Fe):Fe×Bool:=zln a (zq6 a)
set_option maxHeartbeats 1000000 in
theorem zdrb(a:Fe):zab Tryz.prog 272 [.ag a.v] (.r (.tu [.ag (zdk a).1.v, .b (zdk a).2])):=by
 refine zaa (T:=Tab) mixed Tab_ok Tryz.func272 rfl (by kernel_rfl) ?_
 refine Vdraw.mk' (by kernel_rfl) ?_
 refine za rfl rfl ?_
 refine ze (zr2 254 15) ?_
 refine ze (z00 a (powE 254 15) (by rw[zo6];omega)) ?_
 have hX:a.pow (powE 254 15)=zgu a:=by rw[zgu]
 rw[hX]
 have hZ:zq6 a=cond (zfj ((zgu a).mul (zgu a)) a) (zgu a) (zq5 a):=by rw[zq6]
 have hY:zq5 a=(zgu a).mul ((numF 2).pow (powE 251 31)):=by rw[zq5]
 generalize zgu a=x at*
 generalize zq5 a=y at*
 refine Vdraw.mk' (by kernel_rfl) ?_
 refine za rfl rfl ?_
 refine ze (zd3 x) ?_
 refine za rfl rfl ?_
 refine ze (zvo (x.mul x) a) ?_
 refine⟨_,rfl,?_⟩
 refine⟨λh=>?_,λh=>?_⟩
 ·have e1:zfj (x.mul x) a=false:=by simpa using h
  have hr:zq6 a=y:=by rw[hZ,e1];rfl
  refine Vdraw.mk' (by kernel_rfl) ?_
  refine za rfl rfl ?_
  refine ze h_n2 ?_
  refine ze (zr2 251 31) ?_
  refine ze (z00 (numF 2) (powE 251 31) (by rw[zo6];omega)) ?_
  refine ze (zb1 x ((numF 2).pow (powE 251 31))) ?_
  rw[<-hY]
  refine Vdraw.mk' (by kernel_rfl) ?_
  refine za rfl rfl ?_
  refine ze (zd3 y) ?_
  refine za rfl rfl ?_
  refine ze (zvo (y.mul y) a) ?_
  refine⟨_,rfl,?_⟩
  refine⟨λh2=>?_,λh2=>?_⟩
  ·have e2:zfj (y.mul y) a=false:=by simpa using h2
   have e:zdk a=(⟨0,0,0,0,0⟩,false):=by rw[zdk,hr,zln,e2];rfl
   rw[e]
   refine za rfl rfl ?_
   exact⟨_,rfl,cr⟩
  ·have e2:zfj (y.mul y) a=true:=by simpa using h2
   refine za rfl rfl ?_
   refine ze (z0y y) ?_
   refine⟨λh3=>?_,λh3=>?_⟩
   ·have e:zdk a=(Fe.sub ⟨0,0,0,0,0⟩ y,true):=by rw[zdk,hr,zln,e2,h3];rfl
    rw[e]
    refine za rfl rfl ?_
    refine ze (z0x y) ?_
    refine za rfl rfl ?_
    refine za rfl rfl ?_
    exact⟨_,rfl,cr⟩
   ·have e:zdk a=(y,true):=by rw[zdk,hr,zln,e2,h3];rfl
    rw[e]
    refine za rfl rfl ?_
    refine za rfl rfl ?_
    exact⟨_,rfl,cr⟩
 ·have e1:zfj (x.mul x) a=true:=by simpa using h
  have hr:zq6 a=x:=by rw[hZ,e1];rfl
  refine Vdraw.mk' (by kernel_rfl) ?_
  refine za rfl rfl ?_
  refine ze (zd3 x) ?_
  refine za rfl rfl ?_
  refine ze (zvo (x.mul x) a) ?_
  refine⟨_,rfl,?_⟩
  refine⟨λh2=>?_,λh2=>?_⟩
  ·have e2:zfj (x.mul x) a=false:=by simpa using h2
   have e:zdk a=(⟨0,0,0,0,0⟩,false):=by rw[zdk,hr,zln,e2];rfl
   rw[e]
   refine za rfl rfl ?_
   exact⟨_,rfl,cr⟩
  ·have e2:zfj (x.mul x) a=true:=by simpa using h2
   refine za rfl rfl ?_
   refine ze (z0y x) ?_
   refine⟨λh3=>?_,λh3=>?_⟩
   ·have e:zdk a=(Fe.sub ⟨0,0,0,0,0⟩ x,true):=by rw[zdk,hr,zln,e2,h3];rfl
    rw[e]
    refine za rfl rfl ?_
    refine ze (z0x x) ?_
    refine za rfl rfl ?_
    refine za rfl rfl ?_
    exact⟨_,rfl,cr⟩
   ·have e:zdk a=(x,true):=by rw[zdk,hr,zln,e2,h3];rfl
    rw[e]
    refine za rfl rfl ?_
    refine za rfl rfl ?_
    exact⟨_,rfl,cr⟩
attribute [irreducible] zdk
end
section
def zky(y:Fe):Fe:=((y.mul y).sub one).mul ((dC.mul (y.mul y)).add one).inv
theorem z6v(y:Fe):((y.mul y).sub one).mul ((dC.mul (y.mul y)).add one).inv=zky y:=rfl
attribute [irreducible] zky
theorem zdqb(y:Fe):zab Tryz.prog 218 [.ag y.v] (.r (.tu [.ag (zdk (zky y)).1.v, .b (zdk (zky y)).2])):=by
 refine zaa (T:=Tab) mixed Tab_ok Tryz.func218 rfl (by kernel_rfl) ?_
 refine za rfl rfl ?_
 refine ze (zd3 y) ?_
 refine Vdraw.mk' (by kernel_rfl) ?_
 refine za rfl rfl ?_
 refine ze zk2 ?_
 refine ze (zhj (y.mul y) one) ?_
 refine ze h_d ?_
 refine za rfl rfl ?_
 refine ze (zb1 dC (y.mul y)) ?_
 refine ze zk2 ?_
 refine ze (zgm (dC.mul (y.mul y)) one) ?_
 refine ze (zni ((dC.mul (y.mul y)).add one)) ?_
 refine ze (zb1 ((y.mul y).sub one) ((dC.mul (y.mul y)).add one).inv) ?_
 rw[z6v]
 refine ze (zdrb (zky y)) ?_
 refine za rfl rfl ?_
 exact⟨_,rfl,cr⟩
def zkq:Fe:=(numF 4).mul (numF 5).inv
theorem z6m:(numF 4).mul (numF 5).inv=zkq:=rfl
attribute [irreducible] zkq
def baseP:Pt:=Pt.of (zdk (zky zkq)).1 zkq
theorem zy0:zab Tryz.prog 147 [] (.r (.ag baseP.v)):=by
 refine zaa (T:=Tab) mixed Tab_ok Tryz.func147 rfl (by kernel_rfl) ?_
 refine ze h_n4 ?_
 refine ze h_n5 ?_
 refine ze (zni (numF 5)) ?_
 refine ze (zb1 (numF 4) (numF 5).inv) ?_
 rw[z6m]
 refine za rfl rfl ?_
 refine ze (zdqb zkq) ?_
 refine za rfl rfl ?_
 refine za rfl rfl ?_
 refine ze (z9h (zdk (zky zkq)).1 zkq) ?_
 refine za rfl rfl ?_
 exact cr
attribute [irreducible] baseP
end
section
theorem zfgb{l:List UInt64}{j:Nat}(h:j<l.length):(l.map W)[j*1]?=some (W (l.getD j 0)):=by
 rw[Nat.mul_one,List.getElem?_map,List.getElem?_eq_getElem h,List.getD_eq_getElem?_getD,List.getElem?_eq_getElem h]
 rfl
def mL(a b w:UInt64):UInt64:=a*b+w+0
def mIn(a:UInt64)(y:S4)(w:List UInt64)(i:Nat):Nat->List UInt64×UInt64
 |0=>(w,0)
 |k+1=>
  let s:=mIn a y w i k
  let b:=y.l.getD k 0
  let v:=s.1.getD (i+k) 0
  (s.1.set (i+k) (mL a b v+s.2+0),(mulH a b+carW (a*b) v 0)+carW (mL a b v) s.2 0)
theorem zv6(a:UInt64)(y:S4)(w:List UInt64)(i:Nat):mIn a y w i 0=(w,0):=rfl
theorem zo0(a:UInt64)(y:S4)(w:List UInt64)(i k:Nat):mIn a y w i (k+1)=((mIn a y w i k).1.set (i+k) (mL a (y.l.getD k 0) ((mIn a y w i k).1.getD (i+k) 0)+(mIn a y w i k).2+0),(mulH a (y.l.getD k 0)+carW (a*(y.l.getD k 0)) ((mIn a y w i k).1.getD (i+k) 0) 0)+carW (mL a (y.l.getD k 0) ((mIn a y w i k).1.getD (i+k) 0)) (mIn a y w i k).2 0):=rfl
theorem zr7(a:UInt64)(y:S4)(w:List UInt64)(i:Nat): ∀k,(mIn a y w i k).1.length=w.length
 |0=>rfl
 |k+1=>by rw[zo0,List.length_set,zr7 a y w i k]
attribute [irreducible] mIn
def mOut(x y:S4):Nat->List UInt64
 |0=>List.replicate 8 0
 |i+1=>(mIn (x.l.getD i 0) y (mOut x y i) i 4).1.set (i+4) (mIn (x.l.getD i 0) y (mOut x y i) i 4).2
theorem z4w(x y:S4):mOut x y 0=List.replicate 8 0:=rfl
theorem ztg(x y:S4)(i:Nat):mOut x y (i+1)=(mIn (x.l.getD i 0) y (mOut x y i) i 4).1.set (i+4) (mIn (x.l.getD i 0) y (mOut x y i) i 4).2:=rfl
theorem zlb(x y:S4): ∀i,(mOut x y i).length=8
 |0=>by simp[mOut]
 |i+1=>by rw[ztg,List.length_set,zr7,zlb x y i]
attribute [irreducible] mOut
def S4.mul(x y:S4):S4:=znq (mOut x y 4)
def smO1(x y:S4)(i:Nat):St:={F:=[(3, .own 1),(4, .own 2),(5, .own 3),(16, .r (.ag x.v)),(17, .r (I i))],O:=[(1,some y.bx),(2,some (S4.bx ⟨0,0,0,0⟩)),(3,some (.ch 107 1 8 ((mOut x y i).map W) false))],nx:=4}
def smI1(x y:S4)(i k:Nat):St:={F:=[(3, .own 1),(4, .own 2),(5, .own 3),(16, .r (.ag x.v)),(17, .r (I i)),(6, .r (I i)),(7, .r (W (x.l.getD i 0))),(8, .r (W (mIn (x.l.getD i 0) y (mOut x y i) i k).2)),(22, .r (.ag y.v)),(23, .r (I k))],O:=[(1,some y.bx),(2,some (S4.bx ⟨0,0,0,0⟩)),(3,some (.ch 107 1 8 ((mIn (x.l.getD i 0) y (mOut x y i) i k).1.map W) false))],nx:=4}
theorem zs8:(List.replicate ((8:Int).toNat) ([Value.int .u64 0].map ofC)).flatten=(List.replicate 8 (0:UInt64)).map W:=by simp[ofC]
set_option maxHeartbeats 4000000 in
theorem zbcb(x y:S4):zab Tryz.prog 192 [.ag x.v, .ag y.v] (.r (.ag (x.mul y).v)):=by
 refine zaa (T:=Tab) mixed Tab_ok Tryz.func192 rfl (by kernel_rfl) ?_
 refine⟨rfl,by decide,by decide,by decide,_,_,rfl,zs8,Vpub.own ?_⟩
 refine za rfl rfl ?_
 refine zx (smO1 x y) (λi=>i<=4) (λi=>4-i) 0 (by omega) (zac [(1,1),(2,2),(3,3)] rfl ⟨rfl,rfl,rfl,cr,cr,trivial⟩ ⟨⟨_,_,rfl,cr,_,_,rfl,cr,_,_,rfl,cr,_,_,rfl,cr,rfl⟩,⟨_,_,rfl,cr,_,_,rfl,cr,_,_,rfl,cr,_,_,rfl,cr,rfl⟩,⟨rfl,rfl,rfl,rfl,by rw[z4w];exact zn _⟩,trivial⟩) ?_
 intro i hi
 refine zh (λh=>zp ?_) (λh=>zq ?_)
 ·simp only[zb]at h
  have hi':i<4:=by omega
  refine zm (by omega) (by omega) (z05 (l:=x.l) rfl (by show i<4;omega)) ?_
  refine za rfl rfl ?_
  refine zx (smI1 x y i) (λk=>k<=4) (λk=>4-k) 0 (by omega) (zac [(1,1),(2,2),(3,3)] rfl ⟨rfl,rfl,rfl,cr,cr,cr,cr,by rw[zv6];exact cr,cr,cr,trivial⟩ ⟨⟨_,_,rfl,cr,_,_,rfl,cr,_,_,rfl,cr,_,_,rfl,cr,rfl⟩,⟨_,_,rfl,cr,_,_,rfl,cr,_,_,rfl,cr,_,_,rfl,cr,rfl⟩,⟨rfl,rfl,rfl,rfl,by rw[zv6];exact zn _⟩,trivial⟩) ?_
  intro k hk
  have hL:(mIn (x.l.getD i 0) y (mOut x y i) i k).1.length=8:=by rw[zr7,zlb]
  refine zh (λh=>zp ?_) (λh=>zq ?_)
  ·simp only[zb]at h
   have hk':k<4:=by omega
   refine zm (by omega) (by omega) (z05 (l:=y.l) rfl (by show k<4;omega)) ?_
   refine ze (zr0 (x.l.getD i 0) (y.l.getD k 0)) ?_
   refine zd (m:=((i+k:Nat):Int)) (by omega) (by omega) ?_
   refine Vadr.mk' (i+k) rfl (by omega) ?_
   refine zg (zfgb (by rw[hL];omega)) ?_
   refine Vcall.ext (zf5 (x.l.getD i 0*y.l.getD k 0) _ 0 (by decide)) ?_
   refine Vint.wadd _ _ rfl rfl ?_
   refine Vcall.ext (zf5 (mL (x.l.getD i 0) (y.l.getD k 0) ((mIn (x.l.getD i 0) y (mOut x y i) i k).1.getD (i+k) 0)) (mIn (x.l.getD i 0) y (mOut x y i) i k).2 0 (by decide)) ?_
   refine zd (m:=((i+k:Nat):Int)) (by omega) (by omega) ?_
   refine Vint.wadd _ _ rfl rfl ?_
   refine Vadr.mk' (i+k) rfl (by omega) ?_
   refine⟨by rw[List.length_map,hL];show(i+k)*1+1<=8;omega,(mIn (x.l.getD i 0) y (mOut x y i) i (k+1)).1.map W,?_,?_⟩
   ·rw[zo0,Nat.mul_one]
    exact zc0 (by rw[hL];omega)
   refine zd (m:=((k+1:Nat):Int)) (by omega) (by omega) ?_
   exact⟨k+1,by omega,by omega,zac [(1,1),(2,2),(3,3)] rfl ⟨rfl,rfl,rfl,cr,cr,cr,cr,by rw[zo0];exact cr,cr,cr,trivial⟩ ⟨⟨_,_,rfl,cr,_,_,rfl,cr,_,_,rfl,cr,_,_,rfl,cr,rfl⟩,⟨_,_,rfl,cr,_,_,rfl,cr,_,_,rfl,cr,_,_,rfl,cr,rfl⟩,⟨rfl,rfl,rfl,rfl,zn _⟩,trivial⟩⟩
  ·simp only[zb]at h
   obtain rfl:k=4:=by omega
   refine zd (m:=((i+4:Nat):Int)) (by omega) (by omega) ?_
   refine Vadr.mk' (i+4) rfl (by omega) ?_
   refine⟨by rw[List.length_map,hL];show(i+4)*1+1<=8;omega,(mOut x y (i+1)).map W,?_,?_⟩
   ·rw[ztg,Nat.mul_one]
    exact zc0 (by rw[hL];omega)
   refine zd (m:=((i+1:Nat):Int)) (by omega) (by omega) ?_
   exact⟨i+1,by omega,by omega,zac [(1,1),(2,2),(3,3)] rfl ⟨rfl,rfl,rfl,cr,cr,trivial⟩ ⟨⟨_,_,rfl,cr,_,_,rfl,cr,_,_,rfl,cr,_,_,rfl,cr,rfl⟩,⟨_,_,rfl,cr,_,_,rfl,cr,_,_,rfl,cr,_,_,rfl,cr,rfl⟩,⟨rfl,rfl,rfl,rfl,zn _⟩,trivial⟩⟩
 ·simp only[zb]at h
  obtain rfl:i=4:=by omega
  have hrd:=zvn (mOut x y 4) (by rw[zlb];omega)
  rw[<-z6f _ _ (zlb x y 4)]at hrd
  refine Vstep.sub (zbw (id:=3) rfl) (Vstep.val Tab_ok (ze hrd ?_))
  refine za rfl rfl ?_
  exact cr
end
end Go.Proofs.YtfjkblpnbgfkeaaGreat.Sx
