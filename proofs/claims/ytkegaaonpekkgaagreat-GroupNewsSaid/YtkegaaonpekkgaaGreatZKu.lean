import Derived.Test.YtkegaaonpekkgaaGreatZSxBx
import Derived.Test.YtkegaaonpekkgaaGreatZNt
import Derived.Lib.AppendZerosOnto
import Derived.Great.Walk
import Derived.WalkKit
import Derived.Deep.QuietTactic
import Derived.BigQuiet
import Derived.Deep.LoopGhost
import Derived.Deep.AppendLies
import Derived.IntWalk
namespace Go.Proofs.YtkegaaonpekkgaaGreat.Sx
open Go.RowKit
section
variable {P:Program} {T:TT} {S:St} {o:Oper}
theorem Vcode.scope2(hm:P.follows .mixedOrders=true)(hT:TOk P T){c1 c2 body:Code}{Q:Exit->St->Prop}(l:Nat){ι:Type}(inv:ι->St)(R:ι->Prop)(μ:ι->Nat)
  (hf:findLabel (.seq c1 (.seq c2 (.seq (.label l) body))) l=some (.seq .skip body))
  (first:vcg P T c1 S (λe S'=>e= .normal/\vcg P T c2 S' (λe S''=>e= .normal/\∃i,R i/\Sub S'' (inv i))))
  (pass: ∀i,R i->vcg P T body (inv i) (zhc l (λS'=>∃i',R i'/\μ i'<μ i/\Sub S' (inv i')) Q)):Vcode P (.scope (.seq c1 (.seq c2 (.seq (.label l) body)))) S Q:=by
 refine⟨λB N a w k Q' hs hd hQ=>?_⟩
 have hd0:za6 N (.seq c1 (.seq c2 (.seq (.label l) body)))=true:=by simpa only[za6]using hd
 have hd1:=hd0
 simp only[za6,Bool.and_eq_true,true_and]at hd1
 let J:Nat->Act->World->Prop:=λn a w=>∃i k,R i/\μ i=n/\Sat B N (inv i) a w k
 refine wp_scope_jumps l (λa w=>∃n,J n a w) (λa w=>leastOf (λn=>J n a w)) hf ?_ ?_
 ·refine wp_seq (zaz hm hT c1 S _ first B N a w k _ hs hd1.1 λe S1 a1 w1 k1 hq1 hs1=>?_)
  obtain⟨rfl,hq1⟩:=hq1
  refine wp_seq (zaz hm hT c2 S1 _ hq1 B N a1 w1 k1 _ hs1 hd1.2.1 λe S2 a2 w2 k2 hq2 hs2=>?_)
  obtain⟨rfl,i,hR,hsub⟩:=hq2
  obtain⟨k3,hs3⟩:=hsub B N a2 w2 k2 hs2
  refine wp_seq (wp_label ?_)
  refine zaz hm hT body (inv i) _ (pass i hR) B N a2 w2 k3 _ hs3 hd1.2.2 λe S' a' w' k' hq hs'=>?_
  cases e with
  |goto l'=>
   simp only[zhc]at hq
   split at hq
   ·rename_i hb
    obtain⟨i',hR',_,hsub⟩:=hq
    obtain⟨k2,hs2⟩:=hsub B N a' w' k' hs'
    exact⟨Nat.eq_of_beq_eq_true hb,μ i',i',k2,hR',rfl,hs2⟩
   ·exact hq.elim
  |_=>exact hQ _ S' a' w' k' hq hs'
 ·intro a1 w1 hJ
  obtain⟨i,k1,hR,hμ,hs1⟩:=(leastOf_spec hJ).1
  refine wp_seq (wp_skip ?_)
  refine zaz hm hT body (inv i) _ (pass i hR) B N a1 w1 k1 _ hs1 hd1.2.2 λe S' a' w' k' hq hs'=>?_
  cases e with
  |goto l'=>
   simp only[zhc]at hq
   split at hq
   ·rename_i hb
    obtain⟨i',hR',hlt,hsub⟩:=hq
    obtain⟨k2,hs2⟩:=hsub B N a' w' k' hs'
    have hJ':J (μ i') a' w':=⟨i',k2,hR',rfl,hs2⟩
    refine⟨Nat.eq_of_beq_eq_true hb,⟨μ i',hJ'⟩,?_⟩
    exact Nat.lt_of_le_of_lt ((leastOf_spec ⟨_,hJ'⟩).2 _ hJ') (by rw[<-hμ];exact hlt)
   ·exact hq.elim
  |_=>exact hQ _ S' a' w' k' hq hs'
theorem Vcode.scope3(hm:P.follows .mixedOrders=true)(hT:TOk P T){c1 c2 c3 body:Code}{Q:Exit->St->Prop}(l:Nat){ι:Type}(inv:ι->St)(R:ι->Prop)(μ:ι->Nat)
  (hf:findLabel (.seq c1 (.seq c2 (.seq c3 (.seq (.label l) body)))) l=some (.seq .skip body))
  (first:vcg P T c1 S (λe S'=>e= .normal/\vcg P T c2 S' (λe S2=>e= .normal/\vcg P T c3 S2 (λe S''=>e= .normal/\∃i,R i/\Sub S'' (inv i)))))
  (pass: ∀i,R i->vcg P T body (inv i) (zhc l (λS'=>∃i',R i'/\μ i'<μ i/\Sub S' (inv i')) Q)):Vcode P (.scope (.seq c1 (.seq c2 (.seq c3 (.seq (.label l) body))))) S Q:=by
 refine⟨λB N a w k Q' hs hd hQ=>?_⟩
 have hd0:za6 N (.seq c1 (.seq c2 (.seq c3 (.seq (.label l) body))))=true:=by simpa only[za6]using hd
 have hd1:=hd0
 simp only[za6,Bool.and_eq_true,true_and]at hd1
 let J:Nat->Act->World->Prop:=λn a w=>∃i k,R i/\μ i=n/\Sat B N (inv i) a w k
 refine wp_scope_jumps l (λa w=>∃n,J n a w) (λa w=>leastOf (λn=>J n a w)) hf ?_ ?_
 ·refine wp_seq (zaz hm hT c1 S _ first B N a w k _ hs hd1.1 λe S1 a1 w1 k1 hq1 hs1=>?_)
  obtain⟨rfl,hq1⟩:=hq1
  refine wp_seq (zaz hm hT c2 S1 _ hq1 B N a1 w1 k1 _ hs1 hd1.2.1 λe S2 a2 w2 k2 hq2 hs2=>?_)
  obtain⟨rfl,hq2⟩:=hq2
  refine wp_seq (zaz hm hT c3 S2 _ hq2 B N a2 w2 k2 _ hs2 hd1.2.2.1 λe S2 a2 w2 k2 hq2 hs2=>?_)
  obtain⟨rfl,i,hR,hsub⟩:=hq2
  obtain⟨k3,hs3⟩:=hsub B N a2 w2 k2 hs2
  refine wp_seq (wp_label ?_)
  refine zaz hm hT body (inv i) _ (pass i hR) B N a2 w2 k3 _ hs3 hd1.2.2.2 λe S' a' w' k' hq hs'=>?_
  cases e with
  |goto l'=>
   simp only[zhc]at hq
   split at hq
   ·rename_i hb
    obtain⟨i',hR',_,hsub⟩:=hq
    obtain⟨k2,hs2⟩:=hsub B N a' w' k' hs'
    exact⟨Nat.eq_of_beq_eq_true hb,μ i',i',k2,hR',rfl,hs2⟩
   ·exact hq.elim
  |_=>exact hQ _ S' a' w' k' hq hs'
 ·intro a1 w1 hJ
  obtain⟨i,k1,hR,hμ,hs1⟩:=(leastOf_spec hJ).1
  refine wp_seq (wp_skip ?_)
  refine zaz hm hT body (inv i) _ (pass i hR) B N a1 w1 k1 _ hs1 hd1.2.2.2 λe S' a' w' k' hq hs'=>?_
  cases e with
  |goto l'=>
   simp only[zhc]at hq
   split at hq
   ·rename_i hb
    obtain⟨i',hR',hlt,hsub⟩:=hq
    obtain⟨k2,hs2⟩:=hsub B N a' w' k' hs'
    have hJ':J (μ i') a' w':=⟨i',k2,hR',rfl,hs2⟩
    refine⟨Nat.eq_of_beq_eq_true hb,⟨μ i',hJ'⟩,?_⟩
    exact Nat.lt_of_le_of_lt ((leastOf_spec ⟨_,hJ'⟩).2 _ hJ') (by rw[<-hμ];exact hlt)
   ·exact hq.elim
  |_=>exact hQ _ S' a' w' k' hq hs'
theorem Vstep.boxPub{t e:TypeId}{ti te:TI}{x:Operand}{id n:Nat}{vs:List RV}{K:St->Prop}(hT:TOk P T)(hop:o.op= .slice t x none none none)(hti:tget T t=some ti)(hk:ti.k= .array n e)(hte:tget T e=some te)(hsz:te.sz=1)
  (hx:opr S x=some (.own id)) (ho:oget S.O id=some (.box (vs.map .r))) (hn:vs.length=n) (h0:0<n) (hn2:n<=1000000000) (hK:newK (S.set id none) o.dst (.r (.sl 1 n vs)) none K):Vstep P S o K:=by
 rw[zaw]at hK
 refine Vstep.one (λB N a w k Q ⟨g,hs⟩ hd=>?_) hK
 obtain⟨q,hq⟩:=hT.get hti
 obtain⟨d,hdd,hko,_⟩:=q.desc
 rw[hq]at hdd
 rw[hk]at hko
 simp only[KOk]at hko
 subst hko
 obtain⟨qe,hqe⟩:=hT.get hte
 have hsize:=zba (w:=w) qe hqe
 have hxv:=(zaf hs hx).2
 simp only[TF.at_]at hxv
 obtain⟨b,k',hg,hle,hb,hc,h⟩:=hs.pub ho
 have hrun:=zjh (P:=P) (w:=w) (b:=b) (lo:=0) (hi:=(n:Int)) (vl:=none) (vh:=none) hdd hsize (Int.le_refl _) (by omega) (by omega) (by omega) (.inl ⟨rfl,rfl⟩) (.inl ⟨rfl,rfl⟩)
 simp only[Int.toNat_zero,Nat.zero_mul,Nat.add_zero,Nat.sub_zero,Int.toNat_natCast]at hrun
 have hev:a.eval x= .pointer (some ⟨b,0,none⟩):=by rw[hxv,hg]
 refine zau (v:= .slice (some ⟨b,0,none⟩) n n) (w':=w) (by simp[execOp,hop,hev,hrun]) ⟨k',g,h.put hd trivial ?_⟩
 simp only[TF.at_,RV.at_]
 exact⟨_,n,rfl,Nat.le_refl _,by simp only[maxLen];omega,by rw[Nat.mul_one];exact hn,λ_=>⟨b,0,rfl,hb,hc⟩⟩
theorem Vstep.boxCh{t e:TypeId}{ti te:TI}{x:Operand}{id n:Nat}{vs:List RV}{K:St->Prop}(hT:TOk P T)(hop:o.op= .slice t x none none none)(hti:tget T t=some ti)(hk:ti.k= .array n e)(hte:tget T e=some te)(hsz:te.sz=1)
  (hx:opr S x=some (.own id)) (ho:oget S.O id=some (.box (vs.map .r))) (hn:vs.length=n) (h0:0<n) (hn2:n<=1000000000) (hK:newK (S.set id none) o.dst (.own S.nx) (some (.ch e te.sz n vs true)) K):Vstep P S o K:=by
 rw[zaw]at hK
 refine Vstep.one (λB N a w k Q ⟨g,hs⟩ hd=>?_) hK
 obtain⟨q,hq⟩:=hT.get hti
 obtain⟨d,hdd,hko,_⟩:=q.desc
 rw[hq]at hdd
 rw[hk]at hko
 simp only[KOk]at hko
 subst hko
 obtain⟨qe,hqe⟩:=hT.get hte
 have hsize:=zba (w:=w) qe hqe
 have hxv:=(zaf hs hx).2
 simp only[TF.at_]at hxv
 obtain⟨b,k',hg,hle,hb,hc,h⟩:=hs.pub ho
 have hrun:=zjh (P:=P) (w:=w) (b:=b) (lo:=0) (hi:=(n:Int)) (vl:=none) (vh:=none) hdd hsize (Int.le_refl _) (by omega) (by omega) (by omega) (.inl ⟨rfl,rfl⟩) (.inl ⟨rfl,rfl⟩)
 simp only[Int.toNat_zero,Nat.zero_mul,Nat.add_zero,Nat.sub_zero,Int.toNat_natCast]at hrun
 have hev:a.eval x= .pointer (some ⟨b,0,none⟩):=by rw[hxv,hg]
 refine zau (v:= .slice (some ⟨b,0,none⟩) n n) (w':=w) (by simp[execOp,hop,hev,hrun]) ⟨k',_,h.adopt (dst:=o.dst) hd (o:= .ch e te.sz n vs true) (vb:=(.slice (some ⟨b,0,none⟩) n n,none)) trivial ⟨by rw[hsz,Nat.mul_one];exact hn, .inl ⟨rfl, .inr ⟨h0,rfl,b,0,rfl,by simp only[maxLen];omega,hb,hc⟩⟩⟩ (λb hb=>by cases hb) (λi o' b _ hb=>by cases hb)⟩
end
theorem zctb(n:Nat)(hn:n<=100000000000):aG 238 [I n] (bch (zhk n)):=by
 refine aT Tryz.func238 rfl ?_
 have hz:=zoj n
 have zer: ∀j,List.replicate j (0:UInt8)++[0]=List.replicate (j+1) 0:=λj=>by rw[List.replicate_succ']
 have hl: ∀j,(128::List.replicate j (0:UInt8)).length=1+j:=λj=>by simp;omega
 refine zw ?_
 refine zy (λj:Nat=>⟨[(0, .r (I n)),(3, .own 0)],[(0,some (.ch 5 1 (128::List.replicate j (0:UInt8)).length ((128::List.replicate j (0:UInt8)).map U8) true))],1⟩) (λj=>j<=zb7 n) (λj=>zb7 n-j) 0 (by omega)
  (zac [(0,0)] rfl ⟨cr,rfl,trivial⟩ ⟨⟨rfl,rfl,rfl,rfl,zn _⟩,trivial⟩) ?_
 intro j hj
 have hlj:=hl j
 refine zd (m:=((n+(1+j):Nat):Int)) (by omega) (by omega) ?_
 refine Vrem.nat (n+(1+j)) 64 rfl rfl (by decide) ?_
 refine zh (λh=>zp ?_) (λh=>zq ?_)
 ·simp only[zb]at h
  have hj':j<zb7 n:=by unfold zb7 at*;omega
  refine zw ?_
  refine Vapp.mk' (j:=(128::List.replicate (j+1) (0:UInt8)).length) (zs:=(128::List.replicate (j+1) (0:UInt8)).map U8) (by rw[hlj];simp only[maxLen];omega) (by rw[hlj];show(1+j+1)*1<=_;omega) (by rw[hlj,hl];omega)
   (by rw[<-zer];exact(List.map_append (f:=U8) (l₁:=128::List.replicate j (0:UInt8)) (l₂:=[0])).symm) ?_
  exact⟨j+1,by omega,by omega,zac [(0,_)] rfl ⟨cr,rfl,trivial⟩ ⟨zlj rfl,trivial⟩⟩
 simp only[zb]at h
 obtain rfl:j=zb7 n:=by unfold zb7 at*;omega
 obtain⟨B,hB⟩: ∃B,128::List.replicate (zb7 n) (0:UInt8)=B:=⟨_,rfl⟩
 rw[hB]at hlj⊢
 have ht:zhk n=B++beB 8 (n*8):=by rw[<-hB];rfl
 rw[ht]
 have hlb: ∀i,(B++(beB 8 (n*8)).take i).length<=B.length+8:=λi=>by rw[List.length_append,List.length_take,zak];omega
 refine zy (λi:Nat=>⟨[(0, .r (I n)),(3, .own 0),(4, .r (I (7-(i:Int))))],[(0,some (.ch 5 1 (B++(beB 8 (n*8)).take i).length ((B++(beB 8 (n*8)).take i).map U8) true))],1⟩) (λi=>i<=8) (λi=>8-i) 0 (by omega)
  (zac [(0,0)] rfl ⟨cr,rfl,cr,trivial⟩ ⟨zlj (by simp),trivial⟩) ?_
 intro i hi
 have hli:=hlb i
 refine zh (λh2=>zp ?_) (λh2=>zq ?_)
 ·simp only[zb]at h2
  have hi':i<8:=by omega
  have hb:=zp1 (n:=n*8) hi'
  refine Vint.nat (.inl rfl) n rfl (by omega) ?_
  refine Vint.nat (.inl rfl) (n*8) rfl (by omega) ?_
  refine zd (m:=((8*(7-i):Nat):Int)) (by omega) (by omega) ?_
  refine Vshr.nat (.inl rfl) (n*8) (8*(7-i)) (n*8/256^(8-1-i)) rfl rfl (by omega) (by rw[z90]) ?_
  refine Vint.u8 (n*8/256^(8-1-i)) rfl ?_
  refine zw ?_
  refine Vapp.mk' (j:=(B++(beB 8 (n*8)).take (i+1)).length) (zs:=(B++(beB 8 (n*8)).take (i+1)).map U8) (by simp only[maxLen];omega) (by show((B++(beB 8 (n*8)).take i).length+1)*1<=_;omega) (by rw[hb];simp only[List.length_append,List.length_cons,List.length_nil];omega)
   (by rw[hb,<-List.append_assoc];exact(List.map_append (f:=U8) (l₁:=B++(beB 8 (n*8)).take i) (l₂:=[UInt8.ofNat (n*8/256^(8-1-i))])).symm) ?_
  refine zd (m:=7-((i+1:Nat):Int)) (by omega) (by omega) ?_
  exact⟨i+1,by omega,by omega,zac [(0,_)] rfl ⟨cr,rfl,cr,trivial⟩ ⟨zlj rfl,trivial⟩⟩
 ·simp only[zb]at h2
  obtain rfl:i=8:=by omega
  rw[List.take_of_length_le (by rw[zak];omega)]
  exact rfl
def smI3(M:List UInt8)(t:Nat):St:=⟨[(2, .own 0),(3, .own 1),(4, .r (bs (M.drop (64*t))))],[(0,some (.box ((List.replicate 32 (U8 0)).map .r))),(1,some (bH (runH t h0Tab M)))],2⟩
theorem z3a(M:List UInt8)(t:Nat):stOk [(0,0),(1,1)] (smI3 M t)=true:=rfl
set_option maxRecDepth 100000 in
set_option maxHeartbeats 4000000 in
theorem zg0b(b:List UInt8)(hb:b.length<=100000000000):aG 139 [bs b] (.r (.ag ((shaB b).map U8))):=by
 refine aT Tryz.func139 rfl ?_
 obtain⟨M,hM⟩: ∃M,b++zhk b.length=M:=⟨_,rfl⟩
 have hMl:M.length=b.length+(9+zb7 b.length):=by rw[<-hM,List.length_append,zof]
 have hz:=zoj b.length
 have hM64:=zyx b.length
 obtain⟨T,hT⟩: ∃T,M.length=64*T:=⟨M.length/64,by rw[hMl];omega⟩
 have htl:=zof b.length
 refine Vcode.scope2 mixed Tab_ok 0 (smI3 M) (λt=>t<=T) (λt=>T-t) rfl ?_ ?_
 ·refine ze z7u ?_
  refine⟨rfl,?_⟩
  refine ze (zxd b (by omega)) ?_
  refine ze (zctb b.length hb) ?_
  refine Vapp.mk' (j:=M.length) (zs:=M.map U8) (by simp only[maxLen];omega) (by show(b.length+(zhk b.length).length)*1<=_;omega) (by rw[<-hM,List.length_append]) (by rw[<-hM,List.map_append]) ?_
  exact⟨rfl,0,by omega,zac [(0,0),(1,1)] (z3a M 0) ⟨rfl,rfl,cr,trivial⟩ ⟨zae (List.replicate 32 (U8 0)),(aD aZ),trivial⟩⟩
 ·intro t ht
  have hdl:(M.drop (64*t)).length=64*(T-t):=by rw[List.length_drop,hT];omega
  refine zh (λh=>zp ?_) (λh=>zq ?_)
  ·simp only[zb]at h
   have ht':t<T:=by omega
   have hl64:((M.drop (64*t)).take 64).length=64:=by rw[List.length_take,hdl];omega
   refine⟨by decide,by decide,by omega,64,((M.drop (64*t)).take 64).map U8,by decide,by rw[List.map_take];rfl,?_⟩
   have hst:=zxy
   have hr:=zn5 t h0Tab M
   have hok:=zo6 t h0Tab M z4l
   unfold smI3
   refine Vstep.actsBox (l:=vH (runH t h0Tab M)) (l':=vH (zmm (runH t h0Tab M) ((M.drop (64*t)).take 64))) (args:=[.own 0, .r (bs ((M.drop (64*t)).take 64))]) 1 (λv=>zxy v (runH t h0Tab M) ((M.drop (64*t)).take 64) hok hl64) (zi rfl ⟨_,_,rfl,rfl,_,_,rfl,zf (by rw[bs,hl64]),rfl⟩) rfl ?_
   refine⟨by decide,by omega,by omega,64*(T-(t+1)),(M.drop (64*(t+1))).map U8,by omega,by rw[<-List.map_drop,List.drop_drop,List.take_of_length_le (by rw[List.length_map,List.length_drop];omega)];rfl,?_⟩
   exact⟨t+1,by omega,by omega,zac [(0,0),(1,1)] (z3a M (t+1)) ⟨rfl,rfl,zf (by rw[bs,List.length_drop,hT];congr 1;omega),trivial⟩ ⟨zae (List.replicate 32 (U8 0)),by rw[hr];exact⟨_,_,rfl,cr,_,_,rfl,cr,_,_,rfl,cr,_,_,rfl,cr,_,_,rfl,cr,_,_,rfl,cr,_,_,rfl,cr,_,_,rfl,cr,rfl⟩,trivial⟩⟩
  ·simp only[zb]at h
   obtain rfl:t=T:=by omega
   have he:shaB b=outH (runH t h0Tab M):=by unfold shaB;rw[hM,hT,Nat.mul_div_cancel_left _ (by decide)]
   have hok:=zo6 t h0Tab M z4l
   rw[he]
   unfold smI3
   generalize runH t h0Tab M=s at*
   obtain⟨a,b,c,d,e,f,g,i⟩:=s
   refine za rfl rfl ?_
   refine Vloop.rounds 9 ?_
   repeat' ((conv=>whnf);first|refine Vrounds.step mixed Tab_ok ?_|refine zt rfl (zp ?_)|refine zu rfl (zq ?_)|refine zm (by decide) (by decide) rfl ?_|refine Vadr.any (by decide) ?_|refine Vint.any (k:= .i64) ?_|refine Vshr.n32 _ 24 _ rfl rfl (by decide) rfl ?_|refine Vshr.n32 _ 16 _ rfl rfl (by decide) rfl ?_|refine Vshr.n32 _ 8 _ rfl rfl (by decide) rfl ?_|refine Vint.u8 _ rfl ?_|refine za rfl rfl ?_)
   refine zf (congrArg RV.ag ?_)
   simp[outH,H8.list,beB]
theorem zfrb{a w:World}(h:Ext a w)(o:Obj):Ext a (w.alloc o):=Below.alloc h h.size o
theorem ziyb{a w:World}(h:Ext a w):Ext a w.drew:=Below.drew h
theorem z1b{P:Program}{ops:Array Oper}{rest:List Oper}{o:Oper}{a:Act}{w:World}{Q:Exit->Act->World->Prop}(hgd:o.guard=none)(s x:Operand)(t u:TypeId)
  (ho:o.op= .call {callee:= .builtin .append,args:= #[s,x],argTypes:= #[t,u]}) {v y v':Value} {w':World} (hs:a.eval s=v) (hx:a.eval x=y)
  (hr:(Builtin.append_ #[t,u] o.type #[v,y]).run P w= .ok v' w') (h:wpList P ops Q rest (a.put o.dst v') w'):wpList P ops Q (o::rest) a w:=by
 refine wpList_plain hgd λK hK=>?_
 unfold Oper.wp execOp
 simp only[ho,resolve,invoke,builtin,Sem.run_bind,Sem.run_pure,Result.andThen_ok,List.map_toArray,List.map_cons,List.map_nil,hs,hx,hr]
 exact hK _ _ h
structure Stop (p:Prop):Prop where
 out:p
theorem Stop.on{p:Prop}(h:Stop p):p:=h.out
set_option maxRecDepth 100000 in
theorem zbvb(n:Nat)(w:World)(k:Kp)(hn:n<=1000000000000):
  Calls Tryz.prog 140 #[.slice none 0 0, .int .i64 (n:Int)] w λe w'=>∃v,e= .returned v/\Ext w w'/\∃k':Kp,(∀b,b<w.heap.size->k' b=k b)/\(bch []).at_ w.heap.size w' k' v:=by
 rcases Nat.eq_zero_or_pos n with rfl |hpos
 ·go_enter Tryz.func140,Tryz.ntmps140
  go_wp2_with fail
  go_ret
  exact⟨_,rfl,Ext.refl _,k,λ_ _=>rfl,none,⟨rfl, .inl ⟨rfl, .inl ⟨rfl,none,rfl⟩⟩⟩,λb h=>by cases h⟩
 ·have hi0:(Tryz.prog.info? 5).map (λi=>(i.zero,i.size,i.bytes))=some (some (.int .u8 0),1,1):=by kernel_rfl
  obtain⟨i0,hi,hz⟩:=Option.map_eq_some_iff.1 hi0
  simp only[Prod.mk.injEq]at hz
  obtain⟨hz0,hz1,hz2⟩:=hz
  have hr:=λty=>Lib.run_append_grow_zeros w 22 3 ty 5 i0 (.int .u8 0) .i64 .i64 Tryz.underlying22 Tryz.underlying3 hi hz0 none 0 0 [] (run_firstCells_none w.drew i0.size 0 0 0) n hpos (by rw[hz1];decide) (by omega) (by omega) (by rw[hz2];omega) (growslice_fits (by omega) (by rw[hz2];omega))
  simp only[Nat.zero_add]at hr
  have hge:=grownCap_ge w n 0 5
  have hle:=grownCap_le_maxLen w n 0 5 (by unfold maxLen;omega)
  have hcs:((([]:List Value).toArray++Builtin.zeroCells (Value.int .u8 0).cells n++Builtin.zeroCells (Value.int .u8 0).cells (grownCap w n 0 5-n))).size=grownCap w n 0 5:=by
   simp only[Array.size_append,List.size_toArray,size_zeroCells,show(Value.int IntKind.u8 0).cells.size=1 from rfl]
   simp only[List.length_nil];omega
  generalize grownCap w n 0 5=G at*
  generalize ([]:List Value).toArray++Builtin.zeroCells (Value.int .u8 0).cells n++Builtin.zeroCells (Value.int .u8 0).cells (G-n)=cs at*
  unfold maxLen at hle
  go_enter Tryz.func140,Tryz.ntmps140
  go_wp2_with (first|(at_builtin;refine Stop.on ?_))
  refine Stop.mk (z1b rfl (.tmp 20) (.tmp 21) _ _ rfl rfl rfl (hr _) ?_)
  clear hr
  go_wp2_with fail
  go_ret
  exact⟨_,rfl,zfrb (ziyb (Ext.refl _)) _,kset k w.heap.size 0,λb hb=>zcc b hb,some w.heap.size,⟨rfl, .inr ⟨w.heap.size,G,cs,rfl,rfl,heap_alloc_new w.drew _,Nat.zero_le _,by unfold maxLen;omega,by simpa using Nat.le_of_eq hcs.symm,by simp[zby],by simp[RV.listAt]⟩⟩,λb hb=>by cases hb;exact Nat.le_refl _⟩
theorem zjfb(n:Nat)(hn:n<=1000000000000):aG 140 [.x (.slice none 0 0),I n] (bch []):=
 ⟨zdt Tryz.func140 rfl (by kernel_rfl),λw k vs hp=>by
  simp only[RV.partsAt,RV.at_]at hp
  obtain⟨_,_,rfl,rfl,_,_,rfl,rfl,rfl⟩:=hp
  exact zbvb n w k hn⟩
def bss(ls:List (List UInt8)):RV:= .sl 1 ls.length (ls.map bs)
theorem zt0(ls:List (List UInt8)){k:Nat}(hk:k<ls.length):(ls.take (k+1)).flatMap id=(ls.take k).flatMap id++ls[k]:=by
 rw[List.take_add_one,List.flatMap_append,List.getElem?_eq_getElem hk];simp
theorem z1k(ls:List (List UInt8))(k:Nat):((ls.take k).flatMap id).length<=(ls.flatMap id).length:=by
 have h:ls.flatMap id=(ls.take k).flatMap id++(ls.drop k).flatMap id:=by rw[<-List.flatMap_append,List.take_append_drop]
 rw[h,List.length_append];omega
theorem zgt(ls:List (List UInt8))(hl:(ls.flatMap id).length<=1000000000000):aG 64 [bss ls] (bch (ls.flatMap id)):=by
 refine zne (zdt Tryz.func64 rfl (by kernel_rfl)) λhml=>?_
 refine aT Tryz.func64 rfl ?_
 refine zy (λj:Nat=>⟨[(0, .r (bss ls)),(3, .r (I ((ls.take j).flatMap id).length)),(9, .r (bss ls)),(10, .r (I ls.length)),(11, .r (I j))],[],0⟩) (λj=>j<=ls.length) (λj=>ls.length-j) 0 (by omega) (zac [] rfl ⟨cr,cr,cr,cr,cr,trivial⟩ trivial) ?_
 intro j hj
 refine zh (λh=>zp ?_) (λh=>zq ?_)
 ·simp only[zb]at h
  have hj':j<ls.length:=by omega
  have e:=zt0 ls hj'
  have hb:=z1k ls (j+1)
  have hq:((ls.take (j+1)).flatMap id).length=((ls.take j).flatMap id).length+ls[j].length:=by rw[e,List.length_append]
  refine zm (by omega) (by omega) (za3 rfl hj') (zg rfl ?_)
  refine zd (m:=(((ls.take (j+1)).flatMap id).length:Int)) (by omega) (by omega) ?_
  refine zu (by simp only[zb];omega) (zq ?_)
  refine zd (m:=((j+1:Nat):Int)) (by omega) (by omega) ?_
  exact⟨j+1,by omega,by omega,zac [] rfl ⟨cr,cr,cr,cr,cr,trivial⟩ trivial⟩
 simp only[zb]at h
 obtain rfl:j=ls.length:=by omega
 rw[List.take_length]
 refine ze (zjfb _ hl) ?_
 refine zy (λj:Nat=>⟨[(6, .own 0),(25, .r (bss ls)),(26, .r (I ls.length)),(27, .r (I j))],[(0,some (.ch 5 1 ((ls.take j).flatMap id).length (((ls.take j).flatMap id).map U8) true))],1⟩) (λj=>j<=ls.length) (λj=>ls.length-j) 0 (by omega) (zac [(0,0)] rfl ⟨rfl,cr,cr,cr,trivial⟩ ⟨⟨rfl,rfl,rfl,rfl,zn _⟩,trivial⟩) ?_
 intro j hj
 refine zh (λh=>zp ?_) (λh=>zq ?_)
 ·simp only[zb]at h
  have hj':j<ls.length:=by omega
  have e:=zt0 ls hj'
  have hb:=z1k ls (j+1)
  have hq:((ls.take (j+1)).flatMap id).length=((ls.take j).flatMap id).length+ls[j].length:=by rw[e,List.length_append]
  refine zm (by omega) (by omega) (za3 rfl hj') (zg rfl ?_)
  refine Vapp.mk' (j:=((ls.take (j+1)).flatMap id).length) (zs:=((ls.take (j+1)).flatMap id).map U8) (by simp only[maxLen];omega) (by show(((ls.take j).flatMap id).length+ls[j].length)*1<=_;omega) hq.symm (by rw[e,List.map_append]) ?_
  refine zd (m:=((j+1:Nat):Int)) (by omega) (by omega) ?_
  exact⟨j+1,by omega,by omega,zac [(0,_)] rfl ⟨rfl,cr,cr,cr,trivial⟩ ⟨zlj rfl,trivial⟩⟩
 ·simp only[zb]at h
  obtain rfl:j=ls.length:=by omega
  rw[List.take_length]
  exact rfl
set_option maxRecDepth 100000 in
theorem zoq(ls:List (List UInt8))(hl:(ls.flatMap id).length<=100000000000):aG 63 [bss ls] (bch (shaB (ls.flatMap id))):=by
 refine aT Tryz.func63 rfl ?_
 have hsl:=zcd (ls.flatMap id)
 have h1:=zg0b (ls.flatMap id) hl
 generalize shaB (ls.flatMap id)=D at*
 refine ze (zgt ls (by omega)) ?_
 refine ze h1 ?_
 (conv=>whnf)
 generalize hq:(za8 _&&_)=q
 obtain rfl:=hq.symm.trans (zh0 (l:=D.map U8) 32 (by rw[List.length_map,hsl]) rfl)
 clear hq
 refine zeb (by rw[List.length_map,List.length_map,hsl];rfl) ?_
 refine Vstep.boxCh (n:=32) (vs:=D.map U8) Tab_ok rfl rfl rfl rfl rfl rfl rfl (by rw[List.length_map,hsl]) (by decide) (by decide) ?_
 unfold bch
 rw[hsl]
 exact rfl
end Go.Proofs.YtkegaaonpekkgaaGreat.Sx

namespace Go.Proofs.YtkegaaonpekkgaaGreat
theorem zhn(x t:Nat):x/2^t%2=(x.testBit t).toNat:=by
 rw[Nat.testBit_eq_decide_div_mod_eq]
 have:x/2^t%2<2:=Nat.mod_lt _ (by omega)
 by_cases h:x/2^t%2=1
 ·simp[h]
 ·simp[h];omega
theorem zym(x t:Nat):x%2^(t+1)=x%2^t+x/2^t%2*2^t:=by rw[Nat.pow_succ,Nat.mod_mul,Nat.mul_comm]
theorem zhgb{e t:Nat}(he:e<4294967296)(ht:t<32):(4294967295-e).testBit t= !e.testBit t:=by
 have h:=Nat.testBit_two_pow_sub_succ (x:=e) (n:=32) (by simpa using he) t
 rw[show 2^32-(e+1)=4294967295-e by omega]at h
 rw[h];simp[ht]
theorem zfpb{e f g t:Nat}(he:e<4294967296)(ht:t<32):
  (e/2^t%2=1->chN e f g%2^(t+1)=chN e f g%2^t+f/2^t%2*2^t)/\(¬e/2^t%2=1->chN e f g%2^(t+1)=chN e f g%2^t+g/2^t%2*2^t):=by
 have hb:(chN e f g).testBit t=((e.testBit t&&f.testBit t)^^(!e.testBit t&&g.testBit t)):=by
  unfold chN
  rw[Nat.testBit_xor,Nat.testBit_and,Nat.testBit_and,zhgb he ht]
 rw[zym,zhn e,zhn f,zhn g,zhn (chN e f g),hb]
 cases e.testBit t<;>cases f.testBit t<;>cases g.testBit t<;>simp
theorem zl8{a b c t:Nat}:
  (2<=a/2^t%2+b/2^t%2+c/2^t%2->majN a b c%2^(t+1)=majN a b c%2^t+2^t)/\(¬2<=a/2^t%2+b/2^t%2+c/2^t%2->majN a b c%2^(t+1)=majN a b c%2^t):=by
 have hb:(majN a b c).testBit t=(((a.testBit t&&b.testBit t)^^(a.testBit t&&c.testBit t))^^(b.testBit t&&c.testBit t)):=by
  unfold majN
  rw[Nat.testBit_xor,Nat.testBit_xor,Nat.testBit_and,Nat.testBit_and,Nat.testBit_and]
 rw[zym,zhn a,zhn b,zhn c,zhn (majN a b c),hb]
 cases a.testBit t<;>cases b.testBit t<;>cases c.testBit t<;>simp
end Go.Proofs.YtkegaaonpekkgaaGreat

namespace Go.Proofs.YtkegaaonpekkgaaGreat.Sx
open Go.RowKit
def us(l:List Nat):RV:= .sl 1 l.length (l.map U64)
theorem Vbits.xor{a b:Int}{K:Int->Prop}(x y:Nat)(ha:a=(x:Int))(hb:b=(y:Int))(hx:x<18446744073709551616)(hy:y<18446744073709551616)(hK:K ((x^^^y:Nat):Int)):Vbits .u64 .xor a b K:=by
 subst ha;subst hb
 refine⟨_,?_,hK⟩
 have hxy:x^^^y<18446744073709551616:=Nat.xor_lt_two_pow (n:=64) hx hy
 have e: ∀z:Nat,z<18446744073709551616->(BitVec.ofInt 64 (z:Int)).toNat=z:=λz hz=>by
  rw[BitVec.toNat_ofInt];omega
 show((x^^^y:Nat):Int)=IntKind.u64.wrap (((BitVec.ofInt 64 (x:Int)^^^BitVec.ofInt 64 (y:Int)).toNat:Nat):Int)
 rw[BitVec.toNat_xor,e x hx,e y hy,zjj hxy]
theorem zsd{x:Nat}:rotr 0 x=x:=by simp[rotr,Nat.mod_one]
theorem z59{x i:Nat}(hi:i<32):rotr (i+1) x=rotr i x/2+rotr i x%2*2147483648:=by
 unfold rotr
 have h1:x/2^(i+1)=x/2^i/2:=by rw[Nat.pow_succ,Nat.div_div_eq_div_mul]
 have h2:x%2^(i+1)=x%2^i+2^i*(x/2^i%2):=by rw[Nat.pow_succ,Nat.mod_mul]
 have h3:2^(32-i)=2*2^(32-(i+1)):=by rw[show 32-i=(32-(i+1))+1 by omega,Nat.pow_succ,Nat.mul_comm]
 have h4:2^i*2^(32-(i+1))=2147483648:=by rw[<-Nat.pow_add,show i+(32-(i+1))=31 by omega]
 rw[h1,h2,h3]
 generalize x/2^i=r
 generalize x%2^i=m
 generalize 2^(32-(i+1))=p at*
 generalize 2^i=q at*
 have e1:m*(2*p)=2*(m*p):=by rw[Nat.mul_left_comm]
 have e2:(m+q*(r%2))*p=m*p+r%2*2147483648:=by
  rw[Nat.add_mul,<-h4,Nat.mul_comm q,Nat.mul_assoc]
 rw[e1,e2]
 omega
theorem zbn{x:Nat}(hx:x<4294967296): ∀{n:Nat},n<=31->rotr n x<4294967296
 |0,_=>by rw[zsd];exact hx
 |n+1,h=>zbj hx (by omega) h
theorem zfg(x n:Nat)(hx:x<4294967296)(hn:n<=31):aG 240 [U64 x,I n] (.r (U64 (rotr n x))):=by
 refine aT Tryz.func240 rfl ?_
 refine zy (λj:Nat=>{F:=[(0, .r (U64 (rotr j x))),(1, .r (I n)),(5, .r (I j))],O:=[],nx:=0}) (λj=>j<=n) (λj=>n-j) 0 (by omega) (zac [] rfl ⟨zf (by rw[zsd]),cr,cr,trivial⟩ trivial) ?_
 intro j hj
 refine zh (λh=>zp ?_) (λh=>zq ?_)
 ·simp only[zb]at h
  have hr:=zbn hx (show j<=31 by omega)
  refine Vquo.nat (rotr j x) 2 rfl rfl (by omega) (by omega) ?_
  refine Vrem.nat (rotr j x) 2 rfl rfl (by omega) ?_
  refine Vint.u64 (rotr j x%2*2147483648) (by omega) (by omega) ?_
  refine Vint.u64 (rotr j x/2+rotr j x%2*2147483648) (by omega) (by omega) ?_
  refine zd (m:=((j+1:Nat):Int)) (by omega) (by omega) ?_
  exact⟨j+1,by omega,by omega,zac [] rfl ⟨zf (by rw[z59 (by omega)]),cr,cr,trivial⟩ trivial⟩
 ·simp only[zb]at h
  obtain rfl:j=n:=by omega
  exact cr
theorem z1u(x n:Nat)(hx:x<4294967296)(hn:n<=31):aG 241 [U64 x,I n] (.r (U64 (x/2^n))):=by
 refine aT Tryz.func241 rfl ?_
 refine zy (λj:Nat=>{F:=[(0, .r (U64 (x/2^j))),(1, .r (I n)),(5, .r (I j))],O:=[],nx:=0}) (λj=>j<=n) (λj=>n-j) 0 (by omega) (zac [] rfl ⟨zf (by simp),cr,cr,trivial⟩ trivial) ?_
 intro j hj
 refine zh (λh=>zp ?_) (λh=>zq ?_)
 ·simp only[zb]at h
  have hr:=Nat.div_le_self x (2^j)
  refine Vquo.nat (x/2^j) 2 rfl rfl (by omega) (by omega) ?_
  refine zd (m:=((j+1:Nat):Int)) (by omega) (by omega) ?_
  exact⟨j+1,by omega,by omega,zac [] rfl ⟨zf (by rw[Nat.pow_succ,Nat.div_div_eq_div_mul]),cr,cr,trivial⟩ trivial⟩
 ·simp only[zb]at h
  obtain rfl:j=n:=by omega
  exact cr
set_option maxRecDepth 20000 in
theorem zfzb:aG 141 [] (.r (.tu [us h0Tab.list,us kTab])):=by
 refine aT Tryz.func141 rfl ?_
 refine zw ?_
 refine zw ?_
 exact⟨_,rfl,cr⟩
end Go.Proofs.YtkegaaonpekkgaaGreat.Sx
