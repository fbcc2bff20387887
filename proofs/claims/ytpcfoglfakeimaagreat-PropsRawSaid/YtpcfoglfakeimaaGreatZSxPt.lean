import Derived.Test.YtpcfoglfakeimaaGreatZNx
import Derived.Test.YtpcfoglfakeimaaGreatZNt
import Derived.Lib.AppendZerosOnto
import Derived.Great.Walk
import Derived.WalkKit
import Derived.Deep.QuietTactic
import Derived.BigQuiet
import Derived.Deep.LoopGhost
import Derived.Deep.AppendLies
import Derived.IntWalk
import Derived.Test.YtpcfoglfakeimaaGreatZKf
import Derived.Test.YtpcfoglfakeimaaGreatZSxY
import Derived.Test.YtpcfoglfakeimaaGreatZGeoB
namespace Go.Proofs.YtpcfoglfakeimaaGreat.Sx
open Go.RowKit
section
variable {P:Program} {T:TT} {S:St} {o:Oper}
theorem Vcode.scope2(hm:P.follows .mixedOrders=true)(hT:TOk P T){c1 c2 body:Code}{Q:Exit->St->Prop}(l:Nat){ι:Type}(inv:ι->St)(R:ι->Prop)(μ:ι->Nat)
  (hf:findLabel (.seq c1 (.seq c2 (.seq (.label l) body))) l=some (.seq .skip body))
  (first:vcg P T c1 S (λe S'=>e= .normal/\vcg P T c2 S' (λe S''=>e= .normal/\∃i,R i/\Sub S'' (inv i))))
  (pass: ∀i,R i->vcg P T body (inv i) (zg7 l (λS'=>∃i',R i'/\μ i'<μ i/\Sub S' (inv i')) Q)):Vcode P (.scope (.seq c1 (.seq c2 (.seq (.label l) body)))) S Q:=by
 refine⟨λB N a w k Q' hs hd hQ=>?_⟩
 have hd0:zau N (.seq c1 (.seq c2 (.seq (.label l) body)))=true:=by simpa only[zau]using hd
 have hd1:=hd0
 simp only[zau,Bool.and_eq_true,true_and]at hd1
 let J:Nat->Act->World->Prop:=λn a w=>∃i k,R i/\μ i=n/\Sat B N (inv i) a w k
 refine wp_scope_jumps l (λa w=>∃n,J n a w) (λa w=>leastOf (λn=>J n a w)) hf ?_ ?_
 ·refine wp_seq (zav hm hT c1 S _ first B N a w k _ hs hd1.1 λe S1 a1 w1 k1 hq1 hs1=>?_)
  obtain⟨rfl,hq1⟩:=hq1
  refine wp_seq (zav hm hT c2 S1 _ hq1 B N a1 w1 k1 _ hs1 hd1.2.1 λe S2 a2 w2 k2 hq2 hs2=>?_)
  obtain⟨rfl,i,hR,hsub⟩:=hq2
  obtain⟨k3,hs3⟩:=hsub B N a2 w2 k2 hs2
  refine wp_seq (wp_label ?_)
  refine zav hm hT body (inv i) _ (pass i hR) B N a2 w2 k3 _ hs3 hd1.2.2 λe S' a' w' k' hq hs'=>?_
  cases e with
  |goto l'=>
   simp only[zg7]at hq
   split at hq
   ·rename_i hb
    obtain⟨i',hR',_,hsub⟩:=hq
    obtain⟨k2,hs2⟩:=hsub B N a' w' k' hs'
    exact⟨Nat.eq_of_beq_eq_true hb,μ i',i',k2,hR',rfl,hs2⟩
   ·exact hq.elim
  |_=>exact hQ _ S' a' w' k' hq hs'
 ·intro a1 w1 hJ
  obtain⟨i,k1,hR,hμ,hs1⟩:=(leastOf_spec hJ).1
  refine wp_seq (wp_skip ?_)
  refine zav hm hT body (inv i) _ (pass i hR) B N a1 w1 k1 _ hs1 hd1.2.2 λe S' a' w' k' hq hs'=>?_
  cases e with
  |goto l'=>
   simp only[zg7]at hq
   split at hq
   ·rename_i hb
    obtain⟨i',hR',hlt,hsub⟩:=hq
    obtain⟨k2,hs2⟩:=hsub B N a' w' k' hs'
    have hJ':J (μ i') a' w':=⟨i',k2,hR',rfl,hs2⟩
    refine⟨Nat.eq_of_beq_eq_true hb,⟨μ i',hJ'⟩,?_⟩
    exact Nat.lt_of_le_of_lt ((leastOf_spec ⟨_,hJ'⟩).2 _ hJ') (by rw[<-hμ];exact hlt)
   ·exact hq.elim
  |_=>exact hQ _ S' a' w' k' hq hs'
theorem Vcode.scope3(hm:P.follows .mixedOrders=true)(hT:TOk P T){c1 c2 c3 body:Code}{Q:Exit->St->Prop}(l:Nat){ι:Type}(inv:ι->St)(R:ι->Prop)(μ:ι->Nat)
  (hf:findLabel (.seq c1 (.seq c2 (.seq c3 (.seq (.label l) body)))) l=some (.seq .skip body))
  (first:vcg P T c1 S (λe S'=>e= .normal/\vcg P T c2 S' (λe S2=>e= .normal/\vcg P T c3 S2 (λe S''=>e= .normal/\∃i,R i/\Sub S'' (inv i)))))
  (pass: ∀i,R i->vcg P T body (inv i) (zg7 l (λS'=>∃i',R i'/\μ i'<μ i/\Sub S' (inv i')) Q)):Vcode P (.scope (.seq c1 (.seq c2 (.seq c3 (.seq (.label l) body))))) S Q:=by
 refine⟨λB N a w k Q' hs hd hQ=>?_⟩
 have hd0:zau N (.seq c1 (.seq c2 (.seq c3 (.seq (.label l) body))))=true:=by simpa only[zau]using hd
 have hd1:=hd0
 simp only[zau,Bool.and_eq_true,true_and]at hd1
 let J:Nat->Act->World->Prop:=λn a w=>∃i k,R i/\μ i=n/\Sat B N (inv i) a w k
 refine wp_scope_jumps l (λa w=>∃n,J n a w) (λa w=>leastOf (λn=>J n a w)) hf ?_ ?_
 ·refine wp_seq (zav hm hT c1 S _ first B N a w k _ hs hd1.1 λe S1 a1 w1 k1 hq1 hs1=>?_)
  obtain⟨rfl,hq1⟩:=hq1
  refine wp_seq (zav hm hT c2 S1 _ hq1 B N a1 w1 k1 _ hs1 hd1.2.1 λe S2 a2 w2 k2 hq2 hs2=>?_)
  obtain⟨rfl,hq2⟩:=hq2
  refine wp_seq (zav hm hT c3 S2 _ hq2 B N a2 w2 k2 _ hs2 hd1.2.2.1 λe S2 a2 w2 k2 hq2 hs2=>?_)
  obtain⟨rfl,i,hR,hsub⟩:=hq2
  obtain⟨k3,hs3⟩:=hsub B N a2 w2 k2 hs2
  refine wp_seq (wp_label ?_)
  refine zav hm hT body (inv i) _ (pass i hR) B N a2 w2 k3 _ hs3 hd1.2.2.2 λe S' a' w' k' hq hs'=>?_
  cases e with
  |goto l'=>
   simp only[zg7]at hq
   split at hq
   ·rename_i hb
    obtain⟨i',hR',_,hsub⟩:=hq
    obtain⟨k2,hs2⟩:=hsub B N a' w' k' hs'
    exact⟨Nat.eq_of_beq_eq_true hb,μ i',i',k2,hR',rfl,hs2⟩
   ·exact hq.elim
  |_=>exact hQ _ S' a' w' k' hq hs'
 ·intro a1 w1 hJ
  obtain⟨i,k1,hR,hμ,hs1⟩:=(leastOf_spec hJ).1
  refine wp_seq (wp_skip ?_)
  refine zav hm hT body (inv i) _ (pass i hR) B N a1 w1 k1 _ hs1 hd1.2.2.2 λe S' a' w' k' hq hs'=>?_
  cases e with
  |goto l'=>
   simp only[zg7]at hq
   split at hq
   ·rename_i hb
    obtain⟨i',hR',hlt,hsub⟩:=hq
    obtain⟨k2,hs2⟩:=hsub B N a' w' k' hs'
    have hJ':J (μ i') a' w':=⟨i',k2,hR',rfl,hs2⟩
    refine⟨Nat.eq_of_beq_eq_true hb,⟨μ i',hJ'⟩,?_⟩
    exact Nat.lt_of_le_of_lt ((leastOf_spec ⟨_,hJ'⟩).2 _ hJ') (by rw[<-hμ];exact hlt)
   ·exact hq.elim
  |_=>exact hQ _ S' a' w' k' hq hs'
theorem Vstep.boxPub{t e:TypeId}{ti te:TI}{x:Operand}{id n:Nat}{vs:List RV}{K:St->Prop}(hT:TOk P T)(hop:o.op= .slice t x none none none)(hti:tget T t=some ti)(hk:ti.k= .array n e)(hte:tget T e=some te)(hsz:te.sz=1)
  (hx:opr S x=some (.own id)) (ho:oget S.O id=some (.box (vs.map .r))) (hn:vs.length=n) (h0:0<n) (hn2:n<=1000000000) (hK:newK (S.set id none) o.dst (.r (.sl 1 n vs)) none K):Vstep P S o K:=by
 rw[zat]at hK
 refine Vstep.one (λB N a w k Q ⟨g,hs⟩ hd=>?_) hK
 obtain⟨q,hq⟩:=hT.get hti
 obtain⟨d,hdd,hko,_⟩:=q.desc
 rw[hq]at hdd
 rw[hk]at hko
 simp only[KOk]at hko
 subst hko
 obtain⟨qe,hqe⟩:=hT.get hte
 have hsize:=za3 (w:=w) qe hqe
 have hxv:=(zag hs hx).2
 simp only[TF.at_]at hxv
 obtain⟨b,k',hg,hle,hb,hc,h⟩:=hs.pub ho
 have hrun:=ziz (P:=P) (w:=w) (b:=b) (lo:=0) (hi:=(n:Int)) (vl:=none) (vh:=none) hdd hsize (Int.le_refl _) (by omega) (by omega) (by omega) (.inl ⟨rfl,rfl⟩) (.inl ⟨rfl,rfl⟩)
 simp only[Int.toNat_zero,Nat.zero_mul,Nat.add_zero,Nat.sub_zero,Int.toNat_natCast]at hrun
 have hev:a.eval x= .pointer (some ⟨b,0,none⟩):=by rw[hxv,hg]
 refine za0 (v:= .slice (some ⟨b,0,none⟩) n n) (w':=w) (by simp[execOp,hop,hev,hrun]) ⟨k',g,h.put hd trivial ?_⟩
 simp only[TF.at_,RV.at_]
 exact⟨_,n,rfl,Nat.le_refl _,by simp only[maxLen];omega,by rw[Nat.mul_one];exact hn,λ_=>⟨b,0,rfl,hb,hc⟩⟩
theorem Vstep.boxCh{t e:TypeId}{ti te:TI}{x:Operand}{id n:Nat}{vs:List RV}{K:St->Prop}(hT:TOk P T)(hop:o.op= .slice t x none none none)(hti:tget T t=some ti)(hk:ti.k= .array n e)(hte:tget T e=some te)(hsz:te.sz=1)
  (hx:opr S x=some (.own id)) (ho:oget S.O id=some (.box (vs.map .r))) (hn:vs.length=n) (h0:0<n) (hn2:n<=1000000000) (hK:newK (S.set id none) o.dst (.own S.nx) (some (.ch e te.sz n vs true)) K):Vstep P S o K:=by
 rw[zat]at hK
 refine Vstep.one (λB N a w k Q ⟨g,hs⟩ hd=>?_) hK
 obtain⟨q,hq⟩:=hT.get hti
 obtain⟨d,hdd,hko,_⟩:=q.desc
 rw[hq]at hdd
 rw[hk]at hko
 simp only[KOk]at hko
 subst hko
 obtain⟨qe,hqe⟩:=hT.get hte
 have hsize:=za3 (w:=w) qe hqe
 have hxv:=(zag hs hx).2
 simp only[TF.at_]at hxv
 obtain⟨b,k',hg,hle,hb,hc,h⟩:=hs.pub ho
 have hrun:=ziz (P:=P) (w:=w) (b:=b) (lo:=0) (hi:=(n:Int)) (vl:=none) (vh:=none) hdd hsize (Int.le_refl _) (by omega) (by omega) (by omega) (.inl ⟨rfl,rfl⟩) (.inl ⟨rfl,rfl⟩)
 simp only[Int.toNat_zero,Nat.zero_mul,Nat.add_zero,Nat.sub_zero,Int.toNat_natCast]at hrun
 have hev:a.eval x= .pointer (some ⟨b,0,none⟩):=by rw[hxv,hg]
 refine za0 (v:= .slice (some ⟨b,0,none⟩) n n) (w':=w) (by simp[execOp,hop,hev,hrun]) ⟨k',_,h.adopt (dst:=o.dst) hd (o:= .ch e te.sz n vs true) (vb:=(.slice (some ⟨b,0,none⟩) n n,none)) trivial ⟨by rw[hsz,Nat.mul_one];exact hn, .inl ⟨rfl, .inr ⟨h0,rfl,b,0,rfl,by simp only[maxLen];omega,hb,hc⟩⟩⟩ (λb hb=>by cases hb) (λi o' b _ hb=>by cases hb)⟩
end
theorem z7p(n:Nat)(hn:n<=100000000000):aG 334 [I n] (bch (zjh n)):=by
 refine aT Tryz.func334 rfl ?_
 have hz:=zub n
 have zer: ∀j,List.replicate j (0:UInt8)++[0]=List.replicate (j+1) 0:=λj=>by rw[List.replicate_succ']
 have hl: ∀j,(128::List.replicate j (0:UInt8)).length=1+j:=λj=>by simp;omega
 refine zy ?_
 refine Vloop.mk' (λj:Nat=>⟨[(0, .r (I n)),(3, .own 0)],[(0,some (.ch 5 1 (128::List.replicate j (0:UInt8)).length ((128::List.replicate j (0:UInt8)).map U8) true))],1⟩) (λj=>j<=zd1 n) (λj=>zd1 n-j) 0 (by omega)
  (zac [(0,0)] rfl ⟨cr,rfl,trivial⟩ ⟨⟨rfl,rfl,rfl,rfl,zn _⟩,trivial⟩) ?_
 intro j hj
 have hlj:=hl j
 refine zd (m:=((n+(1+j):Nat):Int)) (by omega) (by omega) ?_
 refine Vrem.nat (n+(1+j)) 64 rfl rfl (by decide) ?_
 refine zh (λh=>zq ?_) (λh=>zt ?_)
 ·simp only[zb]at h
  have hj':j<zd1 n:=by unfold zd1 at*;omega
  refine zy ?_
  refine Vapp.mk' (j:=(128::List.replicate (j+1) (0:UInt8)).length) (zs:=(128::List.replicate (j+1) (0:UInt8)).map U8) (by rw[hlj];simp only[maxLen];omega) (by rw[hlj];show(1+j+1)*1<=_;omega) (by rw[hlj,hl];omega)
   (by rw[<-zer];exact(List.map_append (f:=U8) (l₁:=128::List.replicate j (0:UInt8)) (l₂:=[0])).symm) ?_
  exact⟨j+1,by omega,by omega,zac [(0,_)] rfl ⟨cr,rfl,trivial⟩ ⟨zkx rfl,trivial⟩⟩
 simp only[zb]at h
 obtain rfl:j=zd1 n:=by unfold zd1 at*;omega
 obtain⟨B,hB⟩: ∃B,128::List.replicate (zd1 n) (0:UInt8)=B:=⟨_,rfl⟩
 rw[hB]at hlj⊢
 have ht:zjh n=B++beB 8 (n*8):=by rw[<-hB];rfl
 rw[ht]
 have hlb: ∀i,(B++(beB 8 (n*8)).take i).length<=B.length+8:=λi=>by rw[List.length_append,List.length_take,za9];omega
 refine Vloop.mk' (λi:Nat=>⟨[(0, .r (I n)),(3, .own 0),(4, .r (I (7-(i:Int))))],[(0,some (.ch 5 1 (B++(beB 8 (n*8)).take i).length ((B++(beB 8 (n*8)).take i).map U8) true))],1⟩) (λi=>i<=8) (λi=>8-i) 0 (by omega)
  (zac [(0,0)] rfl ⟨cr,rfl,cr,trivial⟩ ⟨zkx (by simp),trivial⟩) ?_
 intro i hi
 have hli:=hlb i
 refine zh (λh2=>zq ?_) (λh2=>zt ?_)
 ·simp only[zb]at h2
  have hi':i<8:=by omega
  have hb:=zu4 (n:=n*8) hi'
  refine Vint.nat (.inl rfl) n rfl (by omega) ?_
  refine Vint.nat (.inl rfl) (n*8) rfl (by omega) ?_
  refine zd (m:=((8*(7-i):Nat):Int)) (by omega) (by omega) ?_
  refine Vshr.nat (.inl rfl) (n*8) (8*(7-i)) (n*8/256^(8-1-i)) rfl rfl (by omega) (by rw[z5b]) ?_
  refine Vint.u8 (n*8/256^(8-1-i)) rfl ?_
  refine zy ?_
  refine Vapp.mk' (j:=(B++(beB 8 (n*8)).take (i+1)).length) (zs:=(B++(beB 8 (n*8)).take (i+1)).map U8) (by simp only[maxLen];omega) (by show((B++(beB 8 (n*8)).take i).length+1)*1<=_;omega) (by rw[hb];simp only[List.length_append,List.length_cons,List.length_nil];omega)
   (by rw[hb,<-List.append_assoc];exact(List.map_append (f:=U8) (l₁:=B++(beB 8 (n*8)).take i) (l₂:=[UInt8.ofNat (n*8/256^(8-1-i))])).symm) ?_
  refine zd (m:=7-((i+1:Nat):Int)) (by omega) (by omega) ?_
  exact⟨i+1,by omega,by omega,zac [(0,_)] rfl ⟨cr,rfl,cr,trivial⟩ ⟨zkx rfl,trivial⟩⟩
 ·simp only[zb]at h2
  obtain rfl:i=8:=by omega
  rw[List.take_of_length_le (by rw[za9];omega)]
  exact rfl
def smI3(M:List UInt8)(t:Nat):St:=⟨[(2, .own 0),(3, .own 1),(4, .r (bs (M.drop (64*t))))],[(0,some (.box ((List.replicate 32 (U8 0)).map .r))),(1,some (bH (runH t h0Tab M)))],2⟩
theorem z0b(M:List UInt8)(t:Nat):stOk [(0,0),(1,1)] (smI3 M t)=true:=rfl
set_option maxRecDepth 100000 in
set_option maxHeartbeats 4000000 in
theorem zbab(b:List UInt8)(hb:b.length<=100000000000):aG 289 [bs b] (.r (.ag ((shaB b).map U8))):=by
 refine aT Tryz.func289 rfl ?_
 obtain⟨M,hM⟩: ∃M,b++zjh b.length=M:=⟨_,rfl⟩
 have hMl:M.length=b.length+(9+zd1 b.length):=by rw[<-hM,List.length_append,zt6]
 have hz:=zub b.length
 have hM64:=z8f b.length
 obtain⟨T,hT⟩: ∃T,M.length=64*T:=⟨M.length/64,by rw[hMl];omega⟩
 have htl:=zt6 b.length
 refine Vcode.scope2 mixed Tab_ok 0 (smI3 M) (λt=>t<=T) (λt=>T-t) rfl ?_ ?_
 ·refine ze z3p ?_
  refine⟨rfl,?_⟩
  refine ze (zvs b (by omega)) ?_
  refine ze (z7p b.length hb) ?_
  refine Vapp.mk' (j:=M.length) (zs:=M.map U8) (by simp only[maxLen];omega) (by show(b.length+(zjh b.length).length)*1<=_;omega) (by rw[<-hM,List.length_append]) (by rw[<-hM,List.map_append]) ?_
  exact⟨rfl,0,by omega,zac [(0,0),(1,1)] (z0b M 0) ⟨rfl,rfl,cr,trivial⟩ ⟨zad (List.replicate 32 (U8 0)),(aD aZ),trivial⟩⟩
 ·intro t ht
  have hdl:(M.drop (64*t)).length=64*(T-t):=by rw[List.length_drop,hT];omega
  refine zh (λh=>zq ?_) (λh=>zt ?_)
  ·simp only[zb]at h
   have ht':t<T:=by omega
   have hl64:((M.drop (64*t)).take 64).length=64:=by rw[List.length_take,hdl];omega
   refine⟨by decide,by decide,by omega,64,((M.drop (64*t)).take 64).map U8,by decide,by rw[List.map_take];rfl,?_⟩
   have hst:=zv6
   have hr:=zt3 t h0Tab M
   have hok:=zsi t h0Tab M z9h
   unfold smI3
   refine Vstep.actsBox (l:=vH (runH t h0Tab M)) (l':=vH (zrf (runH t h0Tab M) ((M.drop (64*t)).take 64))) (args:=[.own 0, .r (bs ((M.drop (64*t)).take 64))]) 1 (λv=>zv6 v (runH t h0Tab M) ((M.drop (64*t)).take 64) hok hl64) (zi rfl ⟨_,_,rfl,rfl,_,_,rfl,zf (by rw[bs,hl64]),rfl⟩) rfl ?_
   refine⟨by decide,by omega,by omega,64*(T-(t+1)),(M.drop (64*(t+1))).map U8,by omega,by rw[<-List.map_drop,List.drop_drop,List.take_of_length_le (by rw[List.length_map,List.length_drop];omega)];rfl,?_⟩
   exact⟨t+1,by omega,by omega,zac [(0,0),(1,1)] (z0b M (t+1)) ⟨rfl,rfl,zf (by rw[bs,List.length_drop,hT];congr 1;omega),trivial⟩ ⟨zad (List.replicate 32 (U8 0)),by rw[hr];exact⟨_,_,rfl,cr,_,_,rfl,cr,_,_,rfl,cr,_,_,rfl,cr,_,_,rfl,cr,_,_,rfl,cr,_,_,rfl,cr,_,_,rfl,cr,rfl⟩,trivial⟩⟩
  ·simp only[zb]at h
   obtain rfl:t=T:=by omega
   have he:shaB b=outH (runH t h0Tab M):=by unfold shaB;rw[hM,hT,Nat.mul_div_cancel_left _ (by decide)]
   have hok:=zsi t h0Tab M z9h
   rw[he]
   unfold smI3
   generalize runH t h0Tab M=s at*
   obtain⟨a,b,c,d,e,f,g,i⟩:=s
   refine za rfl rfl ?_
   refine Vloop.rounds 9 ?_
   repeat' ((conv=>whnf);first|refine Vrounds.step mixed Tab_ok ?_|refine zu rfl (zq ?_)|refine zw rfl (zt ?_)|refine zm (by decide) (by decide) rfl ?_|refine Vadr.any (by decide) ?_|refine Vint.any (k:= .i64) ?_|refine Vshr.n32 _ 24 _ rfl rfl (by decide) rfl ?_|refine Vshr.n32 _ 16 _ rfl rfl (by decide) rfl ?_|refine Vshr.n32 _ 8 _ rfl rfl (by decide) rfl ?_|refine Vint.u8 _ rfl ?_|refine za rfl rfl ?_)
   refine zf (congrArg RV.ag ?_)
   simp[outH,H8.list,beB]
theorem zacb{a w:World}(h:Ext a w)(o:Obj):Ext a (w.alloc o):=Below.alloc h h.size o
theorem zcwb{a w:World}(h:Ext a w):Ext a w.drew:=Below.drew h
theorem zy4{P:Program}{ops:Array Oper}{rest:List Oper}{o:Oper}{a:Act}{w:World}{Q:Exit->Act->World->Prop}(hgd:o.guard=none)(s x:Operand)(t u:TypeId)
  (ho:o.op= .call {callee:= .builtin .append,args:= #[s,x],argTypes:= #[t,u]}) {v y v':Value} {w':World} (hs:a.eval s=v) (hx:a.eval x=y)
  (hr:(Builtin.append_ #[t,u] o.type #[v,y]).run P w= .ok v' w') (h:wpList P ops Q rest (a.put o.dst v') w'):wpList P ops Q (o::rest) a w:=by
 refine wpList_plain hgd λK hK=>?_
 unfold Oper.wp execOp
 simp only[ho,resolve,invoke,builtin,Sem.run_bind,Sem.run_pure,Result.andThen_ok,List.map_toArray,List.map_cons,List.map_nil,hs,hx,hr]
 exact hK _ _ h
structure Stop (p:Prop):Prop where
 out:p
theorem Stop.on{p:Prop}(h:Stop p):p:=h.out
set_option maxRecDepth 100000 in
theorem z6y(n:Nat)(w:World)(k:Kp)(hn:n<=1000000000000):
  Calls Tryz.prog 313 #[.slice none 0 0, .int .i64 (n:Int)] w λe w'=>∃v,e= .returned v/\Ext w w'/\∃k':Kp,(∀b,b<w.heap.size->k' b=k b)/\(bch []).at_ w.heap.size w' k' v:=by
 rcases Nat.eq_zero_or_pos n with rfl |hpos
 ·go_enter Tryz.func313,Tryz.ntmps313
  go_wp2_with fail
  go_ret
  exact⟨_,rfl,Ext.refl _,k,λ_ _=>rfl,none,⟨rfl, .inl ⟨rfl, .inl ⟨rfl,none,rfl⟩⟩⟩,λb h=>by cases h⟩
 ·have hi0:(Tryz.prog.info? 5).map (λi=>(i.zero,i.size,i.bytes))=some (some (.int .u8 0),1,1):=by kernel_rfl
  obtain⟨i0,hi,hz⟩:=Option.map_eq_some_iff.1 hi0
  simp only[Prod.mk.injEq]at hz
  obtain⟨hz0,hz1,hz2⟩:=hz
  have hr:=λty=>Lib.run_append_grow_zeros w 25 3 ty 5 i0 (.int .u8 0) .i64 .i64 Tryz.underlying25 Tryz.underlying3 hi hz0 none 0 0 [] (run_firstCells_none w.drew i0.size 0 0 0) n hpos (by rw[hz1];decide) (by omega) (by omega) (by rw[hz2];omega) (growslice_fits (by omega) (by rw[hz2];omega))
  simp only[Nat.zero_add]at hr
  have hge:=grownCap_ge w n 0 5
  have hle:=grownCap_le_maxLen w n 0 5 (by unfold maxLen;omega)
  have hcs:((([]:List Value).toArray++Builtin.zeroCells (Value.int .u8 0).cells n++Builtin.zeroCells (Value.int .u8 0).cells (grownCap w n 0 5-n))).size=grownCap w n 0 5:=by
   simp only[Array.size_append,List.size_toArray,size_zeroCells,show(Value.int IntKind.u8 0).cells.size=1 from rfl]
   simp only[List.length_nil];omega
  generalize grownCap w n 0 5=G at*
  generalize ([]:List Value).toArray++Builtin.zeroCells (Value.int .u8 0).cells n++Builtin.zeroCells (Value.int .u8 0).cells (G-n)=cs at*
  unfold maxLen at hle
  go_enter Tryz.func313,Tryz.ntmps313
  go_wp2_with (first|(at_builtin;refine Stop.on ?_))
  refine Stop.mk (zy4 rfl (.tmp 20) (.tmp 21) _ _ rfl rfl rfl (hr _) ?_)
  clear hr
  go_wp2_with fail
  go_ret
  exact⟨_,rfl,zacb (zcwb (Ext.refl _)) _,kset k w.heap.size 0,λb hb=>zd5 b hb,some w.heap.size,⟨rfl, .inr ⟨w.heap.size,G,cs,rfl,rfl,heap_alloc_new w.drew _,Nat.zero_le _,by unfold maxLen;omega,by simpa using Nat.le_of_eq hcs.symm,by simp[zbu],by simp[RV.listAt]⟩⟩,λb hb=>by cases hb;exact Nat.le_refl _⟩
theorem zdab(n:Nat)(hn:n<=1000000000000):aG 313 [.x (.slice none 0 0),I n] (bch []):=
 ⟨zfo Tryz.func313 rfl (by kernel_rfl),λw k vs hp=>by
  simp only[RV.partsAt,RV.at_]at hp
  obtain⟨_,_,rfl,rfl,_,_,rfl,rfl,rfl⟩:=hp
  exact z6y n w k hn⟩
def bss(ls:List (List UInt8)):RV:= .sl 1 ls.length (ls.map bs)
theorem zsx(ls:List (List UInt8)){k:Nat}(hk:k<ls.length):(ls.take (k+1)).flatMap id=(ls.take k).flatMap id++ls[k]:=by
 rw[List.take_add_one,List.flatMap_append,List.getElem?_eq_getElem hk];simp
theorem zzb(ls:List (List UInt8))(k:Nat):((ls.take k).flatMap id).length<=(ls.flatMap id).length:=by
 have h:ls.flatMap id=(ls.take k).flatMap id++(ls.drop k).flatMap id:=by rw[<-List.flatMap_append,List.take_append_drop]
 rw[h,List.length_append];omega
theorem zgl(ls:List (List UInt8))(hl:(ls.flatMap id).length<=1000000000000):aG 256 [bss ls] (bch (ls.flatMap id)):=by
 refine zmn (zfo Tryz.func256 rfl (by kernel_rfl)) λhml=>?_
 refine aT Tryz.func256 rfl ?_
 refine Vloop.mk' (λj:Nat=>⟨[(0, .r (bss ls)),(3, .r (I ((ls.take j).flatMap id).length)),(9, .r (bss ls)),(10, .r (I ls.length)),(11, .r (I j))],[],0⟩) (λj=>j<=ls.length) (λj=>ls.length-j) 0 (by omega) (zac [] rfl ⟨cr,cr,cr,cr,cr,trivial⟩ trivial) ?_
 intro j hj
 refine zh (λh=>zq ?_) (λh=>zt ?_)
 ·simp only[zb]at h
  have hj':j<ls.length:=by omega
  have e:=zsx ls hj'
  have hb:=zzb ls (j+1)
  have hq:((ls.take (j+1)).flatMap id).length=((ls.take j).flatMap id).length+ls[j].length:=by rw[e,List.length_append]
  refine zm (by omega) (by omega) (zan rfl hj') (zg rfl ?_)
  refine zd (m:=(((ls.take (j+1)).flatMap id).length:Int)) (by omega) (by omega) ?_
  refine zw (by simp only[zb];omega) (zt ?_)
  refine zd (m:=((j+1:Nat):Int)) (by omega) (by omega) ?_
  exact⟨j+1,by omega,by omega,zac [] rfl ⟨cr,cr,cr,cr,cr,trivial⟩ trivial⟩
 simp only[zb]at h
 obtain rfl:j=ls.length:=by omega
 rw[List.take_length]
 refine ze (zdab _ hl) ?_
 refine Vloop.mk' (λj:Nat=>⟨[(6, .own 0),(25, .r (bss ls)),(26, .r (I ls.length)),(27, .r (I j))],[(0,some (.ch 5 1 ((ls.take j).flatMap id).length (((ls.take j).flatMap id).map U8) true))],1⟩) (λj=>j<=ls.length) (λj=>ls.length-j) 0 (by omega) (zac [(0,0)] rfl ⟨rfl,cr,cr,cr,trivial⟩ ⟨⟨rfl,rfl,rfl,rfl,zn _⟩,trivial⟩) ?_
 intro j hj
 refine zh (λh=>zq ?_) (λh=>zt ?_)
 ·simp only[zb]at h
  have hj':j<ls.length:=by omega
  have e:=zsx ls hj'
  have hb:=zzb ls (j+1)
  have hq:((ls.take (j+1)).flatMap id).length=((ls.take j).flatMap id).length+ls[j].length:=by rw[e,List.length_append]
  refine zm (by omega) (by omega) (zan rfl hj') (zg rfl ?_)
  refine Vapp.mk' (j:=((ls.take (j+1)).flatMap id).length) (zs:=((ls.take (j+1)).flatMap id).map U8) (by simp only[maxLen];omega) (by show(((ls.take j).flatMap id).length+ls[j].length)*1<=_;omega) hq.symm (by rw[e,List.map_append]) ?_
  refine zd (m:=((j+1:Nat):Int)) (by omega) (by omega) ?_
  exact⟨j+1,by omega,by omega,zac [(0,_)] rfl ⟨rfl,cr,cr,cr,trivial⟩ ⟨zkx rfl,trivial⟩⟩
 ·simp only[zb]at h
  obtain rfl:j=ls.length:=by omega
  rw[List.take_length]
  exact rfl
set_option maxRecDepth 100000 in
theorem z06(ls:List (List UInt8))(hl:(ls.flatMap id).length<=100000000000):aG 223 [bss ls] (bch (shaB (ls.flatMap id))):=by
 refine aT Tryz.func223 rfl ?_
 have hsl:=zls (ls.flatMap id)
 have h1:=zbab (ls.flatMap id) hl
 generalize shaB (ls.flatMap id)=D at*
 refine ze (zgl ls (by omega)) ?_
 refine ze h1 ?_
 (conv=>whnf)
 generalize hq:(za4 _&&_)=q
 obtain rfl:=hq.symm.trans (zht (l:=D.map U8) 32 (by rw[List.length_map,hsl]) rfl)
 clear hq
 refine zd7 (by rw[List.length_map,List.length_map,hsl];rfl) ?_
 refine Vstep.boxCh (n:=32) (vs:=D.map U8) Tab_ok rfl rfl rfl rfl rfl rfl rfl (by rw[List.length_map,hsl]) (by decide) (by decide) ?_
 unfold bch
 rw[hsl]
 exact rfl
theorem Vcall.boolc{P:Program}{f:FuncId}{vs ps:List RV}{K:Res->Prop}{β:Bool}(hg:zab P f ps (.r (.b β)))(hc:Cvs vs ps)(ht:β=true->K (.r (.b true)))(hf:β=false->K (.r (.b false))):Vcall P f vs K:=by
 cases β
 ·exact Vcall.mk' hg hc (hf rfl)
 ·exact Vcall.mk' hg hc (ht rfl)
def Node.small(n:Node):Bool:=decide (n.leaf.box.length<=200/\n.leaf.sign.length<=200/\n.leaf.ident.length<=200/\n.leaf.parent.length<=200/\n.leaf.sig.length<=200/\n.par.box.length<=200/\n.par.hash.length<=200/\n.par.late.length<=60)
theorem ztb(n:Node):aG 12 [.ag n.c] (.r (.b n.small)):=by
 refine aT Tryz.func12 rfl ?_
 refine aV ?_
 refine za rfl rfl ?_
 refine za rfl rfl ?_
 (repeat' (first|refine zh (λh=>?_) (λh=>?_)|refine zf ?_|refine zq ?_|refine zt ?_))
 all_goals refine congrArg RV.b (Eq.symm ?_)
 all_goals simp only[Node.small,zb]at*
 all_goals omega
def zl:Leaf:=⟨[],[],[],0,[],[]⟩
def zp:Par:=⟨[],[],[]⟩
theorem z4u(l:Leaf):l.none=decide (l=zl):=by
 obtain⟨a,b,c,d,e,f⟩:=l
 rw[Bool.eq_iff_iff]
 simp only[Leaf.none,zl,decide_eq_true_eq,Leaf.mk.injEq,List.length_eq_zero_iff]
 have:d.toNat=0↔d=0:=⟨λh=>UInt8.toNat_inj.1 (by simpa using h),λh=>by simp[h]⟩
 rw[this]
 constructor
 ·rintro⟨h1,h2,h3,h4,h5,h6⟩;exact⟨h2,h3,h4,h1,h5,h6⟩
 ·rintro⟨h1,h2,h3,h4,h5,h6⟩;exact⟨h4,h1,h2,h3,h5,h6⟩
theorem z8g(p:Par):p.none=decide (p=zp):=by
 obtain⟨a,b,c⟩:=p
 rw[Bool.eq_iff_iff]
 simp only[Par.none,zp,decide_eq_true_eq,Par.mk.injEq,List.length_eq_zero_iff]
def ziv(n:Node):Node:=⟨0,n.leaf,zp⟩
def zn5(n:Node):Node:=⟨0,zl,n.par⟩
theorem zaab(n:Node):Cv (.ag [.i .u8 0,bs n.leaf.box,bs n.leaf.sign,bs n.leaf.ident,U8 n.leaf.src,bs n.leaf.parent,bs n.leaf.sig, .x (.slice none 0 0), .x (.slice none 0 0), .x (.slice none 0 0)]) (.ag (ziv n).c):=
 Cv.ag (zk (cr) (zk (cr) (zk (cr) (zk (cr) (zk (cr) (zk (cr) (zk (cr) (zk (Cv.nil 1) (zk (Cv.nil 1) (zk (Cv.nil 1) Cvs.nil))))))))))
theorem zcvb(n:Node):Cv (.ag [.i .u8 0, .x (.slice none 0 0), .x (.slice none 0 0), .x (.slice none 0 0), .i .u8 0, .x (.slice none 0 0), .x (.slice none 0 0),bs n.par.box,bs n.par.hash,is n.par.late]) (.ag (zn5 n).c):=
 Cv.ag (zk (cr) (zk (Cv.nil 1) (zk (Cv.nil 1) (zk (Cv.nil 1) (zk (cr) (zk (Cv.nil 1) (zk (Cv.nil 1) (zk (cr) (zk (cr) (zk (cr) Cvs.nil))))))))))
theorem zi9(n:Node):ziv n=Node.zero↔n.leaf.none=true:=by
 rw[z4u,decide_eq_true_eq]
 simp[ziv,Node.zero,zl,zp]
theorem zlh(n:Node):zn5 n=Node.zero↔n.par.none=true:=by
 rw[z8g,decide_eq_true_eq]
 simp[zn5,Node.zero,zl,zp]
theorem z3g(n:Node)(hn:n.fit):aG 49 [.ag n.c] (.r (.b n.right)):=by
 refine aT Tryz.func49 rfl ?_
 have sl:=zpa (ziv n) Node.zero (by simp[ziv,zp]) (by simp[Node.zero])
 have sp:=zpa (zn5 n) Node.zero hn.2.2.2.2 (by simp[Node.zero])
 have cl:=zk (zaab n) (zk z0j Cvs.nil)
 have cp:=zk (zcvb n) (zk z0j Cvs.nil)
 refine aV ?_
 refine za rfl rfl ?_
 refine za rfl rfl ?_
 refine zh (λh=>zq ?_) (λh=>zt ?_)
 ·simp only[zb]at h
  have h0:n.kind.toNat=0:=by omega
  refine za rfl rfl ?_
  refine Vcall.boolc sl cl (λh2=>?_) (λh2=>?_)
  ·refine za rfl rfl ?_
   refine Vcall.boolc sp cp (λh3=>?_) (λh3=>?_)
   all_goals refine zf (congrArg RV.b (Eq.symm ?_))
   all_goals simp only[zb,zi9,zlh]at h2 h3
   all_goals simp[Node.right,h0,h2,h3]
  ·refine zf (congrArg RV.b (Eq.symm ?_))
   simp only[zb,zi9,zlh]at h2
   simp[Node.right,h0,h2]
 ·refine zh (λh2=>zq ?_) (λh2=>zt ?_)
  ·simp only[zb]at h2
   have h0:n.kind.toNat=1:=by omega
   refine za rfl rfl ?_
   refine Vcall.bool (zs9 n.leaf) (λh3=>?_) (λh3=>?_)
   ·refine za rfl rfl ?_
    refine Vcall.boolc sp cp (λh4=>?_) (λh4=>?_)
    all_goals refine zf (congrArg RV.b (Eq.symm ?_))
    all_goals simp only[zb,zi9,zlh]at h4
    all_goals simp[Node.right,h0,h3,h4]
   ·refine zf (congrArg RV.b (Eq.symm ?_))
    simp[Node.right,h0,h3]
  ·refine zh (λh3=>zq ?_) (λh3=>zt ?_)
   ·simp only[zb]at h3
    have h0:n.kind.toNat=2:=by omega
    refine za rfl rfl ?_
    refine Vcall.bool (z6u n.par hn.2) (λh4=>?_) (λh4=>?_)
    ·refine za rfl rfl ?_
     refine Vcall.boolc sl cl (λh5=>?_) (λh5=>?_)
     all_goals refine zf (congrArg RV.b (Eq.symm ?_))
     all_goals simp only[zb,zi9,zlh]at h5
     all_goals simp[Node.right,h0,h4,h5]
    ·refine zf (congrArg RV.b (Eq.symm ?_))
     simp[Node.right,h0,h4]
   ·simp only[zb]at h h2 h3
    refine zf (congrArg RV.b (Eq.symm ?_))
    have a0: ¬n.kind.toNat=0:=by omega
    have a1: ¬n.kind.toNat=1:=by omega
    have a2: ¬n.kind.toNat=2:=by omega
    simp[Node.right,a0,a1,a2]
theorem zx0{α:Type}{p:α->Prop}{l:List α}{j:Nat}(hj:j<l.length)(h: ∀x∈l.take j,p x)(hx:p l[j]): ∀x∈l.take (j+1),p x:=by
 intro x hm
 rw[List.take_add_one,List.getElem?_eq_getElem hj]at hm
 simp only[Option.toList,List.mem_append,List.mem_cons,List.not_mem_nil,or_false]at hm
 rcases hm with hm |rfl
 ·exact h x hm
 ·exact hx
theorem zdv:Tryz.prog.underlying 3=some (.int .i64):=by kernel_rfl
theorem zq1: ∀{l:List (Int×RV)} {n:Int},(∀x∈l,x.1≠n)->zcq l n=none
 |[],_,_=>rfl
 |(m,r)::l,n,h=>by
  simp only[zcq]
  rw[if_neg (h (m,r) (by simp)),zq1 λx hx=>h x (by simp[hx])]
def zn2(u:Int):Prop:=0<=u/\u<65536
theorem Node.right_late{n:Node}(h:n.right=true): ∀u∈n.par.late,zn2 u:=by
 unfold Node.right at h
 split at h
 ·simp only[Bool.and_eq_true]at h
  have:=h.2
  simp only[Par.none,decide_eq_true_eq,List.length_eq_zero_iff]at this
  rw[this.2.2];simp
 ·split at h
  ·simp only[Bool.and_eq_true]at h
   have:=h.2
   simp only[Par.none,decide_eq_true_eq,List.length_eq_zero_iff]at this
   rw[this.2.2];simp
  ·split at h
   ·simp only[Bool.and_eq_true]at h
    exactλu hu=>Par.right_bd h.2 u hu
   ·cases h
end Go.Proofs.YtpcfoglfakeimaaGreat.Sx

namespace Go.Proofs.YtpcfoglfakeimaaGreat
theorem zt8: ∀(m h k:Nat),upT m h k=(List.range (m+1)).map λi=>trip (h+i) (k/2^i)
 |0,h,k=>by simp[upT]
 |m+1,h,k=>by
  rw[zpx,zt8 m h k,List.range_succ (n:=m+1),List.map_append]
  rfl
theorem zhz{d o:Nat}(hd:d<=16)(ho:o<2^d):zb4 (nd 0 o:Int) ((2^d:Nat):Int)=(List.range d).map λh=>(nd (h+1) (o/2^(h+1)):Int):=by
 rw[zw3 hd (Nat.zero_le _) (by simpa using ho),zt8,Nat.sub_zero,List.range_succ_eq_map,List.map_cons,List.tail_cons,List.map_map,List.map_map]
 apply List.map_congr_left
 intro h _
 simp[trip]
end Go.Proofs.YtpcfoglfakeimaaGreat

namespace Go.Proofs.YtpcfoglfakeimaaGreat.Sx
open Go.RowKit
theorem zbsb{x:Int}(hx:zdj x=true): ∃h k,h<=16/\k<2^(16-h)/\x=(nd h k:Int)/\lv x.toNat=h/\x.toNat/2^(lv x.toNat+1)=k:=by
 rw[zpi]at hx
 obtain⟨d,h,k,hd,hn,hh,hk,rfl⟩:=zia hx
 have:d=16:=by
  rcases Nat.lt_or_ge d 16 with hlt |hge
  ·have:=Nat.pow_le_pow_right (n:=2) (by omega) (show d<=15 by omega)
   omega
  ·omega
 subst this
 have hle:=zzx hd hh hk
 have:=z12 hle
 have h2:=zka (h:=h) (h':=lv (nd h k)) (by omega) (zfr hle).1 this
 exact⟨h,k,hh,hk,rfl,by rw[Int.toNat_natCast];exact h2.1.symm,by rw[Int.toNat_natCast];exact h2.2.symm⟩
def us(l:List Nat):RV:= .sl 1 l.length (l.map U64)
def inR(h k:Nat)(x:Int):Prop:=((k*2^(h+1):Nat):Int)<=x/\x+2<=((k*2^(h+1)+2^(h+1):Nat):Int)
theorem zwa{i j h k:Nat}:inR h k (nd i j)↔i<=h/\j/2^(h-i)=k:=by
 constructor
 ·intro hr
  have hih:i<=h:=by
   rcases Nat.lt_or_ge h i with hlt |hge
   ·exfalso
    obtain⟨e,rfl⟩: ∃e,i=h+1+e:=⟨i-(h+1),by omega⟩
    unfold inR nd at hr
    have e1:2^(h+1+e)=2^(h+1)*2^e:=Nat.pow_add ..
    have e2:j*2^(h+1+e+1)=2^(h+1)*(j*(2^e*2)):=by rw[Nat.pow_succ 2 (h+1+e),e1,Nat.mul_assoc,Nat.mul_left_comm]
    have e3:k*2^(h+1)=2^(h+1)*k:=Nat.mul_comm ..
    rw[e1,e2,e3]at hr
    have hp:=zai (h+1)
    have hq:=zai e
    generalize 2^(h+1)=q at*
    generalize j*(2^e*2)=r at*
    generalize 2^e=t at*
    have hle1:q*k<=q*r+q*t-1:=by
     have:0<q*t:=Nat.mul_pos hp hq
     omega
    have h1:q*k+1<=q*(r+t):=by rw[Nat.mul_add];have:0<q*t:=Nat.mul_pos hp hq;omega
    have h2:q*(r+t)+1<=q*k+q:=by rw[Nat.mul_add];omega
    have h3:k<r+t:=by
     rcases Nat.lt_or_ge k (r+t)with h |h
     ·exact h
     ·have:=Nat.mul_le_mul_left q h;omega
    have h4:r+t<k+1:=by
     rcases Nat.lt_or_ge (r+t) (k+1)with h |h
     ·exact h
     ·have:=Nat.mul_le_mul_left q h;rw[Nat.mul_add q k 1,Nat.mul_one]at this;omega
    omega
   ·exact hge
  refine⟨hih,?_⟩
  have hn:=z11 i j (h-i)
  rw[show i+(h-i)+1=h+1 by omega]at hn
  unfold inR at hr
  have hp:=zai (h+1)
  generalize j/2^(h-i)=k' at*
  have e: ∀a b:Nat,a*2^(h+1)+1<=b*2^(h+1)+2^(h+1)->a<=b:=λa b hab=>by
   rcases Nat.lt_or_ge b a with hba |hba
   ·have:=Nat.mul_le_mul_right (2^(h+1)) (show b+1<=a from hba)
    rw[Nat.add_mul,Nat.one_mul]at this
    omega
   ·exact hba
  have a1:=e k' k (by omega)
  have a2:=e k k' (by omega)
  omega
 ·rintro⟨hih,rfl⟩
  have hn:=z11 i j (h-i)
  rw[show i+(h-i)+1=h+1 by omega]at hn
  unfold inR
  omega
theorem znm{x:Int}{d h k:Nat}(hd:d<=16)(hh:h<=d)(hk:k<2^(d-h))(hx:zdj x=true):zb3 x (nd h k)=true↔inR h k x:=by
 rw[zrl hd hh hk hx]
 unfold inR trip
 simp only[Bool.and_eq_true,decide_eq_true_eq]
 have hp:=zai h
 rw[Nat.pow_succ 2 h]
 omega
theorem z4n{u:Int}(h:zn2 u): ∃m:Nat,u=m/\m<65536/\2*u=(nd 0 m:Int):=by
 unfold zn2 at h
 obtain⟨m,rfl⟩:=Int.eq_ofNat_of_zero_le h.1
 exact⟨m,rfl,by omega,by rw[ze6];omega⟩
theorem zh1{h k m:Nat}(hh:h<=16)(hk:k<2^(16-h))(hm:m<65536):zb3 (2*(m:Int)) (nd h k)=true↔m/2^h=k:=by
 rw[show 2*(m:Int)=(nd 0 m:Int)by rw[ze6];omega,znm (d:=16) (by omega) hh hk (ziu (d:=16) (by omega) (by omega) (by simpa using hm)),zwa]
 simp
abbrev zfub(O:List Spot)(z:Int):Bool:=(zffb O z).isSome
theorem z8j{d:Nat}(hd:d<=16):2^d<=65536:=Nat.pow_le_pow_right (n:=2) (by omega) (show d<=16 from hd)
theorem lt16{d h k:Nat}(hd:d<=16)(hk:k<2^(d-h)):k<2^(16-h):=Nat.lt_of_lt_of_le hk (Nat.pow_le_pow_right (by omega) (by omega))
theorem zcu{S:St}(pub:Bool)(id i:Nat)(e:TypeId)(sz:Nat){cells:List TF}(ho:oget S.O id=some (.box cells))(hc:cells[i]?=some (.r (.x (.slice none 0 0)))):
  Sub S {F:=S.F,O:=(id,some (.box (cells.set i (.own S.nx))))::(S.nx,some (.ch e sz 0 [] pub))::S.O,nx:=S.nx+1}:=by
 rintro B N a w k ⟨g,hs⟩
 have h:=hs.adopt (dst:=none) (λd hd=>by cases hd) (o:= .ch e sz 0 [] pub) (vb:=(.slice none 0 0,none)) trivial ⟨by simp, .inl ⟨rfl, .inl ⟨rfl,none,rfl⟩⟩⟩ (λb hb=>by cases hb) (λi o' b _ hb=>by cases hb)
 have e0:a.put none (.slice none 0 0)=a:=rfl
 simp only[St.mk_]at h
 rw[e0]at h
 obtain⟨p1,p2,p3,p4⟩:=hs.owns id _ ho
 have hid:oget ((S.nx,some (Ow.ch e sz 0 [] pub))::S.O) id=some (.box cells):=by
  simp only[oget]
  split
  ·rename_i hb;have:=Nat.eq_of_beq_eq_true hb;omega
  ·exact ho
 have hg:(g.set S.nx ((Value.slice none 0 0),none)) S.nx=((Value.slice none 0 0),none):=by rw[Env.set_eq]
 have old: ∀x ox,oget ((id,some (Ow.box (cells.set i (.own S.nx))))::(S.nx,some (Ow.ch e sz 0 [] pub))::S.O) x=some ox->∃ox',oget ((S.nx,some (Ow.ch e sz 0 [] pub))::S.O) x=some ox':=λx ox hx=>by
  rcases zal hx with⟨rfl,_⟩ |⟨_,h'⟩
  ·exact⟨_,hid⟩
  ·exact⟨_,h'⟩
 refine⟨k,_,h.size,h.defers,h.keep,h.kk,h.facts,λj o' ho'=>?_,λx y ox oy b hx hy hne hb=>?_⟩
 ·rcases zal ho' with⟨rfl,e'⟩ |⟨hne,h'⟩
  ·cases e'
   obtain⟨q1,q2,q3,q4⟩:=h.owns _ _ hid
   refine⟨q1,λf hf=>?_,?_,q4⟩
   ·rcases List.mem_or_eq_of_mem_set hf with hf |rfl
    ·exact q2 f hf
    ·exact Nat.lt_succ_self _
   ·obtain⟨b,cur,t,e1,e2,e3,e4,e5⟩:=q3
    refine⟨b,cur,t,e1,e2,e3,by simpa using e4,λj f u hf hu=>?_⟩
    rw[List.getElem?_set]at hf
    split at hf
    ·rename_i hij
     subst hij
     split at hf
     ·cases hf
      obtain⟨u1,u2⟩:=e5 i _ u hc hu
      simp only[TF.at_,RV.at_]at u2
      exact⟨u1,by simp only[TF.at_];rw[hg];exact u2⟩
     ·cases hf
    ·exact e5 j f u hf hu
  ·exact h.owns j o' h'
 ·obtain⟨ox',hx'⟩:=old x ox hx
  obtain⟨oy',hy'⟩:=old y oy hy
  exact h.apart x y ox' oy' b hx' hy' hne hb
theorem znw(n:Node)(hn:n.fit)(hcl:aG 81 [.ag n.leaf.c] (.r (.ag n.leaf.c))):aG 42 [.ag n.c] (.r (.ag n.c)):=by
 refine aT Tryz.func42 rfl ?_
 obtain⟨h1,h2⟩:=hn
 refine za rfl rfl ?_
 refine ze hcl ?_
 refine aV ?_
 refine ze (zin n.par.box (by have:=h2.1;omega)) ?_
 refine ze (zin n.par.hash (by have:=h2.2.1;omega)) ?_
 refine ze (z6p n.par.late (by have:=h2.2.2.1;omega)) ?_
 refine za rfl rfl ?_
 refine za rfl rfl ?_
 exact cr
section
variable {P:Program} {T:TT} {B:Bs} {N:Nat} {S:St} {a:Act} {w:World} {k:Kp} {g:Env} {o:Oper}
theorem Vstep.sto{t:TypeId}{x y:Operand}{K:St->Prop}(hT:TOk P T)(hop:o.op= .store t x y)(h:Sx.sto T S o.dst t x y K):Vstep P S o K:=
 ⟨{S':St//K S'},λi=>i.1,λB N a w k Q ⟨g,hs⟩ _=>Oper.wp_mono (λa' w' ⟨S',k',hK,hs'⟩=>⟨⟨S',hK⟩,k',hs'⟩) (znl (Q:=Q) hT hs hop h),λi=>i.2⟩
theorem z6x{f:FuncId}{args:List RV}{e:TypeId}{sz n:Nat}{cells:List RV}(h:zab P f args (.ch e sz n cells)):zab P f args (.r (.sl sz n cells)):=
 ⟨h.1,λw k vs hp=>(h.2 w k vs hp).mono λ_ _ ⟨v,he,hx,k',hk,hr⟩=>⟨v,he,hx,k',hk,by obtain⟨ob,hc,_⟩:=hr;exact chAt.sl hc⟩⟩
def adrs(id:Nat)(l:List Nat):List TF:=l.map (TF.adr id)
def zm6(S:St):Nat->List (Nat×Operand)->List TF->Prop
 |_,[],fs=>fs=[]
 |i,(j,x)::r,fs=>∃id off gs,j=i/\opr S x=some (.adr id off)/\fs= .adr id off::gs/\zm6 S (i+1) r gs
theorem zvg(hs:SatE B N S a w k g): ∀(parts:List (Nat×Operand)) (i:Nat) (fs:List TF) (vs:Array Value),zm6 S i parts fs->i+parts.length<=vs.size->
  ∃vs',Instr.fill (λi=>some (i*1,1)) vs (parts.map λ(i,x)=>(i,a.eval x))=some vs'/\vs'.size=vs.size/\(∀j,j<i->vs'[j]?=vs[j]?)/\(∀f∈fs,f.lt S.nx)/\fs.length=parts.length/\
   ∀(j:Nat) (f:TF) (u:Value),fs[j]?=some f->vs'[i+j]?=some u->u.oneCell'=true/\f.at_ w k g u
 |[],i,fs,vs,h,hl=>by
  simp only[zm6]at h
  subst h
  exact⟨vs,rfl,rfl,λ_ _=>rfl,by simp,rfl,λj f u hf=>by simp at hf⟩
 |(j0,x)::r,i,fs,vs,h,hl=>by
  simp only[zm6]at h
  obtain⟨id,off,gs,rfl,hx,rfl,hr⟩:=h
  obtain⟨hlt,hat⟩:=zag hs hx
  have hat':=hat
  simp only[TF.at_]at hat
  obtain⟨b,hb,e⟩:=hat
  simp only[List.length_cons]at hl
  obtain⟨vs',h1,h2,h3,h4,h5,h6⟩:=zvg hs r (j0+1) gs (vs.setIfInBounds j0 (a.eval x)) hr (by simp;omega)
  refine⟨vs',?_,by simpa using h2,λj hj=>?_,?_,by simp[h5],λj f u hf hu=>?_⟩
  ·simp only[List.map_cons,Instr.fill]
   rw[if_neg (by simp[e,Value.cells];omega)]
   rw[<-h1]
   congr 1
   simp[e,Value.cells]
  ·rw[h3 j (by omega),Array.getElem?_setIfInBounds_ne (by omega)]
  ·intro f hf
   rcases List.mem_cons.1 hf with rfl |hf
   ·exact hlt
   ·exact h4 f hf
  ·cases j with
   |zero=>
    simp only[List.getElem?_cons_zero,Option.some.injEq]at hf
    subst hf
    rw[Nat.add_zero,h3 j0 (by omega)]at hu
    have hj:j0<vs.size:=by omega
    simp[hj]at hu
    subst hu
    exact⟨by rw[e];rfl,hat'⟩
   |succ j=>exact h6 j f u (by simpa using hf) (by rw[<-hu];congr 1;omega)
theorem Vstep.bsl{t e:TypeId}{ti te:TI}{n:Nat}{parts:Array (Nat×Operand)}(fs:List TF){K:St->Prop}(hT:TOk P T)(hop:o.op= .buildSlice t n parts)(hti:tget T t=some ti)(hk:ti.k= .slice e)(hte:tget T e=some te)(hsz:te.sz=1)
  (hn:parts.toList.length=n) (hsm:n<=16777216) (hp:zm6 S 0 parts.toList fs) (hK:K (({S with O:=(S.nx,some (.box fs))::S.O,nx:=S.nx+1}:St).put o.dst (.cut S.nx 0 n))):Vstep P S o K:=by
 refine Vstep.one (λB N a w k Q ⟨g,hs⟩ hd=>?_) hK
 obtain⟨q,hq⟩:=hT.get hti
 obtain⟨d,hdd,hko,_⟩:=q.desc
 rw[hq]at hdd
 rw[hk]at hko
 simp only[KOk]at hko
 subst hko
 obtain⟨qe,hqe⟩:=hT.get hte
 obtain⟨i,hi,hsi,_,z,hz,hzc⟩:=qe.info
 rw[hqe]at hi
 have hms:(madeCells z.cells (n*te.sz)).size=n:=by rw[hsz];simp[madeCells]
 obtain⟨vs,h1,h2,_,h4,h5,h6⟩:=zvg hs parts.toList 0 fs (madeCells z.cells (n*te.sz)) hp (by rw[hms,hn];omega)
 have hr:=zjd (w:=w) (n:=n) (parts:=parts.map λ(i,x)=>(i,a.eval x)) hdd hi hsi hz (by rw[hsz];omega) (vs:=vs) (by rw[hsz,Array.toList_map];rw[hsz]at h1;exact h1)
 rw[hms]at h2
 have hle:=zpc w k (.cells vs e) 0
 obtain⟨k',he,hkk,hl⟩:=zgq (t:=e) hs (cells:=fs) (cs:=vs) h4 (by rw[h2,h5,hn]) (λj f u hf hu=>h6 j f u hf (by rw[Nat.zero_add];exact hu))
 obtain⟨ob,hob,h7,h8,h9⟩:=hl
 have hs2:=hs.make (dst:=none) (λd h=>by cases h) he hkk (vb:=(.pointer (some ⟨w.heap.size,0,none⟩),ob)) h7 h8 h9
 refine za0 (v:= .slice (some ⟨w.heap.size,0,none⟩) n n) (by simp only[execOp,hop,Sem.run_bind,hr];rfl) ⟨k',_,hs2.put hd (Nat.lt_succ_self S.nx) ?_⟩
 simp only[TF.at_,Env.set_eq]
 refine⟨w.heap.size,n,?_,rfl,Nat.le_refl _,by simp only[maxLen];omega⟩
 simp only[Ow.at_]at h8
 obtain⟨b,cur,ty,e1,_⟩:=h8
 simp only[Prod.mk.injEq,Value.pointer.injEq,Option.some.injEq,Addr.mk.injEq,and_true]at e1
 rw[e1.2,e1.1]
end
end Go.Proofs.YtpcfoglfakeimaaGreat.Sx
