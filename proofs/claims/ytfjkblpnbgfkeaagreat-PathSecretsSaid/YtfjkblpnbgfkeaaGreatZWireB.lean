import Derived.Test.YtfjkblpnbgfkeaaGreatZFa
import Derived.Test.YtfjkblpnbgfkeaaGreatZBase
import Derived.Test.YtfjkblpnbgfkeaaGreatProg
import Derived.Laws.BitsAllLaws
import Derived.Deep.QuietTactic
import Derived.BigQuiet
import Derived.Deep.LoopGhost
namespace Go.Proofs.YtfjkblpnbgfkeaaGreat.Sx
open Go.RowKit
section
section
variable {P:Program} {w w':World} {k:Kp} {v:Value}
theorem za7{f:FuncId}{args:List RV}{res:Res}(hk:zi5 P f)(h: ∀w k vs,RV.partsAt w k args vs->Calls P f vs.toArray w (Ret w λw' v=>∃k':Kp,(∀b,b<w.heap.size->k' b=k b)/\res.at_ w.heap.size w' k' v)):zab P f args res:=
 ⟨hk,λw k vs hp=>(h w k vs hp).mono λ_ _ ⟨v,he,hx,hr⟩=>⟨v,he,hx,hr⟩⟩
theorem zir{f:FuncId}{args:List RV}{r:RV}{us:List Value}{u:Value}(hk:zi5 P f)(ha: ∀w k vs,RV.partsAt w k args vs->vs=us)(hr: ∀w k,r.at_ w k u)(h: ∀w,Calls P f us.toArray w λe w'=>e= .returned u/\w=w'):zab P f args (.r r):=
 za7 hk λw k vs hp=>by
  rw[ha w k vs hp]
  exact(h w).mono λ_ _ ⟨he,hw⟩=>⟨u,he,hw▸Below.refl _ _,k,λ_ _=>rfl,hr _ _⟩
theorem zs6{f:FuncId}{args:List RV}{r:RV}{us:List Value}{u:Value}(hk:zi5 P f)(ha: ∀w k vs,RV.partsAt w k args vs->vs=us)(hr: ∀w k,r.at_ w k u)(h: ∀w,Calls P f us.toArray w (Ret w λ_ v=>v=u)):zab P f args (.r r):=
 za7 hk λw k vs hp=>by
  rw[ha w k vs hp]
  exact(h w).mono λ_ _ ⟨v,he,hx,hv⟩=>⟨v,he,hx,k,λ_ _=>rfl,hv▸hr _ _⟩
section
variable {α:Type} {f:α->RV} {g:α->Value}
theorem z9w(hfg: ∀x w k v,(f x).at_ w k v↔v=g x){l:List α}(h:(RV.sl 1 l.length (l.map f)).at_ w k v): ∃p:AC,v= .slice p.a l.length p.c/\Sl w (λ_=>True) 1 p l.length (l.map g):=by
 simp only[RV.at_]at h
 obtain⟨a,c,rfl,h1,h2,h3,h4⟩:=h
 refine⟨⟨a,c⟩,rfl,by simp,h1,h2,λhn=>?_⟩
 obtain⟨b,o,e,hb,hc⟩:=h4 hn
 refine⟨b,o,e,trivial,hb,λj u hu=>?_⟩
 rw[RV.cellsAt_iff]at hc
 simp only[List.getElem?_map,Option.map_eq_some_iff]at hu
 obtain⟨x,hx,rfl⟩:=hu
 obtain⟨_,u,hu,_,hf⟩:=hc j (f x) (by simp[hx])
 rw[hu,(hfg x w k u).1 hf]
end
theorem ze6{l:List UInt8}(h:(bs l).at_ w k v): ∃p:AC,v= .slice p.a l.length p.c/\By w (λ_=>True) p l:=z9w (f:=U8) (g:=bv) (λx w k v=>by simp[RV.at_]) h
theorem zfjb{l:List Int}(hl: ∀x∈l,i64 x)(h:(is l).at_ w k v): ∃p:AC,v= .slice p.a l.length p.c/\Is w (λ_=>True) p l:=by
 obtain⟨p,h1,h2⟩:=z9w (f:=I) (g:=iv) (λx w k v=>by simp[RV.at_]) h
 exact⟨p,h1,h2,hl⟩
def bch(l:List UInt8):Res:= .ch 5 1 l.length (l.map U8)
def ich(l:List Int):Res:= .ch 3 1 l.length (l.map I)
theorem zk8{α:Type}{f:α->RV}{g:α->Value}(hfg: ∀x w k v,(f x).at_ w k v↔v=g x)(h1: ∀x,(g x).oneCell'=true): ∀l:List α,RV.listAt w k (l.map f) (l.map g)
 |[]=>by simp[RV.listAt]
 |x::r=>by
  simp only[List.map_cons,RV.listAt]
  exact⟨_,_,rfl,h1 x,(hfg _ _ _ _).2 rfl,zk8 hfg h1 r⟩
theorem z9q{α:Type}{f:α->RV}{g:α->Value}(hfg: ∀x w k v,(f x).at_ w k v↔v=g x)(h1: ∀x,(g x).oneCell'=true){e:TypeId}{l:List α}{base:Nat}{o:Option Nat}(h:Go.Proofs.YtfjkblpnbgfkeaaGreat.Ow w' base e 1 v l.length (l.map g) o):
  ∃k':Kp,(∀b,b<base->k' b=k b)/\(Res.ch e 1 l.length (l.map f)).at_ base w' k' v:=by
 obtain⟨_,h⟩:=h
 rcases h with⟨_,a,rfl,hs⟩ |⟨b,cap,cur,_,rfl,hb,hh,hnc,hcm,hcs,ht⟩
 ·rcases Nat.eq_zero_or_pos l.length with h0 |hpos
  ·refine⟨k,λ_ _=>rfl,none,⟨by simp, .inl ⟨rfl, .inl ⟨h0,a,by rw[h0]⟩⟩⟩,λb hb=>by cases hb⟩
  ·obtain⟨b,o',e',hb,hlt,hc⟩:=Sl.at_ hs hpos
   simp only at e'
   subst e'
   refine⟨λx=>if x<base then k x else o'+l.length,λx hx=>by simp[hx],none,⟨by simp, .inl ⟨rfl, .inr ⟨hpos,rfl,b,o',rfl,hs.2.2.1,hlt,?_⟩⟩⟩,λb hb=>by cases hb⟩
   rw[RV.cellsAt_iff]
   intro j q hq
   simp only[List.getElem?_map,Option.map_eq_some_iff]at hq
   obtain⟨x,hx,rfl⟩:=hq
   have hj:=(List.getElem?_eq_some_iff.1 hx).1
   exact⟨by rw[if_neg (by omega)];omega,g x,hc j (g x) (by simp[hx]),h1 x,(hfg _ _ _ _).2 rfl⟩
 ·refine⟨λx=>if x<base then k x else l.length,λx hx=>by simp[hx],some b,⟨by simp, .inr ⟨b,cap,cur,rfl,rfl,hh,hnc,hcm,Nat.le_of_eq hcs.symm,by simp only[if_neg (show¬b<base by omega)];simp,?_⟩⟩,λb' hb'=>by cases hb';exact hb⟩
  rw[ht]
  exact zk8 hfg h1 l
theorem zfi{l:List UInt8}{base:Nat}{o:Option Nat}(h:Go.Proofs.YtfjkblpnbgfkeaaGreat.Ow w' base 5 1 v l.length (l.map bv) o): ∃k':Kp,(∀b,b<base->k' b=k b)/\(bch l).at_ base w' k' v:=
 z9q (f:=U8) (λx w k v=>by simp[RV.at_]) (λ_=>rfl) h
theorem zmj{l:List Int}{base:Nat}{o:Option Nat}(h:Go.Proofs.YtfjkblpnbgfkeaaGreat.Ow w' base 3 1 v l.length (l.map iv) o): ∃k':Kp,(∀b,b<base->k' b=k b)/\(ich l).at_ base w' k' v:=
 z9q (f:=I) (λx w k v=>by simp[RV.at_]) (λ_=>rfl) h
theorem zaw{f:FuncId}{fn:Func}{c:Code}(hf:P.funcs[f]?=some fn)(hb:fn.body=some c)(hn:(!(fn.name== "runtime.NumGoroutine"))=true):zi5 P f:=
 ⟨fn,c,hf,hb,by simpa using hn⟩
theorem zfo{x:RV}{vs:List Value}(h:RV.partsAt w k [x] vs): ∃a,vs=[a]/\x.at_ w k a:=by
 simp only[RV.partsAt]at h
 obtain⟨u,r,rfl,h1,rfl⟩:=h
 exact⟨u,rfl,h1⟩
theorem zi0{x y:RV}{vs:List Value}(h:RV.partsAt w k [x,y] vs): ∃a b,vs=[a,b]/\x.at_ w k a/\y.at_ w k b:=by
 simp only[RV.partsAt]at h
 obtain⟨u,r,rfl,h1,u',r',rfl,h2,rfl⟩:=h
 exact⟨u,u',rfl,h1,h2⟩
theorem zeqb{x y z:RV}{vs:List Value}(h:RV.partsAt w k [x,y,z] vs): ∃a b c,vs=[a,b,c]/\x.at_ w k a/\y.at_ w k b/\z.at_ w k c:=by
 simp only[RV.partsAt]at h
 obtain⟨u,r,rfl,h1,u',r',rfl,h2,u2,r2,rfl,h3,rfl⟩:=h
 exact⟨u,u',u2,rfl,h1,h2,h3⟩
theorem zqe{a:Int}{w:World}{k:Kp}{vs:List Value}(h:RV.partsAt w k [I a] vs):vs=[.int .i64 a]:=by
 obtain⟨u,rfl,h1⟩:=zfo h
 simp only[RV.at_]at h1
 rw[h1]
theorem znj{a b:Int}{w:World}{k:Kp}{vs:List Value}(h:RV.partsAt w k [I a,I b] vs):vs=[.int .i64 a, .int .i64 b]:=by
 obtain⟨u,u',rfl,h1,h2⟩:=zi0 h
 simp only[RV.at_]at h1 h2
 rw[h1,h2]
end
end
end Go.Proofs.YtfjkblpnbgfkeaaGreat.Sx

namespace Go.Proofs.YtfjkblpnbgfkeaaGreat
open Go.RowKit
set_option linter.unusedVariables false
section
theorem za9{a b:Int}(h:a=b):Ending.returned (.int .i64 a)= .returned (.int .i64 b):=by rw[h]
theorem zcp{a b:Bool}(h:a=b):Ending.returned (.bool a)= .returned (.bool b):=by rw[h]
theorem Tryz.infoInt:(Tryz.prog.info? 3).map (λi=>(i.zero,i.size,i.bytes))=some (some (.int .i64 0),1,8):=by kernel_rfl
theorem Tryz.infoU8:(Tryz.prog.info? 5).map (λi=>(i.zero,i.size,i.bytes))=some (some (.int .u8 0),1,1):=by kernel_rfl
def OwI(w':World)(base:Nat)(v:Value)(l:List Int)(g:Option Nat):Prop:=Ow w' base 3 1 v l.length (l.map iv) g
def OwB(w':World)(base:Nat)(v:Value)(l:List UInt8)(g:Option Nat):Prop:=Ow w' base 5 1 v l.length (l.map bv) g
section
variable {w w':World} {base:Nat} {v:Value} {l:List Int} {m:List UInt8} {g:Option Nat}
theorem OwB.nil(w:World)(base:Nat):OwB w base (.slice none 0 0) [] none:=Ow.nil _ _ _ _
theorem OwI.ext(h:OwI w base v l g)(k:Ext w w'):OwI w' base v l g:=Ow.ext h k
theorem OwB.ext(h:OwB w base v m g)(k:Ext w w'):OwB w' base v m g:=Ow.ext h k
theorem OwI.alloc(h:OwI w base v l g)(o:Obj):OwI (w.alloc o) base v l g:=Ow.ext h (zar _ _)
theorem OwB.alloc(h:OwB w base v m g)(o:Obj):OwB (w.alloc o) base v m g:=Ow.ext h (zar _ _)
theorem OwI.form(h:OwI w base v l g): ∃a c,v= .slice a l.length c:=by obtain⟨p,e,_⟩:=Ow.sl h;exact⟨p.a,p.c,e⟩
theorem OwB.form(h:OwB w base v m g): ∃a c,v= .slice a m.length c:=by obtain⟨p,e,_⟩:=Ow.sl h;exact⟨p.a,p.c,e⟩
theorem OwB.by_(h:OwB w base v m g): ∃p:AC,v= .slice p.a m.length p.c/\By w (base<= ·) p m:=Ow.sl h
theorem OwI.is_(h:OwI w base v l g)(hw: ∀x∈l,I64 x): ∃p:AC,v= .slice p.a l.length p.c/\Is w (base<= ·) p l:=by
 obtain⟨p,e,hs⟩:=Ow.sl h
 exact⟨p,e,hs,hw⟩
theorem OwI.base_mono{b:Nat}(h:OwI w base v l g)(hb:b<=base):OwI w b v l g:=Ow.base_mono h hb
theorem OwB.base_mono{b:Nat}(h:OwB w base v m g)(hb:b<=base):OwB w b v m g:=Ow.base_mono h hb
end
theorem Ow.grown{w w' a:World}{base:Nat}{e:TypeId}{sz n:Nat}{v:Value}{xs:List Value}{g:Option Nat}(h:Ow w base e sz v n xs g)(hg:w.grownBy w' g)(ha:Ext a w)(hb:a.heap.size<=base):Ext a w':=
 ha.grown hg λk hk=>Nat.le_trans hb (h.lt k hk).1
theorem OwI.grown{w w' a:World}{base:Nat}{v:Value}{l:List Int}{g:Option Nat}(h:OwI w base v l g)(hg:w.grownBy w' g)(ha:Ext a w)(hb:a.heap.size<=base):Ext a w':=Ow.grown h hg ha hb
theorem OwB.grown{w w' a:World}{base:Nat}{v:Value}{l:List UInt8}{g:Option Nat}(h:OwB w base v l g)(hg:w.grownBy w' g)(ha:Ext a w)(hb:a.heap.size<=base):Ext a w':=Ow.grown h hg ha hb
theorem Sl.block{w:World}{b:Nat}{cs:Array Value}{t:TypeId}{fr:Nat×Nat}{sz n c:Nat}{S:Nat->Prop}(hb:w.heap[b]?=some (.cells cs t fr))(hs:S b)(hn:cs.size=n*sz)(hc:n<=c)(hm:c<=maxLen):
  Sl w S sz ⟨some ⟨b,0,none⟩,c⟩ n cs.toList:=
 ⟨by simpa using hn,hc,hm,λ_=>⟨b,0,rfl,hs,(Array.getElem?_eq_some_iff.1 hb).1,λj u hu=>by
  rw[Nat.zero_add,cell_of_row w b j cs t fr hb];simpa using hu⟩⟩
section
variable {w:World} {ops:Array Oper} {rest:List Oper} {o:Oper} {a:Act} {Q:Exit->Act->World->Prop}
theorem zfr(hgd:o.guard=none)(s x:Operand)(ho:o.op= .call {callee:= .builtin .append,args:= #[s,x],argTypes:= #[70,70]})
  {base:Nat} {v:Value} {l:List Int} {g:Option Nat} (hs:a.eval s=v) (hown:OwI w base v l g)
  {qa:Option Addr} {qc m:Nat} {l2:List Int} {S:Nat->Prop} (hx:a.eval x= .slice qa m qc) (hm:m=l2.length) (hsrc:Sl w S 1 ⟨qa,qc⟩ l2.length (l2.map iv))
  (hsmall:l.length+l2.length<=8796093022208) (hbase:base<=w.heap.size)
  (h: ∀a' c' g' w',OwI w' base (.slice a' (l.length+m) c') (l++l2) g'->w.grownBy w' g->(g'=g\/g'=some w.heap.size)->wpList Tryz.prog ops Q rest (a.put o.dst (.slice a' (l.length+m) c')) w'):
  wpList Tryz.prog ops Q (o::rest) a w:=by
 subst hm
 obtain⟨i0,hi,hz0,hz1,hz2⟩:=info_parts Tryz.infoInt
 refine zlx w hgd s x 70 ho base 3 i0 (.int .i64 0) 1 8 Tryz.underlying70 hi hz0 hz1 hz2 rfl (by decide) v l.length (l.map iv) g hs hown qa l2.length qc (l2.map iv) hx hsrc (zdxb _) (by simp only[maxLen];omega) (by omega) hbase ?_
 intro a' c' g' w' h1 h2 h3
 refine h a' c' g' w' ?_ h2 h3
 unfold OwI
 rw[List.length_append,List.map_append]
 exact h1
theorem zb5(hgd:o.guard=none)(s x:Operand)(ho:o.op= .call {callee:= .builtin .append,args:= #[s,x],argTypes:= #[22,22]})
  {base:Nat} {v:Value} {l:List UInt8} {g:Option Nat} (hs:a.eval s=v) (hown:OwB w base v l g)
  {qa:Option Addr} {qc m:Nat} {l2:List UInt8} {S:Nat->Prop} (hx:a.eval x= .slice qa m qc) (hm:m=l2.length) (hsrc:Sl w S 1 ⟨qa,qc⟩ l2.length (l2.map bv))
  (hsmall:l.length+l2.length<=8796093022208) (hbase:base<=w.heap.size)
  (h: ∀a' c' g' w',OwB w' base (.slice a' (l.length+m) c') (l++l2) g'->w.grownBy w' g->(g'=g\/g'=some w.heap.size)->wpList Tryz.prog ops Q rest (a.put o.dst (.slice a' (l.length+m) c')) w'):
  wpList Tryz.prog ops Q (o::rest) a w:=by
 subst hm
 obtain⟨i0,hi,hz0,hz1,hz2⟩:=info_parts Tryz.infoU8
 refine zlx w hgd s x 22 ho base 5 i0 (.int .u8 0) 1 1 Tryz.underlying22 hi hz0 hz1 hz2 rfl (by decide) v l.length (l.map bv) g hs hown qa l2.length qc (l2.map bv) hx hsrc (zc5b _) (by simp only[maxLen];omega) (by omega) hbase ?_
 intro a' c' g' w' h1 h2 h3
 refine h a' c' g' w' ?_ h2 h3
 unfold OwB
 rw[List.length_append,List.map_append]
 exact h1
end
theorem zqq(w:World)(y:Int)(e:TypeId):Sl (w.alloc (.cells #[.int .i64 y] e)) (λ_=>True) 1 ⟨some ⟨w.heap.size,0,none⟩,1⟩ [y].length ([y].map iv):=
 Sl.block (heap_alloc_new w _) trivial rfl (Nat.le_refl _) (by decide)
theorem zejb(w:World)(y:UInt8)(e:TypeId):Sl (w.alloc (.cells #[.int .u8 y.toNat] e)) (λ_=>True) 1 ⟨some ⟨w.heap.size,0,none⟩,1⟩ [y].length ([y].map bv):=
 Sl.block (heap_alloc_new w _) trivial rfl (Nat.le_refl _) (by decide)
end
section
def lvF:Nat->Nat->Nat
 |0,_=>0
 |f+1,x=>if x%2=1 then lvF f (x/2)+1 else 0
def lv(x:Nat):Nat:=lvF 17 x
def nd(h k:Nat):Nat:=k*2^(h+1)+2^h-1
theorem zag(n:Nat):0<2^n:=Nat.pow_pos (by omega)
theorem z4u: ∀(f x:Nat),x<2^f-1->lvF f x<f/\x%2^(lvF f x)=2^(lvF f x)-1/\x/2^(lvF f x)%2=0
 |0,x,h=>by simp at h
 |f+1,x,h=>by
  have hp:=zag f
  have e:2^(f+1)=2*2^f:=by rw[Nat.pow_succ];omega
  unfold lvF
  by_cases hx:x%2=1
  ·rw[if_pos hx]
   have ih:=z4u f (x/2) (by omega)
   generalize lvF f (x/2)=l at ih
   have hl:=zag l
   refine⟨by omega,?_,?_⟩
   ·rw[Nat.pow_succ,Nat.mul_comm,Nat.mod_mul,ih.2.1];omega
   ·rw[Nat.pow_succ,Nat.mul_comm,<-Nat.div_div_eq_div_mul];exact ih.2.2
  ·rw[if_neg hx]
   refine⟨by omega,by simp;omega,by simp;omega⟩
theorem zfc{x:Nat}(h:x<=131070):lv x<=16/\x%2^(lv x)=2^(lv x)-1/\x/2^(lv x)%2=0:=by
 have:=z4u 17 x (by omega)
 exact⟨by unfold lv;omega,this.2⟩
theorem z1i{x:Nat}(h:x<=131070):x=nd (lv x) (x/2^(lv x+1)):=by
 obtain⟨_,h1,h2⟩:=zfc h
 generalize lv x=l at*
 have hp:=zag l
 unfold nd
 have e1:x/2^(l+1)=x/2^l/2:=by rw[Nat.pow_succ,Nat.div_div_eq_div_mul]
 have e2:=Nat.div_add_mod x (2^l)
 have e3:=Nat.div_add_mod (x/2^l) 2
 rw[e1]
 rw[h1]at e2
 rw[h2]at e3
 generalize x/2^l/2=k at*
 have e4:k*2^(l+1)=2^l*(2*k):=by rw[Nat.pow_succ,Nat.mul_comm (2^l) 2,<-Nat.mul_assoc,Nat.mul_comm,Nat.mul_comm k 2]
 rw[e4]
 have e5:2*k=x/2^l:=by omega
 rw[e5]
 omega
theorem z4v: ∀(f h k:Nat),h<f->lvF f (nd h k)=h
 |0,h,k,hh=>by omega
 |f+1,0,k,_=>by unfold lvF nd;simp
 |f+1,h+1,k,hh=>by
  have hp:=zag h
  have e:nd (h+1) k=2*nd h k+1:=by
   unfold nd
   rw[Nat.pow_succ 2 (h+1),Nat.pow_succ 2 h,<-Nat.mul_assoc]
   omega
  unfold lvF
  rw[e,if_pos (by omega),show(2*nd h k+1)/2=nd h k by omega,z4v f h k (by omega)]
theorem zum{h k:Nat}(hh:h<=16):lv (nd h k)=h:=z4v 17 h k (by omega)
theorem zbub(h k:Nat):nd (h+1) k=2*nd h k+1:=by
 have hp:=zag h
 unfold nd
 rw[Nat.pow_succ 2 (h+1),Nat.pow_succ 2 h,<-Nat.mul_assoc]
 omega
theorem zr9(k:Nat):nd 0 k=2*k:=by unfold nd;simp;omega
def fitsL:List Int:=[1,2,4,8,16,32,64,128,256,512,1024,2048,4096,8192,16384,32768,65536]
def zbj(n:Int):Bool:=fitsL.contains n
theorem zfy{n:Int}(h:zbj n=true): ∃d,d<=16/\n=((2^d:Nat):Int):=by
 unfold zbj fitsL at h
 simp at h
 rcases h with h |h |h |h |h |h |h |h |h |h |h |h |h |h |h |h |h
 ·exact⟨0,by omega,by simpa using h⟩
 ·exact⟨1,by omega,by simpa using h⟩
 ·exact⟨2,by omega,by simpa using h⟩
 ·exact⟨3,by omega,by simpa using h⟩
 ·exact⟨4,by omega,by simpa using h⟩
 ·exact⟨5,by omega,by simpa using h⟩
 ·exact⟨6,by omega,by simpa using h⟩
 ·exact⟨7,by omega,by simpa using h⟩
 ·exact⟨8,by omega,by simpa using h⟩
 ·exact⟨9,by omega,by simpa using h⟩
 ·exact⟨10,by omega,by simpa using h⟩
 ·exact⟨11,by omega,by simpa using h⟩
 ·exact⟨12,by omega,by simpa using h⟩
 ·exact⟨13,by omega,by simpa using h⟩
 ·exact⟨14,by omega,by simpa using h⟩
 ·exact⟨15,by omega,by simpa using h⟩
 ·exact⟨16,by omega,by simpa using h⟩
theorem zi1: ∀d,d<=16->zbj ((2^d:Nat):Int)=true:=by decide+kernel
theorem ze8{n:Int}(h:zbj n=true):1<=n/\n<=65536:=by
 obtain⟨d,hd,rfl⟩:=zfy h
 have h1:=zag d
 have h2:2^d<=2^16:=Nat.pow_le_pow_right (by omega) hd
 omega
def za6(x:Int):Bool:=decide (0<=x)&&decide (x<=131070)
def ofI(x n:Int):Bool:=zbj n&&(decide (0<=x)&&decide (x<=2*n-2))
theorem zdo{x:Int}:za6 x=true↔0<=x/\x<=131070:=by simp[za6]
theorem zf8{x n:Int}:ofI x n=true↔zbj n=true/\0<=x/\x<=2*n-2:=by simp[ofI]
def lvI(x:Int):Int:=if za6 x then(lv x.toNat:Int)else-1
def zco(x:Int):Int:=if 0<lvI x then 2^(lvI x-1).toNat else 0
def zbl(x:Int):Int:=if zco x=0 then-1 else x-zco x
def zby(x:Int):Int:=if zco x=0 then-1 else x+zco x
def zlo(n:Int):Int:=if zbj n then n-1 else-1
def upN(x:Nat):Nat:=if x/2^(lv x+1)%2=0 then x+2^lv x else x-2^lv x
def parI(x n:Int):Int:=if ofI x n&&decide (x≠n-1)then(upN x.toNat:Int)else-1
def sibI(x n:Int):Int:=if parI x n<0 then-1 else if x<parI x n then zby (parI x n)else zbl (parI x n)
def zda(n:Int):Nat->Int->List Int
 |0,_=>[]
 |f+1,x=>if parI x n<0 then[]else parI x n::zda n f (parI x n)
def zb2(x n:Int):List Int:=zda n 17 x
def zcz(n:Int):Nat->Int->List Int
 |0,_=>[]
 |f+1,x=>if parI x n<0 then[]else sibI x n::zcz n f (parI x n)
def zbz(x n:Int):List Int:=zcz n 17 x
def zn0(y:Int):Int:=2^(lvI y).toNat-1
def zbh(x y:Int):Bool:=(za6 x&&za6 y)&&(decide (y-zn0 y<=x)&&decide (x<=y+zn0 y))
theorem zic{x y:Int}:zbh x y=true↔(za6 x=true/\za6 y=true)/\y-zn0 y<=x/\x<=y+zn0 y:=by
 simp only[zbh,Bool.and_eq_true,decide_eq_true_eq]
theorem zph(y:Int):zn0 y=2^(lvI y).toNat-1:=rfl
theorem zqk(x:Int): -1<=lvI x/\lvI x<=16:=by
 unfold lvI
 split
 ·rename_i h
  rw[zdo]at h
  have:=(zfc (x:=x.toNat) (by omega)).1
  omega
 ·omega
theorem zla{x:Int}(h:za6 x=true):lvI x=lv x.toNat:=by simp[lvI,h]
theorem zv5{x:Int}(h:za6 x=false):lvI x= -1:=by simp[lvI,h]
theorem ze4b{h k:Nat}(hh:h+1<=16):upN (nd h k)=nd (h+1) (k/2):=by
 have hp:=zag h
 unfold upN
 rw[zum (by omega)]
 have e1:nd h k/2^(h+1)=k:=by
  unfold nd
  have:2^h<2^(h+1):=by rw[Nat.pow_succ];omega
  rw[Nat.add_sub_assoc (by omega),Nat.add_comm,Nat.add_mul_div_right _ _ (zag _),Nat.div_eq_of_lt (by omega)]
  omega
 rw[e1]
 unfold nd
 rw[Nat.pow_succ 2 (h+1),Nat.pow_succ 2 h]
 generalize 2^h=q at*
 split
 ·rename_i hk
  have:k=2*(k/2):=by omega
  generalize k/2=j at*
  subst this
  rw[show 2*j*(q*2)=j*(q*2*2)by rw[Nat.mul_comm 2 j,Nat.mul_assoc,Nat.mul_comm 2]]
  omega
 ·rename_i hk
  have:k=2*(k/2)+1:=by omega
  generalize k/2=j at*
  subst this
  rw[Nat.add_mul,show 2*j*(q*2)=j*(q*2*2)by rw[Nat.mul_comm 2 j,Nat.mul_assoc,Nat.mul_comm 2]]
  omega
theorem z47{a j:Nat}(h:a/2^j%2=0):a|||2^j=a+2^j:=by
 have hp:=zag j
 have e3:a=a/2^(j+1)*2^(j+1)+a%2^j:=by
  have e4:=Nat.div_add_mod a (2^j)
  have e5:a/2^(j+1)=a/2^j/2:=by rw[Nat.pow_succ,Nat.div_div_eq_div_mul]
  have e6:a/2^(j+1)*2^(j+1)=2^j*(2*(a/2^j/2)):=by rw[e5,Nat.pow_succ,Nat.mul_comm,Nat.mul_assoc]
  rw[e6,show 2*(a/2^j/2)=a/2^j by omega]
  omega
 have hlt:a%2^j<2^j:=Nat.mod_lt _ hp
 have hs:2^(j+1)=2*2^j:=by rw[Nat.pow_succ];omega
 have hq:(a/2^(j+1)*2^(j+1))%2^(j+1)=0:=by simp
 generalize a/2^(j+1)*2^(j+1)=q at*
 generalize a%2^j=r at*
 have e7:q|||r=q+r:=nat_join (j+1) q r hq (by omega)
 have e8:r|||2^j=2^j+r:=by rw[Nat.or_comm];exact nat_join j _ _ (by simp) hlt
 have e9:q|||(2^j+r)=q+(2^j+r):=nat_join (j+1) q _ hq (by omega)
 rw[e3,<-e7,Nat.or_assoc,e8,e9,e7]
 omega
theorem z2s{a j:Nat}(ha:a<2^64)(hj:j<64):a&&&(2^64-(2^j+1))=a-a/2^j%2*2^j:=by
 have hjj:2^j<2^64:=Nat.pow_lt_pow_right (by omega) hj
 have key: ∀b:Nat,b<2^64->b/2^j%2=0->b&&&(2^64-(2^j+1))=b:=by
  intro b hb h0
  apply Nat.eq_of_testBit_eq
  intro i
  rw[Nat.testBit_and,Nat.testBit_two_pow_sub_succ hjj,Nat.testBit_two_pow]
  by_cases hi:i<64
  ·by_cases hij:j=i
   ·subst hij
    simp[Nat.testBit_eq_decide_div_mod_eq,h0]
   ·simp[hij,hi]
  ·have:b.testBit i=false:=Nat.testBit_lt_two_pow (Nat.lt_of_lt_of_le hb (Nat.pow_le_pow_right (by omega) (by omega)))
   simp[this]
 have hp:=zag j
 rcases Nat.mod_two_eq_zero_or_one (a/2^j)with h |h
 ·rw[h,key a ha h];omega
 ·have hge:2^j<=a:=by
   rcases Nat.lt_or_ge a (2^j)with hl |hl
   ·rw[Nat.div_eq_of_lt hl]at h;omega
   ·exact hl
  have h0:(a-2^j)/2^j%2=0:=by
   have:(a-2^j)/2^j=a/2^j-1:=by have:=Nat.sub_mul_div a (2^j) 1;rwa[Nat.mul_one]at this
   omega
  have e:a=(a-2^j)|||2^j:=by rw[z47 h0];omega
  have:=key (a-2^j) (by omega) h0
  rw[h,Nat.one_mul]
  conv=>lhs;rw[e]
  rw[Nat.and_or_distrib_right,this]
  have h2:2^j&&&(2^64-(2^j+1))=0:=by
   apply Nat.eq_of_testBit_eq
   intro i
   rw[Nat.testBit_and,Nat.testBit_two_pow_sub_succ hjj,Nat.testBit_two_pow]
   by_cases hij:j=i<;>simp[hij]
  rw[h2,Nat.or_zero]
theorem z1h{h k d:Nat}(hd:h<=d):nd h k<=2*2^d-2↔k<2^(d-h):=by
 have hp:=zag h
 have hq:=zag (d-h)
 have e:2^d=2^h*2^(d-h):=by rw[<-Nat.pow_add];congr 1;omega
 unfold nd
 rw[e,Nat.pow_succ]
 generalize 2^h=q at*
 generalize 2^(d-h)=Q at*
 have e1:k*(q*2)=2*(q*k):=by rw[<-Nat.mul_assoc,Nat.mul_comm k q,Nat.mul_comm]
 rw[e1]
 constructor
 ·intro h1
  rcases Nat.lt_or_ge k Q with h2 |h2
  ·exact h2
  ·have:=Nat.mul_le_mul_left q h2
   have:q*1<=q*Q:=Nat.mul_le_mul_left q hq
   omega
 ·intro h1
  have:=Nat.mul_le_mul_left q (show k+1<=Q from h1)
  rw[Nat.mul_add]at this
  omega
theorem zga{x n:Int}(h:ofI x n=true): ∃d h k,d<=16/\n=((2^d:Nat):Int)/\h<=d/\k<2^(d-h)/\x=(nd h k:Int):=by
 rw[zf8]at h
 obtain⟨d,hd,hn⟩:=zfy h.1
 obtain⟨m,rfl⟩:=Int.eq_ofNat_of_zero_le h.2.1
 have h16:2^d<=2^16:=Nat.pow_le_pow_right (by omega) hd
 have hm:m<=2*2^d-2:=by omega
 have hf:=z1i (x:=m) (by omega)
 have hl:lv m<=d:=by
  rcases Nat.lt_or_ge d (lv m)with h1 |h1
  ·exfalso
   have h2:2^(d+1)<=2^lv m:=Nat.pow_le_pow_right (by omega) h1
   rw[Nat.pow_succ]at h2
   have hp:=zag d
   have:2^lv m-1<=m:=by
    conv=>rhs;rw[hf]
    unfold nd
    omega
   omega
  ·exact h1
 refine⟨d,lv m,m/2^(lv m+1),hd,hn,hl,?_,by rw[<-hf]⟩
 rw[<-z1h hl,<-hf];exact hm
theorem z1l{d h k:Nat}(hd:d<=16)(hh:h<=d)(hk:k<2^(d-h)):ofI (nd h k:Int) ((2^d:Nat):Int)=true:=by
 rw[zf8]
 have:=(z1h hh).2 hk
 exact⟨zi1 d hd,by omega,by have:=zag d;omega⟩
theorem zzi{d h k:Nat}(hd:d<=16)(hh:h<=d)(hk:k<2^(d-h)):nd h k<=131070:=by
 have:=(z1h hh).2 hk
 have h16:2^d<=2^16:=Nat.pow_le_pow_right (by omega) hd
 omega
theorem zg8{d h k:Nat}(hd:d<=16)(hh:h<=d)(hk:k<2^(d-h)):za6 (nd h k:Int)=true:=by
 have:=zzi hd hh hk
 rw[zdo];omega
theorem zmo{d h k:Nat}(hd:d<=16)(hh:h<=d)(hk:k<2^(d-h)):lvI (nd h k:Int)=h:=by
 rw[zla (zg8 hd hh hk),Int.toNat_natCast,zum (by omega)]
theorem zr8(d:Nat):(nd d 0:Int)=((2^d:Nat):Int)-1:=by
 have:=zag d
 unfold nd;omega
theorem ziy{h k h' k':Nat}(hh:h<=16)(hh':h'<=16)(e:nd h k=nd h' k'):h=h'/\k=k':=by
 have h1:h=h':=by rw[<-zum (h:=h) (k:=k) hh,<-zum (h:=h') (k:=k') hh',e]
 subst h1
 refine⟨rfl,?_⟩
 unfold nd at e
 have hp:=zag h
 have:k*2^(h+1)=k'*2^(h+1):=by omega
 exact Nat.eq_of_mul_eq_mul_right (zag _) this
theorem zih{d h k:Nat}(hd:d<=16)(hh:h<d)(hk:k<2^(d-h)):parI (nd h k:Int) ((2^d:Nat):Int)=(nd (h+1) (k/2):Int):=by
 have hne:(nd h k:Int)≠((2^d:Nat):Int)-1:=by
  rw[<-zr8]
  intro e
  have:=(ziy (by omega) hd (Int.ofNat.inj e)).1
  omega
 unfold parI
 rw[z1l hd (by omega) hk,Int.toNat_natCast,ze4b (by omega),Bool.true_and,if_pos (by rw[decide_eq_true_eq];exact hne)]
theorem zhv{d:Nat}:parI (nd d 0:Int) ((2^d:Nat):Int)= -1:=by
 unfold parI
 rw[zr8];simp
theorem zkc{d h k:Nat}(hh:h<d)(hk:k<2^(d-h)):k/2<2^(d-(h+1)):=by
 have e:2^(d-h)=2*2^(d-(h+1)):=by
  rw[show d-h=d-(h+1)+1 by omega,Nat.pow_succ];omega
 omega
theorem zje{x n:Int}(h:0<=parI x n):ofI x n=true/\ofI (parI x n) n=true/\lvI (parI x n)=lvI x+1/\0<=lvI x:=by
 have ho:ofI x n=true:=by
  unfold parI at h
  split at h
  ·rename_i h1;simp at h1;exact h1.1
  ·omega
 obtain⟨d,l,k,hd,rfl,hh,hk,rfl⟩:=zga ho
 rcases Nat.lt_or_ge l d with hlt |hge
 ·rw[zih hd hlt hk]at*
  exact⟨ho,z1l hd (by omega) (zkc hlt hk),by rw[zmo hd (by omega) (zkc hlt hk),zmo hd hh hk];rfl,by rw[zmo hd hh hk];omega⟩
 ·obtain rfl:l=d:=by omega
  have:k=0:=by simpa using hk
  subst this
  rw[zhv]at h
  omega
end
section
def beB:Nat->Nat->List UInt8
 |0,_=>[]
 |s+1,n=>UInt8.ofNat (n/256^s)::beB s n
theorem za0: ∀(s n:Nat),(beB s n).length=s
 |0,_=>rfl
 |s+1,n=>by rw[beB,List.length_cons,za0 s n]
def lenB(n:Nat):List UInt8:=if n<64 then beB 1 n else if n<16384 then beB 2 (16384+n)else beB 4 (2147483648+n)
def zdg(n:Nat):Nat:=if n<64 then 1 else if n<16384 then 2 else 4
theorem zg7(n:Nat):(lenB n).length=zdg n:=by
 unfold lenB zdg
 split
 ·exact za0 _ _
 ·split<;>exact za0 _ _
theorem ziw(n:Nat):1<=zdg n/\zdg n<=4:=by unfold zdg;split<;>(try split)<;>omega
def vecB(v:List UInt8):List UInt8:=lenB v.length++v
theorem zpf(v:List UInt8):(vecB v).length=zdg v.length+v.length:=by rw[vecB,List.length_append,zg7]
theorem zal(v:List UInt8):(vecB v).length<=v.length+4:=by rw[zpf];have:=ziw v.length;omega
theorem zpd(n:Nat):((UInt8.ofNat n).toNat:Int)=(n:Int)%256:=by rw[UInt8.toNat_ofNat'];omega
theorem z5f(i:Nat):2^(8*i)=256^i:=by rw[Nat.pow_mul]
end
section
theorem OwB.ofNew{w:World}{base:Nat}{l:List UInt8}{cs:Array Value}{n:Nat}(hb:base<=w.heap.size)(hcs:cs.toList=l.map bv)(hn:n=l.length)(hl:l.length<=1000000):
  OwB (w.alloc (.cells cs 5)) base (.slice (some ⟨w.heap.size,0,none⟩) n n) l (some w.heap.size):=by
 subst hn
 unfold OwB
 rw[<-hcs]
 exact Ow.made (by rw[<-Array.length_toList,hcs];simp) (by simp only[maxLen];omega) hb
theorem OwI.ofNew{w:World}{base:Nat}{l:List Int}{cs:Array Value}{n:Nat}(hb:base<=w.heap.size)(hcs:cs.toList=l.map iv)(hn:n=l.length)(hl:l.length<=1000000):
  OwI (w.alloc (.cells cs 3)) base (.slice (some ⟨w.heap.size,0,none⟩) n n) l (some w.heap.size):=by
 subst hn
 unfold OwI
 rw[<-hcs]
 exact Ow.made (by rw[<-Array.length_toList,hcs];simp) (by simp only[maxLen];omega) hb
theorem By.none_nil{w:World}{S:Nat->Prop}{c:Nat}{l:List UInt8}(h:By w S ⟨none,c⟩ l):l=[]:=by
 rcases Nat.eq_zero_or_pos l.length with h0 |h0
 ·exact List.eq_nil_of_length_eq_zero h0
 ·obtain⟨_,_,e,_⟩:=Sl.at_ h h0;cases e
theorem Is.none_nil{w:World}{S:Nat->Prop}{c:Nat}{l:List Int}(h:Is w S ⟨none,c⟩ l):l=[]:=by
 rcases Nat.eq_zero_or_pos l.length with h0 |h0
 ·exact List.eq_nil_of_length_eq_zero h0
 ·obtain⟨_,_,e,_⟩:=Sl.at_ h.1 h0;cases e
theorem zkt(p:AC)(l:List UInt8){S:Nat->Prop}(w:World)(hp:By w S p l)(hl:l.length<=8000000000000):
  Calls Tryz.prog 139 #[.slice p.a l.length p.c] w (Ret w λw' v=>∃g,OwB w' w.heap.size v l g):=by
 have hq: ∀w (a:Option Addr) (n c:Nat),(binOp .eql 22 (.slice a n c) (.slice none 0 0)).run Tryz.prog w= .ok (.bool a.isNone) w:=λw a n c=>Lib.run_eql_slice_nil w _ _ a n c 0 0 Tryz.underlying22
 obtain⟨a,c⟩:=p
 cases a with
 |none=>
  have hn:=hp.none_nil
  subst hn
  go_enter Tryz.func139,Tryz.ntmps139
  go_wp2_with fail
  go_ret
  exact⟨_,rfl,(by(repeat (first |exact Ext.refl _ |refine Ext.drew ?_ |refine Ext.drewN ?_ _ |refine Ext.alloc ?_ _ |(refine Ext.setCell ?_ (by first |omega |(simp;done) |(simp;omega)) _) |refine Ext.trans ?_ (by assumption)))),none,Ow.nil _ _ _ _⟩
 |some ad=>
  go_enter Tryz.func139,Tryz.ntmps139
  go_wp2_with (first |(at_builtin;refine zc5 ?_))
  refine zc3 (zb5 rfl (.tmp 5) (.tmp 6) rfl rfl (OwB.ofNew (l:=[]) (Nat.le_refl _) rfl rfl (by decide)) rfl rfl (id ((hp.ext (zar _ _)))) ?_ ?_ ?_)
  ·simp;omega
  ·simp
  intro a' c' g' w' r1 r2 r3
  have r4:=Ext.grown (zar _ _) r2 (λk hk=>by cases hk;simp)
  rw[List.nil_append]at r1
  go_wp2_with fail
  go_ret
  exact⟨_,rfl,r4,g',by simpa using r1⟩
theorem zpn(p:AC)(l:List UInt8){S:Nat->Prop}(w:World)(hp:By w S p l)(hl:l.length<=8000000000000):
  Calls Tryz.prog 25 #[.slice p.a l.length p.c] w (Ret w λw' v=>∃g,OwB w' w.heap.size v l g):=by
 have hq: ∀w (a:Option Addr) (n c:Nat),(binOp .eql 22 (.slice a n c) (.slice none 0 0)).run Tryz.prog w= .ok (.bool a.isNone) w:=λw a n c=>Lib.run_eql_slice_nil w _ _ a n c 0 0 Tryz.underlying22
 obtain⟨a,c⟩:=p
 cases a with
 |none=>
  have hn:=hp.none_nil
  subst hn
  go_enter Tryz.func25,Tryz.ntmps25
  go_wp2_with fail
  go_ret
  exact⟨_,rfl,(by(repeat (first |exact Ext.refl _ |refine Ext.drew ?_ |refine Ext.drewN ?_ _ |refine Ext.alloc ?_ _ |(refine Ext.setCell ?_ (by first |omega |(simp;done) |(simp;omega)) _) |refine Ext.trans ?_ (by assumption)))),none,Ow.nil _ _ _ _⟩
 |some ad=>
  go_enter Tryz.func25,Tryz.ntmps25
  go_wp2_with (first |(at_builtin;refine zc5 ?_))
  refine zc3 (zb5 rfl (.tmp 5) (.tmp 6) rfl rfl (OwB.ofNew (l:=[]) (Nat.le_refl _) rfl rfl (by decide)) rfl rfl (id ((hp.ext (zar _ _)))) ?_ ?_ ?_)
  ·simp;omega
  ·simp
  intro a' c' g' w' r1 r2 r3
  have r4:=Ext.grown (zar _ _) r2 (λk hk=>by cases hk;simp)
  rw[List.nil_append]at r1
  go_wp2_with fail
  go_ret
  exact⟨_,rfl,r4,g',by simpa using r1⟩
theorem z0a(p:AC)(l:List Int){S:Nat->Prop}(w:World)(hp:Is w S p l)(hl:l.length<=8000000000000):
  Calls Tryz.prog 75 #[.slice p.a l.length p.c] w (Ret w λw' v=>∃g,OwI w' w.heap.size v l g):=by
 have hq: ∀w (a:Option Addr) (n c:Nat),(binOp .eql 70 (.slice a n c) (.slice none 0 0)).run Tryz.prog w= .ok (.bool a.isNone) w:=λw a n c=>Lib.run_eql_slice_nil w _ _ a n c 0 0 Tryz.underlying70
 obtain⟨a,c⟩:=p
 cases a with
 |none=>
  have hn:=hp.none_nil
  subst hn
  go_enter Tryz.func75,Tryz.ntmps75
  go_wp2_with fail
  go_ret
  exact⟨_,rfl,(by(repeat (first |exact Ext.refl _ |refine Ext.drew ?_ |refine Ext.drewN ?_ _ |refine Ext.alloc ?_ _ |(refine Ext.setCell ?_ (by first |omega |(simp;done) |(simp;omega)) _) |refine Ext.trans ?_ (by assumption)))),none,Ow.nil _ _ _ _⟩
 |some ad=>
  go_enter Tryz.func75,Tryz.ntmps75
  go_wp2_with (first |(at_builtin;refine zc5 ?_))
  refine zc3 (zfr rfl (.tmp 5) (.tmp 6) rfl rfl (OwI.ofNew (l:=[]) (Nat.le_refl _) rfl rfl (by decide)) rfl rfl (And.left ((hp.ext (zar _ _)))) ?_ ?_ ?_)
  ·simp;omega
  ·simp
  intro a' c' g' w' r1 r2 r3
  have r4:=Ext.grown (zar _ _) r2 (λk hk=>by cases hk;simp)
  rw[List.nil_append]at r1
  go_wp2_with fail
  go_ret
  exact⟨_,rfl,r4,g',by simpa using r1⟩
end
section
theorem zwj{w:World}{x:Int}{e:TypeId}(b:UInt8)(h:x=(b.toNat:Int)):Sl (w.alloc (.cells #[.int .u8 x] e)) (λ_=>True) 1 ⟨some ⟨w.heap.size,0,none⟩,1⟩ [b].length ([b].map bv):=by
 subst h;exact zejb _ _ _
def zc0b(l:List UInt8)(size m:Nat)(w:World)(b i:Value)(wr:World):Prop:=
 ∃(j:Nat) (done:List UInt8) (g:Option Nat),i= .int .i64 ((j:Int)-1)/\j<=size/\done.length+j=l.length+size/\l++beB size m=done++beB j m/\OwB wr w.heap.size b done g/\Ext w wr
theorem zbrb(n:Int)(w:World)(hn:n=1\/n=2\/n=4\/n=8):
  Calls Tryz.prog 140 #[.int .i64 n] w λe w'=>e= .returned (.bool true)/\w=w':=by
 rcases hn with rfl |rfl |rfl |rfl<;>
 ·go_enter Tryz.func140,Tryz.ntmps140
  go_wp2_with fail
  go_ret
  exact⟨rfl,rfl⟩
theorem zh9(p:AC)(l:List UInt8){S:Nat->Prop}(size m:Nat)(w:World)(hp:By w S p l)(hl:l.length<=1000000000000)(hs:size=1\/size=2\/size=4\/size=8):
  Calls Tryz.prog 85 #[.slice p.a l.length p.c, .int .i64 (size:Int), .int .u64 (m:Int)] w (Ret w λw' v=>∃g,OwB w' w.heap.size v (l++beB size m) g):=by
 have hs8:size<=8:=by omega
 have hs1:1<=size:=by omega
 have HS:Hid ((size:Int)=1\/(size:Int)=2\/(size:Int)=4\/(size:Int)=8):=Lib.hid (by omega)
 clear hs
 go_enter Tryz.func85,Tryz.ntmps85
 go_wp2_with fail
 refine(zkt p l _ hp (by omega)).mono ?_
 rintro e w1 ⟨v,rfl,hb,g1,ho⟩
 go_wp2_with fail
 refine(zbrb _ _ HS.out).mono ?_
 rintro e w' ⟨rfl,rfl⟩
 go_wp2_with fail
 go_loopw [0,7] (λb i wr=>zc0b l size m w b i wr) (λ_ i _=>(intOf i+1).toNat)
 case atStart=>exact⟨size,l,g1,rfl,by omega,by omega,rfl,ho,hb⟩
 case round=>
  obtain⟨j,done,g,rfl,e1,e2,e3,e4,e5⟩:=hrel
  have E3:=Lib.hid e3
  have E2:done.length<=l.length+size:=by omega
  have E2':=Lib.hid e2
  obtain⟨a,c,rfl⟩:=e4.form
  clear e3 e2
  by_cases h0:j=0
  ·subst h0
   go_wp2_with fail
   go_ret
   exact⟨_,rfl,(by(repeat (first |exact Ext.refl _ |refine Ext.drew ?_ |refine Ext.drewN ?_ _ |refine Ext.alloc ?_ _ |(refine Ext.setCell ?_ (by first |omega |(simp;done) |(simp;omega)) _) |refine Ext.trans ?_ (by assumption)))),g,by rw[E3.out];simpa[beB]using e4⟩
  ·obtain⟨k,rfl⟩: ∃k,j=k+1:=⟨j-1,by omega⟩
   have ek:((k+1:Nat):Int)-1=(k:Int):=by omega
   rw[ek]
   clear h0 ek
   go_wp2_with (first |(at_builtin;refine zc5 ?_))
   refine zc3 (zb5 (l2:=[UInt8.ofNat (m/256^k)]) rfl (.tmp 20) (.tmp 26) rfl rfl (e4.alloc _) rfl rfl (zwj _ ?_) ?_ ?_ ?_)
   ·rw[zpd,<-z5f];simp
   ·simp;omega
   ·have:=e5.le;simp;omega
   intro a' c' g' w' r1 r2 r3
   have r4:=(e4.alloc _).grown r2 (e5.alloc _) (Nat.le_refl _)
   go_wp2_with fail
   go_roundw
   case rel=>exact⟨k,_,g',rfl,by omega,by have:=E2'.out;simp;omega,by rw[E3.out,beB,List.append_assoc];rfl,r1,r4⟩
   case measure=>(first |omega |(simp[intOf];done) |(simp[intOf];omega))
set_option maxRecDepth 100000 in
theorem zjt(n:Nat)(w:World)(hn:n<=1073741823):
  Calls Tryz.prog 187 #[.int .i64 (n:Int)] w λe w'=>e= .returned (.int .i64 (zdg n:Int))/\w=w':=by
 by_cases h1:n<64
 ·have HH:Hid (zdg n=1):=Lib.hid (by unfold zdg;rw[if_pos h1])
  go_enter Tryz.func187,Tryz.ntmps187
  go_wp2_with fail
  go_ret
  exact⟨za9 (by rw[HH.out];rfl),rfl⟩
 ·have h1':64<=n:=by omega
  by_cases h2:n<16384
  ·have HH:Hid (zdg n=2):=Lib.hid (by unfold zdg;rw[if_neg h1,if_pos h2])
   clear h1
   go_enter Tryz.func187,Tryz.ntmps187
   go_wp2_with fail
   go_ret
   exact⟨za9 (by rw[HH.out];rfl),rfl⟩
  ·have HH:Hid (zdg n=4):=Lib.hid (by unfold zdg;rw[if_neg h1,if_neg h2])
   clear h1
   go_enter Tryz.func187,Tryz.ntmps187
   go_wp2_with fail
   go_ret
   exact⟨za9 (by rw[HH.out];rfl),rfl⟩
theorem z1s(p:AC)(l:List UInt8){S:Nat->Prop}(n:Nat)(w:World)(hp:By w S p l)(hl:l.length<=1000000000000)(hn:n<=1073741823):
  Calls Tryz.prog 121 #[.slice p.a l.length p.c, .int .i64 (n:Int)] w (Ret w λw' v=>∃g,OwB w' w.heap.size v (l++lenB n) g):=by
 by_cases h1:n<64
 ·have HH:Hid (zdg n=1):=Lib.hid (by unfold zdg;rw[if_pos h1])
  have HL:Hid (lenB n=beB 1 n):=Lib.hid (by unfold lenB;rw[if_pos h1])
  have HB:Hid (bits BinOp.or IntKind.u64 0 (n:Int)=(n:Int)):=Lib.hid (by rw[show(0:Int)=((0:Nat):Int)from rfl,u64_or_nat _ _ (by omega) (by omega),Nat.zero_or])
  go_enter Tryz.func121,Tryz.ntmps121
  go_wp2_with fail
  refine(zjt n _ hn).mono ?_
  rintro e w' ⟨rfl,rfl⟩
  rw[HH.out]
  go_wp2_with fail
  rw[HB.out]
  refine(zh9 p l 1 (n) _ hp (by omega) (by omega)).mono ?_
  rintro e w1 ⟨v,rfl,hb,g,ho⟩
  go_wp2_with fail
  go_ret
  exact⟨_,rfl,hb,g,by rw[HL.out];exact ho⟩
 ·by_cases h2:n<16384
  ·have HH:Hid (zdg n=2):=Lib.hid (by unfold zdg;rw[if_neg h1,if_pos h2])
   have HL:Hid (lenB n=beB 2 (16384+n)):=Lib.hid (by unfold lenB;rw[if_neg h1,if_pos h2])
   have HB:Hid (bits BinOp.or IntKind.u64 16384 (n:Int)=((16384+n:Nat):Int)):=Lib.hid (by rw[show(16384:Int)=((16384:Nat):Int)from rfl,u64_or_nat _ _ (by omega) (by omega),nat_join 14 _ _ (by omega) (by omega)])
   go_enter Tryz.func121,Tryz.ntmps121
   go_wp2_with fail
   refine(zjt n _ hn).mono ?_
   rintro e w' ⟨rfl,rfl⟩
   rw[HH.out]
   go_wp2_with fail
   rw[HB.out]
   refine(zh9 p l 2 (16384+n) _ hp (by omega) (by omega)).mono ?_
   rintro e w1 ⟨v,rfl,hb,g,ho⟩
   go_wp2_with fail
   go_ret
   exact⟨_,rfl,hb,g,by rw[HL.out];exact ho⟩
  ·have HH:Hid (zdg n=4):=Lib.hid (by unfold zdg;rw[if_neg h1,if_neg h2])
   have HL:Hid (lenB n=beB 4 (2147483648+n)):=Lib.hid (by unfold lenB;rw[if_neg h1,if_neg h2])
   have HB:Hid (bits BinOp.or IntKind.u64 2147483648 (n:Int)=((2147483648+n:Nat):Int)):=Lib.hid (by rw[show(2147483648:Int)=((2147483648:Nat):Int)from rfl,u64_or_nat _ _ (by omega) (by omega),nat_join 31 _ _ (by omega) (by omega)])
   go_enter Tryz.func121,Tryz.ntmps121
   go_wp2_with fail
   refine(zjt n _ hn).mono ?_
   rintro e w' ⟨rfl,rfl⟩
   rw[HH.out]
   go_wp2_with fail
   rw[HB.out]
   refine(zh9 p l 4 (2147483648+n) _ hp (by omega) (by omega)).mono ?_
   rintro e w1 ⟨v,rfl,hb,g,ho⟩
   go_wp2_with fail
   go_ret
   exact⟨_,rfl,hb,g,by rw[HL.out];exact ho⟩
theorem zbib(p q:AC)(l m:List UInt8){S S':Nat->Prop}(w:World)(hp:By w S p l)(hq:By w S' q m)(hl:l.length<=1000000000000)(hm:m.length<=1000000000000):
  Calls Tryz.prog 208 #[.slice p.a l.length p.c, .slice q.a m.length q.c] w (Ret w λw' v=>∃g,OwB w' w.heap.size v (l++m) g):=by
 go_enter Tryz.func208,Tryz.ntmps208
 go_wp2_with (first |(at_builtin;refine zc5 ?_))
 refine zc3 (zb5 rfl (.tmp 5) (.tmp 6) rfl rfl (OwB.ofNew (l:=[]) (Nat.le_refl _) rfl rfl (by decide)) rfl rfl (hp.ext (zar _ _)) ?_ ?_ ?_)
 ·simp;omega
 ·simp
 intro a1 c1 g1 w1 r1 r2 r3
 have r4:=Ext.grown (zar _ _) r2 (λk hk=>by cases hk;simp)
 simp only[List.nil_append,List.length_nil,Nat.zero_add]at r1
 go_wp2_with (first |(at_builtin;refine zc5 ?_))
 refine zc3 (zb5 rfl (.tmp 7) (.tmp 8) rfl rfl r1 rfl rfl (hq.ext r4) ?_ ?_ ?_)
 ·omega
 ·exact r4.le
 intro a2 c2 g2 w2 r5 r6 r7
 have r8:=r1.grown r6 r4 (Nat.le_refl _)
 go_wp2_with fail
 go_ret
 exact⟨_,rfl,r8,g2,r5⟩
end
end Go.Proofs.YtfjkblpnbgfkeaaGreat
