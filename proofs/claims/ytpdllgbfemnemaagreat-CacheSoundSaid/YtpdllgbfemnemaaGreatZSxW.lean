import Derived.Test.YtpdllgbfemnemaaGreatZSxV
import Derived.Test.YtpdllgbfemnemaaGreatZApp
namespace Go.Proofs.YtpdllgbfemnemaaGreat.Sx
open Go.RowKit
section
variable {P:Program} {w w':World} {k:Kp} {v:Value}
theorem zb1{f:FuncId}{args:List RV}{res:Res}(hk:zks P f)(h: ∀w k vs,RV.partsAt w k args vs->Calls P f vs.toArray w (Ret w λw' v=>∃k':Kp,(∀b,b<w.heap.size->k' b=k b)/\res.at_ w.heap.size w' k' v)):zaf P f args res:=
 ⟨hk,λw k vs hp=>(h w k vs hp).mono λ_ _ ⟨v,he,hx,hr⟩=>⟨v,he,hx,hr⟩⟩
theorem zi8{f:FuncId}{args:List RV}{r:RV}{us:List Value}{u:Value}(hk:zks P f)(ha: ∀w k vs,RV.partsAt w k args vs->vs=us)(hr: ∀w k,r.at_ w k u)(h: ∀w,Calls P f us.toArray w λe w'=>e= .returned u/\w=w'):zaf P f args (.r r):=
 zb1 hk λw k vs hp=>by
  rw[ha w k vs hp]
  exact(h w).mono λ_ _ ⟨he,hw⟩=>⟨u,he,hw▸Below.refl _ _,k,λ_ _=>rfl,hr _ _⟩
theorem zlz{f:FuncId}{args:List RV}{r:RV}{us:List Value}{u:Value}(hk:zks P f)(ha: ∀w k vs,RV.partsAt w k args vs->vs=us)(hr: ∀w k,r.at_ w k u)(h: ∀w,Calls P f us.toArray w (Ret w λ_ v=>v=u)):zaf P f args (.r r):=
 zb1 hk λw k vs hp=>by
  rw[ha w k vs hp]
  exact(h w).mono λ_ _ ⟨v,he,hx,hv⟩=>⟨v,he,hx,k,λ_ _=>rfl,hv▸hr _ _⟩
section
variable {α:Type} {f:α->RV} {g:α->Value}
theorem zcrb(hfg: ∀x w k v,(f x).at_ w k v↔v=g x){l:List α}(h:(RV.sl 1 l.length (l.map f)).at_ w k v): ∃p:AC,v= .slice p.a l.length p.c/\Sl w (λ_=>True) 1 p l.length (l.map g):=by
 simp only[RV.at_]at h
 obtain⟨a,c,rfl,h1,h2,h3,h4⟩:=h
 refine⟨⟨a,c⟩,rfl,by simp,h1,h2,λhn=>?_⟩
 obtain⟨b,o,e,hb,hc⟩:=h4 hn
 refine⟨b,o,e,trivial,hb,λj u hu=>?_⟩
 rw[RV.cellsAt_iff]at hc
 simp only[List.getElem?_map,Option.map_eq_some_iff]at hu
 obtain⟨x,hx,rfl⟩:=hu
 obtain⟨_,u,hu,_,hf⟩:=hc j (f x) (by simp[hx])
 rw[hu,(hfg x w k u).1 hf]
end
theorem zfv{l:List UInt8}(h:(bs l).at_ w k v): ∃p:AC,v= .slice p.a l.length p.c/\By w (λ_=>True) p l:=zcrb (f:=U8) (g:=bv) (λx w k v=>by simp[RV.at_]) h
theorem z6j{l:List Int}(hl: ∀x∈l,i64 x)(h:(is l).at_ w k v): ∃p:AC,v= .slice p.a l.length p.c/\Is w (λ_=>True) p l:=by
 obtain⟨p,h1,h2⟩:=zcrb (f:=I) (g:=iv) (λx w k v=>by simp[RV.at_]) h
 exact⟨p,h1,h2,hl⟩
def bch(l:List UInt8):Res:= .ch 5 1 l.length (l.map U8)
def ich(l:List Int):Res:= .ch 3 1 l.length (l.map I)
theorem zoa{α:Type}{f:α->RV}{g:α->Value}(hfg: ∀x w k v,(f x).at_ w k v↔v=g x)(h1: ∀x,(g x).oneCell'=true): ∀l:List α,RV.listAt w k (l.map f) (l.map g)
 |[]=>by simp[RV.listAt]
 |x::r=>by
  simp only[List.map_cons,RV.listAt]
  exact⟨_,_,rfl,h1 x,(hfg _ _ _ _).2 rfl,zoa hfg h1 r⟩
theorem zcob{α:Type}{f:α->RV}{g:α->Value}(hfg: ∀x w k v,(f x).at_ w k v↔v=g x)(h1: ∀x,(g x).oneCell'=true){e:TypeId}{l:List α}{base:Nat}{o:Option Nat}(h:Go.Proofs.YtpdllgbfemnemaaGreat.Ow w' base e 1 v l.length (l.map g) o):
  ∃k':Kp,(∀b,b<base->k' b=k b)/\(Res.ch e 1 l.length (l.map f)).at_ base w' k' v:=by
 obtain⟨_,h⟩:=h
 rcases h with⟨_,a,rfl,hs⟩ |⟨b,cap,cur,_,rfl,hb,hh,hnc,hcm,hcs,ht⟩
 ·rcases Nat.eq_zero_or_pos l.length with h0 |hpos
  ·refine⟨k,λ_ _=>rfl,none,⟨by simp, .inl ⟨rfl, .inl ⟨h0,a,by rw[h0]⟩⟩⟩,λb hb=>by cases hb⟩
  ·obtain⟨b,o',e',hb,hlt,hc⟩:=Sl.at_ hs hpos
   simp only at e'
   subst e'
   refine⟨λx=>if x<base then k x else o'+l.length,λx hx=>by simp[hx],none,⟨by simp, .inl ⟨rfl, .inr ⟨hpos,rfl,b,o',rfl,hs.2.2.1,hlt,?_⟩⟩⟩,λb hb=>by cases hb⟩
   rw[RV.cellsAt_iff]
   intro j q hq
   simp only[List.getElem?_map,Option.map_eq_some_iff]at hq
   obtain⟨x,hx,rfl⟩:=hq
   have hj:=(List.getElem?_eq_some_iff.1 hx).1
   exact⟨by rw[if_neg (by omega)];omega,g x,hc j (g x) (by simp[hx]),h1 x,(hfg _ _ _ _).2 rfl⟩
 ·refine⟨λx=>if x<base then k x else l.length,λx hx=>by simp[hx],some b,⟨by simp, .inr ⟨b,cap,cur,rfl,rfl,hh,hnc,hcm,hcs,by simp only[if_neg (show¬b<base by omega)];simp,?_⟩⟩,λb' hb'=>by cases hb';exact hb⟩
  rw[ht]
  exact zoa hfg h1 l
theorem zio{l:List UInt8}{base:Nat}{o:Option Nat}(h:Go.Proofs.YtpdllgbfemnemaaGreat.Ow w' base 5 1 v l.length (l.map bv) o): ∃k':Kp,(∀b,b<base->k' b=k b)/\(bch l).at_ base w' k' v:=
 zcob (f:=U8) (λx w k v=>by simp[RV.at_]) (λ_=>rfl) h
theorem zqp{l:List Int}{base:Nat}{o:Option Nat}(h:Go.Proofs.YtpdllgbfemnemaaGreat.Ow w' base 3 1 v l.length (l.map iv) o): ∃k':Kp,(∀b,b<base->k' b=k b)/\(ich l).at_ base w' k' v:=
 zcob (f:=I) (λx w k v=>by simp[RV.at_]) (λ_=>rfl) h
theorem za8{f:FuncId}{fn:Func}{c:Code}(hf:P.funcs[f]?=some fn)(hb:fn.body=some c)(hn:(!(fn.name== "runtime.NumGoroutine"))=true):zks P f:=
 ⟨fn,c,hf,hb,by simpa using hn⟩
theorem zhe{x:RV}{vs:List Value}(h:RV.partsAt w k [x] vs): ∃a,vs=[a]/\x.at_ w k a:=by
 simp only[RV.partsAt]at h
 obtain⟨u,r,rfl,h1,rfl⟩:=h
 exact⟨u,rfl,h1⟩
theorem zim{x y:RV}{vs:List Value}(h:RV.partsAt w k [x,y] vs): ∃a b,vs=[a,b]/\x.at_ w k a/\y.at_ w k b:=by
 simp only[RV.partsAt]at h
 obtain⟨u,r,rfl,h1,u',r',rfl,h2,rfl⟩:=h
 exact⟨u,u',rfl,h1,h2⟩
theorem zfsb{x y z:RV}{vs:List Value}(h:RV.partsAt w k [x,y,z] vs): ∃a b c,vs=[a,b,c]/\x.at_ w k a/\y.at_ w k b/\z.at_ w k c:=by
 simp only[RV.partsAt]at h
 obtain⟨u,r,rfl,h1,u',r',rfl,h2,u2,r2,rfl,h3,rfl⟩:=h
 exact⟨u,u',u2,rfl,h1,h2,h3⟩
theorem zrj{a:Int}{w:World}{k:Kp}{vs:List Value}(h:RV.partsAt w k [I a] vs):vs=[.int .i64 a]:=by
 obtain⟨u,rfl,h1⟩:=zhe h
 simp only[RV.at_]at h1
 rw[h1]
theorem zkr{a b:Int}{w:World}{k:Kp}{vs:List Value}(h:RV.partsAt w k [I a,I b] vs):vs=[.int .i64 a, .int .i64 b]:=by
 obtain⟨u,u',rfl,h1,h2⟩:=zim h
 simp only[RV.at_]at h1 h2
 rw[h1,h2]
end
end Go.Proofs.YtpdllgbfemnemaaGreat.Sx
