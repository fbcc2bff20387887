import Derived.WalkKit
import Derived.WalkSpells
import Derived.WalkLawsBesides
import Derived.Lib.Hide
import Derived.Deep.Draws
import Derived.Deep.AppendLies
import Derived.Test.YtamhdpombmegaaaGreatZSxV
import Derived.Test.YtamhdpombmegaaaGreatProg
import Derived.Laws.BitsAllLaws
import Derived.Deep.QuietTactic
import Derived.BigQuiet
import Derived.Deep.LoopGhost
namespace Go.Proofs.YtamhdpombmegaaaGreat
open Go.RowKit
set_option linter.unusedVariables false
section
def Ext(w w':World):Prop:=Below w.heap.size w w'
theorem Ext.refl(w:World):Ext w w:=Below.refl _ _
theorem Ext.trans{a b c:World}(h:Ext a b)(k:Ext b c):Ext a c:=Below.trans h (Below.mono k h.size)
theorem Ext.alloc{a w:World}(h:Ext a w)(o:Obj):Ext a (w.alloc o):=Below.alloc h h.size o
theorem Ext.drew{a w:World}(h:Ext a w):Ext a w.drew:=Below.drew h
theorem Ext.drewN{a w:World}(h:Ext a w)(n:Nat):Ext a (w.drewN n):=⟨h.os,h.tape,h.output,h.size,h.block⟩
theorem Ext.setCell{a w:World}(h:Ext a w){p:Addr}(hp:a.heap.size<=p.block)(u:Value):Ext a (w.setCell p u):=Below.setCell h hp u
theorem Ext.le{a w:World}(h:Ext a w):a.heap.size<=w.heap.size:=h.size
theorem Ext.grown{a w w':World}{g:Option Nat}(h:Ext a w)(hg:w.grownBy w' g)(hr: ∀k,g=some k->a.heap.size<=k):Ext a w':=Below.grown h hg h.size hr
theorem zbw(w:World)(o:Obj):Ext w (w.alloc o):=(Ext.refl w).alloc o
def Same(S:Nat->Prop)(w w':World):Prop:=w.heap.size<=w'.heap.size/\∀b,S b->b<w.heap.size->w'.heap[b]?=w.heap[b]?
theorem Same.of_ext{S:Nat->Prop}{w w':World}(h:Ext w w'):Same S w w':=⟨h.size,λb _ hb=>h.block b hb⟩
structure AC where
 a:Option Addr
 c:Nat
def Sl(w:World)(S:Nat->Prop)(sz:Nat)(p:AC)(n:Nat)(xs:List Value):Prop:=
 xs.length=n*sz/\n<=p.c/\p.c<=maxLen/\
  (0<n->∃b o,p.a=some ⟨b,o,none⟩/\S b/\b<w.heap.size/\∀j u,xs[j]?=some u->w.cell? ⟨b,o+j,none⟩=some u)
section
variable {w w':World} {S S':Nat->Prop} {sz n:Nat} {p:AC} {xs:List Value}
theorem Sl.same(h:Sl w S sz p n xs)(k:Same S w w'):Sl w' S sz p n xs:=by
 obtain⟨h1,h2,h3,h4⟩:=h
 refine⟨h1,h2,h3,λhn=>?_⟩
 obtain⟨b,o,e,hs,hb,hc⟩:=h4 hn
 exact⟨b,o,e,hs,Nat.lt_of_lt_of_le hb k.1,λj u hu=>(World.cell?_of_block (a:=⟨b,o+j,none⟩) (k.2 b hs hb)).trans (hc j u hu)⟩
theorem Sl.ext(h:Sl w S sz p n xs)(k:Ext w w'):Sl w' S sz p n xs:=h.same (.of_ext k)
theorem Sl.capLe(h:Sl w S sz p n xs):n<=p.c/\p.c<=maxLen:=⟨h.2.1,h.2.2.1⟩
theorem Sl.nil(w:World)(S:Nat->Prop)(sz:Nat):Sl w S sz ⟨none,0⟩ 0 []:=⟨by simp,Nat.le_refl _,Nat.zero_le _,λh=>absurd h (by omega)⟩
theorem Sl.at_(h:Sl w S sz p n xs)(hn:0<n): ∃b o,p.a=some ⟨b,o,none⟩/\S b/\b<w.heap.size/\∀j u,xs[j]?=some u->w.cell? ⟨b,o+j,none⟩=some u:=h.2.2.2 hn
end
abbrev bv(b:UInt8):Value:= .int .u8 (b.toNat:Int)
abbrev iv(n:Int):Value:= .int .i64 n
def I64(n:Int):Prop:= -9223372036854775808<=n/\n<=9223372036854775807
def By(w:World)(S:Nat->Prop)(p:AC)(l:List UInt8):Prop:=Sl w S 1 p l.length (l.map bv)
def Is(w:World)(S:Nat->Prop)(p:AC)(l:List Int):Prop:=Sl w S 1 p l.length (l.map iv)/\∀x∈l,I64 x
section
variable {w w':World} {S S':Nat->Prop} {p:AC} {l:List UInt8} {m:List Int}
theorem By.ext(h:By w S p l)(k:Ext w w'):By w' S p l:=Sl.ext h k
theorem By.lens(h:By w S p l):l.length<=p.c/\p.c<=maxLen:=Sl.capLe h
theorem Is.ext(h:Is w S p m)(k:Ext w w'):Is w' S p m:=⟨Sl.ext h.1 k,h.2⟩
theorem Is.lens(h:Is w S p m):m.length<=p.c/\p.c<=maxLen:=Sl.capLe h.1
theorem By.at_(h:By w S p l){k:Nat}(hk:k<l.length): ∃b o,p.a=some ⟨b,o,none⟩/\w.cell? ⟨b,o+k,none⟩=some (.int .u8 (l[k].toNat:Int)):=by
 obtain⟨b,o,e,_,_,hc⟩:=Sl.at_ h (by omega)
 exact⟨b,o,e,hc k _ (by simp[hk])⟩
theorem Is.at_(h:Is w S p m){k:Nat}(hk:k<m.length): ∃b o,p.a=some ⟨b,o,none⟩/\w.cell? ⟨b,o+k,none⟩=some (.int .i64 m[k]):=by
 obtain⟨b,o,e,_,_,hc⟩:=Sl.at_ h.1 (by omega)
 exact⟨b,o,e,hc k _ (by simp[hk])⟩
end
def Ow(w:World)(base:Nat)(e:TypeId)(sz:Nat)(v:Value)(n:Nat)(xs:List Value)(g:Option Nat):Prop:=
 xs.length=n*sz/\
 ((g=none/\∃a,v= .slice a n n/\Sl w (base<= ·) sz ⟨a,n⟩ n xs)\/
 (∃b cap cur,g=some b/\v= .slice (some ⟨b,0,none⟩) n cap/\base<=b/\w.heap[b]?=some (.cells cur e (0,0))/\n<=cap/\cap<=maxLen/\cur.size=cap*sz/\cur.toList.take (n*sz)=xs))
section
variable {w w':World} {base:Nat} {e:TypeId} {sz n:Nat} {v:Value} {xs:List Value} {g:Option Nat}
theorem Ow.nil(w:World)(base:Nat)(e:TypeId)(sz:Nat):Ow w base e sz (.slice none 0 0) 0 [] none:=
 ⟨by simp, .inl ⟨rfl,none,rfl,Sl.nil _ _ _⟩⟩
theorem Ow.lt(h:Ow w base e sz v n xs g): ∀k,g=some k->base<=k/\k<w.heap.size:=by
 intro k hk
 rcases h.2 with⟨rfl,_⟩ |⟨b,cap,cur,rfl,_,hb,hh,_⟩
 ·cases hk
 ·cases hk
  exact⟨hb,(Array.getElem?_eq_some_iff.1 hh).1⟩
theorem Ow.sl(h:Ow w base e sz v n xs g): ∃p:AC,v= .slice p.a n p.c/\Sl w (base<= ·) sz p n xs:=by
 obtain⟨hl,h⟩:=h
 rcases h with⟨_,a,rfl,hs⟩ |⟨b,cap,cur,_,rfl,hb,hh,hnc,hcm,hcs,ht⟩
 ·exact⟨⟨a,n⟩,rfl,hs⟩
 ·refine⟨⟨some ⟨b,0,none⟩,cap⟩,rfl,hl,hnc,hcm,λ_=>⟨b,0,rfl,hb,(Array.getElem?_eq_some_iff.1 hh).1,λj u hu=>?_⟩⟩
  rw[Nat.zero_add,cell_of_row w b j cur e (0,0) hh]
  rw[<-ht,List.getElem?_take]at hu
  split at hu
  ·simpa using hu
  ·cases hu
theorem Ow.kept{g':Option Nat}(h:Ow w base e sz v n xs g)(k:Same (λb=>base<=b/\some b≠g') w w')(hg:g=none\/g≠g')(h0:g=none->n=0\/g'=none):Ow w' base e sz v n xs g:=by
 obtain⟨hl,h⟩:=h
 refine⟨hl,?_⟩
 rcases h with⟨hg0,a,rfl,hs⟩ |⟨b,cap,cur,hgb,rfl,hb,hh,r⟩
 ·refine .inl ⟨hg0,a,rfl,?_⟩
  rcases h0 hg0 with h1 |h1
  ·subst h1
   exact⟨hs.1,hs.2.1,hs.2.2.1,λh=>absurd h (by omega)⟩
  ·subst h1
   exact hs.same ⟨k.1,λb hb hlt=>k.2 b ⟨hb,by simp⟩ hlt⟩
 ·refine .inr ⟨b,cap,cur,hgb,rfl,hb,?_,r⟩
  refine(k.2 b ⟨hb,?_⟩ (Array.getElem?_eq_some_iff.1 hh).1).trans hh
  rcases hg with hg |hg
  ·rw[hg]at hgb;cases hgb
  ·rw[hgb]at hg;exact hg
theorem Ow.ext(h:Ow w base e sz v n xs g)(k:Ext w w'):Ow w' base e sz v n xs g:=by
 refine h.kept (g':=none) (Same.of_ext k) ?_ (λ_=> .inr rfl)
 cases g with
 |none=>exact .inl rfl
 |some _=>exact .inr (by simp)
end
theorem zfn(b o j:Nat):(⟨b,o,none⟩:Addr).add j=⟨b,o+j,none⟩:=by unfold Addr.add;split<;>simp_all
section
variable {P:Program} (w:World)
theorem zlf(base:Nat)(t ty e:TypeId)(i:TypeInfo)(z:Value)(size bytes:Nat)(ht:P.underlying t=some (.slice e))(hi:P.info? e=some i)(hz:i.zero=some z)
  (hsize:i.size=size) (hby:i.bytes=bytes) (hzs:z.cells.size=size) (hsz:0<size)
  (v:Value) (n:Nat) (xs:List Value) (g:Option Nat) (hown:Ow w base e size v n xs g)
  (q:AC) (m:Nat) (news:List Value) {S:Nat->Prop} (hsrc:Sl w S size q m news) (h1: ∀u∈news,u.oneCell'=true)
  (h63:n+m<=maxLen) (hbytes:(n+m)*bytes<=140737488355328) (hbase:base<=w.heap.size):
  ∃a' c' g' w',(Builtin.append_ #[t,t] ty #[v, .slice q.a m q.c]).run P w= .ok (.slice a' (n+m) c') w'/\Ow w' base e size (.slice a' (n+m) c') (n+m) (xs++news) g'/\w.grownBy w' g/\(g'=g\/g'=some w.heap.size):=by
 obtain⟨p,rfl,hp⟩:=hown.sl
 rcases Nat.eq_zero_or_pos m with rfl |hm
 ·have hn:news=[]:=List.eq_nil_of_length_eq_zero (by simpa using hsrc.1)
  subst hn
  refine⟨p.a,p.c,g,w,?_,by simpa using hown,World.grownBy.refl _ _, .inl rfl⟩
  have hcap:=hp.2.1
  obtain⟨a,c⟩:=q
  cases a<;>cases hpa:p.a<;>simp[Builtin.append_,run_underlying ht,sizeOf,typeInfo,hi,Builtin.lenOf,Builtin.firstCells,loadCells,loadCellsFrom,hcap,storeCells]
 ·obtain⟨qb,qo,hqa,_,_,hqc⟩:=hsrc.at_ hm
  have hnews: ∀j u,news[j]?=some u->w.cell? ((⟨qb,qo,none⟩:Addr).add j)=some u:=λj u hu=>by rw[zfn];exact hqc j u hu
  rw[hqa]
  obtain⟨hlx,hd⟩:=id hown
  rcases hd with⟨rfl,a,hv,hs⟩ |⟨b,cap,cur,rfl,hv,hb,hh,hnc,hcm,hcs,htk⟩
  ·injection hv with e1 _ e3
   rw[e1,e3]
   have hnl:=h63
   simp only[maxLen]at hnl
   have olds: ∀(b:Addr),a=some b->∀j u,xs[j]?=some u->w.cell? (b.add j)=some u:=by
    intro b hb j u hu
    have hpos:0<n:=by
     rcases Nat.eq_zero_or_pos n with h0 |h0
     ·subst h0
      have:=List.eq_nil_of_length_eq_zero (by simpa using hlx)
      subst this
      cases hu
     ·exact h0
    obtain⟨b',o',hab,_,_,hc⟩:=hs.at_ hpos
    simp only at hab
    rw[hb]at hab
    obtain rfl:=Option.some.inj hab
    rw[zfn];exact hc j u hu
   have fin: ∀(c:Nat),n+m<=c->c<=maxLen->∀(cur:Array Value),cur.size=c*size->cur.toList.take ((n+m)*size)=xs++news->
     Ow (w.drew.alloc (.cells cur e)) base e size (.slice (some ⟨w.heap.size,0,none⟩) (n+m) c) (n+m) (xs++news) (some w.heap.size):=λc hc hcm cur hcs htk=>
    ⟨by rw[List.length_append,hlx,hsrc.1,Nat.add_mul], .inr ⟨w.heap.size,c,cur,rfl,rfl,hbase,heap_alloc_new w.drew _,hc,hcm,hcs,htk⟩⟩
   have gr: ∀(cur:Array Value),w.grownBy (w.drew.alloc (.cells cur e)) none:=λcur=>⟨rfl,rfl,rfl,by simp,λk hk _=>Below.heap_alloc w.drew _ k hk⟩
   cases a with
   |none=>
    have h0:n=0:=by
     rcases Nat.eq_zero_or_pos n with h0 |h0
     ·exact h0
     ·obtain⟨_,_,hab,_⟩:=hs.at_ h0;cases hab
    subst h0
    have hx:xs=[]:=List.eq_nil_of_length_eq_zero (by simpa using hlx)
    subst hx
    have hr:=run_append_nil (P:=P) w t ty e i z ht hi hz ⟨qb,qo,none⟩ m q.c news (by rw[hsize];exact hsrc.1) hnews hm (by omega) (by rw[hby];rw[Nat.zero_add]at hbytes;omega)
    have hge:=grownCap_ge w m 0 e
    have hcm:=grownCap_le_maxLen w m 0 e (by omega)
    refine⟨_,_,_,_,by rw[Nat.zero_add];exact hr,?_,gr _, .inr rfl⟩
    refine fin _ (by omega) hcm _ ?_ ?_
    ·simp only[Array.size_append,List.size_toArray,size_zeroCells,hzs,hsrc.1,<-Nat.add_mul]
     congr 1;omega
    ·simp only[Array.toList_append,Nat.zero_add,List.nil_append]
     rw[<-hsrc.1]
     exact List.take_left
   |some b=>
    have hr:=run_append_grow (P:=P) w t ty e i z ht hi hz b n n xs (by rw[hsize];exact hlx) (olds b rfl) ⟨qb,qo,none⟩ m q.c news (by rw[hsize];exact hsrc.1) hnews (by omega) (by omega) (growslice_fits (by omega) (by rw[hby];exact hbytes))
    have hge:=grownCap_ge w (n+m) n e
    have hcm:=grownCap_le_maxLen w (n+m) n e h63
    refine⟨_,_,_,_,hr,?_,gr _, .inr rfl⟩
    refine fin _ hge hcm _ ?_ ?_
    ·simp only[Array.size_append,List.size_toArray,size_zeroCells,hzs,hsrc.1,hlx,<-Nat.add_mul]
     congr 1;omega
    ·simp only[Array.toList_append,List.append_assoc]
     rw[<-List.append_assoc,show(n+m)*size=(xs++news).length by rw[List.length_append,hlx,hsrc.1,Nat.add_mul]]
     exact List.take_left
  ·have ho:w.ownsRow base e size (.slice (some ⟨b,0,none⟩) n cap) n xs:=⟨hlx, .inr ⟨b,cap,cur,rfl,hb,hh,hnc,hcm,hcs,htk⟩⟩
   obtain⟨g',cap',w',hr,ho',hgr,hat,_⟩:=run_append_lies (P:=P) w t ty base e i z size bytes ht hi hz hsize hby hzs hsz _ n xs ho ⟨qb,qo,none⟩ m q.c news hsrc.1 hnews h1 hm h63 hbytes hbase w.heap.size rfl
   rw[hv]
   refine⟨_,_,some g',w',hr,?_,hgr,?_⟩
   ·obtain⟨hl,h2⟩:=ho'
    refine⟨hl, .inr ?_⟩
    rcases h2 with⟨h2,_⟩ |⟨b2,cap2,cur2,hv2,r⟩
    ·cases h2
    ·injection hv2 with e1 _ e3
     injection e1 with e1
     injection e1 with e1
     subst e1;subst e3
     exact⟨g',cap',cur2,rfl,rfl,r⟩
   ·rcases hat with hat |hat
    ·left;simpa[Value.ownBlock]using hat.symm
    ·right;rw[hat]
theorem zim{ops:Array Oper}{rest:List Oper}{o:Oper}{a:Act}{Q:Exit->Act->World->Prop}(hgd:o.guard=none)(s x:Operand)(t:TypeId)
  (ho:o.op= .call {callee:= .builtin .append,args:= #[s,x],argTypes:= #[t,t]})
  (base:Nat) (e:TypeId) (i:TypeInfo) (z:Value) (size bytes:Nat) (ht:P.underlying t=some (.slice e)) (hi:P.info? e=some i) (hz:i.zero=some z)
  (hsize:i.size=size) (hby:i.bytes=bytes) (hzs:z.cells.size=size) (hsz:0<size)
  (v:Value) (n:Nat) (xs:List Value) (g:Option Nat) (hs:a.eval s=v) (hown:Ow w base e size v n xs g)
  (qa:Option Addr) (m qc:Nat) (news:List Value) {S:Nat->Prop} (hx:a.eval x= .slice qa m qc) (hsrc:Sl w S size ⟨qa,qc⟩ m news) (h1: ∀u∈news,u.oneCell'=true)
  (h63:n+m<=maxLen) (hbytes:(n+m)*bytes<=140737488355328) (hbase:base<=w.heap.size)
  (h: ∀a' c' g' w',Ow w' base e size (.slice a' (n+m) c') (n+m) (xs++news) g'->w.grownBy w' g->(g'=g\/g'=some w.heap.size)->wpList P ops Q rest (a.put o.dst (.slice a' (n+m) c')) w'):
  wpList P ops Q (o::rest) a w:=by
 obtain⟨a',c',g',w',hr,h2,h3,h4⟩:=zlf (P:=P) w base t o.type e i z size bytes ht hi hz hsize hby hzs hsz v n xs g hown ⟨qa,qc⟩ m news hsrc h1 h63 hbytes hbase
 refine wpList_plain hgd λK hK=>?_
 unfold Oper.wp execOp
 simp only[ho,resolve,invoke,builtin,Sem.run_bind,Sem.run_pure,Result.andThen_ok,List.map_toArray,List.map_cons,List.map_nil,hs,hx,hr]
 exact hK _ _ (h a' c' g' w' h2 h3 h4)
end
theorem zl6(l:List Int): ∀u∈l.map iv,u.oneCell'=true:=by
 intro u hu
 obtain⟨_,_,rfl⟩:=List.mem_map.1 hu
 rfl
def Ret(w:World)(Post:World->Value->Prop)(e:Ending)(w':World):Prop:=∃v,e= .returned v/\Ext w w'/\Post w' v
def zhe(p:Prop):Prop:=p
theorem zns{p:Prop}(h:zhe p):p:=h
theorem znj{p:Prop}(h:p):zhe p:=h
end
end Go.Proofs.YtamhdpombmegaaaGreat

namespace Go.Proofs.YtamhdpombmegaaaGreat.Sx
open Go.RowKit
section
section
variable {P:Program} {w w':World} {k:Kp} {v:Value}
theorem zci{f:FuncId}{args:List RV}{res:Res}(hk:zfh P f)(h: ∀w k vs,RV.partsAt w k args vs->Calls P f vs.toArray w (Ret w λw' v=>∃k':Kp,(∀b,b<w.heap.size->k' b=k b)/\res.at_ w.heap.size w' k' v)):zah P f args res:=
 ⟨hk,λw k vs hp=>(h w k vs hp).mono λ_ _ ⟨v,he,hx,hr⟩=>⟨v,he,hx,hr⟩⟩
theorem zjr{f:FuncId}{args:List RV}{r:RV}{us:List Value}{u:Value}(hk:zfh P f)(ha: ∀w k vs,RV.partsAt w k args vs->vs=us)(hr: ∀w k,r.at_ w k u)(h: ∀w,Calls P f us.toArray w λe w'=>e= .returned u/\w=w'):zah P f args (.r r):=
 zci hk λw k vs hp=>by
  rw[ha w k vs hp]
  exact(h w).mono λ_ _ ⟨he,hw⟩=>⟨u,he,hw▸Below.refl _ _,k,λ_ _=>rfl,hr _ _⟩
section
variable {α:Type} {f:α->RV} {g:α->Value}
theorem zkv(hfg: ∀x w k v,(f x).at_ w k v↔v=g x){l:List α}(h:(RV.sl 1 l.length (l.map f)).at_ w k v): ∃p:AC,v= .slice p.a l.length p.c/\Sl w (λ_=>True) 1 p l.length (l.map g):=by
 simp only[RV.at_]at h
 obtain⟨a,c,rfl,h1,h2,h3,h4⟩:=h
 refine⟨⟨a,c⟩,rfl,by simp,h1,h2,λhn=>?_⟩
 obtain⟨b,o,e,hb,hc⟩:=h4 hn
 refine⟨b,o,e,trivial,hb,λj u hu=>?_⟩
 rw[RV.cellsAt_iff]at hc
 simp only[List.getElem?_map,Option.map_eq_some_iff]at hu
 obtain⟨x,hx,rfl⟩:=hu
 obtain⟨_,u,hu,_,hf⟩:=hc j (f x) (by simp[hx])
 rw[hu,(hfg x w k u).1 hf]
end
theorem zkg{l:List UInt8}(h:(bs l).at_ w k v): ∃p:AC,v= .slice p.a l.length p.c/\By w (λ_=>True) p l:=zkv (f:=U8) (g:=bv) (λx w k v=>by simp[RV.at_]) h
theorem zki{l:List Int}(hl: ∀x∈l,i64 x)(h:(is l).at_ w k v): ∃p:AC,v= .slice p.a l.length p.c/\Is w (λ_=>True) p l:=by
 obtain⟨p,h1,h2⟩:=zkv (f:=I) (g:=iv) (λx w k v=>by simp[RV.at_]) h
 exact⟨p,h1,h2,hl⟩
def ich(l:List Int):Res:= .ch 3 1 l.length (l.map I)
theorem zef{α:Type}{f:α->RV}{g:α->Value}(hfg: ∀x w k v,(f x).at_ w k v↔v=g x)(h1: ∀x,(g x).oneCell'=true): ∀l:List α,RV.listAt w k (l.map f) (l.map g)
 |[]=>by simp[RV.listAt]
 |x::r=>by
  simp only[List.map_cons,RV.listAt]
  exact⟨_,_,rfl,h1 x,(hfg _ _ _ _).2 rfl,zef hfg h1 r⟩
theorem znp{α:Type}{f:α->RV}{g:α->Value}(hfg: ∀x w k v,(f x).at_ w k v↔v=g x)(h1: ∀x,(g x).oneCell'=true){e:TypeId}{l:List α}{base:Nat}{o:Option Nat}(h:Go.Proofs.YtamhdpombmegaaaGreat.Ow w' base e 1 v l.length (l.map g) o):
  ∃k':Kp,(∀b,b<base->k' b=k b)/\(Res.ch e 1 l.length (l.map f)).at_ base w' k' v:=by
 obtain⟨_,h⟩:=h
 rcases h with⟨_,a,rfl,hs⟩ |⟨b,cap,cur,_,rfl,hb,hh,hnc,hcm,hcs,ht⟩
 ·rcases Nat.eq_zero_or_pos l.length with h0 |hpos
  ·refine⟨k,λ_ _=>rfl,none,⟨by simp, .inl ⟨rfl, .inl ⟨h0,a,by rw[h0]⟩⟩⟩,λb hb=>by cases hb⟩
  ·obtain⟨b,o',e',hb,hlt,hc⟩:=Sl.at_ hs hpos
   simp only at e'
   subst e'
   refine⟨λx=>if x<base then k x else o'+l.length,λx hx=>by simp[hx],none,⟨by simp, .inl ⟨rfl, .inr ⟨hpos,rfl,b,o',rfl,hs.2.2.1,hlt,?_⟩⟩⟩,λb hb=>by cases hb⟩
   rw[RV.cellsAt_iff]
   intro j q hq
   simp only[List.getElem?_map,Option.map_eq_some_iff]at hq
   obtain⟨x,hx,rfl⟩:=hq
   have hj:=(List.getElem?_eq_some_iff.1 hx).1
   exact⟨by rw[if_neg (by omega)];omega,g x,hc j (g x) (by simp[hx]),h1 x,(hfg _ _ _ _).2 rfl⟩
 ·refine⟨λx=>if x<base then k x else l.length,λx hx=>by simp[hx],some b,⟨by simp, .inr ⟨b,cap,cur,rfl,rfl,hh,hnc,hcm,Nat.le_of_eq hcs.symm,by simp only[if_neg (show¬b<base by omega)];simp,?_⟩⟩,λb' hb'=>by cases hb';exact hb⟩
  rw[ht]
  exact zef hfg h1 l
theorem zl5{l:List Int}{base:Nat}{o:Option Nat}(h:Go.Proofs.YtamhdpombmegaaaGreat.Ow w' base 3 1 v l.length (l.map iv) o): ∃k':Kp,(∀b,b<base->k' b=k b)/\(ich l).at_ base w' k' v:=
 znp (f:=I) (λx w k v=>by simp[RV.at_]) (λ_=>rfl) h
theorem zcx{f:FuncId}{fn:Func}{c:Code}(hf:P.funcs[f]?=some fn)(hb:fn.body=some c)(hn:(!(fn.name== "runtime.NumGoroutine"))=true):zfh P f:=
 ⟨fn,c,hf,hb,by simpa using hn⟩
theorem znd{x:RV}{vs:List Value}(h:RV.partsAt w k [x] vs): ∃a,vs=[a]/\x.at_ w k a:=by
 simp only[RV.partsAt]at h
 obtain⟨u,r,rfl,h1,rfl⟩:=h
 exact⟨u,rfl,h1⟩
theorem zel{x y:RV}{vs:List Value}(h:RV.partsAt w k [x,y] vs): ∃a b,vs=[a,b]/\x.at_ w k a/\y.at_ w k b:=by
 simp only[RV.partsAt]at h
 obtain⟨u,r,rfl,h1,u',r',rfl,h2,rfl⟩:=h
 exact⟨u,u',rfl,h1,h2⟩
theorem znk{a:Int}{w:World}{k:Kp}{vs:List Value}(h:RV.partsAt w k [I a] vs):vs=[.int .i64 a]:=by
 obtain⟨u,rfl,h1⟩:=znd h
 simp only[RV.at_]at h1
 rw[h1]
theorem znl{a b:Int}{w:World}{k:Kp}{vs:List Value}(h:RV.partsAt w k [I a,I b] vs):vs=[.int .i64 a, .int .i64 b]:=by
 obtain⟨u,u',rfl,h1,h2⟩:=zel h
 simp only[RV.at_]at h1 h2
 rw[h1,h2]
end
end
end Go.Proofs.YtamhdpombmegaaaGreat.Sx

namespace Go.Proofs.YtamhdpombmegaaaGreat
open Go.RowKit
set_option linter.unusedVariables false
section
theorem zbm{a b:Int}(h:a=b):Ending.returned (.int .i64 a)= .returned (.int .i64 b):=by rw[h]
theorem za8{a b:Bool}(h:a=b):Ending.returned (.bool a)= .returned (.bool b):=by rw[h]
theorem Tryz.infoInt:(Tryz.prog.info? 3).map (λi=>(i.zero,i.size,i.bytes))=some (some (.int .i64 0),1,8):=by kernel_rfl
def OwI(w':World)(base:Nat)(v:Value)(l:List Int)(g:Option Nat):Prop:=Ow w' base 3 1 v l.length (l.map iv) g
section
variable {w w':World} {base:Nat} {v:Value} {l:List Int} {m:List UInt8} {g:Option Nat}
theorem OwI.ext(h:OwI w base v l g)(k:Ext w w'):OwI w' base v l g:=Ow.ext h k
theorem OwI.alloc(h:OwI w base v l g)(o:Obj):OwI (w.alloc o) base v l g:=Ow.ext h (zbw _ _)
theorem OwI.form(h:OwI w base v l g): ∃a c,v= .slice a l.length c:=by obtain⟨p,e,_⟩:=Ow.sl h;exact⟨p.a,p.c,e⟩
end
theorem Ow.grown{w w' a:World}{base:Nat}{e:TypeId}{sz n:Nat}{v:Value}{xs:List Value}{g:Option Nat}(h:Ow w base e sz v n xs g)(hg:w.grownBy w' g)(ha:Ext a w)(hb:a.heap.size<=base):Ext a w':=
 ha.grown hg λk hk=>Nat.le_trans hb (h.lt k hk).1
theorem OwI.grown{w w' a:World}{base:Nat}{v:Value}{l:List Int}{g:Option Nat}(h:OwI w base v l g)(hg:w.grownBy w' g)(ha:Ext a w)(hb:a.heap.size<=base):Ext a w':=Ow.grown h hg ha hb
theorem Sl.block{w:World}{b:Nat}{cs:Array Value}{t:TypeId}{fr:Nat×Nat}{sz n c:Nat}{S:Nat->Prop}(hb:w.heap[b]?=some (.cells cs t fr))(hs:S b)(hn:cs.size=n*sz)(hc:n<=c)(hm:c<=maxLen):
  Sl w S sz ⟨some ⟨b,0,none⟩,c⟩ n cs.toList:=
 ⟨by simpa using hn,hc,hm,λ_=>⟨b,0,rfl,hs,(Array.getElem?_eq_some_iff.1 hb).1,λj u hu=>by
  rw[Nat.zero_add,cell_of_row w b j cs t fr hb];simpa using hu⟩⟩
section
variable {w:World} {ops:Array Oper} {rest:List Oper} {o:Oper} {a:Act} {Q:Exit->Act->World->Prop}
theorem zhb(hgd:o.guard=none)(s x:Operand)(ho:o.op= .call {callee:= .builtin .append,args:= #[s,x],argTypes:= #[85,85]})
  {base:Nat} {v:Value} {l:List Int} {g:Option Nat} (hs:a.eval s=v) (hown:OwI w base v l g)
  {qa:Option Addr} {qc m:Nat} {l2:List Int} {S:Nat->Prop} (hx:a.eval x= .slice qa m qc) (hm:m=l2.length) (hsrc:Sl w S 1 ⟨qa,qc⟩ l2.length (l2.map iv))
  (hsmall:l.length+l2.length<=8796093022208) (hbase:base<=w.heap.size)
  (h: ∀a' c' g' w',OwI w' base (.slice a' (l.length+m) c') (l++l2) g'->w.grownBy w' g->(g'=g\/g'=some w.heap.size)->wpList Tryz.prog ops Q rest (a.put o.dst (.slice a' (l.length+m) c')) w'):
  wpList Tryz.prog ops Q (o::rest) a w:=by
 subst hm
 obtain⟨i0,hi,hz0,hz1,hz2⟩:=info_parts Tryz.infoInt
 refine zim w hgd s x 85 ho base 3 i0 (.int .i64 0) 1 8 Tryz.underlying85 hi hz0 hz1 hz2 rfl (by decide) v l.length (l.map iv) g hs hown qa l2.length qc (l2.map iv) hx hsrc (zl6 _) (by simp only[maxLen];omega) (by omega) hbase ?_
 intro a' c' g' w' h1 h2 h3
 refine h a' c' g' w' ?_ h2 h3
 unfold OwI
 rw[List.length_append,List.map_append]
 exact h1
end
theorem zm3(w:World)(y:Int)(e:TypeId):Sl (w.alloc (.cells #[.int .i64 y] e)) (λ_=>True) 1 ⟨some ⟨w.heap.size,0,none⟩,1⟩ [y].length ([y].map iv):=
 Sl.block (heap_alloc_new w _) trivial rfl (Nat.le_refl _) (by decide)
end
section
def lvF:Nat->Nat->Nat
 |0,_=>0
 |f+1,x=>if x%2=1 then lvF f (x/2)+1 else 0
def lv(x:Nat):Nat:=lvF 17 x
def nd(h k:Nat):Nat:=k*2^(h+1)+2^h-1
theorem zag(n:Nat):0<2^n:=Nat.pow_pos (by omega)
theorem zi7: ∀(f x:Nat),x<2^f-1->lvF f x<f/\x%2^(lvF f x)=2^(lvF f x)-1/\x/2^(lvF f x)%2=0
 |0,x,h=>by simp at h
 |f+1,x,h=>by
  have hp:=zag f
  have e:2^(f+1)=2*2^f:=by rw[Nat.pow_succ];omega
  unfold lvF
  by_cases hx:x%2=1
  ·rw[if_pos hx]
   have ih:=zi7 f (x/2) (by omega)
   generalize lvF f (x/2)=l at ih
   have hl:=zag l
   refine⟨by omega,?_,?_⟩
   ·rw[Nat.pow_succ,Nat.mul_comm,Nat.mod_mul,ih.2.1];omega
   ·rw[Nat.pow_succ,Nat.mul_comm,<-Nat.div_div_eq_div_mul];exact ih.2.2
  ·rw[if_neg hx]
   refine⟨by omega,by simp;omega,by simp;omega⟩
theorem zbg{x:Nat}(h:x<=131070):lv x<=16/\x%2^(lv x)=2^(lv x)-1/\x/2^(lv x)%2=0:=by
 have:=zi7 17 x (by omega)
 exact⟨by unfold lv;omega,this.2⟩
theorem zkt{x:Nat}(h:x<=131070):x=nd (lv x) (x/2^(lv x+1)):=by
 obtain⟨_,h1,h2⟩:=zbg h
 generalize lv x=l at*
 have hp:=zag l
 unfold nd
 have e1:x/2^(l+1)=x/2^l/2:=by rw[Nat.pow_succ,Nat.div_div_eq_div_mul]
 have e2:=Nat.div_add_mod x (2^l)
 have e3:=Nat.div_add_mod (x/2^l) 2
 rw[e1]
 rw[h1]at e2
 rw[h2]at e3
 generalize x/2^l/2=k at*
 have e4:k*2^(l+1)=2^l*(2*k):=by rw[Nat.pow_succ,Nat.mul_comm (2^l) 2,<-Nat.mul_assoc,Nat.mul_comm,Nat.mul_comm k 2]
 rw[e4]
 have e5:2*k=x/2^l:=by omega
 rw[e5]
 omega
theorem zi8: ∀(f h k:Nat),h<f->lvF f (nd h k)=h
 |0,h,k,hh=>by omega
 |f+1,0,k,_=>by unfold lvF nd;simp
 |f+1,h+1,k,hh=>by
  have hp:=zag h
  have e:nd (h+1) k=2*nd h k+1:=by
   unfold nd
   rw[Nat.pow_succ 2 (h+1),Nat.pow_succ 2 h,<-Nat.mul_assoc]
   omega
  unfold lvF
  rw[e,if_pos (by omega),show(2*nd h k+1)/2=nd h k by omega,zi8 f h k (by omega)]
theorem zfi{h k:Nat}(hh:h<=16):lv (nd h k)=h:=zi8 17 h k (by omega)
def fitsL:List Int:=[1,2,4,8,16,32,64,128,256,512,1024,2048,4096,8192,16384,32768,65536]
def za6(n:Int):Bool:=fitsL.contains n
theorem zcu{n:Int}(h:za6 n=true): ∃d,d<=16/\n=((2^d:Nat):Int):=by
 unfold za6 fitsL at h
 simp at h
 rcases h with h |h |h |h |h |h |h |h |h |h |h |h |h |h |h |h |h
 ·exact⟨0,by omega,by simpa using h⟩
 ·exact⟨1,by omega,by simpa using h⟩
 ·exact⟨2,by omega,by simpa using h⟩
 ·exact⟨3,by omega,by simpa using h⟩
 ·exact⟨4,by omega,by simpa using h⟩
 ·exact⟨5,by omega,by simpa using h⟩
 ·exact⟨6,by omega,by simpa using h⟩
 ·exact⟨7,by omega,by simpa using h⟩
 ·exact⟨8,by omega,by simpa using h⟩
 ·exact⟨9,by omega,by simpa using h⟩
 ·exact⟨10,by omega,by simpa using h⟩
 ·exact⟨11,by omega,by simpa using h⟩
 ·exact⟨12,by omega,by simpa using h⟩
 ·exact⟨13,by omega,by simpa using h⟩
 ·exact⟨14,by omega,by simpa using h⟩
 ·exact⟨15,by omega,by simpa using h⟩
 ·exact⟨16,by omega,by simpa using h⟩
theorem zgi: ∀d,d<=16->za6 ((2^d:Nat):Int)=true:=by decide+kernel
theorem zes{n:Int}(h:za6 n=true):1<=n/\n<=65536:=by
 obtain⟨d,hd,rfl⟩:=zcu h
 have h1:=zag d
 have h2:2^d<=2^16:=Nat.pow_le_pow_right (by omega) hd
 omega
def zbu(x:Int):Bool:=decide (0<=x)&&decide (x<=131070)
def ofI(x n:Int):Bool:=za6 n&&(decide (0<=x)&&decide (x<=2*n-2))
theorem zcj{x:Int}:zbu x=true↔0<=x/\x<=131070:=by simp[zbu]
theorem zdj{x n:Int}:ofI x n=true↔za6 n=true/\0<=x/\x<=2*n-2:=by simp[ofI]
def lvI(x:Int):Int:=if zbu x then(lv x.toNat:Int)else-1
def upN(x:Nat):Nat:=if x/2^(lv x+1)%2=0 then x+2^lv x else x-2^lv x
def parI(x n:Int):Int:=if ofI x n&&decide (x≠n-1)then(upN x.toNat:Int)else-1
def zdl(n:Int):Nat->Int->List Int
 |0,_=>[]
 |f+1,x=>if parI x n<0 then[]else parI x n::zdl n f (parI x n)
def zdm(x n:Int):List Int:=zdl n 17 x
theorem zmr(x:Int): -1<=lvI x/\lvI x<=16:=by
 unfold lvI
 split
 ·rename_i h
  rw[zcj]at h
  have:=(zbg (x:=x.toNat) (by omega)).1
  omega
 ·omega
theorem zd1{x:Int}(h:zbu x=true):lvI x=lv x.toNat:=by simp[lvI,h]
theorem zj0{x:Int}(h:zbu x=false):lvI x= -1:=by simp[lvI,h]
theorem zni{h k:Nat}(hh:h+1<=16):upN (nd h k)=nd (h+1) (k/2):=by
 have hp:=zag h
 unfold upN
 rw[zfi (by omega)]
 have e1:nd h k/2^(h+1)=k:=by
  unfold nd
  have:2^h<2^(h+1):=by rw[Nat.pow_succ];omega
  rw[Nat.add_sub_assoc (by omega),Nat.add_comm,Nat.add_mul_div_right _ _ (zag _),Nat.div_eq_of_lt (by omega)]
  omega
 rw[e1]
 unfold nd
 rw[Nat.pow_succ 2 (h+1),Nat.pow_succ 2 h]
 generalize 2^h=q at*
 split
 ·rename_i hk
  have:k=2*(k/2):=by omega
  generalize k/2=j at*
  subst this
  rw[show 2*j*(q*2)=j*(q*2*2)by rw[Nat.mul_comm 2 j,Nat.mul_assoc,Nat.mul_comm 2]]
  omega
 ·rename_i hk
  have:k=2*(k/2)+1:=by omega
  generalize k/2=j at*
  subst this
  rw[Nat.add_mul,show 2*j*(q*2)=j*(q*2*2)by rw[Nat.mul_comm 2 j,Nat.mul_assoc,Nat.mul_comm 2]]
  omega
theorem zja{a j:Nat}(h:a/2^j%2=0):a|||2^j=a+2^j:=by
 have hp:=zag j
 have e3:a=a/2^(j+1)*2^(j+1)+a%2^j:=by
  have e4:=Nat.div_add_mod a (2^j)
  have e5:a/2^(j+1)=a/2^j/2:=by rw[Nat.pow_succ,Nat.div_div_eq_div_mul]
  have e6:a/2^(j+1)*2^(j+1)=2^j*(2*(a/2^j/2)):=by rw[e5,Nat.pow_succ,Nat.mul_comm,Nat.mul_assoc]
  rw[e6,show 2*(a/2^j/2)=a/2^j by omega]
  omega
 have hlt:a%2^j<2^j:=Nat.mod_lt _ hp
 have hs:2^(j+1)=2*2^j:=by rw[Nat.pow_succ];omega
 have hq:(a/2^(j+1)*2^(j+1))%2^(j+1)=0:=by simp
 generalize a/2^(j+1)*2^(j+1)=q at*
 generalize a%2^j=r at*
 have e7:q|||r=q+r:=nat_join (j+1) q r hq (by omega)
 have e8:r|||2^j=2^j+r:=by rw[Nat.or_comm];exact nat_join j _ _ (by simp) hlt
 have e9:q|||(2^j+r)=q+(2^j+r):=nat_join (j+1) q _ hq (by omega)
 rw[e3,<-e7,Nat.or_assoc,e8,e9,e7]
 omega
theorem zir{a j:Nat}(ha:a<2^64)(hj:j<64):a&&&(2^64-(2^j+1))=a-a/2^j%2*2^j:=by
 have hjj:2^j<2^64:=Nat.pow_lt_pow_right (by omega) hj
 have key: ∀b:Nat,b<2^64->b/2^j%2=0->b&&&(2^64-(2^j+1))=b:=by
  intro b hb h0
  apply Nat.eq_of_testBit_eq
  intro i
  rw[Nat.testBit_and,Nat.testBit_two_pow_sub_succ hjj,Nat.testBit_two_pow]
  by_cases hi:i<64
  ·by_cases hij:j=i
   ·subst hij
    simp[Nat.testBit_eq_decide_div_mod_eq,h0]
   ·simp[hij,hi]
  ·have:b.testBit i=false:=Nat.testBit_lt_two_pow (Nat.lt_of_lt_of_le hb (Nat.pow_le_pow_right (by omega) (by omega)))
   simp[this]
 have hp:=zag j
 rcases Nat.mod_two_eq_zero_or_one (a/2^j)with h |h
 ·rw[h,key a ha h];omega
 ·have hge:2^j<=a:=by
   rcases Nat.lt_or_ge a (2^j)with hl |hl
   ·rw[Nat.div_eq_of_lt hl]at h;omega
   ·exact hl
  have h0:(a-2^j)/2^j%2=0:=by
   have:(a-2^j)/2^j=a/2^j-1:=by have:=Nat.sub_mul_div a (2^j) 1;rwa[Nat.mul_one]at this
   omega
  have e:a=(a-2^j)|||2^j:=by rw[zja h0];omega
  have:=key (a-2^j) (by omega) h0
  rw[h,Nat.one_mul]
  conv=>lhs;rw[e]
  rw[Nat.and_or_distrib_right,this]
  have h2:2^j&&&(2^64-(2^j+1))=0:=by
   apply Nat.eq_of_testBit_eq
   intro i
   rw[Nat.testBit_and,Nat.testBit_two_pow_sub_succ hjj,Nat.testBit_two_pow]
   by_cases hij:j=i<;>simp[hij]
  rw[h2,Nat.or_zero]
theorem zig{h k d:Nat}(hd:h<=d):nd h k<=2*2^d-2↔k<2^(d-h):=by
 have hp:=zag h
 have hq:=zag (d-h)
 have e:2^d=2^h*2^(d-h):=by rw[<-Nat.pow_add];congr 1;omega
 unfold nd
 rw[e,Nat.pow_succ]
 generalize 2^h=q at*
 generalize 2^(d-h)=Q at*
 have e1:k*(q*2)=2*(q*k):=by rw[<-Nat.mul_assoc,Nat.mul_comm k q,Nat.mul_comm]
 rw[e1]
 constructor
 ·intro h1
  rcases Nat.lt_or_ge k Q with h2 |h2
  ·exact h2
  ·have:=Nat.mul_le_mul_left q h2
   have:q*1<=q*Q:=Nat.mul_le_mul_left q hq
   omega
 ·intro h1
  have:=Nat.mul_le_mul_left q (show k+1<=Q from h1)
  rw[Nat.mul_add]at this
  omega
theorem zla{x n:Int}(h:ofI x n=true): ∃d h k,d<=16/\n=((2^d:Nat):Int)/\h<=d/\k<2^(d-h)/\x=(nd h k:Int):=by
 rw[zdj]at h
 obtain⟨d,hd,hn⟩:=zcu h.1
 obtain⟨m,rfl⟩:=Int.eq_ofNat_of_zero_le h.2.1
 have h16:2^d<=2^16:=Nat.pow_le_pow_right (by omega) hd
 have hm:m<=2*2^d-2:=by omega
 have hf:=zkt (x:=m) (by omega)
 have hl:lv m<=d:=by
  rcases Nat.lt_or_ge d (lv m)with h1 |h1
  ·exfalso
   have h2:2^(d+1)<=2^lv m:=Nat.pow_le_pow_right (by omega) h1
   rw[Nat.pow_succ]at h2
   have hp:=zag d
   have:2^lv m-1<=m:=by
    conv=>rhs;rw[hf]
    unfold nd
    omega
   omega
  ·exact h1
 refine⟨d,lv m,m/2^(lv m+1),hd,hn,hl,?_,by rw[<-hf]⟩
 rw[<-zig hl,<-hf];exact hm
theorem zku{d h k:Nat}(hd:d<=16)(hh:h<=d)(hk:k<2^(d-h)):ofI (nd h k:Int) ((2^d:Nat):Int)=true:=by
 rw[zdj]
 have:=(zig hh).2 hk
 exact⟨zgi d hd,by omega,by have:=zag d;omega⟩
theorem zk9{d h k:Nat}(hd:d<=16)(hh:h<=d)(hk:k<2^(d-h)):nd h k<=131070:=by
 have:=(zig hh).2 hk
 have h16:2^d<=2^16:=Nat.pow_le_pow_right (by omega) hd
 omega
theorem zj2{d h k:Nat}(hd:d<=16)(hh:h<=d)(hk:k<2^(d-h)):zbu (nd h k:Int)=true:=by
 have:=zk9 hd hh hk
 rw[zcj];omega
theorem zf8{d h k:Nat}(hd:d<=16)(hh:h<=d)(hk:k<2^(d-h)):lvI (nd h k:Int)=h:=by
 rw[zd1 (zj2 hd hh hk),Int.toNat_natCast,zfi (by omega)]
theorem zhn(d:Nat):(nd d 0:Int)=((2^d:Nat):Int)-1:=by
 have:=zag d
 unfold nd;omega
theorem zm1{h k h' k':Nat}(hh:h<=16)(hh':h'<=16)(e:nd h k=nd h' k'):h=h'/\k=k':=by
 have h1:h=h':=by rw[<-zfi (h:=h) (k:=k) hh,<-zfi (h:=h') (k:=k') hh',e]
 subst h1
 refine⟨rfl,?_⟩
 unfold nd at e
 have hp:=zag h
 have:k*2^(h+1)=k'*2^(h+1):=by omega
 exact Nat.eq_of_mul_eq_mul_right (zag _) this
theorem zld{d h k:Nat}(hd:d<=16)(hh:h<d)(hk:k<2^(d-h)):parI (nd h k:Int) ((2^d:Nat):Int)=(nd (h+1) (k/2):Int):=by
 have hne:(nd h k:Int)≠((2^d:Nat):Int)-1:=by
  rw[<-zhn]
  intro e
  have:=(zm1 (by omega) hd (Int.ofNat.inj e)).1
  omega
 unfold parI
 rw[zku hd (by omega) hk,Int.toNat_natCast,zni (by omega),Bool.true_and,if_pos (by rw[decide_eq_true_eq];exact hne)]
theorem zjc{d:Nat}:parI (nd d 0:Int) ((2^d:Nat):Int)= -1:=by
 unfold parI
 rw[zhn];simp
theorem zhj{d h k:Nat}(hh:h<d)(hk:k<2^(d-h)):k/2<2^(d-(h+1)):=by
 have e:2^(d-h)=2*2^(d-(h+1)):=by
  rw[show d-h=d-(h+1)+1 by omega,Nat.pow_succ];omega
 omega
theorem ze6{x n:Int}(h:0<=parI x n):ofI x n=true/\ofI (parI x n) n=true/\lvI (parI x n)=lvI x+1/\0<=lvI x:=by
 have ho:ofI x n=true:=by
  unfold parI at h
  split at h
  ·rename_i h1;simp at h1;exact h1.1
  ·omega
 obtain⟨d,l,k,hd,rfl,hh,hk,rfl⟩:=zla ho
 rcases Nat.lt_or_ge l d with hlt |hge
 ·rw[zld hd hlt hk]at*
  exact⟨ho,zku hd (by omega) (zhj hlt hk),by rw[zf8 hd (by omega) (zhj hlt hk),zf8 hd hh hk];rfl,by rw[zf8 hd hh hk];omega⟩
 ·obtain rfl:l=d:=by omega
  have:k=0:=by simpa using hk
  subst this
  rw[zjc]at h
  omega
end
section
def zjj(l m:List UInt8)(i:Value)(w wr:World):Prop:=∃j:Nat,i= .int .i64 (j:Int)/\j<=l.length/\l.take j=m.take j/\Ext w wr
theorem zg5(p q:AC)(l m:List UInt8){S S':Nat->Prop}(w:World)(hp:By w S p l)(hq:By w S' q m):
  Calls Tryz.prog 95 #[.slice p.a l.length p.c, .slice q.a m.length q.c] w (Ret w λ_ v=>v= .bool (decide (l=m))):=by
 have hl:=hp.lens
 have hm:=hq.lens
 unfold maxLen at hl hm
 by_cases hlen:l.length=m.length
 ·have ht:((l.length:Int) != (m.length:Int))=false:=by simp[hlen]
  have HL:=Lib.hid hlen
  obtain⟨N,hN⟩: ∃N,N=l.length:=⟨_,rfl⟩
  have HN:=Lib.hid hN
  have hNb:N<=9223372036854775807:=by omega
  rw[<-hlen,<-hN]at ht
  rw[<-hlen,<-hN]
  clear hlen hN hl hm
  go_enter Tryz.func95,Tryz.ntmps95
  go_wp2_with fail
  go_loopw [5] (λi wr=>zjj l m i w wr) (λi _=>N-(intOf i).toNat)
  case atStart=>exact⟨0,rfl,Nat.zero_le _,by simp,Ext.refl _⟩
  case round=>
   obtain⟨j,rfl,e1,e2,e3⟩:=hrel
   have E2:=Lib.hid e2
   rw[<-HN.out]at e1
   clear e2
   by_cases hj:j<N
   ·have hj1:j<l.length:=by rw[<-HN.out];exact hj
    have hj2:j<m.length:=by rw[<-HL.out];exact hj1
    obtain⟨b,o,hpa,hc⟩:=(hp.ext e3).at_ hj1
    obtain⟨b',o',hqa,hc'⟩:=(hq.ext e3).at_ hj2
    have hj0:(0:Int)<=(j:Int):=by omega
    have hjN:(j:Int)< (N:Int):=by omega
    rw[hpa,hqa]
    clear hpa hqa
    by_cases he:l[j]=m[j]
    ·have ht2:((l[j].toNat:Int) != (m[j].toNat:Int))=false:=by simp[he]
     have HE:=Lib.hid he
     obtain⟨X,hX⟩: ∃X:Int,X=l[j].toNat:=⟨_,rfl⟩
     obtain⟨Y,hY⟩: ∃Y:Int,Y=m[j].toNat:=⟨_,rfl⟩
     rw[<-hX]at hc ht2
     rw[<-hY]at hc' ht2
     clear he hX hY
     go_wp2_with fail
     go_quiet (fail)
     go_wp2_with fail
     go_roundw
     case rel=>exact⟨j+1,by simp,by have:=HN.out;omega,by rw[List.take_add_one,List.take_add_one,E2.out,List.getElem?_eq_getElem hj1,List.getElem?_eq_getElem hj2,HE.out],by(repeat (first |exact Ext.refl _ |refine Ext.drew ?_ |refine Ext.drewN ?_ _ |refine Ext.alloc ?_ _ |(refine Ext.setCell ?_ (by first |omega |(simp;done) |(simp;omega)) _) |refine Ext.trans ?_ (by assumption)))⟩
     case measure=>(first |omega |(simp[intOf];done) |(simp[intOf];omega))
    ·have ht2:((l[j].toNat:Int) != (m[j].toNat:Int))=true:=by
      have:l[j].toNat≠m[j].toNat:=λh=>he (UInt8.toNat_inj.1 h)
      simp;omega
     have HE:Hid (l≠m):=Lib.hid (λh=>he (by subst h;rfl))
     obtain⟨X,hX⟩: ∃X:Int,X=l[j].toNat:=⟨_,rfl⟩
     obtain⟨Y,hY⟩: ∃Y:Int,Y=m[j].toNat:=⟨_,rfl⟩
     rw[<-hX]at hc ht2
     rw[<-hY]at hc' ht2
     clear he hX hY
     go_wp2_with fail
     go_quiet (fail)
     go_wp2_with fail
     go_ret
     exact⟨_,rfl,by(repeat (first |exact Ext.refl _ |refine Ext.drew ?_ |refine Ext.drewN ?_ _ |refine Ext.alloc ?_ _ |(refine Ext.setCell ?_ (by first |omega |(simp;done) |(simp;omega)) _) |refine Ext.trans ?_ (by assumption))),by simp[HE.out]⟩
   ·go_wp2_with fail
    go_ret
    have:l=m:=by
     have h1:=HN.out
     have h2:=HL.out
     have h3:=E2.out
     rwa[List.take_of_length_le (by omega),List.take_of_length_le (by omega)]at h3
    exact⟨_,rfl,by(repeat (first |exact Ext.refl _ |refine Ext.drew ?_ |refine Ext.drewN ?_ _ |refine Ext.alloc ?_ _ |(refine Ext.setCell ?_ (by first |omega |(simp;done) |(simp;omega)) _) |refine Ext.trans ?_ (by assumption))),by simp[this]⟩
 ·have ht:((l.length:Int) != (m.length:Int))=true:=by simp;omega
  have HE:Hid (l≠m):=Lib.hid (λh=>hlen (by rw[h]))
  clear hlen
  go_enter Tryz.func95,Tryz.ntmps95
  go_wp2_with fail
  go_ret
  exact⟨_,rfl,by(repeat (first |exact Ext.refl _ |refine Ext.drew ?_ |refine Ext.drewN ?_ _ |refine Ext.alloc ?_ _ |(refine Ext.setCell ?_ (by first |omega |(simp;done) |(simp;omega)) _) |refine Ext.trans ?_ (by assumption))),by simp[HE.out]⟩
end
section
def on6(f:Nat):Nat:=Nat.land (Nat.add f (Nat.div f 4294967296)) 127
def on5(e:Nat):Nat:=on6 (Nat.add e (Nat.div e 65536))
def on4(d:Nat):Nat:=on5 (Nat.add d (Nat.div d 256))
def on3(b:Nat):Nat:=on4 (Nat.land (Nat.add (Nat.div b 16) b) 1085102592571150095)
def on2(a:Nat):Nat:=on3 (Nat.add (Nat.land (Nat.div a 4) 3689348814741910323) (Nat.land a 3689348814741910323))
def zei(n:Nat):Nat:=on2 (Nat.add (Nat.land (Nat.div n 2) 6148914691236517205) (Nat.land n 6148914691236517205))
def pwN(n:Nat):Bool:=Nat.beq (Nat.land n (Nat.sub n 1)) 0
def beqB:Bool->Bool->Bool
 |true,b=>b
 |false,true=>false
 |false,false=>true
def zi9(n:Nat):Bool:=beqB (Nat.beq (zei n) 1) (pwN n)
def upTo(p:Nat->Bool):Nat->Bool
 |0=>true
 |n+1=>match p (n+1)with |true=>upTo p n |false=>false
theorem zex{p:Nat->Bool}: ∀{n:Nat},upTo p n=true->∀i,i<n->p (i+1)=true
 |0,_,i,h=>by omega
 |n+1,h,i,hi=>by
  unfold upTo at h
  split at h
  ·by_cases e:i=n
   ·subst e;assumption
   ·exact zex h i (by omega)
  ·cases h
theorem zg4:upTo (λk=>upTo (λi=>zi9 (Nat.add (Nat.mul 2048 (Nat.sub k 1)) i)) 2048) 32=true:=by decide+kernel
theorem zlb{n:Nat}(h1:1<=n)(h2:n<=65536):zi9 n=true:=by
 have h:=zex zg4 ((n-1)/2048) (by omega)
 have h':=zex h ((n-1)%2048) (by omega)
 have e:Nat.add (Nat.mul 2048 (Nat.sub ((n-1)/2048+1) 1)) ((n-1)%2048+1)=n:=by
  show 2048*((n-1)/2048+1-1)+((n-1)%2048+1)=n
  omega
 rw[e]at h'
 exact h'
theorem zk1{a b:Bool}(h:beqB a b=true):a=b:=by cases a<;>cases b<;>simp[beqB]at*
theorem znf{n:Nat}(h1:1<=n)(h2:n<=65536)(h:n&&&(n-1)=0): ∃d,d<=16/\n=2^d:=by
 obtain⟨hl,_,_⟩:=zbg (x:=n-1) (by omega)
 have hn:=zkt (x:=n-1) (by omega)
 generalize lv (n-1)=l at*
 generalize (n-1)/2^(l+1)=k at hn
 have hp:=zag l
 have hp1:=zag (l+1)
 have hlt:2^l<2^(l+1):=by rw[Nat.pow_succ];omega
 unfold nd at hn
 have e1:n=k*2^(l+1)+2^l:=by omega
 have d1:n/2^(l+1)=k:=by
  rw[e1,Nat.add_comm,Nat.add_mul_div_right _ _ hp1,Nat.div_eq_of_lt (by omega)];omega
 have d2:(n-1)/2^(l+1)=k:=by
  rw[hn,Nat.add_sub_assoc (by omega),Nat.add_comm,Nat.add_mul_div_right _ _ hp1,Nat.div_eq_of_lt (by omega)];omega
 have:=Nat.and_div_two_pow (a:=n) (b:=n-1) (n:=l+1)
 rw[h,d1,d2,Nat.and_self,Nat.zero_div]at this
 subst this
 exact⟨l,hl,by omega⟩
theorem zne: ∀d,d<=16->pwN (2^d)=true:=by decide+kernel
theorem zj4{n:Nat}(h1:1<=n)(h2:n<=65536):(zei n=1)↔za6 (n:Int)=true:=by
 have h:=zk1 (zlb h1 h2)
 constructor
 ·intro h3
  rw[h3]at h
  have h4:n&&&(n-1)=0:=Nat.eq_of_beq_eq_true (h.symm.trans rfl)
  obtain⟨d,hd,rfl⟩:=znf h1 h2 h4
  exact zgi d hd
 ·intro h3
  obtain⟨d,hd,e⟩:=zcu h3
  have e':n=2^d:=by omega
  rw[e',zne d hd]at h
  rw[e']
  exact Nat.eq_of_beq_eq_true h
end
end Go.Proofs.YtamhdpombmegaaaGreat
