import Derived.Test.YtebhngeddnnpkaaGreatZSxS
import Derived.WalkKit
import Derived.WalkSpells
import Derived.WalkLawsBesides
import Derived.Lib.Hide
import Derived.Deep.Draws
import Derived.Deep.AppendLies
import Derived.Test.YtebhngeddnnpkaaGreatZSxV
import Derived.Laws.Cover3
import Derived.Test.YtebhngeddnnpkaaGreatProg
import Derived.Laws.BitsAllLaws
import Derived.Deep.QuietTactic
import Derived.BigQuiet
import Derived.Deep.LoopGhost
namespace Go.Proofs.YtebhngeddnnpkaaGreat.Sx
open Go.RowKit
section
section
variable {P:Program} {T:TT} {B:Bs} {N:Nat} {S:St} {a:Act} {w:World} {k:Kp} {g:Env} {o:Oper} {Q:Exit->Act->World->Prop}
theorem chAt.blk{e:TypeId}{sz n:Nat}{cells:List RV}{pub:Bool}{u:Value}{ob:Option Nat}(h:chAt w k e sz n cells pub u ob){b:Nat}(hb:ob=some b):k b=(if pub then n*sz else 0)/\(∃cur,w.heap[b]?=some (.cells cur e (0,0))):=by
 rcases h.2 with⟨h,_⟩ |⟨b',cap,cur,h,_,hh,_,_,_,h',_⟩
 ·rw[h]at hb;cases hb
 ·rw[h]at hb;cases hb;exact⟨h',cur,hh⟩
end
end
section
section
variable {P:Program} {T:TT} {B:Bs} {N:Nat} {S:St} {a:Act} {w:World} {k:Kp} {g:Env} {o:Oper} {Q:Exit->Act->World->Prop}
theorem SatE.reset(hs:SatE B N S a w k g){id:Nat}{ow:Ow}(ho:oget S.O id=some ow):SatE B N (S.set id (some ow)) a w k g:=by
 have up: ∀i o',oget (S.set id (some ow)).O i=some o'->oget S.O i=some o':=λi o' h=>by
  rcases zal h with⟨rfl,e⟩ |⟨_,h⟩
  ·cases e;exact ho
  ·exact h
 exact⟨hs.size,hs.defers,hs.keep,hs.kk,hs.facts,λi o' h=>hs.owns i o' (up i o' h),λi j o1 o2 b hi hj=>hs.apart i j o1 o2 b (up i o1 hi) (up j o2 hj)⟩
end
end
end Go.Proofs.YtebhngeddnnpkaaGreat.Sx

namespace Go.Proofs.YtebhngeddnnpkaaGreat
open Go.RowKit
set_option linter.unusedVariables false
section
def Ext(w w':World):Prop:=Below w.heap.size w w'
theorem Ext.refl(w:World):Ext w w:=Below.refl _ _
theorem Ext.trans{a b c:World}(h:Ext a b)(k:Ext b c):Ext a c:=Below.trans h (Below.mono k h.size)
theorem Ext.alloc{a w:World}(h:Ext a w)(o:Obj):Ext a (w.alloc o):=Below.alloc h h.size o
theorem Ext.drew{a w:World}(h:Ext a w):Ext a w.drew:=Below.drew h
theorem Ext.drewN{a w:World}(h:Ext a w)(n:Nat):Ext a (w.drewN n):=⟨h.os,h.tape,h.output,h.size,h.block⟩
theorem Ext.setCell{a w:World}(h:Ext a w){p:Addr}(hp:a.heap.size<=p.block)(u:Value):Ext a (w.setCell p u):=Below.setCell h hp u
theorem Ext.le{a w:World}(h:Ext a w):a.heap.size<=w.heap.size:=h.size
theorem Ext.grown{a w w':World}{g:Option Nat}(h:Ext a w)(hg:w.grownBy w' g)(hr: ∀k,g=some k->a.heap.size<=k):Ext a w':=Below.grown h hg h.size hr
theorem zaz(w:World)(o:Obj):Ext w (w.alloc o):=(Ext.refl w).alloc o
theorem Ext.cells{W w1:World}(hb:Ext W w1):(∀b o,b<W.heap.size->w1.cell? ⟨b,o,none⟩=W.cell? ⟨b,o,none⟩)/\(∀b o,b<W.heap.size->w1.frozen? ⟨b,o,none⟩=W.frozen? ⟨b,o,none⟩):=
 ⟨λb o h=>Below.cell hb (p:=⟨b,o,none⟩) h,λb o h=>Below.frozen hb (p:=⟨b,o,none⟩) h⟩
def Same(S:Nat->Prop)(w w':World):Prop:=w.heap.size<=w'.heap.size/\∀b,S b->b<w.heap.size->w'.heap[b]?=w.heap[b]?
theorem Same.of_ext{S:Nat->Prop}{w w':World}(h:Ext w w'):Same S w w':=⟨h.size,λb _ hb=>h.block b hb⟩
theorem Same.of_grown{S:Nat->Prop}{w w':World}{g:Option Nat}(h:w.grownBy w' g)(hS: ∀b,S b->some b≠g):Same S w w':=⟨h.size,λb hs hb=>h.block b hb (hS b hs)⟩
structure AC where
 a:Option Addr
 c:Nat
def Sl(w:World)(S:Nat->Prop)(sz:Nat)(p:AC)(n:Nat)(xs:List Value):Prop:=
 xs.length=n*sz/\n<=p.c/\p.c<=maxLen/\
  (0<n->∃b o,p.a=some ⟨b,o,none⟩/\S b/\b<w.heap.size/\∀j u,xs[j]?=some u->w.cell? ⟨b,o+j,none⟩=some u)
section
variable {w w':World} {S S':Nat->Prop} {sz n:Nat} {p:AC} {xs:List Value}
theorem Sl.same(h:Sl w S sz p n xs)(k:Same S w w'):Sl w' S sz p n xs:=by
 obtain⟨h1,h2,h3,h4⟩:=h
 refine⟨h1,h2,h3,λhn=>?_⟩
 obtain⟨b,o,e,hs,hb,hc⟩:=h4 hn
 exact⟨b,o,e,hs,Nat.lt_of_lt_of_le hb k.1,λj u hu=>(World.cell?_of_block (a:=⟨b,o+j,none⟩) (k.2 b hs hb)).trans (hc j u hu)⟩
theorem Sl.ext(h:Sl w S sz p n xs)(k:Ext w w'):Sl w' S sz p n xs:=h.same (.of_ext k)
theorem Sl.mono(h:Sl w S sz p n xs)(k: ∀b,S b->b<w.heap.size->S' b):Sl w S' sz p n xs:=by
 obtain⟨h1,h2,h3,h4⟩:=h
 refine⟨h1,h2,h3,λhn=>?_⟩
 obtain⟨b,o,e,hs,hb,hc⟩:=h4 hn
 exact⟨b,o,e,k b hs hb,hb,hc⟩
theorem Sl.capLe(h:Sl w S sz p n xs):n<=p.c/\p.c<=maxLen:=⟨h.2.1,h.2.2.1⟩
theorem Sl.nil(w:World)(S:Nat->Prop)(sz:Nat):Sl w S sz ⟨none,0⟩ 0 []:=⟨by simp,Nat.le_refl _,Nat.zero_le _,λh=>absurd h (by omega)⟩
theorem Sl.at_(h:Sl w S sz p n xs)(hn:0<n): ∃b o,p.a=some ⟨b,o,none⟩/\S b/\b<w.heap.size/\∀j u,xs[j]?=some u->w.cell? ⟨b,o+j,none⟩=some u:=h.2.2.2 hn
theorem Sl.cut(h:Sl w S sz p n xs){i j:Nat}(hij:i<=j)(hj:j<=n){a:Option Addr}{c:Nat}(hc:j-i<=c/\c<=maxLen)
  (ha:i<j->∀b o,p.a=some ⟨b,o,none⟩->a=some ⟨b,o+i*sz,none⟩):Sl w S sz ⟨a,c⟩ (j-i) ((xs.drop (i*sz)).take ((j-i)*sz)):=by
 have hl:i*sz+(j-i)*sz<=xs.length:=by
  rw[h.1,<-Nat.add_mul]
  exact Nat.mul_le_mul_right _ (by omega)
 refine⟨by rw[List.length_take,List.length_drop];omega,hc.1,hc.2,λhn=>?_⟩
 obtain⟨b,o,e,hs,hb,hcell⟩:=h.at_ (by omega)
 refine⟨b,o+i*sz,ha (by omega) b o e,hs,hb,λk u hu=>?_⟩
 have:=hcell (i*sz+k) u (by
  rw[List.getElem?_take]at hu
  split at hu
  ·rw[List.getElem?_drop]at hu;exact hu
  ·cases hu)
 rw[Nat.add_assoc];exact this
end
abbrev bv(b:UInt8):Value:= .int .u8 (b.toNat:Int)
abbrev iv(n:Int):Value:= .int .i64 n
def I64(n:Int):Prop:= -9223372036854775808<=n/\n<=9223372036854775807
def By(w:World)(S:Nat->Prop)(p:AC)(l:List UInt8):Prop:=Sl w S 1 p l.length (l.map bv)
def Is(w:World)(S:Nat->Prop)(p:AC)(l:List Int):Prop:=Sl w S 1 p l.length (l.map iv)/\∀x∈l,I64 x
section
variable {w w':World} {S S':Nat->Prop} {p:AC} {l:List UInt8} {m:List Int}
theorem By.same(h:By w S p l)(k:Same S w w'):By w' S p l:=Sl.same h k
theorem By.ext(h:By w S p l)(k:Ext w w'):By w' S p l:=Sl.ext h k
theorem By.mono(h:By w S p l)(k: ∀b,S b->b<w.heap.size->S' b):By w S' p l:=Sl.mono h k
theorem By.lens(h:By w S p l):l.length<=p.c/\p.c<=maxLen:=Sl.capLe h
theorem By.nil(w:World)(S:Nat->Prop):By w S ⟨none,0⟩ []:=Sl.nil w S 1
theorem Is.ext(h:Is w S p m)(k:Ext w w'):Is w' S p m:=⟨Sl.ext h.1 k,h.2⟩
theorem By.at_(h:By w S p l){k:Nat}(hk:k<l.length): ∃b o,p.a=some ⟨b,o,none⟩/\w.cell? ⟨b,o+k,none⟩=some (.int .u8 (l[k].toNat:Int)):=by
 obtain⟨b,o,e,_,_,hc⟩:=Sl.at_ h (by omega)
 exact⟨b,o,e,hc k _ (by simp[hk])⟩
theorem By.form(h:By w S p l)(hk:0<l.length): ∃b o,p.a=some ⟨b,o,none⟩/\∀(k:Nat) (h:k<l.length),w.cell? ⟨b,o+k,none⟩=some (.int .u8 (l[k].toNat:Int)):=by
 obtain⟨b,o,e,_,_,hc⟩:=Sl.at_ h hk
 exact⟨b,o,e,λk hk=>hc k _ (by simp[hk])⟩
end
def Ow(w:World)(base:Nat)(e:TypeId)(sz:Nat)(v:Value)(n:Nat)(xs:List Value)(g:Option Nat):Prop:=
 xs.length=n*sz/\
 ((g=none/\∃a,v= .slice a n n/\Sl w (base<= ·) sz ⟨a,n⟩ n xs)\/
 (∃b cap cur,g=some b/\v= .slice (some ⟨b,0,none⟩) n cap/\base<=b/\w.heap[b]?=some (.cells cur e (0,0))/\n<=cap/\cap<=maxLen/\cur.size=cap*sz/\cur.toList.take (n*sz)=xs))
section
variable {w w':World} {base:Nat} {e:TypeId} {sz n:Nat} {v:Value} {xs:List Value} {g:Option Nat}
theorem Ow.nil(w:World)(base:Nat)(e:TypeId)(sz:Nat):Ow w base e sz (.slice none 0 0) 0 [] none:=
 ⟨by simp, .inl ⟨rfl,none,rfl,Sl.nil _ _ _⟩⟩
theorem Ow.made{w:World}{cs:Array Value}(hs:cs.size=n*sz)(hn:n<=maxLen)(hb:base<=w.heap.size):
  Ow (w.alloc (.cells cs e)) base e sz (.slice (some ⟨w.heap.size,0,none⟩) n n) n cs.toList (some w.heap.size):=
 ⟨by simpa using hs, .inr ⟨w.heap.size,n,cs,rfl,rfl,hb,heap_alloc_new w _,Nat.le_refl _,hn,hs,by rw[<-hs,<-Array.length_toList];exact List.take_length⟩⟩
theorem Ow.lt(h:Ow w base e sz v n xs g): ∀k,g=some k->base<=k/\k<w.heap.size:=by
 intro k hk
 rcases h.2 with⟨rfl,_⟩ |⟨b,cap,cur,rfl,_,hb,hh,_⟩
 ·cases hk
 ·cases hk
  exact⟨hb,(Array.getElem?_eq_some_iff.1 hh).1⟩
theorem Ow.sl(h:Ow w base e sz v n xs g): ∃p:AC,v= .slice p.a n p.c/\Sl w (base<= ·) sz p n xs:=by
 obtain⟨hl,h⟩:=h
 rcases h with⟨_,a,rfl,hs⟩ |⟨b,cap,cur,_,rfl,hb,hh,hnc,hcm,hcs,ht⟩
 ·exact⟨⟨a,n⟩,rfl,hs⟩
 ·refine⟨⟨some ⟨b,0,none⟩,cap⟩,rfl,hl,hnc,hcm,λ_=>⟨b,0,rfl,hb,(Array.getElem?_eq_some_iff.1 hh).1,λj u hu=>?_⟩⟩
  rw[Nat.zero_add,cell_of_row w b j cur e (0,0) hh]
  rw[<-ht,List.getElem?_take]at hu
  split at hu
  ·simpa using hu
  ·cases hu
theorem Ow.kept{g':Option Nat}(h:Ow w base e sz v n xs g)(k:Same (λb=>base<=b/\some b≠g') w w')(hg:g=none\/g≠g')(h0:g=none->n=0\/g'=none):Ow w' base e sz v n xs g:=by
 obtain⟨hl,h⟩:=h
 refine⟨hl,?_⟩
 rcases h with⟨hg0,a,rfl,hs⟩ |⟨b,cap,cur,hgb,rfl,hb,hh,r⟩
 ·refine .inl ⟨hg0,a,rfl,?_⟩
  rcases h0 hg0 with h1 |h1
  ·subst h1
   exact⟨hs.1,hs.2.1,hs.2.2.1,λh=>absurd h (by omega)⟩
  ·subst h1
   exact hs.same ⟨k.1,λb hb hlt=>k.2 b ⟨hb,by simp⟩ hlt⟩
 ·refine .inr ⟨b,cap,cur,hgb,rfl,hb,?_,r⟩
  refine(k.2 b ⟨hb,?_⟩ (Array.getElem?_eq_some_iff.1 hh).1).trans hh
  rcases hg with hg |hg
  ·rw[hg]at hgb;cases hgb
  ·rw[hgb]at hg;exact hg
theorem Ow.ext(h:Ow w base e sz v n xs g)(k:Ext w w'):Ow w' base e sz v n xs g:=by
 refine h.kept (g':=none) (Same.of_ext k) ?_ (λ_=> .inr rfl)
 cases g with
 |none=>exact .inl rfl
 |some _=>exact .inr (by simp)
theorem Ow.base_mono{base':Nat}(h:Ow w base e sz v n xs g)(hb:base'<=base):Ow w base' e sz v n xs g:=by
 obtain⟨hl,h⟩:=h
 refine⟨hl,?_⟩
 rcases h with⟨hg0,a,hv,hs⟩ |⟨b,cap,cur,hgb,hv,hbb,r⟩
 ·exact .inl ⟨hg0,a,hv,hs.mono λb hb' _=>Nat.le_trans hb hb'⟩
 ·exact .inr ⟨b,cap,cur,hgb,hv,Nat.le_trans hb hbb,r⟩
end
theorem zgn(b o j:Nat):(⟨b,o,none⟩:Addr).add j=⟨b,o+j,none⟩:=by unfold Addr.add;split<;>simp_all
section
variable {P:Program} (w:World)
theorem z5m(base:Nat)(t ty e:TypeId)(i:TypeInfo)(z:Value)(size bytes:Nat)(ht:P.underlying t=some (.slice e))(hi:P.info? e=some i)(hz:i.zero=some z)
  (hsize:i.size=size) (hby:i.bytes=bytes) (hzs:z.cells.size=size) (hsz:0<size)
  (v:Value) (n:Nat) (xs:List Value) (g:Option Nat) (hown:Ow w base e size v n xs g)
  (q:AC) (m:Nat) (news:List Value) {S:Nat->Prop} (hsrc:Sl w S size q m news) (h1: ∀u∈news,u.oneCell'=true)
  (h63:n+m<=maxLen) (hbytes:(n+m)*bytes<=140737488355328) (hbase:base<=w.heap.size):
  ∃a' c' g' w',(Builtin.append_ #[t,t] ty #[v, .slice q.a m q.c]).run P w= .ok (.slice a' (n+m) c') w'/\Ow w' base e size (.slice a' (n+m) c') (n+m) (xs++news) g'/\w.grownBy w' g/\(g'=g\/g'=some w.heap.size):=by
 obtain⟨p,rfl,hp⟩:=hown.sl
 rcases Nat.eq_zero_or_pos m with rfl |hm
 ·have hn:news=[]:=List.eq_nil_of_length_eq_zero (by simpa using hsrc.1)
  subst hn
  refine⟨p.a,p.c,g,w,?_,by simpa using hown,World.grownBy.refl _ _, .inl rfl⟩
  have hcap:=hp.2.1
  obtain⟨a,c⟩:=q
  cases a<;>cases hpa:p.a<;>simp[Builtin.append_,run_underlying ht,sizeOf,typeInfo,hi,Builtin.lenOf,Builtin.firstCells,loadCells,loadCellsFrom,hcap,storeCells]
 ·obtain⟨qb,qo,hqa,_,_,hqc⟩:=hsrc.at_ hm
  have hnews: ∀j u,news[j]?=some u->w.cell? ((⟨qb,qo,none⟩:Addr).add j)=some u:=λj u hu=>by rw[zgn];exact hqc j u hu
  rw[hqa]
  obtain⟨hlx,hd⟩:=id hown
  rcases hd with⟨rfl,a,hv,hs⟩ |⟨b,cap,cur,rfl,hv,hb,hh,hnc,hcm,hcs,htk⟩
  ·injection hv with e1 _ e3
   rw[e1,e3]
   have hnl:=h63
   simp only[maxLen]at hnl
   have olds: ∀(b:Addr),a=some b->∀j u,xs[j]?=some u->w.cell? (b.add j)=some u:=by
    intro b hb j u hu
    have hpos:0<n:=by
     rcases Nat.eq_zero_or_pos n with h0 |h0
     ·subst h0
      have:=List.eq_nil_of_length_eq_zero (by simpa using hlx)
      subst this
      cases hu
     ·exact h0
    obtain⟨b',o',hab,_,_,hc⟩:=hs.at_ hpos
    simp only at hab
    rw[hb]at hab
    obtain rfl:=Option.some.inj hab
    rw[zgn];exact hc j u hu
   have fin: ∀(c:Nat),n+m<=c->c<=maxLen->∀(cur:Array Value),cur.size=c*size->cur.toList.take ((n+m)*size)=xs++news->
     Ow (w.drew.alloc (.cells cur e)) base e size (.slice (some ⟨w.heap.size,0,none⟩) (n+m) c) (n+m) (xs++news) (some w.heap.size):=λc hc hcm cur hcs htk=>
    ⟨by rw[List.length_append,hlx,hsrc.1,Nat.add_mul], .inr ⟨w.heap.size,c,cur,rfl,rfl,hbase,heap_alloc_new w.drew _,hc,hcm,hcs,htk⟩⟩
   have gr: ∀(cur:Array Value),w.grownBy (w.drew.alloc (.cells cur e)) none:=λcur=>⟨rfl,rfl,rfl,by simp,λk hk _=>Below.heap_alloc w.drew _ k hk⟩
   cases a with
   |none=>
    have h0:n=0:=by
     rcases Nat.eq_zero_or_pos n with h0 |h0
     ·exact h0
     ·obtain⟨_,_,hab,_⟩:=hs.at_ h0;cases hab
    subst h0
    have hx:xs=[]:=List.eq_nil_of_length_eq_zero (by simpa using hlx)
    subst hx
    have hr:=run_append_nil (P:=P) w t ty e i z ht hi hz ⟨qb,qo,none⟩ m q.c news (by rw[hsize];exact hsrc.1) hnews hm (by omega) (by rw[hby];rw[Nat.zero_add]at hbytes;omega)
    have hge:=grownCap_ge w m 0 e
    have hcm:=grownCap_le_maxLen w m 0 e (by omega)
    refine⟨_,_,_,_,by rw[Nat.zero_add];exact hr,?_,gr _, .inr rfl⟩
    refine fin _ (by omega) hcm _ ?_ ?_
    ·simp only[Array.size_append,List.size_toArray,size_zeroCells,hzs,hsrc.1,<-Nat.add_mul]
     congr 1;omega
    ·simp only[Array.toList_append,Nat.zero_add,List.nil_append]
     rw[<-hsrc.1]
     exact List.take_left
   |some b=>
    have hr:=run_append_grow (P:=P) w t ty e i z ht hi hz b n n xs (by rw[hsize];exact hlx) (olds b rfl) ⟨qb,qo,none⟩ m q.c news (by rw[hsize];exact hsrc.1) hnews (by omega) (by omega) (growslice_fits (by omega) (by rw[hby];exact hbytes))
    have hge:=grownCap_ge w (n+m) n e
    have hcm:=grownCap_le_maxLen w (n+m) n e h63
    refine⟨_,_,_,_,hr,?_,gr _, .inr rfl⟩
    refine fin _ hge hcm _ ?_ ?_
    ·simp only[Array.size_append,List.size_toArray,size_zeroCells,hzs,hsrc.1,hlx,<-Nat.add_mul]
     congr 1;omega
    ·simp only[Array.toList_append,List.append_assoc]
     rw[<-List.append_assoc,show(n+m)*size=(xs++news).length by rw[List.length_append,hlx,hsrc.1,Nat.add_mul]]
     exact List.take_left
  ·have ho:w.ownsRow base e size (.slice (some ⟨b,0,none⟩) n cap) n xs:=⟨hlx, .inr ⟨b,cap,cur,rfl,hb,hh,hnc,hcm,hcs,htk⟩⟩
   obtain⟨g',cap',w',hr,ho',hgr,hat,_⟩:=run_append_lies (P:=P) w t ty base e i z size bytes ht hi hz hsize hby hzs hsz _ n xs ho ⟨qb,qo,none⟩ m q.c news hsrc.1 hnews h1 hm h63 hbytes hbase w.heap.size rfl
   rw[hv]
   refine⟨_,_,some g',w',hr,?_,hgr,?_⟩
   ·obtain⟨hl,h2⟩:=ho'
    refine⟨hl, .inr ?_⟩
    rcases h2 with⟨h2,_⟩ |⟨b2,cap2,cur2,hv2,r⟩
    ·cases h2
    ·injection hv2 with e1 _ e3
     injection e1 with e1
     injection e1 with e1
     subst e1;subst e3
     exact⟨g',cap',cur2,rfl,rfl,r⟩
   ·rcases hat with hat |hat
    ·left;simpa[Value.ownBlock]using hat.symm
    ·right;rw[hat]
theorem znp{ops:Array Oper}{rest:List Oper}{o:Oper}{a:Act}{Q:Exit->Act->World->Prop}(hgd:o.guard=none)(s x:Operand)(t:TypeId)
  (ho:o.op= .call {callee:= .builtin .append,args:= #[s,x],argTypes:= #[t,t]})
  (base:Nat) (e:TypeId) (i:TypeInfo) (z:Value) (size bytes:Nat) (ht:P.underlying t=some (.slice e)) (hi:P.info? e=some i) (hz:i.zero=some z)
  (hsize:i.size=size) (hby:i.bytes=bytes) (hzs:z.cells.size=size) (hsz:0<size)
  (v:Value) (n:Nat) (xs:List Value) (g:Option Nat) (hs:a.eval s=v) (hown:Ow w base e size v n xs g)
  (qa:Option Addr) (m qc:Nat) (news:List Value) {S:Nat->Prop} (hx:a.eval x= .slice qa m qc) (hsrc:Sl w S size ⟨qa,qc⟩ m news) (h1: ∀u∈news,u.oneCell'=true)
  (h63:n+m<=maxLen) (hbytes:(n+m)*bytes<=140737488355328) (hbase:base<=w.heap.size)
  (h: ∀a' c' g' w',Ow w' base e size (.slice a' (n+m) c') (n+m) (xs++news) g'->w.grownBy w' g->(g'=g\/g'=some w.heap.size)->wpList P ops Q rest (a.put o.dst (.slice a' (n+m) c')) w'):
  wpList P ops Q (o::rest) a w:=by
 obtain⟨a',c',g',w',hr,h2,h3,h4⟩:=z5m (P:=P) w base t o.type e i z size bytes ht hi hz hsize hby hzs hsz v n xs g hown ⟨qa,qc⟩ m news hsrc h1 h63 hbytes hbase
 refine wpList_plain hgd λK hK=>?_
 unfold Oper.wp execOp
 simp only[ho,resolve,invoke,builtin,Sem.run_bind,Sem.run_pure,Result.andThen_ok,List.map_toArray,List.map_cons,List.map_nil,hs,hx,hr]
 exact hK _ _ (h a' c' g' w' h2 h3 h4)
end
theorem zw6(l:List UInt8): ∀u∈l.map bv,u.oneCell'=true:=by
 intro u hu
 obtain⟨_,_,rfl⟩:=List.mem_map.1 hu
 rfl
theorem z7t(l:List Int): ∀u∈l.map iv,u.oneCell'=true:=by
 intro u hu
 obtain⟨_,_,rfl⟩:=List.mem_map.1 hu
 rfl
def Ret(w:World)(Post:World->Value->Prop)(e:Ending)(w':World):Prop:=∃v,e= .returned v/\Ext w w'/\Post w' v
def ztl(p:Prop):Prop:=p
theorem zdm{p:Prop}(h:ztl p):p:=h
theorem zdg{p:Prop}(h:p):ztl p:=h
end
end Go.Proofs.YtebhngeddnnpkaaGreat

namespace Go.Proofs.YtebhngeddnnpkaaGreat.Sx
open Go.RowKit
set_option linter.unusedVariables false
section
section
variable {P:Program} {w w':World} {k:Kp} {v:Value}
theorem zbh{f:FuncId}{args:List RV}{res:Res}(hk:zh3 P f)(h: ∀w k vs,RV.partsAt w k args vs->Calls P f vs.toArray w (Ret w λw' v=>∃k':Kp,(∀b,b<w.heap.size->k' b=k b)/\res.at_ w.heap.size w' k' v)):zab P f args res:=
 ⟨hk,λw k vs hp=>(h w k vs hp).mono λ_ _ ⟨v,he,hx,hr⟩=>⟨v,he,hx,hr⟩⟩
theorem zgv{f:FuncId}{args:List RV}{r:RV}{us:List Value}{u:Value}(hk:zh3 P f)(ha: ∀w k vs,RV.partsAt w k args vs->vs=us)(hr: ∀w k,r.at_ w k u)(h: ∀w,Calls P f us.toArray w λe w'=>e= .returned u/\w=w'):zab P f args (.r r):=
 zbh hk λw k vs hp=>by
  rw[ha w k vs hp]
  exact(h w).mono λ_ _ ⟨he,hw⟩=>⟨u,he,hw▸Below.refl _ _,k,λ_ _=>rfl,hr _ _⟩
section
variable {α:Type} {f:α->RV} {g:α->Value}
theorem z3e(hfg: ∀x w k v,(f x).at_ w k v↔v=g x){l:List α}(h:(RV.sl 1 l.length (l.map f)).at_ w k v): ∃p:AC,v= .slice p.a l.length p.c/\Sl w (λ_=>True) 1 p l.length (l.map g):=by
 simp only[RV.at_]at h
 obtain⟨a,c,rfl,h1,h2,h3,h4⟩:=h
 refine⟨⟨a,c⟩,rfl,by simp,h1,h2,λhn=>?_⟩
 obtain⟨b,o,e,hb,hc⟩:=h4 hn
 refine⟨b,o,e,trivial,hb,λj u hu=>?_⟩
 rw[RV.cellsAt_iff]at hc
 simp only[List.getElem?_map,Option.map_eq_some_iff]at hu
 obtain⟨x,hx,rfl⟩:=hu
 obtain⟨_,u,hu,_,hf⟩:=hc j (f x) (by simp[hx])
 rw[hu,(hfg x w k u).1 hf]
end
theorem zc5{l:List UInt8}(h:(bs l).at_ w k v): ∃p:AC,v= .slice p.a l.length p.c/\By w (λ_=>True) p l:=z3e (f:=U8) (g:=bv) (λx w k v=>by simp[RV.at_]) h
theorem z9n{l:List Int}(hl: ∀x∈l,i64 x)(h:(is l).at_ w k v): ∃p:AC,v= .slice p.a l.length p.c/\Is w (λ_=>True) p l:=by
 obtain⟨p,h1,h2⟩:=z3e (f:=I) (g:=iv) (λx w k v=>by simp[RV.at_]) h
 exact⟨p,h1,h2,hl⟩
def bch(l:List UInt8):Res:= .ch 5 1 l.length (l.map U8)
def ich(l:List Int):Res:= .ch 3 1 l.length (l.map I)
theorem zf9{α:Type}{f:α->RV}{g:α->Value}(hfg: ∀x w k v,(f x).at_ w k v↔v=g x)(h1: ∀x,(g x).oneCell'=true): ∀l:List α,RV.listAt w k (l.map f) (l.map g)
 |[]=>by simp[RV.listAt]
 |x::r=>by
  simp only[List.map_cons,RV.listAt]
  exact⟨_,_,rfl,h1 x,(hfg _ _ _ _).2 rfl,zf9 hfg h1 r⟩
theorem z29{α:Type}{f:α->RV}{g:α->Value}(hfg: ∀x w k v,(f x).at_ w k v↔v=g x)(h1: ∀x,(g x).oneCell'=true){e:TypeId}{l:List α}{base:Nat}{o:Option Nat}(h:Go.Proofs.YtebhngeddnnpkaaGreat.Ow w' base e 1 v l.length (l.map g) o):
  ∃k':Kp,(∀b,b<base->k' b=k b)/\(Res.ch e 1 l.length (l.map f)).at_ base w' k' v:=by
 obtain⟨_,h⟩:=h
 rcases h with⟨_,a,rfl,hs⟩ |⟨b,cap,cur,_,rfl,hb,hh,hnc,hcm,hcs,ht⟩
 ·rcases Nat.eq_zero_or_pos l.length with h0 |hpos
  ·refine⟨k,λ_ _=>rfl,none,⟨by simp, .inl ⟨rfl, .inl ⟨h0,a,by rw[h0]⟩⟩⟩,λb hb=>by cases hb⟩
  ·obtain⟨b,o',e',hb,hlt,hc⟩:=Sl.at_ hs hpos
   simp only at e'
   subst e'
   refine⟨λx=>if x<base then k x else o'+l.length,λx hx=>by simp[hx],none,⟨by simp, .inl ⟨rfl, .inr ⟨hpos,rfl,b,o',rfl,hs.2.2.1,hlt,?_⟩⟩⟩,λb hb=>by cases hb⟩
   rw[RV.cellsAt_iff]
   intro j q hq
   simp only[List.getElem?_map,Option.map_eq_some_iff]at hq
   obtain⟨x,hx,rfl⟩:=hq
   have hj:=(List.getElem?_eq_some_iff.1 hx).1
   exact⟨by rw[if_neg (by omega)];omega,g x,hc j (g x) (by simp[hx]),h1 x,(hfg _ _ _ _).2 rfl⟩
 ·refine⟨λx=>if x<base then k x else l.length,λx hx=>by simp[hx],some b,⟨by simp, .inr ⟨b,cap,cur,rfl,rfl,hh,hnc,hcm,Nat.le_of_eq hcs.symm,by simp only[if_neg (show¬b<base by omega)];simp,?_⟩⟩,λb' hb'=>by cases hb';exact hb⟩
  rw[ht]
  exact zf9 hfg h1 l
theorem zd9{l:List UInt8}{base:Nat}{o:Option Nat}(h:Go.Proofs.YtebhngeddnnpkaaGreat.Ow w' base 5 1 v l.length (l.map bv) o): ∃k':Kp,(∀b,b<base->k' b=k b)/\(bch l).at_ base w' k' v:=
 z29 (f:=U8) (λx w k v=>by simp[RV.at_]) (λ_=>rfl) h
theorem z7s{l:List Int}{base:Nat}{o:Option Nat}(h:Go.Proofs.YtebhngeddnnpkaaGreat.Ow w' base 3 1 v l.length (l.map iv) o): ∃k':Kp,(∀b,b<base->k' b=k b)/\(ich l).at_ base w' k' v:=
 z29 (f:=I) (λx w k v=>by simp[RV.at_]) (λ_=>rfl) h
theorem za0{f:FuncId}{fn:Func}{c:Code}(hf:P.funcs[f]?=some fn)(hb:fn.body=some c)(hn:(!(fn.name== "runtime.NumGoroutine"))=true):zh3 P f:=
 ⟨fn,c,hf,hb,by simpa using hn⟩
theorem zef{x:RV}{vs:List Value}(h:RV.partsAt w k [x] vs): ∃a,vs=[a]/\x.at_ w k a:=by
 simp only[RV.partsAt]at h
 obtain⟨u,r,rfl,h1,rfl⟩:=h
 exact⟨u,rfl,h1⟩
theorem zeg{x y:RV}{vs:List Value}(h:RV.partsAt w k [x,y] vs): ∃a b,vs=[a,b]/\x.at_ w k a/\y.at_ w k b:=by
 simp only[RV.partsAt]at h
 obtain⟨u,r,rfl,h1,u',r',rfl,h2,rfl⟩:=h
 exact⟨u,u',rfl,h1,h2⟩
theorem zy3{x y z:RV}{vs:List Value}(h:RV.partsAt w k [x,y,z] vs): ∃a b c,vs=[a,b,c]/\x.at_ w k a/\y.at_ w k b/\z.at_ w k c:=by
 simp only[RV.partsAt]at h
 obtain⟨u,r,rfl,h1,u',r',rfl,h2,u2,r2,rfl,h3,rfl⟩:=h
 exact⟨u,u',u2,rfl,h1,h2,h3⟩
theorem zp9{a:Int}{w:World}{k:Kp}{vs:List Value}(h:RV.partsAt w k [I a] vs):vs=[.int .i64 a]:=by
 obtain⟨u,rfl,h1⟩:=zef h
 simp only[RV.at_]at h1
 rw[h1]
theorem z9m{a b:Int}{w:World}{k:Kp}{vs:List Value}(h:RV.partsAt w k [I a,I b] vs):vs=[.int .i64 a, .int .i64 b]:=by
 obtain⟨u,u',rfl,h1,h2⟩:=zeg h
 simp only[RV.at_]at h1 h2
 rw[h1,h2]
end
end
section
abbrev C2(a b:Int):RV:= .x (.complex .f64 (fl a) (fl b))
abbrev F1(a:Int):RV:= .x (.float .f64 (fl a))
end
end Go.Proofs.YtebhngeddnnpkaaGreat.Sx

namespace Go.Proofs.YtebhngeddnnpkaaGreat
open Go.RowKit
set_option linter.unusedVariables false
section
theorem zbs{a b:Int}(h:a=b):Ending.returned (.int .i64 a)= .returned (.int .i64 b):=by rw[h]
theorem zdk{a b:Bool}(h:a=b):Ending.returned (.bool a)= .returned (.bool b):=by rw[h]
theorem Tryz.infoInt:(Tryz.prog.info? 3).map (λi=>(i.zero,i.size,i.bytes))=some (some (.int .i64 0),1,8):=by kernel_rfl
theorem Tryz.infoU8:(Tryz.prog.info? 5).map (λi=>(i.zero,i.size,i.bytes))=some (some (.int .u8 0),1,1):=by kernel_rfl
def OwI(w':World)(base:Nat)(v:Value)(l:List Int)(g:Option Nat):Prop:=Ow w' base 3 1 v l.length (l.map iv) g
def OwB(w':World)(base:Nat)(v:Value)(l:List UInt8)(g:Option Nat):Prop:=Ow w' base 5 1 v l.length (l.map bv) g
section
variable {w w':World} {base:Nat} {v:Value} {l:List Int} {m:List UInt8} {g:Option Nat}
theorem OwB.nil(w:World)(base:Nat):OwB w base (.slice none 0 0) [] none:=Ow.nil _ _ _ _
theorem OwB.ext(h:OwB w base v m g)(k:Ext w w'):OwB w' base v m g:=Ow.ext h k
theorem OwB.alloc(h:OwB w base v m g)(o:Obj):OwB (w.alloc o) base v m g:=Ow.ext h (zaz _ _)
theorem OwB.form(h:OwB w base v m g): ∃a c,v= .slice a m.length c:=by obtain⟨p,e,_⟩:=Ow.sl h;exact⟨p.a,p.c,e⟩
theorem OwB.by_(h:OwB w base v m g): ∃p:AC,v= .slice p.a m.length p.c/\By w (base<= ·) p m:=Ow.sl h
theorem OwB.base_mono{b:Nat}(h:OwB w base v m g)(hb:b<=base):OwB w b v m g:=Ow.base_mono h hb
end
theorem Ow.grown{w w' a:World}{base:Nat}{e:TypeId}{sz n:Nat}{v:Value}{xs:List Value}{g:Option Nat}(h:Ow w base e sz v n xs g)(hg:w.grownBy w' g)(ha:Ext a w)(hb:a.heap.size<=base):Ext a w':=
 ha.grown hg λk hk=>Nat.le_trans hb (h.lt k hk).1
theorem OwB.grown{w w' a:World}{base:Nat}{v:Value}{l:List UInt8}{g:Option Nat}(h:OwB w base v l g)(hg:w.grownBy w' g)(ha:Ext a w)(hb:a.heap.size<=base):Ext a w':=Ow.grown h hg ha hb
theorem Sl.block{w:World}{b:Nat}{cs:Array Value}{t:TypeId}{fr:Nat×Nat}{sz n c:Nat}{S:Nat->Prop}(hb:w.heap[b]?=some (.cells cs t fr))(hs:S b)(hn:cs.size=n*sz)(hc:n<=c)(hm:c<=maxLen):
  Sl w S sz ⟨some ⟨b,0,none⟩,c⟩ n cs.toList:=
 ⟨by simpa using hn,hc,hm,λ_=>⟨b,0,rfl,hs,(Array.getElem?_eq_some_iff.1 hb).1,λj u hu=>by
  rw[Nat.zero_add,cell_of_row w b j cs t fr hb];simpa using hu⟩⟩
section
variable {w:World} {ops:Array Oper} {rest:List Oper} {o:Oper} {a:Act} {Q:Exit->Act->World->Prop}
theorem zti(hgd:o.guard=none)(s x:Operand)(ho:o.op= .call {callee:= .builtin .append,args:= #[s,x],argTypes:= #[49,49]})
  {base:Nat} {v:Value} {l:List Int} {g:Option Nat} (hs:a.eval s=v) (hown:OwI w base v l g)
  {qa:Option Addr} {qc m:Nat} {l2:List Int} {S:Nat->Prop} (hx:a.eval x= .slice qa m qc) (hm:m=l2.length) (hsrc:Sl w S 1 ⟨qa,qc⟩ l2.length (l2.map iv))
  (hsmall:l.length+l2.length<=8796093022208) (hbase:base<=w.heap.size)
  (h: ∀a' c' g' w',OwI w' base (.slice a' (l.length+m) c') (l++l2) g'->w.grownBy w' g->(g'=g\/g'=some w.heap.size)->wpList Tryz.prog ops Q rest (a.put o.dst (.slice a' (l.length+m) c')) w'):
  wpList Tryz.prog ops Q (o::rest) a w:=by
 subst hm
 obtain⟨i0,hi,hz0,hz1,hz2⟩:=info_parts Tryz.infoInt
 refine znp w hgd s x 49 ho base 3 i0 (.int .i64 0) 1 8 Tryz.underlying49 hi hz0 hz1 hz2 rfl (by decide) v l.length (l.map iv) g hs hown qa l2.length qc (l2.map iv) hx hsrc (z7t _) (by simp only[maxLen];omega) (by omega) hbase ?_
 intro a' c' g' w' h1 h2 h3
 refine h a' c' g' w' ?_ h2 h3
 unfold OwI
 rw[List.length_append,List.map_append]
 exact h1
theorem zbi(hgd:o.guard=none)(s x:Operand)(ho:o.op= .call {callee:= .builtin .append,args:= #[s,x],argTypes:= #[22,22]})
  {base:Nat} {v:Value} {l:List UInt8} {g:Option Nat} (hs:a.eval s=v) (hown:OwB w base v l g)
  {qa:Option Addr} {qc m:Nat} {l2:List UInt8} {S:Nat->Prop} (hx:a.eval x= .slice qa m qc) (hm:m=l2.length) (hsrc:Sl w S 1 ⟨qa,qc⟩ l2.length (l2.map bv))
  (hsmall:l.length+l2.length<=8796093022208) (hbase:base<=w.heap.size)
  (h: ∀a' c' g' w',OwB w' base (.slice a' (l.length+m) c') (l++l2) g'->w.grownBy w' g->(g'=g\/g'=some w.heap.size)->wpList Tryz.prog ops Q rest (a.put o.dst (.slice a' (l.length+m) c')) w'):
  wpList Tryz.prog ops Q (o::rest) a w:=by
 subst hm
 obtain⟨i0,hi,hz0,hz1,hz2⟩:=info_parts Tryz.infoU8
 refine znp w hgd s x 22 ho base 5 i0 (.int .u8 0) 1 1 Tryz.underlying22 hi hz0 hz1 hz2 rfl (by decide) v l.length (l.map bv) g hs hown qa l2.length qc (l2.map bv) hx hsrc (zw6 _) (by simp only[maxLen];omega) (by omega) hbase ?_
 intro a' c' g' w' h1 h2 h3
 refine h a' c' g' w' ?_ h2 h3
 unfold OwB
 rw[List.length_append,List.map_append]
 exact h1
end
theorem z8r(w:World)(y:UInt8)(e:TypeId):Sl (w.alloc (.cells #[.int .u8 y.toNat] e)) (λ_=>True) 1 ⟨some ⟨w.heap.size,0,none⟩,1⟩ [y].length ([y].map bv):=
 Sl.block (heap_alloc_new w _) trivial rfl (Nat.le_refl _) (by decide)
end
section
def lvF:Nat->Nat->Nat
 |0,_=>0
 |f+1,x=>if x%2=1 then lvF f (x/2)+1 else 0
def lv(x:Nat):Nat:=lvF 17 x
def nd(h k:Nat):Nat:=k*2^(h+1)+2^h-1
theorem za4(n:Nat):0<2^n:=Nat.pow_pos (by omega)
theorem zyt: ∀(f x:Nat),x<2^f-1->lvF f x<f/\x%2^(lvF f x)=2^(lvF f x)-1/\x/2^(lvF f x)%2=0
 |0,x,h=>by simp at h
 |f+1,x,h=>by
  have hp:=za4 f
  have e:2^(f+1)=2*2^f:=by rw[Nat.pow_succ];omega
  unfold lvF
  by_cases hx:x%2=1
  ·rw[if_pos hx]
   have ih:=zyt f (x/2) (by omega)
   generalize lvF f (x/2)=l at ih
   have hl:=za4 l
   refine⟨by omega,?_,?_⟩
   ·rw[Nat.pow_succ,Nat.mul_comm,Nat.mod_mul,ih.2.1];omega
   ·rw[Nat.pow_succ,Nat.mul_comm,<-Nat.div_div_eq_div_mul];exact ih.2.2
  ·rw[if_neg hx]
   refine⟨by omega,by simp;omega,by simp;omega⟩
theorem zgk{x:Nat}(h:x<=131070):lv x<=16/\x%2^(lv x)=2^(lv x)-1/\x/2^(lv x)%2=0:=by
 have:=zyt 17 x (by omega)
 exact⟨by unfold lv;omega,this.2⟩
theorem z9r{x:Nat}(h:x<=131070):x=nd (lv x) (x/2^(lv x+1)):=by
 obtain⟨_,h1,h2⟩:=zgk h
 generalize lv x=l at*
 have hp:=za4 l
 unfold nd
 have e1:x/2^(l+1)=x/2^l/2:=by rw[Nat.pow_succ,Nat.div_div_eq_div_mul]
 have e2:=Nat.div_add_mod x (2^l)
 have e3:=Nat.div_add_mod (x/2^l) 2
 rw[e1]
 rw[h1]at e2
 rw[h2]at e3
 generalize x/2^l/2=k at*
 have e4:k*2^(l+1)=2^l*(2*k):=by rw[Nat.pow_succ,Nat.mul_comm (2^l) 2,<-Nat.mul_assoc,Nat.mul_comm,Nat.mul_comm k 2]
 rw[e4]
 have e5:2*k=x/2^l:=by omega
 rw[e5]
 omega
theorem zyu: ∀(f h k:Nat),h<f->lvF f (nd h k)=h
 |0,h,k,hh=>by omega
 |f+1,0,k,_=>by unfold lvF nd;simp
 |f+1,h+1,k,hh=>by
  have hp:=za4 h
  have e:nd (h+1) k=2*nd h k+1:=by
   unfold nd
   rw[Nat.pow_succ 2 (h+1),Nat.pow_succ 2 h,<-Nat.mul_assoc]
   omega
  unfold lvF
  rw[e,if_pos (by omega),show(2*nd h k+1)/2=nd h k by omega,zyu f h k (by omega)]
theorem z9p{h k:Nat}(hh:h<=16):lv (nd h k)=h:=zyu 17 h k (by omega)
theorem z5a(h k:Nat):nd (h+1) k=2*nd h k+1:=by
 have hp:=za4 h
 unfold nd
 rw[Nat.pow_succ 2 (h+1),Nat.pow_succ 2 h,<-Nat.mul_assoc]
 omega
theorem z5b(k:Nat):nd 0 k=2*k:=by unfold nd;simp;omega
def fitsL:List Int:=[1,2,4,8,16,32,64,128,256,512,1024,2048,4096,8192,16384,32768,65536]
def zc6(n:Int):Bool:=fitsL.contains n
theorem zln{n:Int}(h:zc6 n=true): ∃d,d<=16/\n=((2^d:Nat):Int):=by
 unfold zc6 fitsL at h
 simp at h
 rcases h with h |h |h |h |h |h |h |h |h |h |h |h |h |h |h |h |h
 ·exact⟨0,by omega,by simpa using h⟩
 ·exact⟨1,by omega,by simpa using h⟩
 ·exact⟨2,by omega,by simpa using h⟩
 ·exact⟨3,by omega,by simpa using h⟩
 ·exact⟨4,by omega,by simpa using h⟩
 ·exact⟨5,by omega,by simpa using h⟩
 ·exact⟨6,by omega,by simpa using h⟩
 ·exact⟨7,by omega,by simpa using h⟩
 ·exact⟨8,by omega,by simpa using h⟩
 ·exact⟨9,by omega,by simpa using h⟩
 ·exact⟨10,by omega,by simpa using h⟩
 ·exact⟨11,by omega,by simpa using h⟩
 ·exact⟨12,by omega,by simpa using h⟩
 ·exact⟨13,by omega,by simpa using h⟩
 ·exact⟨14,by omega,by simpa using h⟩
 ·exact⟨15,by omega,by simpa using h⟩
 ·exact⟨16,by omega,by simpa using h⟩
theorem zr1: ∀d,d<=16->zc6 ((2^d:Nat):Int)=true:=by decide+kernel
theorem znx{n:Int}(h:zc6 n=true):1<=n/\n<=65536:=by
 obtain⟨d,hd,rfl⟩:=zln h
 have h1:=za4 d
 have h2:2^d<=2^16:=Nat.pow_le_pow_right (by omega) hd
 omega
def zcj(x:Int):Bool:=decide (0<=x)&&decide (x<=131070)
theorem zer{x:Int}:zcj x=true↔0<=x/\x<=131070:=by simp[zcj]
def lvI(x:Int):Int:=if zcj x then(lv x.toNat:Int)else-1
def zb3(x:Int):Int:=if 0<lvI x then 2^(lvI x-1).toNat else 0
def zf8(x:Int):Int:=if zb3 x=0 then-1 else x-zb3 x
def ze5(x:Int):Int:=if zb3 x=0 then-1 else x+zb3 x
def ziv(n:Int):Int:=if zc6 n then n-1 else-1
def znm(y:Int):Int:=2^(lvI y).toNat-1
def zb8(x y:Int):Bool:=(zcj x&&zcj y)&&(decide (y-znm y<=x)&&decide (x<=y+znm y))
theorem zni{x y:Int}:zb8 x y=true↔(zcj x=true/\zcj y=true)/\y-znm y<=x/\x<=y+znm y:=by
 simp only[zb8,Bool.and_eq_true,decide_eq_true_eq]
theorem zsq(y:Int):znm y=2^(lvI y).toNat-1:=rfl
theorem zri(x:Int): -1<=lvI x/\lvI x<=16:=by
 unfold lvI
 split
 ·rename_i h
  rw[zer]at h
  have:=(zgk (x:=x.toNat) (by omega)).1
  omega
 ·omega
theorem zls{x:Int}(h:zcj x=true):lvI x=lv x.toNat:=by simp[lvI,h]
theorem zrj{x:Int}(h:zcj x=false):lvI x= -1:=by simp[lvI,h]
theorem z9q{h k d:Nat}(hd:h<=d):nd h k<=2*2^d-2↔k<2^(d-h):=by
 have hp:=za4 h
 have hq:=za4 (d-h)
 have e:2^d=2^h*2^(d-h):=by rw[<-Nat.pow_add];congr 1;omega
 unfold nd
 rw[e,Nat.pow_succ]
 generalize 2^h=q at*
 generalize 2^(d-h)=Q at*
 have e1:k*(q*2)=2*(q*k):=by rw[<-Nat.mul_assoc,Nat.mul_comm k q,Nat.mul_comm]
 rw[e1]
 constructor
 ·intro h1
  rcases Nat.lt_or_ge k Q with h2 |h2
  ·exact h2
  ·have:=Nat.mul_le_mul_left q h2
   have:q*1<=q*Q:=Nat.mul_le_mul_left q hq
   omega
 ·intro h1
  have:=Nat.mul_le_mul_left q (show k+1<=Q from h1)
  rw[Nat.mul_add]at this
  omega
theorem z48{d h k:Nat}(hd:d<=16)(hh:h<=d)(hk:k<2^(d-h)):nd h k<=131070:=by
 have:=(z9q hh).2 hk
 have h16:2^d<=2^16:=Nat.pow_le_pow_right (by omega) hd
 omega
theorem z1h{d h k:Nat}(hd:d<=16)(hh:h<=d)(hk:k<2^(d-h)):zcj (nd h k:Int)=true:=by
 have:=z48 hd hh hk
 rw[zer];omega
theorem z8e{d h k:Nat}(hd:d<=16)(hh:h<=d)(hk:k<2^(d-h)):lvI (nd h k:Int)=h:=by
 rw[zls (z1h hd hh hk),Int.toNat_natCast,z9p (by omega)]
theorem z49(d:Nat):(nd d 0:Int)=((2^d:Nat):Int)-1:=by
 have:=za4 d
 unfold nd;omega
end
section
def beB:Nat->Nat->List UInt8
 |0,_=>[]
 |s+1,n=>UInt8.ofNat (n/256^s)::beB s n
theorem zam: ∀(s n:Nat),(beB s n).length=s
 |0,_=>rfl
 |s+1,n=>by rw[beB,List.length_cons,zam s n]
def lenB(n:Nat):List UInt8:=if n<64 then beB 1 n else if n<16384 then beB 2 (16384+n)else beB 4 (2147483648+n)
def zci(n:Nat):Nat:=if n<64 then 1 else if n<16384 then 2 else 4
theorem zfh(n:Nat):(lenB n).length=zci n:=by
 unfold lenB zci
 split
 ·exact zam _ _
 ·split<;>exact zam _ _
theorem zgx(n:Nat):1<=zci n/\zci n<=4:=by unfold zci;split<;>(try split)<;>omega
def vecB(v:List UInt8):List UInt8:=lenB v.length++v
theorem zl7(v:List UInt8):(vecB v).length=zci v.length+v.length:=by rw[vecB,List.length_append,zfh]
theorem zaj(v:List UInt8):(vecB v).length<=v.length+4:=by rw[zl7];have:=zgx v.length;omega
theorem zi0(n:Nat):((UInt8.ofNat n).toNat:Int)=(n:Int)%256:=by rw[UInt8.toNat_ofNat'];omega
theorem zr0(i:Nat):2^(8*i)=256^i:=by rw[Nat.pow_mul]
end
section
theorem OwB.ofNew{w:World}{base:Nat}{l:List UInt8}{cs:Array Value}{n:Nat}(hb:base<=w.heap.size)(hcs:cs.toList=l.map bv)(hn:n=l.length)(hl:l.length<=1000000):
  OwB (w.alloc (.cells cs 5)) base (.slice (some ⟨w.heap.size,0,none⟩) n n) l (some w.heap.size):=by
 subst hn
 unfold OwB
 rw[<-hcs]
 exact Ow.made (by rw[<-Array.length_toList,hcs];simp) (by simp only[maxLen];omega) hb
theorem OwI.ofNew{w:World}{base:Nat}{l:List Int}{cs:Array Value}{n:Nat}(hb:base<=w.heap.size)(hcs:cs.toList=l.map iv)(hn:n=l.length)(hl:l.length<=1000000):
  OwI (w.alloc (.cells cs 3)) base (.slice (some ⟨w.heap.size,0,none⟩) n n) l (some w.heap.size):=by
 subst hn
 unfold OwI
 rw[<-hcs]
 exact Ow.made (by rw[<-Array.length_toList,hcs];simp) (by simp only[maxLen];omega) hb
theorem By.none_nil{w:World}{S:Nat->Prop}{c:Nat}{l:List UInt8}(h:By w S ⟨none,c⟩ l):l=[]:=by
 rcases Nat.eq_zero_or_pos l.length with h0 |h0
 ·exact List.eq_nil_of_length_eq_zero h0
 ·obtain⟨_,_,e,_⟩:=Sl.at_ h h0;cases e
theorem Is.none_nil{w:World}{S:Nat->Prop}{c:Nat}{l:List Int}(h:Is w S ⟨none,c⟩ l):l=[]:=by
 rcases Nat.eq_zero_or_pos l.length with h0 |h0
 ·exact List.eq_nil_of_length_eq_zero h0
 ·obtain⟨_,_,e,_⟩:=Sl.at_ h.1 h0;cases e
theorem zf3(p:AC)(l:List UInt8){S:Nat->Prop}(w:World)(hp:By w S p l)(hl:l.length<=8000000000000):
  Calls Tryz.prog 207 #[.slice p.a l.length p.c] w (Ret w λw' v=>∃g,OwB w' w.heap.size v l g):=by
 have hq: ∀w (a:Option Addr) (n c:Nat),(binOp .eql 22 (.slice a n c) (.slice none 0 0)).run Tryz.prog w= .ok (.bool a.isNone) w:=λw a n c=>Lib.run_eql_slice_nil w _ _ a n c 0 0 Tryz.underlying22
 obtain⟨a,c⟩:=p
 cases a with
 |none=>
  have hn:=hp.none_nil
  subst hn
  go_enter Tryz.func207,Tryz.ntmps207
  go_wp2_with fail
  go_ret
  exact⟨_,rfl,(by(repeat (first |exact Ext.refl _ |refine Ext.drew ?_ |refine Ext.drewN ?_ _ |refine Ext.alloc ?_ _ |(refine Ext.setCell ?_ (by first |omega |(simp;done) |(simp;omega)) _) |refine Ext.trans ?_ (by assumption)))),none,Ow.nil _ _ _ _⟩
 |some ad=>
  go_enter Tryz.func207,Tryz.ntmps207
  go_wp2_with (first |(at_builtin;refine zdm ?_))
  refine zdg (zbi rfl (.tmp 5) (.tmp 6) rfl rfl (OwB.ofNew (l:=[]) (Nat.le_refl _) rfl rfl (by decide)) rfl rfl (id ((hp.ext (zaz _ _)))) ?_ ?_ ?_)
  ·simp;omega
  ·simp
  intro a' c' g' w' r1 r2 r3
  have r4:=Ext.grown (zaz _ _) r2 (λk hk=>by cases hk;simp)
  rw[List.nil_append]at r1
  go_wp2_with fail
  go_ret
  exact⟨_,rfl,r4,g',by simpa using r1⟩
theorem zmc(p:AC)(l:List UInt8){S:Nat->Prop}(w:World)(hp:By w S p l)(hl:l.length<=8000000000000):
  Calls Tryz.prog 53 #[.slice p.a l.length p.c] w (Ret w λw' v=>∃g,OwB w' w.heap.size v l g):=by
 have hq: ∀w (a:Option Addr) (n c:Nat),(binOp .eql 22 (.slice a n c) (.slice none 0 0)).run Tryz.prog w= .ok (.bool a.isNone) w:=λw a n c=>Lib.run_eql_slice_nil w _ _ a n c 0 0 Tryz.underlying22
 obtain⟨a,c⟩:=p
 cases a with
 |none=>
  have hn:=hp.none_nil
  subst hn
  go_enter Tryz.func53,Tryz.ntmps53
  go_wp2_with fail
  go_ret
  exact⟨_,rfl,(by(repeat (first |exact Ext.refl _ |refine Ext.drew ?_ |refine Ext.drewN ?_ _ |refine Ext.alloc ?_ _ |(refine Ext.setCell ?_ (by first |omega |(simp;done) |(simp;omega)) _) |refine Ext.trans ?_ (by assumption)))),none,Ow.nil _ _ _ _⟩
 |some ad=>
  go_enter Tryz.func53,Tryz.ntmps53
  go_wp2_with (first |(at_builtin;refine zdm ?_))
  refine zdg (zbi rfl (.tmp 5) (.tmp 6) rfl rfl (OwB.ofNew (l:=[]) (Nat.le_refl _) rfl rfl (by decide)) rfl rfl (id ((hp.ext (zaz _ _)))) ?_ ?_ ?_)
  ·simp;omega
  ·simp
  intro a' c' g' w' r1 r2 r3
  have r4:=Ext.grown (zaz _ _) r2 (λk hk=>by cases hk;simp)
  rw[List.nil_append]at r1
  go_wp2_with fail
  go_ret
  exact⟨_,rfl,r4,g',by simpa using r1⟩
theorem zu4(p:AC)(l:List Int){S:Nat->Prop}(w:World)(hp:Is w S p l)(hl:l.length<=8000000000000):
  Calls Tryz.prog 317 #[.slice p.a l.length p.c] w (Ret w λw' v=>∃g,OwI w' w.heap.size v l g):=by
 have hq: ∀w (a:Option Addr) (n c:Nat),(binOp .eql 49 (.slice a n c) (.slice none 0 0)).run Tryz.prog w= .ok (.bool a.isNone) w:=λw a n c=>Lib.run_eql_slice_nil w _ _ a n c 0 0 Tryz.underlying49
 obtain⟨a,c⟩:=p
 cases a with
 |none=>
  have hn:=hp.none_nil
  subst hn
  go_enter Tryz.func317,Tryz.ntmps317
  go_wp2_with fail
  go_ret
  exact⟨_,rfl,(by(repeat (first |exact Ext.refl _ |refine Ext.drew ?_ |refine Ext.drewN ?_ _ |refine Ext.alloc ?_ _ |(refine Ext.setCell ?_ (by first |omega |(simp;done) |(simp;omega)) _) |refine Ext.trans ?_ (by assumption)))),none,Ow.nil _ _ _ _⟩
 |some ad=>
  go_enter Tryz.func317,Tryz.ntmps317
  go_wp2_with (first |(at_builtin;refine zdm ?_))
  refine zdg (zti rfl (.tmp 5) (.tmp 6) rfl rfl (OwI.ofNew (l:=[]) (Nat.le_refl _) rfl rfl (by decide)) rfl rfl (And.left ((hp.ext (zaz _ _)))) ?_ ?_ ?_)
  ·simp;omega
  ·simp
  intro a' c' g' w' r1 r2 r3
  have r4:=Ext.grown (zaz _ _) r2 (λk hk=>by cases hk;simp)
  rw[List.nil_append]at r1
  go_wp2_with fail
  go_ret
  exact⟨_,rfl,r4,g',by simpa using r1⟩
end
end Go.Proofs.YtebhngeddnnpkaaGreat
