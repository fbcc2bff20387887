import Derived.WalkKit
import Derived.WalkSpells
import Derived.WalkLawsBesides
import Derived.Lib.Hide
import Derived.Deep.Draws
import Derived.Deep.AppendLies
import Derived.Test.YtpdllgbfemnemaaGreatProg
namespace Go.Proofs.YtpdllgbfemnemaaGreat
open Go.RowKit
set_option linter.unusedVariables false
section
def Ext(w w':World):Prop:=Below w.heap.size w w'
theorem Ext.refl(w:World):Ext w w:=Below.refl _ _
theorem Ext.trans{a b c:World}(h:Ext a b)(k:Ext b c):Ext a c:=Below.trans h (Below.mono k h.size)
theorem Ext.alloc{a w:World}(h:Ext a w)(o:Obj):Ext a (w.alloc o):=Below.alloc h h.size o
theorem Ext.drew{a w:World}(h:Ext a w):Ext a w.drew:=Below.drew h
theorem Ext.drewN{a w:World}(h:Ext a w)(n:Nat):Ext a (w.drewN n):=⟨h.os,h.tape,h.output,h.size,h.block⟩
theorem Ext.setCell{a w:World}(h:Ext a w){p:Addr}(hp:a.heap.size<=p.block)(u:Value):Ext a (w.setCell p u):=Below.setCell h hp u
theorem Ext.le{a w:World}(h:Ext a w):a.heap.size<=w.heap.size:=h.size
theorem Ext.grown{a w w':World}{g:Option Nat}(h:Ext a w)(hg:w.grownBy w' g)(hr: ∀k,g=some k->a.heap.size<=k):Ext a w':=Below.grown h hg h.size hr
theorem za3(w:World)(o:Obj):Ext w (w.alloc o):=(Ext.refl w).alloc o
theorem Ext.cells{W w1:World}(hb:Ext W w1):(∀b o,b<W.heap.size->w1.cell? ⟨b,o,none⟩=W.cell? ⟨b,o,none⟩)/\(∀b o,b<W.heap.size->w1.frozen? ⟨b,o,none⟩=W.frozen? ⟨b,o,none⟩):=
 ⟨λb o h=>Below.cell hb (p:=⟨b,o,none⟩) h,λb o h=>Below.frozen hb (p:=⟨b,o,none⟩) h⟩
def Same(S:Nat->Prop)(w w':World):Prop:=w.heap.size<=w'.heap.size/\∀b,S b->b<w.heap.size->w'.heap[b]?=w.heap[b]?
theorem Same.of_ext{S:Nat->Prop}{w w':World}(h:Ext w w'):Same S w w':=⟨h.size,λb _ hb=>h.block b hb⟩
theorem Same.of_grown{S:Nat->Prop}{w w':World}{g:Option Nat}(h:w.grownBy w' g)(hS: ∀b,S b->some b≠g):Same S w w':=⟨h.size,λb hs hb=>h.block b hb (hS b hs)⟩
structure AC where
 a:Option Addr
 c:Nat
def Sl(w:World)(S:Nat->Prop)(sz:Nat)(p:AC)(n:Nat)(xs:List Value):Prop:=
 xs.length=n*sz/\n<=p.c/\p.c<=maxLen/\
  (0<n->∃b o,p.a=some ⟨b,o,none⟩/\S b/\b<w.heap.size/\∀j u,xs[j]?=some u->w.cell? ⟨b,o+j,none⟩=some u)
section
variable {w w':World} {S S':Nat->Prop} {sz n:Nat} {p:AC} {xs:List Value}
theorem Sl.same(h:Sl w S sz p n xs)(k:Same S w w'):Sl w' S sz p n xs:=by
 obtain⟨h1,h2,h3,h4⟩:=h
 refine⟨h1,h2,h3,λhn=>?_⟩
 obtain⟨b,o,e,hs,hb,hc⟩:=h4 hn
 exact⟨b,o,e,hs,Nat.lt_of_lt_of_le hb k.1,λj u hu=>(World.cell?_of_block (a:=⟨b,o+j,none⟩) (k.2 b hs hb)).trans (hc j u hu)⟩
theorem Sl.ext(h:Sl w S sz p n xs)(k:Ext w w'):Sl w' S sz p n xs:=h.same (.of_ext k)
theorem Sl.mono(h:Sl w S sz p n xs)(k: ∀b,S b->b<w.heap.size->S' b):Sl w S' sz p n xs:=by
 obtain⟨h1,h2,h3,h4⟩:=h
 refine⟨h1,h2,h3,λhn=>?_⟩
 obtain⟨b,o,e,hs,hb,hc⟩:=h4 hn
 exact⟨b,o,e,k b hs hb,hb,hc⟩
theorem Sl.capLe(h:Sl w S sz p n xs):n<=p.c/\p.c<=maxLen:=⟨h.2.1,h.2.2.1⟩
theorem Sl.nil(w:World)(S:Nat->Prop)(sz:Nat):Sl w S sz ⟨none,0⟩ 0 []:=⟨by simp,Nat.le_refl _,Nat.zero_le _,λh=>absurd h (by omega)⟩
theorem Sl.at_(h:Sl w S sz p n xs)(hn:0<n): ∃b o,p.a=some ⟨b,o,none⟩/\S b/\b<w.heap.size/\∀j u,xs[j]?=some u->w.cell? ⟨b,o+j,none⟩=some u:=h.2.2.2 hn
theorem Sl.cut(h:Sl w S sz p n xs){i j:Nat}(hij:i<=j)(hj:j<=n){a:Option Addr}{c:Nat}(hc:j-i<=c/\c<=maxLen)
  (ha:i<j->∀b o,p.a=some ⟨b,o,none⟩->a=some ⟨b,o+i*sz,none⟩):Sl w S sz ⟨a,c⟩ (j-i) ((xs.drop (i*sz)).take ((j-i)*sz)):=by
 have hl:i*sz+(j-i)*sz<=xs.length:=by
  rw[h.1,<-Nat.add_mul]
  exact Nat.mul_le_mul_right _ (by omega)
 refine⟨by rw[List.length_take,List.length_drop];omega,hc.1,hc.2,λhn=>?_⟩
 obtain⟨b,o,e,hs,hb,hcell⟩:=h.at_ (by omega)
 refine⟨b,o+i*sz,ha (by omega) b o e,hs,hb,λk u hu=>?_⟩
 have:=hcell (i*sz+k) u (by
  rw[List.getElem?_take]at hu
  split at hu
  ·rw[List.getElem?_drop]at hu;exact hu
  ·cases hu)
 rw[Nat.add_assoc];exact this
end
abbrev bv(b:UInt8):Value:= .int .u8 (b.toNat:Int)
abbrev iv(n:Int):Value:= .int .i64 n
def I64(n:Int):Prop:= -9223372036854775808<=n/\n<=9223372036854775807
def By(w:World)(S:Nat->Prop)(p:AC)(l:List UInt8):Prop:=Sl w S 1 p l.length (l.map bv)
def Is(w:World)(S:Nat->Prop)(p:AC)(l:List Int):Prop:=Sl w S 1 p l.length (l.map iv)/\∀x∈l,I64 x
section
variable {w w':World} {S S':Nat->Prop} {p:AC} {l:List UInt8} {m:List Int}
theorem By.same(h:By w S p l)(k:Same S w w'):By w' S p l:=Sl.same h k
theorem By.ext(h:By w S p l)(k:Ext w w'):By w' S p l:=Sl.ext h k
theorem By.mono(h:By w S p l)(k: ∀b,S b->b<w.heap.size->S' b):By w S' p l:=Sl.mono h k
theorem By.lens(h:By w S p l):l.length<=p.c/\p.c<=maxLen:=Sl.capLe h
theorem By.nil(w:World)(S:Nat->Prop):By w S ⟨none,0⟩ []:=Sl.nil w S 1
theorem Is.ext(h:Is w S p m)(k:Ext w w'):Is w' S p m:=⟨Sl.ext h.1 k,h.2⟩
theorem Is.lens(h:Is w S p m):m.length<=p.c/\p.c<=maxLen:=Sl.capLe h.1
theorem By.at_(h:By w S p l){k:Nat}(hk:k<l.length): ∃b o,p.a=some ⟨b,o,none⟩/\w.cell? ⟨b,o+k,none⟩=some (.int .u8 (l[k].toNat:Int)):=by
 obtain⟨b,o,e,_,_,hc⟩:=Sl.at_ h (by omega)
 exact⟨b,o,e,hc k _ (by simp[hk])⟩
theorem By.form(h:By w S p l)(hk:0<l.length): ∃b o,p.a=some ⟨b,o,none⟩/\∀(k:Nat) (h:k<l.length),w.cell? ⟨b,o+k,none⟩=some (.int .u8 (l[k].toNat:Int)):=by
 obtain⟨b,o,e,_,_,hc⟩:=Sl.at_ h hk
 exact⟨b,o,e,λk hk=>hc k _ (by simp[hk])⟩
theorem Is.at_(h:Is w S p m){k:Nat}(hk:k<m.length): ∃b o,p.a=some ⟨b,o,none⟩/\w.cell? ⟨b,o+k,none⟩=some (.int .i64 m[k]):=by
 obtain⟨b,o,e,_,_,hc⟩:=Sl.at_ h.1 (by omega)
 exact⟨b,o,e,hc k _ (by simp[hk])⟩
end
def Ow(w:World)(base:Nat)(e:TypeId)(sz:Nat)(v:Value)(n:Nat)(xs:List Value)(g:Option Nat):Prop:=
 xs.length=n*sz/\
 ((g=none/\∃a,v= .slice a n n/\Sl w (base<= ·) sz ⟨a,n⟩ n xs)\/
 (∃b cap cur,g=some b/\v= .slice (some ⟨b,0,none⟩) n cap/\base<=b/\w.heap[b]?=some (.cells cur e (0,0))/\n<=cap/\cap<=maxLen/\cur.size=cap*sz/\cur.toList.take (n*sz)=xs))
section
variable {w w':World} {base:Nat} {e:TypeId} {sz n:Nat} {v:Value} {xs:List Value} {g:Option Nat}
theorem Ow.nil(w:World)(base:Nat)(e:TypeId)(sz:Nat):Ow w base e sz (.slice none 0 0) 0 [] none:=
 ⟨by simp, .inl ⟨rfl,none,rfl,Sl.nil _ _ _⟩⟩
theorem Ow.made{w:World}{cs:Array Value}(hs:cs.size=n*sz)(hn:n<=maxLen)(hb:base<=w.heap.size):
  Ow (w.alloc (.cells cs e)) base e sz (.slice (some ⟨w.heap.size,0,none⟩) n n) n cs.toList (some w.heap.size):=
 ⟨by simpa using hs, .inr ⟨w.heap.size,n,cs,rfl,rfl,hb,heap_alloc_new w _,Nat.le_refl _,hn,hs,by rw[<-hs,<-Array.length_toList];exact List.take_length⟩⟩
theorem Ow.lt(h:Ow w base e sz v n xs g): ∀k,g=some k->base<=k/\k<w.heap.size:=by
 intro k hk
 rcases h.2 with⟨rfl,_⟩ |⟨b,cap,cur,rfl,_,hb,hh,_⟩
 ·cases hk
 ·cases hk
  exact⟨hb,(Array.getElem?_eq_some_iff.1 hh).1⟩
theorem Ow.sl(h:Ow w base e sz v n xs g): ∃p:AC,v= .slice p.a n p.c/\Sl w (base<= ·) sz p n xs:=by
 obtain⟨hl,h⟩:=h
 rcases h with⟨_,a,rfl,hs⟩ |⟨b,cap,cur,_,rfl,hb,hh,hnc,hcm,hcs,ht⟩
 ·exact⟨⟨a,n⟩,rfl,hs⟩
 ·refine⟨⟨some ⟨b,0,none⟩,cap⟩,rfl,hl,hnc,hcm,λ_=>⟨b,0,rfl,hb,(Array.getElem?_eq_some_iff.1 hh).1,λj u hu=>?_⟩⟩
  rw[Nat.zero_add,cell_of_row w b j cur e (0,0) hh]
  rw[<-ht,List.getElem?_take]at hu
  split at hu
  ·simpa using hu
  ·cases hu
theorem Ow.kept{g':Option Nat}(h:Ow w base e sz v n xs g)(k:Same (λb=>base<=b/\some b≠g') w w')(hg:g=none\/g≠g')(h0:g=none->n=0\/g'=none):Ow w' base e sz v n xs g:=by
 obtain⟨hl,h⟩:=h
 refine⟨hl,?_⟩
 rcases h with⟨hg0,a,rfl,hs⟩ |⟨b,cap,cur,hgb,rfl,hb,hh,r⟩
 ·refine .inl ⟨hg0,a,rfl,?_⟩
  rcases h0 hg0 with h1 |h1
  ·subst h1
   exact⟨hs.1,hs.2.1,hs.2.2.1,λh=>absurd h (by omega)⟩
  ·subst h1
   exact hs.same ⟨k.1,λb hb hlt=>k.2 b ⟨hb,by simp⟩ hlt⟩
 ·refine .inr ⟨b,cap,cur,hgb,rfl,hb,?_,r⟩
  refine(k.2 b ⟨hb,?_⟩ (Array.getElem?_eq_some_iff.1 hh).1).trans hh
  rcases hg with hg |hg
  ·rw[hg]at hgb;cases hgb
  ·rw[hgb]at hg;exact hg
theorem Ow.ext(h:Ow w base e sz v n xs g)(k:Ext w w'):Ow w' base e sz v n xs g:=by
 refine h.kept (g':=none) (Same.of_ext k) ?_ (λ_=> .inr rfl)
 cases g with
 |none=>exact .inl rfl
 |some _=>exact .inr (by simp)
theorem Ow.base_mono{base':Nat}(h:Ow w base e sz v n xs g)(hb:base'<=base):Ow w base' e sz v n xs g:=by
 obtain⟨hl,h⟩:=h
 refine⟨hl,?_⟩
 rcases h with⟨hg0,a,hv,hs⟩ |⟨b,cap,cur,hgb,hv,hbb,r⟩
 ·exact .inl ⟨hg0,a,hv,hs.mono λb hb' _=>Nat.le_trans hb hb'⟩
 ·exact .inr ⟨b,cap,cur,hgb,hv,Nat.le_trans hb hbb,r⟩
end
theorem zst(b o j:Nat):(⟨b,o,none⟩:Addr).add j=⟨b,o+j,none⟩:=by unfold Addr.add;split<;>simp_all
section
variable {P:Program} (w:World)
theorem zdhb(base:Nat)(t ty e:TypeId)(i:TypeInfo)(z:Value)(size bytes:Nat)(ht:P.underlying t=some (.slice e))(hi:P.info? e=some i)(hz:i.zero=some z)
  (hsize:i.size=size) (hby:i.bytes=bytes) (hzs:z.cells.size=size) (hsz:0<size)
  (v:Value) (n:Nat) (xs:List Value) (g:Option Nat) (hown:Ow w base e size v n xs g)
  (q:AC) (m:Nat) (news:List Value) {S:Nat->Prop} (hsrc:Sl w S size q m news) (h1: ∀u∈news,u.oneCell'=true)
  (h63:n+m<=maxLen) (hbytes:(n+m)*bytes<=140737488355328) (hbase:base<=w.heap.size):
  ∃a' c' g' w',(Builtin.append_ #[t,t] ty #[v, .slice q.a m q.c]).run P w= .ok (.slice a' (n+m) c') w'/\Ow w' base e size (.slice a' (n+m) c') (n+m) (xs++news) g'/\w.grownBy w' g/\(g'=g\/g'=some w.heap.size):=by
 obtain⟨p,rfl,hp⟩:=hown.sl
 rcases Nat.eq_zero_or_pos m with rfl |hm
 ·have hn:news=[]:=List.eq_nil_of_length_eq_zero (by simpa using hsrc.1)
  subst hn
  refine⟨p.a,p.c,g,w,?_,by simpa using hown,World.grownBy.refl _ _, .inl rfl⟩
  have hcap:=hp.2.1
  obtain⟨a,c⟩:=q
  cases a<;>cases hpa:p.a<;>simp[Builtin.append_,run_underlying ht,sizeOf,typeInfo,hi,Builtin.lenOf,Builtin.firstCells,loadCells,loadCellsFrom,hcap,storeCells]
 ·obtain⟨qb,qo,hqa,_,_,hqc⟩:=hsrc.at_ hm
  have hnews: ∀j u,news[j]?=some u->w.cell? ((⟨qb,qo,none⟩:Addr).add j)=some u:=λj u hu=>by rw[zst];exact hqc j u hu
  rw[hqa]
  obtain⟨hlx,hd⟩:=id hown
  rcases hd with⟨rfl,a,hv,hs⟩ |⟨b,cap,cur,rfl,hv,hb,hh,hnc,hcm,hcs,htk⟩
  ·injection hv with e1 _ e3
   rw[e1,e3]
   have hnl:=h63
   simp only[maxLen]at hnl
   have olds: ∀(b:Addr),a=some b->∀j u,xs[j]?=some u->w.cell? (b.add j)=some u:=by
    intro b hb j u hu
    have hpos:0<n:=by
     rcases Nat.eq_zero_or_pos n with h0 |h0
     ·subst h0
      have:=List.eq_nil_of_length_eq_zero (by simpa using hlx)
      subst this
      cases hu
     ·exact h0
    obtain⟨b',o',hab,_,_,hc⟩:=hs.at_ hpos
    simp only at hab
    rw[hb]at hab
    obtain rfl:=Option.some.inj hab
    rw[zst];exact hc j u hu
   have fin: ∀(c:Nat),n+m<=c->c<=maxLen->∀(cur:Array Value),cur.size=c*size->cur.toList.take ((n+m)*size)=xs++news->
     Ow (w.drew.alloc (.cells cur e)) base e size (.slice (some ⟨w.heap.size,0,none⟩) (n+m) c) (n+m) (xs++news) (some w.heap.size):=λc hc hcm cur hcs htk=>
    ⟨by rw[List.length_append,hlx,hsrc.1,Nat.add_mul], .inr ⟨w.heap.size,c,cur,rfl,rfl,hbase,heap_alloc_new w.drew _,hc,hcm,hcs,htk⟩⟩
   have gr: ∀(cur:Array Value),w.grownBy (w.drew.alloc (.cells cur e)) none:=λcur=>⟨rfl,rfl,rfl,by simp,λk hk _=>Below.heap_alloc w.drew _ k hk⟩
   cases a with
   |none=>
    have h0:n=0:=by
     rcases Nat.eq_zero_or_pos n with h0 |h0
     ·exact h0
     ·obtain⟨_,_,hab,_⟩:=hs.at_ h0;cases hab
    subst h0
    have hx:xs=[]:=List.eq_nil_of_length_eq_zero (by simpa using hlx)
    subst hx
    have hr:=run_append_nil (P:=P) w t ty e i z ht hi hz ⟨qb,qo,none⟩ m q.c news (by rw[hsize];exact hsrc.1) hnews hm (by omega) (by rw[hby];rw[Nat.zero_add]at hbytes;omega)
    have hge:=grownCap_ge w m 0 e
    have hcm:=grownCap_le_maxLen w m 0 e (by omega)
    refine⟨_,_,_,_,by rw[Nat.zero_add];exact hr,?_,gr _, .inr rfl⟩
    refine fin _ (by omega) hcm _ ?_ ?_
    ·simp only[Array.size_append,List.size_toArray,size_zeroCells,hzs,hsrc.1,<-Nat.add_mul]
     congr 1;omega
    ·simp only[Array.toList_append,Nat.zero_add,List.nil_append]
     rw[<-hsrc.1]
     exact List.take_left
   |some b=>
    have hr:=run_append_grow (P:=P) w t ty e i z ht hi hz b n n xs (by rw[hsize];exact hlx) (olds b rfl) ⟨qb,qo,none⟩ m q.c news (by rw[hsize];exact hsrc.1) hnews (by omega) (by omega) (growslice_fits (by omega) (by rw[hby];exact hbytes))
    have hge:=grownCap_ge w (n+m) n e
    have hcm:=grownCap_le_maxLen w (n+m) n e h63
    refine⟨_,_,_,_,hr,?_,gr _, .inr rfl⟩
    refine fin _ hge hcm _ ?_ ?_
    ·simp only[Array.size_append,List.size_toArray,size_zeroCells,hzs,hsrc.1,hlx,<-Nat.add_mul]
     congr 1;omega
    ·simp only[Array.toList_append,List.append_assoc]
     rw[<-List.append_assoc,show(n+m)*size=(xs++news).length by rw[List.length_append,hlx,hsrc.1,Nat.add_mul]]
     exact List.take_left
  ·have ho:w.ownsRow base e size (.slice (some ⟨b,0,none⟩) n cap) n xs:=⟨hlx, .inr ⟨b,cap,cur,rfl,hb,hh,hnc,hcm,hcs,htk⟩⟩
   obtain⟨g',cap',w',hr,ho',hgr,hat,_⟩:=run_append_lies (P:=P) w t ty base e i z size bytes ht hi hz hsize hby hzs hsz _ n xs ho ⟨qb,qo,none⟩ m q.c news hsrc.1 hnews h1 hm h63 hbytes hbase w.heap.size rfl
   rw[hv]
   refine⟨_,_,some g',w',hr,?_,hgr,?_⟩
   ·obtain⟨hl,h2⟩:=ho'
    refine⟨hl, .inr ?_⟩
    rcases h2 with⟨h2,_⟩ |⟨b2,cap2,cur2,hv2,r⟩
    ·cases h2
    ·injection hv2 with e1 _ e3
     injection e1 with e1
     injection e1 with e1
     subst e1;subst e3
     exact⟨g',cap',cur2,rfl,rfl,r⟩
   ·rcases hat with hat |hat
    ·left;simpa[Value.ownBlock]using hat.symm
    ·right;rw[hat]
theorem zoi{ops:Array Oper}{rest:List Oper}{o:Oper}{a:Act}{Q:Exit->Act->World->Prop}(hgd:o.guard=none)(s x:Operand)(t:TypeId)
  (ho:o.op= .call {callee:= .builtin .append,args:= #[s,x],argTypes:= #[t,t]})
  (base:Nat) (e:TypeId) (i:TypeInfo) (z:Value) (size bytes:Nat) (ht:P.underlying t=some (.slice e)) (hi:P.info? e=some i) (hz:i.zero=some z)
  (hsize:i.size=size) (hby:i.bytes=bytes) (hzs:z.cells.size=size) (hsz:0<size)
  (v:Value) (n:Nat) (xs:List Value) (g:Option Nat) (hs:a.eval s=v) (hown:Ow w base e size v n xs g)
  (qa:Option Addr) (m qc:Nat) (news:List Value) {S:Nat->Prop} (hx:a.eval x= .slice qa m qc) (hsrc:Sl w S size ⟨qa,qc⟩ m news) (h1: ∀u∈news,u.oneCell'=true)
  (h63:n+m<=maxLen) (hbytes:(n+m)*bytes<=140737488355328) (hbase:base<=w.heap.size)
  (h: ∀a' c' g' w',Ow w' base e size (.slice a' (n+m) c') (n+m) (xs++news) g'->w.grownBy w' g->(g'=g\/g'=some w.heap.size)->wpList P ops Q rest (a.put o.dst (.slice a' (n+m) c')) w'):
  wpList P ops Q (o::rest) a w:=by
 obtain⟨a',c',g',w',hr,h2,h3,h4⟩:=zdhb (P:=P) w base t o.type e i z size bytes ht hi hz hsize hby hzs hsz v n xs g hown ⟨qa,qc⟩ m news hsrc h1 h63 hbytes hbase
 refine wpList_plain hgd λK hK=>?_
 unfold Oper.wp execOp
 simp only[ho,resolve,invoke,builtin,Sem.run_bind,Sem.run_pure,Result.andThen_ok,List.map_toArray,List.map_cons,List.map_nil,hs,hx,hr]
 exact hK _ _ (h a' c' g' w' h2 h3 h4)
end
theorem zfnb(l:List UInt8): ∀u∈l.map bv,u.oneCell'=true:=by
 intro u hu
 obtain⟨_,_,rfl⟩:=List.mem_map.1 hu
 rfl
theorem zf5b(l:List Int): ∀u∈l.map iv,u.oneCell'=true:=by
 intro u hu
 obtain⟨_,_,rfl⟩:=List.mem_map.1 hu
 rfl
def Ret(w:World)(Post:World->Value->Prop)(e:Ending)(w':World):Prop:=∃v,e= .returned v/\Ext w w'/\Post w' v
def z2u(p:Prop):Prop:=p
theorem zdn{p:Prop}(h:z2u p):p:=h
theorem zdu{p:Prop}(h:p):z2u p:=h
end
section
theorem zch{a b:Int}(h:a=b):Ending.returned (.int .i64 a)= .returned (.int .i64 b):=by rw[h]
theorem zdm{a b:Bool}(h:a=b):Ending.returned (.bool a)= .returned (.bool b):=by rw[h]
theorem Tryz.infoInt:(Tryz.prog.info? 3).map (λi=>(i.zero,i.size,i.bytes))=some (some (.int .i64 0),1,8):=by kernel_rfl
theorem Tryz.infoU8:(Tryz.prog.info? 5).map (λi=>(i.zero,i.size,i.bytes))=some (some (.int .u8 0),1,1):=by kernel_rfl
def OwI(w':World)(base:Nat)(v:Value)(l:List Int)(g:Option Nat):Prop:=Ow w' base 3 1 v l.length (l.map iv) g
def OwB(w':World)(base:Nat)(v:Value)(l:List UInt8)(g:Option Nat):Prop:=Ow w' base 5 1 v l.length (l.map bv) g
section
variable {w w':World} {base:Nat} {v:Value} {l:List Int} {m:List UInt8} {g:Option Nat}
theorem OwB.nil(w:World)(base:Nat):OwB w base (.slice none 0 0) [] none:=Ow.nil _ _ _ _
theorem OwI.ext(h:OwI w base v l g)(k:Ext w w'):OwI w' base v l g:=Ow.ext h k
theorem OwB.ext(h:OwB w base v m g)(k:Ext w w'):OwB w' base v m g:=Ow.ext h k
theorem OwI.alloc(h:OwI w base v l g)(o:Obj):OwI (w.alloc o) base v l g:=Ow.ext h (za3 _ _)
theorem OwB.alloc(h:OwB w base v m g)(o:Obj):OwB (w.alloc o) base v m g:=Ow.ext h (za3 _ _)
theorem OwI.form(h:OwI w base v l g): ∃a c,v= .slice a l.length c:=by obtain⟨p,e,_⟩:=Ow.sl h;exact⟨p.a,p.c,e⟩
theorem OwB.form(h:OwB w base v m g): ∃a c,v= .slice a m.length c:=by obtain⟨p,e,_⟩:=Ow.sl h;exact⟨p.a,p.c,e⟩
theorem OwB.by_(h:OwB w base v m g): ∃p:AC,v= .slice p.a m.length p.c/\By w (base<= ·) p m:=Ow.sl h
theorem OwI.is_(h:OwI w base v l g)(hw: ∀x∈l,I64 x): ∃p:AC,v= .slice p.a l.length p.c/\Is w (base<= ·) p l:=by
 obtain⟨p,e,hs⟩:=Ow.sl h
 exact⟨p,e,hs,hw⟩
theorem OwI.base_mono{b:Nat}(h:OwI w base v l g)(hb:b<=base):OwI w b v l g:=Ow.base_mono h hb
theorem OwB.base_mono{b:Nat}(h:OwB w base v m g)(hb:b<=base):OwB w b v m g:=Ow.base_mono h hb
end
theorem Ow.grown{w w' a:World}{base:Nat}{e:TypeId}{sz n:Nat}{v:Value}{xs:List Value}{g:Option Nat}(h:Ow w base e sz v n xs g)(hg:w.grownBy w' g)(ha:Ext a w)(hb:a.heap.size<=base):Ext a w':=
 ha.grown hg λk hk=>Nat.le_trans hb (h.lt k hk).1
theorem OwI.grown{w w' a:World}{base:Nat}{v:Value}{l:List Int}{g:Option Nat}(h:OwI w base v l g)(hg:w.grownBy w' g)(ha:Ext a w)(hb:a.heap.size<=base):Ext a w':=Ow.grown h hg ha hb
theorem OwB.grown{w w' a:World}{base:Nat}{v:Value}{l:List UInt8}{g:Option Nat}(h:OwB w base v l g)(hg:w.grownBy w' g)(ha:Ext a w)(hb:a.heap.size<=base):Ext a w':=Ow.grown h hg ha hb
theorem Sl.block{w:World}{b:Nat}{cs:Array Value}{t:TypeId}{fr:Nat×Nat}{sz n c:Nat}{S:Nat->Prop}(hb:w.heap[b]?=some (.cells cs t fr))(hs:S b)(hn:cs.size=n*sz)(hc:n<=c)(hm:c<=maxLen):
  Sl w S sz ⟨some ⟨b,0,none⟩,c⟩ n cs.toList:=
 ⟨by simpa using hn,hc,hm,λ_=>⟨b,0,rfl,hs,(Array.getElem?_eq_some_iff.1 hb).1,λj u hu=>by
  rw[Nat.zero_add,cell_of_row w b j cs t fr hb];simpa using hu⟩⟩
section
variable {w:World} {ops:Array Oper} {rest:List Oper} {o:Oper} {a:Act} {Q:Exit->Act->World->Prop}
theorem zha(hgd:o.guard=none)(s x:Operand)(ho:o.op= .call {callee:= .builtin .append,args:= #[s,x],argTypes:= #[34,34]})
  {base:Nat} {v:Value} {l:List Int} {g:Option Nat} (hs:a.eval s=v) (hown:OwI w base v l g)
  {qa:Option Addr} {qc m:Nat} {l2:List Int} {S:Nat->Prop} (hx:a.eval x= .slice qa m qc) (hm:m=l2.length) (hsrc:Sl w S 1 ⟨qa,qc⟩ l2.length (l2.map iv))
  (hsmall:l.length+l2.length<=8796093022208) (hbase:base<=w.heap.size)
  (h: ∀a' c' g' w',OwI w' base (.slice a' (l.length+m) c') (l++l2) g'->w.grownBy w' g->(g'=g\/g'=some w.heap.size)->wpList Tryz.prog ops Q rest (a.put o.dst (.slice a' (l.length+m) c')) w'):
  wpList Tryz.prog ops Q (o::rest) a w:=by
 subst hm
 obtain⟨i0,hi,hz0,hz1,hz2⟩:=info_parts Tryz.infoInt
 refine zoi w hgd s x 34 ho base 3 i0 (.int .i64 0) 1 8 Tryz.underlying34 hi hz0 hz1 hz2 rfl (by decide) v l.length (l.map iv) g hs hown qa l2.length qc (l2.map iv) hx hsrc (zf5b _) (by simp only[maxLen];omega) (by omega) hbase ?_
 intro a' c' g' w' h1 h2 h3
 refine h a' c' g' w' ?_ h2 h3
 unfold OwI
 rw[List.length_append,List.map_append]
 exact h1
theorem zcj(hgd:o.guard=none)(s x:Operand)(ho:o.op= .call {callee:= .builtin .append,args:= #[s,x],argTypes:= #[28,28]})
  {base:Nat} {v:Value} {l:List UInt8} {g:Option Nat} (hs:a.eval s=v) (hown:OwB w base v l g)
  {qa:Option Addr} {qc m:Nat} {l2:List UInt8} {S:Nat->Prop} (hx:a.eval x= .slice qa m qc) (hm:m=l2.length) (hsrc:Sl w S 1 ⟨qa,qc⟩ l2.length (l2.map bv))
  (hsmall:l.length+l2.length<=8796093022208) (hbase:base<=w.heap.size)
  (h: ∀a' c' g' w',OwB w' base (.slice a' (l.length+m) c') (l++l2) g'->w.grownBy w' g->(g'=g\/g'=some w.heap.size)->wpList Tryz.prog ops Q rest (a.put o.dst (.slice a' (l.length+m) c')) w'):
  wpList Tryz.prog ops Q (o::rest) a w:=by
 subst hm
 obtain⟨i0,hi,hz0,hz1,hz2⟩:=info_parts Tryz.infoU8
 refine zoi w hgd s x 28 ho base 5 i0 (.int .u8 0) 1 1 Tryz.underlying28 hi hz0 hz1 hz2 rfl (by decide) v l.length (l.map bv) g hs hown qa l2.length qc (l2.map bv) hx hsrc (zfnb _) (by simp only[maxLen];omega) (by omega) hbase ?_
 intro a' c' g' w' h1 h2 h3
 refine h a' c' g' w' ?_ h2 h3
 unfold OwB
 rw[List.length_append,List.map_append]
 exact h1
end
theorem zvm(w:World)(y:Int)(e:TypeId):Sl (w.alloc (.cells #[.int .i64 y] e)) (λ_=>True) 1 ⟨some ⟨w.heap.size,0,none⟩,1⟩ [y].length ([y].map iv):=
 Sl.block (heap_alloc_new w _) trivial rfl (Nat.le_refl _) (by decide)
theorem zfkb(w:World)(y:UInt8)(e:TypeId):Sl (w.alloc (.cells #[.int .u8 y.toNat] e)) (λ_=>True) 1 ⟨some ⟨w.heap.size,0,none⟩,1⟩ [y].length ([y].map bv):=
 Sl.block (heap_alloc_new w _) trivial rfl (Nat.le_refl _) (by decide)
end
end Go.Proofs.YtpdllgbfemnemaaGreat
