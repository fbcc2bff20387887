import Derived.Test.YtebhngeddnnpkaaGreatZGeoB
import Derived.Test.YtebhngeddnnpkaaGreatZIg
import Derived.Test.YtebhngeddnnpkaaGreatZTi
import Derived.Test.YtebhngeddnnpkaaGreatZSxS
namespace Go.Proofs.YtebhngeddnnpkaaGreat
open Go.RowKit
set_option linter.unusedVariables false
section
section
variable {P:Program} (w:World)
theorem z1y(base:Nat)(t ty e:TypeId)(i:TypeInfo)(z:Value)(size bytes:Nat)(ht:P.underlying t=some (.slice e))(hi:P.info? e=some i)(hz:i.zero=some z)
  (hsize:i.size=size) (hby:i.bytes=bytes) (hzs:z.cells.size=size) (hsz:0<size)
  (v:Value) (n:Nat) (xs:List Value) (g:Option Nat) (hown:Ow w base e size v n xs g)
  (q:AC) (m:Nat) (news:List Value) {S:Nat->Prop} (hsrc:Sl w S size q m news) (h1: ∀u∈news,u.oneCell'=true)
  (h63:n+m<=maxLen) (hbytes:(n+m)*bytes<=140737488355328) (hbase:base<=w.heap.size):
  ∃a' c' g' w',(Builtin.append_ #[t,t] ty #[v, .slice q.a m q.c]).run P w= .ok (.slice a' (n+m) c') w'/\Ow w' base e size (.slice a' (n+m) c') (n+m) (xs++news) g'/\w.grownBy w' g/\(g'=g\/g'=some w.heap.size)/\(0<m->g'≠none):=by
 obtain⟨p,rfl,hp⟩:=hown.sl
 rcases Nat.eq_zero_or_pos m with rfl |hm
 ·have hn:news=[]:=List.eq_nil_of_length_eq_zero (by simpa using hsrc.1)
  subst hn
  refine⟨p.a,p.c,g,w,?_,by simpa using hown,World.grownBy.refl _ _, .inl rfl,λh=>absurd h (by omega)⟩
  have hcap:=hp.2.1
  obtain⟨a,c⟩:=q
  cases a<;>cases hpa:p.a<;>simp[Builtin.append_,run_underlying ht,sizeOf,typeInfo,hi,Builtin.lenOf,Builtin.firstCells,loadCells,loadCellsFrom,hcap,storeCells]
 ·obtain⟨qb,qo,hqa,_,_,hqc⟩:=hsrc.at_ hm
  have hnews: ∀j u,news[j]?=some u->w.cell? ((⟨qb,qo,none⟩:Addr).add j)=some u:=λj u hu=>by rw[zgn];exact hqc j u hu
  rw[hqa]
  obtain⟨hlx,hd⟩:=id hown
  rcases hd with⟨rfl,a,hv,hs⟩ |⟨b,cap,cur,rfl,hv,hb,hh,hnc,hcm,hcs,htk⟩
  ·injection hv with e1 _ e3
   rw[e1,e3]
   have hnl:=h63
   simp only[maxLen]at hnl
   have olds: ∀(b:Addr),a=some b->∀j u,xs[j]?=some u->w.cell? (b.add j)=some u:=by
    intro b hb j u hu
    have hpos:0<n:=by
     rcases Nat.eq_zero_or_pos n with h0 |h0
     ·subst h0
      have:=List.eq_nil_of_length_eq_zero (by simpa using hlx)
      subst this
      cases hu
     ·exact h0
    obtain⟨b',o',hab,_,_,hc⟩:=hs.at_ hpos
    simp only at hab
    rw[hb]at hab
    obtain rfl:=Option.some.inj hab
    rw[zgn];exact hc j u hu
   have fin: ∀(c:Nat),n+m<=c->c<=maxLen->∀(cur:Array Value),cur.size=c*size->cur.toList.take ((n+m)*size)=xs++news->
     Ow (w.drew.alloc (.cells cur e)) base e size (.slice (some ⟨w.heap.size,0,none⟩) (n+m) c) (n+m) (xs++news) (some w.heap.size):=λc hc hcm cur hcs htk=>
    ⟨by rw[List.length_append,hlx,hsrc.1,Nat.add_mul], .inr ⟨w.heap.size,c,cur,rfl,rfl,hbase,heap_alloc_new w.drew _,hc,hcm,hcs,htk⟩⟩
   have gr: ∀(cur:Array Value),w.grownBy (w.drew.alloc (.cells cur e)) none:=λcur=>⟨rfl,rfl,rfl,by simp,λk hk _=>Below.heap_alloc w.drew _ k hk⟩
   cases a with
   |none=>
    have h0:n=0:=by
     rcases Nat.eq_zero_or_pos n with h0 |h0
     ·exact h0
     ·obtain⟨_,_,hab,_⟩:=hs.at_ h0;cases hab
    subst h0
    have hx:xs=[]:=List.eq_nil_of_length_eq_zero (by simpa using hlx)
    subst hx
    have hr:=run_append_nil (P:=P) w t ty e i z ht hi hz ⟨qb,qo,none⟩ m q.c news (by rw[hsize];exact hsrc.1) hnews hm (by omega) (by rw[hby];rw[Nat.zero_add]at hbytes;omega)
    have hge:=grownCap_ge w m 0 e
    have hcm:=grownCap_le_maxLen w m 0 e (by omega)
    refine⟨_,_,_,_,by rw[Nat.zero_add];exact hr,?_,gr _, .inr rfl,λ_=>by simp⟩
    refine fin _ (by omega) hcm _ ?_ ?_
    ·simp only[Array.size_append,List.size_toArray,size_zeroCells,hzs,hsrc.1,<-Nat.add_mul]
     congr 1;omega
    ·simp only[Array.toList_append,Nat.zero_add,List.nil_append]
     rw[<-hsrc.1]
     exact List.take_left
   |some b=>
    have hr:=run_append_grow (P:=P) w t ty e i z ht hi hz b n n xs (by rw[hsize];exact hlx) (olds b rfl) ⟨qb,qo,none⟩ m q.c news (by rw[hsize];exact hsrc.1) hnews (by omega) (by omega) (growslice_fits (by omega) (by rw[hby];exact hbytes))
    have hge:=grownCap_ge w (n+m) n e
    have hcm:=grownCap_le_maxLen w (n+m) n e h63
    refine⟨_,_,_,_,hr,?_,gr _, .inr rfl,λ_=>by simp⟩
    refine fin _ hge hcm _ ?_ ?_
    ·simp only[Array.size_append,List.size_toArray,size_zeroCells,hzs,hsrc.1,hlx,<-Nat.add_mul]
     congr 1;omega
    ·simp only[Array.toList_append,List.append_assoc]
     rw[<-List.append_assoc,show(n+m)*size=(xs++news).length by rw[List.length_append,hlx,hsrc.1,Nat.add_mul]]
     exact List.take_left
  ·have ho:w.ownsRow base e size (.slice (some ⟨b,0,none⟩) n cap) n xs:=⟨hlx, .inr ⟨b,cap,cur,rfl,hb,hh,hnc,hcm,hcs,htk⟩⟩
   obtain⟨g',cap',w',hr,ho',hgr,hat,_⟩:=run_append_lies (P:=P) w t ty base e i z size bytes ht hi hz hsize hby hzs hsz _ n xs ho ⟨qb,qo,none⟩ m q.c news hsrc.1 hnews h1 hm h63 hbytes hbase w.heap.size rfl
   rw[hv]
   refine⟨_,_,some g',w',hr,?_,hgr,?_,λ_=>by simp⟩
   ·obtain⟨hl,h2⟩:=ho'
    refine⟨hl, .inr ?_⟩
    rcases h2 with⟨h2,_⟩ |⟨b2,cap2,cur2,hv2,r⟩
    ·cases h2
    ·injection hv2 with e1 _ e3
     injection e1 with e1
     injection e1 with e1
     subst e1;subst e3
     exact⟨g',cap',cur2,rfl,rfl,r⟩
   ·rcases hat with hat |hat
    ·left;simpa[Value.ownBlock]using hat.symm
    ·right;rw[hat]
theorem ztj{ops:Array Oper}{rest:List Oper}{o:Oper}{a:Act}{Q:Exit->Act->World->Prop}(hgd:o.guard=none)(s x:Operand)(t:TypeId)
  (ho:o.op= .call {callee:= .builtin .append,args:= #[s,x],argTypes:= #[t,t]})
  (base:Nat) (e:TypeId) (i:TypeInfo) (z:Value) (size bytes:Nat) (ht:P.underlying t=some (.slice e)) (hi:P.info? e=some i) (hz:i.zero=some z)
  (hsize:i.size=size) (hby:i.bytes=bytes) (hzs:z.cells.size=size) (hsz:0<size)
  (v:Value) (n:Nat) (xs:List Value) (g:Option Nat) (hs:a.eval s=v) (hown:Ow w base e size v n xs g)
  (qa:Option Addr) (m qc:Nat) (news:List Value) {S:Nat->Prop} (hx:a.eval x= .slice qa m qc) (hsrc:Sl w S size ⟨qa,qc⟩ m news) (h1: ∀u∈news,u.oneCell'=true)
  (h63:n+m<=maxLen) (hbytes:(n+m)*bytes<=140737488355328) (hbase:base<=w.heap.size)
  (h: ∀a' c' g' w',Ow w' base e size (.slice a' (n+m) c') (n+m) (xs++news) g'->w.grownBy w' g->(g'=g\/g'=some w.heap.size)->(0<m->g'≠none)->wpList P ops Q rest (a.put o.dst (.slice a' (n+m) c')) w'):
  wpList P ops Q (o::rest) a w:=by
 obtain⟨a',c',g',w',hr,h2,h3,h4,h5⟩:=z1y (P:=P) w base t o.type e i z size bytes ht hi hz hsize hby hzs hsz v n xs g hown ⟨qa,qc⟩ m news hsrc h1 h63 hbytes hbase
 refine wpList_plain hgd λK hK=>?_
 unfold Oper.wp execOp
 simp only[ho,resolve,invoke,builtin,Sem.run_bind,Sem.run_pure,Result.andThen_ok,List.map_toArray,List.map_cons,List.map_nil,hs,hx,hr]
 exact hK _ _ (h a' c' g' w' h2 h3 h4 h5)
end
section
variable {w:World} {ops:Array Oper} {rest:List Oper} {o:Oper} {a:Act} {Q:Exit->Act->World->Prop}
theorem zss(hgd:o.guard=none)(s x:Operand)(ho:o.op= .call {callee:= .builtin .append,args:= #[s,x],argTypes:= #[22,22]})
  {base:Nat} {v:Value} {l:List UInt8} {g:Option Nat} (hs:a.eval s=v) (hown:OwB w base v l g)
  {qa:Option Addr} {qc m:Nat} {l2:List UInt8} {S:Nat->Prop} (hx:a.eval x= .slice qa m qc) (hm:m=l2.length) (hsrc:Sl w S 1 ⟨qa,qc⟩ l2.length (l2.map bv))
  (hsmall:l.length+l2.length<=8796093022208) (hbase:base<=w.heap.size)
  (h: ∀a' c' g' w',OwB w' base (.slice a' (l.length+m) c') (l++l2) g'->w.grownBy w' g->(g'=g\/g'=some w.heap.size)->(0<m->g'≠none)->wpList Tryz.prog ops Q rest (a.put o.dst (.slice a' (l.length+m) c')) w'):
  wpList Tryz.prog ops Q (o::rest) a w:=by
 subst hm
 obtain⟨i0,hi,hz0,hz1,hz2⟩:=info_parts Tryz.infoU8
 refine ztj w hgd s x 22 ho base 5 i0 (.int .u8 0) 1 1 Tryz.underlying22 hi hz0 hz1 hz2 rfl (by decide) v l.length (l.map bv) g hs hown qa l2.length qc (l2.map bv) hx hsrc (zw6 _) (by simp only[maxLen];omega) (by omega) hbase ?_
 intro a' c' g' w' h1 h2 h3 h4
 refine h a' c' g' w' ?_ h2 h3 h4
 unfold OwB
 rw[List.length_append,List.map_append]
 exact h1
end
def z3n(l:List UInt8)(size m:Nat)(w:World)(b i:Value)(wr:World):Prop:=
 ∃(j:Nat) (done:List UInt8) (g:Option Nat),i= .int .i64 ((j:Int)-1)/\j<=size/\done.length+j=l.length+size/\l++beB size m=done++beB j m/\OwB wr w.heap.size b done g/\Ext w wr/\(j<size->g≠none)
theorem zwe(p:AC)(l:List UInt8){S:Nat->Prop}(size m:Nat)(w:World)(hp:By w S p l)(hl:l.length<=1000000000000)(hs:size=1\/size=2\/size=4\/size=8):
  Calls Tryz.prog 109 #[.slice p.a l.length p.c, .int .i64 (size:Int), .int .u64 (m:Int)] w (Ret w λw' v=>∃g,OwB w' w.heap.size v (l++beB size m) g/\g≠none):=by
 have hs8:size<=8:=by omega
 have hs1:1<=size:=by omega
 have HS:Hid ((size:Int)=1\/(size:Int)=2\/(size:Int)=4\/(size:Int)=8):=Lib.hid (by omega)
 clear hs
 go_enter Tryz.func109,Tryz.ntmps109
 go_wp2_with fail
 refine(zf3 p l _ hp (by omega)).mono ?_
 rintro e w1 ⟨v,rfl,hb,g1,ho⟩
 go_wp2_with fail
 refine(zuk _ _ HS.out).mono ?_
 rintro e w' ⟨rfl,rfl⟩
 go_wp2_with fail
 go_loopw [0,7] (λb i wr=>z3n l size m w b i wr) (λ_ i _=>(intOf i+1).toNat)
 case atStart=>exact⟨size,l,g1,rfl,by omega,by omega,rfl,ho,hb,λh=>absurd h (by omega)⟩
 case round=>
  obtain⟨j,done,g,rfl,e1,e2,e3,e4,e5,e6⟩:=hrel
  have E6:=Lib.hid e6
  clear e6
  have E3:=Lib.hid e3
  have E2:done.length<=l.length+size:=by omega
  have E2':=Lib.hid e2
  obtain⟨a,c,rfl⟩:=e4.form
  clear e3 e2
  by_cases h0:j=0
  ·subst h0
   go_wp2_with fail
   go_ret
   exact⟨_,rfl,(by(repeat (first |exact Ext.refl _ |refine Ext.drew ?_ |refine Ext.drewN ?_ _ |refine Ext.alloc ?_ _ |(refine Ext.setCell ?_ (by first |omega |(simp;done) |(simp;omega)) _) |refine Ext.trans ?_ (by assumption)))),g,by rw[E3.out];simpa[beB]using e4,E6.out (by omega)⟩
  ·obtain⟨k,rfl⟩: ∃k,j=k+1:=⟨j-1,by omega⟩
   have ek:((k+1:Nat):Int)-1=(k:Int):=by omega
   rw[ek]
   clear h0 ek
   go_wp2_with (first |(at_builtin;refine zdm ?_))
   refine zdg (zss (l2:=[UInt8.ofNat (m/256^k)]) rfl (.tmp 20) (.tmp 26) rfl rfl (e4.alloc _) rfl rfl (zm5 _ ?_) ?_ ?_ ?_)
   ·rw[zi0,<-zr0];simp
   ·simp;omega
   ·have:=e5.le;simp;omega
   intro a' c' g' w' r1 r2 r3 r5
   have r4:=(e4.alloc _).grown r2 (e5.alloc _) (Nat.le_refl _)
   have R5:=Lib.hid r5
   clear r5
   go_wp2_with fail
   go_roundw
   case rel=>exact⟨k,_,g',rfl,by omega,by have:=E2'.out;simp;omega,by rw[E3.out,beB,List.append_assoc];rfl,r1,r4,λ_=>R5.out (by simp)⟩
   case measure=>(first |omega |(simp[intOf];done) |(simp[intOf];omega))
end
end Go.Proofs.YtebhngeddnnpkaaGreat

namespace Go.Proofs.YtebhngeddnnpkaaGreat.Sx
open Go.RowKit
set_option linter.unusedVariables false
section
section
variable {w w':World} {k:Kp} {v:Value}
theorem z8s{l:List UInt8}{base:Nat}{o:Option Nat}(h:Go.Proofs.YtebhngeddnnpkaaGreat.Ow w' base 5 1 v l.length (l.map bv) o)(ho:o≠none):
  ∃k':Kp,(∀b,b<base->k' b=k b)/\(Res.own 5 1 l.length (l.map U8)).at_ base w' k' v:=by
 obtain⟨_,h⟩:=h
 rcases h with⟨h,_⟩ |⟨b,cap,cur,_,rfl,hb,hh,hnc,hcm,hcs,ht⟩
 ·exact absurd h ho
 ·refine⟨λx=>if x<base then k x else 0,λx hx=>by simp[hx],some b,⟨by simp, .inr ⟨b,cap,cur,rfl,rfl,hh,hnc,hcm,Nat.le_of_eq hcs.symm,by simp only[if_neg (show¬b<base by omega)];simp,?_⟩⟩,λb' hb'=>by cases hb';exact hb⟩
  rw[ht]
  exact zf9 (f:=U8) (λx w k v=>by simp[RV.at_]) (λ_=>rfl) l
end
theorem zxo(l:List UInt8)(size m:Nat)(hl:l.length<=1000000000000)(hs:size=1\/size=2\/size=4\/size=8):zab Tryz.prog 109 [bs l,I size, .i .u64 m] (.own 5 1 (l++beB size m).length ((l++beB size m).map U8)):=
 zbh (za0 Tryz.func109 rfl (by kernel_rfl)) λw k vs hp=>by
  obtain⟨a,b,c,rfl,h1,h2,h3⟩:=zy3 hp
  obtain⟨p,rfl,hp1⟩:=zc5 h1
  simp only[RV.at_]at h2 h3
  subst h2;subst h3
  exact(zwe p l size m w hp1 hl hs).mono λ_ _ ⟨v,he,hx,_,hv,hg⟩=>⟨v,he,hx,z8s hv hg⟩
abbrev chU(l:List UInt8):Ow:= .ch 5 1 l.length (l.map U8) false
theorem z7j(lf:Leaf)(l:List UInt8)(hlf:lf.fit)(hlr:lf.right=true)(hl:l.length<=1000000):
  Acts Tryz.prog 202 1 [(0,chU l)] [.r (ze2 lf).pr, .own 0, .r (I 0)] [] 1 [(0,chU (l++[1]++zcb (L1 lf)))] (.own 0):=by
 refine zbc (T:=Tab) mixed Tab_ok Tryz.func202 rfl (by kernel_rfl) rfl trivial ?_
 have hb:=zid (L1 lf) (zev hlf)
 have hle:=zlx (L1 lf) (zev hlf)
 rw[if_pos (zlg hlr)]at hb
 generalize zcb (L1 lf)=q at hb hle⊢
 refine Vstep.node2 rfl rfl rfl (λm hm=>?_) (λhm=>absurd hm (by simp[za6,oneS]))
 obtain rfl:L1 lf=m:=by simpa[za6,oneS]using hm
 refine zu rfl (zq ?_)
 refine za rfl rfl ?_
 refine ze hb ?_
 refine zw ?_
 refine Vapp.mk' (j:=(l++[1]).length) (zs:=(l++[1]).map U8) (by simp only[maxLen];omega) (by show(l.length+1)*1<=_;omega) (by rw[List.length_append];rfl) (by rw[List.map_append];rfl) ?_
 refine Vapp.mk' (j:=(l++[1]++q).length) (zs:=(l++[1]++q).map U8) (by simp only[maxLen,List.length_append,List.length_cons,List.length_nil];omega) (by show((l++[1]).length+q.length)*1<=_;simp only[List.length_append,List.length_cons,List.length_nil];omega) (by simp only[List.length_append]) (by simp only[List.map_append]) ?_
 refine⟨by decide,0,by decide,?_⟩
 refine zu rfl (zq ?_)
 exact za9 (.inl rfl) [(0,5)] [(6, .own 0)] [] rfl ⟨rfl,trivial⟩ ⟨⟨rfl,rfl,rfl,rfl,zn _⟩,trivial⟩ trivial rfl
def oneB(mark:UInt8)(lf:Leaf):List UInt8:=[mark]++beB 4 1++beB 4 0++[1]++zcb (L1 lf)
theorem zx7(mark:UInt8)(lf:Leaf)(hlf:lf.fit)(hlr:lf.right=true):zab Tryz.prog 106 [(ze2 lf).pr,U8 mark] (.r (bs (oneB mark lf))):=by
 refine zax (T:=Tab) mixed Tab_ok Tryz.func106 rfl (by kernel_rfl) ?_
 have hp:=z7j lf ([mark]++beB 4 1++beB 4 0) hlf hlr (by simp only[List.length_append,zam,List.length_cons,List.length_nil];omega)
 refine zw ?_
 refine Vint.n 1 (by show(1:Int)=IntKind.u64.wrap 1;decide) ?_
 refine ze (zdz [mark] 4 1 (by simp) (.inr (.inr (.inl rfl)))) ?_
 refine Vdraw.cut 9 (by kernel_rfl) ?_
 refine za rfl rfl ?_
 refine Vint.n 0 (by show(0:Int)=IntKind.u64.wrap 0;decide) ?_
 refine ze (zxo ([mark]++beB 4 1) 4 0 (by simp only[List.length_append,zam,List.length_cons,List.length_nil];omega) (.inr (.inr (.inl rfl)))) ?_
 refine ze (zqy 1) ?_
 refine zj [(0,3)] [] (λ_ _=>hp) (zi rfl ⟨_,_,rfl,cr,_,_,rfl,rfl,_,_,rfl,cr,rfl⟩) rfl ⟨⟨rfl,rfl,rfl,rfl,zn _⟩,trivial⟩ ⟨za2,trivial⟩ ?_
 refine⟨_,zbd (id:=4) rfl,?_⟩
 exact cr
theorem zyd(lf:Leaf)(hlf:lf.fit)(hlr:lf.right=true):zab Tryz.prog 38 [.ag (ze2 lf).c] (.r (.tu [bs (oneB 1 lf),Er 0])):=by
 refine zaa (T:=Tab) mixed Tab_ok Tryz.func38 rfl (by kernel_rfl) ?_
 have hb:=z5e (zev hlf)
 have hR:=zwa (zlg hlr) rfl
 have c1:=zxp (ze2 lf) hb
 have hp:pieS (ze2 lf)=ze2 lf:=if_pos (by have:=hR;unfold sR at this;simp only[Bool.and_eq_true]at this;exact this.1)
 rw[hR,hp]at c1
 have c2:=zx7 1 lf hlf hlr
 refine za rfl rfl ?_
 refine ze c1 ?_
 refine zu rfl (zq ?_)
 refine za rfl rfl ?_
 refine ze c2 ?_
 exact⟨_,rfl,cr⟩
abbrev epR(x:CtxP)(o:Leaf):List RV:=[bs x.group, .i .u64 x.epoch,bs x.tree,bs x.trans,nods [L1 o]]
abbrev mirR(x:CtxP)(o:Leaf)(it:List UInt8):List RV:=[.sl 5 1 (epR x o),bs it,ns]
theorem zxy(x:CtxP)(hx:x.fit):zab Tryz.prog 51 [.ag x.c] (.r (.ag x.c)):=by
 refine zaa (T:=Tab) mixed Tab_ok Tryz.func51 rfl (by kernel_rfl) ?_
 obtain⟨h1,h2,h3,h4⟩:=hx
 refine Vdraw.mk' (by kernel_rfl) ?_
 refine ze (zbw x.group (by omega)) ?_
 refine ze (zbw x.tree (by omega)) ?_
 refine ze (zbw x.trans (by omega)) ?_
 refine za rfl rfl ?_
 exact cr
theorem z7h(x:CtxP)(o:Leaf)(it:List UInt8)(hx:x.fit)(ht:x.tree=hash1 o)(ho:o.fit)(hr:o.right=true)(hi:it.length<=1000000):zab Tryz.prog 102 [.ag x.c,bs it,nods [L1 o]] (.r (.tu [.ptr (mirR x o it),Er 0])):=by
 refine zax (T:=Tab) mixed Tab_ok Tryz.func102 rfl (by kernel_rfl) ?_
 have c3:zab Tryz.prog 98 [bs (hash1 o),bs x.tree] (.r (.b true)):=by
  have:=z0g (hash1 o) x.tree
  rw[decide_eq_true ht.symm]at this
  exact this
 refine ze (zt9 o ho hr) ?_
 refine zu rfl (zq ?_)
 refine ze c3 ?_
 refine zu rfl (zq ?_)
 refine za rfl rfl ?_
 refine ze (zxy x hx) ?_
 refine ze (zt2 o ho) ?_
 refine zw ?_
 refine ze (zbw it (by omega)) ?_
 refine⟨_,Sub.trans (zad [(0,3)] (S':=⟨[(6, .own 0),(7, .r (Er 0))],[(0,some (.box ((mirR x o it).map TF.r)))],1⟩) rfl (by repeat' (first |exact rfl |exact trivial |exact cr |exact Cv.nil _ |exact⟨rfl,rfl⟩ |refine⟨_,_,rfl,?_,?_⟩ |refine⟨?_,?_⟩)) (by repeat' (first |exact rfl |exact trivial |exact cr |exact Cv.nil _ |exact⟨rfl,rfl⟩ |refine⟨_,_,rfl,?_,?_⟩ |refine⟨?_,?_⟩))) (zdu (t:=6) (mirR x o it) rfl rfl),?_⟩
 exact⟨_,rfl,cr⟩
theorem z7i(x:CtxP)(o:Leaf)(it:List UInt8):zab Tryz.prog 34 [.ptr (mirR x o it)] (.r (.ag (epR x o))):=by
 refine zaa (T:=Tab) mixed Tab_ok Tryz.func34 rfl (by kernel_rfl) ?_
 refine Vdraw.mk' (by kernel_rfl) ?_
 refine zg rfl ?_
 refine zg rfl ?_
 refine zd (m:=0) rfl (by decide) ?_
 refine zm i00 i01 rfl ?_
 refine za rfl rfl ?_
 refine za rfl rfl ?_
 exact cr
theorem zou(x:CtxP)(o:Leaf)(it:List UInt8):zab Tryz.prog 7 [.ptr (mirR x o it)] (.r (.tu [.i .u64 x.epoch, .i .u64 x.epoch])):=by
 refine zaa (T:=Tab) mixed Tab_ok Tryz.func7 rfl (by kernel_rfl) ?_
 refine Vfun.pn _ rfl rfl rfl Tryz.underlying25 (zq ?_)
 refine Vdraw.code (Vcode.float mixed Tab_ok 13 [⟨0,6, .r (.ptr (mirR x o it)),[]⟩,⟨1,7, .r (.ptr (mirR x o it)),[0]⟩,⟨2,8, .r (.ptr (mirR x o it)),[1]⟩,⟨3,9, .r (.sl 5 1 (epR x o)),[2]⟩,⟨4,10, .r (.ptr (epR x o)),[3]⟩,⟨5,11, .r (.ptr (epR x o)),[4]⟩,⟨6,12, .r (.ptr ((epR x o).drop 1)),[5]⟩,⟨7,13, .r (.i .u64 x.epoch),[6]⟩,⟨8,14, .r (.ptr (mirR x o it)),[]⟩,⟨9,15, .r (.ag (epR x o)),[8]⟩,⟨10,16, .r (.ag x.c),[9]⟩,⟨11,17, .r (.i .u64 x.epoch),[10]⟩,⟨12,2, .r (.i .u64 x.epoch),[7]⟩] [] (by kernel_rfl) (F:=[(0, .r (.ptr (mirR x o it)))]) (O:=[]) (nx:=0) (zad [] rfl ⟨cr,trivial⟩ trivial) ?_)
 refine⟨rfl,⟨λY=>zo _,λY=>zo _,λY=>zo _,λY=>zg rfl (zo _),λY=>zm i00 i01 rfl (zo _),λY=>zo _,λY=>zo _,λY=>zg rfl (zo _),λY=>zo _,λY=>ze (z7i x o it) (zo _),λY=>Vsem.fieldN Tab_ok rfl rfl rfl rfl rfl rfl rfl (Nat.le_of_ble_eq_true rfl) rfl (zo _),λY=>Vsem.field Tab_ok rfl rfl rfl rfl rfl rfl rfl rfl (zo _),λY=>zo _,trivial⟩,?_⟩
 exact⟨_,rfl,cr⟩
theorem z2n(x:CtxP)(o:Leaf)(it:List UInt8)(hx:x.epoch=0):zab Tryz.prog 35 [.ptr (mirR x o it), .i .u64 0] (.r (.tu [I 0,Er 0])):=by
 have c:=zou x o it
 rw[hx]at c
 refine zaa (T:=Tab) mixed Tab_ok Tryz.func35 rfl (by kernel_rfl) ?_
 refine ze c ?_
 refine Vfun.pn _ rfl rfl rfl Tryz.underlying25 (zq ?_)
 refine zu rfl (zq ?_)
 refine zu rfl (zq ?_)
 refine Vint.u64 (n:=0) rfl (by decide) ?_
 refine zd (m:=0) rfl (by decide) ?_
 exact⟨_,rfl,cr⟩
theorem zvn(l:List UInt8)(hl:l.length<=1048576):zab Tryz.prog 37 [bs l,Er 0] (.r (.tu [bs l,Er 0])):=by
 refine zaa (T:=Tab) mixed Tab_ok Tryz.func37 rfl (by kernel_rfl) ?_
 refine zu rfl (zq ?_)
 refine zu (by simp only[zb];omega) (zq ?_)
 exact⟨_,rfl,cr⟩
theorem z0x(x:CtxP)(o:Leaf)(it:List UInt8)(hx:x.epoch=0)(ho:o.fit)(hr:o.right=true)(hl:(oneB 1 o).length<=1048576):zab Tryz.prog 8 [.ptr (mirR x o it), .i .u64 0,I 0] (.r (.tu [bs (oneB 1 o),Er 0])):=by
 have c1:=z2n x o it hx
 have c2:=z4k o ho hr
 have c3:=zyd o ho hr
 have c4:=zvn _ hl
 refine zaa (T:=Tab) mixed Tab_ok Tryz.func8 rfl (by kernel_rfl) ?_
 refine ze c1 ?_
 refine zu rfl (zq ?_)
 refine zg rfl ?_
 refine zm i00 i01 rfl ?_
 refine zg rfl ?_
 refine ze c2 ?_
 refine zu rfl (zq ?_)
 refine za rfl rfl ?_
 refine ze c3 ?_
 refine ze c4 ?_
 exact⟨_,rfl,cr⟩
theorem z0w(x:CtxP)(o:Leaf)(it:List UInt8)(hx:x.epoch=0):zab Tryz.prog 9 [.ptr (mirR x o it), .i .u64 0,I 0] (.r (.tu [bs [],Er 18])):=by
 have c1:=z2n x o it hx
 refine zaa (T:=Tab) mixed Tab_ok Tryz.func9 rfl (by kernel_rfl) ?_
 refine ze c1 ?_
 refine zu rfl (zq ?_)
 refine zt rfl (zp ?_)
 exact⟨_,rfl,Cv.tu (zk (Cv.nil 1) (zn _))⟩
theorem z39(g:GrpV)(hg:g.ok zjc):zab Tryz.prog 33 [.ptr (zh7 (.sl 1 1 [.ptr (grR g.v g.o g.sg)]) 1)] (.r (.tu [.ptr (mirR g.v.ctx g.o g.v.interim), .b true])):=by
 have hf:=hg.fit
 have ht:g.v.ctx.tree=hash1 g.o:=by rw[hg.ctx]
 have c1:=z4r g.v g.o g.sg hg.sm hf hg.sg
 have c2:=z7h g.v.ctx g.o g.v.interim ⟨by have:=hg.sm.group;omega,by rw[hg.ctx];show 0<18446744073709551616;decide,by have:=hg.sm.tree;omega,by have:=hg.sm.trans;omega⟩ ht hf hg.right hg.sm.interim
 refine zaa (T:=Tab) mixed Tab_ok Tryz.func33 rfl (by kernel_rfl) ?_
 refine zg rfl ?_
 refine zm i00 i01 rfl ?_
 refine zg rfl ?_
 refine ze c1 ?_
 refine za rfl rfl ?_
 refine ze c2 ?_
 refine zd (m:=0) rfl (by decide) ?_
 refine zt rfl ?_
 exact⟨_,rfl,cr⟩
theorem z5d{g:GrpV}(hg:g.ok zjc):(oneB 1 g.o).length<=1048576:=by
 have h1:=zlr g.o
 have h2:zcb (L1 g.o)=1::zkl g.o:=rfl
 have a1:=hg.box
 have a2:=hg.sign
 have a3:=hg.ident
 have a4:=hg.parent
 have a5:=hg.lsig
 simp only[oneB,h2,List.length_append,List.length_cons,List.length_nil,zam]
 omega
theorem zxt:zab Tryz.prog 6 [] (.r (.b true)):=by
 obtain⟨g,hg,cb⟩:=zxv
 have c1:=z39 g hg
 have he:g.v.ctx.epoch=0:=by rw[hg.ctx]
 have c2:=zou g.v.ctx g.o g.v.interim
 rw[he]at c2
 have c3:=z0w g.v.ctx g.o g.v.interim he
 have c4:=z0x g.v.ctx g.o g.v.interim he hg.fit hg.right (z5d hg)
 refine zaa (T:=Tab) mixed Tab_ok Tryz.func6 rfl (by kernel_rfl) ?_
 refine ze cb ?_
 refine zu rfl (zq ?_)
 refine ze c1 ?_
 refine zu rfl (zq ?_)
 refine ze c2 ?_
 refine ze c3 ?_
 refine ze c4 ?_
 refine zt rfl ?_
 refine zt rfl ?_
 refine zd (m:=18) rfl (by decide) ?_
 refine zt rfl ?_
 refine zd (m:=0) rfl (by decide) ?_
 refine zt rfl ?_
 exact cr
theorem zk6:zab Tryz.prog 7 [np] (.r (.tu [.i .u64 0, .i .u64 0])):=by
 refine zaa (T:=Tab) mixed Tab_ok Tryz.func7 rfl (by kernel_rfl) ?_
 refine Vfun.nn _ rfl rfl rfl Tryz.underlying25 (zp ?_)
 exact⟨_,rfl,cr⟩
theorem zki(n:Int):zab Tryz.prog 35 [np, .i .u64 n] (.r (.tu [I 0,Er 2])):=by
 refine zaa (T:=Tab) mixed Tab_ok Tryz.func35 rfl (by kernel_rfl) ?_
 refine ze zk6 ?_
 refine Vfun.nn _ rfl rfl rfl Tryz.underlying25 (zp ?_)
 exact⟨_,rfl,cr⟩
theorem zvq(n i:Int):zab Tryz.prog 8 [np, .i .u64 n,I i] (.r (.tu [bs [],Er 2])):=by
 refine zaa (T:=Tab) mixed Tab_ok Tryz.func8 rfl (by kernel_rfl) ?_
 refine ze (zki n) ?_
 refine zt rfl (zp ?_)
 exact⟨_,rfl,Cv.tu (zk (Cv.nil 1) (zn _))⟩
theorem zvo(n i:Int):zab Tryz.prog 9 [np, .i .u64 n,I i] (.r (.tu [bs [],Er 2])):=by
 refine zaa (T:=Tab) mixed Tab_ok Tryz.func9 rfl (by kernel_rfl) ?_
 refine ze (zki n) ?_
 refine zt rfl (zp ?_)
 exact⟨_,rfl,Cv.tu (zk (Cv.nil 1) (zn _))⟩
theorem zvp(n i:Int):zab Tryz.prog 10 [np, .i .u64 n,I i] (.r (.tu [bs [],Er 2])):=by
 refine zaa (T:=Tab) mixed Tab_ok Tryz.func10 rfl (by kernel_rfl) ?_
 refine ze (zki n) ?_
 refine zt rfl (zp ?_)
 exact⟨_,rfl,Cv.tu (zk (Cv.nil 1) (zn _))⟩
theorem zx1(n:Int):zab Tryz.prog 11 [np, .i .u64 n] (.r (.tu [bs [],Er 2])):=by
 refine zaa (T:=Tab) mixed Tab_ok Tryz.func11 rfl (by kernel_rfl) ?_
 refine ze (zki n) ?_
 refine zt rfl (zp ?_)
 exact⟨_,rfl,Cv.tu (zk (Cv.nil 1) (zn _))⟩
theorem zs6(b:RV):zab Tryz.prog 12 [np,b] (.r (Er 2)):=by
 refine zaa (T:=Tab) mixed Tab_ok Tryz.func12 rfl (by kernel_rfl) ?_
 refine Vfun.nn _ rfl rfl rfl Tryz.underlying25 (zp ?_)
 exact cr
theorem zq3:zab Tryz.prog 14 [np] (.r (.ag [ns, .i .u64 0,ns,ns])):=by
 refine zaa (T:=Tab) mixed Tab_ok Tryz.func14 rfl (by kernel_rfl) ?_
 refine Vfun.nn _ rfl rfl rfl Tryz.underlying25 (zp ?_)
 refine za rfl rfl ?_
 exact cr
set_option maxHeartbeats 1000000 in
theorem zs5(b:List UInt8)(n i:Int):zab Tryz.prog 3 [bs b, .i .u64 n,I i] (.r (.b true)):=by
 refine zaa (T:=Tab) mixed Tab_ok Tryz.func3 rfl (by kernel_rfl) ?_
 refine ze zxt ?_
 refine zu rfl (zq ?_)
 refine ze zk6 ?_
 refine ze (zvq n i) ?_
 refine ze (zvo n i) ?_
 refine ze (zvp n i) ?_
 refine ze (zx1 n) ?_
 refine ze (zs6 _) ?_
 refine zd (m:=2) rfl (by decide) ?_
 refine zt rfl ?_
 refine zt rfl ?_
 refine zt rfl ?_
 refine ze zq3 ?_
 refine ze z4v ?_
 refine zd (m:=2) rfl (by decide) ?_
 refine zt rfl ?_
 refine zd (m:=2) rfl (by decide) ?_
 refine zt rfl ?_
 refine zd (m:=2) rfl (by decide) ?_
 refine zt rfl ?_
 refine zd (m:=2) rfl (by decide) ?_
 refine zt rfl ?_
 refine zd (m:=0) rfl (by decide) ?_
 refine zd (m:=0) rfl (by decide) ?_
 refine zd (m:=0) rfl (by decide) ?_
 refine zt rfl ?_
 exact cr
end
section
open Go.ChangeShapes Go.WideShapes Go.ChangeAt Go.RowKit
def mirrorNilC0:List Nat:=[3,6,32,100,101,52,16,17,55,132,109,207,208,113,217,347,245,23,74,72,73,155,154,273,274,275,401,403,487,402,58,134,246,242,133,135,248,249,381,384,247,379,380,478,378,477,257,388,250,382,397,383,387,251,386,479,521,547,522,385,59,136,252,256]
def mirrorNilC1:List Nat:=[390,389,472,261,253,138,260,265,394,480,481,483,482,523,484,524,525,548,264,392,393,395,396,471,470,519,137,254,255,258,259,139,60,140,53,141,142,215,62,147,146,267,266,268,61,143,262,391,144,145,128,127,263,125,46,124,111,210,209,340,451,452,211,112]
def mirrorNilC2:List Nat:=[214,344,345,346,216,212,341,453,342,213,296,413,414,302,419,308,343,454,450,455,239,376,205,339,206,377,56,54,131,183,243,130,244,57,49,33,26,80,162,284,181,163,189,317,164,82,118,226,227,359,447,331,98,360,228,230,361,464,362,363,229,364,465,517]
def mirrorNilC3:List Nat:=[466,467,468,518,165,167,129,240,241,166,42,115,116,221,223,350,458,516,459,348,219,222,349,456,457,224,351,352,460,225,354,355,353,218,461,356,462,357,358,463,117,114,220,102,51,7,34,9,35,36,103,95,188,196,195,322,323,440,439,309,324,110,104,198]
def mirrorNilC4:List Nat:=[327,197,325,441,326,443,514,515,442,506,507,542,508,543,544,509,545,546,559,510,511,512,513,199,328,39,107,105,200,201,329,444,330,108,203,204,334,335,336,337,338,333,332,445,446,448,449,37,8,38,106,202,10,40,11,41,12,43,119,231,120,232,365,469]
def mirrorNilC5:List Nat:=[366,368,367,44,84,168,121,122,233,45,86,170,285,169,87,171,286,405,172,287,406,288,289,173,191,318,290,174,291,407,408,409,292,410,293,411,488,489,527,549,175,123,234,301,418,369,473,370,474,235,236,372,373,299,476,475,520,371,237,238,375,374,47,126]
def mirrorNilC6:List Nat:=[48,14,13,50]
def mirrorNilC:List Nat:=mirrorNilC0++(mirrorNilC1++(mirrorNilC2++(mirrorNilC3++(mirrorNilC4++(mirrorNilC5++(mirrorNilC6))))))
theorem zf1:Tryz.prog.closure 3=mirrorNilC:=by rw[zw9];kernel_rfl
noncomputable def mirrorNilIn (g:Nat):Option String:=(Tryz.prog.funcs[g]?).bind λfn=>if fn.ours||fn.body.isNone||fn.name== "runtime.NumGoroutine" then some fn.name else none
theorem zrq:(Rows.mirrorNilRow.inPlace==Tryz.prog.inPlace 3)=true:=by
 unfold Program.inPlace
 rw[zf1]
 have h:mirrorNilC.filterMap mirrorNilIn=Rows.mirrorNilRow.inPlace:=by kernel_rfl
 exact beq_iff_eq.2 h.symm
theorem zjr:Tryz.prog.unfollowed 3=true:=by
 unfold Program.unfollowed
 rw[zf1]
 exact List.any_eq_true.2 ⟨380,List.contains_iff_mem.1 (by kernel_rfl),by kernel_rfl⟩
theorem zp2:(Rows.mirrorNilRow.unfollowed==Tryz.prog.unfollowed 3)=true:=by rw[zjr];rfl
theorem zp1:(Rows.mirrorNilRow.recurses==Tryz.prog.recurses 3)=true:=by unfold Program.recurses;rw[zjr];rfl
noncomputable def mirrorNilGn (g:Nat):List Nat:=((Tryz.prog.funcs[g]?).bind (·.body)).elim [] Code.globalsNamed
theorem zpu:mirrorNilC0.flatMap mirrorNilGn=[]:=by kernel_rfl
theorem zpv:mirrorNilC1.flatMap mirrorNilGn=[]:=by kernel_rfl
theorem zpw:mirrorNilC2.flatMap mirrorNilGn=[]:=by kernel_rfl
theorem zpx:mirrorNilC3.flatMap mirrorNilGn=[]:=by kernel_rfl
theorem zpy:mirrorNilC4.flatMap mirrorNilGn=[]:=by kernel_rfl
theorem zpz:mirrorNilC5.flatMap mirrorNilGn=[]:=by kernel_rfl
theorem zp0:mirrorNilC6.flatMap mirrorNilGn=[]:=by kernel_rfl
theorem zrp:mirrorNilC.flatMap mirrorNilGn=[]:=by simp only[mirrorNilC,List.flatMap_append,zpu,zpv,zpw,zpx,zpy,zpz,zp0,List.append_nil]
theorem zrr:(Rows.mirrorNilRow.named==Tryz.prog.varsNamed 3)=true:=by
 unfold Program.varsNamed
 rw[zf1]
 have h:(mirrorNilC.filterMap λg=>(Tryz.prog.funcs[g]?).bind λfn=>if fn.body.isNone then entryReads.lookup fn.name else none)=[]:=by kernel_rfl
 have k:(mirrorNilC.flatMap λg=>((Tryz.prog.funcs[g]?).bind (·.body)).elim [] Code.globalsNamed)=[]:=zrp
 rw[h,k];rfl
theorem zlv:joinedFacts Tryz.prog 3 Tryz.f3 Rows.mirrorNilSpec Rows.mirrorNilRow=true:=by
 unfold joinedFacts
 repeat' with_reducible apply andI
 all_goals first
  |with_reducible exact zmy
  |with_reducible exact zv7
  |with_reducible exact ztg
  |with_reducible exact zrq
  |with_reducible exact zp2
  |with_reducible exact zp1
  |with_reducible exact zrr
  |(rw[zv5];kernel_rfl)
  |kernel_rfl
end
section
open Go.ChangeShapes Go.WideShapes Go.ChangeAt Go.RowKit
set_option maxRecDepth 100000 in
theorem zlw(os:Os)(started:os.Started)(H:Type)(enc:TypeId×Value->H):
  ReturnsInHanded {} Tryz.checked os 3 .any (Rows.mirrorNilSpec.pre6 enc Tryz.prog Tryz.f3 Rows.mirrorNilRow.domain false) (Rows.mirrorNilSpec.post enc Tryz.prog Tryz.f3 false true false false):=by
 refine returnsInHanded_of_change_sized (C:=Tryz.checked) z1o started (by kernel_rfl) Tryz.func3
  (ChangeSpec.witness6 (enc:=enc) (C:=Tryz.checked) false ⟨#[], #[.slice none 0 0, .int .u64 0, .int .i64 0],[]⟩ 8 (by kernel_rfl) (by kernel_rfl) (by kernel_rfl) (by kernel_rfl)) ?_
 intro W base args ds gs before hval0 hW hcnd hsz0 _
 have hval: ∀(j:Nat) t v,Tryz.f3.params[j]?=some t->args[j]?=some v->Value.okWide Tryz.prog W .any base t v:=hval0
 have hW':=hW
 obtain⟨p,q,hA0,hV,rfl,hfz,hnd⟩:=hW
 have hA:DataW.TrodAll enc Tryz.prog W 0 (λ_=>true) true Tryz.f3.params.toList args.toList ds p:=hA0
 rw[Tryz.params3]at hA hval
 obtain⟨v0,vs0,d0,ds0,p0,q0,hargs,rfl,rfl,h0,r0⟩:=trodAll_cons hA
 obtain⟨v1,vs1,d1,ds1,p1,q1,rfl,rfl,rfl,h1,r1⟩:=trodAll_cons r0
 obtain⟨v2,vs2,d2,ds2,p2,q2,rfl,rfl,rfl,h2,r2⟩:=trodAll_cons r1
 obtain⟨rfl,rfl,rfl⟩:=trodAll_nil r2
 obtain rfl:args= #[v0,v1,v2]:=by cases args;simp_all
 obtain⟨rfl,rfl⟩:=trodVars_none hV
 obtain⟨a1,rfl,rfl,rfl,w1⟩:=open_int Tryz.underlying23 (hval 1 23 v1 rfl rfl) h1
 obtain⟨a2,rfl,rfl,rfl,w2⟩:=open_int Tryz.underlying3 (hval 2 3 v2 rfl rfl) h2
 have lt0: ∀x∈p0,x.block<W.heap.size:=by obtain⟨m,hm⟩:=h0;exact DataW.trod_lt m _ _ _ hm
 obtain⟨l0,hv0⟩:=zz6 (hval 0 22 v0 rfl rfl) h0
 clear hA0 hval0 hsz0
 refine((zs5 l0 a1 a2).2 W (allK W) [v0, .int .u64 a1, .int .i64 a2] (by simp only[RV.partsAt];exact⟨_,_,rfl,hv0,_,_,rfl,rfl,_,_,rfl,rfl,rfl⟩)).mono λe W' ⟨v,he,bel,k',_,hr⟩=>?_
 have hr':v= .bool true:=by simpa[Res.at_,RV.at_]using hr
 subst hr';subst he
 exact⟨_,rfl,_,_,_,[],_,[],hW',trodAll_mk1 (shut_bool Tryz.underlying4 _),(trodAll_cons_mk (Below.trod z1a (by kernel_rfl) (of_decide_eq_true (by kernel_rfl)) h0 bel lt0) (trodAll_cons_mk (shut_int Tryz.underlying23 w1) (trodAll_cons_mk (shut_int Tryz.underlying3 w2) trodAll_mk0))),rfl,bel.frame _,λh=>by cases h⟩
theorem mirrorNil_holds:Rows.MirrorNilSaid:=
 OpenClaim.holds_of_wide 3 Tryz.f3 rfl rfl rfl rfl rfl rfl rfl ⟨rfl,rfl,rfl,rfl,rfl⟩ rfl rfl rfl rfl rfl (by kernel_rfl) Tryz.func3 zlv
  (of_decide_eq_true (by kernel_rfl)) (by unfold Func.isWrapper;first |(rw[if_pos (by decide+kernel)];kernel_rfl) |(rw[if_neg (by decide+kernel)];exact⟨rfl,rfl⟩))
  (λos started H enc _=>zlw os started H enc)
#print axioms mirrorNil_holds
end
end Go.Proofs.YtebhngeddnnpkaaGreat.Sx
