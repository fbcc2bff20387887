import Derived.Test.YtkegaaonpekkgaaGreatXqTl
import Derived.WideShapes
import Derived.Test.YtkegaaonpekkgaaGreatXqEt
import Derived.Test.YtkegaaonpekkgaaGreatXqSxU
namespace Go.Proofs.YtkegaaonpekkgaaGreat.Sx
open Go.RowKit
section
open Go.RowKit Go.Maps Go.Sort Go.Shelf
def fP(f:FuncId)(ents:List (Int×RV)):Stable where
 at_ w k v:=∃b m,v= .func (.func f) #[] #[.pointer (some ⟨b,0,none⟩)]/\b<w.heap.size/\0<k b/\w.cell? ⟨b,0,none⟩=some m/\(wD ents).at_ w k m
 mono:=λh ⟨b,m,e,hb,hk,hc,hm⟩=>⟨b,m,e,bN hb h.size,bN hk (h.keep b hb),(h.cell b 0 hb hk).trans hc,(wD ents).mono h hm⟩
 one:=by rintro w k v ⟨b,m,rfl,_⟩;rfl
def xS(l:List Int):List Int:=l.mergeSort leI
theorem XQ{ents:List (Int×RV)}{P:Program}{f fi:FuncId}{t:TypeId}(hk:mI P f)(hc: ∀mb w,Calls P f #[.map mb] w λe w'=>e= .returned (.func (.func fi) #[] #[.pointer (some ⟨w.heap.size,0,none⟩)])/\w'=w.alloc (.cells #[.map mb] t)):zW P f [.s (wD ents)] (.r (.s (fP fi ents))):=by
 refine⟨hk,λw k vs hp=>?_⟩
 obtain⟨a,rfl,h1⟩:=UP hp
 simp only[RV.at_]at h1
 have hmb: ∃mb,a= .map mb:=by
  rcases h1 with⟨rfl,_⟩ |⟨b,_,_,rfl,_⟩
  ·exact⟨none,rfl⟩
  ·exact⟨some b,rfl⟩
 obtain⟨mb,rfl⟩:=hmb
 refine(hc mb w).mono ?_
 rintro e w' ⟨rfl,rfl⟩
 have hle:=Ext.le (vj w (.cells #[.map mb] t)) (k:=k) (k':=x6 k w.heap.size 1) λb hb=>wR b hb
 refine⟨_,rfl,vj w _,x6 k w.heap.size 1,λb hb=>wR b hb,?_⟩
 simp only[Res.at_,RV.at_]
 refine⟨w.heap.size,.map mb,rfl,by simp,by rw[wo];omega,?_,(wD ents).mono hle h1⟩
 rw[cell_of_row (w.alloc (.cells #[.map mb] t)) w.heap.size 0 #[.map mb] t (0,0) (heap_alloc_new w _)]
 rfl
theorem SW(ents:List (Int×RV)):aG 375 [.s (wD ents)] (.r (.s (fP 454 ents))):=
 XQ (t6 Tryz.func375 rfl (by kernel_rfl)) λmb w=>(callsIn_wide (n:=5)).1 (AnyZI.keys_in Pw Fence.wide 5 trivial rfl mb w)
theorem SV(ents:List (Int×RV)):aG 376 [.s (wD ents)] (.r (.s (fP 455 ents))):=
 XQ (t6 Tryz.func376 rfl (by kernel_rfl)) λmb w=>(callsIn_wide (n:=5)).1 (AnyZI.keys_in Px Fence.wide 5 trivial rfl mb w)
theorem Tw(m:Nat):AnyZI.SortsIn aP eV Fence.wide m:=
 ⟨λblk off cap ss W hH hblk hsz=>callsIn_wide.2 (AnyM.slices_Sort_int Ht blk off cap ss W hH hblk hsz),
 λp cap W=>callsIn_wide.2 (AnyM.slices_Sort_int_none Ht p cap W)⟩
abbrev Ho:Value->Option (DataW Unit×List MemPlace):=λ_=>some (.nil,[])
theorem Fg{P:Program}{ti:TypeId}(hu:P.underlying ti=some (.int .i64)){ents:List (Int×RV)}{w:World}{k:Kp}{b:Nat}{es:Array MapEntry}{c:Nat}(hl:ents.length<=1000000)(hi: ∀x∈ents,i64 x.1)(hh:w.heap[b]?=some (.map es c))(he:entsAt w k ents es.toList)(hst:stampE es c):
  ∃D0:DataW Unit,w.ownsMap P ti Ho b es.size D0/\(intKeys D0).Perm (ents.map (·.1))/\Maps.size D0=ents.length:=by
 have hkey: ∀(j:Nat) (x:MapEntry),es.toList[j]?=some x->∃y,ents[j]?=some y/\Go.WideElems.rd P ti Ho x=some (.int .i64 y.1,.nil):=λj x hx=>by
  have hj:=(List.getElem?_eq_some_iff.1 hx).1
  have hj2:j<ents.length:=by rw[<-he.1];exact hj
  have h1:=he.2 j _ x (bA hj2) hx
  refine⟨_,bA hj2,?_⟩
  have hb:=hi _ (bY hj2)
  have hwf:(Lit.int .i64 ents[j].1).wf=true:=by
   unfold i64 at hb
   simp[Lit.wf,IntKind.min,IntKind.max,IntKind.signed,IntKind.bits]
   omega
  unfold Go.WideElems.rd
  simp[keyOf,hu,mapKey,h1.1,hwf]
 have hmap:es.toList.map (Go.WideElems.rg P ti Ho)=ents.map λy=>((.int .i64 y.1:Lit),(.nil:DataW Unit)):=by
  apply List.ext_getElem?
  intro j
  rw[bR,bR]
  cases hx:es.toList[j]? with
  |none=>
   have:ents[j]?=none:=by rw[List.getElem?_eq_none_iff]at hx⊢;rw[<-he.1];exact hx
   rw[this];rfl
  |some x=>
   obtain⟨y,hy,hr⟩:=hkey j x hx
   rw[hy]
   simp only[Option.map_some]
   congr 1
   unfold Go.WideElems.rg
   rw[hr]
   rfl
 refine⟨_,⟨es,c,hh,⟨?_,hst,λx hx=>?_⟩,bQ _,rfl⟩,?_,?_⟩
 ·have:es.size=ents.length:=by rw[<-bG];exact he.1
  simp only[maxLen]
  omega
 ·obtain⟨j,hj⟩:=List.getElem?_of_mem hx
  obtain⟨y,_,hr⟩:=hkey j x hj
  exact⟨_,hr⟩
 ·rw[hmap]
  simp only[intKeys]
  refine((Go.WideShapes.sorted_perm _).map _).trans ?_
  rw[List.map_map]
  exact List.Perm.of_eq (List.map_congr_left λy _=>rfl)
 ·simp only[Maps.size]
  rw[(Go.WideShapes.sorted_perm _).length_eq,hmap,bC]
theorem ZT{w w':World}{k:Kp}{l ss:List Int}{v:Value}(hp:ss.Perm l)(hrow:w'.ownsRow w.heap.size 3 1 v ss.length ((ss.mergeSort (λx y=>decide (x<=y))).map encZ))(hb:Below w.heap.size w w'):
  ∃v',Ending.returned v= .returned v'/\Ext w w'/\∃k':Kp,(∀b,b<w.heap.size->k' b=k b)/\(Uh (xS l)).at_ w.heap.size w' k' v':=by
 have hs:ss.mergeSort (λx y=>decide (x<=y))=xS l:=mergeSort_of_perm_i hp
 rw[hs]at hrow
 have hlen:ss.length=(xS l).length:=by unfold xS;rw[List.length_mergeSort,hp.length_eq]
 rw[hlen]at hrow
 refine⟨v,rfl,hb,?_⟩
 obtain⟨_,h⟩:=hrow
 rcases h with⟨rfl,h0⟩ |⟨g,cap,cur,rfl,hbase,hh,r1,r2,r3,r4⟩
 ·refine⟨k,λ_ _=>rfl,none,⟨by simp,.inl ⟨rfl,.inl ⟨h0,none,rfl⟩⟩⟩,λb hb=>by cases hb⟩
 ·refine⟨x6 k g (xS l).length,λb hb=>by simp only[x6];rw[cQ (by omega)],some g,⟨by simp,.inr ⟨g,cap,cur,rfl,rfl,hh,r1,r2,Nat.le_of_eq r3.symm,by simp[x6],?_⟩⟩,λb hb=>by cases hb;exact hbase⟩
  rw[cL]at r4⊢
  rw[r4]
  exact ZD (λx w k v=>by simp[RV.at_]) (λ_=>rfl) _
set_option maxRecDepth 100000 in
theorem eW(ents:List (Int×RV))(hl:ents.length<=1000000)(hi: ∀x∈ents,i64 x.1)(fi:FuncId)(eg: ∀args w,(callFunc fi args).run aP w= .ok (.enter fi args) w)
  (hnil: ∀(b:Nat) (w:World),b<w.heap.size->w.cell? ⟨b,0,none⟩=some (.map none)->SeqGives Fence.wide 2 aP fi #[.pointer (some ⟨b,0,none⟩)] encZ (λss:List Int=>ss=[]) 0 w)
  (hsome: ∀(b bm nn:Nat) (D0:DataW Unit) (w:World),b<w.heap.size->w.cell? ⟨b,0,none⟩=some (.map (some bm))->w.ownsMap aP 3 Ho bm nn D0->SeqGives Fence.wide 2 aP fi #[.pointer (some ⟨b,0,none⟩)] encZ (λss:List Int=>ss.Perm (intKeys D0)) (Maps.size D0) w):
  aG 374 [.s (fP fi ents)] (Uh (xS (ents.map (·.1)))):=by
 refine⟨t6 Tryz.func374 rfl (by kernel_rfl),λw k vs hp=>?_⟩
 obtain⟨a,rfl,h1⟩:=UP hp
 simp only[RV.at_]at h1
 obtain⟨b,m,rfl,hb,hkb,hc,hm⟩:=h1
 rcases hm with⟨rfl,rfl⟩ |⟨bm,es,c,rfl,hbm,hkm,hh,he,hst⟩
 ·have cS:=AnyZI.sorted_in RJ Fence.wide 5 trivial trivial trivial trivial rfl (by omega) (Tw _) (enters_of Tryz.func453 (by kernel_rfl) rfl) fi #[.pointer (some ⟨b,0,none⟩)] trivial eg _ 0 (Nat.zero_le _) (by omega) w (hnil b w hb hc)
  refine(callsIn_wide.1 cS).mono ?_
  rintro e w' ⟨v,ss,rfl,rfl,hrow,_,hbl⟩
  exact ZT (List.Perm.refl _) hrow hbl
 ·obtain⟨D0,hown,hperm,hsz⟩:=Fg nJ hl hi hh he hst
  have cS:=AnyZI.sorted_in RJ Fence.wide 5 trivial trivial trivial trivial rfl (by omega) (Tw _) (enters_of Tryz.func453 (by kernel_rfl) rfl) fi #[.pointer (some ⟨b,0,none⟩)] trivial eg _ (Maps.size D0) (by rw[hsz];simp only[maxLen];omega) (by rw[hsz];omega) w (hsome b bm _ D0 w hb hc hown)
  refine(callsIn_wide.1 cS).mono ?_
  rintro e w' ⟨v,ss,rfl,hS,hrow,_,hbl⟩
  exact ZT (hS.trans hperm) hrow hbl
theorem X6(ents:List (Int×RV))(hl:ents.length<=1000000)(hi: ∀x∈ents,i64 x.1):aG 374 [.s (fP 454 ents)] (Uh (xS (ents.map (·.1)))):=
 eW ents hl hi _ (enters_of Tryz.func454 (by kernel_rfl) rfl)
  (λb w hb hc=>AnyZI.keys_gives_nil (ρ:=gB) {Pw with} Fence.wide _ trivial rfl b w hb hc)
  (λb bm nn D0 w hb hc hown=>AnyZI.keys_gives (ρ:=gB) {Pw with} Fence.wide _ trivial rfl (by omega) b bm nn D0 w hb hc hown)
theorem X5(ents:List (Int×RV))(hl:ents.length<=1000000)(hi: ∀x∈ents,i64 x.1):aG 374 [.s (fP 455 ents)] (Uh (xS (ents.map (·.1)))):=
 eW ents hl hi _ (enters_of Tryz.func455 (by kernel_rfl) rfl)
  (λb w hb hc=>AnyZI.keys_gives_nil (ρ:=gC) {Px with} Fence.wide _ trivial rfl b w hb hc)
  (λb bm nn D0 w hb hc hown=>AnyZI.keys_gives (ρ:=gC) {Px with} Fence.wide _ trivial rfl (by omega) b bm nn D0 w hb hc hown)
end
inductive PR (α:Type)where
 |err (e:Nat)
 |ok (a:α) (r:cT)
def wi(n:Nat)(l:cT):Nat:=l.foldl (λn c=>256*n+c.toNat) n
theorem Mo(n:Nat){l:cT}{j:Nat}(hj:j<l.length):wi n (l.take (j+1))=256*wi n (l.take j)+l[j].toNat:=Qx (f:=λn (c:UInt8)=>256*n+c.toNat) hj
theorem kU: ∀(l:cT) (n b:Nat),n<b->wi n l<b*256^l.length
 |[],n,b,h=>by simpa[wi]using h
 |c::l,n,b,h=>by
  have hc:=c.toNat_lt
  have:=kU l (256*n+c.toNat) (256*b) (by omega)
  rw[bJ,Nat.pow_succ]
  have e:b*(256^l.length*256)=256*b*256^l.length:=by rw[Nat.mul_comm (256^l.length),<-Nat.mul_assoc,Nat.mul_comm b]
  rw[e]
  exact this
def yN(c:UInt8):Nat:=if 128<=c.toNat then 3 else if 64<=c.toNat then 1 else 0
def vp:cT->PR Nat
 |[]=> .err 4
 |c::r=>if 192<=c.toNat then .err 3 else if r.length<yN c then .err 4 else
  if vX (wi (c.toNat%64) (r.take (yN c)))≠yN c+1 then .err 3 else .ok (wi (c.toNat%64) (r.take (yN c))) (r.drop (yN c))
def wy(l:cT):PR cT:=match vp l with
 | .err e=> .err e
 | .ok n r=>if r.length<n then .err 4 else .ok (r.take n) (r.drop n)
theorem Uv{l r:cT}{n:Nat}(h:vp l= .ok n r): ∃j,r=l.drop j/\0<j/\j<=l.length/\n<1073741824:=by
 cases l with
 |nil=>simp[vp]at h
 |cons c s=>
  simp only[vp]at h
  split at h
  ·cases h
  ·split at h
   ·cases h
   ·split at h
    ·cases h
    ·rename_i h1 h2 h3
     injection h with e1 e2
     subst e1;subst e2
     refine⟨yN c+1,by simp,by omega,by simp;omega,?_⟩
     have h4:=kU (s.take (yN c)) (c.toNat%64) 64 (by omega)
     have h5:yN c<=3:=by unfold yN;split<;>(try split)<;>omega
     have h6:(256:Nat)^(s.take (yN c)).length<=256^3:=bV (by omega) (by rw[bL];omega)
     have:(256:Nat)^3=16777216:=by decide
     omega
theorem rT{l r v:cT}(h:wy l= .ok v r): ∃j,r=l.drop j/\0<j/\j<=l.length/\v.length<j:=by
 unfold wy at h
 cases hl:vp l with
 |err e=>rw[hl]at h;cases h
 |ok n s=>
  rw[hl]at h
  simp only at h
  split at h
  ·cases h
  ·rename_i hn
   injection h with e1 e2
   subst e1;subst e2
   obtain⟨j,rfl,h0,hj,_⟩:=Uv hl
   rw[bW]at hn
   exact⟨j+n,by rw[List.drop_drop],by omega,by omega,by rw[bL,bW];omega⟩
def AD(b r:cT):Int:=((b.length-r.length:Nat):Int)
def JT(v:cT):List RV:=[I 1,I 0,.i .u64 0,bs v,.x (.slice none 0 0)]
def AU(b:cT)(at_:Nat):List RV:=match wy (b.drop at_)with
 | .err e=>[.ag (JT []),I at_,I e]
 | .ok v r=>[.ag (JT v),I (AD b r),I 0]
def sW:Nat->cT->PR (List cT)
 |0,l=> .ok [] l
 |n+1,l=>match wy l with
  | .err e=> .err e
  | .ok v r=>match sW n r with
   | .err e=> .err e
   | .ok vs s=> .ok (v::vs) s
theorem KA{l:cT}{e:Nat}(h:vp l= .err e):e=3\/e=4:=by
 cases l with
 |nil=>simp only[vp,PR.err.injEq]at h;omega
 |cons c s=>
  simp only[vp]at h
  split at h
  ·injection h with h;omega
  ·split at h
   ·injection h with h;omega
   ·split at h
    ·injection h with h;omega
    ·cases h
theorem iA{l:cT}{e:Nat}(h:wy l= .err e):e=3\/e=4:=by
 unfold wy at h
 cases hq:vp l with
 |err e'=>rw[hq]at h;injection h with h;subst h;exact KA hq
 |ok m s=>
  rw[hq]at h
  simp only at h
  split at h
  ·injection h with h;omega
  ·cases h
theorem Wx: ∀(n:Nat) {l:cT} {e:Nat},sW n l= .err e->e=3\/e=4
 |0,l,e,h=>by cases h
 |n+1,l,e,h=>by
  simp only[sW]at h
  cases hv:wy l with
  |err e'=>rw[hv]at h;injection h with h;subst h;exact iA hv
  |ok v r=>
   rw[hv]at h
   simp only at h
   cases hw:sW n r with
   |err e'=>rw[hw]at h;injection h with h;subst h;exact Wx n hw
   |ok vs s=>rw[hw]at h;cases h
theorem AV(l:cT):sW 1 l=match wy l with | .err e=> .err e | .ok v r=> .ok [v] r:=by
 simp only[sW]
 all_goals (cases wy l<;>rfl)
def qW(vs:List cT)(c:UInt8)(par sig:cT):Leaf:=⟨vs.getD 0 [],vs.getD 1 [],vs.getD 2 [],c,par,sig⟩
def pH(c:UInt8)(r:cT):PR cT:=if c.toNat=3 then wy r else .ok [] r
def kP(vs:List cT)(c:UInt8)(par r:cT):PR Leaf:=match wy r with
 | .err e=> .err e
 | .ok sig r=>if(qW vs c par sig).right=true then .ok (qW vs c par sig) r else .err 3
def gD(vs:List cT):cT->PR Leaf
 |[]=> .err 4
 |c::r=>if c.toNat=0\/3<c.toNat then .err 3 else match pH c r with
  | .err e=> .err e
  | .ok par r=>kP vs c par r
def fQ(l:cT):PR Leaf:=match sW 3 l with
 | .err e=> .err e
 | .ok vs r=>gD vs r
theorem po:Cv (.ag [.x (.slice none 0 0),.x (.slice none 0 0),.x (.slice none 0 0),.i .u8 0,.x (.slice none 0 0),.x (.slice none 0 0)]) (.ag zl.c):=
 Cv.ag (zk (z8 1) (zk (z8 1) (zk (z8 1) (zk (cr) (zk (z8 1) (zk (z8 1) zA))))))
abbrev gS(c:RV)(e:Nat):Ow:= .box [.r c,.r (Er e)]
abbrev v8(l:cT):List (Nat×Ow):=[(0,gS (bs l) 0)]
abbrev pe(e:Nat):List (Nat×Ow):=[(0,gS .any e)]
theorem pT:Tryz.prog.underlying 363=some (.pointer 455):=by kernel_rfl
theorem xH(c c':RV)(e e':Nat)(v:Value):mZ [(0,gS c e)] [(0,gS c' e')] [(0,v)]:=⟨⟨_,_,rfl,rfl,ym,ym⟩,trivial⟩
theorem af:Cv (.x (.slice none 0 0)) (bs []):=z8 1
theorem kv(v:Value)(l:cT)(e:Nat):yz aP 525 1 (v8 l) [.own 0,.r (Er e)] [(0,v)] 1 (pe e) (.r (.tu [])):=by
 refine yk (T:=Tab) mixed Tab_ok Tryz.func525 rfl (by kernel_rfl) rfl (xH _ _ _ _ _) ?_
 refine cY ?_
 exact yr (.inr rfl) [(0,0)] [] [] rfl ⟨⟨rfl,rfl⟩,trivial⟩ ⟨⟨_,_,rfl,trivial,_,_,rfl,cr,rfl⟩,trivial⟩ ⟨⟨1000000,rfl⟩,trivial⟩ ⟨_,rfl,cr⟩
theorem mf(v:Value)(l:cT):yz aP 406 1 (v8 l) [.own 0] [(0,v)] 1 (v8 l) (.r (Er 0)):=by
 refine yk (T:=Tab) mixed Tab_ok Tryz.func406 rfl (by kernel_rfl) rfl (xH _ _ _ _ _) ?_
 refine⟨⟨_,pT⟩,?_⟩
 refine zq ?_
 exact yr (.inl rfl) [(0,0)] [(2,.r (Er 0))] [] rfl ⟨cr,⟨rfl,rfl⟩,trivial⟩ ⟨(aB aZ),trivial⟩ ⟨⟨1000000,rfl⟩,trivial⟩ (cr)
theorem py(v:Value)(e:Nat):yz aP 406 1 (pe e) [.own 0] [(0,v)] 1 (pe e) (.r (Er e)):=by
 refine yk (T:=Tab) mixed Tab_ok Tryz.func406 rfl (by kernel_rfl) rfl (xH _ _ _ _ _) ?_
 refine⟨⟨_,pT⟩,?_⟩
 refine zq ?_
 exact yr (.inl rfl) [(0,0)] [(2,.r (Er e))] [] rfl ⟨cr,⟨rfl,rfl⟩,trivial⟩ ⟨⟨_,_,rfl,trivial,_,_,rfl,cr,rfl⟩,trivial⟩ ⟨⟨1000000,rfl⟩,trivial⟩ (cr)
theorem HS(v:Value)(l:cT):yz aP 482 1 (v8 l) [.own 0] [(0,v)] 1 (v8 l) (.r (I l.length)):=by
 refine yk (T:=Tab) mixed Tab_ok Tryz.func482 rfl (by kernel_rfl) rfl (xH _ _ _ _ _) ?_
 refine⟨⟨_,pT⟩,?_⟩
 refine zq ?_
 exact yr (.inl rfl) [(0,0)] [(2,.r (I l.length))] [] rfl ⟨cr,⟨rfl,rfl⟩,trivial⟩ ⟨(aB aZ),trivial⟩ ⟨⟨1000000,rfl⟩,trivial⟩ (cr)
theorem eI(l:cT):aG 300 [bs l] (.bx [bs l,Er 0]):=by
 refine aT Tryz.func300 rfl ?_
 rfl
theorem iF(v:Value)(e:Nat)(he:e≠0)(n:Int):yz aP 479 1 (pe e) [.own 0,.r (I n)] [(0,v)] 1 (pe e) (.r (.tu [bs [],.b false])):=by
 refine yk (T:=Tab) mixed Tab_ok Tryz.func479 rfl (by kernel_rfl) rfl (xH _ _ _ _ _) ?_
 refine⟨⟨_,pT⟩,?_⟩
 refine cY ?_ (by simp only[zb];omega)
 exact yr (.inl rfl) [(0,0)] [(4,.r (bs [])),(5,.r (.b false))] [] rfl ⟨af,cr,⟨rfl,rfl⟩,trivial⟩ ⟨⟨_,_,rfl,trivial,_,_,rfl,cr,rfl⟩,trivial⟩ ⟨⟨1000000,rfl⟩,trivial⟩ ⟨_,rfl,cr⟩
theorem rl(v:Value)(l:cT)(n:Nat)(hn:l.length<n):yz aP 479 1 (v8 l) [.own 0,.r (I n)] [(0,v)] 1 (pe 4) (.r (.tu [bs [],.b false])):=by
 refine yk (T:=Tab) mixed Tab_ok Tryz.func479 rfl (by kernel_rfl) rfl (xH _ _ _ _ _) ?_
 refine⟨⟨_,pT⟩,?_⟩
 refine cX ?_
 refine cX ?_ (by simp only[zb];omega)
 refine cY ?_ (by simp only[zb];omega)
 refine zj [(0,0)] [0] (λvs _=>kv (vs 0) l 4) (zi rfl ⟨_,_,rfl,rfl,_,_,rfl,cr,rfl⟩) rfl ⟨(aB aZ),trivial⟩ ⟨zY,trivial⟩ ?_
 exact yr (.inl rfl) [(0,0)] [(4,.r (bs [])),(5,.r (.b false))] [] rfl ⟨af,cr,⟨rfl,rfl⟩,trivial⟩ ⟨⟨_,_,rfl,trivial,_,_,rfl,cr,rfl⟩,trivial⟩ ⟨⟨1000000,rfl⟩,trivial⟩ ⟨_,rfl,cr⟩
theorem p9(v:Value)(l:cT)(n:Nat)(hn:n<=l.length):yz aP 479 1 (v8 l) [.own 0,.r (I n)] [(0,v)] 1 (v8 (l.drop n)) (.r (.tu [bs (l.take n),.b true])):=by
 refine yk (T:=Tab) mixed Tab_ok Tryz.func479 rfl (by kernel_rfl) rfl (xH _ _ _ _ _) ?_
 refine⟨⟨_,pT⟩,?_⟩
 refine cX ?_
 refine cX ?_ (by simp only[zb];omega)
 refine cX ?_ (by simp only[zb];omega)
 have e1:(l.take n).length=n:=by rw[bL];omega
 have e2:(l.drop n).length=l.length-n:=bW
 refine⟨by omega,by omega,by omega,n,(l.take n).map U8,by omega,by simp[List.map_take],?_⟩
 refine⟨by omega,by omega,by omega,l.length-n,(l.drop n).map U8,by omega,by rw[cL,cF,cL,<-List.map_drop,bF (by rw[bC];omega)],?_⟩
 have c1:RV.sl 1 n ((l.take n).map U8)=bs (l.take n):=by unfold bs;rw[e1]
 have c2:RV.sl 1 (l.length-n) ((l.drop n).map U8)=bs (l.drop n):=by unfold bs;rw[e2]
 exact yr (.inl rfl) [(0,0)] [(4,.r (bs (l.take n))),(5,.r (.b true))] [] rfl ⟨zf c1,cr,⟨rfl,rfl⟩,trivial⟩ ⟨⟨_,_,rfl,zf c2,_,_,rfl,cr,rfl⟩,trivial⟩ ⟨⟨1000000,rfl⟩,trivial⟩ ⟨_,rfl,cr⟩
theorem Vshl.byte{a:Int}{K:Int->Prop}(n:Nat)(ha:a=(n:Int))(hn:n<72057594037927936)(hK:K ((256*n:Nat):Int)):Vshl .u64 a 8 K:=by
 subst ha
 refine⟨by omega,_,?_,hK⟩
 have e:((n:Int)*2^(min (8:Int).toNat IntKind.u64.bits))=((256*n:Nat):Int):=by
  show((n:Int)*2^8)=_
  omega
 rw[e,mF (by omega)]
theorem Vbits.orByte{a b:Int}{K:Int->Prop}(n:Nat)(c:UInt8)(ha:a=((256*n:Nat):Int))(hb:b=(c.toNat:Int))(hn:n<72057594037927936)(hK:K ((256*n+c.toNat:Nat):Int)):Vbits .u64 .or a b K:=by
 subst ha;subst hb
 refine⟨_,?_,hK⟩
 have hc:=c.toNat_lt
 have e: ∀z:Nat,z<18446744073709551616->(BitVec.ofInt 64 (z:Int)).toNat=z:=λz hz=>by
  rw[BitVec.toNat_ofInt];omega
 show((256*n+c.toNat:Nat):Int)=IntKind.u64.wrap (((BitVec.ofInt 64 ((256*n:Nat):Int)|||BitVec.ofInt 64 (c.toNat:Int)).toNat:Nat):Int)
 rw[BitVec.toNat_or,e _ (by omega),e _ (by omega)]
 have h:(256*n|||c.toNat)=256*n+c.toNat:=by
  have:=Nat.two_pow_add_eq_or_of_lt (i:=8) (b:=c.toNat) (by omega) n
  rw[show(2:Nat)^8=256 from rfl]at this
  exact this.symm
 rw[h,mF (by omega)]
theorem oL(l:cT)(hl:l.length<=8):aG 480 [bs l] (.r (yQ (wi 0 l))):=by
 refine aT Tryz.func480 rfl ?_
 refine zy (λi:Nat=>⟨[(3,.r (yQ (wi 0 (l.take i)))),(6,.r (bs l)),(7,.r (I l.length)),(8,.r (I i))],[],0⟩) (λi=>i<=l.length) (λi=>l.length-i) 0 (Nat.zero_le _) (zM []) ?_
 intro i hi
 refine zh (λh=>?_) (λh=>?_)
 ·simp only[zb]at h
  have hlt:i<l.length:=by omega
  have hb:wi 0 (l.take i)<72057594037927936:=by
   have:=kU (l.take i) 0 1 (by omega)
   have h2:(256:Nat)^(l.take i).length<=256^7:=bV (by omega) (by rw[bL];omega)
   have:(256:Nat)^7=72057594037927936:=by decide
   omega
  refine zp ?_
  refine cV (xn rfl hlt) (zg rfl ?_)
  refine Vshl.byte _ rfl hb ?_
  refine zF l[i].toNat rfl (by have:=l[i].toNat_lt;omega) ?_
  refine Vbits.orByte _ l[i] rfl rfl hb ?_
  rw[<-Mo 0 hlt]
  refine zd (m:=((i+1:Nat):Int)) (by omega) (by omega) ?_
  exact⟨i+1,hlt,by omega,zM []⟩
 ·simp only[zb]at h
  refine zq ?_
  have e:l.take i=l:=bF (by omega)
  exact zf (by rw[e])
theorem OW(v:Value)(l:cT)(n:Nat)(h1:n=1\/n=2\/n=4\/n=8)(hn:n<=l.length):yz aP 408 1 (v8 l) [.own 0,.r (I n)] [(0,v)] 1 (v8 (l.drop n)) (.r (yQ (wi 0 (l.take n)))):=by
 refine yk (T:=Tab) mixed Tab_ok Tryz.func408 rfl (by kernel_rfl) rfl (xH _ _ _ _ _) ?_
 refine ze (WN n (by omega)) ?_
 refine cX ?_
 refine zj [(0,0)] [0] (λvs _=>p9 (vs 0) l n hn) (zi rfl ⟨_,_,rfl,rfl,_,_,rfl,cr,rfl⟩) rfl ⟨(aB aZ),trivial⟩ ⟨zY,trivial⟩ ?_
 refine ze (oL (l.take n) (by rw[bL];omega)) ?_
 exact yr (.inl rfl) [(0,0)] [(4,.r (yQ (wi 0 (l.take n))))] [] rfl ⟨cr,⟨rfl,rfl⟩,trivial⟩ ⟨(aB aZ),trivial⟩ ⟨⟨1000000,rfl⟩,trivial⟩ (cr)
theorem QD(v:Value)(l:cT)(n:Nat)(h1:n=1\/n=2\/n=4\/n=8)(hn:l.length<n):yz aP 408 1 (v8 l) [.own 0,.r (I n)] [(0,v)] 1 (pe 4) (.r (yQ 0)):=by
 refine yk (T:=Tab) mixed Tab_ok Tryz.func408 rfl (by kernel_rfl) rfl (xH _ _ _ _ _) ?_
 refine ze (WN n (by omega)) ?_
 refine cX ?_
 refine zj [(0,0)] [0] (λvs _=>rl (vs 0) l n hn) (zi rfl ⟨_,_,rfl,rfl,_,_,rfl,cr,rfl⟩) rfl ⟨(aB aZ),trivial⟩ ⟨zY,trivial⟩ ?_
 refine ze (oL [] (by simp)) ?_
 exact yr (.inl rfl) [(0,0)] [(4,.r (yQ 0))] [] rfl ⟨cr,⟨rfl,rfl⟩,trivial⟩ ⟨⟨_,_,rfl,trivial,_,_,rfl,cr,rfl⟩,trivial⟩ ⟨⟨1000000,rfl⟩,trivial⟩ (cr)
theorem mg(v:Value)(e:Nat)(he:e≠0)(n:Nat)(h1:n=1\/n=2\/n=4\/n=8):yz aP 408 1 (pe e) [.own 0,.r (I n)] [(0,v)] 1 (pe e) (.r (yQ 0)):=by
 refine yk (T:=Tab) mixed Tab_ok Tryz.func408 rfl (by kernel_rfl) rfl (xH _ _ _ _ _) ?_
 refine ze (WN n (by omega)) ?_
 refine cX ?_
 refine zj [(0,0)] [0] (λvs _=>iF (vs 0) e he n) (zi rfl ⟨_,_,rfl,rfl,_,_,rfl,cr,rfl⟩) rfl ⟨⟨_,_,rfl,trivial,_,_,rfl,cr,rfl⟩,trivial⟩ ⟨zY,trivial⟩ ?_
 refine ze (oL [] (by simp)) ?_
 exact yr (.inl rfl) [(0,0)] [(4,.r (yQ 0))] [] rfl ⟨cr,⟨rfl,rfl⟩,trivial⟩ ⟨⟨_,_,rfl,trivial,_,_,rfl,cr,rfl⟩,trivial⟩ ⟨⟨1000000,rfl⟩,trivial⟩ (cr)
theorem LI(v:Value)(l:cT)(n:Nat)(hl:l.length<=8000000000000)(hn:n<=l.length):yz aP 478 1 (v8 l) [.own 0,.r (I n)] [(0,v)] 1 (v8 (l.drop n)) (.r (bs (l.take n))):=by
 refine yk (T:=Tab) mixed Tab_ok Tryz.func478 rfl (by kernel_rfl) rfl (xH _ _ _ _ _) ?_
 refine zj [(0,0)] [0] (λvs _=>p9 (vs 0) l n hn) (zi rfl ⟨_,_,rfl,rfl,_,_,rfl,cr,rfl⟩) rfl ⟨(aB aZ),trivial⟩ ⟨zY,trivial⟩ ?_
 refine ze (x4 (l.take n) (by rw[bL];omega)) ?_
 exact yr (.inl rfl) [(0,0)] [(4,.r (bs (l.take n)))] [] rfl ⟨cr,⟨rfl,rfl⟩,trivial⟩ ⟨(aB aZ),trivial⟩ ⟨⟨1000000,rfl⟩,trivial⟩ (cr)
theorem V6(v:Value)(l:cT)(n:Nat)(hn:l.length<n):yz aP 478 1 (v8 l) [.own 0,.r (I n)] [(0,v)] 1 (pe 4) (.r (bs [])):=by
 refine yk (T:=Tab) mixed Tab_ok Tryz.func478 rfl (by kernel_rfl) rfl (xH _ _ _ _ _) ?_
 refine zj [(0,0)] [0] (λvs _=>rl (vs 0) l n hn) (zi rfl ⟨_,_,rfl,rfl,_,_,rfl,cr,rfl⟩) rfl ⟨(aB aZ),trivial⟩ ⟨zY,trivial⟩ ?_
 refine ze (x4 [] (by simp)) ?_
 exact yr (.inl rfl) [(0,0)] [(4,.r (bs []))] [] rfl ⟨cr,⟨rfl,rfl⟩,trivial⟩ ⟨⟨_,_,rfl,trivial,_,_,rfl,cr,rfl⟩,trivial⟩ ⟨⟨1000000,rfl⟩,trivial⟩ (cr)
theorem HQ(v:Value)(c:UInt8)(l:cT)(hc:c.toNat<=1):yz aP 483 1 (v8 (c::l)) [.own 0] [(0,v)] 1 (v8 l) (.r (.b (decide (c.toNat=1)))):=by
 refine yk (T:=Tab) mixed Tab_ok Tryz.func483 rfl (by kernel_rfl) rfl (xH _ _ _ _ _) ?_
 refine zj [(0,0)] [0] (λvs _=>p9 (vs 0) (c::l) 1 (by simp)) (zi rfl ⟨_,_,rfl,rfl,_,_,rfl,cr,rfl⟩) rfl ⟨(aB aZ),trivial⟩ ⟨zY,trivial⟩ ?_
 refine cX ?_
 refine zm (by omega) (by simp) rfl (zg rfl ?_)
 refine cX ?_ (by simp only[zb];omega)
 refine zm (by omega) (by simp) rfl (zg rfl ?_)
 refine zG (m:=decide (c.toNat=1)) (by rw[cD];simp only[zb];omega) ?_
 exact yr (.inl rfl) [(0,0)] [(2,.r (.b (decide (c.toNat=1))))] [] rfl ⟨cr,⟨rfl,rfl⟩,trivial⟩ ⟨(aB aZ),trivial⟩ ⟨⟨1000000,rfl⟩,trivial⟩ (cr)
end Go.Proofs.YtkegaaonpekkgaaGreat.Sx
