import Derived.Test.YtkegaaonpekkgaaGreatZTl
import Derived.WideShapes
import Derived.Test.YtkegaaonpekkgaaGreatZEt
import Derived.Test.YtkegaaonpekkgaaGreatZSxU
namespace Go.Proofs.YtkegaaonpekkgaaGreat.Sx
open Go.RowKit
section
open Go.RowKit Go.Maps Go.Sort Go.Shelf
def zow(f:FuncId)(ents:List (Int×RV)):Stable where
 at_ w k v:=∃b m,v= .func (.func f) #[] #[.pointer (some ⟨b,0,none⟩)]/\b<w.heap.size/\0<k b/\w.cell? ⟨b,0,none⟩=some m/\(mapS ents).at_ w k m
 mono:=λh ⟨b,m,e,hb,hk,hc,hm⟩=>⟨b,m,e,Nat.lt_of_lt_of_le hb h.size,Nat.lt_of_lt_of_le hk (h.keep b hb),(h.cell b 0 hb hk).trans hc,(mapS ents).mono h hm⟩
 one:=by rintro w k v ⟨b,m,rfl,_⟩;rfl
def zbo(l:List Int):List Int:=l.mergeSort leI
theorem zum{ents:List (Int×RV)}{P:Program}{f fi:FuncId}{t:TypeId}(hk:zjm P f)(hc: ∀mb w,Calls P f #[.map mb] w λe w'=>e= .returned (.func (.func fi) #[] #[.pointer (some ⟨w.heap.size,0,none⟩)])/\w'=w.alloc (.cells #[.map mb] t)):zab P f [.s (mapS ents)] (.r (.s (zow fi ents))):=by
 refine⟨hk,λw k vs hp=>?_⟩
 obtain⟨a,rfl,h1⟩:=zyz hp
 simp only[RV.at_]at h1
 have hmb: ∃mb,a= .map mb:=by
  rcases h1 with⟨rfl,_⟩ |⟨b,_,_,rfl,_⟩
  ·exact⟨none,rfl⟩
  ·exact⟨some b,rfl⟩
 obtain⟨mb,rfl⟩:=hmb
 refine(hc mb w).mono ?_
 rintro e w' ⟨rfl,rfl⟩
 have hle:=Ext.le (zcm w (.cells #[.map mb] t)) (k:=k) (k':=kset k w.heap.size 1) λb hb=>zcc b hb
 refine⟨_,rfl,zcm w _,kset k w.heap.size 1,λb hb=>zcc b hb,?_⟩
 simp only[Res.at_,RV.at_]
 refine⟨w.heap.size, .map mb,rfl,by simp,by rw[zby];omega,?_,(mapS ents).mono hle h1⟩
 rw[cell_of_row (w.alloc (.cells #[.map mb] t)) w.heap.size 0 #[.map mb] t (0,0) (heap_alloc_new w _)]
 rfl
theorem z1s(ents:List (Int×RV)):aG 375 [.s (mapS ents)] (.r (.s (zow 454 ents))):=
 zum (zdt Tryz.func375 rfl (by kernel_rfl)) λmb w=>(callsIn_wide (n:=5)).1 (AnyZI.keys_in z5k Fence.wide 5 trivial rfl mb w)
theorem z1r(ents:List (Int×RV)):aG 376 [.s (mapS ents)] (.r (.s (zow 455 ents))):=
 zum (zdt Tryz.func376 rfl (by kernel_rfl)) λmb w=>(callsIn_wide (n:=5)).1 (AnyZI.keys_in z5l Fence.wide 5 trivial rfl mb w)
theorem zzt(m:Nat):AnyZI.SortsIn aP zps Fence.wide m:=
 ⟨λblk off cap ss W hH hblk hsz=>callsIn_wide.2 (AnyM.slices_Sort_int ze5b blk off cap ss W hH hblk hsz),
 λp cap W=>callsIn_wide.2 (AnyM.slices_Sort_int_none ze5b p cap W)⟩
abbrev rdN:Value->Option (DataW Unit×List MemPlace):=λ_=>some (.nil,[])
theorem zhnb{P:Program}{ti:TypeId}(hu:P.underlying ti=some (.int .i64)){ents:List (Int×RV)}{w:World}{k:Kp}{b:Nat}{es:Array MapEntry}{c:Nat}(hl:ents.length<=1000000)(hi: ∀x∈ents,i64 x.1)(hh:w.heap[b]?=some (.map es c))(he:entsAt w k ents es.toList)(hst:stampE es c):
  ∃D0:DataW Unit,w.ownsMap P ti rdN b es.size D0/\(intKeys D0).Perm (ents.map (·.1))/\Maps.size D0=ents.length:=by
 have hkey: ∀(j:Nat) (x:MapEntry),es.toList[j]?=some x->∃y,ents[j]?=some y/\Go.WideElems.rd P ti rdN x=some (.int .i64 y.1, .nil):=λj x hx=>by
  have hj:=(List.getElem?_eq_some_iff.1 hx).1
  have hj2:j<ents.length:=by rw[<-he.1];exact hj
  have h1:=he.2 j _ x (List.getElem?_eq_getElem hj2) hx
  refine⟨_,List.getElem?_eq_getElem hj2,?_⟩
  have hb:=hi _ (List.getElem_mem hj2)
  have hwf:(Lit.int .i64 ents[j].1).wf=true:=by
   unfold i64 at hb
   simp[Lit.wf,IntKind.min,IntKind.max,IntKind.signed,IntKind.bits]
   omega
  unfold Go.WideElems.rd
  simp[keyOf,hu,mapKey,h1.1,hwf]
 have hmap:es.toList.map (Go.WideElems.rg P ti rdN)=ents.map λy=>((.int .i64 y.1:Lit),(.nil:DataW Unit)):=by
  apply List.ext_getElem?
  intro j
  rw[List.getElem?_map,List.getElem?_map]
  cases hx:es.toList[j]? with
  |none=>
   have:ents[j]?=none:=by rw[List.getElem?_eq_none_iff]at hx⊢;rw[<-he.1];exact hx
   rw[this];rfl
  |some x=>
   obtain⟨y,hy,hr⟩:=hkey j x hx
   rw[hy]
   simp only[Option.map_some]
   congr 1
   unfold Go.WideElems.rg
   rw[hr]
   rfl
 refine⟨_,⟨es,c,hh,⟨?_,hst,λx hx=>?_⟩,Nat.le_refl _,rfl⟩,?_,?_⟩
 ·have:es.size=ents.length:=by rw[<-Array.length_toList];exact he.1
  simp only[maxLen]
  omega
 ·obtain⟨j,hj⟩:=List.getElem?_of_mem hx
  obtain⟨y,_,hr⟩:=hkey j x hj
  exact⟨_,hr⟩
 ·rw[hmap]
  simp only[intKeys]
  refine((Go.WideShapes.sorted_perm _).map _).trans ?_
  rw[List.map_map]
  exact List.Perm.of_eq (List.map_congr_left λy _=>rfl)
 ·simp only[Maps.size]
  rw[(Go.WideShapes.sorted_perm _).length_eq,hmap,List.length_map]
theorem zse{w w':World}{k:Kp}{l ss:List Int}{v:Value}(hp:ss.Perm l)(hrow:w'.ownsRow w.heap.size 3 1 v ss.length ((ss.mergeSort (λx y=>decide (x<=y))).map encZ))(hb:Below w.heap.size w w'):
  ∃v',Ending.returned v= .returned v'/\Ext w w'/\∃k':Kp,(∀b,b<w.heap.size->k' b=k b)/\(ich (zbo l)).at_ w.heap.size w' k' v':=by
 have hs:ss.mergeSort (λx y=>decide (x<=y))=zbo l:=mergeSort_of_perm_i hp
 rw[hs]at hrow
 have hlen:ss.length=(zbo l).length:=by unfold zbo;rw[List.length_mergeSort,hp.length_eq]
 rw[hlen]at hrow
 refine⟨v,rfl,hb,?_⟩
 obtain⟨_,h⟩:=hrow
 rcases h with⟨rfl,h0⟩ |⟨g,cap,cur,rfl,hbase,hh,r1,r2,r3,r4⟩
 ·refine⟨k,λ_ _=>rfl,none,⟨by simp, .inl ⟨rfl, .inl ⟨h0,none,rfl⟩⟩⟩,λb hb=>by cases hb⟩
 ·refine⟨kset k g (zbo l).length,λb hb=>by simp only[kset];rw[if_neg (by omega)],some g,⟨by simp, .inr ⟨g,cap,cur,rfl,rfl,hh,r1,r2,Nat.le_of_eq r3.symm,by simp[kset],?_⟩⟩,λb hb=>by cases hb;exact hbase⟩
  rw[Nat.mul_one]at r4⊢
  rw[r4]
  exact zr0 (λx w k v=>by simp[RV.at_]) (λ_=>rfl) _
set_option maxRecDepth 100000 in
theorem zpt(ents:List (Int×RV))(hl:ents.length<=1000000)(hi: ∀x∈ents,i64 x.1)(fi:FuncId)(eg: ∀args w,(callFunc fi args).run aP w= .ok (.enter fi args) w)
  (hnil: ∀(b:Nat) (w:World),b<w.heap.size->w.cell? ⟨b,0,none⟩=some (.map none)->SeqGives Fence.wide 2 aP fi #[.pointer (some ⟨b,0,none⟩)] encZ (λss:List Int=>ss=[]) 0 w)
  (hsome: ∀(b bm nn:Nat) (D0:DataW Unit) (w:World),b<w.heap.size->w.cell? ⟨b,0,none⟩=some (.map (some bm))->w.ownsMap aP 3 rdN bm nn D0->SeqGives Fence.wide 2 aP fi #[.pointer (some ⟨b,0,none⟩)] encZ (λss:List Int=>ss.Perm (intKeys D0)) (Maps.size D0) w):
  aG 374 [.s (zow fi ents)] (ich (zbo (ents.map (·.1)))):=by
 refine⟨zdt Tryz.func374 rfl (by kernel_rfl),λw k vs hp=>?_⟩
 obtain⟨a,rfl,h1⟩:=zyz hp
 simp only[RV.at_]at h1
 obtain⟨b,m,rfl,hb,hkb,hc,hm⟩:=h1
 rcases hm with⟨rfl,rfl⟩ |⟨bm,es,c,rfl,hbm,hkm,hh,he,hst⟩
 ·have cS:=AnyZI.sorted_in z3b Fence.wide 5 trivial trivial trivial trivial rfl (by omega) (zzt _) (enters_of Tryz.func453 (by kernel_rfl) rfl) fi #[.pointer (some ⟨b,0,none⟩)] trivial eg _ 0 (Nat.zero_le _) (by omega) w (hnil b w hb hc)
  refine(callsIn_wide.1 cS).mono ?_
  rintro e w' ⟨v,ss,rfl,rfl,hrow,_,hbl⟩
  exact zse (List.Perm.refl _) hrow hbl
 ·obtain⟨D0,hown,hperm,hsz⟩:=zhnb zig hl hi hh he hst
  have cS:=AnyZI.sorted_in z3b Fence.wide 5 trivial trivial trivial trivial rfl (by omega) (zzt _) (enters_of Tryz.func453 (by kernel_rfl) rfl) fi #[.pointer (some ⟨b,0,none⟩)] trivial eg _ (Maps.size D0) (by rw[hsz];simp only[maxLen];omega) (by rw[hsz];omega) w (hsome b bm _ D0 w hb hc hown)
  refine(callsIn_wide.1 cS).mono ?_
  rintro e w' ⟨v,ss,rfl,hS,hrow,_,hbl⟩
  exact zse (hS.trans hperm) hrow hbl
theorem zua(ents:List (Int×RV))(hl:ents.length<=1000000)(hi: ∀x∈ents,i64 x.1):aG 374 [.s (zow 454 ents)] (ich (zbo (ents.map (·.1)))):=
 zpt ents hl hi _ (enters_of Tryz.func454 (by kernel_rfl) rfl)
  (λb w hb hc=>AnyZI.keys_gives_nil (ρ:=zno) {z5k with} Fence.wide _ trivial rfl b w hb hc)
  (λb bm nn D0 w hb hc hown=>AnyZI.keys_gives (ρ:=zno) {z5k with} Fence.wide _ trivial rfl (by omega) b bm nn D0 w hb hc hown)
theorem zt9(ents:List (Int×RV))(hl:ents.length<=1000000)(hi: ∀x∈ents,i64 x.1):aG 374 [.s (zow 455 ents)] (ich (zbo (ents.map (·.1)))):=
 zpt ents hl hi _ (enters_of Tryz.func455 (by kernel_rfl) rfl)
  (λb w hb hc=>AnyZI.keys_gives_nil (ρ:=znp) {z5l with} Fence.wide _ trivial rfl b w hb hc)
  (λb bm nn D0 w hb hc hown=>AnyZI.keys_gives (ρ:=znp) {z5l with} Fence.wide _ trivial rfl (by omega) b bm nn D0 w hb hc hown)
end
inductive PR (α:Type)where
 |err (e:Nat)
 |ok (a:α) (r:List UInt8)
def numA(n:Nat)(l:List UInt8):Nat:=l.foldl (λn c=>256*n+c.toNat) n
theorem z9k(n:Nat){l:List UInt8}{j:Nat}(hj:j<l.length):numA n (l.take (j+1))=256*numA n (l.take j)+l[j].toNat:=z38 (f:=λn (c:UInt8)=>256*n+c.toNat) hj
theorem zkz: ∀(l:List UInt8) (n b:Nat),n<b->numA n l<b*256^l.length
 |[],n,b,h=>by simpa[numA]using h
 |c::l,n,b,h=>by
  have hc:=c.toNat_lt
  have:=zkz l (256*n+c.toNat) (256*b) (by omega)
  rw[List.length_cons,Nat.pow_succ]
  have e:b*(256^l.length*256)=256*b*256^l.length:=by rw[Nat.mul_comm (256^l.length),<-Nat.mul_assoc,Nat.mul_comm b]
  rw[e]
  exact this
def zax(c:UInt8):Nat:=if 128<=c.toNat then 3 else if 64<=c.toNat then 1 else 0
def lenP:List UInt8->PR Nat
 |[]=> .err 4
 |c::r=>if 192<=c.toNat then .err 3 else if r.length<zax c then .err 4 else
  if zc6 (numA (c.toNat%64) (r.take (zax c)))≠zax c+1 then .err 3 else .ok (numA (c.toNat%64) (r.take (zax c))) (r.drop (zax c))
def vecP(l:List UInt8):PR (List UInt8):=match lenP l with
 | .err e=> .err e
 | .ok n r=>if r.length<n then .err 4 else .ok (r.take n) (r.drop n)
theorem zyd{l r:List UInt8}{n:Nat}(h:lenP l= .ok n r): ∃j,r=l.drop j/\0<j/\j<=l.length/\n<1073741824:=by
 cases l with
 |nil=>simp[lenP]at h
 |cons c s=>
  simp only[lenP]at h
  split at h
  ·cases h
  ·split at h
   ·cases h
   ·split at h
    ·cases h
    ·rename_i h1 h2 h3
     injection h with e1 e2
     subst e1;subst e2
     refine⟨zax c+1,by simp,by omega,by simp;omega,?_⟩
     have h4:=zkz (s.take (zax c)) (c.toNat%64) 64 (by omega)
     have h5:zax c<=3:=by unfold zax;split<;>(try split)<;>omega
     have h6:(256:Nat)^(s.take (zax c)).length<=256^3:=Nat.pow_le_pow_right (by omega) (by rw[List.length_take];omega)
     have:(256:Nat)^3=16777216:=by decide
     omega
theorem zfv{l r v:List UInt8}(h:vecP l= .ok v r): ∃j,r=l.drop j/\0<j/\j<=l.length/\v.length<j:=by
 unfold vecP at h
 cases hl:lenP l with
 |err e=>rw[hl]at h;cases h
 |ok n s=>
  rw[hl]at h
  simp only at h
  split at h
  ·cases h
  ·rename_i hn
   injection h with e1 e2
   subst e1;subst e2
   obtain⟨j,rfl,h0,hj,_⟩:=zyd hl
   rw[List.length_drop]at hn
   exact⟨j+n,by rw[List.drop_drop],by omega,by omega,by rw[List.length_take,List.length_drop];omega⟩
def nxt(b r:List UInt8):Int:=((b.length-r.length:Nat):Int)
def zenb(v:List UInt8):List RV:=[I 1,I 0, .i .u64 0,bs v, .x (.slice none 0 0)]
def znzb(b:List UInt8)(at_:Nat):List RV:=match vecP (b.drop at_)with
 | .err e=>[.ag (zenb []),I at_,I e]
 | .ok v r=>[.ag (zenb v),I (nxt b r),I 0]
def zfa:Nat->List UInt8->PR (List (List UInt8))
 |0,l=> .ok [] l
 |n+1,l=>match vecP l with
  | .err e=> .err e
  | .ok v r=>match zfa n r with
   | .err e=> .err e
   | .ok vs s=> .ok (v::vs) s
theorem zc5b{l:List UInt8}{e:Nat}(h:lenP l= .err e):e=3\/e=4:=by
 cases l with
 |nil=>simp only[lenP,PR.err.injEq]at h;omega
 |cons c s=>
  simp only[lenP]at h
  split at h
  ·injection h with h;omega
  ·split at h
   ·injection h with h;omega
   ·split at h
    ·injection h with h;omega
    ·cases h
theorem zmo{l:List UInt8}{e:Nat}(h:vecP l= .err e):e=3\/e=4:=by
 unfold vecP at h
 cases hq:lenP l with
 |err e'=>rw[hq]at h;injection h with h;subst h;exact zc5b hq
 |ok m s=>
  rw[hq]at h
  simp only at h
  split at h
  ·injection h with h;omega
  ·cases h
theorem zvg: ∀(n:Nat) {l:List UInt8} {e:Nat},zfa n l= .err e->e=3\/e=4
 |0,l,e,h=>by cases h
 |n+1,l,e,h=>by
  simp only[zfa]at h
  cases hv:vecP l with
  |err e'=>rw[hv]at h;injection h with h;subst h;exact zmo hv
  |ok v r=>
   rw[hv]at h
   simp only at h
   cases hw:zfa n r with
   |err e'=>rw[hw]at h;injection h with h;subst h;exact zvg n hw
   |ok vs s=>rw[hw]at h;cases h
theorem zn0b(l:List UInt8):zfa 1 l=match vecP l with | .err e=> .err e | .ok v r=> .ok [v] r:=by
 simp only[zfa]
 all_goals (cases vecP l<;>rfl)
def zgf(vs:List (List UInt8))(c:UInt8)(par sig:List UInt8):Leaf:=⟨vs.getD 0 [],vs.getD 1 [],vs.getD 2 [],c,par,sig⟩
def zg0(c:UInt8)(r:List UInt8):PR (List UInt8):=if c.toNat=3 then vecP r else .ok [] r
def zkv(vs:List (List UInt8))(c:UInt8)(par r:List UInt8):PR Leaf:=match vecP r with
 | .err e=> .err e
 | .ok sig r=>if(zgf vs c par sig).right=true then .ok (zgf vs c par sig) r else .err 3
def znq(vs:List (List UInt8)):List UInt8->PR Leaf
 |[]=> .err 4
 |c::r=>if c.toNat=0\/3<c.toNat then .err 3 else match zg0 c r with
  | .err e=> .err e
  | .ok par r=>zkv vs c par r
def zox(l:List UInt8):PR Leaf:=match zfa 3 l with
 | .err e=> .err e
 | .ok vs r=>znq vs r
theorem zgp:Cv (.ag [.x (.slice none 0 0), .x (.slice none 0 0), .x (.slice none 0 0), .i .u8 0, .x (.slice none 0 0), .x (.slice none 0 0)]) (.ag zl.c):=
 Cv.ag (zk (Cv.nil 1) (zk (Cv.nil 1) (zk (Cv.nil 1) (zk (cr) (zk (Cv.nil 1) (zk (Cv.nil 1) Cvs.nil))))))
abbrev rdO(c:RV)(e:Nat):Ow:= .box [.r c, .r (Er e)]
abbrev rdL(l:List UInt8):List (Nat×Ow):=[(0,rdO (bs l) 0)]
abbrev rdX(e:Nat):List (Nat×Ow):=[(0,rdO .any e)]
theorem zg6:Tryz.prog.underlying 363=some (.pointer 455):=by kernel_rfl
theorem zbg(c c':RV)(e e':Nat)(v:Value):zjz [(0,rdO c e)] [(0,rdO c' e')] [(0,v)]:=⟨⟨_,_,rfl,rfl,zai,zai⟩,trivial⟩
theorem zq5:Cv (.x (.slice none 0 0)) (bs []):=Cv.nil 1
theorem zkn(v:Value)(l:List UInt8)(e:Nat):Acts aP 525 1 (rdL l) [.own 0, .r (Er e)] [(0,v)] 1 (rdX e) (.r (.tu [])):=by
 refine zah (T:=Tab) mixed Tab_ok Tryz.func525 rfl (by kernel_rfl) rfl (zbg _ _ _ _ _) ?_
 refine zt rfl (zp ?_)
 exact zan (.inr rfl) [(0,0)] [] [] rfl ⟨⟨rfl,rfl⟩,trivial⟩ ⟨⟨_,_,rfl,trivial,_,_,rfl,cr,rfl⟩,trivial⟩ ⟨⟨1000000,rfl⟩,trivial⟩ ⟨_,rfl,cr⟩
theorem zix(v:Value)(l:List UInt8):Acts aP 406 1 (rdL l) [.own 0] [(0,v)] 1 (rdL l) (.r (Er 0)):=by
 refine zah (T:=Tab) mixed Tab_ok Tryz.func406 rfl (by kernel_rfl) rfl (zbg _ _ _ _ _) ?_
 refine⟨⟨_,zg6⟩,?_⟩
 refine zq ?_
 exact zan (.inl rfl) [(0,0)] [(2, .r (Er 0))] [] rfl ⟨cr,⟨rfl,rfl⟩,trivial⟩ ⟨(aB aZ),trivial⟩ ⟨⟨1000000,rfl⟩,trivial⟩ (cr)
theorem zgu(v:Value)(e:Nat):Acts aP 406 1 (rdX e) [.own 0] [(0,v)] 1 (rdX e) (.r (Er e)):=by
 refine zah (T:=Tab) mixed Tab_ok Tryz.func406 rfl (by kernel_rfl) rfl (zbg _ _ _ _ _) ?_
 refine⟨⟨_,zg6⟩,?_⟩
 refine zq ?_
 exact zan (.inl rfl) [(0,0)] [(2, .r (Er e))] [] rfl ⟨cr,⟨rfl,rfl⟩,trivial⟩ ⟨⟨_,_,rfl,trivial,_,_,rfl,cr,rfl⟩,trivial⟩ ⟨⟨1000000,rfl⟩,trivial⟩ (cr)
theorem zfyb(v:Value)(l:List UInt8):Acts aP 482 1 (rdL l) [.own 0] [(0,v)] 1 (rdL l) (.r (I l.length)):=by
 refine zah (T:=Tab) mixed Tab_ok Tryz.func482 rfl (by kernel_rfl) rfl (zbg _ _ _ _ _) ?_
 refine⟨⟨_,zg6⟩,?_⟩
 refine zq ?_
 exact zan (.inl rfl) [(0,0)] [(2, .r (I l.length))] [] rfl ⟨cr,⟨rfl,rfl⟩,trivial⟩ ⟨(aB aZ),trivial⟩ ⟨⟨1000000,rfl⟩,trivial⟩ (cr)
theorem zpj(l:List UInt8):aG 300 [bs l] (.bx [bs l,Er 0]):=by
 refine aT Tryz.func300 rfl ?_
 rfl
theorem zmr(v:Value)(e:Nat)(he:e≠0)(n:Int):Acts aP 479 1 (rdX e) [.own 0, .r (I n)] [(0,v)] 1 (rdX e) (.r (.tu [bs [], .b false])):=by
 refine zah (T:=Tab) mixed Tab_ok Tryz.func479 rfl (by kernel_rfl) rfl (zbg _ _ _ _ _) ?_
 refine⟨⟨_,zg6⟩,?_⟩
 refine zt (by simp only[zb];omega) (zp ?_)
 exact zan (.inl rfl) [(0,0)] [(4, .r (bs [])),(5, .r (.b false))] [] rfl ⟨zq5,cr,⟨rfl,rfl⟩,trivial⟩ ⟨⟨_,_,rfl,trivial,_,_,rfl,cr,rfl⟩,trivial⟩ ⟨⟨1000000,rfl⟩,trivial⟩ ⟨_,rfl,cr⟩
theorem zfe(v:Value)(l:List UInt8)(n:Nat)(hn:l.length<n):Acts aP 479 1 (rdL l) [.own 0, .r (I n)] [(0,v)] 1 (rdX 4) (.r (.tu [bs [], .b false])):=by
 refine zah (T:=Tab) mixed Tab_ok Tryz.func479 rfl (by kernel_rfl) rfl (zbg _ _ _ _ _) ?_
 refine⟨⟨_,zg6⟩,?_⟩
 refine zu rfl (zq ?_)
 refine zu (by simp only[zb];omega) (zq ?_)
 refine zt (by simp only[zb];omega) (zp ?_)
 refine zj [(0,0)] [0] (λvs _=>zkn (vs 0) l 4) (zi rfl ⟨_,_,rfl,rfl,_,_,rfl,cr,rfl⟩) rfl ⟨(aB aZ),trivial⟩ ⟨zad,trivial⟩ ?_
 exact zan (.inl rfl) [(0,0)] [(4, .r (bs [])),(5, .r (.b false))] [] rfl ⟨zq5,cr,⟨rfl,rfl⟩,trivial⟩ ⟨⟨_,_,rfl,trivial,_,_,rfl,cr,rfl⟩,trivial⟩ ⟨⟨1000000,rfl⟩,trivial⟩ ⟨_,rfl,cr⟩
theorem zgv(v:Value)(l:List UInt8)(n:Nat)(hn:n<=l.length):Acts aP 479 1 (rdL l) [.own 0, .r (I n)] [(0,v)] 1 (rdL (l.drop n)) (.r (.tu [bs (l.take n), .b true])):=by
 refine zah (T:=Tab) mixed Tab_ok Tryz.func479 rfl (by kernel_rfl) rfl (zbg _ _ _ _ _) ?_
 refine⟨⟨_,zg6⟩,?_⟩
 refine zu rfl (zq ?_)
 refine zu (by simp only[zb];omega) (zq ?_)
 refine zu (by simp only[zb];omega) (zq ?_)
 have e1:(l.take n).length=n:=by rw[List.length_take];omega
 have e2:(l.drop n).length=l.length-n:=List.length_drop
 refine⟨by omega,by omega,by omega,n,(l.take n).map U8,by omega,by simp[List.map_take],?_⟩
 refine⟨by omega,by omega,by omega,l.length-n,(l.drop n).map U8,by omega,by rw[Nat.mul_one,Int.toNat_natCast,Nat.mul_one,<-List.map_drop,List.take_of_length_le (by rw[List.length_map];omega)],?_⟩
 have c1:RV.sl 1 n ((l.take n).map U8)=bs (l.take n):=by unfold bs;rw[e1]
 have c2:RV.sl 1 (l.length-n) ((l.drop n).map U8)=bs (l.drop n):=by unfold bs;rw[e2]
 exact zan (.inl rfl) [(0,0)] [(4, .r (bs (l.take n))),(5, .r (.b true))] [] rfl ⟨zf c1,cr,⟨rfl,rfl⟩,trivial⟩ ⟨⟨_,_,rfl,zf c2,_,_,rfl,cr,rfl⟩,trivial⟩ ⟨⟨1000000,rfl⟩,trivial⟩ ⟨_,rfl,cr⟩
theorem Vshl.byte{a:Int}{K:Int->Prop}(n:Nat)(ha:a=(n:Int))(hn:n<72057594037927936)(hK:K ((256*n:Nat):Int)):Vshl .u64 a 8 K:=by
 subst ha
 refine⟨by omega,_,?_,hK⟩
 have e:((n:Int)*2^(min (8:Int).toNat IntKind.u64.bits))=((256*n:Nat):Int):=by
  show((n:Int)*2^8)=_
  omega
 rw[e,zjj (by omega)]
theorem Vbits.orByte{a b:Int}{K:Int->Prop}(n:Nat)(c:UInt8)(ha:a=((256*n:Nat):Int))(hb:b=(c.toNat:Int))(hn:n<72057594037927936)(hK:K ((256*n+c.toNat:Nat):Int)):Vbits .u64 .or a b K:=by
 subst ha;subst hb
 refine⟨_,?_,hK⟩
 have hc:=c.toNat_lt
 have e: ∀z:Nat,z<18446744073709551616->(BitVec.ofInt 64 (z:Int)).toNat=z:=λz hz=>by
  rw[BitVec.toNat_ofInt];omega
 show((256*n+c.toNat:Nat):Int)=IntKind.u64.wrap (((BitVec.ofInt 64 ((256*n:Nat):Int)|||BitVec.ofInt 64 (c.toNat:Int)).toNat:Nat):Int)
 rw[BitVec.toNat_or,e _ (by omega),e _ (by omega)]
 have h:(256*n|||c.toNat)=256*n+c.toNat:=by
  have:=Nat.two_pow_add_eq_or_of_lt (i:=8) (b:=c.toNat) (by omega) n
  rw[show(2:Nat)^8=256 from rfl]at this
  exact this.symm
 rw[h,zjj (by omega)]
theorem zhr(l:List UInt8)(hl:l.length<=8):aG 480 [bs l] (.r (U64 (numA 0 l))):=by
 refine aT Tryz.func480 rfl ?_
 refine zy (λi:Nat=>⟨[(3, .r (U64 (numA 0 (l.take i)))),(6, .r (bs l)),(7, .r (I l.length)),(8, .r (I i))],[],0⟩) (λi=>i<=l.length) (λi=>l.length-i) 0 (Nat.zero_le _) (zac [] rfl ⟨cr,cr,cr,cr,trivial⟩ trivial) ?_
 intro i hi
 refine zh (λh=>?_) (λh=>?_)
 ·simp only[zb]at h
  have hlt:i<l.length:=by omega
  have hb:numA 0 (l.take i)<72057594037927936:=by
   have:=zkz (l.take i) 0 1 (by omega)
   have h2:(256:Nat)^(l.take i).length<=256^7:=Nat.pow_le_pow_right (by omega) (by rw[List.length_take];omega)
   have:(256:Nat)^7=72057594037927936:=by decide
   omega
  refine zp ?_
  refine zm (by omega) (by omega) (za3 rfl hlt) (zg rfl ?_)
  refine Vshl.byte _ rfl hb ?_
  refine Vint.u64 l[i].toNat rfl (by have:=l[i].toNat_lt;omega) ?_
  refine Vbits.orByte _ l[i] rfl rfl hb ?_
  rw[<-z9k 0 hlt]
  refine zd (m:=((i+1:Nat):Int)) (by omega) (by omega) ?_
  exact⟨i+1,hlt,by omega,zac [] rfl ⟨cr,cr,cr,cr,trivial⟩ trivial⟩
 ·simp only[zb]at h
  refine zq ?_
  have e:l.take i=l:=List.take_of_length_le (by omega)
  exact zf (by rw[e])
theorem z7m(v:Value)(l:List UInt8)(n:Nat)(h1:n=1\/n=2\/n=4\/n=8)(hn:n<=l.length):Acts aP 408 1 (rdL l) [.own 0, .r (I n)] [(0,v)] 1 (rdL (l.drop n)) (.r (U64 (numA 0 (l.take n)))):=by
 refine zah (T:=Tab) mixed Tab_ok Tryz.func408 rfl (by kernel_rfl) rfl (zbg _ _ _ _ _) ?_
 refine ze (zwb n (by omega)) ?_
 refine zu rfl (zq ?_)
 refine zj [(0,0)] [0] (λvs _=>zgv (vs 0) l n hn) (zi rfl ⟨_,_,rfl,rfl,_,_,rfl,cr,rfl⟩) rfl ⟨(aB aZ),trivial⟩ ⟨zad,trivial⟩ ?_
 refine ze (zhr (l.take n) (by rw[List.length_take];omega)) ?_
 exact zan (.inl rfl) [(0,0)] [(4, .r (U64 (numA 0 (l.take n))))] [] rfl ⟨cr,⟨rfl,rfl⟩,trivial⟩ ⟨(aB aZ),trivial⟩ ⟨⟨1000000,rfl⟩,trivial⟩ (cr)
theorem z4i(v:Value)(l:List UInt8)(n:Nat)(h1:n=1\/n=2\/n=4\/n=8)(hn:l.length<n):Acts aP 408 1 (rdL l) [.own 0, .r (I n)] [(0,v)] 1 (rdX 4) (.r (U64 0)):=by
 refine zah (T:=Tab) mixed Tab_ok Tryz.func408 rfl (by kernel_rfl) rfl (zbg _ _ _ _ _) ?_
 refine ze (zwb n (by omega)) ?_
 refine zu rfl (zq ?_)
 refine zj [(0,0)] [0] (λvs _=>zfe (vs 0) l n hn) (zi rfl ⟨_,_,rfl,rfl,_,_,rfl,cr,rfl⟩) rfl ⟨(aB aZ),trivial⟩ ⟨zad,trivial⟩ ?_
 refine ze (zhr [] (by simp)) ?_
 exact zan (.inl rfl) [(0,0)] [(4, .r (U64 0))] [] rfl ⟨cr,⟨rfl,rfl⟩,trivial⟩ ⟨⟨_,_,rfl,trivial,_,_,rfl,cr,rfl⟩,trivial⟩ ⟨⟨1000000,rfl⟩,trivial⟩ (cr)
theorem ziy(v:Value)(e:Nat)(he:e≠0)(n:Nat)(h1:n=1\/n=2\/n=4\/n=8):Acts aP 408 1 (rdX e) [.own 0, .r (I n)] [(0,v)] 1 (rdX e) (.r (U64 0)):=by
 refine zah (T:=Tab) mixed Tab_ok Tryz.func408 rfl (by kernel_rfl) rfl (zbg _ _ _ _ _) ?_
 refine ze (zwb n (by omega)) ?_
 refine zu rfl (zq ?_)
 refine zj [(0,0)] [0] (λvs _=>zmr (vs 0) e he n) (zi rfl ⟨_,_,rfl,rfl,_,_,rfl,cr,rfl⟩) rfl ⟨⟨_,_,rfl,trivial,_,_,rfl,cr,rfl⟩,trivial⟩ ⟨zad,trivial⟩ ?_
 refine ze (zhr [] (by simp)) ?_
 exact zan (.inl rfl) [(0,0)] [(4, .r (U64 0))] [] rfl ⟨cr,⟨rfl,rfl⟩,trivial⟩ ⟨⟨_,_,rfl,trivial,_,_,rfl,cr,rfl⟩,trivial⟩ ⟨⟨1000000,rfl⟩,trivial⟩ (cr)
theorem zbob(v:Value)(l:List UInt8)(n:Nat)(hl:l.length<=8000000000000)(hn:n<=l.length):Acts aP 478 1 (rdL l) [.own 0, .r (I n)] [(0,v)] 1 (rdL (l.drop n)) (.r (bs (l.take n))):=by
 refine zah (T:=Tab) mixed Tab_ok Tryz.func478 rfl (by kernel_rfl) rfl (zbg _ _ _ _ _) ?_
 refine zj [(0,0)] [0] (λvs _=>zgv (vs 0) l n hn) (zi rfl ⟨_,_,rfl,rfl,_,_,rfl,cr,rfl⟩) rfl ⟨(aB aZ),trivial⟩ ⟨zad,trivial⟩ ?_
 refine ze (zbx (l.take n) (by rw[List.length_take];omega)) ?_
 exact zan (.inl rfl) [(0,0)] [(4, .r (bs (l.take n)))] [] rfl ⟨cr,⟨rfl,rfl⟩,trivial⟩ ⟨(aB aZ),trivial⟩ ⟨⟨1000000,rfl⟩,trivial⟩ (cr)
theorem zxb(v:Value)(l:List UInt8)(n:Nat)(hn:l.length<n):Acts aP 478 1 (rdL l) [.own 0, .r (I n)] [(0,v)] 1 (rdX 4) (.r (bs [])):=by
 refine zah (T:=Tab) mixed Tab_ok Tryz.func478 rfl (by kernel_rfl) rfl (zbg _ _ _ _ _) ?_
 refine zj [(0,0)] [0] (λvs _=>zfe (vs 0) l n hn) (zi rfl ⟨_,_,rfl,rfl,_,_,rfl,cr,rfl⟩) rfl ⟨(aB aZ),trivial⟩ ⟨zad,trivial⟩ ?_
 refine ze (zbx [] (by simp)) ?_
 exact zan (.inl rfl) [(0,0)] [(4, .r (bs []))] [] rfl ⟨cr,⟨rfl,rfl⟩,trivial⟩ ⟨⟨_,_,rfl,trivial,_,_,rfl,cr,rfl⟩,trivial⟩ ⟨⟨1000000,rfl⟩,trivial⟩ (cr)
theorem zfwb(v:Value)(c:UInt8)(l:List UInt8)(hc:c.toNat<=1):Acts aP 483 1 (rdL (c::l)) [.own 0] [(0,v)] 1 (rdL l) (.r (.b (decide (c.toNat=1)))):=by
 refine zah (T:=Tab) mixed Tab_ok Tryz.func483 rfl (by kernel_rfl) rfl (zbg _ _ _ _ _) ?_
 refine zj [(0,0)] [0] (λvs _=>zgv (vs 0) (c::l) 1 (by simp)) (zi rfl ⟨_,_,rfl,rfl,_,_,rfl,cr,rfl⟩) rfl ⟨(aB aZ),trivial⟩ ⟨zad,trivial⟩ ?_
 refine zu rfl (zq ?_)
 refine zm (by omega) (by simp) rfl (zg rfl ?_)
 refine zu (by simp only[zb];omega) (zq ?_)
 refine zm (by omega) (by simp) rfl (zg rfl ?_)
 refine Vcmp.mk' (m:=decide (c.toNat=1)) (by rw[Bool.eq_iff_iff];simp only[zb];omega) ?_
 exact zan (.inl rfl) [(0,0)] [(2, .r (.b (decide (c.toNat=1))))] [] rfl ⟨cr,⟨rfl,rfl⟩,trivial⟩ ⟨(aB aZ),trivial⟩ ⟨⟨1000000,rfl⟩,trivial⟩ (cr)
end Go.Proofs.YtkegaaonpekkgaaGreat.Sx
