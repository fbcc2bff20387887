import Derived.Test.YtpdllgbfemnemaaGreatZVd
import Derived.Test.YtpdllgbfemnemaaGreatZQe
import Derived.Test.YtpdllgbfemnemaaGreatZWh
import Derived.Test.YtpdllgbfemnemaaGreatZWc
import Derived.Test.YtpdllgbfemnemaaGreatZUg
import Derived.Test.YtpdllgbfemnemaaGreatZQi
namespace Go.Proofs.YtpdllgbfemnemaaGreat.Sx
open Go.RowKit
set_option linter.unusedVariables false
section
open Go.ChangeShapes Go.WideShapes Go.ChangeAt Go.RowKit
set_option maxRecDepth 100000 in
theorem zeub{H:Type}{enc:TypeId×Value->H}{W:World}{base:Nat}{v:Value}{d:DataW H}{p:List MemPlace}(hval:Value.okWide Tryz.prog W .any base 49 v)
  (h:DataW.Trod enc Tryz.prog W 0 (λ_=>true) true 49 v d p) (hw: ∀n∈d.weights Tryz.prog 49,n<=reachBytes):
  ∃l:List Node,(∀x∈l,∀u∈x.par.late,Sx.i64 u)/\l.length<=maxL/\(nods l).at_ W (allK W) v:=by
 obtain⟨a,n,c,rfl⟩:=okWide_slice Tryz.underlying49 hval
 obtain⟨fuel,hf⟩:=h
 obtain⟨l,h1,h2,h3⟩:=Rd.slice (sz:=10) (r:=⟨H,enc,W,0,λ_=>true,true⟩) (fuel:=fuel) (cs:=[.slice a n c]) (x:=(d,p)) Tryz.underlying49 (by kernel_rfl) (by omega) (λ_=>rfl) Rd.node hf
 refine⟨l,h1,?_,?_⟩
 ·rcases h3 with rfl |⟨E,Sp,he,hlen⟩
  ·simp
  ·have:=hw ((E.length+Sp.length)*Tryz.prog.bytesOf 60) (by rw[show d= .slice E Sp from he];simp[DataW.weights,Tryz.underlying49])
   rw[show Tryz.prog.bytesOf 60=208 by kernel_rfl]at this
   simp only[reachBytes]at this
   unfold maxL
   omega
 ·simp only[RV.listAt]at h2
  obtain⟨u,r,e,_,hat,rfl⟩:=h2
  simp only[List.cons.injEq,and_true]at e
  rw[e]
  exact hat
end
section
section
variable {t:List Node} {u:Lean_}
def zrl(t:List Node)(u:Lean_):Prop:=∀j,j<t.length->∀x∈u.opn,shaB (txtT t j)=shaB (txtI u x.at_)->txtT t j=txtI u x.at_
theorem zbdb(h:z5p ((List.range t.length).map (txtT t)) (u.opn.map λx=>txtI u x.at_)=false):zrl t u:=λj hj x hx he=>by
 refine Classical.byContradiction λhne=>?_
 have:z5p ((List.range t.length).map (txtT t)) (u.opn.map λx=>txtI u x.at_)=true:=
  zrg (List.mem_map.2 ⟨j,List.mem_range.2 hj,rfl⟩) (zrg (List.mem_map.2 ⟨x,hx,rfl⟩) (by simp[hitB,hne,he]))
 rw[h]at this
 cases this
theorem zwj(t:List Node){h k:Nat}(hh:h<=16)(hk:k<2^(16-h)):txtT t (nd h k)=zfi t h k:=by
 obtain⟨e1,e2⟩:=zi7 hh hk
 simp only[Int.toNat_natCast]at e1 e2
 unfold txtT
 rw[e2,e1]
theorem zcsb{d h k:Nat}(hh:h<=d)(hk:k<2^(d-h)):nd h k+1<2^(d+1):=by
 have hin:=za9 h k
 unfold inR at hin
 have e:2^(d+1)=2^(d-h)*2^(h+1):=by rw[<-Nat.pow_add];congr 1;omega
 have h1:(k+1)*2^(h+1)<=2^(d-h)*2^(h+1):=Nat.mul_le_mul_right _ hk
 rw[Nat.add_mul]at h1
 rw[e]
 omega
theorem zls(hno:zrl t u){d h h' k:Nat}(hd:d<=16)(hl:t.length+1=2^(d+1))(hh:h<=d)(hk:k<2^(d-h))(hh':h'<=16)(hk':k<2^(16-h')){n:Node}(hx:zae u.opn (nd h' k)=some n)(he:zbc t h k=zar u h' k):zfi t h k=txtR u h' k:=by
 have hlt:nd h k<t.length:=by have:=zcsb hh hk;omega
 obtain⟨sp,hsp,hat,_⟩:=za7 hx
 have:=hno (nd h k) hlt sp hsp (by
  rw[hat,zwj t (by omega) (lt16 hd hk),zv4 u hh' hk',<-z58,<-z8w u hx,he])
 rwa[hat,zwj t (by omega) (lt16 hd hk),zv4 u hh' hk']at this
theorem zdtb{k:Nat}{n:Node}(hx:zae u.opn (nd 0 k)=some n)(hr:n.right=true)(hrt:(nT t (nd 0 k)).right=true)(he:zfi t 0 k=txtR u 0 k):nT t (nd 0 k)=n:=by
 simp only[zfi,txtR,hx]at he
 have h1:=List.append_cancel_left he
 have h2:=zf4 hrt []
 rw[h1,zf4 hr []]at h2
 injection h2 with h2 _
 exact h2.symm
theorem zcvb{h h' k:Nat}{n:Node}(hx:zae u.opn (nd (h'+1) k)=some n)(hr:n.right=true)(hrt:(nT t (nd (h+1) k)).right=true)(hlen: ∀j,(zar u h' j).length<=1000000000)(he:zfi t (h+1) k=txtR u (h'+1) k):nT t (nd (h+1) k)=n/\zbc t h (2*k)=zar u h' (2*k)/\zbc t h (2*k+1)=zar u h' (2*k+1):=by
 simp only[zfi,txtR,hx,List.append_assoc]at he
 have h1:=List.append_cancel_left he
 have h2:=zf4 hrt (vecB (zbc t h (2*k))++vecB (zbc t h (2*k+1)))
 rw[h1,zf4 hr _]at h2
 injection h2 with h2 h3
 have l1:=zet t h (2*k)
 have l2:=zet t h (2*k+1)
 have m1:=hlen (2*k)
 have m2:=hlen (2*k+1)
 have h4:=zer (v:=zbc t h (2*k)) (by omega) (vecB (zbc t h (2*k+1)))
 rw[<-h3,zer (by omega)]at h4
 injection h4 with h4 h5
 have h6:=zer (v:=zbc t h (2*k+1)) (by omega) []
 rw[List.append_nil,<-h5,<-List.append_nil (vecB _),zer (by omega)]at h6
 injection h6 with h6 _
 exact⟨h2.symm,h4.symm,h6.symm⟩
theorem tags{h k h' k':Nat}{n:Node}(hx:zae u.opn (nd h' k')=some n)(he:zfi t h k=txtR u h' k'):h=0↔h'=0:=by
 cases h with
 |zero=>
  cases h' with
  |zero=>simp
  |succ h'=>
   simp only[zfi,txtR,hx,List.cons_append,List.nil_append,List.cons.injEq]at he
   exact absurd he.1 (by decide)
 |succ h=>
  cases h' with
  |zero=>
   simp only[zfi,txtR,hx,List.cons_append,List.nil_append,List.cons.injEq]at he
   exact absurd he.1 (by decide)
  |succ h'=>simp
end
end
section
section
variable {t:List Node} {u:Lean_} {d d' o:Nat}
theorem zpq(h:Part_ u d' o){i:Nat}(hi:i<=d'): ∃n,zae u.opn (nd i (o/2^i))=some n:=
 Option.isSome_iff_exists.1 (h.found _ (((zcs u.opn o d' _).1).2 (.inl ⟨i,hi,rfl⟩)))
theorem zo0(h:Part_ u d' o){z:Int}{n:Node}(hx:zae u.opn z=some n):n.right=true:=by
 have:=zld h.okO z n hx
 simp only[za2,Bool.and_eq_true]at this
 exact this.1
theorem zox(k:TreeOk t d){h j:Nat}(hh:h<=d)(hj:j<2^(d-h)):nd h j<t.length/\(nT t (nd h j)).right=true:=by
 have h1:=zcsb hh hj
 have h2:=k.len
 have h3:nd h j<t.length:=by omega
 exact⟨h3,k.right _ (zfl h3)⟩
theorem zv2(k:TreeOk t d)(hd':d'<=16)(ho:o<2^d')(hp:Part_ u d' o)(hs:u.fitN)(hno:zrl t u)(hroot:zbc t d 0=zar u d' 0): ∀j,j<=d->j<=d'->zbc t (d-j) (o/2^(d'-j))=zar u (d'-j) (o/2^(d'-j))
 |0,_,_=>by
  rw[Nat.sub_zero,Nat.sub_zero,Nat.div_eq_of_lt ho]
  exact hroot
 |j+1,h1,h2=>by
  have ih:=zv2 k hd' ho hp hs hno hroot j (by omega) (by omega)
  obtain⟨h,hh⟩: ∃h,h=d-(j+1):=⟨_,rfl⟩
  obtain⟨h',hh'⟩: ∃h',h'=d'-(j+1):=⟨_,rfl⟩
  rw[show d-j=h+1 by omega,show d'-j=h'+1 by omega]at ih
  rw[<-hh,<-hh']
  have hk:o/2^(h'+1)<2^(d'-(h'+1)):=zep ho (by omega)
  have hkd:o/2^(h'+1)<2^(d-(h+1)):=by rwa[show d-(h+1)=d'-(h'+1)by omega]
  obtain⟨n,hn⟩:=zpq hp (show h'+1<=d' by omega)
  have ht:=zls hno k.hd k.len (show h+1<=d by omega) hkd (show h'+1<=16 by omega) (lt16 hd' hk) hn ih
  obtain⟨_,e1,e2⟩:=zcvb hn (zo0 hp hn) (zox k (show h+1<=d by omega) hkd).2 (λj=>zfs u hs h' j) ht
  have hhalf:=zlm o h'
  by_cases hpar:(o/2^h')%2=0
  ·rw[show o/2^h'=2*(o/2^(h'+1))by omega];exact e1
  ·rw[show o/2^h'=2*(o/2^(h'+1))+1 by omega];exact e2
theorem z6b(k:TreeOk t d)(hd':d'<=16)(ho:o<2^d')(hp:Part_ u d' o)(hs:u.fitN)(hno:zrl t u)(hroot:zbc t d 0=zar u d' 0):d=d':=by
 rcases Nat.lt_trichotomy d d' with hlt |heq |hgt
 ·exfalso
  have e:=zv2 k hd' ho hp hs hno hroot d (Nat.le_refl _) (by omega)
  have hk:o/2^(d'-d)<2^(d'-(d'-d)):=zep ho (by omega)
  have hkd:o/2^(d'-d)<2^(d-(d-d)):=by rwa[show d-(d-d)=d'-(d'-d)by omega]
  obtain⟨n,hn⟩:=zpq hp (show d'-d<=d' by omega)
  have ht:=zls hno k.hd k.len (show d-d<=d by omega) hkd (show d'-d<=16 by omega) (lt16 hd' hk) hn e
  have:=(tags hn ht).1 (by omega)
  omega
 ·exact heq
 ·exfalso
  have e:=zv2 k hd' ho hp hs hno hroot d' (by omega) (Nat.le_refl _)
  have hk:o/2^(d'-d')<2^(d'-(d'-d')):=zep ho (by omega)
  have hkd:o/2^(d'-d')<2^(d-(d-d')):=by rwa[show d-(d-d')=d'-(d'-d')by omega]
  obtain⟨n,hn⟩:=zpq hp (show d'-d'<=d' by omega)
  have ht:=zls hno k.hd k.len (show d-d'<=d by omega) hkd (show d'-d'<=16 by omega) (lt16 hd' hk) hn e
  have:=(tags hn ht).2 (by omega)
  omega
theorem zwf(k:TreeOk t d)(hp:Part_ u d o)(hs:u.fitN)(hno:zrl t u): ∀h j,h<=d->j<2^(d-h)->zbc t h j=zar u h j->(∀e∈(outS u h j).1,e.node=nT t e.at_.toNat)/\∀e∈(outS u h j).2,e.hash=zjq t e.at_
 |0,j,hh,hj,he=>by
  unfold outS
  cases hx:zae u.opn (nd 0 j)with
  |none=>
   refine⟨λe h=>by(cases h),λe h=>?_⟩
   rw[List.mem_singleton.1 h]
   simp only
   rw[zn7 t (by omega) (lt16 k.hd hj),he]
   simp[zar,hx]
  |some n=>
   refine⟨λe h=>?_,λe h=>by(cases h)⟩
   rw[List.mem_singleton.1 h]
   have ht:=zls hno k.hd k.len hh hj (by omega) (lt16 k.hd hj) hx he
   exact(zdtb hx (zo0 hp hx) (zox k hh hj).2 ht).symm
 |h+1,j,hh,hj,he=>by
  unfold outS
  cases hx:zae u.opn (nd (h+1) j)with
  |none=>
   refine⟨λe h=>by(cases h),λe h=>?_⟩
   rw[List.mem_singleton.1 h]
   simp only
   have hd:=k.hd
   rw[zn7 t (by omega) (lt16 k.hd hj),he]
   simp[zar,hx]
  |some n=>
   have hd:=k.hd
   have ht:=zls hno k.hd k.len hh hj (by omega) (lt16 k.hd hj) hx he
   obtain⟨e0,e1,e2⟩:=zcvb hx (zo0 hp hx) (zox k hh hj).2 (λj=>zfs u hs h j) ht
   have hk2:2^(d-h)=2*2^(d-(h+1)):=by rw[show d-h=(d-(h+1))+1 by omega,Nat.pow_succ];omega
   obtain⟨a1,a2⟩:=zwf k hp hs hno h (2*j) (by omega) (by omega) e1
   obtain⟨b1,b2⟩:=zwf k hp hs hno h (2*j+1) (by omega) (by omega) e2
   refine⟨λe h=>?_,λe h=>?_⟩
   ·simp only[List.mem_append,List.mem_singleton]at h
    rcases h with(h |rfl) |h
    ·exact a1 e h
    ·exact e0.symm
    ·exact b1 e h
   ·rcases List.mem_append.1 h with h |h
    ·exact a2 e h
    ·exact b2 e h
theorem zaub(k:TreeOk t d)(ho:o<2^d)(hn:u.leaves=((2^d:Nat):Int))(he:u.own=(o:Int))(hp:Part_ u d o)(hs:u.fitN)(hno:zrl t u)(hroot:zbc t d 0=zar u d 0):u=cutS t ((2^d:Nat):Int) o:=by
 have sh:=zdz u.opn k.hd ho d (Nat.le_refl _)
 rw[Nat.div_eq_of_lt ho]at sh
 have hlen:=k.len
 obtain⟨o1,_⟩:=z0j k.hd ho hp
 obtain⟨l1,l2⟩:=zwf k hp hs hno d 0 (Nat.le_refl _) (zag _) hroot
 rw[o1]at l1 l2
 simp only at l1 l2
 have hag: ∀z∈(topS u.opn o d).1,zae (zbb t t.length) z=zae u.opn z:=λz hz=>by
  have hin:=sh.ra z hz
  obtain⟨n,hx⟩:=Option.isSome_iff_exists.1 (hp.found z hz)
  obtain⟨sp,hsp,rfl,rfl⟩:=za7 hx
  rw[hx,l1 sp hsp,ziv]
  unfold inR at hin
  rw[if_pos (by omega)]
 have ht:=zom (O:=u.opn) (O':=zbb t t.length) d hp.sib hag
 obtain⟨c1,c2,_⟩:=zkh k ho
 rw[ht]at c1 c2
 have e1:(u.opn.map λx=>x.at_).map (ze7 t)=u.opn:=by
  rw[List.map_map]
  exact zhu λe h=>by simp only[Function.comp,ze7];rw[<-l1 e h]
 have e2:(u.shut.map λx=>x.at_).map (ze9 t)=u.shut:=by
  rw[List.map_map]
  exact zhu λe h=>by simp only[Function.comp,ze9];rw[<-l2 e h]
 unfold cutS
 rw[c1,c2,<-hp.ea,<-hp.eb,e1,e2,<-hn,<-he]
end
end
section
theorem zub{α:Type}(p:α->Bool): ∀l:List α,(l.filter λx=>p x==true).length+(l.filter λx=>p x==false).length=l.length
 |[]=>rfl
 |x::l=>by
  have:=zub p l
  cases h:p x<;>simp[List.filter_cons,h]at* <;>omega
theorem zvt(s:Lean_):(zan s true).length+(zan s false).length=(zau (2*s.own) s.leaves).length:=zub (λc=>(zae s.opn c).isSome) _
theorem zxc{x:Int}: ∀{l:List Int},l.Nodup->x∈l->(l.filter λc=>decide (c≠x)).length+1=l.length
 |[],_,h=>by cases h
 |y::l,hn,h=>by
  rw[List.nodup_cons]at hn
  by_cases e:y=x
  ·subst e
   have:(l.filter λc=>decide (c≠y))=l:=by
    rw[List.filter_eq_self]
    intro c hc
    simp only[decide_eq_true_eq,ne_eq]
    rintro rfl
    exact hn.1 hc
   rw[List.filter_cons,if_neg (by simp),this,List.length_cons]
  ·have hx:x∈l:=by
    rcases List.mem_cons.1 h with h |h
    ·exact absurd h.symm e
    ·exact h
   have:=zxc hn.2 hx
   rw[List.filter_cons,if_pos (by simp[e]),List.length_cons,List.length_cons]
   omega
theorem zzc{d o:Nat}(hd:d<=16):((List.range d).map λi=>(nd i (sibN (o/2^i)):Int)).Nodup:=by
 have: ∀(l:List Nat),l.Nodup->(∀i∈l,i<d)->(l.map λi=>(nd i (sibN (o/2^i)):Int)).Nodup:=by
  intro l
  induction l with
  |nil=>intro _ _;simp
  |cons i l ih=>
   intro hn hl
   rw[List.nodup_cons]at hn
   rw[List.map_cons,List.nodup_cons]
   refine⟨λhm=>?_,ih hn.2 λj hj=>hl j (by simp[hj])⟩
   obtain⟨j,hj,e⟩:=List.mem_map.1 hm
   have hi:=hl i (by simp)
   have hj2:=hl j (by simp[hj])
   have e':nd j (sibN (o/2^j))=nd i (sibN (o/2^i)):=Int.ofNat.inj e
   have:=(zfk (by omega) (by omega) e').1
   exact hn.1 (this▸hj)
 exact this _ List.nodup_range λi hi=>List.mem_range.1 hi
theorem z6z{s:Lean_}{d o:Nat}(g:GoodS s d o){x:Int}(hx:x∈zan s true):(zan (zbm s x (zdp s x)) false).length=(zan s false).length+1:=by
 obtain⟨_,_,_,h4,_⟩:=zpm g hx
 have h1:=zvt s
 have h2:=zvt (zbm s x (zdp s x))
 have h3:(zan s true).Nodup:=by
  unfold zan
  rw[zhb g.hd g.ho g.hn g.he]
  exact(zzc g.hd).filter _
 have h5:=zxc h3 hx
 rw[h4]at h2
 have h6:(zbm s x (zdp s x)).own=s.own/\(zbm s x (zdp s x)).leaves=s.leaves:=⟨rfl,rfl⟩
 rw[h6.1,h6.2]at h2
 omega
theorem zps{s:Lean_}{d o:Nat}(g:GoodS s d o):zaf Tryz.prog 18 [.ag s.c] (.r (is (zan s false))):=by
 have h:=zdxb s g.fit
 rw[g.right,if_pos rfl]at h
 exact h
theorem zz3{s:Lean_}{d o:Nat}(g:GoodS s d o){x:Int}(hx:x∈zan s true):zaf Tryz.prog 23 [.ag s.c,I x] (.r (.tu [.ag (zbm s x (zdp s x)).c, .i .u8 0])):=by
 have h:=zb3b s g.fit x (zbm s x (zdp s x)) (λ_ _=>z9d g hx)
 have e:zjs s x (zbm s x (zdp s x))=(zbm s x (zdp s x),0):=by
  unfold zjs
  rw[g.right]
  simp[hx]
 rw[e]at h
 exact h
theorem z2b{n:Node}(h:n.small=true):(zaq n).length<=1000000:=by
 simp only[Node.small,decide_eq_true_eq]at h
 have v1:=zat n.leaf.box
 have v2:=zat n.leaf.sign
 have v3:=zat n.leaf.ident
 have v4:=zat n.leaf.parent
 have v5:=zat n.leaf.sig
 have v6:=zat n.par.box
 have v7:=zat n.par.hash
 have v8:=zat (zbq n.par.late)
 have v9:=zuq n.par.late
 unfold zaq
 split
 ·unfold zdh
  split<;>simp only[List.length_cons,List.length_append,List.length_nil]<;>omega
 ·split
  ·unfold parB
   simp only[List.length_cons,List.length_append];omega
  ·simp
theorem zaxb{t:List Node}{d o:Nat}(k:TreeOk t d)(ho:o<2^d){s:Lean_}(hs:s=cutS t ((2^d:Nat):Int) o)(g:GoodS s d o):Part_ s d o:=by
 have r:=(zsx g.hd g.ho g.hn g.he).1 g.right
 have hO:=(zip g.hd g.ho g.hn g.he).1 (by rw[<-zod];exact g.right)
 have hfd: ∀z∈(topS s.opn o d).1,found s.opn z=true:=λz hz=>zh9 (r.okA z hz)
 refine⟨hO.1,hO.2.1,hO.2.2.2.2.1,hfd,λi hi=>?_,r.ea.symm,r.eb.symm⟩
 obtain⟨c1,_⟩:=zkh k ho
 have hin:inR d 0 (nd i (sibN (o/2^i))):=zgg.2 ⟨by omega,Nat.div_eq_of_lt (zcv ho hi)⟩
 have hm:(nd i (sibN (o/2^i)):Int)∈(topS (zbb t t.length) o d).1:=((zcs _ o d _).1).2 (.inr ⟨i,hi,by
  unfold kidT
  rw[if_pos (k.found hin)]
  exact zi0 _ _ _ _ _⟩)
 rw[<-c1]at hm
 apply zc9.2
 rw[hs]
 simp only[cutS,List.map_map]
 exact List.mem_map.2 ⟨_,hm,rfl⟩
theorem z86{t:List Node}{d o:Nat}(k:TreeOk t d)(ho:o<2^d){s:Lean_}(hs:s=cutS t ((2^d:Nat):Int) o)(g:GoodS s d o)(hsm: ∀x∈t,x.small=true):s.brief:=by
 have hO:=(zip g.hd g.ho g.hn g.he).1 (by rw[<-zod];exact g.right)
 have sh:=zdz (zbb t t.length) k.hd ho d (Nat.le_refl _)
 rw[Nat.div_eq_of_lt ho]at sh
 have hlen:=k.len
 refine⟨g.fit,λx n hx=>?_,λx hx=>by rw[hO.2.1 x hx];decide,zrz g.right⟩
 obtain⟨sp,hsp,_,rfl⟩:=za7 hx
 rw[hs]at hsp
 simp only[cutS,List.mem_map]at hsp
 obtain⟨z,hz,rfl⟩:=hsp
 rw[(zkh k ho).1]at hz
 have hin:=sh.ra z hz
 unfold inR at hin
 exact z2b (hsm _ (zfl (by omega)))
set_option maxHeartbeats 4000000 in
theorem z12(t:List Node)(i:Int)(picks:List Int)(part:List UInt8)(htl:t.length<=maxL)(hlate: ∀x∈t,∀u∈x.par.late,i64 u)(h1l:picks.length<=maxL)(h1i: ∀p∈picks,i64 p):
  zaf Tryz.prog 8 [nods t,I i,is picks,bs part] (.r (.b true)):=by
 refine zac (T:=Tab) mixed Tab_ok Tryz.func8 rfl (by kernel_rfl) ?_
 refine ze zdjb ?_
 refine zw rfl (zt ?_)
 refine Vcall.bool (z8m t htl) (λhsm=>?_) (λhsm=>?_)
 case refine_2=>
  refine zu rfl ?_
  exact zq (cr)
 refine zw rfl ?_
 simp only[zqq,decide_eq_true_eq]at hsm
 obtain⟨hl40,hns⟩:=hsm
 have hfit: ∀x∈t,x.fit:=λx hx=>(zzh (hns x hx) (hlate x hx)).1
 have hl1000: ∀x∈t,x.par.late.length<=1000:=λx hx=>by have:=(zzh (hns x hx) (hlate x hx)).2;omega
 have gm:=z5j t i (by omega) hfit
 cases hr:rightT t with
 |false=>
  rw[if_pos hr]at gm
  refine ze gm ?_
  refine zu rfl ?_
  exact zq (cr)
 |true=>
 rw[if_neg (by rw[hr];decide)]at gm
 by_cases hmem:i∈zhv t
 rotate_left
 ·rw[if_neg hmem]at gm
  refine ze gm ?_
  refine zu rfl ?_
  exact zq (cr)
 rw[if_pos hmem]at gm
 refine ze gm ?_
 refine zw rfl ?_
 refine zh (λh20=>zq (cr)) (λh20=>?_)
 simp only[zb]at h20
 have hp1:picks.length<=20:=by omega
 refine zh (λh21=>zq (cr)) (λh21=>zt ?_)
 simp only[zb]at h21
 have hpl:part.length<=4000:=by omega
 have rt:=zvb.1 hr
 obtain⟨d,k,hlv⟩:=zehb rt hfit
 have hd:=k.hd
 have hlen:=k.len
 have e2:2^(d+1)=2*2^d:=by rw[Nat.pow_succ];omega
 obtain⟨o,rfl,ho,hleaf⟩:=z2h hmem
 have ho':o<2^d:=by omega
 obtain⟨c1,c2,c3,c4,c5,c6⟩:=zkh k ho'
 obtain⟨g,hh,l1,l2⟩:=za0b k ho' hleaf
 have sh:=zdz (zbb t t.length) hd ho' d (Nat.le_refl _)
 rw[Nat.div_eq_of_lt ho']at sh
 have hof: ∀z:Int,inR d 0 z->ofI z ((2^d:Nat):Int)=true:=λz hz=>by
  unfold inR at hz
  exact zey.2 ⟨zdd d hd,by omega,by omega⟩
 have la:=zu7 (n:=2^(d+1)) sh.pa λz hz=>by have:=sh.ra z hz;unfold inR at this;omega
 have lb:=zu7 (n:=2^(d+1)) sh.pb λz hz=>by have:=sh.rb z hz;unfold inR at this;omega
 have gc:=zgfb t hfit k.right hl1000 hd hlen (own:=(o:Int)) (by omega) (by omega) (λx hx=>hof x (sh.ra x ((c3 x).1 hx))) (λx hx=>hof x (sh.rb x ((c4 x).1 hx))) (by omega) (by omega)
 obtain⟨s,hs⟩: ∃s,s=cutS t ((2^d:Nat):Int) o:=⟨_,rfl⟩
 rw[<-hs]at gc g hh
 refine ze gc ?_
 refine za rfl rfl ?_
 refine zy (λn:Nat×Lean_=>{F:=[(0, .r (nods t)),(2, .r (is picks)),(3, .r (bs part)),(9, .own 0),(10, .own 1),(11, .r (I n.1))],O:=[(0,some (.box (n.2.c.map .r))),(1,some (.box (s.c.map .r)))],nx:=2})
  (λn=>n.1<=picks.length/\GoodS n.2 d o/\zaj n.2 d 0=zaj s d 0) (λn=>picks.length-n.1) (0,s) ⟨by omega,g,rfl⟩
  (zad [(0,0),(1,1)] rfl ⟨cr,cr,cr,rfl,rfl,cr,trivial⟩ ⟨zab s.c,zab s.c,trivial⟩) ?_
 rintro⟨n,S⟩ ⟨hn,gS,hS⟩
 simp only at hn gS hS
 obtain⟨q1,q2,q3,q4⟩:=gS.own
 have gl:=zps gS
 refine zh (λh=>zq ?_) (λh=>zt ?_)
 ·simp only[zb]at h
  have hn':n<picks.length:=by omega
  have hpk:=h1i _ (List.getElem_mem hn')
  have gw:=z8u S (by have:=gS.fit.1;omega) q1 q2 q3 picks[n] hpk
  refine za rfl rfl ?_
  refine ze gl ?_
  refine Vdraw.mk' (by kernel_rfl) ?_
  refine za rfl rfl ?_
  refine zm (by omega) (by omega) (zai rfl hn') (zg rfl ?_)
  refine ze gw ?_
  refine zh (λh2=>zq ?_) (λh2=>zt ?_)
  ·simp only[zb]at h2
   have hne:zan S true≠[]:=λe=>by
    unfold zin at h2
    rw[if_pos e]at h2
    omega
   have hm:=z8c q1 q2 q3 hne picks[n]
   obtain⟨_,gT,_,_,_,hT,_⟩:=zpm gS hm
   have hlk:=z6z gS hm
   have gsh:=zz3 gS hm
   have glT:=zps gT
   obtain⟨T,hTe⟩: ∃T,T=zbm S (zin S picks[n]) (zdp S (zin S picks[n])):=⟨_,rfl⟩
   rw[<-hTe]at gT hT hlk gsh glT
   have hol:=z4p S false
   refine za rfl rfl ?_
   refine ze gsh ?_
   refine zd (m:=0) rfl (by omega) ?_
   refine zw rfl ?_
   refine za rfl rfl ?_
   refine ze glT ?_
   refine zd (m:=((zan S false).length+1:Nat)) (by omega) (by omega) ?_
   refine zw (by simp only[zb];omega) (zt ?_)
   refine za rfl rfl ?_
   refine zd (m:=((n+1:Nat):Int)) (by omega) (by omega) ?_
   exact⟨(n+1,T),⟨hn',gT,by rw[hT,hS]⟩,by simp only;omega,zad [(0,0),(1,1)] rfl ⟨cr,cr,cr,rfl,rfl,cr,trivial⟩ ⟨zab T.c,zab s.c,trivial⟩⟩
  ·refine zd (m:=((n+1:Nat):Int)) (by omega) (by omega) ?_
   exact⟨(n+1,S),⟨hn',gS,hS⟩,by simp only;omega,zad [(0,0),(1,1)] rfl ⟨cr,cr,cr,rfl,rfl,cr,trivial⟩ ⟨zab S.c,zab s.c,trivial⟩⟩
 simp only[zb]at h
 have hS2:zaj S d 0=zbc t d 0:=by rw[hS,hh]
 have hpt:=zaxb k ho' hs g
 have hbr:=z86 k ho' hs g hns
 have hlv:lv (S.leaves-1).toNat=d:=by rw[gS.hn,<-zg0,Int.toNat_natCast,zrf hd]
 have e0:zml S part=chkP 1 part (zbc t d 0) o:=by unfold zml;rw[gS.right,hlv,hS2,gS.he];rfl
 have gf:=zfbb S gS.fit part
 rw[e0]at gf
 have gb:=z9o s hbr hd ho' g.hn g.he
 have gsm:=zho part (zid 1 s d)
 have hlvs: ∀(v:Lean_) (e:Nat),v.leaves=((2^e:Nat):Int)->lvS v=e:=λv e h=>by unfold lvS;rw[h,Int.toNat_natCast,Nat.log2_two_pow]
 have hhs:zar s d 0=zbc t d 0:=by rw[<-(ztf hd ho' g.hn g.he g.right).1,hh]
 rcases z9c part (zbc t d 0) o with⟨e,c1,c2⟩ |⟨p,r,r',c1,c2⟩
 ·have hb:=z08 c1
  rw[c1]at gf
  simp only[zk6]at gf
  have hne:part≠zid 1 s d:=λheq=>by
   have hr:=z6t hd ho' g.hn g.he hpt (by rw[<-heq];omega)
   rw[<-heq]at hr
   unfold zp7 at c2
   rw[hr]at c2
   simp only at c2
   rw[if_pos g.he,hlvs s d g.hn,if_pos hhs]at c2
   cases c2
  refine za rfl rfl ?_
  refine ze gf ?_
  refine zd (m:=(e:Int)) rfl (by omega) ?_
  refine zu (by simp only[zb];omega) (zq ?_)
  refine za rfl rfl ?_
  refine Vcall.mk' (z9s empty_ (by decide) (by decide) (λx hx=>by cases hx)) (zk zbjb Cvs.nil) ?_
  rw[decide_eq_true rfl]
  refine za rfl rfl ?_
  refine ze gb ?_
  refine Vcall.bool gsm (λh3=>?_) (λh3=>zu rfl ?_)
  ·simp only[zb]at h3
   exact absurd h3 hne
  ·exact cr
 ·obtain⟨u,hu⟩: ∃u,u=p.sparse:=⟨_,rfl⟩
  obtain⟨p1,_,_⟩:=z4g c1
  obtain⟨_,d9,l9,hk9⟩:=zqx p1
  obtain⟨b1,b2,b3⟩:=z9y hk9
  rw[c1]at gf
  simp only[zk6]at gf
  rw[<-hu]at gf c2 b1 b2 b3
  obtain⟨hr,how,hash⟩:refP part= .ok u r'/\u.own=(o:Int)/\zar u (lvS u) 0=zbc t d 0:=by
   unfold zp7 at c2
   cases hq:refP part with
   |err e=>rw[hq]at c2;cases c2
   |ok v s'=>
    rw[hq]at c2
    simp only at c2
    split at c2
    ·rename_i h1
     split at c2
     ·rename_i h2
      injection c2 with e1 e2
      subst e1;subst e2
      exact⟨rfl,h1,h2⟩
     ·cases c2
    ·cases c2
  obtain⟨d',o',hd',ho1,hn',he',hp',hpart⟩:=z5m hr
  have ho2:o'=o:=by rw[how]at he';omega
  subst ho2
  rw[hlvs u d' hn']at hash
  have hRu:=zt2 hd' ho1 hn' he' hp'
  have hru: ∀x∈u.opn,x.node.right=true:=zrz hRu
  obtain⟨_,_,_,lq,xq,hdq,hnq,_,hlq,hxq,huq,_⟩:=zeyb hr
  obtain⟨f1,f2,f3,f4,f5⟩:=zlx (by omega) hxq
  have hfu:u.fitN:=⟨by omega,by omega,by rw[huq];exact f1,λz hz=>by rw[huq]at hz;rw[f2 z hz];decide⟩
  have hnu: ∀x∈u.opn,za1 x.at_=true:=λx hx=>by rw[huq]at hx;exact zlk hdq (f3 x hx)
  have g18:=z8j t hfit k.right d hd hlen
  have g19:=z96 u hfu hru hnu
  have hl18: ∀x∈(List.range t.length).map (txtT t),x.length<=100000000000:=λx hx=>by
   obtain⟨j,hj,rfl⟩:=List.mem_map.1 hx
   have hj':=List.mem_range.1 hj
   have hni:za1 (j:Int)=true:=by rw[zdl];omega
   obtain⟨h,kk,hh1,hk1,e,_⟩:=zfm hni
   have ej:j=nd h kk:=Int.ofNat.inj e
   rw[ej,zwj t hh1 hk1]
   exact zbcb t hfit (by omega)
  have hl19: ∀x∈u.opn.map (λx=>txtI u x.at_),x.length<=100000000000:=λx hx=>by
   obtain⟨y,hy,rfl⟩:=List.mem_map.1 hx
   exact zd0b u hfu _ _
  have gcol:=z8g _ _ (by rw[List.length_map,List.length_range];omega) (by rw[List.length_map];omega) hl18 hl19
  refine za rfl rfl ?_
  refine ze gf ?_
  refine zd (m:=0) rfl (by omega) ?_
  refine zw rfl (zt ?_)
  refine Vdraw.mk' (by kernel_rfl) ?_
  refine ze g18 ?_
  refine za rfl rfl ?_
  refine ze g19 ?_
  refine Vcall.bool gcol (λh3=>zq (cr)) (λh3=>zt ?_)
  have hno:=zbdb h3
  have hdd:=z6b k hd' ho1 hp' hfu hno hash.symm
  subst hdd
  have hus:u=s:=by rw[hs];exact zaub k ho1 hn' he' hp' hfu hno hash.symm
  rw[<-hus]at gb gsm
  rw[<-hus]
  refine za rfl rfl ?_
  refine za rfl rfl ?_
  refine ze (z00 u u (by omega) (by omega) (by omega) (by omega) b3 b3) ?_
  rw[decide_eq_true rfl]
  refine za rfl rfl ?_
  refine ze gb ?_
  refine ze gsm ?_
  exact zf (congrArg RV.b (decide_eq_true hpart))
end
section
open Go.ChangeShapes Go.WideShapes Go.ChangeAt Go.RowKit
set_option maxRecDepth 100000 in
theorem z10(os:Os)(started:os.Started)(H:Type)(enc:TypeId×Value->H):
  ReturnsInHanded {} Tryz.checked os 8 .any (Rows.cacheSoundSpec.pre6 enc Tryz.prog Tryz.f8 Rows.cacheSoundRow.domain false) (Rows.cacheSoundSpec.post enc Tryz.prog Tryz.f8 false true false false):=by
 refine returnsInHanded_of_change_sized (C:=Tryz.checked) zbxb started (by kernel_rfl) Tryz.func8
  (ChangeSpec.witness6 (enc:=enc) (C:=Tryz.checked) false ⟨#[], #[.slice none 0 0, .int .i64 0, .slice none 0 0, .slice none 0 0],[]⟩ 8 (by kernel_rfl) (by kernel_rfl) (by kernel_rfl) (by kernel_rfl)) ?_
 intro W base args ds gs before hval0 hW hcnd hsz0 _
 have hval: ∀(j:Nat) t v,Tryz.f8.params[j]?=some t->args[j]?=some v->Value.okWide Tryz.prog W .any base t v:=hval0
 have hsz:(DataW.weightsEach Tryz.prog (Tryz.f8.params.toList++Rows.cacheSoundSpec.plain.varTypes Tryz.prog) (ds++gs)).all (· <=reachBytes)=true:=hsz0
 have hW':=hW
 obtain⟨p,q,hA0,hV,rfl,hfz,hnd⟩:=hW
 have hA:DataW.TrodAll enc Tryz.prog W 0 (λ_=>true) true Tryz.f8.params.toList args.toList ds p:=hA0
 rw[Tryz.params8]at hA hval hsz
 obtain⟨v0,vs0,d0,ds0,p0,q0,hargs,rfl,rfl,h0,r0⟩:=trodAll_cons hA
 obtain⟨v1,vs1,d1,ds1,p1,q1,rfl,rfl,rfl,h1,r1⟩:=trodAll_cons r0
 obtain⟨v2,vs2,d2,ds2,p2,q2,rfl,rfl,rfl,h2,r2⟩:=trodAll_cons r1
 obtain⟨v3,vs3,d3,ds3,p3,q3,rfl,rfl,rfl,h3,r3⟩:=trodAll_cons r2
 obtain⟨rfl,rfl,rfl⟩:=trodAll_nil r3
 obtain rfl:args= #[v0,v1,v2,v3]:=by cases args;simp_all
 obtain⟨rfl,rfl⟩:=trodVars_none hV
 obtain⟨a1,rfl,rfl,rfl,w1⟩:=open_int Tryz.underlying3 (hval 1 3 v1 rfl rfl) h1
 have lt0: ∀x∈p0,x.block<W.heap.size:=by obtain⟨m,hm⟩:=h0;exact DataW.trod_lt m _ _ _ hm
 obtain⟨t0,i0,n0,hv0⟩:=zeub (hval 0 49 v0 rfl rfl) h0 λn hn=>by
  have:=List.all_eq_true.1 hsz n (DataW.weights_mem_each (j:=0) rfl rfl n hn)
  simpa using this
 have lt2: ∀x∈p2,x.block<W.heap.size:=by obtain⟨m,hm⟩:=h2;exact DataW.trod_lt m _ _ _ hm
 obtain⟨l2,i2,n2,hv2⟩:=zd9b (hval 2 34 v2 rfl rfl) h2 λn hn=>by
  have:=List.all_eq_true.1 hsz n (DataW.weights_mem_each (j:=2) rfl rfl n hn)
  simpa using this
 have lt3: ∀x∈p3,x.block<W.heap.size:=by obtain⟨m,hm⟩:=h3;exact DataW.trod_lt m _ _ _ hm
 obtain⟨l3,hv3⟩:=za6b (hval 3 28 v3 rfl rfl) h3
 clear hA0 hval0 hsz0
 refine((z12 t0 a1 l2 l3 n0 i0 n2 i2).2 W (allK W) [v0, .int .i64 a1,v2,v3] (by
  simp only[RV.partsAt]
  exact⟨_,_,rfl,hv0,_,_,rfl,rfl,_,_,rfl,hv2,_,_,rfl,hv3,rfl⟩)).mono λe W' ⟨v,he,bel,k',_,hr⟩=>?_
 have hr':v= .bool true:=by simpa[Res.at_,RV.at_]using hr
 subst hr';subst he
 exact⟨_,rfl,_,_,_,[],_,[],hW',trodAll_mk1 (shut_bool Tryz.underlying4 _),(trodAll_cons_mk (Below.trod zsq (by kernel_rfl) (of_decide_eq_true (by kernel_rfl)) h0 bel lt0) (trodAll_cons_mk (shut_int Tryz.underlying3 w1) (trodAll_cons_mk (Below.trod zsq (by kernel_rfl) (of_decide_eq_true (by kernel_rfl)) h2 bel lt2) (trodAll_cons_mk (Below.trod zsq (by kernel_rfl) (of_decide_eq_true (by kernel_rfl)) h3 bel lt3) trodAll_mk0)))),rfl,bel.frame _,λh=>by cases h⟩
theorem cacheSound_holds:Rows.CacheSoundSaid:=
 OpenClaim.holds_of_wide 8 Tryz.f8 rfl rfl rfl rfl rfl rfl rfl ⟨rfl,rfl,rfl,rfl,rfl⟩ rfl rfl rfl rfl rfl (by kernel_rfl) Tryz.func8 (by kernel_rfl)
  (of_decide_eq_true (by kernel_rfl)) (by unfold Func.isWrapper;first |(rw[if_pos (by decide+kernel)];kernel_rfl) |(rw[if_neg (by decide+kernel)];exact⟨rfl,rfl⟩))
  (λos started H enc _=>z10 os started H enc)
#print axioms cacheSound_holds
end
end Go.Proofs.YtpdllgbfemnemaaGreat.Sx
