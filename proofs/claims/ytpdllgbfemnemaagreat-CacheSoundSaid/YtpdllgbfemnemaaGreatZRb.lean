import Derived.Test.YtpdllgbfemnemaaGreatZQe
namespace Go.Proofs.YtpdllgbfemnemaaGreat.Sx
open Go.RowKit
set_option linter.unusedVariables false
section
inductive PR (α:Type)where
 |err (e:Nat)
 |ok (a:α) (r:List UInt8)
def numA(n:Nat)(l:List UInt8):Nat:=l.foldl (λn c=>256*n+c.toNat) n
theorem z7q(n:Nat){l:List UInt8}{j:Nat}(hj:j<l.length):numA n (l.take (j+1))=256*numA n (l.take j)+l[j].toNat:=zfx (f:=λn (c:UInt8)=>256*n+c.toNat) hj
theorem zia: ∀(l:List UInt8) (n b:Nat),n<b->numA n l<b*256^l.length
 |[],n,b,h=>by simpa[numA]using h
 |c::l,n,b,h=>by
  have hc:=c.toNat_lt
  have:=zia l (256*n+c.toNat) (256*b) (by omega)
  rw[List.length_cons,Nat.pow_succ]
  have e:b*(256^l.length*256)=256*b*256^l.length:=by rw[Nat.mul_comm (256^l.length),<-Nat.mul_assoc,Nat.mul_comm b]
  rw[e]
  exact this
def zaz(c:UInt8):Nat:=if 128<=c.toNat then 3 else if 64<=c.toNat then 1 else 0
def lenP:List UInt8->PR Nat
 |[]=> .err 4
 |c::r=>if 192<=c.toNat then .err 3 else if r.length<zaz c then .err 4 else
  if zb4 (numA (c.toNat%64) (r.take (zaz c)))≠zaz c+1 then .err 3 else .ok (numA (c.toNat%64) (r.take (zaz c))) (r.drop (zaz c))
def vecP(l:List UInt8):PR (List UInt8):=match lenP l with
 | .err e=> .err e
 | .ok n r=>if r.length<n then .err 4 else .ok (r.take n) (r.drop n)
theorem ztc{l r:List UInt8}{n:Nat}(h:lenP l= .ok n r): ∃j,r=l.drop j/\0<j/\j<=l.length/\n<1073741824:=by
 cases l with
 |nil=>simp[lenP]at h
 |cons c s=>
  simp only[lenP]at h
  split at h
  ·cases h
  ·split at h
   ·cases h
   ·split at h
    ·cases h
    ·rename_i h1 h2 h3
     injection h with e1 e2
     subst e1;subst e2
     refine⟨zaz c+1,by simp,by omega,by simp;omega,?_⟩
     have h4:=zia (s.take (zaz c)) (c.toNat%64) 64 (by omega)
     have h5:zaz c<=3:=by unfold zaz;split<;>(try split)<;>omega
     have h6:(256:Nat)^(s.take (zaz c)).length<=256^3:=Nat.pow_le_pow_right (by omega) (by rw[List.length_take];omega)
     have:(256:Nat)^3=16777216:=by decide
     omega
theorem zct{l r v:List UInt8}(h:vecP l= .ok v r): ∃j,r=l.drop j/\0<j/\j<=l.length/\v.length<j:=by
 unfold vecP at h
 cases hl:lenP l with
 |err e=>rw[hl]at h;cases h
 |ok n s=>
  rw[hl]at h
  simp only at h
  split at h
  ·cases h
  ·rename_i hn
   injection h with e1 e2
   subst e1;subst e2
   obtain⟨j,rfl,h0,hj,_⟩:=ztc hl
   rw[List.length_drop]at hn
   exact⟨j+n,by rw[List.drop_drop],by omega,by omega,by rw[List.length_take,List.length_drop];omega⟩
def nxt(b r:List UInt8):Int:=((b.length-r.length:Nat):Int)
end
section
def zcjb(v:List UInt8):List RV:=[I 1,I 0, .i .u64 0,bs v, .x (.slice none 0 0)]
def zgvb(b:List UInt8)(at_:Nat):List RV:=match vecP (b.drop at_)with
 | .err e=>[.ag (zcjb []),I at_,I e]
 | .ok v r=>[.ag (zcjb v),I (nxt b r),I 0]
def zbw:Nat->List UInt8->PR (List (List UInt8))
 |0,l=> .ok [] l
 |n+1,l=>match vecP l with
  | .err e=> .err e
  | .ok v r=>match zbw n r with
   | .err e=> .err e
   | .ok vs s=> .ok (v::vs) s
theorem zj3: ∀(n:Nat) {l r:List UInt8} {vs:List (List UInt8)},zbw n l= .ok vs r->vs.length=n/\∃j,r=l.drop j/\j<=l.length/\∀v∈vs,v.length<=l.length
 |0,l,r,vs,h=>by
  simp only[zbw,PR.ok.injEq]at h
  obtain⟨rfl,rfl⟩:=h
  exact⟨rfl,0,by simp,by omega,by simp⟩
 |n+1,l,r,vs,h=>by
  simp only[zbw]at h
  cases hv:vecP l with
  |err e=>rw[hv]at h;cases h
  |ok v s=>
   rw[hv]at h
   simp only at h
   obtain⟨j,rfl,h0,hj,hvl⟩:=zct hv
   cases hw:zbw n (l.drop j)with
   |err e=>rw[hw]at h;cases h
   |ok ws t=>
    rw[hw]at h
    simp only[PR.ok.injEq]at h
    obtain⟨rfl,rfl⟩:=h
    obtain⟨h1,i,e1,hi,h2⟩:=zj3 n hw
    rw[List.length_drop]at hi h2
    refine⟨by simp[h1],j+i,by rw[e1,List.drop_drop],by omega,λw hw=>?_⟩
    rcases List.mem_cons.1 hw with rfl |hw
    ·omega
    ·have:=h2 w hw;omega
end
end Go.Proofs.YtpdllgbfemnemaaGreat.Sx
