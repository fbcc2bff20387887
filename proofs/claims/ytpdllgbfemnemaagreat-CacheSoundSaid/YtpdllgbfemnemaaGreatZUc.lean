import Derived.Test.YtpdllgbfemnemaaGreatZQe
import Derived.Test.YtpdllgbfemnemaaGreatZRe
import Derived.Test.YtpdllgbfemnemaaGreatZTs
import Derived.Test.YtpdllgbfemnemaaGreatZKv
namespace Go.Proofs.YtpdllgbfemnemaaGreat.Sx
open Go.RowKit
set_option linter.unusedVariables false
section
theorem zx0: ∀(l:List Int) (a:Int),zfh a l=true->a<65536->(l.length:Int)+a<=65535
 |[],a,_,h=>by simp;omega
 |x::l,a,h,_=>by
  simp only[zfh,Bool.and_eq_true,decide_eq_true_eq]at h
  have:=zx0 l x h.2 h.1.2
  simp only[List.length_cons]
  omega
def asR(s:Lean_):Bool:=
 za0 s.leaves&&(decide (0<=s.own)&&(decide (s.own<s.leaves)&&(s.opn.all (okR s.leaves)&&(s.shut.all (λx=>decide (x.hash.length=32))&&
  (ze6 s&&(zq1 s.opn s.leaves s.own&&(decide (s.opn.map (·.at_)=zb5 (zb3 s.opn s.leaves s.own))&&decide (s.shut.map (·.at_)=zb5 (zdg s.opn s.leaves s.own)))))))))
theorem zp8{l:List Int}{x:Int}:x∈zb5 l↔x∈l:=by
 have h: ∀(l a:List Int),x∈l.foldl (λa x=>insD x a) a↔x∈a\/x∈l:=by
  intro l
  induction l with
  |nil=>intro a;simp
  |cons y l ih=>
   intro a
   rw[List.foldl_cons,ih,zix]
   simp only[List.mem_cons]
   exact⟨λh=>by rcases h with(h |h) |h<;>simp[h],λh=>by rcases h with h |h |h<;>simp[h]⟩
 unfold zb5
 rw[h]
 simp
end
section
def endR(n i:Nat)(x:List Spot×List Stub)(r:List UInt8):PR Lean_:=if r.length=0 then(if asR ⟨n,i,x.1,x.2⟩then .ok ⟨n,i,x.1,x.2⟩ []else .err 3)else .err 5
def ref2(n i:Nat)(r:List UInt8):PR Lean_:=match zbn n.log2 0 r with
 | .err e=> .err e
 | .ok x r=>endR n i x r
def ref1(n:Nat)(r:List UInt8):PR Lean_:=match numP 4 (λi=>decide ((i:Int)<n)) r with
 | .err e=> .err e
 | .ok i r=>ref2 n i r
def ref0(r:List UInt8):PR Lean_:=match numP 4 (λn=>za0 n) r with
 | .err e=> .err e
 | .ok n r=>ref1 n r
def refP(b:List UInt8):PR Lean_:=if 1048576<b.length then .err 6 else match numP 1 (λn=>decide ((n:Int)=1)) b with
 | .err e=> .err e
 | .ok _ r=>ref0 r
def refS(q:PR Lean_):RV:=match q with
 | .err e=> .tu [.ag zero4,I e]
 | .ok s _=> .tu [.ag s.c,I 0]
theorem zlx{h k:Nat}{l r:List UInt8}{x:List Spot×List Stub}(hl:l.length<=100000000)(hq:zbn h k l= .ok x r):
  (∀s∈x.1,s.node.fit)/\(∀s∈x.2,s.hash.length=32)/\(∀s∈x.1,inR h k s.at_)/\(∀s∈x.2,inR h k s.at_)/\x.1.length+x.2.length+1<=2^(h+1):=by
 have:=zwi h k l
 rw[hq]at this
 obtain⟨y,hy,hp⟩:=this
 obtain⟨f1,f2⟩:=zqf h k hl hy
 obtain⟨i1,i2,_⟩:=zi3 h k hy
 have hc:=zm6 h k hy
 simp only[hp.length_eq]at hc
 exact⟨λs hs=>f1 s (hp.mem_iff.2 hs),f2,λs hs=>i1 s (hp.mem_iff.2 hs),i2,hc⟩
theorem zgkb(c:UInt8)(r:List UInt8):numA 0 ((c::r).take 1)=c.toNat:=by simp[numA]
theorem zeyb{b r:List UInt8}{s:Lean_}(h:refP b= .ok s r): ∃(d n i:Nat) (l:List UInt8) (x:List Spot×List Stub),d<=16/\n=2^d/\i<n/\l.length<=1048576/\zbn d 0 l= .ok x []/\s=⟨n,i,x.1,x.2⟩/\asR s=true:=by
 unfold refP at h
 split at h
 ·cases h
 rename_i hb
 cases h0:numP 1 (λn=>decide ((n:Int)=1)) b with
 |err e'=>rw[h0]at h;cases h
 |ok m r0=>
  rw[h0]at h
  simp only[ref0]at h
  obtain⟨_,hr0⟩:=ze2 h0
  cases h1:numP 4 (λn=>za0 n) r0 with
  |err e'=>rw[h1]at h;cases h
  |ok n r1=>
   rw[h1]at h
   simp only[ref1]at h
   obtain⟨hf,hr1⟩:=ze2 h1
   cases h2:numP 4 (λi=>decide ((i:Int)<n)) r1 with
   |err e'=>rw[h2]at h;cases h
   |ok i r2=>
    rw[h2]at h
    simp only[ref2]at h
    obtain⟨hi,hr2⟩:=ze2 h2
    simp only[decide_eq_true_eq]at hi
    obtain⟨d,hd,hn⟩:=zde hf
    have hn2:n=2^d:=by omega
    have hdl:n.log2=d:=by rw[hn2,Nat.log2_two_pow]
    have hl2:r2.length<=1048576:=by rw[hr2,hr1,hr0,List.length_drop,List.length_drop,List.length_drop];omega
    rw[hdl]at h
    cases h3:zbn d 0 r2 with
    |err e'=>rw[h3]at h;cases h
    |ok y r3=>
     rw[h3]at h
     simp only[endR]at h
     split at h
     ·rename_i h5
      split at h
      ·rename_i hp
       injection h with h4 h6
       subst h4
       rw[List.eq_nil_of_length_eq_zero h5]at h3
       exact⟨d,n,i,r2,y,hd,hn2,by omega,hl2,h3,rfl,hp⟩
      ·cases h
     ·cases h
def lvS(s:Lean_):Nat:=s.leaves.toNat.log2
def zp7(b h:List UInt8)(i:Int):PR Lean_:=match refP b with
 | .err e=> .err e
 | .ok s r=>if s.own=i then(if zar s (lvS s) 0=h then .ok s r else .err 17)else .err 7
end
end Go.Proofs.YtpdllgbfemnemaaGreat.Sx
