import Derived.Test.YtpdllgbfemnemaaGreatZRb
namespace Go.Proofs.YtpdllgbfemnemaaGreat.Sx
open Go.RowKit
set_option linter.unusedVariables false
section
theorem zb8b{l:List UInt8}{e:Nat}(h:lenP l= .err e):e=3\/e=4:=by
 cases l with
 |nil=>simp only[lenP,PR.err.injEq]at h;omega
 |cons c s=>
  simp only[lenP]at h
  split at h
  ·injection h with h;omega
  ·split at h
   ·injection h with h;omega
   ·split at h
    ·injection h with h;omega
    ·cases h
theorem zjk{l:List UInt8}{e:Nat}(h:vecP l= .err e):e=3\/e=4:=by
 unfold vecP at h
 cases hq:lenP l with
 |err e'=>rw[hq]at h;injection h with h;subst h;exact zb8b hq
 |ok m s=>
  rw[hq]at h
  simp only at h
  split at h
  ·injection h with h;omega
  ·cases h
theorem zhy: ∀(n:Nat) {l:List UInt8} {e:Nat},zbw n l= .err e->e=3\/e=4
 |0,l,e,h=>by cases h
 |n+1,l,e,h=>by
  simp only[zbw]at h
  cases hv:vecP l with
  |err e'=>rw[hv]at h;injection h with h;subst h;exact zjk hv
  |ok v r=>
   rw[hv]at h
   simp only at h
   cases hw:zbw n r with
   |err e'=>rw[hw]at h;injection h with h;subst h;exact zhy n hw
   |ok vs s=>rw[hw]at h;cases h
theorem zgub(l:List UInt8):zbw 1 l=match vecP l with | .err e=> .err e | .ok v r=> .ok [v] r:=by
 simp only[zbw]
 cases vecP l<;>rfl
def zil(vs:List (List UInt8))(c:UInt8)(par sig:List UInt8):Leaf:=⟨vs.getD 0 [],vs.getD 1 [],vs.getD 2 [],c,par,sig⟩
def zd7(c:UInt8)(r:List UInt8):PR (List UInt8):=if c.toNat=3 then vecP r else .ok [] r
def zhf(vs:List (List UInt8))(c:UInt8)(par r:List UInt8):PR Leaf:=match vecP r with
 | .err e=> .err e
 | .ok sig r=>if(zil vs c par sig).right=true then .ok (zil vs c par sig) r else .err 3
def zhc(vs:List (List UInt8)):List UInt8->PR Leaf
 |[]=> .err 4
 |c::r=>if c.toNat=0\/3<c.toNat then .err 3 else match zd7 c r with
  | .err e=> .err e
  | .ok par r=>zhf vs c par r
def zej(l:List UInt8):PR Leaf:=match zbw 3 l with
 | .err e=> .err e
 | .ok vs r=>zhc vs r
theorem zig:Cv (.ag [.x (.slice none 0 0), .x (.slice none 0 0), .x (.slice none 0 0), .i .u8 0, .x (.slice none 0 0), .x (.slice none 0 0)]) (.ag zl.c):=
 Cv.ag (zk (Cv.nil 1) (zk (Cv.nil 1) (zk (Cv.nil 1) (zk (cr) (zk (Cv.nil 1) (zk (Cv.nil 1) Cvs.nil))))))
theorem len3{α:Type}{l:List α}(h:l.length=3): ∃a b c,l=[a,b,c]:=by
 match l,h with
 |[a,b,c],_=>exact⟨a,b,c,rfl⟩
theorem z0e{b:List UInt8}{a j:Nat}{c:UInt8}{r:List UInt8}(h:b.drop (a+j)=c::r):a+j<b.length/\r=b.drop (a+j+1)/\∀hh:a+j<b.length,b[a+j]=c:=by
 have hl:a+j<b.length:=by
  rcases Nat.lt_or_ge (a+j) b.length with h1 |h1
  ·exact h1
  ·rw[List.drop_of_length_le h1]at h;cases h
 have e:=List.drop_eq_getElem_cons hl
 rw[e]at h
 injection h with h1 h2
 exact⟨hl,h2.symm,λ_=>h1⟩
section
variable {b:List UInt8} {at_ n:Nat} {e:Nat} {vs:List (List UInt8)} {v r:List UInt8} {m:Int}
end
end
section
def zdc(v:List UInt8)(j:Nat):List Int:=(List.range j).map λi:Nat=>((numA 0 ((v.drop (4*i)).take 4):Nat):Int)
def zgc(vs:List (List UInt8)):Par:=⟨vs.getD 0 [],vs.getD 1 [],zdc (vs.getD 2 []) ((vs.getD 2 []).length/4)⟩
def parP(l:List UInt8):PR Node:=match zbw 3 l with
 | .err e=> .err e
 | .ok vs r=>if(vs.getD 2 []).length%4=0/\(zgc vs).right=true then .ok ⟨2,zl,zgc vs⟩ r else .err 3
def zbz:List UInt8->PR Node
 |[]=> .err 4
 |c::r=>if c.toNat=0 then .ok Node.zero r else if c.toNat=1 then(match zej r with
  | .err e=> .err e
  | .ok l s=> .ok ⟨1,l,zp⟩ s)else if c.toNat=2 then parP r else .err 3
theorem z7n(v:List UInt8)(j:Nat):zdc v (j+1)=zdc v j++[((numA 0 ((v.drop (4*j)).take 4):Nat):Int)]:=by
 unfold zdc
 rw[List.range_succ,List.map_append]
 rfl
theorem ztk(v:List UInt8)(j:Nat):(zdc v j).length=j:=by simp[zdc]
section
variable {b:List UInt8} {at_:Nat} {e:Nat} {l:Leaf} {r:List UInt8} {m:Int}
end
theorem zxq{l:List UInt8}{e:Nat}(h:zej l= .err e):e=3\/e=4:=by
 unfold zej at h
 cases hv:zbw 3 l with
 |err e'=>rw[hv]at h;injection h with h;subst h;exact zhy 3 hv
 |ok vs r=>
  rw[hv]at h
  simp only at h
  cases r with
  |nil=>simp only[zhc,PR.err.injEq]at h;omega
  |cons c s=>
   simp only[zhc]at h
   split at h
   ·injection h with h;omega
   ·cases hp:zd7 c s with
    |err e'=>
     rw[hp]at h
     injection h with h
     subst h
     unfold zd7 at hp
     split at hp
     ·exact zjk hp
     ·cases hp
    |ok par q=>
     rw[hp]at h
     simp only[zhf]at h
     cases hx:vecP q with
     |err e'=>rw[hx]at h;injection h with h;subst h;exact zjk hx
     |ok sig z=>
      rw[hx]at h
      simp only at h
      split at h
      ·cases h
      ·injection h with h;omega
theorem z8n{l r:List UInt8}{x:Leaf}(h:zej l= .ok x r): ∃j,r=l.drop j/\j<=l.length:=by
 unfold zej at h
 cases hv:zbw 3 l with
 |err e'=>rw[hv]at h;cases h
 |ok vs q=>
  rw[hv]at h
  obtain⟨_,j,rfl,hj,_⟩:=zj3 3 hv
  simp only at h
  cases hq:l.drop j with
  |nil=>rw[hq]at h;cases h
  |cons c s=>
   rw[hq]at h
   have hs:s=l.drop (j+1):=(z0e (a:=j) (j:=0) hq).2.1
   have hjl:=(z0e (a:=j) (j:=0) hq).1
   simp only[zhc]at h
   split at h
   ·cases h
   ·cases hp:zd7 c s with
    |err e'=>rw[hp]at h;cases h
    |ok par q=>
     rw[hp]at h
     have hq2: ∃i,q=s.drop i/\i<=s.length:=by
      unfold zd7 at hp
      split at hp
      ·obtain⟨i,h1,_,h2,_⟩:=zct hp;exact⟨i,h1,h2⟩
      ·injection hp with h1 h2;exact⟨0,by simp[h2],by omega⟩
     obtain⟨i,rfl,hi⟩:=hq2
     simp only[zhf]at h
     cases hx:vecP (s.drop i)with
     |err e'=>rw[hx]at h;cases h
     |ok sig z=>
      rw[hx]at h
      obtain⟨k,rfl,_,hk,_⟩:=zct hx
      simp only at h
      split at h
      ·injection h with h1 h2
       subst h2
       rw[hs,List.length_drop]at hi
       rw[hs,List.length_drop,List.length_drop]at hk
       exact⟨j+1+i+k,by rw[hs,List.drop_drop,List.drop_drop];congr 1;omega,by omega⟩
      ·cases h
theorem z61(v0 v1 v2:List UInt8):zgc [v0,v1,v2]=⟨v0,v1,zdc v2 (v2.length/4)⟩:=rfl
theorem z15(P:Par):Cv (.ag ([.i .u8 2, .x (.slice none 0 0), .x (.slice none 0 0), .x (.slice none 0 0), .i .u8 0, .x (.slice none 0 0), .x (.slice none 0 0)]++P.c)) (.ag (Node.c ⟨2,zl,P⟩)):=
 Cv.ag (zk (cr) (zk (Cv.nil 1) (zk (Cv.nil 1) (zk (Cv.nil 1) (zk (cr) (zk (Cv.nil 1) (zk (Cv.nil 1) (zn _))))))))
theorem zzi(L:Leaf):Cv (.ag ([.i .u8 1]++L.c++[.x (.slice none 0 0), .x (.slice none 0 0), .x (.slice none 0 0)])) (.ag (Node.c ⟨1,L,zp⟩)):=
 Cv.ag (zk (cr) (zk (cr) (zk (cr) (zk (cr) (zk (cr) (zk (cr) (zk (cr) (zk (Cv.nil 1) (zk (Cv.nil 1) (zk (Cv.nil 1) Cvs.nil))))))))))
end
section
theorem zmn{l:List UInt8}{e:Nat}(h:zbz l= .err e):e=3\/e=4:=by
 cases l with
 |nil=>simp only[zbz,PR.err.injEq]at h;omega
 |cons c r=>
  simp only[zbz]at h
  split at h
  ·cases h
  ·split at h
   ·cases hl:zej r with
    |err e'=>rw[hl]at h;injection h with h;subst h;exact zxq hl
    |ok x s=>rw[hl]at h;cases h
   ·split at h
    ·unfold parP at h
     cases hv:zbw 3 r with
     |err e'=>rw[hv]at h;injection h with h;subst h;exact zhy 3 hv
     |ok vs s=>
      rw[hv]at h
      simp only at h
      split at h
      ·cases h
      ·injection h with h;omega
    ·injection h with h;omega
theorem zfq{l r:List UInt8}{n:Node}(h:zbz l= .ok n r): ∃j,r=l.drop j/\j<=l.length:=by
 cases l with
 |nil=>cases h
 |cons c s=>
  simp only[zbz]at h
  split at h
  ·injection h with h1 h2;exact⟨1,by simp[h2],by simp⟩
  ·split at h
   ·cases hl:zej s with
    |err e'=>rw[hl]at h;cases h
    |ok x q=>
     rw[hl]at h
     injection h with h1 h2
     subst h2
     obtain⟨j,rfl,hj⟩:=z8n hl
     exact⟨j+1,by simp,by simp;omega⟩
   ·split at h
    ·unfold parP at h
     cases hv:zbw 3 s with
     |err e'=>rw[hv]at h;cases h
     |ok vs q=>
      rw[hv]at h
      simp only at h
      split at h
      ·injection h with h1 h2
       subst h2
       obtain⟨_,j,rfl,hj,_⟩:=zj3 3 hv
       exact⟨j+1,by simp,by simp;omega⟩
      ·cases h
    ·cases h
def zbn:Nat->Nat->List UInt8->PR (List Spot×List Stub)
 |_,_,[]=> .err 4
 |h,k,c::r=>
  if 1<c.toNat then .err 3 else if c.toNat=0 then(if r.length<32 then .err 4 else .ok ([],[⟨(nd h k:Int),r.take 32⟩]) (r.drop 32))
  else match zbz r with
   | .err e=> .err e
   | .ok n s=>
    match h with
    |0=>if n.kind.toNat=2 then .err 3 else .ok ([⟨(nd 0 k:Int),n⟩],[]) s
    |h+1=>if n.kind.toNat=1 then .err 3 else match zbn h (2*k) s with
     | .err e=> .err e
     | .ok a s=>match zbn h (2*k+1) s with
      | .err e=> .err e
      | .ok b s=> .ok (a.1++[⟨(nd (h+1) k:Int),n⟩]++b.1,a.2++b.2) s
theorem z9p: ∀(h k:Nat) {l:List UInt8} {e:Nat},zbn h k l= .err e->e=3\/e=4:=by
 intro h
 induction h with
 |zero=>
  intro k l e hl
  cases l with
  |nil=>simp only[zbn,PR.err.injEq]at hl;omega
  |cons c r=>
   simp only[zbn]at hl
   split at hl
   ·injection hl with hl;omega
   ·split at hl
    ·split at hl
     ·injection hl with hl;omega
     ·cases hl
    ·cases hn:zbz r with
     |err e'=>rw[hn]at hl;injection hl with hl;subst hl;exact zmn hn
     |ok n s=>
      rw[hn]at hl
      simp only at hl
      split at hl
      ·injection hl with hl;omega
      ·cases hl
 |succ h ih=>
  intro k l e hl
  cases l with
  |nil=>simp only[zbn,PR.err.injEq]at hl;omega
  |cons c r=>
   simp only[zbn]at hl
   split at hl
   ·injection hl with hl;omega
   ·split at hl
    ·split at hl
     ·injection hl with hl;omega
     ·cases hl
    ·cases hn:zbz r with
     |err e'=>rw[hn]at hl;injection hl with hl;subst hl;exact zmn hn
     |ok n s=>
      rw[hn]at hl
      simp only at hl
      split at hl
      ·injection hl with hl;omega
      ·cases ha:zbn h (2*k) s with
       |err e'=>rw[ha]at hl;injection hl with hl;subst hl;exact ih _ ha
       |ok a q=>
        rw[ha]at hl
        simp only at hl
        cases hb:zbn h (2*k+1) q with
        |err e'=>rw[hb]at hl;injection hl with hl;subst hl;exact ih _ hb
        |ok b z=>rw[hb]at hl;cases hl
theorem z9f: ∀(h k:Nat) {l r:List UInt8} {x:List Spot×List Stub},zbn h k l= .ok x r->x.1.length+x.2.length+r.length<=l.length:=by
 intro h
 induction h with
 |zero=>
  intro k l r x hl
  cases l with
  |nil=>cases hl
  |cons c q=>
   simp only[zbn]at hl
   split at hl
   ·cases hl
   ·split at hl
    ·split at hl
     ·cases hl
     ·injection hl with h1 h2;subst h2;subst h1;simp;omega
    ·cases hn:zbz q with
     |err e'=>rw[hn]at hl;cases hl
     |ok n s=>
      rw[hn]at hl
      obtain⟨j,rfl,hj⟩:=zfq hn
      simp only at hl
      split at hl
      ·cases hl
      ·injection hl with h1 h2;subst h2;subst h1;simp;omega
 |succ h ih=>
  intro k l r x hl
  cases l with
  |nil=>cases hl
  |cons c q=>
   simp only[zbn]at hl
   split at hl
   ·cases hl
   ·split at hl
    ·split at hl
     ·cases hl
     ·injection hl with h1 h2;subst h2;subst h1;simp;omega
    ·cases hn:zbz q with
     |err e'=>rw[hn]at hl;cases hl
     |ok n s=>
      rw[hn]at hl
      obtain⟨j,rfl,hj⟩:=zfq hn
      simp only at hl
      split at hl
      ·cases hl
      ·cases ha:zbn h (2*k) (q.drop j)with
       |err e'=>rw[ha]at hl;cases hl
       |ok a s=>
        rw[ha]at hl
        have i1:=ih _ ha
        simp only at hl
        cases hb:zbn h (2*k+1) s with
        |err e'=>rw[hb]at hl;cases hl
        |ok b s=>
         rw[hb]at hl
         have i2:=ih _ hb
         injection hl with h1 h2
         subst h2;subst h1
         rw[List.length_drop]at i1
         simp only[List.length_append,List.length_cons,List.length_nil]
         omega
end
end Go.Proofs.YtpdllgbfemnemaaGreat.Sx
