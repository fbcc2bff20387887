import Derived.Test.YtkegaaonpekkgaaGreatZSxPt
import Derived.Test.YtkegaaonpekkgaaGreatZKb
import Derived.Test.YtkegaaonpekkgaaGreatZGeoB
import Derived.Test.YtkegaaonpekkgaaGreatZSxY
import Derived.Shelf.RegionOpenPlain
import Derived.Lib.Walk
import Derived.Lib.SliceRun
import Derived.Lib.Overlaps
import Derived.Laws.Externs
import Derived.Laws.IdiomCopy
import Derived.Lib.AppendZerosOnto
import Derived.Laws.NewBlocks
import Derived.Test.YtkegaaonpekkgaaGreatZSxU
namespace Go.Proofs.YtkegaaonpekkgaaGreat.Sx
open Go.RowKit
theorem z2f(l:Leaf)(hl:l.fit):aG 128 [.ag l.c] (.r (.ag l.c)):=by
 refine aT Tryz.func128 rfl ?_
 obtain⟨h1,h2,h3,h4,h5⟩:=hl
 refine Vstep.bsl (adrs 0 [0,1,2,4,5]) Tab_ok rfl rfl rfl rfl rfl rfl (by decide) (by repeat' (first|exact rfl|refine⟨_,_,_,rfl,rfl,rfl,?_⟩)) ?_
 refine zy (λj:Nat=>⟨[(1, .own 0),(2, .own 1),(10, .cut 2 0 5),(11, .r (I 5)),(12, .r (I j))],[(0,some (.box (l.c.map TF.r))),(1,some (.box [.r (.x (.slice none 0 0)), .r (.x (.slice none 0 0)), .r (.x (.slice none 0 0)), .r (.i .u8 0), .r (.x (.slice none 0 0)), .r (.x (.slice none 0 0))])),(2,some (.box (adrs 0 [0,1,2,4,5])))],3⟩) (λj=>j<=5) (λj=>5-j) 0 (by omega) (zad [(0,0),(1,1),(2,2)] rfl (by repeat' (first|exact rfl|exact trivial|exact cr|exact Cv.nil _|exact⟨rfl,rfl⟩|refine⟨_,_,rfl,?_,?_⟩|refine⟨?_,?_⟩)) (by repeat' (first|exact rfl|exact trivial|exact cr|exact Cv.nil _|exact⟨rfl,rfl⟩|refine⟨_,_,rfl,?_,?_⟩|refine⟨?_,?_⟩))) ?_
 intro j hj
 rcases(by omega:j<5\/j=5)with hlt |rfl
 rotate_left
 ·refine zu rfl (zq ?_)
  refine za rfl rfl ?_
  refine za rfl rfl ?_
  exact cr
 obtain⟨k,hk⟩: ∃k,k=j+1:=⟨_,rfl⟩
 rcases(by omega:j=0\/j=1\/j=2\/j=3\/j=4)with rfl |rfl |rfl |rfl |rfl
 all_goals
  refine zt rfl (zp ?_)
  refine Vadr.mk' _ rfl (by decide) ?_
  refine ze (zbu _ (by omega)) ?_
  refine zd (m:=(k:Int)) (by omega) (by omega) ?_
  exact⟨k,by omega,by omega,by subst hk;exact zad [(0,0),(1,1),(2,2)] rfl (by repeat' (first|exact rfl|exact trivial|exact cr|exact Cv.nil _|exact⟨rfl,rfl⟩|refine⟨_,_,rfl,?_,?_⟩|refine⟨?_,?_⟩)) (by repeat' (first|exact rfl|exact trivial|exact cr|exact Cv.nil _|exact⟨rfl,rfl⟩|refine⟨_,_,rfl,?_,?_⟩|refine⟨?_,?_⟩))⟩
theorem zbx(l:Leaf)(hl:l.fit):aG 128 [.ag l.c] (.r (.ag l.c)):=z2f l hl
instance {h k:Nat}{x:Int}:Decidable (inR h k x):=by unfold inR;infer_instance
def nods(l:List Node):RV:= .sl 10 l.length (l.flatMap Node.c)
theorem z0o{l:List Node}{i:Int}{j:Nat}(h:i=j)(hj:j<l.length):((l.flatMap Node.c).drop (i.toNat*10)).take 10=l[j].c:=zk6 (f:=Node.c) (sz:=10) (λ_=>rfl) h hj
inductive PR (α:Type)where
 |err (e:Nat)
 |ok (a:α) (r:List UInt8)
def numA(n:Nat)(l:List UInt8):Nat:=l.foldl (λn c=>256*n+c.toNat) n
theorem z7c(n:Nat){l:List UInt8}{j:Nat}(hj:j<l.length):numA n (l.take (j+1))=256*numA n (l.take j)+l[j].toNat:=z13 (f:=λn (c:UInt8)=>256*n+c.toNat) hj
theorem zj8: ∀(l:List UInt8) (n b:Nat),n<b->numA n l<b*256^l.length
 |[],n,b,h=>by simpa[numA]using h
 |c::l,n,b,h=>by
  have hc:=c.toNat_lt
  have:=zj8 l (256*n+c.toNat) (256*b) (by omega)
  rw[List.length_cons,Nat.pow_succ]
  have e:b*(256^l.length*256)=256*b*256^l.length:=by rw[Nat.mul_comm (256^l.length),<-Nat.mul_assoc,Nat.mul_comm b]
  rw[e]
  exact this
def zaw(c:UInt8):Nat:=if 128<=c.toNat then 3 else if 64<=c.toNat then 1 else 0
def lenP:List UInt8->PR Nat
 |[]=> .err 4
 |c::r=>if 192<=c.toNat then .err 3 else if r.length<zaw c then .err 4 else
  if zct (numA (c.toNat%64) (r.take (zaw c)))≠zaw c+1 then .err 3 else .ok (numA (c.toNat%64) (r.take (zaw c))) (r.drop (zaw c))
def vecP(l:List UInt8):PR (List UInt8):=match lenP l with
 | .err e=> .err e
 | .ok n r=>if r.length<n then .err 4 else .ok (r.take n) (r.drop n)
theorem zwv{l r:List UInt8}{n:Nat}(h:lenP l= .ok n r): ∃j,r=l.drop j/\0<j/\j<=l.length/\n<1073741824:=by
 cases l with
 |nil=>simp[lenP]at h
 |cons c s=>
  simp only[lenP]at h
  split at h
  ·cases h
  ·split at h
   ·cases h
   ·split at h
    ·cases h
    ·rename_i h1 h2 h3
     injection h with e1 e2
     subst e1;subst e2
     refine⟨zaw c+1,by simp,by omega,by simp;omega,?_⟩
     have h4:=zj8 (s.take (zaw c)) (c.toNat%64) 64 (by omega)
     have h5:zaw c<=3:=by unfold zaw;split<;>(try split)<;>omega
     have h6:(256:Nat)^(s.take (zaw c)).length<=256^3:=Nat.pow_le_pow_right (by omega) (by rw[List.length_take];omega)
     have:(256:Nat)^3=16777216:=by decide
     omega
theorem zfe{l r v:List UInt8}(h:vecP l= .ok v r): ∃j,r=l.drop j/\0<j/\j<=l.length/\v.length<j:=by
 unfold vecP at h
 cases hl:lenP l with
 |err e=>rw[hl]at h;cases h
 |ok n s=>
  rw[hl]at h
  simp only at h
  split at h
  ·cases h
  ·rename_i hn
   injection h with e1 e2
   subst e1;subst e2
   obtain⟨j,rfl,h0,hj,_⟩:=zwv hl
   rw[List.length_drop]at hn
   exact⟨j+n,by rw[List.drop_drop],by omega,by omega,by rw[List.length_take,List.length_drop];omega⟩
def nxt(b r:List UInt8):Int:=((b.length-r.length:Nat):Int)
def zbyb(v:List UInt8):List RV:=[I 1,I 0, .i .u64 0,bs v, .x (.slice none 0 0)]
def zk4b(b:List UInt8)(at_:Nat):List RV:=match vecP (b.drop at_)with
 | .err e=>[.ag (zbyb []),I at_,I e]
 | .ok v r=>[.ag (zbyb v),I (nxt b r),I 0]
def zev:Nat->List UInt8->PR (List (List UInt8))
 |0,l=> .ok [] l
 |n+1,l=>match vecP l with
  | .err e=> .err e
  | .ok v r=>match zev n r with
   | .err e=> .err e
   | .ok vs s=> .ok (v::vs) s
theorem zakb{l:List UInt8}{e:Nat}(h:lenP l= .err e):e=3\/e=4:=by
 cases l with
 |nil=>simp only[lenP,PR.err.injEq]at h;omega
 |cons c s=>
  simp only[lenP]at h
  split at h
  ·injection h with h;omega
  ·split at h
   ·injection h with h;omega
   ·split at h
    ·injection h with h;omega
    ·cases h
theorem zlp{l:List UInt8}{e:Nat}(h:vecP l= .err e):e=3\/e=4:=by
 unfold vecP at h
 cases hq:lenP l with
 |err e'=>rw[hq]at h;injection h with h;subst h;exact zakb hq
 |ok m s=>
  rw[hq]at h
  simp only at h
  split at h
  ·injection h with h;omega
  ·cases h
theorem zt4: ∀(n:Nat) {l:List UInt8} {e:Nat},zev n l= .err e->e=3\/e=4
 |0,l,e,h=>by cases h
 |n+1,l,e,h=>by
  simp only[zev]at h
  cases hv:vecP l with
  |err e'=>rw[hv]at h;injection h with h;subst h;exact zlp hv
  |ok v r=>
   rw[hv]at h
   simp only at h
   cases hw:zev n r with
   |err e'=>rw[hw]at h;injection h with h;subst h;exact zt4 n hw
   |ok vs s=>rw[hw]at h;cases h
theorem zk5b(l:List UInt8):zev 1 l=match vecP l with | .err e=> .err e | .ok v r=> .ok [v] r:=by
 simp only[zev]
 all_goals (cases vecP l<;>rfl)
def zfw(vs:List (List UInt8))(c:UInt8)(par sig:List UInt8):Leaf:=⟨vs.getD 0 [],vs.getD 1 [],vs.getD 2 [],c,par,sig⟩
def zge(c:UInt8)(r:List UInt8):PR (List UInt8):=if c.toNat=3 then vecP r else .ok [] r
def zj3(vs:List (List UInt8))(c:UInt8)(par r:List UInt8):PR Leaf:=match vecP r with
 | .err e=> .err e
 | .ok sig r=>if(zfw vs c par sig).right=true then .ok (zfw vs c par sig) r else .err 3
def zmp(vs:List (List UInt8)):List UInt8->PR Leaf
 |[]=> .err 4
 |c::r=>if c.toNat=0\/3<c.toNat then .err 3 else match zge c r with
  | .err e=> .err e
  | .ok par r=>zj3 vs c par r
def znt(l:List UInt8):PR Leaf:=match zev 3 l with
 | .err e=> .err e
 | .ok vs r=>zmp vs r
theorem zf6:Cv (.ag [.x (.slice none 0 0), .x (.slice none 0 0), .x (.slice none 0 0), .i .u8 0, .x (.slice none 0 0), .x (.slice none 0 0)]) (.ag zl.c):=
 Cv.ag (zk (Cv.nil 1) (zk (Cv.nil 1) (zk (Cv.nil 1) (zk (cr) (zk (Cv.nil 1) (zk (Cv.nil 1) Cvs.nil))))))
abbrev rdO(c:RV)(e:Nat):Ow:= .box [.r c, .r (Er e)]
abbrev rdL(l:List UInt8):List (Nat×Ow):=[(0,rdO (bs l) 0)]
abbrev rdX(e:Nat):List (Nat×Ow):=[(0,rdO .any e)]
theorem zgj:Tryz.prog.underlying 363=some (.pointer 455):=by kernel_rfl
theorem zbe(c c':RV)(e e':Nat)(v:Value):zi2 [(0,rdO c e)] [(0,rdO c' e')] [(0,v)]:=⟨⟨_,_,rfl,rfl,zah,zah⟩,trivial⟩
theorem zpw:Cv (.x (.slice none 0 0)) (bs []):=Cv.nil 1
theorem zjv(v:Value)(l:List UInt8)(e:Nat):Acts aP 525 1 (rdL l) [.own 0, .r (Er e)] [(0,v)] 1 (rdX e) (.r (.tu [])):=by
 refine zag (T:=Tab) mixed Tab_ok Tryz.func525 rfl (by kernel_rfl) rfl (zbe _ _ _ _ _) ?_
 refine zt rfl (zp ?_)
 exact zal (.inr rfl) [(0,0)] [] [] rfl ⟨⟨rfl,rfl⟩,trivial⟩ ⟨⟨_,_,rfl,trivial,_,_,rfl,cr,rfl⟩,trivial⟩ ⟨⟨1000000,rfl⟩,trivial⟩ ⟨_,rfl,cr⟩
theorem zh2(v:Value)(l:List UInt8):Acts aP 406 1 (rdL l) [.own 0] [(0,v)] 1 (rdL l) (.r (Er 0)):=by
 refine zag (T:=Tab) mixed Tab_ok Tryz.func406 rfl (by kernel_rfl) rfl (zbe _ _ _ _ _) ?_
 refine⟨⟨_,zgj⟩,?_⟩
 refine zq ?_
 exact zal (.inl rfl) [(0,0)] [(2, .r (Er 0))] [] rfl ⟨cr,⟨rfl,rfl⟩,trivial⟩ ⟨(aB aZ),trivial⟩ ⟨⟨1000000,rfl⟩,trivial⟩ (cr)
theorem zf9(v:Value)(e:Nat):Acts aP 406 1 (rdX e) [.own 0] [(0,v)] 1 (rdX e) (.r (Er e)):=by
 refine zag (T:=Tab) mixed Tab_ok Tryz.func406 rfl (by kernel_rfl) rfl (zbe _ _ _ _ _) ?_
 refine⟨⟨_,zgj⟩,?_⟩
 refine zq ?_
 exact zal (.inl rfl) [(0,0)] [(2, .r (Er e))] [] rfl ⟨cr,⟨rfl,rfl⟩,trivial⟩ ⟨⟨_,_,rfl,trivial,_,_,rfl,cr,rfl⟩,trivial⟩ ⟨⟨1000000,rfl⟩,trivial⟩ (cr)
theorem zc8b(v:Value)(l:List UInt8):Acts aP 482 1 (rdL l) [.own 0] [(0,v)] 1 (rdL l) (.r (I l.length)):=by
 refine zag (T:=Tab) mixed Tab_ok Tryz.func482 rfl (by kernel_rfl) rfl (zbe _ _ _ _ _) ?_
 refine⟨⟨_,zgj⟩,?_⟩
 refine zq ?_
 exact zal (.inl rfl) [(0,0)] [(2, .r (I l.length))] [] rfl ⟨cr,⟨rfl,rfl⟩,trivial⟩ ⟨(aB aZ),trivial⟩ ⟨⟨1000000,rfl⟩,trivial⟩ (cr)
theorem zof(l:List UInt8):aG 300 [bs l] (.bx [bs l,Er 0]):=by
 refine aT Tryz.func300 rfl ?_
 rfl
theorem zlt(v:Value)(e:Nat)(he:e≠0)(n:Int):Acts aP 479 1 (rdX e) [.own 0, .r (I n)] [(0,v)] 1 (rdX e) (.r (.tu [bs [], .b false])):=by
 refine zag (T:=Tab) mixed Tab_ok Tryz.func479 rfl (by kernel_rfl) rfl (zbe _ _ _ _ _) ?_
 refine⟨⟨_,zgj⟩,?_⟩
 refine zt (by simp only[zb];omega) (zp ?_)
 exact zal (.inl rfl) [(0,0)] [(4, .r (bs [])),(5, .r (.b false))] [] rfl ⟨zpw,cr,⟨rfl,rfl⟩,trivial⟩ ⟨⟨_,_,rfl,trivial,_,_,rfl,cr,rfl⟩,trivial⟩ ⟨⟨1000000,rfl⟩,trivial⟩ ⟨_,rfl,cr⟩
theorem zez(v:Value)(l:List UInt8)(n:Nat)(hn:l.length<n):Acts aP 479 1 (rdL l) [.own 0, .r (I n)] [(0,v)] 1 (rdX 4) (.r (.tu [bs [], .b false])):=by
 refine zag (T:=Tab) mixed Tab_ok Tryz.func479 rfl (by kernel_rfl) rfl (zbe _ _ _ _ _) ?_
 refine⟨⟨_,zgj⟩,?_⟩
 refine zu rfl (zq ?_)
 refine zu (by simp only[zb];omega) (zq ?_)
 refine zt (by simp only[zb];omega) (zp ?_)
 refine zj [(0,0)] [0] (λvs _=>zjv (vs 0) l 4) (zi rfl ⟨_,_,rfl,rfl,_,_,rfl,cr,rfl⟩) rfl ⟨(aB aZ),trivial⟩ ⟨zac,trivial⟩ ?_
 exact zal (.inl rfl) [(0,0)] [(4, .r (bs [])),(5, .r (.b false))] [] rfl ⟨zpw,cr,⟨rfl,rfl⟩,trivial⟩ ⟨⟨_,_,rfl,trivial,_,_,rfl,cr,rfl⟩,trivial⟩ ⟨⟨1000000,rfl⟩,trivial⟩ ⟨_,rfl,cr⟩
theorem zga(v:Value)(l:List UInt8)(n:Nat)(hn:n<=l.length):Acts aP 479 1 (rdL l) [.own 0, .r (I n)] [(0,v)] 1 (rdL (l.drop n)) (.r (.tu [bs (l.take n), .b true])):=by
 refine zag (T:=Tab) mixed Tab_ok Tryz.func479 rfl (by kernel_rfl) rfl (zbe _ _ _ _ _) ?_
 refine⟨⟨_,zgj⟩,?_⟩
 refine zu rfl (zq ?_)
 refine zu (by simp only[zb];omega) (zq ?_)
 refine zu (by simp only[zb];omega) (zq ?_)
 have e1:(l.take n).length=n:=by rw[List.length_take];omega
 have e2:(l.drop n).length=l.length-n:=List.length_drop
 refine⟨by omega,by omega,by omega,n,(l.take n).map U8,by omega,by simp[List.map_take],?_⟩
 refine⟨by omega,by omega,by omega,l.length-n,(l.drop n).map U8,by omega,by rw[Nat.mul_one,Int.toNat_natCast,Nat.mul_one,<-List.map_drop,List.take_of_length_le (by rw[List.length_map];omega)],?_⟩
 have c1:RV.sl 1 n ((l.take n).map U8)=bs (l.take n):=by unfold bs;rw[e1]
 have c2:RV.sl 1 (l.length-n) ((l.drop n).map U8)=bs (l.drop n):=by unfold bs;rw[e2]
 exact zal (.inl rfl) [(0,0)] [(4, .r (bs (l.take n))),(5, .r (.b true))] [] rfl ⟨zf c1,cr,⟨rfl,rfl⟩,trivial⟩ ⟨⟨_,_,rfl,zf c2,_,_,rfl,cr,rfl⟩,trivial⟩ ⟨⟨1000000,rfl⟩,trivial⟩ ⟨_,rfl,cr⟩
theorem Vshl.byte{a:Int}{K:Int->Prop}(n:Nat)(ha:a=(n:Int))(hn:n<72057594037927936)(hK:K ((256*n:Nat):Int)):Vshl .u64 a 8 K:=by
 subst ha
 refine⟨by omega,_,?_,hK⟩
 have e:((n:Int)*2^(min (8:Int).toNat IntKind.u64.bits))=((256*n:Nat):Int):=by
  show((n:Int)*2^8)=_
  omega
 rw[e,zls (by omega)]
theorem Vbits.orByte{a b:Int}{K:Int->Prop}(n:Nat)(c:UInt8)(ha:a=((256*n:Nat):Int))(hb:b=(c.toNat:Int))(hn:n<72057594037927936)(hK:K ((256*n+c.toNat:Nat):Int)):Vbits .u64 .or a b K:=by
 subst ha;subst hb
 refine⟨_,?_,hK⟩
 have hc:=c.toNat_lt
 have e: ∀z:Nat,z<18446744073709551616->(BitVec.ofInt 64 (z:Int)).toNat=z:=λz hz=>by
  rw[BitVec.toNat_ofInt];omega
 show((256*n+c.toNat:Nat):Int)=IntKind.u64.wrap (((BitVec.ofInt 64 ((256*n:Nat):Int)|||BitVec.ofInt 64 (c.toNat:Int)).toNat:Nat):Int)
 rw[BitVec.toNat_or,e _ (by omega),e _ (by omega)]
 have h:(256*n|||c.toNat)=256*n+c.toNat:=by
  have:=Nat.two_pow_add_eq_or_of_lt (i:=8) (b:=c.toNat) (by omega) n
  rw[show(2:Nat)^8=256 from rfl]at this
  exact this.symm
 rw[h,zls (by omega)]
theorem zg4(l:List UInt8)(hl:l.length<=8):aG 480 [bs l] (.r (U64 (numA 0 l))):=by
 refine aT Tryz.func480 rfl ?_
 refine zy (λi:Nat=>⟨[(3, .r (U64 (numA 0 (l.take i)))),(6, .r (bs l)),(7, .r (I l.length)),(8, .r (I i))],[],0⟩) (λi=>i<=l.length) (λi=>l.length-i) 0 (Nat.zero_le _) (zad [] rfl ⟨cr,cr,cr,cr,trivial⟩ trivial) ?_
 intro i hi
 refine zh (λh=>?_) (λh=>?_)
 ·simp only[zb]at h
  have hlt:i<l.length:=by omega
  have hb:numA 0 (l.take i)<72057594037927936:=by
   have:=zj8 (l.take i) 0 1 (by omega)
   have h2:(256:Nat)^(l.take i).length<=256^7:=Nat.pow_le_pow_right (by omega) (by rw[List.length_take];omega)
   have:(256:Nat)^7=72057594037927936:=by decide
   omega
  refine zp ?_
  refine zm (by omega) (by omega) (zbh rfl hlt) (zg rfl ?_)
  refine Vshl.byte _ rfl hb ?_
  refine Vint.u64 l[i].toNat rfl (by have:=l[i].toNat_lt;omega) ?_
  refine Vbits.orByte _ l[i] rfl rfl hb ?_
  rw[<-z7c 0 hlt]
  refine zd (m:=((i+1:Nat):Int)) (by omega) (by omega) ?_
  exact⟨i+1,hlt,by omega,zad [] rfl ⟨cr,cr,cr,cr,trivial⟩ trivial⟩
 ·simp only[zb]at h
  refine zq ?_
  have e:l.take i=l:=List.take_of_length_le (by omega)
  exact zf (by rw[e])
theorem z5h(v:Value)(l:List UInt8)(n:Nat)(h1:n=1\/n=2\/n=4\/n=8)(hn:n<=l.length):Acts aP 408 1 (rdL l) [.own 0, .r (I n)] [(0,v)] 1 (rdL (l.drop n)) (.r (U64 (numA 0 (l.take n)))):=by
 refine zag (T:=Tab) mixed Tab_ok Tryz.func408 rfl (by kernel_rfl) rfl (zbe _ _ _ _ _) ?_
 refine ze (zun n (by omega)) ?_
 refine zu rfl (zq ?_)
 refine zj [(0,0)] [0] (λvs _=>zga (vs 0) l n hn) (zi rfl ⟨_,_,rfl,rfl,_,_,rfl,cr,rfl⟩) rfl ⟨(aB aZ),trivial⟩ ⟨zac,trivial⟩ ?_
 refine ze (zg4 (l.take n) (by rw[List.length_take];omega)) ?_
 exact zal (.inl rfl) [(0,0)] [(4, .r (U64 (numA 0 (l.take n))))] [] rfl ⟨cr,⟨rfl,rfl⟩,trivial⟩ ⟨(aB aZ),trivial⟩ ⟨⟨1000000,rfl⟩,trivial⟩ (cr)
theorem z2c(v:Value)(l:List UInt8)(n:Nat)(h1:n=1\/n=2\/n=4\/n=8)(hn:l.length<n):Acts aP 408 1 (rdL l) [.own 0, .r (I n)] [(0,v)] 1 (rdX 4) (.r (U64 0)):=by
 refine zag (T:=Tab) mixed Tab_ok Tryz.func408 rfl (by kernel_rfl) rfl (zbe _ _ _ _ _) ?_
 refine ze (zun n (by omega)) ?_
 refine zu rfl (zq ?_)
 refine zj [(0,0)] [0] (λvs _=>zez (vs 0) l n hn) (zi rfl ⟨_,_,rfl,rfl,_,_,rfl,cr,rfl⟩) rfl ⟨(aB aZ),trivial⟩ ⟨zac,trivial⟩ ?_
 refine ze (zg4 [] (by simp)) ?_
 exact zal (.inl rfl) [(0,0)] [(4, .r (U64 0))] [] rfl ⟨cr,⟨rfl,rfl⟩,trivial⟩ ⟨⟨_,_,rfl,trivial,_,_,rfl,cr,rfl⟩,trivial⟩ ⟨⟨1000000,rfl⟩,trivial⟩ (cr)
theorem zh3(v:Value)(e:Nat)(he:e≠0)(n:Nat)(h1:n=1\/n=2\/n=4\/n=8):Acts aP 408 1 (rdX e) [.own 0, .r (I n)] [(0,v)] 1 (rdX e) (.r (U64 0)):=by
 refine zag (T:=Tab) mixed Tab_ok Tryz.func408 rfl (by kernel_rfl) rfl (zbe _ _ _ _ _) ?_
 refine ze (zun n (by omega)) ?_
 refine zu rfl (zq ?_)
 refine zj [(0,0)] [0] (λvs _=>zlt (vs 0) e he n) (zi rfl ⟨_,_,rfl,rfl,_,_,rfl,cr,rfl⟩) rfl ⟨⟨_,_,rfl,trivial,_,_,rfl,cr,rfl⟩,trivial⟩ ⟨zac,trivial⟩ ?_
 refine ze (zg4 [] (by simp)) ?_
 exact zal (.inl rfl) [(0,0)] [(4, .r (U64 0))] [] rfl ⟨cr,⟨rfl,rfl⟩,trivial⟩ ⟨⟨_,_,rfl,trivial,_,_,rfl,cr,rfl⟩,trivial⟩ ⟨⟨1000000,rfl⟩,trivial⟩ (cr)
theorem z9c(v:Value)(l:List UInt8)(n:Nat)(hl:l.length<=8000000000000)(hn:n<=l.length):Acts aP 478 1 (rdL l) [.own 0, .r (I n)] [(0,v)] 1 (rdL (l.drop n)) (.r (bs (l.take n))):=by
 refine zag (T:=Tab) mixed Tab_ok Tryz.func478 rfl (by kernel_rfl) rfl (zbe _ _ _ _ _) ?_
 refine zj [(0,0)] [0] (λvs _=>zga (vs 0) l n hn) (zi rfl ⟨_,_,rfl,rfl,_,_,rfl,cr,rfl⟩) rfl ⟨(aB aZ),trivial⟩ ⟨zac,trivial⟩ ?_
 refine ze (zbu (l.take n) (by rw[List.length_take];omega)) ?_
 exact zal (.inl rfl) [(0,0)] [(4, .r (bs (l.take n)))] [] rfl ⟨cr,⟨rfl,rfl⟩,trivial⟩ ⟨(aB aZ),trivial⟩ ⟨⟨1000000,rfl⟩,trivial⟩ (cr)
theorem zvm(v:Value)(l:List UInt8)(n:Nat)(hn:l.length<n):Acts aP 478 1 (rdL l) [.own 0, .r (I n)] [(0,v)] 1 (rdX 4) (.r (bs [])):=by
 refine zag (T:=Tab) mixed Tab_ok Tryz.func478 rfl (by kernel_rfl) rfl (zbe _ _ _ _ _) ?_
 refine zj [(0,0)] [0] (λvs _=>zez (vs 0) l n hn) (zi rfl ⟨_,_,rfl,rfl,_,_,rfl,cr,rfl⟩) rfl ⟨(aB aZ),trivial⟩ ⟨zac,trivial⟩ ?_
 refine ze (zbu [] (by simp)) ?_
 exact zal (.inl rfl) [(0,0)] [(4, .r (bs []))] [] rfl ⟨cr,⟨rfl,rfl⟩,trivial⟩ ⟨⟨_,_,rfl,trivial,_,_,rfl,cr,rfl⟩,trivial⟩ ⟨⟨1000000,rfl⟩,trivial⟩ (cr)
theorem zc6b(v:Value)(c:UInt8)(l:List UInt8)(hc:c.toNat<=1):Acts aP 483 1 (rdL (c::l)) [.own 0] [(0,v)] 1 (rdL l) (.r (.b (decide (c.toNat=1)))):=by
 refine zag (T:=Tab) mixed Tab_ok Tryz.func483 rfl (by kernel_rfl) rfl (zbe _ _ _ _ _) ?_
 refine zj [(0,0)] [0] (λvs _=>zga (vs 0) (c::l) 1 (by simp)) (zi rfl ⟨_,_,rfl,rfl,_,_,rfl,cr,rfl⟩) rfl ⟨(aB aZ),trivial⟩ ⟨zac,trivial⟩ ?_
 refine zu rfl (zq ?_)
 refine zm (by omega) (by simp) rfl (zg rfl ?_)
 refine zu (by simp only[zb];omega) (zq ?_)
 refine zm (by omega) (by simp) rfl (zg rfl ?_)
 refine Vcmp.mk' (m:=decide (c.toNat=1)) (by rw[Bool.eq_iff_iff];simp only[zb];omega) ?_
 exact zal (.inl rfl) [(0,0)] [(2, .r (.b (decide (c.toNat=1))))] [] rfl ⟨cr,⟨rfl,rfl⟩,trivial⟩ ⟨(aB aZ),trivial⟩ ⟨⟨1000000,rfl⟩,trivial⟩ (cr)
theorem zj7b(v:Value)(c:UInt8)(l:List UInt8)(hc:1<c.toNat):Acts aP 483 1 (rdL (c::l)) [.own 0] [(0,v)] 1 (rdX 3) (.r (.b false)):=by
 refine zag (T:=Tab) mixed Tab_ok Tryz.func483 rfl (by kernel_rfl) rfl (zbe _ _ _ _ _) ?_
 refine zj [(0,0)] [0] (λvs _=>zga (vs 0) (c::l) 1 (by simp)) (zi rfl ⟨_,_,rfl,rfl,_,_,rfl,cr,rfl⟩) rfl ⟨(aB aZ),trivial⟩ ⟨zac,trivial⟩ ?_
 refine zu rfl (zq ?_)
 refine zm (by omega) (by simp) rfl (zg rfl ?_)
 refine zt (by simp only[zb];omega) (zp ?_)
 refine zj [(0,0)] [0] (λvs _=>zjv (vs 0) l 3) (zi rfl ⟨_,_,rfl,rfl,_,_,rfl,cr,rfl⟩) rfl ⟨(aB aZ),trivial⟩ ⟨zac,trivial⟩ ?_
 exact zal (.inl rfl) [(0,0)] [(2, .r (.b false))] [] rfl ⟨cr,⟨rfl,rfl⟩,trivial⟩ ⟨⟨_,_,rfl,trivial,_,_,rfl,cr,rfl⟩,trivial⟩ ⟨⟨1000000,rfl⟩,trivial⟩ (cr)
theorem zgob(v:Value)(l:List UInt8):Acts aP 302 1 (rdL l) [.own 0] [(0,v)] 1 (rdL l) (.r (Er (if l.length=0 then 0 else 5))):=by
 refine zag (T:=Tab) mixed Tab_ok Tryz.func302 rfl (by kernel_rfl) rfl (zbe _ _ _ _ _) ?_
 refine zj [(0,0)] [0] (λvs _=>zh2 (vs 0) l) (zi rfl ⟨_,_,rfl,rfl,rfl⟩) rfl ⟨(aB aZ),trivial⟩ ⟨zac,trivial⟩ ?_
 refine zu rfl (zq ?_)
 by_cases h:l.length=0
 ·rw[if_pos h]
  refine zu (by simp only[zb];omega) (zq ?_)
  exact zal (.inl rfl) [(0,0)] [(2, .r (Er 0))] [] rfl ⟨cr,⟨rfl,rfl⟩,trivial⟩ ⟨(aB aZ),trivial⟩ ⟨⟨1000000,rfl⟩,trivial⟩ (cr)
 ·rw[if_neg h]
  refine zt (by simp only[zb];omega) (zp ?_)
  exact zal (.inl rfl) [(0,0)] [(2, .r (Er 5))] [] rfl ⟨cr,⟨rfl,rfl⟩,trivial⟩ ⟨(aB aZ),trivial⟩ ⟨⟨1000000,rfl⟩,trivial⟩ (cr)
theorem shr6(c:UInt8){K:Int->Prop}(hK:K ((c.toNat/64:Nat):Int)):Vshr .u8 (c.toNat:Int) 6 K:=by
 refine⟨by omega,_,?_,hK⟩
 show((c.toNat/64:Nat):Int)=(c.toNat:Int).fdiv (2^6)
 rw[Int.fdiv_eq_ediv_of_nonneg _ (by decide)]
 omega
theorem zbmb(c:UInt8){K:Int->Prop}(hK:K ((c.toNat%64:Nat):Int)):Vbits .u8 .and (c.toNat:Int) 63 K:=by
 refine⟨_,?_,hK⟩
 have hc:=c.toNat_lt
 show((c.toNat%64:Nat):Int)=IntKind.u8.wrap (((BitVec.ofInt 8 (c.toNat:Int)&&&BitVec.ofInt 8 63).toNat:Nat):Int)
 have e:(BitVec.ofInt 8 (c.toNat:Int)).toNat=c.toNat:=by rw[BitVec.toNat_ofInt];omega
 have e2:(BitVec.ofInt 8 63).toNat=63:=by decide
 rw[BitVec.toNat_and,e,e2,show(63:Nat)=2^6-1 from rfl,Nat.and_two_pow_sub_one_eq_mod]
 have:c.toNat%2^6<64:=Nat.mod_lt _ (by decide)
 simp only[IntKind.wrap]
 simp[IntKind.bits,IntKind.signed]
 omega
theorem z1a(c:UInt8)(s:Nat)(h:s=2^(c.toNat/64)):(192<=c.toNat->4<s)/\(c.toNat<192->s=zaw c+1):=by
 have hc:=c.toNat_lt
 have:c.toNat/64=0\/c.toNat/64=1\/c.toNat/64=2\/c.toNat/64=3:=by omega
 unfold zaw
 refine⟨λh1=>?_,λh1=>?_⟩
 ·rcases this with h2 |h2 |h2 |h2<;>rw[h2]at h<;>simp at h<;>omega
 ·rcases this with h2 |h2 |h2 |h2<;>rw[h2]at h<;>simp at h<;>(split<;>(try split))<;>omega
theorem zw5(c:UInt8):zaw c<=3:=by unfold zaw;split<;>(try split)<;>omega
theorem z1f{n:Nat}(h:0<n)(h2:n<256):IntKind.u8.wrap ((n:Int)-1)=((n-1:Nat):Int):=by
 simp only[IntKind.wrap]
 simp[IntKind.bits,IntKind.signed]
 omega
def zwu(v:Value)(c:UInt8)(l:List UInt8)(i:Nat×Nat):St:=
 ⟨[(0, .own 0),(4, .r (bs [c])),(6, .r (I i.2)),(7, .r (.i .u8 i.1)),(1000000, .nm 0 v)],[(0,some (rdO (bs l) 0))],1⟩
set_option maxHeartbeats 1000000 in
theorem zme(v:Value)(c:UInt8)(l:List UInt8)(hl:l.length<=8000000000000)(O1:List (Nat×Ow))(n:Nat)(ok:Bool)
  (h:match lenP (c::l)with
   | .err e=>O1=rdX e/\n=0/\ok=false
   | .ok m r=>O1=rdL r/\n=m/\ok=true):Acts aP 477 1 (rdL (c::l)) [.own 0] [(0,v)] 1 O1 (.r (.tu [I n, .b ok])):=by
 refine zag (T:=Tab) mixed Tab_ok Tryz.func477 rfl (by kernel_rfl) rfl ?_ ?_
 ·cases hP:lenP (c::l)with
  |err e=>rw[hP]at h;obtain⟨rfl,_,_⟩:=h;exact zbe _ _ _ _ _
  |ok m r=>rw[hP]at h;obtain⟨rfl,_,_⟩:=h;exact zbe _ _ _ _ _
 refine Vcode.scope mixed Tab_ok 0 (zwu v c l) (λi=>i.2*2^i.1=2^(c.toNat/64)/\i.1<=3/\i.2<=8) (λi=>i.1) rfl ?_ ?_
 ·refine zj [(0,0)] [0] (λvs _=>zga (vs 0) (c::l) 1 (by simp)) (zi rfl ⟨_,_,rfl,rfl,_,_,rfl,cr,rfl⟩) rfl ⟨(aB aZ),trivial⟩ ⟨zac,trivial⟩ ?_
  refine zu rfl (zq ?_)
  refine zm (by omega) (by simp) rfl (zg rfl ?_)
  refine shr6 c ?_
  have hc:=c.toNat_lt
  by_cases hk:0<c.toNat/64
  ·refine zt (by simp only[zb];omega) (zp ?_)
   refine zd (m:=2) (by omega) (by omega) ?_
   refine⟨((c.toNat/64-1:Nat):Int),by rw[z1f hk (by omega)],?_⟩
   refine⟨(c.toNat/64-1,2),⟨?_,by simp only;omega,by simp⟩,zad [(0,0)] rfl ⟨rfl,cr,cr,cr,⟨rfl,rfl⟩,trivial⟩ ⟨(aB aZ),trivial⟩⟩
   simp only
   rw[<-Nat.pow_succ',show(c.toNat/64-1).succ=c.toNat/64 by omega]
  refine zu (by simp only[zb];omega) (zq ?_)
  obtain⟨s,hs'⟩: ∃s:Nat,s=1:=⟨1,rfl⟩
  have hs:s=2^(c.toNat/64):=by rw[hs',show c.toNat/64=0 by omega]
  have hsz:=z1a c s hs
  by_cases h192:192<=c.toNat
  ·have h4:=hsz.1 h192
   refine zt (by simp only[zb];omega) (zp ?_)
   refine zj [(0,0)] [0] (λvs _=>zjv (vs 0) l 3) (zi rfl ⟨_,_,rfl,rfl,_,_,rfl,cr,rfl⟩) rfl ⟨(aB aZ),trivial⟩ ⟨zac,trivial⟩ ?_
   simp only[lenP,if_pos h192]at h
   obtain⟨rfl,rfl,rfl⟩:=h
   exact zal (.inl rfl) [(0,0)] [(2, .r (I 0)),(3, .r (.b false))] [] rfl ⟨cr,cr,⟨rfl,rfl⟩,trivial⟩ ⟨⟨_,_,rfl,trivial,_,_,rfl,cr,rfl⟩,trivial⟩ ⟨⟨1000000,rfl⟩,trivial⟩ ⟨_,rfl,cr⟩
  have hs1:=hsz.2 (by omega)
  have hm:=zw5 c
  refine zu (by simp only[zb];omega) (zq ?_)
  refine zd (m:=((zaw c:Nat):Int)) (by omega) (by omega) ?_
  by_cases hr:l.length<zaw c
  ·refine zj [(0,0)] [0] (λvs _=>zez (vs 0) l (zaw c) hr) (zi rfl ⟨_,_,rfl,rfl,_,_,rfl,cr,rfl⟩) rfl ⟨(aB aZ),trivial⟩ ⟨zac,trivial⟩ ?_
   refine zt rfl (zp ?_)
   simp only[lenP,if_neg h192,if_pos hr]at h
   obtain⟨rfl,rfl,rfl⟩:=h
   exact zal (.inl rfl) [(0,0)] [(2, .r (I 0)),(3, .r (.b false))] [] rfl ⟨cr,cr,⟨rfl,rfl⟩,trivial⟩ ⟨⟨_,_,rfl,trivial,_,_,rfl,cr,rfl⟩,trivial⟩ ⟨⟨1000000,rfl⟩,trivial⟩ ⟨_,rfl,cr⟩
  refine zj [(0,0)] [0] (λvs _=>zga (vs 0) l (zaw c) (by omega)) (zi rfl ⟨_,_,rfl,rfl,_,_,rfl,cr,rfl⟩) rfl ⟨(aB aZ),trivial⟩ ⟨zac,trivial⟩ ?_
  refine zu rfl (zq ?_)
  refine zm (by omega) (by simp) rfl (zg rfl ?_)
  refine zbmb c ?_
  refine zw ?_
  have hd:(UInt8.ofNat (c.toNat%64)).toNat=c.toNat%64:=by rw[UInt8.toNat_ofNat'];have:=c.toNat_lt;omega
  refine Vapp.mk' (j:=(UInt8.ofNat (c.toNat%64)::l.take (zaw c)).length) (zs:=(UInt8.ofNat (c.toNat%64)::l.take (zaw c)).map U8) (by rw[List.length_take];simp only[maxLen];omega) (by simp;omega) (by rw[List.length_cons];omega) (by rw[List.map_cons];show _=RV.i .u8 ((UInt8.ofNat (c.toNat%64)).toNat:Int)::_;rw[hd];rfl) ?_
  refine ze (zg4 (UInt8.ofNat (c.toNat%64)::l.take (zaw c)) (by rw[List.length_cons,List.length_take];omega)) ?_
  have hn:numA 0 (UInt8.ofNat (c.toNat%64)::l.take (zaw c))=numA (c.toNat%64) (l.take (zaw c)):=by simp only[numA,List.foldl_cons,hd,Nat.mul_zero,Nat.zero_add]
  have hb:numA (c.toNat%64) (l.take (zaw c))<1073741824:=by
   have h4:=zj8 (l.take (zaw c)) (c.toNat%64) 64 (by omega)
   have h6:(256:Nat)^(l.take (zaw c)).length<=256^3:=Nat.pow_le_pow_right (by omega) (by rw[List.length_take];omega)
   have:(256:Nat)^3=16777216:=by decide
   omega
  rw[hn]
  refine zd (m:=((numA (c.toNat%64) (l.take (zaw c)):Nat):Int)) rfl (by omega) ?_
  refine ze (zmd _ (by omega)) ?_
  by_cases he:zct (numA (c.toNat%64) (l.take (zaw c)))≠zaw c+1
  ·refine zt (by simp only[zb];omega) (zp ?_)
   refine zj [(0,0)] [0] (λvs _=>zjv (vs 0) (l.drop (zaw c)) 3) (zi rfl ⟨_,_,rfl,rfl,_,_,rfl,cr,rfl⟩) rfl ⟨(aB aZ),trivial⟩ ⟨zac,trivial⟩ ?_
   simp only[lenP,if_neg h192,if_neg hr]at h
   rw[if_pos he]at h
   obtain⟨rfl,rfl,rfl⟩:=h
   exact zal (.inl rfl) [(0,0)] [(2, .r (I 0)),(3, .r (.b false))] [] rfl ⟨cr,cr,⟨rfl,rfl⟩,trivial⟩ ⟨⟨_,_,rfl,trivial,_,_,rfl,cr,rfl⟩,trivial⟩ ⟨⟨1000000,rfl⟩,trivial⟩ ⟨_,rfl,cr⟩
  refine zu (by simp only[zb];omega) (zq ?_)
  simp only[lenP,if_neg h192,if_neg hr]at h
  rw[if_neg he]at h
  obtain⟨rfl,rfl,rfl⟩:=h
  exact zal (.inl rfl) [(0,0)] [(2, .r (I _)),(3, .r (.b true))] [] rfl ⟨cr,cr,⟨rfl,rfl⟩,trivial⟩ ⟨(aB aZ),trivial⟩ ⟨⟨1000000,rfl⟩,trivial⟩ ⟨_,rfl,cr⟩
 ·rintro⟨i,s⟩ ⟨h1,h2,h3⟩
  simp only at h1 h2 h3
  by_cases hk:0<i
  ·refine zt (by simp only[zb];omega) (zp ?_)
   refine zd (m:=((2*s:Nat):Int)) (by omega) (by omega) ?_
   refine⟨((i-1:Nat):Int),by rw[z1f hk (by omega)],?_⟩
   have hp:2*2^(i-1)=2^i:=by rw[<-Nat.pow_succ',show(i-1).succ=i by omega]
   have hs2:2*s*2^(i-1)=2^(c.toNat/64):=by rw[<-h1,<-hp,Nat.mul_comm 2 s,Nat.mul_assoc]
   refine⟨(i-1,2*s),⟨hs2,by simp only;omega,?_⟩,by simp only;omega,zad [(0,0)] rfl ⟨rfl,cr,cr,cr,⟨rfl,rfl⟩,trivial⟩ ⟨(aB aZ),trivial⟩⟩
   simp only
   have h8:2^(c.toNat/64)<=2^3:=Nat.pow_le_pow_right (by omega) (by have:=c.toNat_lt;omega)
   have h9:0<2^(i-1):=Nat.pow_pos (by omega)
   have:2*s*1<=2*s*2^(i-1):=Nat.mul_le_mul_left _ h9
   omega
  have hi0:i=0:=by omega
  subst hi0
  refine zu (by simp only[zb];omega) (zq ?_)
  have hs:s=2^(c.toNat/64):=by rw[<-h1];simp
  have hsz:=z1a c s hs
  by_cases h192:192<=c.toNat
  ·have h4:=hsz.1 h192
   refine zt (by simp only[zb];omega) (zp ?_)
   refine zj [(0,0)] [0] (λvs _=>zjv (vs 0) l 3) (zi rfl ⟨_,_,rfl,rfl,_,_,rfl,cr,rfl⟩) rfl ⟨(aB aZ),trivial⟩ ⟨zac,trivial⟩ ?_
   simp only[lenP,if_pos h192]at h
   obtain⟨rfl,rfl,rfl⟩:=h
   exact zal (.inl rfl) [(0,0)] [(2, .r (I 0)),(3, .r (.b false))] [] rfl ⟨cr,cr,⟨rfl,rfl⟩,trivial⟩ ⟨⟨_,_,rfl,trivial,_,_,rfl,cr,rfl⟩,trivial⟩ ⟨⟨1000000,rfl⟩,trivial⟩ ⟨_,rfl,cr⟩
  have hs1:=hsz.2 (by omega)
  have hm:=zw5 c
  refine zu (by simp only[zb];omega) (zq ?_)
  refine zd (m:=((zaw c:Nat):Int)) (by omega) (by omega) ?_
  by_cases hr:l.length<zaw c
  ·refine zj [(0,0)] [0] (λvs _=>zez (vs 0) l (zaw c) hr) (zi rfl ⟨_,_,rfl,rfl,_,_,rfl,cr,rfl⟩) rfl ⟨(aB aZ),trivial⟩ ⟨zac,trivial⟩ ?_
   refine zt rfl (zp ?_)
   simp only[lenP,if_neg h192,if_pos hr]at h
   obtain⟨rfl,rfl,rfl⟩:=h
   exact zal (.inl rfl) [(0,0)] [(2, .r (I 0)),(3, .r (.b false))] [] rfl ⟨cr,cr,⟨rfl,rfl⟩,trivial⟩ ⟨⟨_,_,rfl,trivial,_,_,rfl,cr,rfl⟩,trivial⟩ ⟨⟨1000000,rfl⟩,trivial⟩ ⟨_,rfl,cr⟩
  refine zj [(0,0)] [0] (λvs _=>zga (vs 0) l (zaw c) (by omega)) (zi rfl ⟨_,_,rfl,rfl,_,_,rfl,cr,rfl⟩) rfl ⟨(aB aZ),trivial⟩ ⟨zac,trivial⟩ ?_
  refine zu rfl (zq ?_)
  refine zm (by omega) (by simp) rfl (zg rfl ?_)
  refine zbmb c ?_
  refine zw ?_
  have hd:(UInt8.ofNat (c.toNat%64)).toNat=c.toNat%64:=by rw[UInt8.toNat_ofNat'];have:=c.toNat_lt;omega
  refine Vapp.mk' (j:=(UInt8.ofNat (c.toNat%64)::l.take (zaw c)).length) (zs:=(UInt8.ofNat (c.toNat%64)::l.take (zaw c)).map U8) (by rw[List.length_take];simp only[maxLen];omega) (by simp;omega) (by rw[List.length_cons];omega) (by rw[List.map_cons];show _=RV.i .u8 ((UInt8.ofNat (c.toNat%64)).toNat:Int)::_;rw[hd];rfl) ?_
  refine ze (zg4 (UInt8.ofNat (c.toNat%64)::l.take (zaw c)) (by rw[List.length_cons,List.length_take];omega)) ?_
  have hn:numA 0 (UInt8.ofNat (c.toNat%64)::l.take (zaw c))=numA (c.toNat%64) (l.take (zaw c)):=by simp only[numA,List.foldl_cons,hd,Nat.mul_zero,Nat.zero_add]
  have hb:numA (c.toNat%64) (l.take (zaw c))<1073741824:=by
   have h4:=zj8 (l.take (zaw c)) (c.toNat%64) 64 (by omega)
   have h6:(256:Nat)^(l.take (zaw c)).length<=256^3:=Nat.pow_le_pow_right (by omega) (by rw[List.length_take];omega)
   have:(256:Nat)^3=16777216:=by decide
   omega
  rw[hn]
  refine zd (m:=((numA (c.toNat%64) (l.take (zaw c)):Nat):Int)) rfl (by omega) ?_
  refine ze (zmd _ (by omega)) ?_
  by_cases he:zct (numA (c.toNat%64) (l.take (zaw c)))≠zaw c+1
  ·refine zt (by simp only[zb];omega) (zp ?_)
   refine zj [(0,0)] [0] (λvs _=>zjv (vs 0) (l.drop (zaw c)) 3) (zi rfl ⟨_,_,rfl,rfl,_,_,rfl,cr,rfl⟩) rfl ⟨(aB aZ),trivial⟩ ⟨zac,trivial⟩ ?_
   simp only[lenP,if_neg h192,if_neg hr]at h
   rw[if_pos he]at h
   obtain⟨rfl,rfl,rfl⟩:=h
   exact zal (.inl rfl) [(0,0)] [(2, .r (I 0)),(3, .r (.b false))] [] rfl ⟨cr,cr,⟨rfl,rfl⟩,trivial⟩ ⟨⟨_,_,rfl,trivial,_,_,rfl,cr,rfl⟩,trivial⟩ ⟨⟨1000000,rfl⟩,trivial⟩ ⟨_,rfl,cr⟩
  refine zu (by simp only[zb];omega) (zq ?_)
  simp only[lenP,if_neg h192,if_neg hr]at h
  rw[if_neg he]at h
  obtain⟨rfl,rfl,rfl⟩:=h
  exact zal (.inl rfl) [(0,0)] [(2, .r (I _)),(3, .r (.b true))] [] rfl ⟨cr,cr,⟨rfl,rfl⟩,trivial⟩ ⟨(aB aZ),trivial⟩ ⟨⟨1000000,rfl⟩,trivial⟩ ⟨_,rfl,cr⟩
theorem zt9(v:Value):Acts aP 477 1 (rdL []) [.own 0] [(0,v)] 1 (rdX 4) (.r (.tu [I 0, .b false])):=by
 refine zag (T:=Tab) mixed Tab_ok Tryz.func477 rfl (by kernel_rfl) rfl (zbe _ _ _ _ _) ?_
 refine Vcode.scope mixed Tab_ok 0 (zwu v 0 []) (λ_=>False) (λi=>i.1) rfl ?_ λ_ h=>h.elim
 refine zj [(0,0)] [0] (λvs _=>zez (vs 0) [] 1 (by simp)) (zi rfl ⟨_,_,rfl,rfl,_,_,rfl,cr,rfl⟩) rfl ⟨(aB aZ),trivial⟩ ⟨zac,trivial⟩ ?_
 refine zt rfl (zp ?_)
 exact zal (.inl rfl) [(0,0)] [(2, .r (I 0)),(3, .r (.b false))] [] rfl ⟨cr,cr,⟨rfl,rfl⟩,trivial⟩ ⟨⟨_,_,rfl,trivial,_,_,rfl,cr,rfl⟩,trivial⟩ ⟨⟨1000000,rfl⟩,trivial⟩ ⟨_,rfl,cr⟩
theorem zqc(v:Value)(e:Nat)(he:e≠0):Acts aP 477 1 (rdX e) [.own 0] [(0,v)] 1 (rdX e) (.r (.tu [I 0, .b false])):=by
 refine zag (T:=Tab) mixed Tab_ok Tryz.func477 rfl (by kernel_rfl) rfl (zbe _ _ _ _ _) ?_
 refine Vcode.scope mixed Tab_ok 0 (zwu v 0 []) (λ_=>False) (λi=>i.1) rfl ?_ λ_ h=>h.elim
 refine zj [(0,0)] [0] (λvs _=>zlt (vs 0) e he 1) (zi rfl ⟨_,_,rfl,rfl,_,_,rfl,cr,rfl⟩) rfl ⟨⟨_,_,rfl,trivial,_,_,rfl,cr,rfl⟩,trivial⟩ ⟨zac,trivial⟩ ?_
 refine zt rfl (zp ?_)
 exact zal (.inl rfl) [(0,0)] [(2, .r (I 0)),(3, .r (.b false))] [] rfl ⟨cr,cr,⟨rfl,rfl⟩,trivial⟩ ⟨⟨_,_,rfl,trivial,_,_,rfl,cr,rfl⟩,trivial⟩ ⟨⟨1000000,rfl⟩,trivial⟩ ⟨_,rfl,cr⟩
theorem zss(v:Value)(l r:List UInt8)(n:Nat)(hl:l.length<=8000000000000)(h:lenP l= .ok n r):Acts aP 477 1 (rdL l) [.own 0] [(0,v)] 1 (rdL r) (.r (.tu [I n, .b true])):=by
 cases l with
 |nil=>cases h
 |cons c l=>exact zme v c l (by simp at hl;omega) _ _ _ (by rw[h];exact⟨rfl,rfl,rfl⟩)
theorem zt8(v:Value)(l:List UInt8)(e:Nat)(hl:l.length<=8000000000000)(h:lenP l= .err e):Acts aP 477 1 (rdL l) [.own 0] [(0,v)] 1 (rdX e) (.r (.tu [I 0, .b false])):=by
 cases l with
 |nil=>injection h with h;subst h;exact zt9 v
 |cons c l=>exact zme v c l (by simp at hl;omega) _ 0 _ (by rw[h];exact⟨rfl,rfl,rfl⟩)
theorem ze0(v:Value)(l r x:List UInt8)(hl:l.length<=8000000000000)(h:vecP l= .ok x r):Acts aP 407 1 (rdL l) [.own 0] [(0,v)] 1 (rdL r) (.r (bs x)):=by
 refine zag (T:=Tab) mixed Tab_ok Tryz.func407 rfl (by kernel_rfl) rfl (zbe _ _ _ _ _) ?_
 unfold vecP at h
 cases hn:lenP l with
 |err e=>rw[hn]at h;cases h
 |ok n s=>
  rw[hn]at h
  simp only at h
  split at h
  ·cases h
  ·rename_i hns
   injection h with h1 h2
   subst h1;subst h2
   obtain⟨j,rfl,_,hj,_⟩:=zwv hn
   refine zj [(0,0)] [0] (λvs _=>zss (vs 0) l _ n hl hn) (zi rfl ⟨_,_,rfl,rfl,rfl⟩) rfl ⟨(aB aZ),trivial⟩ ⟨zac,trivial⟩ ?_
   refine zu rfl (zq ?_)
   refine zj [(0,0)] [0] (λvs _=>z9c (vs 0) (l.drop j) n (by rw[List.length_drop];omega) (by omega)) (zi rfl ⟨_,_,rfl,rfl,_,_,rfl,cr,rfl⟩) rfl ⟨(aB aZ),trivial⟩ ⟨zac,trivial⟩ ?_
   exact zal (.inl rfl) [(0,0)] [(2, .r (bs ((l.drop j).take n)))] [] rfl ⟨cr,⟨rfl,rfl⟩,trivial⟩ ⟨(aB aZ),trivial⟩ ⟨⟨1000000,rfl⟩,trivial⟩ (cr)
theorem zeq(v:Value)(l:List UInt8)(e:Nat)(hl:l.length<=8000000000000)(h:vecP l= .err e):Acts aP 407 1 (rdL l) [.own 0] [(0,v)] 1 (rdX e) (.r (bs [])):=by
 refine zag (T:=Tab) mixed Tab_ok Tryz.func407 rfl (by kernel_rfl) rfl (zbe _ _ _ _ _) ?_
 unfold vecP at h
 cases hn:lenP l with
 |err e'=>
  rw[hn]at h
  injection h with h
  subst h
  refine zj [(0,0)] [0] (λvs _=>zt8 (vs 0) l _ hl hn) (zi rfl ⟨_,_,rfl,rfl,rfl⟩) rfl ⟨(aB aZ),trivial⟩ ⟨zac,trivial⟩ ?_
  refine zt rfl (zp ?_)
  exact zal (.inl rfl) [(0,0)] [(2, .r (bs []))] [] rfl ⟨zpw,⟨rfl,rfl⟩,trivial⟩ ⟨⟨_,_,rfl,trivial,_,_,rfl,cr,rfl⟩,trivial⟩ ⟨⟨1000000,rfl⟩,trivial⟩ (cr)
 |ok n s=>
  rw[hn]at h
  simp only at h
  split at h
  ·rename_i hns
   injection h with h
   subst h
   refine zj [(0,0)] [0] (λvs _=>zss (vs 0) l _ n hl hn) (zi rfl ⟨_,_,rfl,rfl,rfl⟩) rfl ⟨(aB aZ),trivial⟩ ⟨zac,trivial⟩ ?_
   refine zu rfl (zq ?_)
   refine zj [(0,0)] [0] (λvs _=>zvm (vs 0) s n hns) (zi rfl ⟨_,_,rfl,rfl,_,_,rfl,cr,rfl⟩) rfl ⟨(aB aZ),trivial⟩ ⟨zac,trivial⟩ ?_
   exact zal (.inl rfl) [(0,0)] [(2, .r (bs []))] [] rfl ⟨cr,⟨rfl,rfl⟩,trivial⟩ ⟨⟨_,_,rfl,trivial,_,_,rfl,cr,rfl⟩,trivial⟩ ⟨⟨1000000,rfl⟩,trivial⟩ (cr)
  ·cases h
theorem zft(v:Value)(e:Nat)(he:e≠0):Acts aP 407 1 (rdX e) [.own 0] [(0,v)] 1 (rdX e) (.r (bs [])):=by
 refine zag (T:=Tab) mixed Tab_ok Tryz.func407 rfl (by kernel_rfl) rfl (zbe _ _ _ _ _) ?_
 refine zj [(0,0)] [0] (λvs _=>zqc (vs 0) e he) (zi rfl ⟨_,_,rfl,rfl,rfl⟩) rfl ⟨⟨_,_,rfl,trivial,_,_,rfl,cr,rfl⟩,trivial⟩ ⟨zac,trivial⟩ ?_
 refine zt rfl (zp ?_)
 exact zal (.inl rfl) [(0,0)] [(2, .r (bs []))] [] rfl ⟨zpw,⟨rfl,rfl⟩,trivial⟩ ⟨⟨_,_,rfl,trivial,_,_,rfl,cr,rfl⟩,trivial⟩ ⟨⟨1000000,rfl⟩,trivial⟩ (cr)
end Go.Proofs.YtkegaaonpekkgaaGreat.Sx
