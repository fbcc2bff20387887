import Derived.Test.YtpdllgbfemnemaaGreatZTn
import Derived.Test.YtpdllgbfemnemaaGreatZTg
import Derived.Test.YtpdllgbfemnemaaGreatZTe
import Derived.Test.YtpdllgbfemnemaaGreatZTk
import Derived.Test.YtpdllgbfemnemaaGreatZMk
namespace Go.Proofs.YtpdllgbfemnemaaGreat.Sx
open Go.RowKit
set_option linter.unusedVariables false
section
theorem z8h{l r:List UInt8}{x:Leaf}(hl:l.length<=100000000)(h:zej l= .ok x r):x.fit:=by
 unfold zej at h
 cases hv:zbw 3 l with
 |err e'=>rw[hv]at h;cases h
 |ok vs q=>
  rw[hv]at h
  obtain⟨hvl,j,rfl,hj,hvb⟩:=zj3 3 hv
  obtain⟨v0,v1,v2,rfl⟩:=len3 hvl
  have b0:=hvb v0 (by simp)
  have b1:=hvb v1 (by simp)
  have b2:=hvb v2 (by simp)
  simp only at h
  have hq:(l.drop j).length<=100000000:=by rw[List.length_drop];omega
  revert h hq
  generalize l.drop j=q
  intro h hq
  cases q with
  |nil=>cases h
  |cons c q=>
   simp only[zhc]at h
   simp only[List.length_cons]at hq
   split at h
   ·cases h
   cases hp:zd7 c q with
   |err e'=>rw[hp]at h;cases h
   |ok par s=>
    rw[hp]at h
    simp only at h
    have hpar:par.length<=100000000/\s.length<=100000000:=by
     unfold zd7 at hp
     split at hp
     ·obtain⟨i,rfl,i1,i2,i3⟩:=zct hp
      rw[List.length_drop]
      omega
     ·injection hp with h1 h2
      subst h1;subst h2
      simp only[List.length_nil]
      omega
    unfold zhf at h
    cases hs:vecP s with
    |err e'=>rw[hs]at h;cases h
    |ok sig t=>
     rw[hs]at h
     obtain⟨i,rfl,i1,i2,i3⟩:=zct hs
     simp only at h
     split at h
     ·injection h with h1 h2
      subst h1
      exact⟨by show v0.length<=_;omega,by show v1.length<=_;omega,by show v2.length<=_;omega,by show par.length<=_;omega,by show sig.length<=_;omega⟩
     ·cases h
theorem z8z:zp.fit:=⟨by decide,by decide,by decide,λx hx=>by simp[zp]at hx⟩
theorem z89:zl.fit:=⟨by decide,by decide,by decide,by decide,by decide⟩
theorem zbpb{l r:List UInt8}{n:Node}(hl:l.length<=100000000)(h:parP l= .ok n r):n.fit:=by
 unfold parP at h
 cases hv:zbw 3 l with
 |err e'=>rw[hv]at h;cases h
 |ok vs q=>
  rw[hv]at h
  obtain⟨hvl,j,rfl,hj,hvb⟩:=zj3 3 hv
  obtain⟨v0,v1,v2,rfl⟩:=len3 hvl
  have b0:=hvb v0 (by simp)
  have b1:=hvb v1 (by simp)
  have b2:=hvb v2 (by simp)
  simp only at h
  split at h
  ·injection h with h1 h2
   subst h1
   refine⟨z89,by show v0.length<=_;omega,by show v1.length<=_;omega,?_,λy hy=>?_⟩
   ·show(zdc v2 (v2.length/4)).length<=_
    rw[ztk];omega
   ·have:=z1h v2 (v2.length/4) y hy
    unfold Sx.i64;omega
  ·cases h
theorem zw9{l r:List UInt8}{n:Node}(hl:l.length<=100000000)(h:zbz l= .ok n r):n.fit:=by
 cases l with
 |nil=>cases h
 |cons c q=>
  simp only[List.length_cons]at hl
  simp only[zbz]at h
  split at h
  ·injection h with h1 h2
   subst h1
   exact⟨z89,z8z⟩
  split at h
  ·cases hq:zej q with
   |err e'=>rw[hq]at h;cases h
   |ok x s=>
    rw[hq]at h
    injection h with h1 h2
    subst h1
    exact⟨z8h (by omega) hq,z8z⟩
  split at h
  ·exact zbpb (by omega) h
  ·cases h
theorem zqf: ∀(h k:Nat) {l r:List UInt8} {y:List Spot×List Stub},l.length<=100000000->zb7 h k l= .ok y r->(∀s∈y.1,s.node.fit)/\(∀s∈y.2,s.hash.length=32):=by
 intro h
 induction h with
 |zero=>
  intro k l r y hl hq
  cases l with
  |nil=>cases hq
  |cons c q=>
   simp only[List.length_cons]at hl
   simp only[zb7]at hq
   split at hq
   ·cases hq
   split at hq
   ·split at hq
    ·cases hq
    ·injection hq with h1 h2
     subst h1
     refine⟨by simp,λs hs=>?_⟩
     rw[List.mem_singleton.1 hs]
     simp;omega
   cases hn:zbz q with
   |err e'=>rw[hn]at hq;cases hq
   |ok n s=>
    rw[hn]at hq
    simp only at hq
    split at hq
    ·cases hq
    ·injection hq with h1 h2
     subst h1
     refine⟨λs hs=>?_,by simp⟩
     rw[List.mem_singleton.1 hs]
     exact zw9 (by omega) hn
 |succ h ih=>
  intro k l r y hl hq
  cases l with
  |nil=>cases hq
  |cons c q=>
   simp only[List.length_cons]at hl
   simp only[zb7]at hq
   split at hq
   ·cases hq
   split at hq
   ·split at hq
    ·cases hq
    ·injection hq with h1 h2
     subst h1
     refine⟨by simp,λs hs=>?_⟩
     rw[List.mem_singleton.1 hs]
     simp;omega
   cases hn:zbz q with
   |err e'=>rw[hn]at hq;cases hq
   |ok n s=>
    rw[hn]at hq
    simp only at hq
    split at hq
    ·cases hq
    obtain⟨j,hs,hj⟩:=zfq hn
    have hls:s.length<=100000000:=by rw[hs,List.length_drop];omega
    cases ha:zb7 h (2*k) s with
    |err e'=>rw[ha]at hq;cases hq
    |ok a t=>
     rw[ha]at hq
     simp only at hq
     have hlt:=(zi3 h (2*k) ha).2.2
     cases hb:zb7 h (2*k+1) t with
     |err e'=>rw[hb]at hq;cases hq
     |ok b u=>
      rw[hb]at hq
      injection hq with h1 h2
      subst h1
      obtain⟨a1,a2⟩:=ih _ hls ha
      obtain⟨b1,b2⟩:=ih _ (by omega) hb
      refine⟨λs hs=>?_,λs hs=>?_⟩
      ·simp only[List.mem_append,List.mem_singleton]at hs
       rcases hs with(rfl |hs) |hs
       ·exact zw9 (by omega) hn
       ·exact a1 s hs
       ·exact b1 s hs
      ·simp only[List.mem_append]at hs
       rcases hs with hs |hs
       ·exact a2 s hs
       ·exact b2 s hs
theorem zm6: ∀(h k:Nat) {l r:List UInt8} {y:List Spot×List Stub},zb7 h k l= .ok y r->y.1.length+y.2.length+1<=2^(h+1):=by
 intro h
 induction h with
 |zero=>
  intro k l r y hq
  cases l with
  |nil=>cases hq
  |cons c q=>
   simp only[zb7]at hq
   split at hq
   ·cases hq
   split at hq
   ·split at hq
    ·cases hq
    ·injection hq with h1 h2
     subst h1
     simp
   cases hn:zbz q with
   |err e'=>rw[hn]at hq;cases hq
   |ok n s=>
    rw[hn]at hq
    simp only at hq
    split at hq
    ·cases hq
    ·injection hq with h1 h2
     subst h1
     simp
 |succ h ih=>
  intro k l r y hq
  have hp:=zag (h+1)
  have hs:2^(h+1+1)=2*2^(h+1):=by rw[Nat.pow_succ 2 (h+1)];omega
  cases l with
  |nil=>cases hq
  |cons c q=>
   simp only[zb7]at hq
   split at hq
   ·cases hq
   split at hq
   ·split at hq
    ·cases hq
    ·injection hq with h1 h2
     subst h1
     simp only[List.length_nil,List.length_cons];omega
   cases hn:zbz q with
   |err e'=>rw[hn]at hq;cases hq
   |ok n s=>
    rw[hn]at hq
    simp only at hq
    split at hq
    ·cases hq
    cases ha:zb7 h (2*k) s with
    |err e'=>rw[ha]at hq;cases hq
    |ok a t=>
     rw[ha]at hq
     simp only at hq
     cases hb:zb7 h (2*k+1) t with
     |err e'=>rw[hb]at hq;cases hq
     |ok b u=>
      rw[hb]at hq
      injection hq with h1 h2
      subst h1
      have i1:=ih _ ha
      have i2:=ih _ hb
      simp only[List.length_append,List.length_cons,List.length_nil]
      omega
theorem zq8{h k:Nat}{x:Int}(hh:h<=16)(hk:k<2^(16-h))(hx:inR h k x):Sx.i64 x:=by
 have h1:(k+1)*2^(h+1)<=2^(16-h)*2^(h+1):=Nat.mul_le_mul_right _ (by omega)
 rw[<-Nat.pow_add,show 16-h+(h+1)=17 by omega,Nat.add_mul,Nat.one_mul]at h1
 unfold inR at hx
 unfold Sx.i64
 omega
end
section
theorem zrx{S:St}{id i im gh:Nat}{m:Value}{ents:List (Int×RV)}{cells:List TF}(ho:oget S.O im=some (.gen (mapO ents)))(hgh:fget S.F gh=some (.nm im m))(hb:oget S.O id=some (.box cells))(hc:cells[i]?=some (.r (.x m)))(hne:id≠im):
  Sub S ⟨S.F,(id,some (.box (cells.set i (.r (.s (mapS ents))))))::(im,none)::S.O,S.nx⟩:=by
 intro B N a w k h0
 obtain⟨k',⟨g,hs⟩,hat,_⟩:=z19 ho hgh h0
 have hid:oget ((im,none)::S.O) id=some (.box cells):=by
  simp only[oget]
  split
  ·rename_i hb;exact absurd (Nat.eq_of_beq_eq_true hb).symm hne
  ·exact hb
 have old: ∀x ox,oget ((id,some (Ow.box (cells.set i (.r (.s (mapS ents))))))::(im,none)::S.O) x=some ox->∃ox',oget ((im,none)::S.O) x=some ox':=λx ox hx=>by
  rcases zav hx with⟨rfl,_⟩ |⟨_,h'⟩
  ·exact⟨_,hid⟩
  ·exact⟨_,h'⟩
 refine⟨k',g,hs.size,hs.defers,hs.keep,hs.kk,hs.facts,λj o' ho'=>?_,λx y ox oy b hx hy hne hb=>?_⟩
 ·rcases zav ho' with⟨rfl,e'⟩ |⟨_,h'⟩
  ·cases e'
   obtain⟨q1,q2,q3,q4⟩:=hs.owns _ _ hid
   refine⟨q1,λf hf=>?_,?_,q4⟩
   ·rcases List.mem_or_eq_of_mem_set hf with hf |rfl
    ·exact q2 f hf
    ·exact True.intro
   ·obtain⟨b,cur,t,e1,e2,e3,e4,e5⟩:=q3
    refine⟨b,cur,t,e1,e2,e3,by simpa using e4,λj f u hf hu=>?_⟩
    rw[List.getElem?_set]at hf
    split at hf
    ·rename_i hij
     subst hij
     split at hf
     ·cases hf
      obtain⟨u1,u2⟩:=e5 i _ u hc hu
      simp only[TF.at_,RV.at_]at u2
      refine⟨u1,?_⟩
      simp only[TF.at_]
      rw[u2]
      exact hat
     ·cases hf
    ·exact e5 j f u hf hu
  ·exact hs.owns j o' h'
 ·obtain⟨ox',hx'⟩:=old x ox hx
  obtain⟨oy',hy'⟩:=old y oy hy
  exact hs.apart x y ox' oy' b hx' hy' hne hb
structure Piece where
 leaves:Nat
 own:Nat
 opn:List Spot
 shut:List Stub
def Piece.R(p:Piece):RV:=zj0 p.leaves p.own p.opn p.shut
def endP(only:Bool)(n i:Nat)(y:List Spot×List Stub)(r:List UInt8):PR Piece:=if r.length=0 then(if zeh n i y.1 y.2 only then .ok ⟨n,i,y.1,y.2⟩ []else .err 3)else .err 5
def zni(only:Bool)(n i:Nat)(r:List UInt8):PR Piece:=match zb7 n.log2 0 r with
 | .err e=> .err e
 | .ok y r=>endP only n i y r
def zk8(only:Bool)(n:Nat)(r:List UInt8):PR Piece:=match numP 4 (λi=>decide ((i:Int)<n)) r with
 | .err e=> .err e
 | .ok i r=>zni only n i r
def zki(only:Bool)(r:List UInt8):PR Piece:=match numP 4 (λn=>za0 n) r with
 | .err e=> .err e
 | .ok n r=>zk8 only n r
def zb6(mark:Int)(b:List UInt8):PR Piece:=if 1048576<b.length then .err 6 else match numP 1 (λn=>decide ((n:Int)=mark)) b with
 | .err e=> .err e
 | .ok _ r=>zki (decide (mark=2)) r
abbrev z84:RV:= .ag [I 0,I 0, .x (.map none), .x (.map none)]
def zos(q:PR Piece):RV:=match q with
 | .err e=> .tu [z84,Er e]
 | .ok p _=> .tu [p.R,Er 0]
theorem zja{size:Nat}{q:Nat->Bool}{l:List UInt8}{e:Nat}(h:numP size q l= .err e):e=4\/e=3:=by
 unfold numP at h
 split at h
 ·injection h with h;omega
 ·split at h
  ·cases h
  ·injection h with h;omega
theorem ze2{size:Nat}{q:Nat->Bool}{l r:List UInt8}{n:Nat}(h:numP size q l= .ok n r):q n=true/\r=l.drop size:=by
 unfold numP at h
 split at h
 ·cases h
 ·split at h
  ·rename_i hq
   injection h with h1 h2
   subst h1
   exact⟨hq,h2.symm⟩
  ·cases h
set_option maxHeartbeats 4000000 in
theorem zz7(mark:Int)(b:List UInt8)(hb:1048576<b.length):zaf Tryz.prog 150 [bs b,I mark] (.r (.tu [z84,Er 6])):=by
 refine zac (T:=Tab) mixed Tab_ok Tryz.func150 rfl (by kernel_rfl) ?_
 refine zu (by simp only[zb];omega) (zq ?_)
 refine za rfl rfl ?_
 exact⟨_,rfl,cr⟩
set_option maxHeartbeats 8000000 in
theorem z7h(mark:Int)(b:List UInt8)(hb:b.length<=1048576):zaf Tryz.prog 150 [bs b,I mark] (.r (zos (zb6 mark b))):=by
 refine zac (T:=Tab) mixed Tab_ok Tryz.func150 rfl (by kernel_rfl) ?_
 refine zw (by simp only[zb];omega) (zt ?_)
 refine ze (zsa b) ?_
 refine Vcode.run Tab_ok ?_
 refine Vstep.mapMk 2000001 rfl λb1=>?_
 refine Vstep.mapMk 2000002 rfl λb2=>?_
 refine Vstep.nm 0 1000000 rfl λp0=>Vstep.mkfunX [p0] rfl ⟨_,_,rfl,⟨0,1000000,rfl,rfl⟩,rfl⟩ ?_
 have e0:zb6 mark b=(match numP 1 (λn=>decide ((n:Int)=mark)) b with | .err e=> .err e | .ok _ r=>zki (decide (mark=2)) r):=by unfold zb6;rw[if_neg (by omega)]
 cases hq:numP 1 (λn=>decide ((n:Int)=mark)) b with
 |err e=>
  have he:=zja hq
  have eR:zb6 mark b= .err e:=by rw[e0,hq]
  refine zj [(0,2),(1,0)] [0,1] (λvs hv=>zbu (by simp only[List.map];rw[hv 1 0 1000000 _ rfl rfl]) (zna (vs 0) p0 mark 1 (.inl rfl) b (by omega) _ _ _ (by rw[hq];exact⟨rfl,rfl,rfl⟩))) (zi rfl ⟨_,_,rfl,rfl,_,_,rfl,cr,_,_,rfl,cr,rfl⟩) rfl ⟨⟨_,_,rfl,cr,_,_,rfl,cr,rfl⟩,⟨_,_,rfl,cr,rfl⟩,trivial⟩ ⟨zaa,zaa,trivial⟩ ?_
  refine zw (by simp only[zb];omega) (zt ?_)
  refine zw (by simp only[zb];omega) (zt ?_)
  refine zw (by simp only[zb];omega) (zt ?_)
  refine zw (by simp only[zb];omega) (zt ?_)
  refine zu (by simp only[zb];omega) (zq ?_)
  refine za rfl rfl ?_
  exact⟨_,rfl,zf (by rw[eR];rfl)⟩
 |ok m r0=>
  obtain⟨_,hr0⟩:=ze2 hq
  have hl0:r0.length<=1048576:=by rw[hr0,List.length_drop];omega
  replace e0:zb6 mark b=zki (decide (mark=2)) r0:=by rw[e0,hq]
  refine zj [(0,2),(1,0)] [0,1] (λvs hv=>zbu (by simp only[List.map];rw[hv 1 0 1000000 _ rfl rfl]) (zna (vs 0) p0 mark 1 (.inl rfl) b (by omega) _ _ _ (by rw[hq];exact⟨rfl,rfl,rfl⟩))) (zi rfl ⟨_,_,rfl,rfl,_,_,rfl,cr,_,_,rfl,cr,rfl⟩) rfl ⟨⟨_,_,rfl,cr,_,_,rfl,cr,rfl⟩,⟨_,_,rfl,cr,rfl⟩,trivial⟩ ⟨zaa,zaa,trivial⟩ ?_
  clear hq
  refine zu rfl (zq ?_)
  cases hq:numP 4 (λn=>za0 n) r0 with
  |err e=>
   have he:=zja hq
   have eR:zb6 mark b= .err e:=by rw[e0];unfold zki;rw[hq]
   refine zj [(0,2)] [0] (λvs _=>znc (vs 0) r0 (by omega) _ _ _ (by rw[hq];exact⟨rfl,rfl,rfl⟩)) (zi rfl ⟨_,_,rfl,rfl,_,_,rfl,cr,_,_,rfl,cr,rfl⟩) rfl ⟨⟨_,_,rfl,cr,_,_,rfl,cr,rfl⟩,trivial⟩ ⟨zaa,trivial⟩ ?_
   refine zw (by simp only[zb];omega) (zt ?_)
   refine zw (by simp only[zb];omega) (zt ?_)
   refine zw (by simp only[zb];omega) (zt ?_)
   refine zu (by simp only[zb];omega) (zq ?_)
   refine za rfl rfl ?_
   exact⟨_,rfl,zf (by rw[eR];rfl)⟩
  |ok n r1=>
   obtain⟨hfn,hr1⟩:=ze2 hq
   have hl1:r1.length<=1048576:=by rw[hr1,List.length_drop];omega
   replace e0:zb6 mark b=zk8 (decide (mark=2)) n r1:=by rw[e0];unfold zki;rw[hq]
   refine zj [(0,2)] [0] (λvs _=>znc (vs 0) r0 (by omega) _ _ _ (by rw[hq];exact⟨rfl,rfl,rfl⟩)) (zi rfl ⟨_,_,rfl,rfl,_,_,rfl,cr,_,_,rfl,cr,rfl⟩) rfl ⟨⟨_,_,rfl,cr,_,_,rfl,cr,rfl⟩,trivial⟩ ⟨zaa,trivial⟩ ?_
   clear hq
   refine zu rfl (zq ?_)
   refine Vstep.nm 5 1000003 rfl λp5=>Vstep.mkfunX [p5] rfl ⟨_,_,rfl,⟨5,1000003,rfl,rfl⟩,rfl⟩ ?_
   cases hq:numP 4 (λi=>decide ((i:Int)<n)) r1 with
   |err e=>
    have he:=zja hq
    have eR:zb6 mark b= .err e:=by rw[e0];unfold zk8;rw[hq]
    refine zj [(0,2),(1,5)] [0,1] (λvs hv=>zbu (by simp only[List.map];rw[hv 1 5 1000003 _ rfl rfl]) (zl7 (vs 0) p5 n 0 (.map (some b1)) (.map (some b2)) 4 (.inr rfl) r1 (by omega) _ _ _ (by rw[hq];exact⟨rfl,rfl,rfl⟩))) (zi rfl ⟨_,_,rfl,rfl,_,_,rfl,cr,_,_,rfl,cr,rfl⟩) rfl ⟨⟨_,_,rfl,cr,_,_,rfl,cr,rfl⟩,⟨_,_,rfl,cr,_,_,rfl,cr,_,_,rfl,cr,_,_,rfl,cr,rfl⟩,trivial⟩ ⟨zaa,zaa,trivial⟩ ?_
    refine zw (by simp only[zb];omega) (zt ?_)
    refine zw (by simp only[zb];omega) (zt ?_)
    refine zu (by simp only[zb];omega) (zq ?_)
    refine za rfl rfl ?_
    exact⟨_,rfl,zf (by rw[eR];rfl)⟩
   |ok i r2=>
    obtain⟨hin,hr2⟩:=ze2 hq
    have hl2:r2.length<=1048576:=by rw[hr2,List.length_drop];omega
    replace e0:zb6 mark b=zni (decide (mark=2)) n i r2:=by rw[e0];unfold zk8;rw[hq]
    refine zj [(0,2),(1,5)] [0,1] (λvs hv=>zbu (by simp only[List.map];rw[hv 1 5 1000003 _ rfl rfl]) (zl7 (vs 0) p5 n 0 (.map (some b1)) (.map (some b2)) 4 (.inr rfl) r1 (by omega) _ _ _ (by rw[hq];exact⟨rfl,rfl,rfl⟩))) (zi rfl ⟨_,_,rfl,rfl,_,_,rfl,cr,_,_,rfl,cr,rfl⟩) rfl ⟨⟨_,_,rfl,cr,_,_,rfl,cr,rfl⟩,⟨_,_,rfl,cr,_,_,rfl,cr,_,_,rfl,cr,_,_,rfl,cr,rfl⟩,trivial⟩ ⟨zaa,zaa,trivial⟩ ?_
    clear hq
    refine zu rfl (zq ?_)
    obtain⟨d,hd,hnd⟩:=zde hfn
    have hn2:n=2^d:=by omega
    have hdl:n.log2=d:=by rw[hn2,Nat.log2_two_pow]
    have hroot:zgu (n:Int)=(nd d 0:Int):=by rw[zgu,hfn,if_pos rfl,hnd,zg0]
    have e1:zb6 mark b=(match zb7 d 0 r2 with | .err e=> .err e | .ok y r=>endP (decide (mark=2)) n i y r):=by rw[e0];unfold zni;rw[hdl]
    refine Vdraw.cut 5 (by kernel_rfl) ?_
    refine za rfl rfl ?_
    refine ze (zvn _) ?_
    rw[hroot]
    cases hQ:zb7 d 0 r2 with
    |err e=>
     have he:=zql _ _ hQ
     have eR:zb6 mark b= .err e:=by rw[e1,hQ]
     refine zj [(0,2),(1,3),(2,4)] [0,1,2] (λvs hv=>zbu (by simp only[List.map];rw[hv 1 3 2000001 _ rfl rfl,hv 2 4 2000002 _ rfl rfl]) (zwq (.map (some b1)) (.map (some b2)) n i d 0 r2 [] [] _ _ hd (zag _) (by omega) (by simp) (by simp) (vs 0) (by rw[hQ];exact⟨rfl,rfl⟩))) (zi rfl ⟨_,_,rfl,cr,_,_,rfl,rfl,_,_,rfl,cr,rfl⟩) rfl ⟨⟨_,_,rfl,cr,_,_,rfl,cr,rfl⟩,λ_ _ _ hh=>hh,λ_ _ _ hh=>hh,trivial⟩ ⟨zaa,zen,zen,trivial⟩ ?_
     refine zw (by simp only[zb];omega) (zt ?_)
     refine zu (by simp only[zb];omega) (zq ?_)
     refine za rfl rfl ?_
     exact⟨_,rfl,zf (by rw[eR];rfl)⟩
    |ok y r3=>
     replace e1:zb6 mark b=endP (decide (mark=2)) n i y r3:=by rw[e1,hQ]
     refine zj [(0,2),(1,3),(2,4)] [0,1,2] (λvs hv=>zbu (by simp only[List.map];rw[hv 1 3 2000001 _ rfl rfl,hv 2 4 2000002 _ rfl rfl]) (zwq (.map (some b1)) (.map (some b2)) n i d 0 r2 [] [] _ _ hd (zag _) (by omega) (by simp) (by simp) (vs 0) (by rw[hQ];exact⟨rfl,rfl⟩))) (zi rfl ⟨_,_,rfl,cr,_,_,rfl,rfl,_,_,rfl,cr,rfl⟩) rfl ⟨⟨_,_,rfl,cr,_,_,rfl,cr,rfl⟩,λ_ _ _ hh=>hh,λ_ _ _ hh=>hh,trivial⟩ ⟨zaa,zen,zen,trivial⟩ ?_
     refine zu rfl (zq ?_)
     have ge:=λv=>zfzb v r3
     by_cases h5:r3.length=0
     rotate_left
     ·simp only[if_neg h5]at ge
      have eR:zb6 mark b= .err 5:=by rw[e1];unfold endP;rw[if_neg h5]
      refine zj [(0,2)] [0] (λvs _=>ge (vs 0)) (zi rfl ⟨_,_,rfl,rfl,rfl⟩) rfl ⟨⟨_,_,rfl,cr,_,_,rfl,cr,rfl⟩,trivial⟩ ⟨zaa,trivial⟩ ?_
      refine zu (by simp only[zb];omega) (zq ?_)
      refine za rfl rfl ?_
      exact⟨_,rfl,zf (by rw[eR];rfl)⟩
     simp only[if_pos h5]at ge
     replace e1:zb6 mark b=(if zeh n i y.1 y.2 (decide (mark=2))then .ok ⟨n,i,y.1,y.2⟩ []else .err 3):=by rw[e1];unfold endP;rw[if_pos h5]
     refine Vstep.thenSub (zj [(0,2)] [0] (λvs _=>ge (vs 0)) (zi rfl ⟨_,_,rfl,rfl,rfl⟩) rfl ⟨⟨_,_,rfl,cr,_,_,rfl,cr,rfl⟩,trivial⟩ ⟨zaa,trivial⟩ ⟨_,Sub.trans (zrx (id:=5) (i:=2) (im:=3) (gh:=2000001) rfl rfl rfl rfl (by decide)) (zrx (id:=5) (i:=3) (im:=4) (gh:=2000002) rfl rfl rfl rfl (by decide)),?_⟩)
     refine zw rfl (zt ?_)
     refine za rfl rfl ?_
     refine Vcmp.mk' (m:=decide (mark=2)) (by rw[Bool.eq_iff_iff];simp only[zb]) ?_
     have hbd:=zc4 hfn
     simp only[decide_eq_true_eq]at hin
     obtain⟨i1,i2,i3⟩:=zi3 _ _ hQ
     obtain⟨f1,f2⟩:=zqf _ _ (by omega) hQ
     have hlen:=zm6 _ _ hQ
     have hpw:2^(d+1)<=131072:=Nat.pow_le_pow_right (n:=2) (by omega) (show d+1<=17 by omega)
     have gr:=zb6b n i (by unfold Sx.i64;omega) (by unfold Sx.i64;omega) y.1 y.2 (decide (mark=2)) (by omega) (by omega) f1 (λs hs=>zq8 hd (zag _) (i1 s hs)) (λs hs=>zq8 hd (zag _) (i2 s hs)) (λs hs=>by rw[f2 s hs];decide)
     refine Vcall.bool gr (λhp=>zw rfl (zt ?_)) (λhp=>zu rfl (zq ?_))
     ·refine za rfl rfl ?_
      refine za rfl rfl ?_
      exact⟨_,rfl,zf (by rw[e1,if_pos hp];rfl)⟩
     ·refine za rfl rfl ?_
      exact⟨_,rfl,zf (by rw[e1,if_neg (by rw[hp];simp)];rfl)⟩
theorem zd3b(mark:Int)(b:List UInt8):zaf Tryz.prog 150 [bs b,I mark] (.r (zos (zb6 mark b))):=by
 by_cases hb:1048576<b.length
 ·have:=zz7 mark b hb
  have e:zb6 mark b= .err 6:=by unfold zb6;rw[if_pos hb]
  rw[e]
  exact this
 ·exact z7h mark b (by omega)
end
end Go.Proofs.YtpdllgbfemnemaaGreat.Sx
