import Derived.Test.YtoegdgbghdnnfaaGreatZTj
import Derived.Test.YtoegdgbghdnnfaaGreatZAa
import Derived.Test.YtoegdgbghdnnfaaGreatZTi
import Derived.Test.YtoegdgbghdnnfaaGreatZKu
import Derived.Test.YtoegdgbghdnnfaaGreatZHi
namespace Go.Proofs.YtoegdgbghdnnfaaGreat.Sx
open Go.RowKit
def RelV(O:List Spot)(v:V3)(s:List Int×List Int):Prop:=(v.2.2=true↔s.1.all (found O)=true)/\(v.2.2=true->v.1=s.1/\v.2.1=s.2)
theorem RelV.join{O:List Spot}{a b:V3}{A B:List Int×List Int}{z:Int}(hz:found O z=true)(ha:RelV O a A)(hb:RelV O b B):RelV O (a.1++[z]++b.1,a.2.1++b.2.1,a.2.2&&b.2.2) (A.1++[z]++B.1,A.2++B.2):=by
 constructor
 ·simp only[Bool.and_eq_true,ha.1,hb.1,List.all_append,List.all_cons,List.all_nil,hz,Bool.and_true]
 ·intro h
  simp only[Bool.and_eq_true]at h
  obtain⟨a1,a2⟩:=ha.2 h.1
  obtain⟨b1,b2⟩:=hb.2 h.2
  simp only[a1,a2,b1,b2,and_self]
theorem RelV.kid{O:List Spot}{i:Int}{h how:Nat}{n:Node}{late:List Int}{j:Nat}(hw:how=1\/how=2)(ih: ∀(j how:Nat) (late:List Int),how=1\/how=2->RelV O (visV O i false h j how late) (shP O h j (decide (how=1)) late)):
  RelV O (kidV (λj w l=>visV O i false h j w l) i false h how n late j) (kidS (λj w l=>shP O h j w l) h (decide (how=1)&&decide (n.kind.toNat=0)) late j):=by
 unfold kidV kidS
 rw[if_neg (λh=>by omega),if_neg (λh=>by cases h.2)]
 by_cases h1:how=1/\n.kind.toNat=0
 ·rw[if_pos (.inr h1),if_pos (by simp[h1])]
  exact ih j 1 [] (.inl rfl)
 ·rw[if_neg (show¬(how=0\/(how=1/\n.kind.toNat=0))fromλh=>by rcases h with h |h;omega;exact h1 h),if_neg (show¬((decide (how=1)&&decide (n.kind.toNat=0))=true)from by simpa using h1)]
  by_cases h2:(late.any λu=>za2 (2*u) (nd h j))=true
  ·rw[if_pos h2,if_pos h2]
   exact ih j 2 late (.inr rfl)
  ·rw[if_neg h2,if_neg h2]
   exact⟨by simp,λ_=>⟨rfl,rfl⟩⟩
theorem zui(O:List Spot)(i:Int): ∀(h k how:Nat) (late:List Int),how=1\/how=2->RelV O (visV O i false h k how late) (shP O h k (decide (how=1)) late)
 |0,k,how,late,hw=>by
  unfold visV shP
  cases hf:zaf O (nd 0 k)with
  |none=>exact⟨by simp[found,hf],λh=>by cases h⟩
  |some n=>exact⟨by simp[found,hf],λ_=>⟨rfl,rfl⟩⟩
 |h+1,k,how,late,hw=>by
  unfold visV shP
  cases hf:zaf O (nd (h+1) k)with
  |none=>exact⟨by simp[found,hf],λh=>by cases h⟩
  |some n=>
   simp only[decide_eq_true_eq]
   exact RelV.join (by simp[found,hf]) (RelV.kid hw λj w l hw=>zui O i h j w l hw) (RelV.kid hw λj w l hw=>zui O i h j w l hw)
def RelT(O:List Spot)(o:Nat)(h:Nat)(v:V3):Prop:=(v.2.2=true↔(∀z∈(topS O o h).1,found O z=true)/\∀i,i<h->found O (nd i (sibN (o/2^i)))=true)/\(v.2.2=true->v.1=(topS O o h).1/\v.2.1=(topS O o h).2)
theorem zfeb{O:List Spot}{o h:Nat}{v:V3}(hv:RelV O v (shP O h (sibN (o/2^h)) true [])):(v.2.2=true↔(∀z∈(kidT O o h).1,found O z=true)/\found O (nd h (sibN (o/2^h)))=true)/\(v.2.2=true->v.1=(kidT O o h).1/\v.2.1=(kidT O o h).2):=by
 cases hf:found O (nd h (sibN (o/2^h)))with
 |true=>
  have e:kidT O o h=shP O h (sibN (o/2^h)) true []:=by unfold kidT;rw[if_pos hf]
  rw[e]
  refine⟨?_,hv.2⟩
  rw[hv.1,List.all_eq_true]
  simp
 |false=>
  have hn: ¬v.2.2=true:=λh1=>by
   have:=List.all_eq_true.1 (hv.1.1 h1) _ (zmq O h (sibN (o/2^h)) true [])
   rw[hf]at this
   cases this
  exact⟨⟨λh=>absurd h hn,λh=>by cases h.2⟩,λh=>absurd h hn⟩
theorem zrd(O:List Spot){o d:Nat}(hd:d<=16)(ho:o<2^d): ∀h,h<=d->∀late,RelT O o h (visV O (o:Int) false h (o/2^h) 0 late)
 |0,_,late=>by
  rw[Nat.pow_zero,Nat.div_one]
  unfold visV
  cases hf:zaf O (nd 0 o)with
  |none=>exact⟨by simp[found,hf,topS],λh=>by cases h⟩
  |some n=>exact⟨by simp[found,hf,topS],λ_=>⟨rfl,rfl⟩⟩
 |h+1,hh,late=>by
  have ho16:o<65536:=by have:=zc2 hd;omega
  have ih:=λlate=>zrd O hd ho h (by omega) late
  have hk:o/2^(h+1)=o/2^h/2:=zl1 o h
  have hlt:o/2^h<2^(16-h):=lt16 hd (ze9 ho (by omega))
  have hslt:=lt16 hd (zec ho (show h<d by omega))
  unfold visV
  cases hf:zaf O (nd (h+1) (o/2^(h+1)))with
  |none=>
   refine⟨⟨(λh=>by cases h),λh1=>?_⟩,λh=>by cases h⟩
   have:=h1.1 _ (((zey O o (h+1) _).1).2 (.inl ⟨h+1,Nat.le_refl _,rfl⟩))
   simp[found,hf]at this
  |some n=>
   simp only[if_neg (show¬(0:Nat)=1 by decide)]
   have hfd:found O (nd (h+1) (o/2^(h+1)))=true:=by simp[found,hf]
   have path: ∀j,j=o/2^h->kidV (λj w l=>visV O (o:Int) false h j w l) (o:Int) false h 0 n late j=visV O (o:Int) false h (o/2^h) 0 []:=λj hj=>by
    unfold kidV
    rw[if_pos ⟨rfl,(zdi (by omega) (by rw[hj];exact hlt) ho16).2 hj.symm⟩,hj]
   have sib: ∀j,j≠o/2^h->j<2^(16-h)->kidV (λj w l=>visV O (o:Int) false h j w l) (o:Int) false h 0 n late j=visV O (o:Int) false h j 1 []:=λj hj hj2=>by
    unfold kidV
    rw[if_neg (λh1=>hj ((zdi (by omega) hj2 ho16).1 h1.2).symm),if_neg (λh=>by cases h.2),if_pos (.inl rfl)]
   have ihp:=ih []
   have hsr:=zfeb (o:=o) (zui O (o:Int) h (sibN (o/2^h)) 1 [] (.inl rfl))
   have hlast:(∀i,i<h+1->found O (nd i (sibN (o/2^i)))=true)↔(∀i,i<h->found O (nd i (sibN (o/2^i)))=true)/\found O (nd h (sibN (o/2^h)))=true:=by
    constructor
    ·intro g;exact⟨λi hi=>g i (by omega),g h (by omega)⟩
    ·rintro⟨g1,g2⟩ i hi
     rcases Nat.lt_or_ge i h with h1 |h1
     ·exact g1 i h1
     ·rw[show i=h by omega];exact g2
   unfold RelT topS
   rw[hlast]
   by_cases hp:(o/2^h)%2=0
   ·have e1:2*(o/2^(h+1))=o/2^h:=by omega
    have e2:sibN (o/2^h)=2*(o/2^(h+1))+1:=by unfold sibN;rw[if_pos hp];omega
    rw[path _ e1,sib _ (by omega) (by rw[<-e2];exact hslt),<-e2,if_pos hp]
    constructor
    ·simp only[Bool.and_eq_true,ihp.1,hsr.1,List.mem_append,List.mem_singleton]
     constructor
     ·rintro⟨⟨a,b⟩,c,e⟩
      refine⟨λz hz=>?_,b,e⟩
      rcases hz with(hz |rfl) |hz
      ·exact a z hz
      ·exact hfd
      ·exact c z hz
     ·rintro⟨a,b,e⟩
      exact⟨⟨λz hz=>a z (.inl (.inl hz)),b⟩,λz hz=>a z (.inr hz),e⟩
    ·intro hv
     simp only[Bool.and_eq_true]at hv
     obtain⟨a1,a2⟩:=ihp.2 hv.1
     obtain⟨b1,b2⟩:=hsr.2 hv.2
     simp only[a1,a2,b1,b2,and_self]
   ·have e1:2*(o/2^(h+1))+1=o/2^h:=by omega
    have e2:sibN (o/2^h)=2*(o/2^(h+1)):=by unfold sibN;rw[if_neg hp];omega
    rw[path _ e1,sib _ (by omega) (by rw[<-e2];exact hslt),<-e2,if_neg hp]
    constructor
    ·simp only[Bool.and_eq_true,ihp.1,hsr.1,List.mem_append,List.mem_singleton]
     constructor
     ·rintro⟨⟨c,e⟩,a,b⟩
      refine⟨λz hz=>?_,b,e⟩
      rcases hz with(hz |rfl) |hz
      ·exact c z hz
      ·exact hfd
      ·exact a z hz
     ·rintro⟨a,b,e⟩
      exact⟨⟨λz hz=>a z (.inl (.inl hz)),e⟩,λz hz=>a z (.inr hz),b⟩
    ·intro hv
     simp only[Bool.and_eq_true]at hv
     obtain⟨b1,b2⟩:=hsr.2 hv.1
     obtain⟨a1,a2⟩:=ihp.2 hv.2
     simp only[a1,a2,b1,b2,and_self]
def putB(s:Lean_):Nat->Nat->List UInt8
 |0,k=>match zaf s.opn (nd 0 k)with
  |some n=>[1]++zak n
  |none=>[0]++zch s.shut (nd 0 k)
 |h+1,k=>match zaf s.opn (nd (h+1) k)with
  |some n=>[1]++zak n++(putB s h (2*k)++putB s h (2*k+1))
  |none=>[0]++zch s.shut (nd (h+1) k)
theorem zzo{l:List Stub}{b:Nat}(h: ∀s∈l,s.hash.length<=b)(x:Int):(zch l x).length<=b:=by
 cases hf:ze1 l x with
 |none=>rw[zf8 hf];simp
 |some m=>
  obtain⟨e,s,hs,_,rfl⟩:=ze8 hf
  rw[e];exact h s hs
structure Lean_.brief (s:Lean_):Prop where
 fit:s.fitN
 node: ∀x n,zaf s.opn x=some n->(zak n).length<=1000000
 hash: ∀x∈s.shut,x.hash.length<=1000000
 right: ∀x∈s.opn,x.node.right=true
theorem zy6{s:Lean_}{c:Nat}(h1: ∀x n,zaf s.opn x=some n->(zak n).length<=c)(h2: ∀x∈s.shut,x.hash.length<=c): ∀h k,(putB s h k).length+(c+1)<=(c+1)*2^(h+1):=by
 have hb:=λx=>zzo h2 x
 intro h
 induction h with
 |zero=>
  intro k
  have e:(c+1)*2^(0+1)=2*(c+1):=by rw[Nat.mul_comm]
  rw[e]
  unfold putB
  cases hf:zaf s.opn (nd 0 k)with
  |some n=>have:=h1 _ n hf;simp only[bL,List.length_cons,List.length_nil];omega
  |none=>have:=hb (nd 0 k);simp only[bL,List.length_cons,List.length_nil];omega
 |succ h ih=>
  intro k
  have e2:(c+1)*2^(h+1+1)=2*((c+1)*2^(h+1)):=by rw[Nat.pow_succ 2 (h+1),<-Nat.mul_assoc,Nat.mul_comm]
  have i1:=ih (2*k)
  have i2:=ih (2*k+1)
  rw[e2]
  unfold putB
  cases hf:zaf s.opn (nd (h+1) k)with
  |some n=>
   have:=h1 _ n hf
   simp only[bL,List.length_cons,List.length_nil]
   omega
  |none=>have:=hb (nd (h+1) k);simp only[bL,List.length_cons,List.length_nil];omega
theorem zod{s:Lean_}(hs:s.brief){h:Nat}(hh:h<=16)(k:Nat):(putB s h k).length<=132000000000:=by
 have h1:=zy6 hs.node hs.hash h k
 have h2:=z4x hh
 omega
theorem zr0(s:Lean_)(hs:s.brief)(x:Int)(hx:zaf s.opn x=none):bG 63 [.ag s.c,I x] (.r (bs ([0]++zch s.shut x))):=by
 refine bT Tryz.func63 rfl ?_
 obtain⟨hs1,hs2,hs3,hs4⟩:=id hs.fit
 have hfind:=zge s.opn x (by omega)
 rw[hx]at hfind
 have hb:=zzo hs.hash x
 refine ze hfind ?_
 refine zu rfl (zq ?_)
 refine zy ?_
 refine za rfl rfl ?_
 refine ze (z98 s x (by omega)) ?_
 refine ze (zfv [0] (zch s.shut x) (by simp) (by omega)) ?_
 exact cr
theorem z3l(s:Lean_)(hs:s.brief)(k:Nat)(hk:k<65536)(n:Node)(hx:zaf s.opn (nd 0 k)=some n):bG 63 [.ag s.c,I (nd 0 k)] (.r (bs ([1]++zak n))):=by
 refine bT Tryz.func63 rfl ?_
 obtain⟨hs1,hs2,hs3,hs4⟩:=id hs.fit
 have hle:=hs.node _ n hx
 have hfind:=zge s.opn (nd 0 k) (by omega)
 rw[hx]at hfind
 obtain⟨sp,hsp,_,rfl⟩:=zej hx
 refine ze hfind ?_
 refine zw rfl (zt ?_)
 refine zy ?_
 refine za rfl rfl ?_
 refine ze (zii sp.node (hs3 sp hsp) (λ_=>Node.right_late (hs.right sp hsp))) ?_
 refine ze (zfv [1] (zak sp.node) (by simp) (by omega)) ?_
 refine⟨by decide,_,rfl,?_⟩
 refine zw (by rw[zcn];rfl) (zt ?_)
 exact cr
theorem z92(s:Lean_)(hs:s.brief)(h:Nat)(hh:h+1<=16)(ih: ∀k,k<2^(16-h)->bG 63 [.ag s.c,I (nd h k)] (.r (bs (putB s h k))))
  (k:Nat) (hk:k<2^(16-(h+1))) (n:Node) (hx:zaf s.opn (nd (h+1) k)=some n):bG 63 [.ag s.c,I (nd (h+1) k)] (.r (bs ([1]++zak n++(putB s h (2*k)++putB s h (2*k+1))))):=by
 refine bT Tryz.func63 rfl ?_
 have hleft:=zd4 (d:=16) (by omega) (show h+1<=16 by omega) hk
 have hright:=zdn (d:=16) (by omega) (show h+1<=16 by omega) hk
 have hk2:2^(16-h)=2*2^(16-(h+1)):=by rw[show 16-h=(16-(h+1))+1 by omega,Nat.pow_succ];omega
 obtain⟨hs1,hs2,hs3,hs4⟩:=id hs.fit
 have hle:=hs.node _ n hx
 have hfind:=zge s.opn (nd (h+1) k) (by omega)
 rw[hx]at hfind
 obtain⟨sp,hsp,_,rfl⟩:=zej hx
 have l1:=zod hs (show h<=16 by omega) (2*k)
 have l2:=zod hs (show h<=16 by omega) (2*k+1)
 refine ze hfind ?_
 refine zw rfl (zt ?_)
 refine zy ?_
 refine za rfl rfl ?_
 refine ze (zii sp.node (hs3 sp hsp) (λ_=>Node.right_late (hs.right sp hsp))) ?_
 refine ze (zfv [1] (zak sp.node) (by simp) (by omega)) ?_
 refine⟨by decide,_,rfl,?_⟩
 refine zu (by rw[zc4];rfl) (zq ?_)
 refine ze (ze4 _) ?_
 rw[hleft,hright]
 refine bV ?_
 refine za rfl rfl ?_
 refine ze (ih (2*k) (by omega)) ?_
 refine za rfl rfl ?_
 refine ze (ih (2*k+1) (by omega)) ?_
 refine ze (zfv (putB s h (2*k)) (putB s h (2*k+1)) (by omega) (by omega)) ?_
 refine ze (zfv ([1]++zak sp.node) (putB s h (2*k)++putB s h (2*k+1)) (by simp;omega) (by simp;omega)) ?_
 exact cr
theorem zceb(s:Lean_)(hs:s.brief): ∀(h k:Nat),h<=16->k<2^(16-h)->bG 63 [.ag s.c,I (nd h k)] (.r (bs (putB s h k)))
 |0,k,_,hk=>by
  cases hx:zaf s.opn (nd 0 k)with
  |none=>
   have e:putB s 0 k=[0]++zch s.shut (nd 0 k):=by simp[putB,hx]
   rw[e];exact zr0 s hs _ hx
  |some n=>
   have e:putB s 0 k=[1]++zak n:=by simp[putB,hx]
   rw[e];exact z3l s hs k (by simpa using hk) n hx
 |h+1,k,hh,hk=>by
  cases hx:zaf s.opn (nd (h+1) k)with
  |none=>
   have e:putB s (h+1) k=[0]++zch s.shut (nd (h+1) k):=by simp[putB,hx]
   rw[e];exact zr0 s hs _ hx
  |some n=>
   have e:putB s (h+1) k=[1]++zak n++(putB s h (2*k)++putB s h (2*k+1)):=by simp[putB,hx]
   rw[e];exact z92 s hs h hh (λk hk=>zceb s hs h k (by omega) hk) k hk n hx
def zei(mark:UInt8)(s:Lean_)(d:Nat):List UInt8:=[mark]++(beB 4 s.leaves.toNat++beB 4 s.own.toNat)++putB s d 0
theorem zrw(mark:UInt8)(s:Lean_)(hs:s.brief){d o:Nat}(hd:d<=16)(ho:o<2^d)(hn:s.leaves=((2^d:Nat):Int))(he:s.own=(o:Int)):bG 35 [.ag s.c,U8 mark] (.r (bs (zei mark s d))):=by
 refine bT Tryz.func35 rfl ?_
 have hb:=zdc (zce d hd)
 have h16:=zc2 hd
 have hl:=zod hs hd 0
 have e1:s.leaves.toNat=2^d:=by omega
 have e2:s.own.toNat=o:=by omega
 refine bV ?_
 refine zy ?_
 refine⟨((2^d:Nat):Int),by rw[hn,zgs (by omega)],?_⟩
 refine ze (zk3 4 (2^d) (by omega) (by omega)) ?_
 refine⟨((o:Nat):Int),by rw[he,zgs (by omega)],?_⟩
 refine ze (zk3 4 o (by omega) (by omega)) ?_
 refine ze (zfv (beB 4 (2^d)) (beB 4 o) (by simp[zao]) (by simp[zao])) ?_
 refine ze (zfv [mark] (beB 4 (2^d)++beB 4 o) (by simp) (by simp[zao])) ?_
 refine za rfl rfl ?_
 refine zd (m:=((nd d 0:Nat):Int)) (by rw[zhu,hn]) (by omega) ?_
 refine ze (zceb s hs d 0 hd (zag _)) ?_
 refine ze (zfv ([mark]++(beB 4 (2^d)++beB 4 o)) (putB s d 0) (by simp[zao]) (by omega)) ?_
 exact zf (by unfold zei;rw[e1,e2];rfl)
theorem z59(s:Lean_)(hs:s.brief){d o:Nat}(hd:d<=16)(ho:o<2^d)(hn:s.leaves=((2^d:Nat):Int))(he:s.own=(o:Int)):bG 35 [.ag s.c, .i .u8 1] (.r (bs (zei 1 s d))):=zrw 1 s hs hd ho hn he
def zco(n own:Int):List Int:=2*own::zc1 (2*own) n
def zdr(n own:Int):List Int:=(zco n own).foldl (zee (zco n own)) []
set_option maxHeartbeats 1000000 in
theorem z9y(O:List Spot)(n own:Int)(hO:O.length<=1000000)(hf:zck n=true)(h0:0<=own)(h1:own<n):
  bG 64 [zcw O,I n,I own, .b true] (.r (.tu [is (za8 (zco n own)),is (za8 (zdr n own)), .b ((zco n own).all (found O))])):=by
 refine bT Tryz.func64 rfl ?_
 have hn:=zdc hf
 have hpl:=zin (2*own) n
 have hcl:=zkm (2*own) n
 have hcn:=zh2 hf h0 h1
 obtain⟨P,hP⟩: ∃P,P=2*own::zc1 (2*own) n:=⟨_,rfl⟩
 obtain⟨C,hC⟩: ∃C,C=zb6 (2*own) n:=⟨_,rfl⟩
 have hLn: ∀x∈P,zbt x=true:=λx hx=>zko (O:=O) hf h0 h1 x (by rw[hP]at hx;exact List.mem_append_left (bs:=(zb6 (2*own) n).flatMap λc=>(zbf O n c).1) hx)
 have hPl:P.length<=18:=by rw[hP,List.length_cons];omega
 refine zd rfl (by omega) ?_
 refine zy ?_
 refine zd rfl (by omega) ?_
 refine ze (zlv _ _) ?_
 refine Vapp.mk' (j:=P.length) (zs:=P.map I) (by simp[maxLen];omega) (by simp;omega) (by rw[hP];simp;omega) (by rw[hP];rfl) ?_
 refine zd rfl (by omega) ?_
 refine ze (zrx _ _) ?_
 rw[<-hC]at hcl hcn⊢
 have hCl:C.length<=17:=by omega
 refine Vloop.mk' (λi:Nat×Bool=>{F:=[(0, .r (zcw O)),(1, .r (I n)),(2, .r (I own)),(3, .r (.b true)),(11, .own 0),(12, .r (is C)),(13, .r (.b i.2)),(14, .r (I i.1))],O:=[(0,some (.ch 3 1 P.length (P.map I) true))],nx:=1})
  (λi=>i.1<=P.length/\i.2=(P.take i.1).all (found O)) (λi=>P.length-i.1) (0,true) ⟨by simp,rfl⟩
  (zac [(0,_)] rfl ⟨cr,cr,cr,cr,rfl,cr,cr,cr,trivial⟩ ⟨zau rfl,trivial⟩) ?_
 rintro⟨j,β⟩ ⟨hj,hβ⟩
 simp only at hj hβ
 refine zh (λh2=>zq ?_) (λh2=>zt ?_)
 ·simp only[zb]at h2
  have hj':j<P.length:=by omega
  have hsn:=zqh (p:=found O) hj'
  rw[<-hβ]at hsn
  refine zm (by omega) (by omega) (zaj rfl hj') (zg rfl ?_)
  have gf:=zge O P[j] (by omega)
  cases hfd:zaf O P[j]with
  |none=>
   rw[hfd]at gf
   refine ze gf ?_
   have hfo:found O P[j]=false:=by simp[found,hfd]
   rw[hfo]at hsn
   cases β with
   |true=>
    refine zd (m:=((j+1:Nat):Int)) (by omega) (by omega) ?_
    exact⟨(j+1,false),⟨hj',by rw[hsn];rfl⟩,by simp only;omega,zac [(0,_)] rfl ⟨cr,cr,cr,cr,rfl,cr,cr,cr,trivial⟩ ⟨zau rfl,trivial⟩⟩
   |false=>
    refine zd (m:=((j+1:Nat):Int)) (by omega) (by omega) ?_
    exact⟨(j+1,false),⟨hj',by rw[hsn];rfl⟩,by simp only;omega,zac [(0,_)] rfl ⟨cr,cr,cr,cr,rfl,cr,cr,cr,trivial⟩ ⟨zau rfl,trivial⟩⟩
  |some y=>
   rw[hfd]at gf
   refine ze gf ?_
   have hfo:found O P[j]=true:=by simp[found,hfd]
   rw[hfo]at hsn
   cases β with
   |true=>
    refine zd (m:=((j+1:Nat):Int)) (by omega) (by omega) ?_
    exact⟨(j+1,true),⟨hj',by rw[hsn];rfl⟩,by simp only;omega,zac [(0,_)] rfl ⟨cr,cr,cr,cr,rfl,cr,cr,cr,trivial⟩ ⟨zau rfl,trivial⟩⟩
   |false=>
    refine zd (m:=((j+1:Nat):Int)) (by omega) (by omega) ?_
    exact⟨(j+1,false),⟨hj',by rw[hsn];rfl⟩,by simp only;omega,zac [(0,_)] rfl ⟨cr,cr,cr,cr,rfl,cr,cr,cr,trivial⟩ ⟨zau rfl,trivial⟩⟩
 simp only[zb]at h2
 rw[List.take_of_length_le (by omega)]at hβ
 refine Vloop.mk' (λi:Nat=>{F:=[(0, .r (zcw O)),(1, .r (I n)),(2, .r (I own)),(3, .r (.b true)),(11, .own 0),(12, .r (is C)),(13, .r (.b β)),(17, .r (I i))],O:=[(0,some (.ch 3 1 P.length (P.map I) true))],nx:=1})
  (λi=>i=0) (λ_=>0) 0 rfl
  (zac [(0,0)] rfl ⟨cr,cr,cr,cr,rfl,cr,cr,cr,trivial⟩ ⟨zau rfl,trivial⟩) ?_
 intro i hi
 have hLl:P.length<=3300000000000:=by omega
 have hSe:zdr n own=P.foldl (zee P) []:=by rw[hP];rfl
 have hPe:zco n own=P:=by rw[hP];rfl
 rw[hPe,<-hβ]
 obtain⟨SH,hSH⟩: ∃SH,SH=zdr n own:=⟨_,rfl⟩
 rw[<-hSH]at hSe⊢
 clear hP hPe
 generalize P=L at*
 generalize β=γ at*
 refine zh (λh5=>zw rfl (zt ?_)) (λh5=>zt ?_)
 all_goals
  refine Vloop.mk' (λi:Nat×List Int=>{F:=[(0, .r (zcw O)),(1, .r (I n)),(2, .r (I own)),(3, .r (.b true)),(11, .r (is L)),(13, .r (.b γ)),(20, .own 0),(21, .r (I i.1))],O:=[(0,some (.ch 3 1 i.2.length (i.2.map I) true))],nx:=1})
   (λi=>i.1<=L.length/\(L.take i.1).foldl (zee L) []=i.2) (λi=>L.length-i.1) (0,[]) ⟨by simp,rfl⟩
   ((zb7 20 3 1 rfl).trans (zac [(0,1)] rfl ⟨cr,cr,cr,cr,cr,cr,rfl,cr,trivial⟩ ⟨⟨rfl,rfl,rfl,rfl,zn _⟩,trivial⟩)) ?_
  rintro⟨i5,acc⟩ ⟨hi5,hacc⟩
  simp only at hi5 hacc
  have hinv:=zqv (all:=L) (L.take i5) [] (by simp)
  rw[hacc]at hinv
  have htl:(L.take i5).length<=L.length:=by rw[List.length_take];omega
  have hal:acc.length<=6600000000000:=by have:=hinv.2;simp at this;omega
  refine zh (λh6=>zq ?_) (λh6=>zt ?_)
  ·simp only[zb]at h6
   have hi':i5<L.length:=by omega
   have hsn:=zfb (f:=zee L) (b:=[]) hi'
   rw[hacc]at hsn
   obtain⟨x,hx⟩: ∃x,x=L[i5]:=⟨_,rfl⟩
   rw[<-hx]at hsn
   refine zm (by omega) (by omega) (zaj rfl hi') (zg rfl ?_)
   rw[<-hx]
   refine ze (ze4 x) ?_
   obtain⟨a,ha⟩: ∃a,a=zbw x:=⟨_,rfl⟩
   obtain⟨b,hb⟩: ∃b,b=zbo x:=⟨_,rfl⟩
   have hsn2:(L.take (i5+1)).foldl (zee L) []=addK L (addK L acc a) b:=by rw[hsn,ha,hb];rfl
   rw[<-ha,<-hb]
   refine zh (λh7=>?_) (λh7=>zt ?_)
   ·simp only[zb]at h7
    refine Vcall.bool (zfo L a (by omega)) (λh8=>zw rfl (zt ?_)) (λh8=>zu rfl (zq ?_))
    ·simp only[zb]at h8
     have e1:addK L acc a=acc:=by unfold addK;rw[if_neg (λh=>h.2 h8)]
     rw[e1]at hsn2
     refine zh (λh9=>?_) (λh9=>zt ?_)
     ·simp only[zb]at h9
      refine Vcall.bool (zfo L b (by omega)) (λh10=>zw rfl (zt ?_)) (λh10=>zu rfl (zq ?_))
      ·simp only[zb]at h10
       have e2:addK L (acc) b=acc:=by unfold addK;rw[if_neg (λh=>h.2 h10)]
       rw[e2]at hsn2
       refine zd (m:=((i5+1:Nat):Int)) (by omega) (by omega) ?_
       exact⟨(i5+1,acc),⟨hi',hsn2⟩,by simp only;omega,zac [(0,_)] rfl ⟨cr,cr,cr,cr,cr,cr,rfl,cr,trivial⟩ ⟨zau rfl,trivial⟩⟩
      ·simp only[zb]at h10
       have e2:addK L (acc) b=acc++[b]:=by unfold addK;rw[if_pos ⟨by omega,h10⟩]
       rw[e2]at hsn2
       refine zy ?_
       refine Vapp.mk' (j:=(acc++[b]).length) (zs:=(acc++[b]).map I) (by simp only[maxLen,bL,List.length_cons,List.length_nil];omega) (by simp;omega) (by simp) (by simp[zbl,cellsOf]) ?_
       refine zd (m:=((i5+1:Nat):Int)) (by omega) (by omega) ?_
       exact⟨(i5+1,acc++[b]),⟨hi',hsn2⟩,by simp only;omega,zac [(0,_)] rfl ⟨cr,cr,cr,cr,cr,cr,rfl,cr,trivial⟩ ⟨zau rfl,trivial⟩⟩
     ·simp only[zb]at h9
      have e2:addK L (acc) b=acc:=by unfold addK;rw[if_neg (λh=>by omega)]
      rw[e2]at hsn2
      refine zd (m:=((i5+1:Nat):Int)) (by omega) (by omega) ?_
      exact⟨(i5+1,acc),⟨hi',hsn2⟩,by simp only;omega,zac [(0,_)] rfl ⟨cr,cr,cr,cr,cr,cr,rfl,cr,trivial⟩ ⟨zau rfl,trivial⟩⟩
    ·simp only[zb]at h8
     have e1:addK L acc a=acc++[a]:=by unfold addK;rw[if_pos ⟨by omega,h8⟩]
     rw[e1]at hsn2
     refine zy ?_
     refine Vapp.mk' (j:=(acc++[a]).length) (zs:=(acc++[a]).map I) (by simp only[maxLen,bL,List.length_cons,List.length_nil];omega) (by simp;omega) (by simp) (by simp[zbl,cellsOf]) ?_
     refine zh (λh9=>?_) (λh9=>zt ?_)
     ·simp only[zb]at h9
      refine Vcall.bool (zfo L b (by omega)) (λh10=>zw rfl (zt ?_)) (λh10=>zu rfl (zq ?_))
      ·simp only[zb]at h10
       have e2:addK L (acc++[a]) b=acc++[a]:=by unfold addK;rw[if_neg (λh=>h.2 h10)]
       rw[e2]at hsn2
       refine zd (m:=((i5+1:Nat):Int)) (by omega) (by omega) ?_
       exact⟨(i5+1,acc++[a]),⟨hi',hsn2⟩,by simp only;omega,zac [(0,_)] rfl ⟨cr,cr,cr,cr,cr,cr,rfl,cr,trivial⟩ ⟨zau rfl,trivial⟩⟩
      ·simp only[zb]at h10
       have e2:addK L (acc++[a]) b=acc++[a]++[b]:=by unfold addK;rw[if_pos ⟨by omega,h10⟩]
       rw[e2]at hsn2
       refine zy ?_
       refine Vapp.mk' (j:=(acc++[a]++[b]).length) (zs:=(acc++[a]++[b]).map I) (by simp only[maxLen,bL,List.length_cons,List.length_nil];omega) (by simp;omega) (by simp) (by simp[zbl,cellsOf]) ?_
       refine zd (m:=((i5+1:Nat):Int)) (by omega) (by omega) ?_
       exact⟨(i5+1,acc++[a]++[b]),⟨hi',hsn2⟩,by simp only;omega,zac [(0,_)] rfl ⟨cr,cr,cr,cr,cr,cr,rfl,cr,trivial⟩ ⟨zau rfl,trivial⟩⟩
     ·simp only[zb]at h9
      have e2:addK L (acc++[a]) b=acc++[a]:=by unfold addK;rw[if_neg (λh=>by omega)]
      rw[e2]at hsn2
      refine zd (m:=((i5+1:Nat):Int)) (by omega) (by omega) ?_
      exact⟨(i5+1,acc++[a]),⟨hi',hsn2⟩,by simp only;omega,zac [(0,_)] rfl ⟨cr,cr,cr,cr,cr,cr,rfl,cr,trivial⟩ ⟨zau rfl,trivial⟩⟩
   ·simp only[zb]at h7
    have e1:addK L acc a=acc:=by unfold addK;rw[if_neg (λh=>by omega)]
    rw[e1]at hsn2
    refine zh (λh9=>?_) (λh9=>zt ?_)
    ·simp only[zb]at h9
     refine Vcall.bool (zfo L b (by omega)) (λh10=>zw rfl (zt ?_)) (λh10=>zu rfl (zq ?_))
     ·simp only[zb]at h10
      have e2:addK L (acc) b=acc:=by unfold addK;rw[if_neg (λh=>h.2 h10)]
      rw[e2]at hsn2
      refine zd (m:=((i5+1:Nat):Int)) (by omega) (by omega) ?_
      exact⟨(i5+1,acc),⟨hi',hsn2⟩,by simp only;omega,zac [(0,_)] rfl ⟨cr,cr,cr,cr,cr,cr,rfl,cr,trivial⟩ ⟨zau rfl,trivial⟩⟩
     ·simp only[zb]at h10
      have e2:addK L (acc) b=acc++[b]:=by unfold addK;rw[if_pos ⟨by omega,h10⟩]
      rw[e2]at hsn2
      refine zy ?_
      refine Vapp.mk' (j:=(acc++[b]).length) (zs:=(acc++[b]).map I) (by simp only[maxLen,bL,List.length_cons,List.length_nil];omega) (by simp;omega) (by simp) (by simp[zbl,cellsOf]) ?_
      refine zd (m:=((i5+1:Nat):Int)) (by omega) (by omega) ?_
      exact⟨(i5+1,acc++[b]),⟨hi',hsn2⟩,by simp only;omega,zac [(0,_)] rfl ⟨cr,cr,cr,cr,cr,cr,rfl,cr,trivial⟩ ⟨zau rfl,trivial⟩⟩
    ·simp only[zb]at h9
     have e2:addK L (acc) b=acc:=by unfold addK;rw[if_neg (λh=>by omega)]
     rw[e2]at hsn2
     refine zd (m:=((i5+1:Nat):Int)) (by omega) (by omega) ?_
     exact⟨(i5+1,acc),⟨hi',hsn2⟩,by simp only;omega,zac [(0,_)] rfl ⟨cr,cr,cr,cr,cr,cr,rfl,cr,trivial⟩ ⟨zau rfl,trivial⟩⟩
  simp only[zb]at h6
  rw[List.take_of_length_le (by omega)]at hacc
  have hse:acc=SH:=by rw[hSe,<-hacc]
  subst hse
  refine ze (zi1 L (by omega)) ?_
  refine ze (zi1 acc (by omega)) ?_
  exact⟨_,rfl,cr⟩
def RiseIn(h k:Nat)(l:List Int):Prop:=l.Pairwise (· < ·)/\∀z∈l,inR h k z
theorem RiseIn.nil(h k:Nat):RiseIn h k []:=⟨List.Pairwise.nil,by simp⟩
theorem RiseIn.one(h k:Nat):RiseIn h k [(nd h k:Int)]:=⟨by simp,λz hz=>by rw[List.mem_singleton.1 hz];exact zbn h k⟩
theorem RiseIn.join{h k:Nat}{A B:List Int}(a:RiseIn h (2*k) A)(b:RiseIn h (2*k+1) B):RiseIn (h+1) k (A++B)/\RiseIn (h+1) k (A++[(nd (h+1) k:Int)]++B):=by
 have hm: ∀x∈A,∀y∈B,x<y:=λx hx y hy=>by
  have:=(zcb (a.2 x hx)).2
  have:=(zcc (b.2 y hy)).2
  omega
 refine⟨⟨List.pairwise_append.2 ⟨a.1,b.1,hm⟩,λz hz=>?_⟩,⟨List.pairwise_append.2 ⟨List.pairwise_append.2 ⟨a.1,by simp,λx hx y hy=>?_⟩,b.1,λx hx y hy=>?_⟩,λz hz=>?_⟩⟩
 ·rcases List.mem_append.1 hz with q |q
  ·exact(zcb (a.2 z q)).1
  ·exact(zcc (b.2 z q)).1
 ·rw[List.mem_singleton.1 hy];exact(zcb (a.2 x hx)).2
 ·rcases List.mem_append.1 hx with q |q
  ·exact hm x q y hy
  ·rw[List.mem_singleton.1 q];exact(zcc (b.2 y hy)).2
 ·simp only[List.mem_append,List.mem_singleton]at hz
  rcases hz with(q |rfl) |q
  ·exact(zcb (a.2 z q)).1
  ·exact zbn _ _
  ·exact(zcc (b.2 z q)).1
def z2q(h k:Nat)(v:V3):Prop:=RiseIn h k v.1/\RiseIn h k v.2.1
theorem zve{p:Nat->Nat->List Int->V3}{i:Int}{only:Bool}{h how:Nat}{n:Node}{late:List Int}{j:Nat}(hp: ∀w l,z2q h j (p j w l)):z2q h j (kidV p i only h how n late j):=by
 unfold kidV
 split
 ·exact hp _ _
 ·split
  ·exact⟨RiseIn.nil _ _,RiseIn.one _ _⟩
  ·split
   ·exact hp _ _
   ·split
    ·exact hp _ _
    ·exact⟨RiseIn.nil _ _,RiseIn.one _ _⟩
theorem zf2(O:List Spot)(i:Int)(only:Bool): ∀(h k how:Nat) (late:List Int),z2q h k (visV O i only h k how late)
 |0,k,how,late=>by
  unfold visV
  split
  ·exact⟨RiseIn.nil _ _,RiseIn.nil _ _⟩
  ·exact⟨RiseIn.one _ _,RiseIn.nil _ _⟩
 |h+1,k,how,late=>by
  unfold visV
  split
  ·exact⟨RiseIn.nil _ _,RiseIn.nil _ _⟩
  ·rename_i n _
   have a:=zve (i:=i) (only:=only) (how:=how) (n:=n) (late:=if how=1 then n.par.late else late) (p:=λj w l=>visV O i only h j w l) (j:=2*k) λw l=>zf2 O i only h (2*k) w l
   have b:=zve (i:=i) (only:=only) (how:=how) (n:=n) (late:=if how=1 then n.par.late else late) (p:=λj w l=>visV O i only h j w l) (j:=2*k+1) λw l=>zf2 O i only h (2*k+1) w l
   exact⟨(a.1.join b.1).2,(a.2.join b.2).1⟩
theorem zs7{O P:List Spot}{o d:Nat}(hd:d<=16)(ho:o<2^d): ∀h,h<=d->(∀j,j<=h->found O (nd j (o/2^j))=true)->(∀j,j<h->found P (nd j (sibN (o/2^j)))=false)->∀late,visV O (o:Int) true h (o/2^h) 0 late=((topS P o h).1,(topS P o h).2,true)
 |0,_,hf,_,late=>by
  rw[Nat.pow_zero,Nat.div_one]
  have:=hf 0 (Nat.le_refl _)
  rw[Nat.pow_zero,Nat.div_one]at this
  unfold visV topS
  cases e:zaf O (nd 0 o)with
  |none=>simp[found,e]at this
  |some n=>rfl
 |h+1,hh,hf,hp,late=>by
  have ho16:o<65536:=by have:=zc2 hd;omega
  have ih:=λlate=>zs7 (O:=O) (P:=P) hd ho h (by omega) (λj hj=>hf j (by omega)) (λj hj=>hp j (by omega)) late
  have hk:o/2^(h+1)=o/2^h/2:=zl1 o h
  have hlt:o/2^h<2^(16-h):=lt16 hd (ze9 ho (by omega))
  have hslt:=lt16 hd (zec ho (show h<d by omega))
  have hfd:=hf (h+1) (Nat.le_refl _)
  have hkt:kidT P o h=([],[(nd h (sibN (o/2^h)):Int)]):=by unfold kidT;rw[hp h (by omega)];rfl
  unfold visV topS
  cases e:zaf O (nd (h+1) (o/2^(h+1)))with
  |none=>simp[found,e]at hfd
  |some n=>
   simp only[if_neg (show¬(0:Nat)=1 by decide)]
   have path: ∀j,j=o/2^h->kidV (λj w l=>visV O (o:Int) true h j w l) (o:Int) true h 0 n late j=visV O (o:Int) true h (o/2^h) 0 []:=λj hj=>by
    unfold kidV
    rw[if_pos ⟨rfl,(zdi (by omega) (by rw[hj];exact hlt) ho16).2 hj.symm⟩,hj]
   have sib: ∀j,j≠o/2^h->j<2^(16-h)->kidV (λj w l=>visV O (o:Int) true h j w l) (o:Int) true h 0 n late j=([],[(nd h j:Int)],true):=λj hj hj2=>by
    unfold kidV
    rw[if_neg (λh1=>hj ((zdi (by omega) hj2 ho16).1 h1.2).symm),if_pos ⟨rfl,rfl⟩]
   by_cases hpar:(o/2^h)%2=0
   ·have e1:2*(o/2^(h+1))=o/2^h:=by omega
    have e2:sibN (o/2^h)=2*(o/2^(h+1))+1:=by unfold sibN;rw[if_pos hpar];omega
    rw[path _ e1,sib _ (by omega) (by rw[<-e2];exact hslt),<-e2,if_pos hpar,hkt,ih]
    rfl
   ·have e1:2*(o/2^(h+1))+1=o/2^h:=by omega
    have e2:sibN (o/2^h)=2*(o/2^(h+1)):=by unfold sibN;rw[if_neg hpar];omega
    rw[path _ e1,sib _ (by omega) (by rw[<-e2];exact hslt),<-e2,if_neg hpar,hkt,ih]
    rfl
theorem zml{s s':Lean_}(h1: ∀z,zaf s.opn z=zaf s'.opn z)(h2: ∀z,zch s.shut z=zch s'.shut z): ∀h k,putB s h k=putB s' h k
 |0,k=>by unfold putB;rw[h1,h2]
 |h+1,k=>by unfold putB;rw[h1,h2,zml h1 h2 h,zml h1 h2 h]
section
variable {t:List Node} {d o:Nat} (k:TreeOk t d) (ho:o<2^d)
include k ho in
theorem zpv:visV (zan t t.length) (o:Int) false d 0 0 []=(cutA t ((2^d:Nat):Int) o,cutB t ((2^d:Nat):Int) o,true):=by
 obtain⟨c1,c2,_⟩:=zna k ho
 have hv:=zrd (zan t t.length) k.hd ho d (Nat.le_refl _) []
 rw[Nat.div_eq_of_lt ho]at hv
 have sh:=zpu (zan t t.length) k.hd ho d (Nat.le_refl _)
 have w:=zf2 (zan t t.length) (o:Int) false d 0 0 []
 have hT:(visV (zan t t.length) (o:Int) false d 0 0 []).2.2=true:=by
  rw[hv.1]
  refine⟨λz hz=>?_,λi hi=>k.found (zdj.2 ⟨by omega,?_⟩)⟩
  ·have:=sh.ra z hz
   rw[Nat.div_eq_of_lt ho]at this
   exact k.found this
  ·exact Nat.div_eq_of_lt (zec ho hi)
 obtain⟨e1,e2⟩:=hv.2 hT
 rw[c1,c2,<-e1,<-e2,<-hT]
def pthS(t:List Node)(d o:Nat):Lean_:=⟨((2^d:Nat):Int),(o:Int),(zco ((2^d:Nat):Int) o).map (zbp t),(zdr ((2^d:Nat):Int) o).map (zb8 t)⟩
include k ho in
theorem zso(z:Int):found (pthS t d o).opn z=true↔∃i,i<=d/\z=(nd i (o/2^i):Int):=by
 rw[<-zmi (s:=pthS t d o) k.hd ho rfl rfl z]
 unfold found
 show(zaf ((zco ((2^d:Nat):Int) o).map (zbp t)) z).isSome=true↔z∈zco ((2^d:Nat):Int) o
 rw[zfa]
 split<;>simp_all
include k ho in
theorem zq3(i:Nat)(hi:i<d):found (pthS t d o).opn (nd i (sibN (o/2^i)))=false:=by
 cases e:found (pthS t d o).opn (nd i (sibN (o/2^i)))with
 |false=>rfl
 |true=>
  obtain⟨j,hj,e2⟩:=(zso k ho _).1 e
  have:=zbn i (sibN (o/2^i))
  rw[e2]at this
  exact(zsn this).elim
include k ho in
theorem zsp:(∀z,z∈zco ((2^d:Nat):Int) o↔z∈(topS (pthS t d o).opn o d).1)/\∀z,z∈zdr ((2^d:Nat):Int) o↔z∈(topS (pthS t d o).opn o d).2:=by
 have hkt: ∀i,i<d->kidT (pthS t d o).opn o i=([],[(nd i (sibN (o/2^i)):Int)]):=λi hi=>by unfold kidT;rw[zq3 k ho i hi];rfl
 have ha: ∀z,z∈(topS (pthS t d o).opn o d).1↔∃i,i<=d/\z=(nd i (o/2^i):Int):=λz=>by
  rw[(zey _ o d z).1]
  constructor
  ·rintro(h |⟨i,hi,h⟩)
   ·exact h
   ·rw[hkt i hi]at h;cases h
  ·exact .inl
 have hop:zg1 (pthS t d o) true=[]:=List.eq_nil_iff_forall_not_mem.2 λc hc=>by
  obtain⟨i,hi,rfl,h⟩:=(zg9 k.hd ho rfl rfl c).1 hc
  rw[zq3 k ho i hi]at h
  cases h
 have hall:allL (pthS t d o)=zco ((2^d:Nat):Int) o:=by unfold allL;rw[hop];simp[ownL,zco,pthS]
 have hsh:zpo (pthS t d o)=zdr ((2^d:Nat):Int) o:=by unfold zpo zdr;rw[hall]
 have hm: ∀z,z∈allL (pthS t d o)↔z∈(topS (pthS t d o).opn o d).1:=λz=>by
  rw[hall,ha]
  exact zmi (s:=pthS t d o) k.hd ho rfl rfl z
 refine⟨λz=>by rw[<-hall];exact hm z,λz=>?_⟩
 rw[<-hsh]
 exact zyj (s:=pthS t d o) k.hd ho (λz hz=>(zso k ho z).2 ((ha z).1 hz)) hm z
include k ho in
theorem zv6:visV (zan t t.length) (o:Int) true d 0 0 []=((topS (pthS t d o).opn o d).1,(topS (pthS t d o).opn o d).2,true):=by
 have:=zs7 (O:=zan t t.length) (P:=(pthS t d o).opn) k.hd ho d (Nat.le_refl _) (λj hj=>k.found (zdj.2 ⟨hj,?_⟩)) (λj hj=>zq3 k ho j hj) []
 ·rwa[Nat.div_eq_of_lt ho]at this
 ·rw[Nat.div_div_eq_div_mul,<-Nat.pow_add,show j+(d-j)=d by omega]
  exact Nat.div_eq_of_lt ho
def zc9(t:List Node)(d o:Nat)(K M:List Int):Lean_:=⟨((2^d:Nat):Int),(o:Int),K.map (zbp t),M.map (zb8 t)⟩
theorem zq8(t:List Node)(l:List Int)(z:Int):zch (l.map (zb8 t)) z=if z∈l then zi4 t z else[]:=by
 have:=zzl t l z
 split at this
 ·rename_i h
  rw[if_pos h]
  obtain⟨e,_⟩:=ze8 this
  exact e
 ·rename_i h
  rw[if_neg h]
  exact zf8 this
theorem zqa{K K' M M':List Int}(mark:UInt8)(h1: ∀z,z∈K↔z∈K')(h2: ∀z,z∈M↔z∈M'):zei mark (zc9 t d o K M) d=zei mark (zc9 t d o K' M') d:=by
 unfold zei
 rw[zml (s:=zc9 t d o K M) (s':=zc9 t d o K' M') (λz=>?_) (λz=>?_)]
 ·rfl
 ·show zaf (K.map (zbp t)) z=zaf (K'.map (zbp t)) z
  rw[zfa,zfa]
  simp only[h1]
 ·show zch (M.map (zb8 t)) z=zch (M'.map (zb8 t)) z
  rw[zq8,zq8]
  simp only[h2]
end
end Go.Proofs.YtoegdgbghdnnfaaGreat.Sx
