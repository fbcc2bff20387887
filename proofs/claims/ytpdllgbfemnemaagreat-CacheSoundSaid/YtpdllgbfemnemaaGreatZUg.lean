import Derived.Test.YtpdllgbfemnemaaGreatZUc
import Derived.Test.YtpdllgbfemnemaaGreatZQi
import Derived.Test.YtpdllgbfemnemaaGreatZTk
import Derived.Test.YtpdllgbfemnemaaGreatZTu
import Derived.Test.YtpdllgbfemnemaaGreatZKx
import Derived.Test.YtpdllgbfemnemaaGreatZKv
import Derived.Test.YtpdllgbfemnemaaGreatZLd
import Derived.Test.YtpdllgbfemnemaaGreatZNd
namespace Go.Proofs.YtpdllgbfemnemaaGreat.Sx
open Go.RowKit
set_option linter.unusedVariables false
section
theorem z18{O:List Spot}{n:Int}{h k:Nat}(hw:(zay O n h k).2=true):found O (nd h k)=true:=by
 cases h with
 |zero=>
  unfold zay at hw
  split at hw
  ·cases hw
  ·rename_i y hy;simp[found,hy]
 |succ h=>
  unfold zay at hw
  split at hw
  ·cases hw
  ·rename_i y hy;simp[found,hy]
section
variable {s:Lean_} {d o:Nat}
theorem zxs(hd:d<=16)(ho:o<2^d)(hn:s.leaves=((2^d:Nat):Int))(he:s.own=(o:Int))(c:Int):c∈zau (2*s.own) s.leaves↔∃i,i<d/\c=(nd i (sibN (o/2^i)):Int):=by
 rw[zhb hd ho hn he,List.mem_map]
 simp only[List.mem_range]
 constructor
 ·rintro⟨i,hi,rfl⟩;exact⟨i,hi,rfl⟩
 ·rintro⟨i,hi,rfl⟩;exact⟨i,hi,rfl⟩
theorem zul(hd:d<=16)(ho:o<2^d)(hn:s.leaves=((2^d:Nat):Int))(he:s.own=(o:Int))(hc: ∀i,i<d->found s.opn (nd i (sibN (o/2^i)))=true):zan s true=zau (2*s.own) s.leaves:=by
 unfold zan
 rw[List.filter_eq_self]
 intro c hm
 obtain⟨i,hi,rfl⟩:=(zxs hd ho hn he c).1 hm
 simpa[found]using hc i hi
theorem ztr(hd:d<=16)(ho:o<2^d)(hn:s.leaves=((2^d:Nat):Int))(he:s.own=(o:Int))(hF: ∀x n,zae s.opn x=some n->za2 x n=true):
  zq1 s.opn s.leaves s.own=true↔(∀z∈(topS s.opn o d).1,found s.opn z=true)/\∀i,i<d->found s.opn (nd i (sibN (o/2^i)))=true:=by
 unfold zq1
 rw[Bool.and_eq_true,List.all_eq_true,List.all_eq_true]
 constructor
 ·rintro⟨a,b⟩
  refine⟨(zgi hd ho hn he hF).2 ⟨a,λc hc=>b c (List.mem_filter.1 hc).1⟩,λi hi=>?_⟩
  have h1:=b _ ((zxs hd ho hn he _).2 ⟨i,hi,rfl⟩)
  rw[zh7 _ _ (by omega) (lt16 hd (zcv ho hi))]at h1
  exact z18 h1
 ·rintro⟨a,b⟩
  obtain⟨f1,f2⟩:=(zgi hd ho hn he hF).1 a
  rw[zul hd ho hn he b]at f2
  exact⟨f1,f2⟩
theorem zmu(hd:d<=16)(ho:o<2^d)(hn:s.leaves=((2^d:Nat):Int))(he:s.own=(o:Int))(hF: ∀x n,zae s.opn x=some n->za2 x n=true)
  (ha: ∀z∈(topS s.opn o d).1,found s.opn z=true) (hc: ∀i,i<d->found s.opn (nd i (sibN (o/2^i)))=true):
  (zb5 (zb3 s.opn s.leaves s.own)=(topS s.opn o d).1/\zb5 (zdg s.opn s.leaves s.own)=(topS s.opn o d).2)/\rise (allL s)=(topS s.opn o d).1/\rise (zjm s)=(topS s.opn o d).2:=by
 have sh:=zdz s.opn hd ho d (Nat.le_refl _)
 have h0:o/2^d=0:=Nat.div_eq_of_lt ho
 rw[h0]at sh
 obtain⟨f1,f2⟩:=(zgi hd ho hn he hF).1 ha
 have hop:=zul hd ho hn he hc
 have hall:allL s=zb3 s.opn s.leaves s.own:=by
  unfold allL ownL zb3
  rw[hop]
 have hsl:zjm s=zdg s.opn s.leaves s.own:=by unfold zjm zdg;rw[hall]
 have hm:=zrn hd ho hn he hF f2
 have hs:=zov hd ho ha hm
 have hw: ∀c∈zau (2*(o:Int)) ((2^d:Nat):Int),(zbl s.opn ((2^d:Nat):Int) c).2=true:=λc hc=>by
  have:=f2 c (by rw[hop,hn,he];exact hc)
  rwa[hn]at this
 have n1:(zb3 s.opn s.leaves s.own).Nodup:=by rw[hn,he];exact zse hd ho hF hw
 have hnode: ∀x∈zb3 s.opn s.leaves s.own,za1 x=true:=by
  rw[hn,he]
  exact zmw (O:=s.opn) (n:=((2^d:Nat):Int)) (own:=(o:Int)) (zdd d hd) (by omega) (by omega)
 have n2:(zdg s.opn s.leaves s.own).Nodup:=zoh _ _ n1 hnode (by simp) (by simp)
 have r1:rise (allL s)=(topS s.opn o d).1:=zeb (zf7 _) sh.pa λz=>by rw[zfc,hm]
 have r2:rise (zjm s)=(topS s.opn o d).2:=zeb (zf7 _) sh.pb λz=>by rw[zfc,hs]
 refine⟨⟨?_,?_⟩,r1,r2⟩
 ·rw[zkn n1,<-hall,r1]
 ·rw[zkn n2,<-hsl,r2]
structure Part_ (s:Lean_) (d o:Nat):Prop where
 okO: ∀x∈s.opn,okR s.leaves x=true
 okH: ∀x∈s.shut,x.hash.length=32
 leaf:ze6 s=true
 found: ∀z∈(topS s.opn o d).1,found s.opn z=true
 sib: ∀i,i<d->Sx.found s.opn (nd i (sibN (o/2^i)))=true
 ea:s.opn.map (λx=>x.at_)=(topS s.opn o d).1
 eb:s.shut.map (λx=>x.at_)=(topS s.opn o d).2
theorem zld(h: ∀x∈s.opn,okR s.leaves x=true): ∀x n,zae s.opn x=some n->za2 x n=true:=λx n hx=>by
 obtain⟨sp,hsp,rfl,rfl⟩:=za7 hx
 exact((zri (zy7 (h sp hsp))).1 (h sp hsp)).2
theorem zrk(hd:d<=16)(ho:o<2^d)(hn:s.leaves=((2^d:Nat):Int))(he:s.own=(o:Int)):asR s=true↔Part_ s d o:=by
 have hf:za0 s.leaves=true:=by rw[hn];exact zdd d hd
 have h0:0<=s.own/\s.own<s.leaves:=by rw[hn,he];omega
 simp only[asR,hf,h0.1,h0.2,decide_true,Bool.true_and,Bool.and_eq_true,List.all_eq_true,decide_eq_true_eq]
 constructor
 ·rintro⟨a,b,c,e,f,g⟩
  have hF:=zld a
  obtain⟨p,q⟩:=(ztr hd ho hn he hF).1 e
  obtain⟨⟨r1,r2⟩,_,_⟩:=zmu hd ho hn he hF p q
  exact⟨a,b,c,p,q,by rw[<-r1];exact f,by rw[<-r2];exact g⟩
 ·rintro⟨a,b,c,p,q,f,g⟩
  have hF:=zld a
  obtain⟨⟨r1,r2⟩,_,_⟩:=zmu hd ho hn he hF p q
  exact⟨a,b,c,(ztr hd ho hn he hF).2 ⟨p,q⟩,by rw[r1];exact f,by rw[r2];exact g⟩
theorem zt2(hd:d<=16)(ho:o<2^d)(hn:s.leaves=((2^d:Nat):Int))(he:s.own=(o:Int))(h:Part_ s d o):zbf s=true:=by
 have hF:=zld h.okO
 obtain⟨_,r1,r2⟩:=zmu hd ho hn he hF h.found h.sib
 obtain⟨f1,f2⟩:=(zgi hd ho hn he hF).1 h.found
 rw[zod,zip hd ho hn he]
 exact⟨h.okO,h.okH,λz hz=>zc9.1 (f1 z hz),f2,h.leaf,by rw[r1];exact h.ea,by rw[r2];exact h.eb⟩
end
end
section
def RelV(O:List Spot)(v:V3)(s:List Int×List Int):Prop:=(v.2.2=true↔s.1.all (found O)=true)/\(v.2.2=true->v.1=s.1/\v.2.1=s.2)
theorem RelV.join{O:List Spot}{a b:V3}{A B:List Int×List Int}{z:Int}(hz:found O z=true)(ha:RelV O a A)(hb:RelV O b B):RelV O (a.1++[z]++b.1,a.2.1++b.2.1,a.2.2&&b.2.2) (A.1++[z]++B.1,A.2++B.2):=by
 constructor
 ·simp only[Bool.and_eq_true,ha.1,hb.1,List.all_append,List.all_cons,List.all_nil,hz,Bool.and_true]
 ·intro h
  simp only[Bool.and_eq_true]at h
  obtain⟨a1,a2⟩:=ha.2 h.1
  obtain⟨b1,b2⟩:=hb.2 h.2
  simp only[a1,a2,b1,b2,and_self]
theorem RelV.kid{O:List Spot}{i:Int}{h how:Nat}{n:Node}{late:List Int}{j:Nat}(hw:how=1\/how=2)(ih: ∀(j how:Nat) (late:List Int),how=1\/how=2->RelV O (visV O i false h j how late) (shP O h j (decide (how=1)) late)):
  RelV O (kidV (λj w l=>visV O i false h j w l) i false h how n late j) (kidS (λj w l=>shP O h j w l) h (decide (how=1)&&decide (n.kind.toNat=0)) late j):=by
 unfold kidV kidS
 rw[if_neg (λh=>by omega),if_neg (λh=>by cases h.2)]
 by_cases h1:how=1/\n.kind.toNat=0
 ·rw[if_pos (.inr h1),if_pos (by simp[h1])]
  exact ih j 1 [] (.inl rfl)
 ·rw[if_neg (show¬(how=0\/(how=1/\n.kind.toNat=0))fromλh=>by rcases h with h |h;omega;exact h1 h),if_neg (show¬((decide (how=1)&&decide (n.kind.toNat=0))=true)from by simpa using h1)]
  by_cases h2:(late.any λu=>zal (2*u) (nd h j))=true
  ·rw[if_pos h2,if_pos h2]
   exact ih j 2 late (.inr rfl)
  ·rw[if_neg h2,if_neg h2]
   exact⟨by simp,λ_=>⟨rfl,rfl⟩⟩
theorem zvz(O:List Spot)(i:Int): ∀(h k how:Nat) (late:List Int),how=1\/how=2->RelV O (visV O i false h k how late) (shP O h k (decide (how=1)) late)
 |0,k,how,late,hw=>by
  unfold visV shP
  cases hf:zae O (nd 0 k)with
  |none=>exact⟨by simp[found,hf],λh=>by cases h⟩
  |some n=>exact⟨by simp[found,hf],λ_=>⟨rfl,rfl⟩⟩
 |h+1,k,how,late,hw=>by
  unfold visV shP
  cases hf:zae O (nd (h+1) k)with
  |none=>exact⟨by simp[found,hf],λh=>by cases h⟩
  |some n=>
   simp only[decide_eq_true_eq]
   exact RelV.join (by simp[found,hf]) (RelV.kid hw λj w l hw=>zvz O i h j w l hw) (RelV.kid hw λj w l hw=>zvz O i h j w l hw)
def RelT(O:List Spot)(o:Nat)(h:Nat)(v:V3):Prop:=(v.2.2=true↔(∀z∈(topS O o h).1,found O z=true)/\∀i,i<h->found O (nd i (sibN (o/2^i)))=true)/\(v.2.2=true->v.1=(topS O o h).1/\v.2.1=(topS O o h).2)
theorem zdcb{O:List Spot}{o h:Nat}{v:V3}(hv:RelV O v (shP O h (sibN (o/2^h)) true [])):(v.2.2=true↔(∀z∈(kidT O o h).1,found O z=true)/\found O (nd h (sibN (o/2^h)))=true)/\(v.2.2=true->v.1=(kidT O o h).1/\v.2.1=(kidT O o h).2):=by
 cases hf:found O (nd h (sibN (o/2^h)))with
 |true=>
  have e:kidT O o h=shP O h (sibN (o/2^h)) true []:=by unfold kidT;rw[if_pos hf]
  rw[e]
  refine⟨?_,hv.2⟩
  rw[hv.1,List.all_eq_true]
  simp
 |false=>
  have hn: ¬v.2.2=true:=λh1=>by
   have:=List.all_eq_true.1 (hv.1.1 h1) _ (zi0 O h (sibN (o/2^h)) true [])
   rw[hf]at this
   cases this
  exact⟨⟨λh=>absurd h hn,λh=>by cases h.2⟩,λh=>absurd h hn⟩
theorem z1u(O:List Spot){o d:Nat}(hd:d<=16)(ho:o<2^d): ∀h,h<=d->∀late,RelT O o h (visV O (o:Int) false h (o/2^h) 0 late)
 |0,_,late=>by
  rw[Nat.pow_zero,Nat.div_one]
  unfold visV
  cases hf:zae O (nd 0 o)with
  |none=>exact⟨by simp[found,hf,topS],λh=>by cases h⟩
  |some n=>exact⟨by simp[found,hf,topS],λ_=>⟨rfl,rfl⟩⟩
 |h+1,hh,late=>by
  have ho16:o<65536:=by have:=zhr hd;omega
  have ih:=λlate=>z1u O hd ho h (by omega) late
  have hk:o/2^(h+1)=o/2^h/2:=zlm o h
  have hlt:o/2^h<2^(16-h):=lt16 hd (zep ho (by omega))
  have hslt:=lt16 hd (zcv ho (show h<d by omega))
  unfold visV
  cases hf:zae O (nd (h+1) (o/2^(h+1)))with
  |none=>
   refine⟨⟨(λh=>by cases h),λh1=>?_⟩,λh=>by cases h⟩
   have:=h1.1 _ (((zcs O o (h+1) _).1).2 (.inl ⟨h+1,Nat.le_refl _,rfl⟩))
   simp[found,hf]at this
  |some n=>
   simp only[if_neg (show¬(0:Nat)=1 by decide)]
   have hfd:found O (nd (h+1) (o/2^(h+1)))=true:=by simp[found,hf]
   have path: ∀j,j=o/2^h->kidV (λj w l=>visV O (o:Int) false h j w l) (o:Int) false h 0 n late j=visV O (o:Int) false h (o/2^h) 0 []:=λj hj=>by
    unfold kidV
    rw[if_pos ⟨rfl,(zih (by omega) (by rw[hj];exact hlt) ho16).2 hj.symm⟩,hj]
   have sib: ∀j,j≠o/2^h->j<2^(16-h)->kidV (λj w l=>visV O (o:Int) false h j w l) (o:Int) false h 0 n late j=visV O (o:Int) false h j 1 []:=λj hj hj2=>by
    unfold kidV
    rw[if_neg (λh1=>hj ((zih (by omega) hj2 ho16).1 h1.2).symm),if_neg (λh=>by cases h.2),if_pos (.inl rfl)]
   have ihp:=ih []
   have hsr:=zdcb (o:=o) (zvz O (o:Int) h (sibN (o/2^h)) 1 [] (.inl rfl))
   have hlast:(∀i,i<h+1->found O (nd i (sibN (o/2^i)))=true)↔(∀i,i<h->found O (nd i (sibN (o/2^i)))=true)/\found O (nd h (sibN (o/2^h)))=true:=by
    constructor
    ·intro g;exact⟨λi hi=>g i (by omega),g h (by omega)⟩
    ·rintro⟨g1,g2⟩ i hi
     rcases Nat.lt_or_ge i h with h1 |h1
     ·exact g1 i h1
     ·rw[show i=h by omega];exact g2
   unfold RelT topS
   rw[hlast]
   by_cases hp:(o/2^h)%2=0
   ·have e1:2*(o/2^(h+1))=o/2^h:=by omega
    have e2:sibN (o/2^h)=2*(o/2^(h+1))+1:=by unfold sibN;rw[if_pos hp];omega
    rw[path _ e1,sib _ (by omega) (by rw[<-e2];exact hslt),<-e2,if_pos hp]
    constructor
    ·simp only[Bool.and_eq_true,ihp.1,hsr.1,List.mem_append,List.mem_singleton]
     constructor
     ·rintro⟨⟨a,b⟩,c,e⟩
      refine⟨λz hz=>?_,b,e⟩
      rcases hz with(hz |rfl) |hz
      ·exact a z hz
      ·exact hfd
      ·exact c z hz
     ·rintro⟨a,b,e⟩
      exact⟨⟨λz hz=>a z (.inl (.inl hz)),b⟩,λz hz=>a z (.inr hz),e⟩
    ·intro hv
     simp only[Bool.and_eq_true]at hv
     obtain⟨a1,a2⟩:=ihp.2 hv.1
     obtain⟨b1,b2⟩:=hsr.2 hv.2
     simp only[a1,a2,b1,b2,and_self]
   ·have e1:2*(o/2^(h+1))+1=o/2^h:=by omega
    have e2:sibN (o/2^h)=2*(o/2^(h+1)):=by unfold sibN;rw[if_neg hp];omega
    rw[path _ e1,sib _ (by omega) (by rw[<-e2];exact hslt),<-e2,if_neg hp]
    constructor
    ·simp only[Bool.and_eq_true,ihp.1,hsr.1,List.mem_append,List.mem_singleton]
     constructor
     ·rintro⟨⟨c,e⟩,a,b⟩
      refine⟨λz hz=>?_,b,e⟩
      rcases hz with(hz |rfl) |hz
      ·exact c z hz
      ·exact hfd
      ·exact a z hz
     ·rintro⟨a,b,e⟩
      exact⟨⟨λz hz=>a z (.inl (.inl hz)),e⟩,λz hz=>a z (.inr hz),b⟩
    ·intro hv
     simp only[Bool.and_eq_true]at hv
     obtain⟨b1,b2⟩:=hsr.2 hv.1
     obtain⟨a1,a2⟩:=ihp.2 hv.2
     simp only[a1,a2,b1,b2,and_self]
theorem ztx{O O':List Spot}(hO: ∀z,zae O z=zae O' z)(i:Int)(only:Bool): ∀(h k how:Nat) (late:List Int),visV O i only h k how late=visV O' i only h k how late
 |0,k,how,late=>by
  unfold visV
  rw[hO]
 |h+1,k,how,late=>by
  unfold visV
  rw[hO]
  have e:(λj w l=>visV O i only h j w l)=(λj w l=>visV O' i only h j w l):=by
   funext j w l
   exact ztx hO i only h j w l
  rw[e]
end
section
theorem z6p: ∀(h k:Nat) {l r:List UInt8} {x:List Spot×List Stub},l.length<=100000000->zbn h k l= .ok x r->(x.1.map λs=>s.at_).Pairwise (· < ·)/\(x.2.map λs=>s.at_).Pairwise (· < ·):=by
 intro h
 induction h with
 |zero=>
  intro k l r x hl hq
  cases l with
  |nil=>cases hq
  |cons c q=>
   simp only[zbn]at hq
   split at hq
   ·cases hq
   split at hq
   ·split at hq
    ·cases hq
    ·injection hq with h1 h2;subst h1;simp
   cases hn:zbz q with
   |err e'=>rw[hn]at hq;cases hq
   |ok n s=>
    rw[hn]at hq
    simp only at hq
    split at hq
    ·cases hq
    ·injection hq with h1 h2;subst h1;simp
 |succ h ih=>
  intro k l r x hl hq
  cases l with
  |nil=>cases hq
  |cons c q=>
   simp only[List.length_cons]at hl
   simp only[zbn]at hq
   split at hq
   ·cases hq
   split at hq
   ·split at hq
    ·cases hq
    ·injection hq with h1 h2;subst h1;simp
   cases hn:zbz q with
   |err e'=>rw[hn]at hq;cases hq
   |ok n s=>
    rw[hn]at hq
    simp only at hq
    split at hq
    ·cases hq
    obtain⟨j,hs,hj⟩:=zfq hn
    have hls:s.length<=100000000:=by rw[hs,List.length_drop];omega
    cases ha:zbn h (2*k) s with
    |err e'=>rw[ha]at hq;cases hq
    |ok a t=>
     rw[ha]at hq
     simp only at hq
     have hlt:=z9f h (2*k) ha
     cases hb:zbn h (2*k+1) t with
     |err e'=>rw[hb]at hq;cases hq
     |ok b u=>
      rw[hb]at hq
      injection hq with h1 h2
      subst h1
      obtain⟨a1,a2⟩:=ih _ hls ha
      obtain⟨b1,b2⟩:=ih _ (by omega) hb
      obtain⟨_,_,ai,aj,_⟩:=zlx hls ha
      obtain⟨_,_,bi,bj,_⟩:=zlx (by omega) hb
      constructor
      ·simp only[List.map_append,List.map_cons,List.map_nil]
       rw[List.pairwise_append,List.pairwise_append]
       refine⟨⟨a1,by simp,λz hz y hy=>?_⟩,b1,λz hz y hy=>?_⟩
       ·obtain⟨s,hs,rfl⟩:=List.mem_map.1 hz
        rw[List.mem_singleton.1 hy]
        exact(zbs (ai s hs)).2
       ·obtain⟨s',hs',rfl⟩:=List.mem_map.1 hy
        have h2:=(zbv (bi s' hs')).2
        rcases List.mem_append.1 hz with hz |hz
        ·obtain⟨s,hs,rfl⟩:=List.mem_map.1 hz
         have:=(zbs (ai s hs)).2
         omega
        ·rw[List.mem_singleton.1 hz]
         exact h2
      ·simp only[List.map_append]
       rw[List.pairwise_append]
       refine⟨a2,b2,λz hz y hy=>?_⟩
       obtain⟨s,hs,rfl⟩:=List.mem_map.1 hz
       obtain⟨s',hs',rfl⟩:=List.mem_map.1 hy
       have h1:=(zbs (aj s hs)).2
       have h2:=(zbv (bj s' hs')).2
       omega
theorem zvj{l m:List Int}(hm:m.Pairwise (· < ·))(hp:l.Perm m):zcb l=m:=by
 have h1:(zcb l).Pairwise (λa b=>leI a b=true):=List.pairwise_mergeSort (λa b c h1 h2=>by simp only[leI,decide_eq_true_eq]at*;omega) (λa b=>by simp only[leI,Bool.or_eq_true,decide_eq_true_eq];omega) l
 have hp2:(zcb l).Perm m:=(List.mergeSort_perm l _).trans hp
 have hn:(zcb l).Nodup:=hp2.nodup_iff.2 (hm.imp λh=>by omega)
 have h2:(zcb l).Pairwise (· < ·):=(List.Pairwise.and h1 hn).imp λ{a b} h=>by
  have h3:=h.1
  have h4:=h.2
  simp only[leI,decide_eq_true_eq]at h3
  omega
 exact zeb h2 hm λz=>hp2.mem_iff
theorem z55{l m:List Spot}(hm:(m.map λs=>s.at_).Pairwise (· < ·))(hp:l.Perm m)(z:Int):zae l z=zae m z:=by
 cases hf:zae l z with
 |none=>
  simp only[zae,Option.map_eq_none_iff,List.find?_eq_none,decide_eq_true_eq]at hf
  exact(zx5 λs hs=>hf s (hp.mem_iff.2 hs)).symm
 |some n=>
  obtain⟨s,hs,rfl,rfl⟩:=za7 hf
  exact(zka hm (hp.mem_iff.1 hs)).symm
theorem zms{s t:Lean_}(h1: ∀z,zae s.opn z=zae t.opn z)(h2:s.shut=t.shut): ∀h k,zaj s h k=zaj t h k
 |0,k=>by unfold zaj;rw[h1,h2]
 |h+1,k=>by
  unfold zaj
  rw[h1,h2,zms h1 h2 h (2*k),zms h1 h2 h (2*k+1)]
section
variable {d n i:Nat} {l:List UInt8} {x:List Spot×List Stub} {y:List Spot}
theorem z88(hd:d<=16)(hn:n=2^d)(hi:i<n)(hl:l.length<=100000000){r:List UInt8}(hx:zbn d 0 l= .ok x r)(hp:y.Perm x.1):
  zeh n i y x.2 false=asR ⟨n,i,x.1,x.2⟩/\(asR ⟨n,i,x.1,x.2⟩=true->zfo n i y x.2=⟨n,i,x.1,x.2⟩/\zaj ⟨n,i,y,x.2⟩ d 0=zar ⟨n,i,x.1,x.2⟩ d 0):=by
 obtain⟨s,hs⟩: ∃s:Lean_,s=⟨n,i,x.1,x.2⟩:=⟨_,rfl⟩
 have ho:i<2^d:=by omega
 have hsn:s.leaves=((2^d:Nat):Int):=by rw[hs,hn]
 have hse:s.own=(i:Int):=by rw[hs]
 obtain⟨p1,p2⟩:=z6p d 0 hl hx
 obtain⟨f1,f2,f3,f4,f5⟩:=zlx hl hx
 have hf:za0 (n:Int)=true:=by rw[hn];exact zdd d hd
 have hfind:=λz=>z55 p1 hp z
 have hlog:((n:Int)).toNat.log2=d:=by rw[Int.toNat_natCast,hn,Nat.log2_two_pow]
 have hi2:(i:Int)< (n:Int):=by omega
 have sK:zcb (y.map λs=>s.at_)=x.1.map λs=>s.at_:=zvj p1 (hp.map _)
 have sH:zcb (x.2.map λs=>s.at_)=x.2.map λs=>s.at_:=zvj p2 (List.Perm.refl _)
 have hleaf:zla y (2*(i:Int))=ze6 s:=by
  unfold zla ze6
  rw[hfind,hs]
  dsimp only
  cases zae x.1 (2*(i:Int))<;>rfl
 have hvt:=z1u x.1 hd ho d (Nat.le_refl _) []
 rw[Nat.div_eq_of_lt ho]at hvt
 have hvis:visV y (i:Int) false d 0 0 []=visV x.1 (i:Int) false d 0 0 []:=ztx hfind _ _ _ _ _ _
 have hfine: ∀z∈x.1,(okR s.leaves z=true↔za2 z.at_ z.node=true):=λz hz=>by
  have hin:=f3 z hz
  have h0:=ziz hin
  rw[zri h0]
  constructor
  ·exactλh=>h.2
  ·intro h
   refine⟨?_,h⟩
   unfold inR at hin
   rw[hsn]
   rw[Nat.pow_succ]at hin
   omega
 have law:zeh n i y x.2 false=true↔asR s=true:=by
  rw[zrk hd ho hsn hse]
  simp only[zeh,hf,hlog,hvis,sK,sH,hleaf,Bool.true_and,Bool.and_eq_true,decide_eq_true_eq,List.all_eq_true]
  constructor
  ·rintro⟨_,_,c,e,f,g,a,b⟩
   obtain⟨q1,q2⟩:=hvt.1.1 g
   obtain⟨q3,q4⟩:=hvt.2 g
   have eO:s.opn=x.1:=by rw[hs]
   have eH:s.shut=x.2:=by rw[hs]
   exact⟨by rw[eO];exactλz hz=>(hfine z hz).2 (e z (hp.mem_iff.2 hz)),by rw[eH];exact f,c,by rw[eO];exact q1,by rw[eO];exact q2,by rw[eO,<-q3];exact a.symm,by rw[eO,eH,<-q4];exact b.symm⟩
  ·intro h
   have eO:s.opn=x.1:=by rw[hs]
   have eH:s.shut=x.2:=by rw[hs]
   have h1:=h.okO
   have h2:=h.okH
   have h3:=h.found
   have h4:=h.sib
   have h5:=h.ea
   have h6:=h.eb
   rw[eO]at h1 h3 h4 h5 h6
   rw[eH]at h2 h6
   have g:=hvt.1.2 ⟨h3,h4⟩
   obtain⟨q3,q4⟩:=hvt.2 g
   exact⟨by omega,hi2,h.leaf,λz hz=>(hfine z (hp.mem_iff.1 hz)).1 (h1 z (hp.mem_iff.1 hz)),h2,g,by rw[q3];exact h5.symm,by rw[q4];exact h6.symm⟩
 have lawB:zeh n i y x.2 false=asR s:=by rw[Bool.eq_iff_iff];exact law
 rw[<-hs]
 refine⟨lawB,λha=>⟨?_,?_⟩⟩
 ·have m1:(x.1.map λs=>s.at_).map (putN y)=x.1:=by
   rw[List.map_map]
   conv=>rhs;rw[<-List.map_id x.1]
   refine List.map_congr_left λz hz=>?_
   simp only[Function.comp,putN,id]
   rw[hfind,zka p1 hz]
   rfl
  have m2:(x.2.map λs=>s.at_).map (putH x.2)=x.2:=by
   rw[List.map_map]
   conv=>rhs;rw[<-List.map_id x.2]
   refine List.map_congr_left λz hz=>?_
   simp only[Function.comp,putH,id]
   rw[(zc0 (zfp p2 hz)).1]
  unfold zfo
  rw[sK,sH,m1,m2,hs]
 ·have hpt:=(zrk hd ho hsn hse).1 ha
  have hr:=zt2 hd ho hsn hse hpt
  rw[<-(ztf hd ho hsn hse hr).1]
  exact zms (by rw[hs];exact hfind) (by rw[hs]) d 0
end
def zcmb(q:PR Piece)(t:PR Lean_):Prop:=match q with
 | .err e=>t= .err e
 | .ok p _=>t= .ok p.sparse []/\zaj p.lean p.leaves.log2 0=zar p.sparse (lvS p.sparse) 0
theorem zblb(b:List UInt8):zcmb (zb6 1 b) (refP b):=by
 unfold zb6 refP
 by_cases hb:1048576<b.length
 ·rw[if_pos hb,if_pos hb];rfl
 rw[if_neg hb,if_neg hb]
 cases h0:numP 1 (λn=>decide ((n:Int)=1)) b with
 |err e'=>rfl
 |ok m r0=>
  obtain⟨_,hr0⟩:=ze2 h0
  simp only[zki,ref0]
  cases h1:numP 4 (λn=>za0 n) r0 with
  |err e'=>rfl
  |ok n r1=>
   obtain⟨hf,hr1⟩:=ze2 h1
   simp only[zk8,ref1]
   cases h2:numP 4 (λi=>decide ((i:Int)<n)) r1 with
   |err e'=>rfl
   |ok i r2=>
    obtain⟨hi,hr2⟩:=ze2 h2
    simp only[decide_eq_true_eq]at hi
    simp only[zni,ref2]
    obtain⟨d,hd,hnd⟩:=zde hf
    have hn2:n=2^d:=by omega
    have hdl:n.log2=d:=by rw[hn2,Nat.log2_two_pow]
    have hl2:r2.length<=100000000:=by rw[hr2,hr1,hr0,List.length_drop,List.length_drop,List.length_drop];omega
    rw[hdl]
    have hQ:=zwi d 0 r2
    cases h3:zbn d 0 r2 with
    |err e'=>
     rw[h3]at hQ
     simp only[zur]at hQ
     rw[hQ]
     rfl
    |ok x r3=>
     rw[h3]at hQ
     obtain⟨y,hy,hp⟩:=hQ
     rw[hy]
     simp only[endP,endR]
     by_cases h5:r3.length=0
     ·rw[if_pos h5,if_pos h5]
      obtain⟨k1,k2⟩:=z88 hd hn2 (Int.ofNat_lt.1 hi) hl2 h3 hp
      rw[show decide ((1:Int)=2)=false by decide,k1]
      cases ha:asR ⟨n,i,x.1,x.2⟩with
      |false=>rfl
      |true=>
       obtain⟨k3,k4⟩:=k2 ha
       refine⟨?_,?_⟩
       ·show PR.ok _ _=PR.ok (zfo n i y x.2) []
        rw[k3]
       ·show zaj ⟨n,i,y,x.2⟩ n.log2 0=zar (zfo n i y x.2) (lvS (zfo n i y x.2)) 0
        rw[k3,hdl,k4]
        have:lvS ⟨n,i,x.1,x.2⟩=d:=by unfold lvS;rw[Int.toNat_natCast,hdl]
        rw[this]
     ·rw[if_neg h5,if_neg h5]
      rfl
theorem z9c(b h:List UInt8)(i:Int):(∃e,chkP 1 b h i= .err e/\zp7 b h i= .err e)\/∃p r r',chkP 1 b h i= .ok p r/\zp7 b h i= .ok p.sparse r':=by
 have hl:=zblb b
 unfold chkP zp7
 cases hp:zb6 1 b with
 |err e=>
  rw[hp]at hl
  simp only[zcmb]at hl
  rw[hl]
  exact .inl ⟨e,rfl,rfl⟩
 |ok p r=>
  rw[hp]at hl
  obtain⟨h1,h2⟩:=hl
  rw[h1]
  simp only
  have ho:p.sparse.own=(p.own:Int):=rfl
  rw[ho,h2]
  by_cases e1:(p.own:Int)=i
  ·rw[if_pos e1,if_pos e1]
   by_cases e2:zar p.sparse (lvS p.sparse) 0=h
   ·rw[if_pos e2,if_pos e2];exact .inr ⟨p,r,[],rfl,rfl⟩
   ·rw[if_neg e2,if_neg e2];exact .inl ⟨17,rfl,rfl⟩
  ·rw[if_neg e1,if_neg e1];exact .inl ⟨7,rfl,rfl⟩
end
section
theorem zbjb:Cv (.ag zero4) (.ag empty_.c):=Cv.ag (zk (cr) (zk (cr) (zk (Cv.nil 11) (zk (Cv.nil 2) Cvs.nil))))
theorem z9y{p:Piece}{only:Bool}{d:Nat}{l:List UInt8}(h:p.Ok only d l):p.sparse.opn.length<=131072/\p.sparse.shut.length<=131072/\∀x∈p.sparse.opn,∀u∈x.node.par.late,i64 u:=by
 have hl:=h.lens
 obtain⟨f1,_⟩:=h.spots
 refine⟨?_,?_,λx hx u hu=>?_⟩
 ·simp only[Piece.sparse,zfo,List.length_map,zl0];omega
 ·simp only[Piece.sparse,zfo,List.length_map,zl0];omega
 ·simp only[Piece.sparse,zfo,List.mem_map]at hx
  obtain⟨z,hz,rfl⟩:=hx
  simp only[putN]at hu
  cases hf:zae p.opn z with
  |none=>rw[hf]at hu;cases hu
  |some n=>
   rw[hf]at hu
   obtain⟨s,hs,_,rfl⟩:=za7 hf
   exact(f1 s hs).2.2.2.2 u hu
end
end Go.Proofs.YtpdllgbfemnemaaGreat.Sx
