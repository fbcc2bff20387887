import Derived.Test.YtpcfoglfakeimaaGreatZOb
import Derived.Test.YtpcfoglfakeimaaGreatZCf
import Derived.Test.YtpcfoglfakeimaaGreatZCh
import Derived.Test.YtpcfoglfakeimaaGreatZHc
import Derived.Test.YtpcfoglfakeimaaGreatZSxBr
import Derived.Test.YtpcfoglfakeimaaGreatZGg
namespace Go.Proofs.YtpcfoglfakeimaaGreat.Sx
open Go.RowKit
def getZ:List (Int×Int)->Int->Int
 |[],_=>0
 |(m,c)::l,n=>if m=n then c else getZ l n
def putZ:List (Int×Int)->Int->Int->List (Int×Int)
 |[],n,c=>[(n,c)]
 |(m,d)::l,n,c=>if m=n then(m,c)::l else(m,d)::putZ l n c
abbrev embZ(e:List (Int×Int)):List (Int×RV):=e.map λp=>(p.1,I p.2)
theorem zdd: ∀(e:List (Int×Int)) (n:Int),(aget (embZ e) n).getD (I 0)=I (getZ e n)
 |[],n=>rfl
 |(m,c)::l,n=>by
  simp only[embZ,List.map_cons,aget,getZ]
  by_cases h:m=n
  ·simp[h]
  ·rw[if_neg h,if_neg h];exact zdd l n
theorem zl5: ∀(e:List (Int×Int)) (n:Int) (c:Int),aput (embZ e) n (I c)=embZ (putZ e n c)
 |[],n,c=>rfl
 |(m,d)::l,n,c=>by
  simp only[embZ,List.map_cons,aput,putZ]
  by_cases h:m=n
  ·simp[h]
  ·rw[if_neg h,if_neg h,List.map_cons];exact congrArg _ (zl5 l n c)
theorem zvt: ∀(e:List (Int×Int)) (n c x:Int),getZ (putZ e n c) x=if n=x then c else getZ e x
 |[],n,c,x=>rfl
 |(m,d)::l,n,c,x=>by
  simp only[putZ]
  by_cases h:m=n
  ·subst h
   rw[if_pos rfl,getZ,getZ]
   split<;>rfl
  ·rw[if_neg h,getZ,getZ,zvt l n c x]
   by_cases h2:m=x
   ·rw[if_pos h2,if_neg (λe=>h (h2.trans e.symm)),if_pos h2]
   ·rw[if_neg h2,if_neg h2]
def cntZ(l:List Int):List (Int×Int):=l.foldl (λe x=>putZ e x (getZ e x+1)) []
theorem zmc(l:List Int)(x:Int):cntZ (l++[x])=putZ (cntZ l) x (getZ (cntZ l) x+1):=by simp[cntZ]
theorem zkv(l:List Int): ∀x,getZ (cntZ l) x=(l.count x:Int):=by
 refine zlt (p:=λl=>∀x,getZ (cntZ l) x=(l.count x:Int)) (λx=>rfl) (λl y ih x=>?_) l
 rw[zmc,zvt,ih y,ih x,List.count_append]
 by_cases h:y=x
 ·subst h;simp
 ·rw[if_neg h];simp[h]
def uL(l:List OffP):List Int:=(l.filter λo=>decide (o.prop.kind.toNat=2)).map (·.frm)
def rL(l:List OffP):List Int:=(l.filter λo=>decide (o.prop.kind.toNat=3)).map (·.prop.at_)
structure OffOk (t:List Node) (by_:Int) (l:List OffP) (group:List UInt8) (o:OffP):Prop where
 mem:o.frm∈zaf t
 right:o.prop.right=true
 pack:o.prop.kind.toNat=1->zc3 o.prop.pack=true
 upd:o.prop.kind.toNat=2->o.frm≠by_/\(uL l).count o.frm=1/\(o.prop.leaf.ident=(nT t (2*o.frm).toNat).leaf.ident/\o.prop.leaf.sign=(nT t (2*o.frm).toNat).leaf.sign/\o.prop.leaf.box≠(nT t (2*o.frm).toNat).leaf.box)/\zfb o.prop.leaf group o.frm=true
 rem:o.prop.kind.toNat=3->o.prop.at_∈zaf t/\o.prop.at_≠by_/\(rL l).count o.prop.at_=1/\(uL l).count o.prop.at_=0
open Classical in
noncomputable def mayT (t:List Node)(by_:Int)(l:List OffP)(group:List UInt8):Bool:=decide (∀o∈l,OffOk t by_ l group o)
theorem zpg{t:List Node}{by_:Int}{l:List OffP}{group:List UInt8}:mayT t by_ l group=true↔∀o∈l,OffOk t by_ l group o:=by simp[mayT]
theorem zd6(t:List Node): ∀(m:List Int) (x:Int),zcq (memE t m) x=if x∈m then some (.ag (nT t (2*x).toNat).leaf.c)else none
 |[],x=>by simp[memE,zcq]
 |y::m,x=>by
  show(if y=x then _ else zcq (memE t m) x)=_
  rw[zd6 t m x]
  by_cases h:y=x
  ·subst h;rw[if_pos rfl,if_pos (by simp)]
  ·rw[if_neg h]
   by_cases h2:x∈m
   ·rw[if_pos h2,if_pos (by simp[h2])]
   ·rw[if_neg h2,if_neg (by simp[h2,Ne.symm h])]
theorem zff:Tryz.prog.underlying 85=some (.map 3 3):=by kernel_rfl
theorem zha(n:Int): ∀(w:World) (k:Kp) (v:Value),(ofC (qI n)).at_ w k v->v=qI n:=λw k v h=>by simpa[ofC,RV.at_]using h
theorem zceb{l:List OffP}{j:Nat}(hj:j<l.length):uL (l.take (j+1))=if l[j].prop.kind.toNat=2 then uL (l.take j)++[l[j].frm]else uL (l.take j):=by
 unfold uL
 rw[List.take_succ_eq_append_getElem hj,List.filter_append]
 by_cases h:l[j].prop.kind.toNat=2<;>simp[h]
theorem zb3b{l:List OffP}{j:Nat}(hj:j<l.length):rL (l.take (j+1))=if l[j].prop.kind.toNat=3 then rL (l.take j)++[l[j].prop.at_]else rL (l.take j):=by
 unfold rL
 rw[List.take_succ_eq_append_getElem hj,List.filter_append]
 by_cases h:l[j].prop.kind.toNat=3<;>simp[h]
theorem ze1b(l:List OffP)(j:Nat):(uL (l.take j)).length<=j:=by
 unfold uL
 rw[List.length_map]
 exact Nat.le_trans (List.length_filter_le _ _) (by rw[List.length_take];omega)
theorem zetb(l:List OffP)(j:Nat):(rL (l.take j)).length<=j:=by
 unfold rL
 rw[List.length_map]
 exact Nat.le_trans (List.length_filter_le _ _) (by rw[List.length_take];omega)
abbrev mayO(l:List OffP):List (Nat×Option Ow):=[(0,some (.gen (mapG qI (embZ (cntZ (uL l)))))),(1,some (.gen (mapG qI (embZ (cntZ (rL l))))))]
abbrev mayA(t:List Node)(b:Int)(l:List OffP)(g:List UInt8)(j:Nat):St:=⟨[(0, .r (.s (mapS (memE t (zaf t))))),(1, .r (I b)),(2, .r (offs l)),(3, .r (bs g)),(9, .own 0),(10, .own 1),(25, .r (offs l)),(26, .r (I l.length)),(27, .r (I j))],mayO (l.take j),2⟩
abbrev mayB(t:List Node)(b:Int)(l:List OffP)(g:List UInt8)(j:Nat):St:=⟨[(0, .r (.s (mapS (memE t (zaf t))))),(1, .r (I b)),(2, .r (offs l)),(3, .r (bs g)),(9, .own 0),(10, .own 1),(50, .r (offs l)),(51, .r (I l.length)),(52, .r (I j))],mayO l,2⟩
set_option maxHeartbeats 1000000 in
theorem zdnb(t:List Node)(b:Int)(l:List OffP)(g:List UInt8)(hl:l.length<=1000)(hs: ∀o∈l,o.prop.sml/\i64 o.frm)(hg:g.length<=1000000):
  aG 16 [.s (mapS (memE t (zaf t))),I b,offs l,bs g] (.r (.b (mayT t b l g))):=by
 refine aT Tryz.func16 rfl ?_
 refine Vcode.scope mixed Tab_ok 0 (ι:=Unit) (λ_=>⟨[],[],0⟩) (λ_=>False) (λ_=>0) rfl ?_ (λ_ h=>h.elim)
 refine Vcode.run Tab_ok ?_
 refine Vstep.mapGMk qI rfl ?_
 refine Vstep.mapGMk qI rfl ?_
 refine Vloop.mk' (mayA t b l g) (λj=>j<=l.length) (λj=>l.length-j) 0 (by omega)
  (zac (S':=mayA t b l g 0) [(0,0),(1,1)] rfl ⟨cr,cr,cr,cr,rfl,rfl,cr,cr,cr,trivial⟩ ⟨λ_ _ _ hh=>hh,λ_ _ _ hh=>hh,trivial⟩) ?_
 intro j hj
 have bu:=ze1b l j
 have br:=zetb l j
 refine zh (λh=>zq ?_) (λh=>zt ?_)
 ·simp only[zb]at h
  have hj':j<l.length:=by omega
  have su:=zceb hj'
  have sr:=zb3b hj'
  refine zm (by omega) (by omega) (zco rfl hj') ?_
  refine za rfl rfl ?_
  refine zh (λc1=>zq ?_) (λc1=>zt ?_)
  ·simp only[zb]at c1
   rw[if_pos (by omega)]at su
   rw[if_neg (by omega)]at sr
   have hc:=zkv (uL (l.take j)) l[j].frm
   have hc2:=List.count_le_length (a:=l[j].frm) (l:=uL (l.take j))
   refine Vstep.lookG (q:=qI) (n:=l[j].frm) (I 0) rfl rfl rfl rfl rfl (zha _) zff (zdp zdv) zhg (λ_ _=>by simp[RV.at_]) ?_
   rw[zdd]
   refine zd (m:=getZ (cntZ (uL (l.take j))) l[j].frm+1) rfl (by omega) ?_
   refine Vstep.putG (q:=qI) (n:=l[j].frm) rfl rfl rfl rfl rfl (zha _) rfl rfl zff (zdp zdv) ?_
   rw[zl5,<-zmc,<-su]
   refine zd (m:=((j+1:Nat):Int)) (by omega) (by omega) ?_
   exact⟨j+1,by omega,by omega,zac [(0,0),(1,1)] rfl ⟨cr,cr,cr,cr,rfl,rfl,cr,cr,cr,trivial⟩ ⟨λ_ _ _ hh=>hh,λ_ _ _ hh=>by rw[sr];exact hh,trivial⟩⟩
  ·simp only[zb]at c1
   rw[if_neg (by omega)]at su
   refine zh (λc2=>zq ?_) (λc2=>zt ?_)
   ·simp only[zb]at c2
    rw[if_pos (by omega)]at sr
    have hc:=zkv (rL (l.take j)) l[j].prop.at_
    have hc2:=List.count_le_length (a:=l[j].prop.at_) (l:=rL (l.take j))
    refine Vstep.lookG (q:=qI) (n:=l[j].prop.at_) (I 0) rfl rfl rfl rfl rfl (zha _) zff (zdp zdv) zhg (λ_ _=>by simp[RV.at_]) ?_
    rw[zdd]
    refine zd (m:=getZ (cntZ (rL (l.take j))) l[j].prop.at_+1) rfl (by omega) ?_
    refine Vstep.putG (q:=qI) (n:=l[j].prop.at_) rfl rfl rfl rfl rfl (zha _) rfl rfl zff (zdp zdv) ?_
    rw[zl5,<-zmc,<-sr]
    refine zd (m:=((j+1:Nat):Int)) (by omega) (by omega) ?_
    exact⟨j+1,by omega,by omega,zac [(0,0),(1,1)] rfl ⟨cr,cr,cr,cr,rfl,rfl,cr,cr,cr,trivial⟩ ⟨λ_ _ _ hh=>by rw[su];exact hh,λ_ _ _ hh=>hh,trivial⟩⟩
   ·simp only[zb]at c2
    rw[if_neg (by omega)]at sr
    refine zd (m:=((j+1:Nat):Int)) (by omega) (by omega) ?_
    exact⟨j+1,by omega,by omega,zac [(0,0),(1,1)] rfl ⟨cr,cr,cr,cr,rfl,rfl,cr,cr,cr,trivial⟩ ⟨λ_ _ _ hh=>by rw[su];exact hh,λ_ _ _ hh=>by rw[sr];exact hh,trivial⟩⟩
 simp only[zb]at h
 obtain rfl:j=l.length:=by omega
 unfold mayA
 rw[List.take_length]at bu br⊢
 have yes:(∀o∈l,OffOk t b l g o)->mayT t b l g=true:=λh=>zpg.2 h
 have bad: ∀j (hj:j<l.length),¬OffOk t b l g l[j]->Cv (.b false) (.b (mayT t b l g)):=λj hj h=>zf (congrArg RV.b (Eq.symm (Bool.eq_false_iff.2 λh2=>h (zpg.1 h2 _ (List.getElem_mem hj)))))
 have cu:=zkv (uL l)
 have crx:=zkv (rL l)
 refine Vloop.mk' (mayB t b l g) (λj=>j<=l.length/\∀i (hi:i<l.length),i<j->OffOk t b l g l[i]) (λj=>l.length-j) 0 ⟨by omega,λi _ h=>by omega⟩
  (zac (S':=mayB t b l g 0) [(0,0),(1,1)] rfl ⟨cr,cr,cr,cr,rfl,rfl,cr,cr,cr,trivial⟩ ⟨λ_ _ _ hh=>hh,λ_ _ _ hh=>hh,trivial⟩) ?_
 rintro j ⟨hj,hall⟩
 refine zh (λh=>zq ?_) (λh=>zt ?_)
 ·simp only[zb]at h
  have hj':j<l.length:=by omega
  obtain⟨ho,hof⟩:=hs _ (List.getElem_mem hj')
  have next:OffOk t b l g l[j]->∀i (hi:i<l.length),i<j+1->OffOk t b l g l[i]:=λhk i hi hij=>by
   rcases Nat.lt_or_ge i j with h5 |h5
   ·exact hall i hi h5
   ·obtain rfl:i=j:=by omega
    exact hk
  have no:=bad j hj'
  refine zm (by omega) (by omega) (zco rfl hj') ?_
  generalize l[j]=o at*
  refine za rfl rfl ?_
  refine Vstep.look2 (.ag zlC) rfl rfl rfl zkh zdv zrs zrv (λr hr=>?_) (λhr=>?_)
  ·rw[zd6]at hr
   by_cases hmem:o.frm∈zaf t
   ·rw[if_pos hmem]at hr
    cases hr
    refine za rfl rfl ?_
    refine ze (zop o.prop ho) ?_
    unfold zjj
    cases hpr:o.prop.right with
    |false=>exact zw rfl (zu rfl (zq (no λh=>by have:=h.right;rw[hpr]at this;cases this)))
    |true=>
    refine zw rfl (zw rfl (zt ?_))
    refine za rfl rfl ?_
    refine zh (λk1=>zq ?_) (λk1=>zt ?_)
    ·simp only[zb]at k1
     refine za rfl rfl ?_
     refine Vcall.bool (z7f o.prop.pack (by have:=ho.init;have:=ho.sig;exact⟨by omega,ho.pl.fit,by omega⟩) (by have:=ho.pl.box;have:=ho.pl.sign;have:=ho.pl.ident;have:=ho.pl.parent;have:=ho.pl.sig;omega)) (λc=>zq ?_) (λc=>zt ?_)
     ·refine zd (m:=((j+1:Nat):Int)) (by omega) (by omega) ?_
      exact⟨j+1,⟨by omega,next ⟨hmem,hpr,λ_=>c,λk=>by omega,λk=>by omega⟩⟩,by omega,zac [(0,0),(1,1)] rfl ⟨cr,cr,cr,cr,rfl,rfl,cr,cr,cr,trivial⟩ ⟨λ_ _ _ hh=>hh,λ_ _ _ hh=>hh,trivial⟩⟩
     ·exact no λh=>by have:=h.pack (by omega);rw[c]at this;cases this
    ·simp only[zb]at k1
     refine zh (λk2=>zq ?_) (λk2=>zt ?_)
     ·simp only[zb]at k2
      have kk:o.prop.kind.toNat=2:=by omega
      refine Vcall.bool (zeo _ _) (λe1=>?_) (λe1=>?_)
      ·rw[decide_eq_true_eq]at e1
       refine Vcall.bool (zeo _ _) (λe2=>?_) (λe2=>?_)
       ·rw[decide_eq_true_eq]at e2
        refine Vcall.bool (zeo _ _) (λe3=>zw rfl ?_) (λe3=>zu rfl ?_)
        ·rw[decide_eq_true_eq]at e3
         refine zh (λc4=>?_) (λc4=>zt (no λh=>(h.upd kk).2.2.1.2.2 e3))
         refine Vstep.lookG (q:=qI) (n:=o.frm) (I 0) rfl rfl rfl rfl rfl (zha _) zff (zdp zdv) zhg (λ_ _=>by simp[RV.at_]) ?_
         rw[zdd,cu]
         exact zh (λc5=>zt (no λh=>(h.upd kk).2.2.1.2.2 e3)) (λc5=>zt (no λh=>(h.upd kk).2.2.1.2.2 e3))
        ·rw[decide_eq_false_iff_not]at e3
         refine zh (λc4=>?_) (λc4=>zt (no λh=>?_))
         ·refine Vstep.lookG (q:=qI) (n:=o.frm) (I 0) rfl rfl rfl rfl rfl (zha _) zff (zdp zdv) zhg (λ_ _=>by simp[RV.at_]) ?_
          rw[zdd,cu]
          refine zh (λc5=>?_) (λc5=>zt (no λh=>?_))
          ·simp only[zb]at c4 c5
           refine za rfl rfl ?_
           refine Vcall.bool (zg4 o.prop.leaf g o.frm ho.leaf.fit (by omega) (by have:=ho.leaf.box;have:=ho.leaf.sign;have:=ho.leaf.ident;have:=ho.leaf.parent;omega) hof) (λc6=>zq ?_) (λc6=>zt (no λh=>by have:=(h.upd kk).2.2.2;rw[c6]at this;cases this))
           refine zd (m:=((j+1:Nat):Int)) (by omega) (by omega) ?_
           exact⟨j+1,⟨by omega,next ⟨hmem,hpr,λk=>by omega,λ_=>⟨c4,by omega,⟨e1,e2,e3⟩,c6⟩,λk=>by omega⟩⟩,by omega,zac [(0,0),(1,1)] rfl ⟨cr,cr,cr,cr,rfl,rfl,cr,cr,cr,trivial⟩ ⟨λ_ _ _ hh=>hh,λ_ _ _ hh=>hh,trivial⟩⟩
          ·simp only[zb]at c5
           have:=(h.upd kk).2.1
           omega
         ·simp only[zb]at c4
          exact(h.upd kk).1 c4
       ·rw[decide_eq_false_iff_not]at e2
        refine zh (λc4=>?_) (λc4=>zt (no λh=>e2 (h.upd kk).2.2.1.2.1))
        refine Vstep.lookG (q:=qI) (n:=o.frm) (I 0) rfl rfl rfl rfl rfl (zha _) zff (zdp zdv) zhg (λ_ _=>by simp[RV.at_]) ?_
        rw[zdd,cu]
        exact zh (λc5=>zt (no λh=>e2 (h.upd kk).2.2.1.2.1)) (λc5=>zt (no λh=>e2 (h.upd kk).2.2.1.2.1))
      ·rw[decide_eq_false_iff_not]at e1
       refine zh (λc4=>?_) (λc4=>zt (no λh=>e1 (h.upd kk).2.2.1.1))
       refine Vstep.lookG (q:=qI) (n:=o.frm) (I 0) rfl rfl rfl rfl rfl (zha _) zff (zdp zdv) zhg (λ_ _=>by simp[RV.at_]) ?_
       rw[zdd,cu]
       exact zh (λc5=>zt (no λh=>e1 (h.upd kk).2.2.1.1)) (λc5=>zt (no λh=>e1 (h.upd kk).2.2.1.1))
     ·simp only[zb]at k2
      refine zh (λk3=>zq ?_) (λk3=>zt ?_)
      ·simp only[zb]at k3
       have kk:o.prop.kind.toNat=3:=by omega
       refine Vstep.look2 (.ag zlC) rfl rfl rfl zkh zdv zrs zrv (λr hr=>?_) (λhr=>?_)
       ·rw[zd6]at hr
        by_cases hat:o.prop.at_∈zaf t
        ·rw[if_pos hat]at hr
         cases hr
         refine zh (λc4=>?_) (λc4=>zt (no λh=>?_))
         ·refine Vstep.lookG (q:=qI) (n:=o.prop.at_) (I 0) rfl rfl rfl rfl rfl (zha _) zff (zdp zdv) zhg (λ_ _=>by simp[RV.at_]) ?_
          rw[zdd,crx]
          refine zh (λc5=>?_) (λc5=>zt (no λh=>?_))
          ·refine Vstep.lookG (q:=qI) (n:=o.prop.at_) (I 0) rfl rfl rfl rfl rfl (zha _) zff (zdp zdv) zhg (λ_ _=>by simp[RV.at_]) ?_
           rw[zdd,cu]
           refine zh (λc6=>zq ?_) (λc6=>zt (no λh=>?_))
           ·simp only[zb]at c4 c5 c6
            refine zd (m:=((j+1:Nat):Int)) (by omega) (by omega) ?_
            exact⟨j+1,⟨by omega,next ⟨hmem,hpr,λk=>by omega,λk=>by omega,λ_=>⟨hat,c4,by omega,by omega⟩⟩⟩,by omega,zac [(0,0),(1,1)] rfl ⟨cr,cr,cr,cr,rfl,rfl,cr,cr,cr,trivial⟩ ⟨λ_ _ _ hh=>hh,λ_ _ _ hh=>hh,trivial⟩⟩
           ·simp only[zb]at c6
            have:=(h.rem kk).2.2.2
            omega
          ·simp only[zb]at c5
           have:=(h.rem kk).2.2.1
           omega
         ·simp only[zb]at c4
          exact(h.rem kk).2.1 c4
        ·rw[if_neg hat]at hr;cases hr
       ·rw[zd6]at hr
        by_cases hat:o.prop.at_∈zaf t
        ·rw[if_pos hat]at hr;cases hr
        ·exact zt (no λh=>hat (h.rem kk).1)
      ·simp only[zb]at k3
       exact no λh=>by
        have:=h.right
        unfold PropP.right at this
        rw[if_neg (λe=>by rw[e]at k1;exact k1 rfl),if_neg (λe=>by rw[e]at k2;exact k2 rfl),if_neg (λe=>by rw[e]at k3;exact k3 rfl)]at this
        cases this
   ·rw[if_neg hmem]at hr;cases hr
  ·rw[zd6]at hr
   by_cases hmem:o.frm∈zaf t
   ·rw[if_pos hmem]at hr;cases hr
   ·refine za rfl rfl ?_
    refine ze (zop o.prop ho) ?_
    unfold zjj
    cases hpr:o.prop.right with
    |false=>exact zu rfl (zq (no λh=>hmem h.mem))
    |true=>exact zu rfl (zq (no λh=>hmem h.mem))
 ·simp only[zb]at h
  obtain rfl:j=l.length:=by omega
  exact zf (congrArg RV.b (yes λo ho=>by
   obtain⟨i,hi,rfl⟩:=List.getElem_of_mem ho
   exact hall i hi hi).symm)
theorem zqo(l:Leaf):aG 95 [.ag l.c] (.r (.b (zg9 l))):=by
 refine aT Tryz.func95 rfl ?_
 refine za rfl rfl ?_
 refine Vcall.mk' (zk2 l zl) (zk (cr) (zk (Cv.ag (by repeat' (first|exact Cvs.nil|exact zn _|refine zk ?_ ?_|exact cr|exact Cv.nil _))) Cvs.nil)) ?_
 exact cr
theorem z1c(p:PackP):aG 94 [.ag p.c] (.r (.b p.none)):=by
 refine aT Tryz.func94 rfl ?_
 refine zh (λh=>?_) (λh=>?_)
 rotate_left
 ·simp only[zb]at h
  exact zf (congrArg RV.b (by unfold PackP.none;rw[decide_eq_false (show¬p.init.length=0 by omega)];rfl))
 simp only[zb]at h
 refine za rfl rfl ?_
 refine Vcall.bool (zqo p.leaf) (λh4=>?_) (λh4=>?_)
 rotate_left
 ·exact zf (congrArg RV.b (by unfold PackP.none;rw[h4];simp))
 refine Vcmp.mk' (m:=decide (p.sig.length=0)) (by rw[Bool.eq_iff_iff];simp only[zb];omega) ?_
 exact zf (congrArg RV.b (by unfold PackP.none;rw[h4,decide_eq_true (show p.init.length=0 by omega)];rfl))
set_option maxHeartbeats 4000000 in
theorem z7i(p:PropP):aG 53 [.ag p.c] (.r (.b p.right)):=by
 have ca:=z1c p.pack
 have cb:=zqo p.leaf
 have c1:=zon p.pack
 have c2:=zvw p.leaf 2
 have hk:p.kind=1\/p.kind=2\/p.kind=3\/(¬p.kind=1/\¬p.kind=2/\¬p.kind=3):=by
  by_cases a:p.kind=1
  ·exact .inl a
  by_cases b:p.kind=2
  ·exact .inr (.inl b)
  by_cases c:p.kind=3
  ·exact .inr (.inr (.inl c))
  ·exact .inr (.inr (.inr ⟨a,b,c⟩))
 refine aT Tryz.func53 rfl ?_
 obtain⟨kd,pk,lf,at_⟩:=p
 simp only at ca cb c1 c2 hk
 refine aV ?_
 refine za rfl rfl ?_
 rcases hk with rfl |rfl |rfl |⟨n1,n2,n3⟩
 ·cases ha:pk.none<;>rw[ha]at ca<;>cases hb:zg9 lf<;>rw[hb]at cb<;>cases hc:pk.right<;>rw[hc]at c1
  all_goals
   refine ze ca ?_
   refine za rfl rfl ?_
   refine ze cb ?_
   refine zh (λh=>?_) (λh=>?_)
   all_goals
    simp only[zb]at h
    repeat' ((conv=>whnf);first|refine zu rfl ?_|refine zw rfl ?_|refine za rfl rfl ?_|refine ze c1 ?_)
    exact zf (congrArg RV.b (by simp[PropP.right,hb,hc,h]))
 ·cases ha:pk.none<;>rw[ha]at ca<;>cases hb:zg9 lf<;>rw[hb]at cb<;>cases hc:(lf.right&&decide (lf.src=2))<;>rw[hc]at c2
  all_goals
   refine ze ca ?_
   refine za rfl rfl ?_
   refine ze cb ?_
   refine zh (λh=>?_) (λh=>?_)
   all_goals
    simp only[zb]at h
    repeat' ((conv=>whnf);first|refine zu rfl ?_|refine zw rfl ?_|refine za rfl rfl ?_|refine ze c2 ?_)
    exact zf (congrArg RV.b (by unfold PropP.right;dsimp only;rw[if_neg (show¬(2:UInt8)=1 by decide),if_pos rfl,ha,hc];simp[h]))
 ·cases ha:pk.none<;>rw[ha]at ca<;>cases hb:zg9 lf<;>rw[hb]at cb
  all_goals
   refine ze ca ?_
   refine za rfl rfl ?_
   refine ze cb ?_
   refine zh (λh=>?_) (λh=>?_)
   all_goals
    simp only[zb]at h
    repeat' ((conv=>whnf);first|refine zu rfl ?_|refine zw rfl ?_|refine za rfl rfl ?_|refine zh (λh2=>?_) (λh2=>?_))
    all_goals
     refine zf (congrArg RV.b ?_)
     unfold PropP.right
     dsimp only
     rw[if_neg (show¬(3:UInt8)=1 by decide),if_neg (show¬(3:UInt8)=2 by decide),if_pos rfl,ha,hb]
     first
      |rfl
      |(try simp only[zb]at h)
       (try simp only[zb]at h2)
       simp
       try ((try simp only[zb]at*);omega)
      |(try simp only[zb]at h)
       (try simp only[zb]at h2)
       omega
 ·all_goals
   refine ze ca ?_
   refine za rfl rfl ?_
   refine ze cb ?_
   refine zh (λh=>?_) (λh=>?_)
   all_goals
    refine zw (by simp only[zb];exact u8ne n1) ?_
    refine zw (by simp only[zb];exact u8ne n2) ?_
    refine zw (by simp only[zb];exact u8ne n3) ?_
    exact zf (congrArg RV.b (by unfold PropP.right;rw[if_neg n1,if_neg n2,if_neg n3]))
theorem zqa{α:Type}{p:α->Bool}{l:List α}{i:Nat}(hi:i<l.length)(hp:p l[i]=true):l.countP p=1↔∀k (hk:k<l.length),k≠i->p l[k]=false:=by
 have e:l=l.take i++l[i]::l.drop (i+1):=by rw[List.getElem_cons_drop,List.take_append_drop]
 have e2:l.countP p=(l.take i).countP p+((l.drop (i+1)).countP p+1):=by
  conv=>lhs;rw[e]
  rw[List.countP_append,List.countP_cons,if_pos hp]
 rw[e2]
 constructor
 ·intro h k hk hne
  have h1:(l.take i).countP p=0:=by omega
  have h2:(l.drop (i+1)).countP p=0:=by omega
  rw[List.countP_eq_zero]at h1 h2
  rw[Bool.eq_false_iff]
  rcases Nat.lt_or_ge k i with h3 |h3
  ·exact h1 _ (List.mem_take_iff_getElem.2 ⟨k,by omega,rfl⟩)
  ·refine h2 _ (List.mem_drop_iff_getElem.2 ⟨k-(i+1),by omega,?_⟩)
   congr 1
   omega
 ·intro h
  have h1:(l.take i).countP p=0:=by
   rw[List.countP_eq_zero]
   intro x hx
   obtain⟨k,hk,rfl⟩:=List.mem_take_iff_getElem.1 hx
   rw[h k (by omega) (by omega)];decide
  have h2:(l.drop (i+1)).countP p=0:=by
   rw[List.countP_eq_zero]
   intro x hx
   obtain⟨k,hk,rfl⟩:=List.mem_drop_iff_getElem.1 hx
   rw[h _ (by omega) (by omega)];decide
  omega
theorem zx4(l:List OffP)(x:Int):(uL l).count x=l.countP λo=>decide (o.prop.kind.toNat=2)&&decide (o.frm=x):=by
 unfold uL
 rw[List.count_eq_countP,List.countP_map,List.countP_filter]
 refine List.countP_congr λo _=>?_
 simp[Bool.and_comm]
theorem z8l(l:List OffP)(x:Int):(rL l).count x=l.countP λo=>decide (o.prop.kind.toNat=3)&&decide (o.prop.at_=x):=by
 unfold rL
 rw[List.count_eq_countP,List.countP_map,List.countP_filter]
 refine List.countP_congr λo _=>?_
 simp[Bool.and_comm]
def zkl(l:List OffP)(i:Nat)(o:OffP)(k:Nat)(q:OffP):Prop:=
 (k≠i/\o.prop.kind.toNat=2/\q.prop.kind.toNat=2/\q.frm=o.frm)\/(k≠i/\o.prop.kind.toNat=3/\q.prop.kind.toNat=3/\q.prop.at_=o.prop.at_)\/(o.prop.kind.toNat=3/\q.prop.kind.toNat=2/\q.frm=o.prop.at_)
structure LawOk (t:List Node) (by_:Int) (l:List OffP) (group:List UInt8) (i:Nat) (o:OffP):Prop where
 mem:o.frm∈zaf t
 right:o.prop.right=true
 pack:o.prop.kind.toNat=1->zc3 o.prop.pack=true
 upd:o.prop.kind.toNat=2->o.frm≠by_/\(o.prop.leaf.ident=(nT t (2*o.frm).toNat).leaf.ident/\o.prop.leaf.sign=(nT t (2*o.frm).toNat).leaf.sign/\o.prop.leaf.box≠(nT t (2*o.frm).toNat).leaf.box)/\zfb o.prop.leaf group o.frm=true
 rem:o.prop.kind.toNat=3->o.prop.at_∈zaf t/\o.prop.at_≠by_
 conf: ∀k (hk:k<l.length),¬zkl l i o k l[k]
theorem z4s{t:List Node}{b:Int}{l:List OffP}{g:List UInt8}{i:Nat}(hi:i<l.length):OffOk t b l g l[i]↔LawOk t b l g i l[i]:=by
 have cu:l[i].prop.kind.toNat=2->((uL l).count l[i].frm=1↔∀k (hk:k<l.length),k≠i->¬(l[k].prop.kind.toNat=2/\l[k].frm=l[i].frm)):=λh=>by
  rw[zx4,zqa hi (by simp[h])]
  simp
 have crx:l[i].prop.kind.toNat=3->((rL l).count l[i].prop.at_=1↔∀k (hk:k<l.length),k≠i->¬(l[k].prop.kind.toNat=3/\l[k].prop.at_=l[i].prop.at_)):=λh=>by
  rw[z8l,zqa hi (by simp[h])]
  simp
 have cx:(uL l).count l[i].prop.at_=0↔∀k (hk:k<l.length),¬(l[k].prop.kind.toNat=2/\l[k].frm=l[i].prop.at_):=by
  rw[zx4,List.countP_eq_zero]
  constructor
  ·intro h k hk
   have:=h _ (List.getElem_mem hk)
   simpa using this
  ·intro h x hx
   obtain⟨k,hk,rfl⟩:=List.getElem_of_mem hx
   simpa using h k hk
 constructor
 ·rintro⟨h1,h2,h3,h4,h5⟩
  refine⟨h1,h2,h3,λk=>⟨(h4 k).1,(h4 k).2.2⟩,λk=>⟨(h5 k).1,(h5 k).2.1⟩,λk hk=>?_⟩
  rintro(⟨q1,q2,q3,q4⟩ |⟨q1,q2,q3,q4⟩ |⟨q2,q3,q4⟩)
  ·exact(cu q2).1 (h4 q2).2.1 k hk q1 ⟨q3,q4⟩
  ·exact(crx q2).1 (h5 q2).2.2.1 k hk q1 ⟨q3,q4⟩
  ·exact cx.1 (h5 q2).2.2.2 k hk ⟨q3,q4⟩
 ·rintro⟨h1,h2,h3,h4,h5,h6⟩
  refine⟨h1,h2,h3,λq2=>⟨(h4 q2).1,(cu q2).2 λk hk q1 q3=>h6 k hk (.inl ⟨q1,q2,q3.1,q3.2⟩),(h4 q2).2⟩,λq2=>⟨(h5 q2).1,(h5 q2).2,(crx q2).2 λk hk q1 q3=>h6 k hk (.inr (.inl ⟨q1,q2,q3.1,q3.2⟩)),cx.2 λk hk q3=>h6 k hk (.inr (.inr ⟨q2,q3.1,q3.2⟩))⟩⟩
theorem zit{t:List Node}{b:Int}{l:List OffP}{g:List UInt8}:mayT t b l g=true↔∀i (hi:i<l.length),LawOk t b l g i l[i]:=by
 rw[zpg]
 constructor
 ·exactλh i hi=>(z4s hi).1 (h _ (List.getElem_mem hi))
 ·intro h o ho
  obtain⟨i,hi,rfl⟩:=List.getElem_of_mem ho
  exact(z4s hi).2 (h i hi)
abbrev lmB(t:List Node)(b:Int)(l:List OffP)(g:List UInt8)(j:Nat):St:=⟨[(0, .r (nods t)),(1, .r (I b)),(2, .r (offs l)),(3, .r (bs g)),(9, .r (I j))],[],0⟩
abbrev lmC(t:List Node)(b:Int)(l:List OffP)(g:List UInt8)(j:Nat)(o:OffP)(k:Nat):St:=⟨[(0, .r (nods t)),(1, .r (I b)),(2, .r (offs l)),(3, .r (bs g)),(9, .r (I j)),(10, .own 0),(11, .own 1),(13, .r (I k))],[(0,some (.box (o.c.map .r))),(1,some (.box (o.prop.c.map .r)))],2⟩
set_option maxHeartbeats 2000000 in
theorem zdjb(t:List Node)(b:Int)(l:List OffP)(g:List UInt8)(ht:t.length<=1000000)(hl:l.length<=1000)(hs: ∀o∈l,o.prop.sml/\i64 o.frm)(hg:g.length<=1000000):
  aG 23 [nods t,I b,offs l,bs g] (.r (.b (mayT t b l g&&decide (l.length<=64)))):=by
 refine aT Tryz.func23 rfl ?_
 refine Vloop.mk' (lmB t b l g) (λj=>j<=l.length/\∀i (hi:i<l.length),i<j->LawOk t b l g i l[i]) (λj=>l.length-j) 0 ⟨by omega,λi _ h=>by omega⟩
  (zac (S':=lmB t b l g 0) [] rfl ⟨cr,cr,cr,cr,cr,trivial⟩ trivial) ?_
 rintro j ⟨hj,hall⟩
 refine zh (λh=>zq ?_) (λh=>zt ?_)
 ·simp only[zb]at h
  have hj':j<l.length:=by omega
  obtain⟨ho,hof⟩:=hs _ (List.getElem_mem hj')
  have no: ¬LawOk t b l g j l[j]->Cv (.b false) (.b (mayT t b l g&&decide (l.length<=64))):=λh=>zf (congrArg RV.b (by rw[show mayT t b l g=false from Bool.eq_false_iff.2 λh2=>h (zit.1 h2 j hj')];rfl))
  have next:LawOk t b l g j l[j]->∀i (hi:i<l.length),i<j+1->LawOk t b l g i l[i]:=λhk i hi hij=>by
   rcases Nat.lt_or_ge i j with h5 |h5
   ·exact hall i hi h5
   ·obtain rfl:i=j:=by omega
    exact hk
  refine zm (by omega) (by omega) (zco rfl hj') ?_
  generalize l[j]=o at*
  refine za rfl rfl ?_
  refine za rfl rfl ?_
  refine Vcall.bool (zvl t o.frm ht) (λc1=>zw rfl ?_) (λc1=>zu rfl (zq (no λh=>by have:=of_decide_eq_false c1;exact this h.mem)))
  have hmem:=of_decide_eq_true c1
  obtain⟨a,ea,ha1,ha2⟩:=zba.1 hmem
  refine za rfl rfl ?_
  refine Vcall.bool (z7i o.prop) (λc2=>zw rfl (zt ?_)) (λc2=>zu rfl (zq (no λh=>by have:=h.right;rw[c2]at this;cases this)))
  refine zd rfl (by omega) ?_
  refine zm (by omega) (by omega) (zbf (j:=2*a) (by omega) (by omega)) (za rfl rfl ?_)
  have et:(2*o.frm).toNat=2*a:=by omega
  have kinds:o.prop.kind.toNat=1\/o.prop.kind.toNat=2\/o.prop.kind.toNat=3:=by
   by_cases k1:o.prop.kind=1
   ·exact .inl (by rw[k1];rfl)
   ·by_cases k2:o.prop.kind=2
    ·exact .inr (.inl (by rw[k2];rfl))
    ·by_cases k3:o.prop.kind=3
     ·exact .inr (.inr (by rw[k3];rfl))
     ·unfold PropP.right at c2
      rw[if_neg k1,if_neg k2,if_neg k3]at c2
      cases c2
  obtain⟨pre,hpre⟩: ∃pre:Prop,pre=((o.prop.kind.toNat=1->zc3 o.prop.pack=true)/\(o.prop.kind.toNat=2->o.frm≠b/\(o.prop.leaf.ident=(nT t (2*o.frm).toNat).leaf.ident/\o.prop.leaf.sign=(nT t (2*o.frm).toNat).leaf.sign/\o.prop.leaf.box≠(nT t (2*o.frm).toNat).leaf.box)/\zfb o.prop.leaf g o.frm=true)/\(o.prop.kind.toNat=3->o.prop.at_∈zaf t/\o.prop.at_≠b)):=⟨_,rfl⟩
  rcases kinds with kk |kk |kk
  case' inl=>
   refine zu (by simp only[zb];omega) ?_
   refine za rfl rfl ?_
   refine Vcall.bool (z67 o.prop.pack (by have:=ho.init;have:=ho.sig;exact⟨by omega,ho.pl.fit,by omega⟩) (by have:=ho.pl.box;have:=ho.pl.sign;have:=ho.pl.ident;have:=ho.pl.parent;have:=ho.pl.sig;omega)) (λc=>zw rfl (zt ?_)) (λc=>zu rfl (zq (no λh=>by have:=h.pack kk;rw[c]at this;cases this)))
   refine zw (by simp only[zb];omega) (zt (zw (by simp only[zb];omega) (zt ?_)))
   have hp:pre:=by rw[hpre];exact⟨λ_=>c,λk=>by omega,λk=>by omega⟩
  case' inr.inl=>
   refine zw (by simp only[zb];omega) (zt (zu (by simp only[zb];omega) ?_))
   refine zh (λc4=>zq (no λh=>by simp only[zb]at c4;exact(h.upd kk).1 c4)) (λc4=>?_)
   refine za rfl rfl ?_
   refine Vcall.bool (zg4 o.prop.leaf g o.frm ho.leaf.fit (by omega) (by have:=ho.leaf.box;have:=ho.leaf.sign;have:=ho.leaf.ident;have:=ho.leaf.parent;omega) hof) (λc6=>zw rfl ?_) (λc6=>zu rfl (zq (no λh=>by have:=(h.upd kk).2.2;rw[c6]at this;cases this)))
   refine Vcall.bool (zd3 _ _) (λe1=>zw rfl ?_) (λe1=>zu rfl (zq (no λh=>by have:=(h.upd kk).2.1.1;rw[et]at this;exact(of_decide_eq_false e1) this)))
   refine Vcall.bool (zd3 _ _) (λe2=>zw rfl ?_) (λe2=>zu rfl (zq (no λh=>by have:=(h.upd kk).2.1.2.1;rw[et]at this;exact(of_decide_eq_false e2) this)))
   refine Vcall.bool (zd3 _ _) (λe3=>zq (no λh=>by have:=(h.upd kk).2.1.2.2;rw[et]at this;exact this (of_decide_eq_true e3))) (λe3=>zt ?_)
   refine zw (by simp only[zb];omega) (zt ?_)
   have hp:pre:=by rw[hpre];simp only[zb]at c4;rw[et];exact⟨λk=>by omega,λ_=>⟨c4,⟨of_decide_eq_true e1,of_decide_eq_true e2,of_decide_eq_false e3⟩,c6⟩,λk=>by omega⟩
  case' inr.inr=>
   refine zw (by simp only[zb];omega) (zt (zw (by simp only[zb];omega) (zt (zu (by simp only[zb];omega) ?_))))
   refine zh (λc4=>zq (no λh=>by simp only[zb]at c4;exact(h.rem kk).2 c4)) (λc4=>?_)
   refine Vcall.bool (zvl t o.prop.at_ ht) (λc5=>zw rfl (zt ?_)) (λc5=>zu rfl (zq (no λh=>(of_decide_eq_false c5) (h.rem kk).1)))
   have hp:pre:=by rw[hpre];simp only[zb]at c4;exact⟨λk=>by omega,λk=>by omega,λ_=>⟨of_decide_eq_true c5,c4⟩⟩
  all_goals
   rw[hpre]at hp
   refine Vloop.mk' (lmC t b l g j o) (λk=>k<=l.length/\∀i (hi:i<l.length),i<k->¬zkl l j o i l[i]) (λk=>l.length-k) 0 ⟨by omega,λi _ h=>by omega⟩
    (zac (S':=lmC t b l g j o 0) [(0,0),(1,1)] rfl ⟨cr,cr,cr,cr,cr,rfl,rfl,cr,trivial⟩ ⟨zad o.c,zad o.prop.c,trivial⟩) ?_
   rintro k ⟨hk,hin⟩
   refine zh (λh2=>zq ?_) (λh2=>zt ?_)
   ·simp only[zb]at h2
    have hk':k<l.length:=by omega
    have nok:zkl l j o k l[k]->Cv (.b false) (.b (mayT t b l g&&decide (l.length<=64))):=λhc=>no λh=>h.conf k hk' hc
    have ext: ¬zkl l j o k l[k]->∀i (hi:i<l.length),i<k+1->¬zkl l j o i l[i]:=λhc i hi hik=>by
     rcases Nat.lt_or_ge i k with h5 |h5
     ·exact hin i hi h5
     ·obtain rfl:i=k:=by omega
      exact hc
    refine zm (by omega) (by omega) (zco rfl hk') ?_
    generalize l[k]=q at*
    refine za rfl rfl ?_
    clear hall no next hin hp hpre hs
    repeat' refine zh (λ_=>?_) (λ_=>?_)
    all_goals first
     |exact zq (nok (by unfold zkl;simp only[zb]at*;omega))
     |exact zt (zd (m:=((k+1:Nat):Int)) (by omega) (by omega) ⟨k+1,⟨by omega,ext (by unfold zkl;simp only[zb]at*;omega)⟩,by omega,zac [(0,0),(1,1)] rfl ⟨cr,cr,cr,cr,cr,rfl,rfl,cr,trivial⟩ ⟨zad o.c,zad o.prop.c,trivial⟩⟩)
   ·simp only[zb]at h2
    obtain rfl:k=l.length:=by omega
    refine zd (m:=((j+1:Nat):Int)) (by omega) (by omega) ?_
    exact⟨j+1,⟨by omega,next ⟨hmem,c2,hp.1,hp.2.1,hp.2.2,λi hi=>hin i hi hi⟩⟩,by omega,zac [] rfl ⟨cr,cr,cr,cr,cr,trivial⟩ trivial⟩
 ·simp only[zb]at h
  obtain rfl:j=l.length:=by omega
  have e:mayT t b l g=true:=zit.2 λi hi=>hall i hi hi
  rw[e]
  refine Vcmp.mk' (m:=decide (l.length<=64)) ?_ (cr)
  rw[Bool.eq_iff_iff]
  simp only[zb]
  omega
def lvsR(l:List Leaf):RV:= .sl 6 l.length (l.flatMap Leaf.c)
structure DoneP where
 t:List Node
 ls:List Leaf
 at_:List Int
 need:Bool
def DoneP.c(d:DoneP):List RV:=[nods d.t,lvsR d.ls,is d.at_, .b d.need]
theorem z1k(d:DoneP)(h1:d.t.length<=1000000)(h2: ∀x∈d.t,∀u∈x.par.late,i64 u)(h3: ∀x∈d.at_,i64 x)(h4:d.ls.length<=1000000):aG 9 [.ag d.c, .ag d.c] (.r (.b true)):=by
 have g1:=zv5 d.t d.t h1 h1 h2 h2
 have g2:=zvr d.at_ d.at_ h3 h3
 rw[decide_eq_true rfl]at g1 g2
 refine aT Tryz.func9 rfl ?_
 refine ze g1 ?_
 refine zw rfl ?_
 refine zw (by simp) ?_
 refine ze g2 ?_
 refine zw rfl ?_
 refine zw (by cases d.need<;>rfl) (zt ?_)
 refine Vloop.mk' (λj:Nat=>⟨[(2, .own 0),(3, .own 1),(5, .r (I j))],[(0,some (.box (d.c.map .r))),(1,some (.box (d.c.map .r)))],2⟩) (λj=>j<=d.ls.length) (λj=>d.ls.length-j) 0 (by omega)
  (zac [(0,0),(1,1)] rfl ⟨rfl,rfl,cr,trivial⟩ ⟨zad d.c,zad d.c,trivial⟩) ?_
 intro j hj
 refine zh (λh=>zq ?_) (λh=>zt ?_)
 ·simp only[zb]at h
  have hj':j<d.ls.length:=by omega
  have g3:=zk2 d.ls[j] d.ls[j]
  rw[decide_eq_true rfl]at g3
  refine aV ?_
  refine zm (by omega) (by omega) (zgo (f:=Leaf.c) (λ_=>rfl) rfl hj') ?_
  refine za rfl rfl ?_
  refine zm (by omega) (by omega) (zgo (f:=Leaf.c) (λ_=>rfl) rfl hj') ?_
  refine za rfl rfl ?_
  refine ze g3 ?_
  refine zw rfl (zt ?_)
  refine zd (m:=((j+1:Nat):Int)) (by omega) (by omega) ?_
  exact⟨j+1,by omega,by omega,zac [(0,0),(1,1)] rfl ⟨rfl,rfl,cr,trivial⟩ ⟨zad d.c,zad d.c,trivial⟩⟩
 ·exact cr
abbrev dBx(t:List Node)(b:Bool):Ow:= .box [.r (nods t), .own 1, .own 2, .r (.b b)]
abbrev dL(l:List Leaf):Ow:= .ch 31 6 l.length (l.flatMap Leaf.c) false
abbrev dI(l:List Int):Ow:= .ch 3 1 l.length (l.map I) false
abbrev dO(d:DoneP):List (Nat×Ow):=[(0,dBx d.t d.need),(1,dL d.ls),(2,dI d.at_)]
theorem zdx{ρ:List (Nat×Nat)}{S:St}{t:List Node}{b:Bool}{i j:Nat}(h1:zax ρ 1=some i)(h2:zax ρ 2=some j):cvOw ρ S (.box [.r (nods t), .own i, .own j, .r (.b b)]) (dBx t b):=
 ⟨_,_,rfl,cr,_,_,rfl,by simp only[cvTF,h1],_,_,rfl,by simp only[cvTF,h2],_,_,rfl,cr,rfl⟩
theorem z89(d:DoneP):zru (dO d):=⟨zpz,zog,zog,trivial⟩
def updT(t:List Node)(i:Int)(l:Leaf):List Node:=(zcv t i).set (2*i).toNat (L1 l)
theorem za7b(v:Value)(d:DoneP)(o:OffP)(hk:o.prop.kind.toNat=2)(ht:d.t.length<=1000000)(hfit: ∀x∈d.t,x.fit)(hr:rightT d.t=true)(hlf:o.prop.leaf.fit)(hlr:o.prop.leaf.right=true)(hm:o.frm∈zaf d.t):
  Acts aP 19 3 (dO d) [.own 0, .r (.ag o.c)] [(0,v)] 3 (dO {d with t:=updT d.t o.frm o.prop.leaf}) (.r (Er 0)):=by
 refine zb6 (T:=Tab) mixed Tab_ok Tryz.func19 rfl (by kernel_rfl) rfl ⟨⟨_,_,rfl,rfl,zbw,zbw⟩,trivial⟩ ?_
 have g:=z7r d.t o.frm o.prop.leaf ht hfit hlf
 have e:updR d.t o.frm o.prop.leaf= .tu [nods (updT d.t o.frm o.prop.leaf),Er 0]:=by unfold updR;rw[if_neg (by rw[hr];simp),if_neg (by rw[hlr];simp),if_pos hm];rfl
 rw[e]at g
 refine za rfl rfl ?_
 refine zu (by simp only[zb];omega) (zq ?_)
 refine aV ?_
 refine za rfl rfl ?_
 refine ze g ?_
 exact zfc (.inl rfl) [(0,0),(1,1),(2,2)] [(4, .r (Er 0))] [] rfl ⟨cr,⟨rfl,rfl⟩,trivial⟩ ⟨zdx rfl rfl,⟨rfl,rfl,rfl,rfl,zn _⟩,⟨rfl,rfl,rfl,rfl,zn _⟩,trivial⟩ ⟨⟨1000000,rfl⟩,trivial⟩ (cr)
theorem za8b(v:Value)(d:DoneP)(o:OffP)(hk:o.prop.kind.toNat=3)(ht:d.t.length<=1000000)(hfit: ∀x∈d.t,x.fit)(hr:rightT d.t=true)(hm:o.prop.at_∈zaf d.t)(h1:(zaf d.t).length≠1):
  Acts aP 19 3 (dO d) [.own 0, .r (.ag o.c)] [(0,v)] 3 (dO {d with t:=remT d.t o.prop.at_}) (.r (Er 0)):=by
 refine zb6 (T:=Tab) mixed Tab_ok Tryz.func19 rfl (by kernel_rfl) rfl ⟨⟨_,_,rfl,rfl,zbw,zbw⟩,trivial⟩ ?_
 have g:=z7j d.t o.prop.at_ ht hfit
 have e:remR d.t o.prop.at_= .tu [nods (remT d.t o.prop.at_),Er 0]:=by unfold remR;rw[if_neg (by rw[hr];simp),if_pos hm,if_neg h1]
 rw[e]at g
 refine za rfl rfl ?_
 refine zw (by simp only[zb];omega) (zt (zu (by simp only[zb];omega) (zq ?_)))
 refine aV ?_
 refine ze g ?_
 exact zfc (.inl rfl) [(0,0),(1,1),(2,2)] [(4, .r (Er 0))] [] rfl ⟨cr,⟨rfl,rfl⟩,trivial⟩ ⟨zdx rfl rfl,⟨rfl,rfl,rfl,rfl,zn _⟩,⟨rfl,rfl,rfl,rfl,zn _⟩,trivial⟩ ⟨⟨1000000,rfl⟩,trivial⟩ (cr)
def N0(l:Leaf):Node:=⟨0,l,⟨[],[],[]⟩⟩
abbrev n0C(l:Leaf):List RV:=[.i .u8 0,bs l.box,bs l.sign,bs l.ident,U8 l.src,bs l.parent,bs l.sig,nl,nl,nl]
theorem zwt(l:Leaf):Cvs (n0C l) (N0 l).c:=zk (cr) (zk (cr) (zk (cr) (zk (cr) (zk (cr) (zk (cr) (zk (cr) (zk (Cv.nil 1) (zk (Cv.nil 1) (zk (Cv.nil 1) Cvs.nil)))))))))
theorem zbqb{l:Leaf}(hl:l.fit):aG 42 [.ag (N0 l).c] (.r (.ag (N0 l).c)):=znw (N0 l) ⟨hl,by show[].length<=_;simp,by show[].length<=_;simp,by show[].length<=_;simp,λx h=>by cases h⟩ (zcx _ hl)
set_option maxRecDepth 20000 in
theorem za6b(v:Value)(d:DoneP)(o:OffP)(hk:o.prop.kind.toNat=1)(ht:d.t.length<=1000000)(hfit: ∀x∈d.t,x.fit)(hr:rightT d.t=true)(hlf:o.prop.pack.leaf.fit)(hlr:o.prop.pack.leaf.right=true)(hb: ¬(zaw d.t=(zae d.t).toNat/\zae d.t=65536))(h4:d.ls.length<=1000000)(h5:d.at_.length<=1000000):
  Acts aP 19 3 (dO d) [.own 0, .r (.ag o.c)] [(0,v)] 3 (dO {d with t:=addN d.t o.prop.pack.leaf (zaw d.t) (zdc d.t),ls:=d.ls++[o.prop.pack.leaf],at_:=d.at_++[(zaw d.t:Int)]}) (.r (Er 0)):=by
 refine zb6 (T:=Tab) mixed Tab_ok Tryz.func19 rfl (by kernel_rfl) rfl ⟨⟨_,_,rfl,rfl,zbw,zbw⟩,trivial⟩ ?_
 have g:=zdsb d.t o.prop.pack.leaf ht hfit hlf
 have e:addPR d.t o.prop.pack.leaf= .tu [nods (addN d.t o.prop.pack.leaf (zaw d.t) (zdc d.t)),I (zaw d.t),Er 0]:=by unfold addPR;rw[if_neg (by rw[hr];simp),if_neg (by rw[hlr];simp),if_neg hb]
 rw[e]at g
 refine za rfl rfl ?_
 refine zw (by simp only[zb];omega) (zt (zw (by simp only[zb];omega) (zt (zu (by simp only[zb];omega) (zq ?_)))))
 refine Vdraw.code (Vcode.perm mixed Tab_ok [0,1,2,3,4,5,6,7,8,9,10,11,12,13,14,16,15,17] (by kernel_rfl) ?_)
 refine za rfl rfl ?_
 refine ze g ?_
 refine zu rfl (zq ?_)
 refine zy ?_
 refine Vapp.mk' (j:=(d.at_++[(zaw d.t:Int)]).length) (zs:=(d.at_++[(zaw d.t:Int)]).map I) (by show d.at_.length+1<=maxLen;simp only[maxLen];omega) (by show(d.at_.length+1)*8<=_;omega) (by simp) (by simp) ?_
 have gc:=zbqb hlf
 generalize hA:d.at_++[(zaw d.t:Int)]=at2
 generalize hT:addN d.t o.prop.pack.leaf (zaw d.t) (zdc d.t)=t2
 refine Vdraw.code (Vcode.float mixed Tab_ok 13 [⟨0,73, .own 0,[]⟩,⟨1,74, .own 0,[]⟩,⟨2,75, .own 0,[1]⟩,⟨3,76, .adr 0 1,[2]⟩,⟨5,78, .adr 4 1,[]⟩,⟨6,79, .adr 4 2,[5]⟩,⟨7,80, .r (.ag o.prop.pack.leaf.c),[6]⟩,⟨8,81, .r (.ag (n0C o.prop.pack.leaf)),[7]⟩,⟨9,82, .r (.ag (N0 o.prop.pack.leaf).c),[8]⟩,⟨10,83, .r (.ag o.prop.pack.leaf.c),[9]⟩,⟨11,84, .r (.sl 6 1 o.prop.pack.leaf.c),[10]⟩] [(4,[3]),(12,[11])] (by kernel_rfl) (F:=[(0, .own 0),(5, .r (Er 0)),(6, .own 4),(1000000, .nm 0 v)]) (O:=[(0,some (dBx t2 d.need)),(1,some (dL d.ls)),(2,some (dI at2)),(4,some (.box (o.prop.c.map .r)))]) (nx:=5)
  (zac [(0,0),(1,1),(2,6),(4,4)] rfl ⟨rfl,cr,rfl,⟨rfl,rfl⟩,trivial⟩ ⟨zdx rfl rfl,⟨rfl,rfl,rfl,rfl,zn _⟩,⟨rfl,rfl,rfl,rfl,zn _⟩,zad o.prop.c,trivial⟩) ?_)
 refine⟨rfl,⟨λY=>zo _,λY=>zo _,λY=>zo _,λY=>zo _,λY=>zo _,λY=>zo _,λY=>za rfl rfl (zo _),λY=>zo _,λY=>Vcall.mk' gc (zk (Cv.ag (zwt _)) Cvs.nil) (zo _),λY=>Vsem.fieldN (cells:=(N0 o.prop.pack.leaf).c) (cs:=o.prop.pack.leaf.c) Tab_ok rfl rfl rfl rfl rfl rfl rfl (Nat.le_of_ble_eq_true rfl) rfl (zo _),λY=>Or.inr (Yld.read (d:=84) (e:=31) (sz:=6) (n:=1) (cells:=o.prop.pack.leaf.c) Tab_ok (zy rfl)),trivial⟩,(77, .own 1)::[(0, .own 0),(5, .r (Er 0)),(6, .own 4),(1000000, .nm 0 v)],[(0,some (dBx t2 d.need)),(1,some (dL d.ls)),(2,some (dI at2)),(4,some (.box (o.prop.c.map .r)))],5,λY=>zo _,?_⟩
 refine⟨rfl,⟨λY=>zo _,λY=>zo _,λY=>zo _,λY=>zo _,λY=>zo _,λY=>zo _,λY=>za rfl rfl (zo _),λY=>zo _,λY=>Vcall.mk' gc (zk (Cv.ag (zwt _)) Cvs.nil) (zo _),λY=>Vsem.fieldN (cells:=(N0 o.prop.pack.leaf).c) (cs:=o.prop.pack.leaf.c) Tab_ok rfl rfl rfl rfl rfl rfl rfl (Nat.le_of_ble_eq_true rfl) rfl (zo _),λY=>Or.inr (Yld.read (d:=84) (e:=31) (sz:=6) (n:=1) (cells:=o.prop.pack.leaf.c) Tab_ok (zy rfl)),trivial⟩,(85, .own 5)::(77, .own 1)::[(0, .own 0),(5, .r (Er 0)),(6, .own 4),(1000000, .nm 0 v)],(5,some (dL (d.ls++[o.prop.pack.leaf])))::(1,none)::[(0,some (dBx t2 d.need)),(1,some (dL d.ls)),(2,some (dI at2)),(4,some (.box (o.prop.c.map .r)))],6,λY=>by
  refine Vapp.mk' (j:=(d.ls++[o.prop.pack.leaf]).length) (zs:=(d.ls++[o.prop.pack.leaf]).flatMap Leaf.c) (by show d.ls.length+1<=maxLen;simp only[maxLen];omega) (by show(d.ls.length+1)*128<=_;omega) (by simp) (by rw[List.flatMap_append];simp) ?_
  exact zo _,?_⟩
 refine⟨rfl,⟨λY=>zo _,λY=>zo _,λY=>zo _,λY=>zo _,λY=>zo _,λY=>zo _,λY=>za rfl rfl (zo _),λY=>zo _,λY=>Vcall.mk' gc (zk (Cv.ag (zwt _)) Cvs.nil) (zo _),λY=>Vsem.fieldN (cells:=(N0 o.prop.pack.leaf).c) (cs:=o.prop.pack.leaf.c) Tab_ok rfl rfl rfl rfl rfl rfl rfl (Nat.le_of_ble_eq_true rfl) rfl (zo _),λY=>Or.inr (Yld.read (d:=84) (e:=31) (sz:=6) (n:=1) (cells:=o.prop.pack.leaf.c) Tab_ok (zy rfl)),trivial⟩,?_⟩
 exact zfc (.inl rfl) [(0,0),(1,5),(2,2)] [(4, .r (Er 0))] [] rfl ⟨cr,⟨rfl,rfl⟩,trivial⟩ ⟨zdx rfl rfl,⟨rfl,rfl,rfl,rfl,zn _⟩,⟨rfl,rfl,rfl,rfl,zn _⟩,trivial⟩ ⟨⟨1000000,rfl⟩,trivial⟩ (cr)
end Go.Proofs.YtpcfoglfakeimaaGreat.Sx
