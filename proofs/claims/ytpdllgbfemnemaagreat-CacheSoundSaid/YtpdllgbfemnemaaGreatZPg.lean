import Derived.Test.YtpdllgbfemnemaaGreatZNd
import Derived.Test.YtpdllgbfemnemaaGreatZPc
namespace Go.Proofs.YtpdllgbfemnemaaGreat.Sx
open Go.RowKit
set_option linter.unusedVariables false
section
theorem zp9(q:Int->Bool): ∀(l:List Spot) (z:Int),zae (l.filter λy=>q y.at_) z=if q z then zae l z else none
 |[],z=>by simp[zae]
 |y::l,z=>by
  have ih:=zp9 q l z
  by_cases hq:q y.at_=true
  ·rw[List.filter_cons_of_pos (by simpa using hq)]
   by_cases hz:y.at_=z
   ·subst hz;simp[zae,hq]
   ·have e1: ∀m:List Spot,zae (y::m) z=zae m z:=λm=>by simp[zae,hz]
    rw[e1,e1,ih]
  ·rw[List.filter_cons_of_neg (by simpa using hq)]
   by_cases hz:y.at_=z
   ·subst hz;rw[ih];simp[hq]
   ·have e1:zae (y::l) z=zae l z:=by simp[zae,hz]
    rw[ih,e1]
theorem zlh(q:Int->Bool): ∀(l:List Stub) (z:Int),q z=true->(l.filter λy=>q y.at_).find? (λs=>decide (s.at_=z))=l.find? λs=>decide (s.at_=z)
 |[],z,_=>rfl
 |y::l,z,h=>by
  have ih:=zlh q l z h
  by_cases hq:q y.at_=true
  ·rw[List.filter_cons_of_pos (by simpa using hq),List.find?_cons,List.find?_cons,ih]
  ·rw[List.filter_cons_of_neg (by simpa using hq),List.find?_cons,ih]
   have hz:y.at_≠z:=λe=>hq (by rw[e];exact h)
   simp[hz]
theorem zl1(own:Stub)(F:List Stub)(hp:(F.map (·.at_)).Pairwise (· < ·))(hne: ∀y∈F,y.at_≠own.at_):
  ((insL own F).map (·.at_)).Pairwise (· < ·)/\(∀y,y∈insL own F↔y=own\/y∈F)/\(insL own F).length=F.length+1:=by
 unfold insL
 rcases zlv (λy=>decide (own.at_<y.at_)) F 0 with⟨h1,h2⟩ |⟨a,y,b,rfl,h1,h2,h3⟩
 ·have:insR own F=(false,F):=by
   have:=zmr own F [] λy hy=>by have:=h2 y hy;simpa using this
   simpa[insR]using this
  rw[this]
  simp only[Bool.false_eq_true,if_false,List.map_append,List.map_cons,List.map_nil]
  refine⟨?_,λz=>?_,by simp⟩
  ·rw[List.pairwise_append]
   refine⟨hp,by simp,λu hu v hv=>?_⟩
   obtain⟨w,hw,rfl⟩:=List.mem_map.1 hu
   rw[mem1 hv]
   have:=h2 w hw
   have h4:=hne w hw
   simp at this
   omega
  ·rw[List.mem_append,List.mem_singleton];exact Or.comm
 ·have h4:=zwy own y a b (λz hz=>by have:=h3 z hz;simpa using this) (by simpa using h2)
  rw[h4]
  simp only[if_true,List.map_append,List.map_cons]
  rw[List.map_append,List.map_cons,List.pairwise_append,List.pairwise_cons]at hp
  obtain⟨pa,⟨py,pb⟩,pab⟩:=hp
  have hy:own.at_<y.at_:=by simpa using h2
  have ha: ∀u∈a.map (·.at_),u<own.at_:=λu hu=>by
   obtain⟨w,hw,rfl⟩:=List.mem_map.1 hu
   have:=h3 w hw
   have h5:=hne w (by simp[hw])
   simp at this
   omega
  refine⟨?_,λz=>?_,by simp;omega⟩
  ·rw[List.pairwise_append,List.pairwise_cons,List.pairwise_cons]
   refine⟨pa,⟨λv hv=>?_,py,pb⟩,λu hu v hv=>?_⟩
   ·rcases List.mem_cons.1 hv with rfl |hv
    ·exact hy
    ·have:=py v hv;omega
   ·rcases List.mem_cons.1 hv with rfl |hv
    ·exact ha u hu
    ·exact pab u hu v hv
  ·simp only[List.mem_append,List.mem_cons]
   constructor
   ·rintro(h |h |h |h)
    ·exact .inr (.inl h)
    ·exact .inl h
    ·exact .inr (.inr (.inl h))
    ·exact .inr (.inr (.inr h))
   ·rintro(h |h |h |h)
    ·exact .inr (.inl h)
    ·exact .inl h
    ·exact .inr (.inr (.inl h))
    ·exact .inr (.inr (.inr h))
theorem z7s{l:List Stub}(hp:(l.map (·.at_)).Pairwise (· < ·)){x:Stub}(hx:x∈l):l.find? (λs=>decide (s.at_=x.at_))=some x:=by
 obtain⟨y,hy⟩:=Option.isSome_iff_exists.1 (show(l.find? λs=>decide (s.at_=x.at_)).isSome=true by
  rw[List.find?_isSome];exact⟨x,hx,by simp⟩)
 have h1:=List.mem_of_find?_eq_some hy
 have h2:=List.find?_some hy
 simp only[decide_eq_true_eq]at h2
 rw[hy,zhm hp h1 hx h2]
theorem zya{own:Stub}{F:List Stub}(hp:(F.map (·.at_)).Pairwise (· < ·))(hne: ∀y∈F,y.at_≠own.at_)(z:Int)(hz:z≠own.at_):
  (insL own F).find? (λs=>decide (s.at_=z))=F.find? λs=>decide (s.at_=z):=by
 obtain⟨p1,p2,_⟩:=zl1 own F hp hne
 cases hf:F.find? (λs=>decide (s.at_=z))with
 |none=>
  rw[List.find?_eq_none]at hf⊢
  intro y hy
  rcases(p2 y).1 hy with rfl |hy
  ·simpa usingλe=>hz e.symm
  ·exact hf y hy
 |some y=>
  have h1:=List.mem_of_find?_eq_some hf
  have h2:=List.find?_some hf
  simp only[decide_eq_true_eq]at h2
  subst h2
  exact z7s p1 ((p2 y).2 (.inr h1))
instance {h k:Nat}{x:Int}:Decidable (inR h k x):=by unfold inR;infer_instance
theorem z9e{h k:Nat}{x:Int}(hx:inR h k x):inR (h+1) (k/2) x:=by
 rcases Nat.mod_two_eq_zero_or_one k with he |he
 ·exact(zbs (k:=k/2) (by rwa[show 2*(k/2)=k by omega])).1
 ·exact(zbv (k:=k/2) (by rwa[show 2*(k/2)+1=k by omega])).1
theorem zpr{h k:Nat}{x:Int}(hx:inR h k x): ∀e,inR (h+e) (k/2^e) x
 |0=>by simpa using hx
 |e+1=>by
  have:=z9e (zpr hx e)
  rwa[Nat.div_div_eq_div_mul,<-Nat.pow_succ]at this
theorem zakb{h k k':Nat}{x:Int}(h1:inR h k x)(h2:inR h k' x):k=k':=by
 unfold inR at*
 have hp:=zag (h+1)
 generalize 2^(h+1)=q at*
 rcases Nat.lt_trichotomy k k' with hlt |rfl |hgt
 ·have:=Nat.mul_le_mul_right q (show k+1<=k' from hlt)
  rw[Nat.add_mul,Nat.one_mul]at this
  omega
 ·rfl
 ·have:=Nat.mul_le_mul_right q (show k'+1<=k from hgt)
  rw[Nat.add_mul,Nat.one_mul]at this
  omega
theorem ztd(k:Nat):sibN k/2=k/2/\sibN k≠k:=by
 unfold sibN
 split<;>omega
theorem zkf{o i j:Nat}{x:Int}(h1:inR i (sibN (o/2^i)) x)(h2:inR j (sibN (o/2^j)) x):i=j:=by
 have key: ∀{i j:Nat},i<j->inR i (sibN (o/2^i)) x->inR j (sibN (o/2^j)) x->False:=λ{i j} hij h1 h2=>by
  have h3:=zpr (z9e h1) (j-i-1)
  rw[(ztd _).1,<-zlm,Nat.div_div_eq_div_mul,<-Nat.pow_add,show i+1+(j-i-1)=j by omega]at h3
  exact(ztd (o/2^j)).2 (zakb h2 h3)
 rcases Nat.lt_trichotomy i j with h |h |h
 ·exact(key h h1 h2).elim
 ·exact h
 ·exact(key h h2 h1).elim
theorem zn1{o i j:Nat}(h1:inR i (sibN (o/2^i)) (nd j (o/2^j))):False:=by
 obtain⟨h2,h3⟩:=zgg.1 h1
 rw[Nat.div_div_eq_div_mul,<-Nat.pow_add,show j+(i-j)=i by omega]at h3
 exact(ztd (o/2^i)).2 h3.symm
theorem zlk{d:Nat}(hd:d<=16){x:Int}(h:inR d 0 x):za1 x=true:=by
 have:=Nat.pow_le_pow_right (n:=2) (by omega) (show d+1<=17 by omega)
 unfold inR at h
 rw[zdl]
 simp only[Nat.zero_mul,Nat.zero_add]at h
 omega
theorem zqt{O O':List Spot}: ∀(h k:Nat) (w:Bool) (l:List Int),h<=16->k<2^(16-h)->(∀z,inR h k z->zae O z=zae O' z)->shP O h k w l=shP O' h k w l
 |0,_,_,_,_,_,_=>rfl
 |h+1,k,w,l,hh,hk,hz=>by
  have hk2:=zqr hh hk
  have kid: ∀all late j,j<2^(16-h)->(∀z,inR h j z->zae O z=zae O' z)->kidS (λj w l=>shP O h j w l) h all late j=kidS (λj w l=>shP O' h j w l) h all late j:=λall late j hj hzj=>by
   unfold kidS
   split
   ·exact zqt h j true [] (by omega) hj hzj
   ·split
    ·exact zqt h j false late (by omega) hj hzj
    ·rfl
  unfold shP
  rw[hz _ (za9 _ _)]
  cases zae O' (nd (h+1) k)with
  |none=>rfl
  |some n=>
   simp only
   rw[kid _ _ (2*k) (by omega) λz h1=>hz z (zbs h1).1,kid _ _ (2*k+1) hk2 λz h1=>hz z (zbv h1).1]
structure RightIs (s:Lean_) (d o:Nat):Prop where
 look:s.lookOk=true
 leaf:ze6 s=true
 po:(s.opn.map (·.at_)).Pairwise (· < ·)
 ps:(s.shut.map (·.at_)).Pairwise (· < ·)
 ea:(topS s.opn o d).1=s.opn.map (·.at_)
 eb:(topS s.opn o d).2=s.shut.map (·.at_)
 okA: ∀z∈(topS s.opn o d).1,okO s.opn z=true
 okB: ∀z∈(topS s.opn o d).2,zcn s.shut z=true
 sh:Sh s.opn d 0 (topS s.opn o d).1 (topS s.opn o d).2
theorem zsx{s:Lean_}{d o:Nat}(hd:d<=16)(ho:o<2^d)(hn:s.leaves=((2^d:Nat):Int))(he:s.own=(o:Int)):zbf s=true↔RightIs s d o:=by
 have sh:=zdz s.opn hd ho d (Nat.le_refl _)
 have h0:o/2^d=0:=Nat.div_eq_of_lt ho
 rw[h0]at sh
 rw[zkq s hd ho hn he]
 constructor
 ·rintro⟨hl,hk,hA,hB,hc⟩
  have hl':=hl
  simp only[Lean_.lookOk,Bool.and_eq_true,zgd]at hl'
  obtain⟨⟨po,no⟩,ps,ns⟩:=hl'
  obtain⟨la,ea⟩:=zft sh.pa po λz hz=>zc9.1 (zh9 (hA z hz))
  obtain⟨lb,eb⟩:=zft sh.pb ps λz hz=>zl8.1 (by
   have:=hB z hz
   unfold zcn at this
   split at this
   ·rename_i h hh;simp[hh]
   ·cases this)
  rw[List.length_map]at la ea lb eb
  exact⟨hl,hk,po,ps,ea (by omega),eb (by omega),hA,hB,sh⟩
 ·intro r
  exact⟨r.look,r.leaf,r.okA,r.okB,by rw[r.ea,r.eb,List.length_map,List.length_map]⟩
section
variable {s:Lean_} {d o i:Nat} {h0:List UInt8}
theorem zma(hd:d<=16)(ho:o<2^d)(hi:i<d)(z:Int)(hz:za1 z=true):
  zae (zbm s (nd i (sibN (o/2^i))) h0).opn z=if inR i (sibN (o/2^i)) z then none else zae s.opn z:=by
 have hk:sibN (o/2^i)<2^(d-i):=zcv ho hi
 have:=zp9 (λy=> !zal y (nd i (sibN (o/2^i)))) s.opn z
 unfold zbm
 simp only
 rw[this]
 have hu:=zfr hd (by omega) hk hz
 by_cases h:inR i (sibN (o/2^i)) z
 ·rw[if_pos h,hu.2 h];simp
 ·have:zal z (nd i (sibN (o/2^i)))=false:=by
   cases hh:zal z (nd i (sibN (o/2^i)))with
   |false=>rfl
   |true=>exact absurd (hu.1 hh) h
  rw[if_neg h,this];simp
theorem z99(hd:d<=16)(ho:o<2^d){j:Nat}(hj:j<d){z:Int}(h:inR j (sibN (o/2^j)) z):za1 z=true:=by
 have h1:=zpr h (d-j)
 rw[show j+(d-j)=d by omega]at h1
 have hs:=zcv ho hj
 have:sibN (o/2^j)/2^(d-j)=0:=Nat.div_eq_of_lt hs
 rw[this]at h1
 exact zlk hd h1
theorem zbeb(hd:d<=16)(ho:o<2^d)(hi:i<d){j:Nat}(hj:j<d):kidT (zbm s (nd i (sibN (o/2^i))) h0).opn o j=if j=i then([],[(nd i (sibN (o/2^i)):Int)])else kidT s.opn o j:=by
 have hl:=λz hz=>zma (s:=s) (h0:=h0) hd ho hi z hz
 have hs:=zcv ho hj
 by_cases hji:j=i
 ·subst hji
  rw[if_pos rfl]
  unfold kidT
  rw[if_neg]
  rw[found,hl _ (zcg hd (by omega) hs),if_pos (za9 _ _)]
  simp
 ·rw[if_neg hji]
  have hno: ∀z,inR j (sibN (o/2^j)) z->zae (zbm s (nd i (sibN (o/2^i))) h0).opn z=zae s.opn z:=λz hz=>by
   rw[hl z (z99 hd ho hj hz),if_neg λh=>hji (zkf hz h)]
  unfold kidT found
  rw[hno _ (za9 _ _),zqt j _ true [] (by omega) (lt16 hd hs) hno]
theorem zadb(hd:d<=16)(ho:o<2^d)(hi:i<d)(z:Int):
  (z∈(topS (zbm s (nd i (sibN (o/2^i))) h0).opn o d).1↔z∈(topS s.opn o d).1/\¬inR i (sibN (o/2^i)) z)/\
  (z∈(topS (zbm s (nd i (sibN (o/2^i))) h0).opn o d).2↔z=(nd i (sibN (o/2^i)):Int)\/(z∈(topS s.opn o d).2/\¬inR i (sibN (o/2^i)) z)):=by
 obtain⟨a1,a2⟩:=zcs (zbm s (nd i (sibN (o/2^i))) h0).opn o d z
 obtain⟨b1,b2⟩:=zcs s.opn o d z
 rw[a1,a2,b1,b2]
 have hk:=λ{j:Nat} (hj:j<d)=>zbeb (s:=s) (h0:=h0) hd ho hi hj
 constructor
 ·constructor
  ·rintro(⟨j,hj,rfl⟩ |⟨j,hj,hz⟩)
   ·exact⟨.inl ⟨j,hj,rfl⟩,zn1⟩
   ·rw[hk hj]at hz
    split at hz
    ·simp at hz
    ·rename_i hji
     exact⟨.inr ⟨j,hj,hz⟩,λh=>hji (zkf ((zns s.opn hd ho hj).ra z hz) h)⟩
  ·rintro⟨⟨j,hj,rfl⟩ |⟨j,hj,hz⟩,hno⟩
   ·exact .inl ⟨j,hj,rfl⟩
   ·refine .inr ⟨j,hj,?_⟩
    rw[hk hj,if_neg]
    ·exact hz
    ·rintro rfl
     exact hno ((zns s.opn hd ho hj).ra z hz)
 ·constructor
  ·rintro⟨j,hj,hz⟩
   rw[hk hj]at hz
   split at hz
   ·exact .inl (mem1 hz)
   ·rename_i hji
    exact .inr ⟨⟨j,hj,hz⟩,λh=>hji (zkf ((zns s.opn hd ho hj).rb z hz) h)⟩
  ·rintro(rfl |⟨⟨j,hj,hz⟩,hno⟩)
   ·exact⟨i,hi,by rw[hk hi,if_pos rfl];simp⟩
   ·refine⟨j,hj,?_⟩
    rw[hk hj,if_neg]
    ·exact hz
    ·rintro rfl
     exact hno ((zns s.opn hd ho hj).rb z hz)
theorem z3d(hd:d<=16)(ho:o<2^d)(hn:s.leaves=((2^d:Nat):Int))(he:s.own=(o:Int))(hi:i<d)(hf:found s.opn (nd i (sibN (o/2^i)))=true)(hh:h0.length=32)(r:RightIs s d o):
  RightIs (zbm s (nd i (sibN (o/2^i))) h0) d o/\((zbm s (nd i (sibN (o/2^i))) h0).shut.map (·.at_)).Pairwise (· < ·)/\(s.shut.filter λy=> !zal y.at_ (nd i (sibN (o/2^i)))).length+1=(zbm s (nd i (sibN (o/2^i))) h0).shut.length:=by
 have hk:sibN (o/2^i)<2^(d-i):=zcv ho hi
 obtain⟨x,hx⟩: ∃x:Int,x=(nd i (sibN (o/2^i)):Int):=⟨_,rfl⟩
 have hxn:za1 x=true:=by rw[hx];exact zcg hd (by omega) hk
 have hxr:inR i (sibN (o/2^i)) x:=by rw[hx];exact za9 _ _
 have hmem:=λz=>zadb (s:=s) (h0:=h0) hd ho hi z
 have hlk:=λz hz=>zma (s:=s) (h0:=h0) hd ho hi z hz
 have hund: ∀z,za1 z=true->(zal z x=true↔inR i (sibN (o/2^i)) z):=λz hz=>by rw[hx];exact zfr hd (by omega) hk hz
 rw[<-hx]at hmem hlk⊢
 obtain⟨T,hT⟩: ∃T,T=zbm s x h0:=⟨_,rfl⟩
 have hTo:T.opn=s.opn.filter λy=> !zal y.at_ x:=by rw[hT];rfl
 obtain⟨F,hF⟩: ∃F,F=s.shut.filter λy=> !zal y.at_ x:=⟨_,rfl⟩
 have hTs:T.shut=insL ⟨x,h0⟩ F:=by rw[hT,hF];rfl
 rw[<-hT]at hmem hlk⊢
 rw[<-hF]
 have nodeA: ∀z∈(topS s.opn o d).1,za1 z=true:=λz hz=>zlk hd (r.sh.ra z hz)
 have zaq: ∀z∈(topS s.opn o d).2,za1 z=true:=λz hz=>zlk hd (r.sh.rb z hz)
 have pF:(F.map (·.at_)).Pairwise (· < ·):=by
  rw[hF]
  exact r.ps.sublist (List.filter_sublist.map _)
 have hFm: ∀z,z∈F.map (·.at_)↔z∈(topS s.opn o d).2/\¬inR i (sibN (o/2^i)) z:=λz=>by
  rw[hF,r.eb,List.mem_map]
  constructor
  ·rintro⟨y,hy,rfl⟩
   obtain⟨h1,h2⟩:=List.mem_filter.1 hy
   have hyB:y.at_∈s.shut.map (·.at_):=List.mem_map_of_mem h1
   refine⟨hyB,λh=>?_⟩
   rw[(hund _ (zaq _ (by rw[r.eb];exact hyB))).2 h]at h2
   cases h2
  ·rintro⟨h1,h2⟩
   obtain⟨y,hy,rfl⟩:=List.mem_map.1 h1
   refine⟨y,List.mem_filter.2 ⟨hy,?_⟩,rfl⟩
   cases hu:zal y.at_ x with
   |false=>rfl
   |true=>exact absurd ((hund _ (zaq _ (by rw[r.eb];exact h1))).1 hu) h2
 have hne: ∀y∈F,y.at_≠x:=λy hy e=>((hFm y.at_).1 (List.mem_map_of_mem hy)).2 (by rw[e];exact hxr)
 obtain⟨p1,p2,p3⟩:=zl1 ⟨x,h0⟩ F pF hne
 rw[<-hTs]at p1 p2 p3
 have pT:(T.opn.map (·.at_)).Pairwise (· < ·):=by
  rw[hTo]
  exact r.po.sublist (List.filter_sublist.map _)
 have hTm: ∀z,z∈T.opn.map (·.at_)↔z∈(topS s.opn o d).1/\¬inR i (sibN (o/2^i)) z:=λz=>by
  rw[hTo,r.ea,List.mem_map]
  constructor
  ·rintro⟨y,hy,rfl⟩
   obtain⟨h1,h2⟩:=List.mem_filter.1 hy
   have hyB:y.at_∈s.opn.map (·.at_):=List.mem_map_of_mem h1
   refine⟨hyB,λh=>?_⟩
   rw[(hund _ (nodeA _ (by rw[r.ea];exact hyB))).2 h]at h2
   cases h2
  ·rintro⟨h1,h2⟩
   obtain⟨y,hy,rfl⟩:=List.mem_map.1 h1
   refine⟨y,List.mem_filter.2 ⟨hy,?_⟩,rfl⟩
   cases hu:zal y.at_ x with
   |false=>rfl
   |true=>exact absurd ((hund _ (nodeA _ (by rw[r.ea];exact h1))).1 hu) h2
 have shT:=zdz T.opn hd ho d (Nat.le_refl _)
 have hd0:o/2^d=0:=Nat.div_eq_of_lt ho
 rw[hd0]at shT
 have ea:(topS T.opn o d).1=T.opn.map (·.at_):=zeb shT.pa pT λz=>by rw[(hmem z).1,hTm]
 have eb:(topS T.opn o d).2=T.shut.map (·.at_):=zeb shT.pb p1 λz=>by
  rw[(hmem z).2,List.mem_map]
  constructor
  ·rintro(hzx |h)
   ·exact⟨⟨x,h0⟩,(p2 _).2 (.inl rfl),hzx.symm⟩
   ·obtain⟨y,hy,rfl⟩:=List.mem_map.1 ((hFm z).2 h)
    exact⟨y,(p2 y).2 (.inr hy),rfl⟩
  ·rintro⟨y,hy,rfl⟩
   rcases(p2 y).1 hy with rfl |hy
   ·exact .inl rfl
   ·exact .inr ((hFm _).1 (List.mem_map_of_mem hy))
 refine⟨⟨?_,?_,pT,p1,ea,eb,λz hz=>?_,λz hz=>?_,shT⟩,p1,p3.symm⟩
 ·simp only[Lean_.lookOk,Bool.and_eq_true,zgd]
  refine⟨⟨pT,λz hz=>?_⟩,p1,λz hz=>?_⟩
  ·rw[<-ea]at hz;have:=ziz (shT.ra z hz);omega
  ·rw[<-eb]at hz;have:=ziz (shT.rb z hz);omega
 ·have hl:=r.leaf
  unfold ze6 at hl⊢
  have e2:T.own=s.own:=by rw[hT];rfl
  have e3:2*s.own=(nd 0 (o/2^0):Int):=by rw[he,Nat.pow_zero,Nat.div_one,zd1];omega
  rw[e2,hlk _ (by rw[e3];exact zcg hd (by omega) (by simpa using ho)),if_neg (by rw[e3];exact zn1)]
  exact hl
 ·obtain⟨h1,h2⟩:=(hmem z).1.1 hz
  have:=r.okA z h1
  unfold okO at this⊢
  rw[hlk z (nodeA z h1),if_neg h2]
  exact this
 ·rcases(hmem z).2.1 hz with hzx |⟨h1,h2⟩
  ·have:zcc T.shut x=some h0:=zfp p1 ((p2 ⟨x,h0⟩).2 (.inl rfl))
   unfold zcn
   rw[hzx,this]
   simpa using hh
  ·have:=r.okB z h1
   have hzx:z≠x:=λe=>h2 (by rw[e];exact hxr)
   have e1:zcc T.shut z=zcc s.shut z:=by
    unfold zcc
    rw[hTs,zya pF hne z hzx,hF,zlh (λy=> !zal y x) s.shut z (by
     cases hu:zal z x with
     |false=>rfl
     |true=>exact absurd ((hund z (zaq z h1)).1 hu) h2)]
   unfold zcn at this⊢
   rw[e1]
   exact this
theorem z9b(hd:d<=16)(ho:o<2^d)(hn:s.leaves=((2^d:Nat):Int))(he:s.own=(o:Int))(hi:i<d)(hf:found s.opn (nd i (sibN (o/2^i)))=true)(hh:h0.length=32)(r:RightIs s d o)
  (hq:h0=zaj s i (sibN (o/2^i))): ∀h k,h<=d->k<2^(d-h)->(inR i (sibN (o/2^i)) (nd h k)->(nd h k:Int)=(nd i (sibN (o/2^i)):Int))->zaj (zbm s (nd i (sibN (o/2^i))) h0) h k=zaj s h k:=by
 obtain⟨rT,p1,p3⟩:=z3d hd ho hn he hi hf hh r
 have hk:sibN (o/2^i)<2^(d-i):=zcv ho hi
 have hlk:=λz hz=>zma (s:=s) (h0:=h0) hd ho hi z hz
 have hund: ∀z,za1 z=true->(zal z (nd i (sibN (o/2^i)))=true↔inR i (sibN (o/2^i)) z):=λz hz=>zfr hd (by omega) hk hz
 have zaq: ∀z∈(topS s.opn o d).2,za1 z=true:=λz hz=>zlk hd (r.sh.rb z hz)
 have pF:((s.shut.filter λy=> !zal y.at_ (nd i (sibN (o/2^i)))).map (·.at_)).Pairwise (· < ·):=r.ps.sublist (List.filter_sublist.map _)
 have hne: ∀y∈s.shut.filter (λy=> !zal y.at_ (nd i (sibN (o/2^i)))),y.at_≠(nd i (sibN (o/2^i)):Int):=λy hy e=>by
  have h2:=(List.mem_filter.1 hy).2
  rw[e,(hund _ (zcg hd (by omega) hk)).2 (za9 _ _)]at h2
  cases h2
 obtain⟨_,p2,_⟩:=zl1 ⟨(nd i (sibN (o/2^i)):Int),h0⟩ _ pF hne
 have stub_self:zbe (zbm s (nd i (sibN (o/2^i))) h0).shut (nd i (sibN (o/2^i)))=h0:=by
  have:zcc (zbm s (nd i (sibN (o/2^i))) h0).shut (nd i (sibN (o/2^i)))=some h0:=zfp p1 ((p2 ⟨(nd i (sibN (o/2^i)):Int),h0⟩).2 (.inl rfl))
  exact(zc0 this).1
 have stub_else: ∀z:Int,za1 z=true->¬inR i (sibN (o/2^i)) z->zbe (zbm s (nd i (sibN (o/2^i))) h0).shut z=zbe s.shut z:=λz hz hno=>by
  have hzx:z≠(nd i (sibN (o/2^i)):Int):=λe=>hno (by rw[e];exact za9 _ _)
  have e1:(zbm s (nd i (sibN (o/2^i))) h0).shut.find? (λt=>decide (t.at_=z))=s.shut.find? λt=>decide (t.at_=z):=by
   show(insL _ _).find? _=_
   rw[zya pF hne z hzx,zlh (λy=> !zal y (nd i (sibN (o/2^i)))) s.shut z (by
    cases hu:zal z (nd i (sibN (o/2^i)))with
    |false=>rfl
    |true=>exact absurd ((hund z hz).1 hu) hno)]
  unfold zbe
  rw[e1]
 have at_x: ∀h k,h<=d->(nd h k:Int)=(nd i (sibN (o/2^i)):Int)->zaj (zbm s (nd i (sibN (o/2^i))) h0) h k=zaj s h k:=λh k hhd e=>by
  obtain⟨rfl,rfl⟩:=zfk (by omega) (by omega) (Int.ofNat.inj e)
  have hnone:zae (zbm s (nd h (sibN (o/2^h))) h0).opn (nd h (sibN (o/2^h)))=none:=by
   rw[hlk _ (zcg hd (by omega) hk),if_pos (za9 _ _)]
  rw[<-hq]
  cases h with
  |zero=>simp only[zaj,hnone];exact stub_self
  |succ h=>simp only[zaj,hnone];exact stub_self
 intro h
 induction h with
 |zero=>
  intro k hhd hkk hz
  by_cases hin:inR i (sibN (o/2^i)) (nd 0 k)
  ·exact at_x 0 k hhd (hz hin)
  ·have hnn:=zcg hd hhd hkk
   have e1:=hlk _ hnn
   rw[if_neg hin]at e1
   simp only[zaj,e1]
   cases zae s.opn (nd 0 k)with
   |none=>exact stub_else _ hnn hin
   |some n=>rfl
 |succ h ih=>
  intro k hhd hkk hz
  by_cases hin:inR i (sibN (o/2^i)) (nd (h+1) k)
  ·exact at_x (h+1) k hhd (hz hin)
  ·have hnn:=zcg hd hhd hkk
   have hk2:2^(d-h)=2*2^(d-(h+1)):=by rw[show d-h=(d-(h+1))+1 by omega,Nat.pow_succ];omega
   have e1:=hlk _ hnn
   rw[if_neg hin]at e1
   have kid: ∀j,j/2=k->inR i (sibN (o/2^i)) (nd h j)->(nd h j:Int)=(nd i (sibN (o/2^i)):Int):=λj hj hr=>by
    obtain⟨h1,h2⟩:=zgg.1 hr
    rcases Nat.eq_or_lt_of_le h1 with rfl |hlt
    ·rw[Nat.sub_self,Nat.pow_zero,Nat.div_one]at h2
     rw[h2]
    ·exfalso
     refine hin (zgg.2 ⟨hlt,?_⟩)
     rw[<-hj,Nat.div_div_eq_div_mul,<-h2,show i-h=(i-(h+1))+1 by omega,Nat.pow_succ,Nat.mul_comm]
   have a1:=ih (2*k) (by omega) (by omega) (kid _ (by omega))
   have a2:=ih (2*k+1) (by omega) (by omega) (kid _ (by omega))
   simp only[zaj,e1,a1,a2]
   cases zae s.opn (nd (h+1) k)with
   |none=>exact stub_else _ hnn hin
   |some n=>rfl
theorem zvy(hd:d<=16)(ho:o<2^d)(hn:s.leaves=((2^d:Nat):Int))(he:s.own=(o:Int))(hi:i<d)(hf:found s.opn (nd i (sibN (o/2^i)))=true)(hh:h0.length=32)(r:RightIs s d o)
  (hq:h0=zaj s i (sibN (o/2^i))):zaj (zbm s (nd i (sibN (o/2^i))) h0) d 0=zaj s d 0:=
 z9b hd ho hn he hi hf hh r hq d 0 (Nat.le_refl _) (zag _) λh=>absurd (zgg.1 h).1 (by omega)
end
end
section
def strI(l:Int):Int×Int:=if l%2=0 then(0,2^((l-1)/2).toNat)else(2^((l-1)/2).toNat,0)
theorem znf{l:Int}(h:1<=l/\l<=16):0<=(strI l).1/\(strI l).1<=128/\0<=(strI l).2/\(strI l).2<=128:=by
 have:l=1\/l=2\/l=3\/l=4\/l=5\/l=6\/l=7\/l=8\/l=9\/l=10\/l=11\/l=12\/l=13\/l=14\/l=15\/l=16:=by omega
 rcases this with rfl |rfl |rfl |rfl |rfl |rfl |rfl |rfl |rfl |rfl |rfl |rfl |rfl |rfl |rfl |rfl<;>decide
def dX(x p:Int):Int:=if x<p then-(strI (lvI p)).1 else(strI (lvI p)).1
def dY(x p:Int):Int:=if x<p then-(strI (lvI p)).2 else(strI (lvI p)).2
theorem z6y{x p:Int}(h:1<=lvI p/\lvI p<=16): -128<=dX x p/\dX x p<=128:=by
 have:=znf h;unfold dX;split<;>omega
theorem z4u{x p:Int}(h:1<=lvI p/\lvI p<=16): -128<=dY x p/\dY x p<=128:=by
 have:=znf h;unfold dY;split<;>omega
theorem zi1{f:Int->Int}: ∀{l:List Int},(∀x∈l, -128<=f x/\f x<=128)-> -(128*(l.length:Int))<=sumI f l/\sumI f l<=128*(l.length:Int)
 |[],_=>by simp[sumI]
 |x::l,h=>by
  have h1:=h x (by simp)
  have h2:=zi1 (l:=l) λy hy=>h y (by simp[hy])
  simp only[sumI,List.length_cons]
  omega
theorem zlp{f:Int->Int}: ∀(l:List Int),sumI f l.reverse=sumI f l
 |[]=>rfl
 |x::l=>by rw[List.reverse_cons,zjx,zlp l];simp only[sumI];omega
theorem zmj{f:Int->Int}{l:List Int}{j:Nat}(hj:j<l.length):sumI f (l.take (j+1))=sumI f (l.take j)+f l[j]:=by
 rw[List.take_add_one,List.getElem?_eq_getElem hj,zjx]
 simp[sumI]
def posX(x n:Int):Int:=sumI (dX x) (za4 x n)
def posY(x n:Int):Int:=sumI (dY x) (za4 x n)
theorem z6u{d h k:Nat}(hd:d<=16)(hh:h<=d)(hk:k<2^(d-h)): ∀p∈za4 (nd h k:Int) ((2^d:Nat):Int),1<=lvI p/\lvI p<=16:=by
 rw[zi2 hd hh hk,zj4,List.range_succ_eq_map,List.map_cons,List.tail_cons,List.map_map,List.map_map]
 intro p hp
 obtain⟨i,hi,rfl⟩:=List.mem_map.1 hp
 rw[List.mem_range]at hi
 have hki:k/2^(i+1)<2^(d-(h+(i+1))):=by
  rw[Nat.div_lt_iff_lt_mul (zag (i+1)),<-Nat.pow_add,show d-(h+(i+1))+(i+1)=d-h by omega]
  exact hk
 have:=zkb hd (show h+(i+1)<=d by omega) hki
 show 1<=lvI (nd (h+(i+1)) (k/2^(i+1)):Int)/\lvI (nd (h+(i+1)) (k/2^(i+1)):Int)<=16
 rw[this]
 omega
theorem zjp{x n:Int}(h:ofI x n=true): ∀p∈za4 x n,1<=lvI p/\lvI p<=16:=by
 obtain⟨d,h,k,hd,rfl,hh,hk,rfl⟩:=zex h
 exact z6u hd hh hk
theorem znv{x n:Int}(h:ofI x n=true):(-2048<=posX x n/\posX x n<=2048)/\(-2048<=posY x n/\posY x n<=2048):=by
 have hl:=zjp h
 have hlen:(za4 x n).length<=16:=by
  obtain⟨d,h,k,hd,rfl,hh,hk,rfl⟩:=zex h
  rw[zi2 hd hh hk,List.length_map,List.length_tail,zfj];omega
 have h1:=zi1 (f:=dX x) (l:=za4 x n) λp hp=>z6y (hl p hp)
 have h2:=zi1 (f:=dY x) (l:=za4 x n) λp hp=>z4u (hl p hp)
 unfold posX posY
 omega
theorem zcyb{x n:Int}(h:ofI x n=true)(j:Nat):(-2048<=sumI (dX x) ((za4 x n).take j)/\sumI (dX x) ((za4 x n).take j)<=2048)/\(-2048<=sumI (dY x) ((za4 x n).take j)/\sumI (dY x) ((za4 x n).take j)<=2048):=by
 have hl:=zjp h
 have hlen:(za4 x n).length<=16:=by
  obtain⟨d,h,k,hd,rfl,hh,hk,rfl⟩:=zex h
  rw[zi2 hd hh hk,List.length_map,List.length_tail,zfj];omega
 have ht:((za4 x n).take j).length<=16:=by rw[List.length_take];omega
 have h1:=zi1 (f:=dX x) (l:=(za4 x n).take j) λp hp=>z6y (hl p (List.mem_of_mem_take hp))
 have h2:=zi1 (f:=dY x) (l:=(za4 x n).take j) λp hp=>z4u (hl p (List.mem_of_mem_take hp))
 omega
def topD(x n:Int):List Int:=(zbx x n).dropLast.map (·.at_)
theorem zqm(x n:Int):topD x n=(za4 x n).reverse:=by
 have:=zx3 x n
 rw[<-this,<-List.map_reverse,List.reverse_reverse]
 rfl
theorem z76{d h k:Nat}(hd:d<=16)(hh:h<=d)(hk:k<2^(d-h)):(zbx (nd h k:Int) ((2^d:Nat):Int)).length=d-h+1/\∀i,i<=d-h->(zbx (nd h k:Int) ((2^d:Nat):Int))[i]?=some (trip (d-i) (k/2^(d-h-i))):=by
 rw[zjd hd hh hk]
 refine⟨by rw[List.length_reverse,zfj],λi hi=>?_⟩
 rw[List.getElem?_reverse (by rw[zfj];omega),zfj,zj4]
 rw[List.getElem?_map,List.getElem?_range (by omega),Option.map_some]
 rw[show d-h+1-1-i=d-h-i by omega,show h+(d-h-i)=d-i by omega]
theorem z9r{d h k i:Nat}(hi:i<d-h):((nd (d-(i+1)) (k/2^(d-h-(i+1))):Int)< (nd (d-i) (k/2^(d-h-i)):Int))↔(nd h k:Int)< (nd (d-i) (k/2^(d-h-i)):Int):=by
 obtain⟨g,hg⟩: ∃g,g=d-(i+1):=⟨_,rfl⟩
 obtain⟨q,hq⟩: ∃q,q=k/2^(d-h-(i+1)):=⟨_,rfl⟩
 have e1:d-i=g+1:=by omega
 have e2:k/2^(d-h-i)=q/2:=by
  rw[hq,Nat.div_div_eq_div_mul,<-Nat.pow_succ,show(d-h-(i+1)).succ=d-h-i by omega]
 rw[<-hg,<-hq,e1,e2]
 have hin:inR g q (nd h k):=zgg.2 ⟨by omega,by rw[hq,hg,show d-(i+1)-h=d-h-(i+1)by omega]⟩
 have hself:=za9 g q
 rcases Nat.mod_two_eq_zero_or_one q with he |he
 ·have eq:q=2*(q/2):=by omega
  rw[eq]at hin hself
  have h1:=(zbs hin).2
  have h2:=(zbs hself).2
  rw[<-eq]at h2
  exact⟨λ_=>h1,λ_=>h2⟩
 ·have eq:q=2*(q/2)+1:=by omega
  rw[eq]at hin hself
  have h1:=(zbv hin).2
  have h2:=(zbv hself).2
  rw[<-eq]at h2
  constructor<;>intro h<;>omega
def gapI(x y n:Int):Int:=(posX x n-posX y n)*(posX x n-posX y n)+(posY x n-posY y n)*(posY x n-posY y n)
theorem zy2{a:Int}(h: -4096<=a/\a<=4096):0<=a*a/\a*a<=16777216:=by
 have h1:a*a=((a.natAbs*a.natAbs:Nat):Int):=(Int.natAbs_mul_self' a).symm▸by simp
 have h2:a.natAbs*a.natAbs<=4096*4096:=Nat.mul_le_mul (by omega) (by omega)
 rw[h1]
 omega
theorem zu1{x y n:Int}(hx:ofI x n=true)(hy:ofI y n=true):0<=gapI x y n/\gapI x y n<=33554432:=by
 have h1:=znv hx
 have h2:=znv hy
 have h3:=zy2 (a:=posX x n-posX y n) (by omega)
 have h4:=zy2 (a:=posY x n-posY y n) (by omega)
 unfold gapI
 omega
def farS(g:Int->Int)(a:Int×Int)(x:Int):Int×Int:=if g x>a.2 then(x,g x)else a
def farL(g:Int->Int)(l:List Int):Int×Int:=l.foldl (farS g) (0, -1)
def FarI(g:Int->Int)(l:List Int)(i:Nat):Prop:=∃hi:i<l.length,(∀k (hk:k<l.length),g l[k]<=g l[i])/\∀k (hk:k<i),g (l[k]'(by omega))<g l[i]
theorem z09(g:Int->Int)(l:List Int)(x:Int):farL g (l++[x])=farS g (farL g l) x:=by simp[farL]
theorem zpo(g:Int->Int): ∀(n:Nat) (l:List Int),l.length=n->(∀x∈l,0<=g x)->(l=[]/\farL g l=(0, -1))\/∃i,∃hi:i<l.length,FarI g l i/\farL g l=(l[i],g l[i])
 |0,l,hl,_=> .inl ⟨List.eq_nil_of_length_eq_zero hl,by rw[List.eq_nil_of_length_eq_zero hl];rfl⟩
 |n+1,l,hl,h0=>by
  right
  obtain⟨m,x,rfl⟩: ∃m x,l=m++[x]:=⟨l.dropLast,l.getLast (by intro e;rw[e]at hl;simp at hl),(List.dropLast_concat_getLast _).symm⟩
  have hm:m.length=n:=by simpa using hl
  have hx0:=h0 x (by simp)
  rw[z09]
  rcases zpo g n m hm λy hy=>h0 y (by simp[hy])with⟨rfl,he⟩ |⟨i,hi,⟨_,h1,h2⟩,he⟩
  ·refine⟨0,by simp,⟨by simp,λk hk=>?_,λk hk=>by omega⟩,?_⟩
   ·have:k=0:=by simp at hk;omega
    subst this;exact Int.le_refl _
   ·rw[he];unfold farS;rw[if_pos (by simp only;omega)];simp
  ·by_cases hgt:g x>g m[i]
   ·refine⟨m.length,by simp,⟨by simp,λk hk=>?_,λk hk=>?_⟩,?_⟩
    ·rw[List.getElem_append_right (Nat.le_refl _)]
     simp only[Nat.sub_self,List.getElem_cons_zero]
     rcases Nat.lt_or_ge k m.length with hkm |hkm
     ·rw[List.getElem_append_left hkm];have:=h1 k hkm;omega
     ·have:k=m.length:=by simp at hk;omega
      subst this
      rw[List.getElem_append_right (Nat.le_refl _)]
      simp
    ·rw[List.getElem_append_right (Nat.le_refl _),List.getElem_append_left hk]
     simp only[Nat.sub_self,List.getElem_cons_zero]
     have:=h1 k hk;omega
    ·rw[he];unfold farS;rw[if_pos hgt]
     rw[List.getElem_append_right (Nat.le_refl _)]
     simp
   ·refine⟨i,by simp;omega,⟨by simp;omega,λk hk=>?_,λk hk=>?_⟩,?_⟩
    ·rw[List.getElem_append_left hi]
     rcases Nat.lt_or_ge k m.length with hkm |hkm
     ·rw[List.getElem_append_left hkm];exact h1 k hkm
     ·have:k=m.length:=by simp at hk;omega
      subst this
      rw[List.getElem_append_right (Nat.le_refl _)]
      simp
      omega
    ·rw[List.getElem_append_left hi,List.getElem_append_left (by omega)]
     exact h2 k hk
    ·rw[he];unfold farS;rw[if_neg hgt]
     rw[List.getElem_append_left hi]
end
section
theorem zs9(x n:Int):zaf Tryz.prog 147 [I x,I n] (.r (.b (ofI x n))):=by
 refine zac (T:=Tab) mixed Tab_ok Tryz.func147 rfl (by kernel_rfl) ?_
 refine Vcall.bool (zpi n) (λh=>?_) (λh=>?_)
 ·have hb:=zc4 h
  refine zh (λh2=>?_) (λh2=>?_)
  ·simp only[zb]at h2
   refine zd rfl (by omega) ?_
   refine zd rfl (by omega) ?_
   refine Vcmp.mk' rfl (zf (congrArg RV.b ?_))
   rw[Bool.eq_iff_iff,zey,decide_eq_true_eq]
   exact⟨λh3=>⟨h,by omega,h3⟩,λh3=>h3.2.2⟩
  ·simp only[zb]at h2
   refine zf (congrArg RV.b ?_)
   cases ho:ofI x n with
   |false=>rfl
   |true=>rw[zey]at ho;omega
 ·refine zf (congrArg RV.b ?_)
  cases ho:ofI x n with
  |false=>rfl
  |true=>rw[zey,h]at ho;cases ho.1
theorem z2z:Tryz.prog.underlying 193=some (.float .f64):=Tryz.underlying193
theorem z1a(l:Int)(h:1<=l/\l<=16):zaf Tryz.prog 197 [I l] (.r (C2 (strI l).1 (strI l).2)):=by
 refine zac (T:=Tab) mixed Tab_ok Tryz.func197 rfl (by kernel_rfl) ?_
 have hb:=znf h
 obtain⟨m,hm⟩: ∃m:Nat,(l-1)/2=(m:Int):=⟨((l-1)/2).toNat,by omega⟩
 have hm7:m<=7:=by omega
 have hp:(2:Int)^m<=128/\0<=(2:Int)^m:=by
  have:m=0\/m=1\/m=2\/m=3\/m=4\/m=5\/m=6\/m=7:=by omega
  rcases this with rfl |rfl |rfl |rfl |rfl |rfl |rfl |rfl<;>decide
 refine zw (by simp;omega) ?_
 refine zw (by simp;omega) (zt ?_)
 refine zd rfl (by omega) ?_
 refine⟨by decide,(m:Int),?_,?_⟩
 ·rw[Int.tdiv_eq_ediv_of_nonneg (by omega),hm];exact wrap_i64 (by omega)
 refine⟨by omega,2^m,?_,?_⟩
 ·have:min (m:Int).toNat IntKind.i64.bits=m:=by simp[IntKind.bits];omega
  rw[this,Int.one_mul];exact wrap_i64 (by omega)
 refine Vfun.i2f rfl ⟨_,Tryz.underlying3⟩ z2z rfl ?_
 refine Vfun.complex rfl rfl rfl ?_
 refine⟨by decide,l%2,by rw[Int.tmod_eq_emod_of_nonneg (by omega)],?_⟩
 have e1:(strI l)=if l%2=0 then(0,2^m)else(2^m,0):=by
  unfold strI;rw[hm,Int.toNat_natCast]
 refine zh (λh2=>zq ?_) (λh2=>zt ?_)
 ·simp only[zb]at h2
  refine Vfun.ctimes (re:=fl 0) (im:=fl (2^m)) rfl rfl rfl ?_ ?_
  ·have:=zdob (a:=2^m) hp.2 (by omega)
   rw[zv5,zfxb]at this
   exact this
  ·refine zf ?_
   rw[e1,if_pos h2]
 ·simp only[zb]at h2
  refine zf ?_
  rw[e1,if_neg h2]
  show RV.x (.complex .f64 _ 0)=RV.x (.complex .f64 _ (fl 0))
  rw[zv5]
theorem zeab:RV.x (.complex .f64 0 0)=C2 0 0:=by
 show _=RV.x (.complex .f64 (fl 0) (fl 0))
 rw[zv5]
theorem z4h(x n:Int)(ho:ofI x n=true):zaf Tryz.prog 177 [I x,I n] (.r (.tu [C2 (posX x n) (posY x n), .b true])):=by
 refine zac (T:=Tab) mixed Tab_ok Tryz.func177 rfl (by kernel_rfl) ?_
 have hof:=zs9 x n
 rw[ho]at hof
 refine ze hof ?_
 refine zw rfl (zt ?_)
 refine ze (zun x n) ?_
 have hlv:=zjp ho
 have hlen:(za4 x n).length<=16:=by
  obtain⟨d,h,k,hd,rfl,hh,hk,rfl⟩:=zex ho
  rw[zi2 hd hh hk,List.length_map,List.length_tail,zfj];omega
 have hpart:=zcyb ho
 unfold posX posY
 obtain⟨L,hL⟩: ∃L,L=za4 x n:=⟨_,rfl⟩
 rw[<-hL]at hlv hlen hpart⊢
 refine zy (λj:Nat=>{F:=[(0, .r (I x)),(6, .r (C2 (sumI (dX x) (L.take j)) (sumI (dY x) (L.take j)))),(15, .r (is L)),(16, .r (I L.length)),(17, .r (I j))],O:=[],nx:=0}) (λj=>j<=L.length) (λj=>L.length-j) 0 (by omega)
  (zad [] rfl ⟨cr,zf zeab,cr,cr,cr,trivial⟩ trivial) ?_
 intro j hj
 have hb:=hpart j
 refine zh (λh=>zq ?_) (λh=>zt ?_)
 ·simp only[zb]at h
  have hj':j<L.length:=by omega
  have hl:=hlv _ (List.getElem_mem hj')
  have hs:=znf hl
  have hx:=zmj (f:=dX x) hj'
  have hy:=zmj (f:=dY x) hj'
  refine zm (by omega) (by omega) (zai rfl hj') (zg rfl ?_)
  refine zh (λh2=>zq ?_) (λh2=>zt ?_)
  ·simp only[zb]at h2
   refine ze (z2y _) ?_
   refine ze (z1a _ hl) ?_
   refine Vfun.csub rfl rfl rfl (by omega) (by omega) (by omega) (by omega) ?_
   refine zd (m:=((j+1:Nat):Int)) (by omega) (by omega) ?_
   refine⟨j+1,hj',by omega,zad [] rfl ⟨cr,zf ?_,cr,cr,cr,trivial⟩ trivial⟩
   have e1:dX x L[j]= -(strI (lvI L[j])).1:=by unfold dX;rw[if_pos h2]
   have e2:dY x L[j]= -(strI (lvI L[j])).2:=by unfold dY;rw[if_pos h2]
   rw[hx,hy,e1,e2,<-Int.sub_eq_add_neg,<-Int.sub_eq_add_neg]
  ·simp only[zb]at h2
   refine ze (z2y _) ?_
   refine ze (z1a _ hl) ?_
   refine Vfun.cadd rfl rfl rfl (by omega) (by omega) (by omega) (by omega) ?_
   refine zd (m:=((j+1:Nat):Int)) (by omega) (by omega) ?_
   refine⟨j+1,hj',by omega,zad [] rfl ⟨cr,zf ?_,cr,cr,cr,trivial⟩ trivial⟩
   have e1:dX x L[j]=(strI (lvI L[j])).1:=by unfold dX;rw[if_neg h2]
   have e2:dY x L[j]=(strI (lvI L[j])).2:=by unfold dY;rw[if_neg h2]
   rw[hx,hy,e1,e2]
 ·simp only[zb]at h
  rw[List.take_of_length_le (by omega)]
  exact⟨_,rfl,cr⟩
theorem zgpb(x y n:Int)(hx:ofI x n=true)(hy:ofI y n=true):zaf Tryz.prog 149 [I x,I y,I n] (.r (.tu [I (gapI x y n), .b true])):=by
 refine zac (T:=Tab) mixed Tab_ok Tryz.func149 rfl (by kernel_rfl) ?_
 have bx:=znv hx
 have by_:=znv hy
 have hg:=zu1 hx hy
 obtain⟨z,hz⟩:=zc7b (a:=posX x n-posX y n) (b:=posY x n-posY y n) (by omega) (by omega)
 refine ze (z4h x n hx) ?_
 refine ze (z4h y n hy) ?_
 refine zw rfl ?_
 refine zw rfl (zt ?_)
 refine Vfun.csub rfl rfl rfl (by omega) (by omega) (by omega) (by omega) ?_
 refine Vfun.real rfl rfl ?_
 refine Vfun.imag rfl rfl ?_
 refine Vfun.neg rfl rfl ?_
 refine Vfun.complex rfl rfl rfl ?_
 refine Vfun.ctimes rfl rfl rfl hz ?_
 refine Vfun.real rfl rfl ?_
 refine Vfun.f2i (n:=gapI x y n) rfl z2z Tryz.underlying3 rfl hg.1 (by omega) ?_
 exact⟨_,rfl,cr⟩
theorem zf7b(x n:Int):zaf Tryz.prog 148 [I x, .ptr [I n]] (.r (.b (!ofI x n))):=by
 refine zac (T:=Tab) mixed Tab_ok Tryz.func148 rfl (by kernel_rfl) ?_
 refine zg rfl ?_
 refine ze (zs9 x n) ?_
 exact Vcmp.mk' rfl (cr)
theorem zgnb(x n:Int)(l:List Int)(hl:l.length<=1000000)(hne:l≠[])(hx:ofI x n=true)(hall: ∀y∈l,ofI y n=true):
  zaf Tryz.prog 110 [I x,is l,I n] (.r (.tu [I (farL (λy=>gapI x y n) l).1, .b true])):=by
 refine zac (T:=Tab) mixed Tab_ok Tryz.func110 rfl (by kernel_rfl) ?_
 have hof:=zs9 x n
 rw[hx]at hof
 refine ze hof ?_
 refine zw rfl ?_
 have hlp:0<l.length:=List.length_pos_iff.2 hne
 refine zw (by simp;omega) ?_
 refine Vstep.sub (ze4 (t:=5) [I n] rfl rfl) (Vstep.mkfun I (λ_=>True) (λy=> !ofI y n) rfl rfl (λy _=>zf7b y n) ?_)
 have hany:l.any (λy=> !ofI y n)=false:=by
  rw[List.any_eq_false]
  intro y hy;simp[hall y hy]
 have hcf:=zc3 l (λ_=>True) (λy=> !ofI y n) (by omega) λ_ _=>trivial
 rw[hany]at hcf
 refine ze hcf ?_
 refine zt ?_
 obtain⟨g,hgd⟩: ∃g:Int->Int,g= λy=>gapI x y n:=⟨_,rfl⟩
 rw[<-hgd]
 refine zy (λj:Nat=>{F:=[(0, .r (I x)),(5, .r (.ptr [I n])),(8, .r (I (farL g (l.take j)).1)),(9, .r (I (farL g (l.take j)).2)),(28, .r (is l)),(29, .r (I l.length)),(30, .r (I j))],O:=[],nx:=0}) (λj=>j<=l.length) (λj=>l.length-j) 0 (by omega)
  (zad [] rfl ⟨cr,cr,cr,cr,cr,cr,cr,trivial⟩ trivial) ?_
 intro j hj
 refine zh (λh=>zq ?_) (λh=>zt ?_)
 ·simp only[zb]at h
  have hj':j<l.length:=by omega
  have hsn:farL g (l.take (j+1))=farS g (farL g (l.take j)) l[j]:=by
   rw[List.take_add_one,List.getElem?_eq_getElem hj']
   exact z09 g _ _
  refine zm (by omega) (by omega) (zai rfl hj') (zg rfl ?_)
  refine zg rfl ?_
  refine ze (zgpb x l[j] n hx (hall _ (List.getElem_mem hj'))) ?_
  refine zh (λh2=>zq ?_) (λh2=>zt ?_)
  ·simp only[zb]at h2
   refine zd (m:=((j+1:Nat):Int)) (by omega) (by omega) ?_
   have e:farL g (l.take (j+1))=(l[j],g l[j]):=by rw[hsn];unfold farS;rw[if_pos (by subst hgd;exact h2)]
   refine⟨j+1,hj',by omega,zad [] rfl ⟨cr,cr,zf (by rw[e]),zf (by rw[e,hgd]),cr,cr,cr,trivial⟩ trivial⟩
  ·simp only[zb]at h2
   refine zd (m:=((j+1:Nat):Int)) (by omega) (by omega) ?_
   have e:farL g (l.take (j+1))=farL g (l.take j):=by rw[hsn];unfold farS;rw[if_neg (by subst hgd;exact h2)]
   refine⟨j+1,hj',by omega,zad [] rfl ⟨cr,cr,zf (by rw[e]),zf (by rw[e]),cr,cr,cr,trivial⟩ trivial⟩
 ·simp only[zb]at h
  rw[List.take_of_length_le (by omega)]
  exact⟨_,rfl,cr⟩
end
section
abbrev d3r(t:D3):List RV:=[I t.at_,I t.lo,I t.hi]
def ds(l:List D3):RV:= .sl 3 l.length (l.flatMap d3r)
theorem z9a: ∀l:List D3,l.flatMap d3r=(l.flatMap λt=>[t.at_,t.lo,t.hi]).map I/\d3s l=(l.flatMap λt=>[t.at_,t.lo,t.hi]).map iv/\(l.flatMap λt=>[t.at_,t.lo,t.hi]).length=l.length*3
 |[]=>⟨rfl,rfl,rfl⟩
 |t::l=>by
  obtain⟨h1,h2,h3⟩:=z9a l
  refine⟨by rw[List.flatMap_cons,h1,List.flatMap_cons,List.map_append];rfl,?_,by rw[List.flatMap_cons,List.length_append,h3,List.length_cons];simp;omega⟩
  have:d3s (t::l)=d3c t++d3s l:=by simp[d3s]
  rw[this,h2,List.flatMap_cons,List.map_append]
  rfl
theorem zemb{w':World}{k:Kp}{base sz n:Nat}{p:AC}{l:List Int}(hl:l.length=n*sz)(h:Sl w' (base<= ·) sz p n (l.map iv)): ∃k':Kp,(∀b,b<base->k' b=k b)/\(RV.sl sz n (l.map I)).at_ w' k' (.slice p.a n p.c):=by
 obtain⟨_,hc1,hc2,h4⟩:=h
 rcases Nat.eq_zero_or_pos n with h0 |hpos
 ·refine⟨k,λ_ _=>rfl,?_⟩
  simp only[RV.at_]
  exact⟨p.a,p.c,rfl,hc1,hc2,by simp[hl],λh=>by omega⟩
 ·obtain⟨b,o,e,hb,hlt,hc⟩:=h4 hpos
  refine⟨λx=>if x<base then k x else o+l.length,λx hx=>by simp[hx],?_⟩
  simp only[RV.at_]
  refine⟨p.a,p.c,rfl,hc1,hc2,by simp[hl],λ_=>⟨b,o,e,hlt,?_⟩⟩
  rw[RV.cellsAt_iff]
  intro j q hq
  simp only[List.getElem?_map,Option.map_eq_some_iff]at hq
  obtain⟨x,hx,rfl⟩:=hq
  have hj:=(List.getElem?_eq_some_iff.1 hx).1
  refine⟨by rw[if_neg (by omega)];omega,iv x,hc j (iv x) (by simp[hx]),rfl,by simp[RV.at_]⟩
theorem zfgb(x n:Int):zaf Tryz.prog 72 [I x,I n] (.r (ds (zbx x n))):=
 zb1 (za8 Tryz.func72 rfl (by kernel_rfl)) λw k vs hp=>by
  have hv:=zkr hp
  subst hv
  refine(zht x n w).mono λe w' ⟨v,he,hx,g,ho⟩=>?_
  obtain⟨p,rfl,hs⟩:=ho.sl
  obtain⟨h1,h2,h3⟩:=z9a (zbx x n)
  rw[h2]at hs
  obtain⟨k',hk',hat⟩:=zemb (k:=k) h3 hs
  refine⟨_,he,hx,k',hk',?_⟩
  show(ds (zbx x n)).at_ w' k' _
  unfold ds
  rw[h1]
  exact hat
theorem zbtb(x n:Int):zaf Tryz.prog 85 [I x,I n] (.r (.tu [.ag (d3r (zb9 x n)), .b (ofI x n)])):=
 zlz (us:=[.int .i64 x, .int .i64 n]) (u:= .tuple #[.agg #[.int .i64 (zb9 x n).at_, .int .i64 (zb9 x n).lo, .int .i64 (zb9 x n).hi], .bool (ofI x n)]) (za8 Tryz.func85 rfl (by kernel_rfl)) (λ_ _ _ h=>zkr h)
  (λw k=>by simp only[RV.at_,RV.partsAt,RV.listAt];exact⟨_,rfl,_,_,rfl,⟨_,rfl,_,_,rfl,rfl,rfl,_,_,rfl,rfl,rfl,_,_,rfl,rfl,rfl,rfl⟩,_,_,rfl,rfl,rfl⟩) λw=>zeo x n w
theorem z7y(x:Int)(hx:za1 x=true):zaf Tryz.prog 159 [I x] (.r (I (lvI x))):=by
 refine zac (T:=Tab) mixed Tab_ok Tryz.func159 rfl (by kernel_rfl) ?_
 have ho:ofI x 65536=true:=by rw[<-zk9];exact hx
 have gl:=zbtb x 65536
 rw[ho]at gl
 obtain⟨d,h,k,hd,hh,hk,hn,rfl,hl⟩:=zi5 ho
 have hd16:d=16:=by
  have:(2^d:Nat)=2^16:=by omega
  exact(Nat.pow_right_inj (by omega)).1 this
 subst hd16
 rw[zkb hd hh hk]
 rw[hl]at gl
 refine ze gl ?_
 refine zw rfl (zt ?_)
 have hp:=zag h
 have e2:2^(h+1)=2*2^h:=by rw[Nat.pow_succ];omega
 have hkb:(k+1)*2^(h+1)<=2^17:=by
  have:=Nat.mul_le_mul_right (2^(h+1)) (show k+1<=2^(16-h)from hk)
  rwa[<-Nat.pow_add,show 16-h+(h+1)=17 by omega]at this
 rw[Nat.add_mul]at hkb
 have e3:(trip h k).hi-(trip h k).lo=((2^(h+1)-2:Nat):Int):=by unfold trip;simp only;omega
 have hhi:0<=(trip h k).lo/\(trip h k).hi<=131072/\(trip h k).lo<=(trip h k).hi:=by unfold trip;simp only;omega
 refine zd rfl (by omega) ?_
 refine zd (m:=((2^(h+1)-1:Nat):Int)) (by omega) (by omega) ?_
 refine zy (λj:Nat=>{F:=[(5, .r (I j)),(6, .r (I ((2^(h+1-j)-1:Nat):Int)))],O:=[],nx:=0}) (λj=>j<=h) (λj=>h-j) 0 (by omega)
  (zad [] rfl ⟨cr,cr,trivial⟩ trivial) ?_
 intro j hj
 have hpj:=zag (h-j)
 have e4:2^(h+1-j)=2*2^(h-j):=by rw[show h+1-j=(h-j)+1 by omega,Nat.pow_succ];omega
 have hle:2^(h-j)<=65536:=zhr (by omega)
 refine zh (λh2=>zq ?_) (λh2=>zt ?_)
 ·simp only[zb]at h2
  have hj':j<h:=by
   rcases Nat.lt_or_ge j h with h3 |h3
   ·exact h3
   ·have:h-j=0:=by omega
    rw[this]at e4;omega
  refine zd (m:=((j+1:Nat):Int)) (by omega) (by omega) ?_
  refine⟨by decide,((2^(h+1-(j+1))-1:Nat):Int),?_,?_⟩
  ·have e5:2^(h+1-(j+1))=2^(h-j):=by rw[show h+1-(j+1)=h-j by omega]
   rw[Int.tdiv_eq_ediv_of_nonneg (by omega),e5]
   have:(((2^(h+1-j)-1:Nat):Int))/2=((2^(h-j)-1:Nat):Int):=by omega
   rw[this]
   exact wrap_i64 (by omega)
  exact⟨j+1,hj',by omega,zad [] rfl ⟨cr,cr,trivial⟩ trivial⟩
 ·simp only[zb]at h2
  have hj':j=h:=by
   rcases Nat.lt_or_ge j h with h3 |h3
   ·have:2^(h-j)=2*2^(h-j-1):=by rw[show h-j=(h-j-1)+1 by omega,Nat.pow_succ];simp;omega
    have:=zag (h-j-1)
    omega
   ·omega
  subst hj'
  exact cr
theorem z4w(l:Int)(h:1<=l/\l<=16):zaf Tryz.prog 158 [I l] (.r (.tu [I (2^((l-1)/2).toNat), .b (decide (l%2=0))])):=by
 refine zac (T:=Tab) mixed Tab_ok Tryz.func158 rfl (by kernel_rfl) ?_
 obtain⟨m,hm⟩: ∃m:Nat,(l-1)/2=(m:Int):=⟨((l-1)/2).toNat,by omega⟩
 have hm7:m<=7:=by omega
 have hpow: ∀j:Nat,j<=8->(2:Int)^j<=256/\0<=(2:Int)^j:=λj hj=>by
  have:j=0\/j=1\/j=2\/j=3\/j=4\/j=5\/j=6\/j=7\/j=8:=by omega
  rcases this with rfl |rfl |rfl |rfl |rfl |rfl |rfl |rfl |rfl<;>decide
 refine zw (by simp;omega) ?_
 refine zw (by simp;omega) (zt ?_)
 refine zy (λj:Nat=>{F:=[(0, .r (I l)),(4, .r (I (2^j))),(5, .r (I ((j+1:Nat):Int)))],O:=[],nx:=0}) (λj=>j<=m) (λj=>m-j) 0 (by omega)
  (zad [] rfl ⟨cr,cr,cr,trivial⟩ trivial) ?_
 intro j hj
 have hp:=hpow j (by omega)
 refine zd rfl (by omega) ?_
 refine⟨by decide,(m:Int),?_,?_⟩
 ·rw[Int.tdiv_eq_ediv_of_nonneg (by omega),hm];exact wrap_i64 (by omega)
 refine zh (λh2=>zq ?_) (λh2=>zt ?_)
 ·simp only[zb]at h2
  have e:(2:Int)*2^j=2^(j+1):=by rw[Int.pow_succ];omega
  refine zd (m:=2^(j+1)) e.symm (by rw[e];have:=hpow (j+1) (by omega);omega) ?_
  refine zd (m:=((j+1+1:Nat):Int)) (by omega) (by omega) ?_
  exact⟨j+1,by omega,by omega,zad [] rfl ⟨cr,cr,cr,trivial⟩ trivial⟩
 ·simp only[zb]at h2
  have hjm:j=m:=by omega
  subst hjm
  refine⟨by decide,l%2,by rw[Int.tmod_eq_emod_of_nonneg (by omega)],?_⟩
  refine Vcmp.mk' rfl ?_
  refine⟨_,rfl,zf ?_⟩
  rw[hm,Int.toNat_natCast]
  congr 3
theorem z40{x n:Int}(ho:ofI x n=true):1<=(zbx x n).length/\(zbx x n).length<=17/\(topD x n).length+1=(zbx x n).length/\∀i (hi:i+1< (zbx x n).length),∃t,
  (topD x n)[i]?=some t/\((zbx x n)[i]'(by omega)).at_=t/\za1 t=true/\(1<=lvI t/\lvI t<=16)/\(((zbx x n)[i+1]'hi).at_<t↔x<t):=by
 obtain⟨d,h,k,hd,rfl,hh,hk,rfl⟩:=zex ho
 obtain⟨h1,h2⟩:=z76 hd hh hk
 refine⟨by omega,by omega,by rw[topD,List.length_map,List.length_dropLast];omega,λi hi=>?_⟩
 have hi':i<d-h:=by omega
 have e1:=h2 i (by omega)
 have e2:=h2 (i+1) (by omega)
 rw[List.getElem?_eq_getElem (by omega)]at e1
 rw[List.getElem?_eq_getElem (by omega)]at e2
 have hq:k/2^(d-h-i)<2^(d-(d-i)):=by
  rw[Nat.div_lt_iff_lt_mul (zag _),<-Nat.pow_add,show d-(d-i)+(d-h-i)=d-h by omega]
  exact hk
 refine⟨(nd (d-i) (k/2^(d-h-i)):Int),?_,by rw[Option.some.inj e1];rfl,zcg hd (by omega) hq,by rw[zkb hd (by omega) hq];omega,?_⟩
 ·unfold topD
  rw[List.getElem?_map,List.getElem?_dropLast,if_pos (by omega),List.getElem?_eq_getElem (by omega),e1]
  rfl
 ·rw[Option.some.inj e2]
  exact z9r hi'
theorem z7d{l:List D3}{i:Int}{j:Nat}(h:i=j)(hj:j<l.length):((l.flatMap d3r).drop (i.toNat*3)).take 3=d3r l[j]:=zof (sz:=3) (λ_=>rfl) h hj
theorem zmf(x n:Int)(ho:ofI x n=true):zaf Tryz.prog 121 [I x,I n] (.r (.tu [.ag [I (posX x n),I (posY x n)], .b true])):=by
 refine zac (T:=Tab) mixed Tab_ok Tryz.func121 rfl (by kernel_rfl) ?_
 obtain⟨f1,f2,f3,f4⟩:=z40 ho
 have hbd: ∀j,(-2048<=sumI (dX x) ((topD x n).take j)/\sumI (dX x) ((topD x n).take j)<=2048)/\(-2048<=sumI (dY x) ((topD x n).take j)/\sumI (dY x) ((topD x n).take j)<=2048):=λj=>by
  have hl: ∀p∈topD x n,1<=lvI p/\lvI p<=16:=λp hp=>zjp ho p (by rw[zqm,List.mem_reverse]at hp;exact hp)
  have ht:((topD x n).take j).length<=16:=by rw[List.length_take];omega
  have h1:=zi1 (f:=dX x) (l:=(topD x n).take j) λp hp=>z6y (hl p (List.mem_of_mem_take hp))
  have h2:=zi1 (f:=dY x) (l:=(topD x n).take j) λp hp=>z4u (hl p (List.mem_of_mem_take hp))
  omega
 have ex:posX x n=sumI (dX x) (topD x n):=by rw[zqm,zlp];rfl
 have ey:posY x n=sumI (dY x) (topD x n):=by rw[zqm,zlp];rfl
 have gd:=zfgb x n
 rw[ex,ey]
 obtain⟨D,hD⟩: ∃D,D=zbx x n:=⟨_,rfl⟩
 obtain⟨M,hM⟩: ∃M,M=topD x n:=⟨_,rfl⟩
 rw[<-hM]at f3 hbd⊢
 simp only[<-hD,<-hM]at f1 f2 f3 f4 gd
 refine ze gd ?_
 refine zw (by simp only[zb];omega) (zt ?_)
 refine zy (λj:Nat=>{F:=[(0, .r (I x)),(4, .own 0),(6, .r (ds D)),(7, .own 1),(8, .r (I j))],O:=[(0,some (.box [.r (I 0), .r (I 0)])),(1,some (.box [.r (I (sumI (dX x) (M.take j))), .r (I (sumI (dY x) (M.take j)))]))],nx:=2}) (λj=>j+1<=D.length) (λj=>D.length-j) 0 (by omega)
  (zad [(0,0),(1,1)] rfl ⟨cr,rfl,cr,rfl,cr,trivial⟩ ⟨zab [I 0,I 0],zab [I 0,I 0],trivial⟩) ?_
 intro j hj
 have hb:=hbd j
 refine zd (m:=((j+1:Nat):Int)) (by omega) (by omega) ?_
 refine zh (λh=>zq ?_) (λh=>zt ?_)
 ·simp only[zb]at h
  have hj':j+1<D.length:=by omega
  obtain⟨t,t1,t2,t3,t4,t5⟩:=f4 j hj'
  have hjM:j<M.length:=by omega
  have hMj:M[j]=t:=by rw[List.getElem?_eq_getElem hjM]at t1;exact Option.some.inj t1
  have hx:=zmj (f:=dX x) hjM
  have hy:=zmj (f:=dY x) hjM
  rw[hMj]at hx hy
  have hs:=znf t4
  refine zm (by omega) (by omega) (z7d rfl (show j<D.length by omega)) ?_
  refine zg (f:=I t) (by simp[t2]) ?_
  refine ze (z7y t t3) ?_
  refine ze (z4w _ t4) ?_
  refine Vdraw.mk' (by kernel_rfl) ?_
  refine zd (m:=((j+1:Nat):Int)) (by omega) (by omega) ?_
  refine zm (by omega) (by omega) (z7d rfl hj') ?_
  refine zg rfl ?_
  refine zm (by omega) (by omega) (z7d rfl (show j<D.length by omega)) ?_
  refine zg (f:=I t) (by simp[t2]) ?_
  obtain⟨p,hp⟩: ∃p:Int,p=2^((lvI t-1)/2).toNat:=⟨_,rfl⟩
  have hstr:strI (lvI t)=if lvI t%2=0 then(0,p)else(p,0):=by rw[hp];rfl
  have hp2:0<=p/\p<=128:=by
   rw[hstr]at hs
   split at hs<;>simp only at hs<;>omega
  rw[<-hp]
  have hpos:x<t->dX x t= -(strI (lvI t)).1/\dY x t= -(strI (lvI t)).2:=λh4=>by unfold dX dY;rw[if_pos h4,if_pos h4];exact⟨rfl,rfl⟩
  have hneg: ¬x<t->dX x t=(strI (lvI t)).1/\dY x t=(strI (lvI t)).2:=λh4=>by unfold dX dY;rw[if_neg h4,if_neg h4];exact⟨rfl,rfl⟩
  have hb1:=hbd (j+1)
  refine zh (λh2=>zq ?_) (λh2=>zt ?_)
  ·simp only[zb]at h2
   obtain⟨ea,eb⟩:=hpos (t5.1 h2)
   refine zd (m:= -p) (by omega) (by omega) ?_
   refine Vif.mk' (λhu=>?_) (λhu=>?_)
   ·have hu:=of_decide_eq_true hu
    rw[hstr,if_pos hu]at ea eb
    refine zd (m:=sumI (dY x) (M.take (j+1))) (by rw[hy,eb]) (by omega) ?_
    refine zd (m:=((j+1:Nat):Int)) (by omega) (by omega) ?_
    exact⟨j+1,hj',by omega,zad [(0,0),(1,1)] rfl ⟨cr,rfl,cr,rfl,cr,trivial⟩ ⟨zab [I 0,I 0],cvc (zf (by rw[hx,ea];simp)) (cvc (cr) rfl),trivial⟩⟩
   ·have hu:=of_decide_eq_false hu
    rw[hstr,if_neg hu]at ea eb
    refine zd (m:=sumI (dX x) (M.take (j+1))) (by rw[hx,ea]) (by omega) ?_
    refine zd (m:=((j+1:Nat):Int)) (by omega) (by omega) ?_
    exact⟨j+1,hj',by omega,zad [(0,0),(1,1)] rfl ⟨cr,rfl,cr,rfl,cr,trivial⟩ ⟨zab [I 0,I 0],cvc (cr) (cvc (zf (by rw[hy,eb];simp)) rfl),trivial⟩⟩
  ·simp only[zb]at h2
   obtain⟨ea,eb⟩:=hneg (λh4=>h2 (t5.2 h4))
   refine Vif.mk' (λhu=>?_) (λhu=>?_)
   ·have hu:=of_decide_eq_true hu
    rw[hstr,if_pos hu]at ea eb
    refine zd (m:=sumI (dY x) (M.take (j+1))) (by rw[hy,eb]) (by omega) ?_
    refine zd (m:=((j+1:Nat):Int)) (by omega) (by omega) ?_
    exact⟨j+1,hj',by omega,zad [(0,0),(1,1)] rfl ⟨cr,rfl,cr,rfl,cr,trivial⟩ ⟨zab [I 0,I 0],cvc (zf (by rw[hx,ea];simp)) (cvc (cr) rfl),trivial⟩⟩
   ·have hu:=of_decide_eq_false hu
    rw[hstr,if_neg hu]at ea eb
    refine zd (m:=sumI (dX x) (M.take (j+1))) (by rw[hx,ea]) (by omega) ?_
    refine zd (m:=((j+1:Nat):Int)) (by omega) (by omega) ?_
    exact⟨j+1,hj',by omega,zad [(0,0),(1,1)] rfl ⟨cr,rfl,cr,rfl,cr,trivial⟩ ⟨zab [I 0,I 0],cvc (cr) (cvc (zf (by rw[hy,eb];simp)) rfl),trivial⟩⟩
 ·simp only[zb]at h
  rw[List.take_of_length_le (show M.length<=j by omega)]
  refine za rfl rfl ?_
  refine za rfl rfl ?_
  exact⟨_,rfl,cr⟩
theorem zdqb(x y n:Int)(hx:ofI x n=true)(hy:ofI y n=true):zaf Tryz.prog 122 [I x,I y,I n] (.r (.tu [I (gapI x y n), .b true])):=by
 refine zac (T:=Tab) mixed Tab_ok Tryz.func122 rfl (by kernel_rfl) ?_
 have bx:=znv hx
 have by_:=znv hy
 have hg:=zu1 hx hy
 have s1:=zy2 (a:=posX x n-posX y n) (by omega)
 have s2:=zy2 (a:=posY x n-posY y n) (by omega)
 refine ze (zmf x n hx) ?_
 refine ze (zmf y n hy) ?_
 refine zw rfl ?_
 refine zw rfl (zt ?_)
 refine zd rfl (by omega) ?_
 refine zd rfl (by omega) ?_
 refine zd rfl (by omega) ?_
 refine zd rfl (by omega) ?_
 refine zd rfl (by omega) ?_
 refine zd rfl (by omega) ?_
 refine zd (m:=gapI x y n) rfl (by omega) ?_
 exact⟨_,rfl,cr⟩
theorem zc3b(x n:Int)(l:List Int)(hl:l.length<=1000000)(hne:l≠[])(hx:ofI x n=true)(hall: ∀y∈l,ofI y n=true):
  zaf Tryz.prog 76 [I x,is l,I n] (.r (.tu [I (farL (λy=>gapI x y n) l).1, .b true])):=by
 refine zac (T:=Tab) mixed Tab_ok Tryz.func76 rfl (by kernel_rfl) ?_
 obtain⟨g,hgd⟩: ∃g:Int->Int,g= λy=>gapI x y n:=⟨_,rfl⟩
 have hgap: ∀y∈l,zaf Tryz.prog 122 [I x,I y,I n] (.r (.tu [I (g y), .b true])):=λy hy=>by rw[hgd];exact zdqb x y n hx (hall y hy)
 have hg0: ∀y∈l,0<=g y:=λy hy=>by rw[hgd];exact(zu1 hx (hall y hy)).1
 obtain⟨r,hr,⟨_,r1,r2⟩,rf⟩: ∃r,∃hr:r<l.length,FarI g l r/\farL g l=(l[r],g l[r]):=by
  rcases zpo g l.length l rfl hg0 with⟨h,_⟩ |h
  ·exact absurd h hne
  ·exact h
 rw[<-hgd,rf]
 clear hgd
 refine ze (zmf x n hx) ?_
 refine zy (λj:Nat=>{F:=[(0, .r (I x)),(1, .r (is l)),(2, .r (I n)),(9, .r (.b true)),(10, .r (I j))],O:=[],nx:=0}) (λj=>j<=l.length) (λj=>l.length-j) 0 (by omega)
  (zad [] rfl ⟨cr,cr,cr,cr,cr,trivial⟩ trivial) ?_
 intro j hj
 refine zh (λh=>zq ?_) (λh=>zt ?_)
 ·simp only[zb]at h
  have hj':j<l.length:=by omega
  refine zm (by omega) (by omega) (zai rfl hj') (zg rfl ?_)
  refine ze (zmf l[j] n (hall _ (List.getElem_mem hj'))) ?_
  refine zd (m:=((j+1:Nat):Int)) (by omega) (by omega) ?_
  exact⟨j+1,hj',by omega,zad [] rfl ⟨cr,cr,cr,cr,cr,trivial⟩ trivial⟩
 refine zw rfl (zt ?_)
 clear h hj
 refine zy (λj:Nat=>{F:=[(0, .r (I x)),(1, .r (is l)),(2, .r (I n)),(13, .r (I j))],O:=[],nx:=0}) (λj=>j<=r) (λj=>l.length-j) 0 (by omega)
  (zad [] rfl ⟨cr,cr,cr,cr,trivial⟩ trivial) ?_
 intro j hj
 have hj':j<l.length:=by omega
 refine zu (by simp;omega) (zq ?_)
 refine zm (by omega) (by omega) (zai rfl hj') (zg rfl ?_)
 refine ze (hgap _ (List.getElem_mem hj')) ?_
 refine zy (λq:Nat×Bool=>{F:=[(0, .r (I x)),(1, .r (is l)),(2, .r (I n)),(13, .r (I j)),(14, .r (I (g l[j]))),(16, .r (.b q.2)),(17, .r (I q.1))],O:=[],nx:=0}) (λq=>q.1<=l.length/\(q.2=true↔∀k (hk:k<l.length),k<q.1->g l[k]<=g l[j]/\(k<j->g l[k]<g l[j]))) (λq=>l.length-q.1) (0,true) ⟨by simp,by simp⟩
  (zad [] rfl ⟨cr,cr,cr,cr,cr,cr,cr,trivial⟩ trivial) ?_
 rintro⟨q,β⟩ ⟨hq,hβ⟩
 simp only at hq hβ
 refine zh (λh=>zq ?_) (λh=>zt ?_)
 ·simp only[zb]at h
  have hq':q<l.length:=by omega
  refine zm (by omega) (by omega) (zai rfl hq') (zg rfl ?_)
  refine ze (hgap _ (List.getElem_mem hq')) ?_
  have good:(g l[q]<=g l[j]/\(q<j->g l[q]<g l[j]))->(β=true↔∀k (hk:k<l.length),k<q+1->g l[k]<=g l[j]/\(k<j->g l[k]<g l[j])):=λh4=>by
   rw[hβ]
   constructor
   ·intro h5 k hk hlt
    rcases Nat.lt_or_ge k q with h6 |h6
    ·exact h5 k hk h6
    ·have:k=q:=by omega
     subst this;exact h4
   ·intro h5 k hk hlt;exact h5 k hk (by omega)
  have bad: ¬(g l[q]<=g l[j]/\(q<j->g l[q]<g l[j]))->(false=true↔∀k (hk:k<l.length),k<q+1->g l[k]<=g l[j]/\(k<j->g l[k]<g l[j])):=λh4=>
   ⟨λh5=>(by cases h5),λh5=>absurd (h5 q hq' (by omega)) h4⟩
  refine zh (λh2=>?_) (λh2=>?_)
  ·simp only[zb]at h2
   refine zq ?_
   refine zd (m:=((q+1:Nat):Int)) (by dsimp only;omega) (by dsimp only;omega) ?_
   exact⟨(q+1,false),⟨hq',bad λh4=>by omega⟩,by simp only;omega,zad [] rfl ⟨cr,cr,cr,cr,cr,cr,cr,trivial⟩ trivial⟩
  ·simp only[zb]at h2
   refine zh (λh3=>?_) (λh3=>?_)
   ·simp only[zb]at h3
    refine zh (λh4=>zq ?_) (λh4=>zt ?_)
    ·simp only[zb]at h4
     refine zd (m:=((q+1:Nat):Int)) (by dsimp only;omega) (by dsimp only;omega) ?_
     exact⟨(q+1,false),⟨hq',bad λh5=>by have:=h5.2 (by omega);omega⟩,by simp only;omega,zad [] rfl ⟨cr,cr,cr,cr,cr,cr,cr,trivial⟩ trivial⟩
    ·simp only[zb]at h4
     refine zd (m:=((q+1:Nat):Int)) (by dsimp only;omega) (by dsimp only;omega) ?_
     exact⟨(q+1,β),⟨hq',good ⟨by omega,λ_=>by omega⟩⟩,by simp only;omega,zad [] rfl ⟨cr,cr,cr,cr,cr,cr,cr,trivial⟩ trivial⟩
   ·simp only[zb]at h3
    refine zt ?_
    refine zd (m:=((q+1:Nat):Int)) (by dsimp only;omega) (by dsimp only;omega) ?_
    exact⟨(q+1,β),⟨hq',good ⟨by omega,λ_=>by omega⟩⟩,by simp only;omega,zad [] rfl ⟨cr,cr,cr,cr,cr,cr,cr,trivial⟩ trivial⟩
 simp only[zb]at h
 cases β with
 |true=>
  have h4:=hβ.1 rfl
  have hjr:j=r:=by
   rcases Nat.lt_or_ge j r with h5 |h5
   ·have h6:=h4 r hr (by omega)
    have h7:=r2 j h5
    omega
   ·omega
  subst hjr
  refine zq ?_
  refine zm (by omega) (by omega) (zai rfl hj') (zg rfl ?_)
  exact⟨_,rfl,cr⟩
 |false=>
  have hne:j≠r:=λe=>by
   subst e
   have:=hβ.2 λk hk _=>⟨r1 k hk,λh5=>r2 k h5⟩
   cases this
  refine zt ?_
  refine zd (m:=((j+1:Nat):Int)) (by omega) (by omega) ?_
  exact⟨j+1,by omega,by omega,zad [] rfl ⟨cr,cr,cr,cr,trivial⟩ trivial⟩
end
section
def zin(s:Lean_)(pick:Int):Int:=
 if zan s true=[]then-1
 else if 0<=pick then(zan s true).getD (pick%(zan s true).length).toNat 0
 else(farL (λy=>gapI (2*s.own) y s.leaves) (zan s true)).1
theorem zqo{s:Lean_}(hf:za0 s.leaves=true)(h0:0<=s.own)(h1:s.own<s.leaves):ofI (2*s.own) s.leaves=true/\∀y∈zan s true,ofI y s.leaves=true:=by
 obtain⟨d,o,hd,hn,ho,he,_⟩:=zoz hf h0 h1
 refine⟨?_,λy hy=>?_⟩
 ·rw[zey];exact⟨hf,by omega,by omega⟩
 ·obtain⟨i,hi,rfl,_⟩:=(zgx hd ho hn he y).1 hy
  rw[hn]
  exact zys hd (by omega) (zcv ho hi)
theorem z8c{s:Lean_}(hf:za0 s.leaves=true)(h0:0<=s.own)(h1:s.own<s.leaves)(hne:zan s true≠[])(pick:Int):zin s pick∈zan s true:=by
 obtain⟨hx,hall⟩:=zqo hf h0 h1
 have hlp:0< (zan s true).length:=List.length_pos_iff.2 hne
 unfold zin
 rw[if_neg hne]
 split
 ·have hlt:(pick%(zan s true).length).toNat< (zan s true).length:=by
   have:=Int.emod_lt_of_pos pick (show(0:Int)< (zan s true).length by omega)
   have:=Int.emod_nonneg pick (show((zan s true).length:Int)≠0 by omega)
   omega
  rw[List.getD_eq_getElem?_getD,List.getElem?_eq_getElem hlt]
  exact List.getElem_mem hlt
 ·rcases zpo (λy=>gapI (2*s.own) y s.leaves) _ (zan s true) rfl λy hy=>(zu1 hx (hall y hy)).1 with⟨h,_⟩ |⟨i,hi,_,he⟩
  ·exact absurd h hne
  ·rw[he];exact List.getElem_mem hi
theorem zpn(s:Lean_)(b:Bool):(zan s b).length<=17:=by
 have h1:=List.length_filter_le (λc=>(zae s.opn c).isSome==b) (zau (2*s.own) s.leaves)
 have h2:(zau (2*s.own) s.leaves).length<=17:=by rw[zee];exact zd2 _ _
 unfold zan
 omega
theorem zgtb(s:Lean_)(hs:s.fitN)(hl:s.lookOk=true)(hf:za0 s.leaves=true)(h0:0<=s.own)(h1:s.own<s.leaves)(pick:Int)(hp:i64 pick):zaf Tryz.prog 66 [.ag s.c,I pick] (.r (I (zin s pick))):=by
 refine zac (T:=Tab) mixed Tab_ok Tryz.func66 rfl (by kernel_rfl) ?_
 have hb:=zc4 hf
 have gop:=ztg s hs hl ⟨h0,by omega⟩ true
 obtain⟨hx,hall⟩:=zqo hf h0 h1
 have hlen:=zpn s true
 unfold zin
 obtain⟨L,hL⟩: ∃L,L=zan s true:=⟨_,rfl⟩
 rw[<-hL]at gop hall hlen⊢
 refine za rfl rfl ?_
 refine ze gop ?_
 by_cases hne:L=[]
 ·rw[if_pos hne]
  refine zu (by rw[hne];simp) (zq ?_)
  exact cr
 rw[if_neg hne]
 have hlp:0<L.length:=List.length_pos_iff.2 hne
 refine zw (by simp only[zb];omega) (zt ?_)
 refine zh (λh=>zq ?_) (λh=>zt ?_)
 ·simp only[zb]at h
  rw[if_pos h]
  have hm1:=Int.emod_lt_of_pos pick (show(0:Int)<L.length by omega)
  have hm0:=Int.emod_nonneg pick (show(L.length:Int)≠0 by omega)
  refine⟨by omega,pick%L.length,by rw[Int.tmod_eq_emod_of_nonneg h],?_⟩
  refine zm (by omega) (by omega) (zai (j:=(pick%L.length).toNat) (by omega) (by omega)) (zg rfl ?_)
  refine zf ?_
  rw[List.getD_eq_getElem?_getD,List.getElem?_eq_getElem (show(pick%L.length).toNat<L.length by omega)]
  rfl
 ·simp only[zb]at h
  rw[if_neg (by omega)]
  refine zd rfl (by omega) ?_
  refine ze (zgnb (2*s.own) s.leaves L (by omega) hne hx hall) ?_
  exact cr
theorem z8u(s:Lean_)(h2:s.opn.length<=1000000000)(hf:za0 s.leaves=true)(h0:0<=s.own)(h1:s.own<s.leaves)(pick:Int)(hp:i64 pick):zaf Tryz.prog 37 [.ag s.c,I pick] (.r (I (zin s pick))):=by
 refine zac (T:=Tab) mixed Tab_ok Tryz.func37 rfl (by kernel_rfl) ?_
 have hb:=zc4 hf
 have gop:=z47 s true h2 (by omega)
 obtain⟨hx,hall⟩:=zqo hf h0 h1
 have hlen:=zpn s true
 unfold zin
 obtain⟨L,hL⟩: ∃L,L=zan s true:=⟨_,rfl⟩
 rw[<-hL]at gop hall hlen⊢
 refine za rfl rfl ?_
 refine ze gop ?_
 by_cases hne:L=[]
 ·rw[if_pos hne]
  refine zu (by rw[hne];simp) (zq ?_)
  exact cr
 rw[if_neg hne]
 have hlp:0<L.length:=List.length_pos_iff.2 hne
 refine zw (by simp only[zb];omega) (zt ?_)
 refine zh (λh=>zq ?_) (λh=>zt ?_)
 ·simp only[zb]at h
  rw[if_pos h]
  have hm1:=Int.emod_lt_of_pos pick (show(0:Int)<L.length by omega)
  have hm0:=Int.emod_nonneg pick (show(L.length:Int)≠0 by omega)
  refine⟨by omega,pick%L.length,by rw[Int.tmod_eq_emod_of_nonneg h],?_⟩
  refine zm (by omega) (by omega) (zai (j:=(pick%L.length).toNat) (by omega) (by omega)) (zg rfl ?_)
  refine zf ?_
  rw[List.getD_eq_getElem?_getD,List.getElem?_eq_getElem (show(pick%L.length).toNat<L.length by omega)]
  rfl
 ·simp only[zb]at h
  rw[if_neg (by omega)]
  refine zd rfl (by omega) ?_
  refine ze (zc3b (2*s.own) s.leaves L (by omega) hne hx hall) ?_
  exact cr
theorem zj6{α:Type}{l:List α}{j:Nat}(hj:j<l.length):l.take (j+1)=l.take j++[l[j]]:=by
 rw[List.take_add_one,List.getElem?_eq_getElem hj];rfl
end
end Go.Proofs.YtpdllgbfemnemaaGreat.Sx
