import Derived.Test.YtkegaaonpekkgaaGreatZJm
import Derived.Test.YtkegaaonpekkgaaGreatZTb
import Derived.Test.YtkegaaonpekkgaaGreatZTi
import Derived.Test.YtkegaaonpekkgaaGreatZGq
namespace Go.Proofs.YtkegaaonpekkgaaGreat.Sx
open Go.RowKit
abbrev inL(l:List UInt8):List (Nat×Ow):=[(0, .box [.own 1, .r (Er 0)]),(1,rdO (bs l) 0)]
theorem ze6(l m:List UInt8)(v0 v1:Value):zjz (inL l) (inL m) [(0,v0),(1,v1)]:=⟨⟨_,_,rfl,rfl,zai,zai⟩,⟨_,_,rfl,rfl,zai,zai⟩,trivial⟩
theorem zi0(v0 v1:Value)(l:List UInt8):Acts aP 301 2 (inL l) [.own 0, .r (Er 0)] [(0,v0),(1,v1)] 2 (inL l) (.r (.tu [])):=by
 refine zah (T:=Tab) mixed Tab_ok Tryz.func301 rfl (by kernel_rfl) rfl (ze6 _ _ _ _) ?_
 refine zt rfl (zp ?_)
 exact zan (.inr rfl) [(0,0),(1,1)] [] [] rfl ⟨⟨rfl,rfl⟩,⟨rfl,rfl⟩,trivial⟩ ⟨⟨_,_,rfl,rfl,_,_,rfl,cr,rfl⟩,(aB aZ),trivial⟩ ⟨⟨1000000,rfl⟩,⟨1000001,rfl⟩,trivial⟩ ⟨_,rfl,cr⟩
theorem zggb(v0 v1:Value)(c:UInt8)(l:List UInt8)(hc:c.toNat<=1):Acts aP 414 2 (inL (c::l)) [.own 0] [(0,v0),(1,v1)] 2 (inL l) (.r (.b (decide (c.toNat=1)))):=by
 refine zah (T:=Tab) mixed Tab_ok Tryz.func414 rfl (by kernel_rfl) rfl (ze6 _ _ _ _) ?_
 refine zu rfl (zq ?_)
 refine zj [(0,1)] [0] (λvs _=>zfwb (vs 0) c l hc) (zi rfl ⟨_,_,rfl,rfl,rfl⟩) rfl ⟨(aB aZ),trivial⟩ ⟨zad,trivial⟩ ?_
 refine zj [(0,1)] [0] (λvs _=>zix (vs 0) l) (zi rfl ⟨_,_,rfl,rfl,rfl⟩) rfl ⟨(aB aZ),trivial⟩ ⟨zad,trivial⟩ ?_
 refine zj [(0,0),(1,1)] [0,1] (λvs _=>zi0 (vs 0) (vs 1) l) (zi rfl ⟨_,_,rfl,rfl,_,_,rfl,cr,rfl⟩) rfl ⟨⟨_,_,rfl,rfl,_,_,rfl,cr,rfl⟩,(aB aZ),trivial⟩ ⟨zad,zad,trivial⟩ ?_
 exact zan (.inl rfl) [(0,0),(1,1)] [(2, .r (.b (decide (c.toNat=1))))] [] rfl ⟨cr,⟨rfl,rfl⟩,⟨rfl,rfl⟩,trivial⟩ ⟨⟨_,_,rfl,rfl,_,_,rfl,cr,rfl⟩,(aB aZ),trivial⟩ ⟨⟨1000000,rfl⟩,⟨1000001,rfl⟩,trivial⟩ (cr)
theorem z70(v0 v1:Value)(l:List UInt8)(n:Nat)(h1:n=1\/n=2\/n=4\/n=8)(hn:n<=l.length):Acts aP 305 2 (inL l) [.own 0, .r (I n)] [(0,v0),(1,v1)] 2 (inL (l.drop n)) (.r (U64 (numA 0 (l.take n)))):=by
 refine zah (T:=Tab) mixed Tab_ok Tryz.func305 rfl (by kernel_rfl) rfl (ze6 _ _ _ _) ?_
 refine zu rfl (zq ?_)
 refine zj [(0,1)] [0] (λvs _=>z7m (vs 0) l n h1 hn) (zi rfl ⟨_,_,rfl,rfl,_,_,rfl,cr,rfl⟩) rfl ⟨(aB aZ),trivial⟩ ⟨zad,trivial⟩ ?_
 refine zj [(0,1)] [0] (λvs _=>zix (vs 0) (l.drop n)) (zi rfl ⟨_,_,rfl,rfl,rfl⟩) rfl ⟨(aB aZ),trivial⟩ ⟨zad,trivial⟩ ?_
 refine zj [(0,0),(1,1)] [0,1] (λvs _=>zi0 (vs 0) (vs 1) (l.drop n)) (zi rfl ⟨_,_,rfl,rfl,_,_,rfl,cr,rfl⟩) rfl ⟨⟨_,_,rfl,rfl,_,_,rfl,cr,rfl⟩,(aB aZ),trivial⟩ ⟨zad,zad,trivial⟩ ?_
 exact zan (.inl rfl) [(0,0),(1,1)] [(4, .r (U64 (numA 0 (l.take n))))] [] rfl ⟨cr,⟨rfl,rfl⟩,⟨rfl,rfl⟩,trivial⟩ ⟨⟨_,_,rfl,rfl,_,_,rfl,cr,rfl⟩,(aB aZ),trivial⟩ ⟨⟨1000000,rfl⟩,⟨1000001,rfl⟩,trivial⟩ (cr)
theorem z71(v0 v1:Value)(l r x:List UInt8)(hl:l.length<=8000000000000)(h:vecP l= .ok x r):Acts aP 304 2 (inL l) [.own 0] [(0,v0),(1,v1)] 2 (inL r) (.r (bs x)):=by
 refine zah (T:=Tab) mixed Tab_ok Tryz.func304 rfl (by kernel_rfl) rfl (ze6 _ _ _ _) ?_
 refine zu rfl (zq ?_)
 refine zj [(0,1)] [0] (λvs _=>zff (vs 0) l r x hl h) (zi rfl ⟨_,_,rfl,rfl,rfl⟩) rfl ⟨(aB aZ),trivial⟩ ⟨zad,trivial⟩ ?_
 refine zj [(0,1)] [0] (λvs _=>zix (vs 0) r) (zi rfl ⟨_,_,rfl,rfl,rfl⟩) rfl ⟨(aB aZ),trivial⟩ ⟨zad,trivial⟩ ?_
 refine zj [(0,0),(1,1)] [0,1] (λvs _=>zi0 (vs 0) (vs 1) r) (zi rfl ⟨_,_,rfl,rfl,_,_,rfl,cr,rfl⟩) rfl ⟨⟨_,_,rfl,rfl,_,_,rfl,cr,rfl⟩,(aB aZ),trivial⟩ ⟨zad,zad,trivial⟩ ?_
 exact zan (.inl rfl) [(0,0),(1,1)] [(2, .r (bs x))] [] rfl ⟨cr,⟨rfl,rfl⟩,⟨rfl,rfl⟩,trivial⟩ ⟨⟨_,_,rfl,rfl,_,_,rfl,cr,rfl⟩,(aB aZ),trivial⟩ ⟨⟨1000000,rfl⟩,⟨1000001,rfl⟩,trivial⟩ (cr)
theorem zghb(v0 v1:Value)(l:List UInt8)(n m:Nat)(h1:n=1\/n=2\/n=4\/n=8)(hn:n<=l.length)(hm:numA 0 (l.take n)=m):Acts aP 303 2 (inL l) [.own 0, .r (I n), .r (U64 m)] [(0,v0),(1,v1)] 2 (inL (l.drop n)) (.r (.tu [])):=by
 refine zah (T:=Tab) mixed Tab_ok Tryz.func303 rfl (by kernel_rfl) rfl (ze6 _ _ _ _) ?_
 refine zj [(0,0),(1,1)] [0,1] (λvs _=>z70 (vs 0) (vs 1) l n h1 hn) (zi rfl ⟨_,_,rfl,rfl,_,_,rfl,cr,rfl⟩) rfl ⟨⟨_,_,rfl,rfl,_,_,rfl,cr,rfl⟩,(aB aZ),trivial⟩ ⟨zad,zad,trivial⟩ ?_
 refine zu (by simp only[zb];omega) (zq ?_)
 exact zan (.inr rfl) [(0,0),(1,1)] [] [] rfl ⟨⟨rfl,rfl⟩,⟨rfl,rfl⟩,trivial⟩ ⟨⟨_,_,rfl,rfl,_,_,rfl,cr,rfl⟩,(aB aZ),trivial⟩ ⟨⟨1000000,rfl⟩,⟨1000001,rfl⟩,trivial⟩ ⟨_,rfl,cr⟩
theorem zxo(v0 v1:Value)(l r:List UInt8)(hl:l.length<=8000000000000)(h:vecP l= .ok [] r):Acts aP 411 2 (inL l) [.own 0, .r .any] [(0,v0),(1,v1)] 2 (inL r) (.r (.tu [])):=by
 refine zah (T:=Tab) mixed Tab_ok Tryz.func411 rfl (by kernel_rfl) rfl (ze6 _ _ _ _) ?_
 refine zj [(0,0),(1,1)] [0,1] (λvs _=>z71 (vs 0) (vs 1) l r [] hl h) (zi rfl ⟨_,_,rfl,rfl,rfl⟩) rfl ⟨⟨_,_,rfl,rfl,_,_,rfl,cr,rfl⟩,(aB aZ),trivial⟩ ⟨zad,zad,trivial⟩ ?_
 refine ze (zpj []) ?_
 refine Vstep.nmB 4 1000004 rfl λb=>Vstep.sub (zk6 (id:=4) (t:=7) (tn:=1000004) rfl rfl) (Vstep.val Tab_ok ?_)
 refine zy (λ_:Nat=>⟨[(0, .own 0),(4, .own 5),(1000000, .nm 0 v0),(1000001, .nm 1 v1)],[(0,some (.box [.own 1, .r (Er 0)])),(1,some (rdO (bs r) 0)),(4,some (rdO (bs []) 0)),(5,some (.box [.own 4, .r (Er 0)]))],6⟩) (λ_=>True) (λ_=>0) 0 trivial (Sub.trans (zj8 (id:=5) (j:=4) (tn:=1000004) (i:=0) rfl rfl rfl) (zac [(0,0),(1,1),(4,4),(5,5)] rfl ⟨rfl,rfl,⟨rfl,rfl⟩,⟨rfl,rfl⟩,trivial⟩ ⟨⟨_,_,rfl,rfl,_,_,rfl,cr,rfl⟩,(aB aZ),(aB aZ),⟨_,_,rfl,rfl,_,_,rfl,cr,rfl⟩,trivial⟩)) ?_
 intro _ _
 refine zt rfl ?_
 refine zj [(0,4)] [0] (λvs _=>zfyb (vs 0) []) (zi rfl ⟨_,_,rfl,rfl,rfl⟩) rfl ⟨(aB aZ),trivial⟩ ⟨zad,trivial⟩ ?_
 refine zu rfl (zq ?_)
 exact zan (.inr rfl) [(0,0),(1,1)] [] [] rfl ⟨⟨rfl,rfl⟩,⟨rfl,rfl⟩,trivial⟩ ⟨⟨_,_,rfl,rfl,_,_,rfl,cr,rfl⟩,(aB aZ),trivial⟩ ⟨⟨1000000,rfl⟩,⟨1000001,rfl⟩,trivial⟩ ⟨_,rfl,cr⟩
theorem zji(x:Nat):(UInt8.ofNat x).toNat=x%256:=by rw[UInt8.toNat_ofNat']
theorem beB1(n:Nat):beB 1 n=[UInt8.ofNat n]:=by simp[beB]
theorem beB2(n:Nat):beB 2 n=[UInt8.ofNat (n/256),UInt8.ofNat n]:=by simp[beB]
theorem beB4(n:Nat):beB 4 n=[UInt8.ofNat (n/16777216),UInt8.ofNat (n/65536),UInt8.ofNat (n/256),UInt8.ofNat n]:=by simp[beB]
theorem z5p{n:Nat}(hn:n<1073741824)(r:List UInt8):lenP (lenB n++r)= .ok n r:=by
 unfold lenB
 split
 ·rename_i h
  rw[beB1]
  have hc:(UInt8.ofNat n).toNat=n:=by rw[zji];omega
  have hm:zax (UInt8.ofNat n)=0:=by unfold zax;rw[hc,if_neg (by omega),if_neg (by omega)]
  have hz:zc6 n=1:=by unfold zc6;rw[if_pos h]
  simp only[List.cons_append,List.nil_append,lenP,hm,hc,List.take_zero,List.drop_zero]
  rw[if_neg (by omega),if_neg (by omega)]
  have:numA (n%64) []=n:=by simp only[numA,List.foldl_nil];omega
  rw[this,hz]
  simp
 split
 ·rename_i h0 h
  rw[beB2]
  have hc:(UInt8.ofNat ((16384+n)/256)).toNat=64+n/256:=by rw[zji];omega
  have hd:(UInt8.ofNat (16384+n)).toNat=n%256:=by rw[zji];omega
  have hm:zax (UInt8.ofNat ((16384+n)/256))=1:=by unfold zax;rw[hc,if_neg (by omega),if_pos (by omega)]
  have hz:zc6 n=2:=by unfold zc6;rw[if_neg h0,if_pos h]
  simp only[List.cons_append,List.nil_append,lenP,hm,hc]
  rw[if_neg (by omega),if_neg (by simp)]
  have:numA ((64+n/256)%64) ((UInt8.ofNat (16384+n)::r).take 1)=n:=by simp only[List.take_succ_cons,List.take_zero,numA,List.foldl_cons,List.foldl_nil,hd];omega
  rw[this,hz]
  simp
 ·rename_i h0 h1
  rw[beB4]
  have hc:(UInt8.ofNat ((2147483648+n)/16777216)).toNat=128+n/16777216:=by rw[zji];omega
  have h2:(UInt8.ofNat ((2147483648+n)/65536)).toNat=n/65536%256:=by rw[zji];omega
  have h3:(UInt8.ofNat ((2147483648+n)/256)).toNat=n/256%256:=by rw[zji];omega
  have h4:(UInt8.ofNat (2147483648+n)).toNat=n%256:=by rw[zji];omega
  have hm:zax (UInt8.ofNat ((2147483648+n)/16777216))=3:=by unfold zax;rw[hc,if_pos (by omega)]
  have hz:zc6 n=4:=by unfold zc6;rw[if_neg h0,if_neg h1]
  simp only[List.cons_append,List.nil_append,lenP,hm,hc]
  rw[if_neg (by omega),if_neg (by simp)]
  have:numA ((128+n/16777216)%64) ((UInt8.ofNat ((2147483648+n)/65536)::UInt8.ofNat ((2147483648+n)/256)::UInt8.ofNat (2147483648+n)::r).take 3)=n:=by
   simp only[List.take_succ_cons,List.take_zero,numA,List.foldl_cons,List.foldl_nil,h2,h3,h4];omega
  rw[this,hz]
  simp
theorem zdr{v:List UInt8}(hv:v.length<1073741824)(r:List UInt8):vecP (vecB v++r)= .ok v r:=by
 unfold vecP vecB
 rw[List.append_assoc,z5p hv]
 simp only
 rw[if_neg (by simp),List.take_left,List.drop_left]
theorem z1a{a b c:List UInt8}(ha:a.length<1073741824)(hb:b.length<1073741824)(hc:c.length<1073741824)(r:List UInt8):zfa 3 (vecB a++(vecB b++(vecB c++r)))= .ok [a,b,c] r:=by
 simp only[zfa,zdr ha,zdr hb,zdr hc]
theorem z87(l:Leaf)(r:List UInt8):zdl l++r=vecB l.box++(vecB l.sign++(vecB l.ident++(l.src::((if l.src.toNat=3 then vecB l.parent else[])++(vecB l.sig++r))))):=by
 simp[zdl,zbc]
theorem z0z{l:Leaf}(hr:l.right=true)(r:List UInt8):zox (zdl l++r)= .ok l r:=by
 have hr':=hr
 simp only[Leaf.right,decide_eq_true_eq]at hr'
 obtain⟨h1,h2,h3,h4,h5,h6,h7,h8⟩:=hr'
 rw[z87]
 unfold zox
 rw[z1a (by omega) (by omega) (by omega)]
 simp only[znq]
 rw[if_neg (by omega)]
 have hp:zg0 l.src ((if l.src.toNat=3 then vecB l.parent else[])++(vecB l.sig++r))= .ok l.parent (vecB l.sig++r):=by
  unfold zg0
  by_cases h:l.src.toNat=3
  ·rw[if_pos h,if_pos h,zdr (by omega)]
  ·rw[if_neg h,if_neg h,List.eq_nil_of_length_eq_zero (show l.parent.length=0 by omega)]
   rfl
 rw[hp]
 simp only[zkv]
 rw[zdr (by omega)]
 have e:zgf [l.box,l.sign,l.ident] l.src l.parent l.sig=l:=rfl
 simp only[e]
 rw[if_pos hr]
theorem zqm(x:Nat): ∀s a,numA a (beB s x)=a*256^s+x%256^s
 |0,a=>by
  show a=a*1+x%1
  rw[Nat.mul_one,Nat.mod_one,Nat.add_zero]
 |s+1,a=>by
  have ih:=zqm x s (256*a+(UInt8.ofNat (x/256^s)).toNat)
  have h1:(UInt8.ofNat (x/256^s)).toNat=x/256^s%256:=by rw[UInt8.toNat_ofNat']
  have h2:x%256^(s+1)=x%256^s+256^s*(x/256^s%256):=by rw[Nat.pow_succ,Nat.mod_mul]
  show numA (256*a+(UInt8.ofNat (x/256^s)).toNat) (beB s x)=_
  rw[ih,h1,h2,Nat.pow_succ]
  generalize x/256^s%256=d
  generalize x%256^s=e
  generalize 256^s=q
  have h3:(256*a+d)*q=a*(q*256)+q*d:=by
   rw[Nat.add_mul,Nat.mul_comm d q,Nat.mul_comm 256 a,Nat.mul_assoc,Nat.mul_comm 256 q]
  rw[h3]
  omega
theorem zs7(v0 v1:Value)(s x:Nat)(r:List UInt8)(h1:s=1\/s=2\/s=4\/s=8)(hx:x<256^s):Acts aP 305 2 (inL (beB s x++r)) [.own 0, .r (I s)] [(0,v0),(1,v1)] 2 (inL r) (.r (U64 x)):=by
 have h:=z70 v0 v1 (beB s x++r) s h1 (by rw[aL,zak];omega)
 rw[List.take_left' (zak s x),List.drop_left' (zak s x),zqm,Nat.zero_mul,Nat.zero_add,Nat.mod_eq_of_lt hx]at h
 exact h
theorem zqc(v0 v1:Value)(s x:Nat)(r:List UInt8)(h1:s=1\/s=2\/s=4\/s=8)(hx:x<256^s):Acts aP 303 2 (inL (beB s x++r)) [.own 0, .r (I s), .r (U64 x)] [(0,v0),(1,v1)] 2 (inL r) (.r (.tu [])):=by
 have h:=zghb v0 v1 (beB s x++r) s x h1 (by rw[aL,zak];omega) (by rw[List.take_left' (zak s x),zqm,Nat.zero_mul,Nat.zero_add,Nat.mod_eq_of_lt hx])
 rw[List.drop_left' (zak s x)]at h
 exact h
theorem zou(v0 v1:Value)(x r:List UInt8)(hx:x.length<=1000000)(hr:r.length<=1000000):Acts aP 304 2 (inL (vecB x++r)) [.own 0] [(0,v0),(1,v1)] 2 (inL r) (.r (bs x)):=
 z71 v0 v1 (vecB x++r) r x (by have:=zag x;rw[aL];omega) (zdr (by omega) r)
theorem zgib(v0 v1:Value)(l r:List UInt8)(x:Leaf)(hl:l.length<=8000000000)(h:zox l= .ok x r):Acts aP 410 2 (inL l) [.own 0] [(0,v0),(1,v1)] 3 (inL r) (.r (.ag x.c)):=by
 refine zah (T:=Tab) mixed Tab_ok Tryz.func410 rfl (by kernel_rfl) rfl (ze6 _ _ _ _) ?_
 refine zu rfl (zq ?_)
 refine zj [(0,1)] [0] (λvs _=>z4k (vs 0) l r x hl h) (zi rfl ⟨_,_,rfl,rfl,rfl⟩) rfl ⟨(aB aZ),trivial⟩ ⟨zad,trivial⟩ ?_
 refine zj [(0,0),(1,1)] [0,1] (λvs _=>zi0 (vs 0) (vs 1) r) (zi rfl ⟨_,_,rfl,rfl,_,_,rfl,cr,rfl⟩) rfl ⟨⟨_,_,rfl,rfl,_,_,rfl,cr,rfl⟩,(aB aZ),trivial⟩ ⟨zad,zad,trivial⟩ ?_
 refine za rfl rfl ?_
 exact zan (.inl rfl) [(0,0),(1,1),(2,2)] [(2, .own 2)] [(2,some (.box (x.c.map .r)))] rfl ⟨rfl,⟨rfl,rfl⟩,⟨rfl,rfl⟩,trivial⟩ ⟨⟨_,_,rfl,rfl,_,_,rfl,cr,rfl⟩,(aB aZ),(aC (aB aZ)),trivial⟩ ⟨⟨1000000,rfl⟩,⟨1000001,rfl⟩,trivial⟩ (za rfl rfl (cr))
theorem z7z(v0 v1:Value)(l l1 l2 r:List UInt8)(x:Leaf)(hl:l.length<=1000000)(hl1:l1.length<=1000000)(hl2:l2.length<=1000000)(hv:vecP l= .ok [] (1::l1))(hL:zox l1= .ok x l2)(hw:vecP l2= .ok [] r):
  Acts aP 307 2 (inL l) [.own 0] [(0,v0),(1,v1)] 3 (inL r) (.r (.ag (comR x))):=by
 have hf: ∀v0 v1:Value,Acts aP 414 2 (inL (1::l1)) [.own 0] [(0,v0),(1,v1)] 2 (inL l1) (.r (.b true)):=λv0 v1=>zggb v0 v1 1 l1 (by decide)
 refine zah (T:=Tab) mixed Tab_ok Tryz.func307 rfl (by kernel_rfl) rfl (ze6 _ _ _ _) ?_
 refine Vstep.nm 3 1000003 rfl λp=>Vstep.mkfunX [p] rfl ⟨_,_,rfl,⟨3,1000003,rfl,rfl⟩,rfl⟩ ?_
 refine zj [(0,0),(1,1)] [0,1] (λvs _=>zxo (vs 0) (vs 1) l (1::l1) (by omega) hv) (zi rfl ⟨_,_,rfl,rfl,_,_,rfl,trivial,rfl⟩) rfl ⟨⟨_,_,rfl,rfl,_,_,rfl,cr,rfl⟩,(aB aZ),trivial⟩ ⟨zad,zad,trivial⟩ ?_
 refine zj [(0,0),(1,1)] [0,1] (λvs _=>hf (vs 0) (vs 1)) (zi rfl ⟨_,_,rfl,rfl,rfl⟩) rfl ⟨⟨_,_,rfl,rfl,_,_,rfl,cr,rfl⟩,(aB aZ),trivial⟩ ⟨zad,zad,trivial⟩ ?_
 refine zp ?_
 refine zj [(0,0),(1,1)] [0,1] (λvs _=>zgib (vs 0) (vs 1) l1 l2 x (by omega) hL) (zi rfl ⟨_,_,rfl,rfl,rfl⟩) rfl ⟨⟨_,_,rfl,rfl,_,_,rfl,cr,rfl⟩,(aB aZ),trivial⟩ ⟨zad,zad,trivial⟩ ?_
 refine Vstep.mkfunX [p] rfl ⟨_,_,rfl,⟨3,1000003,rfl,rfl⟩,rfl⟩ ?_
 refine zj [(0,0),(1,1)] [0,1] (λvs _=>zxo (vs 0) (vs 1) l2 r (by omega) hw) (zi rfl ⟨_,_,rfl,rfl,_,_,rfl,trivial,rfl⟩) rfl ⟨⟨_,_,rfl,rfl,_,_,rfl,cr,rfl⟩,(aB aZ),trivial⟩ ⟨zad,zad,trivial⟩ ?_
 refine za rfl rfl ?_
 exact zan (.inl rfl) [(0,0),(1,1),(2,2)] [(2, .own 2)] [(2,some (.box ((comR x).map .r)))] rfl ⟨rfl,⟨rfl,rfl⟩,⟨rfl,rfl⟩,trivial⟩ ⟨⟨_,_,rfl,rfl,_,_,rfl,cr,rfl⟩,(aB aZ),(aD (aA aZ)),trivial⟩ ⟨⟨1000000,rfl⟩,⟨1000001,rfl⟩,trivial⟩ (za rfl rfl (cr))
set_option maxRecDepth 20000 in
theorem zvz(v0 v1:Value)(l0 l1 l2 l3 l4 l5 l6 l7 l8 l9 l10 l11:List UInt8)(m:MsgP)(hm:m.sm)
  (c1: ∀v0 v1:Value,Acts aP 303 2 (inL l0) [.own 0, .r (I 2), .r (U64 1)] [(0,v0),(1,v1)] 2 (inL l1) (.r (.tu [])))
  (c2: ∀v0 v1:Value,Acts aP 303 2 (inL l1) [.own 0, .r (I 2), .r (U64 1)] [(0,v0),(1,v1)] 2 (inL l2) (.r (.tu [])))
  (c3: ∀v0 v1:Value,Acts aP 304 2 (inL l2) [.own 0] [(0,v0),(1,v1)] 2 (inL l3) (.r (bs m.group)))
  (c4: ∀v0 v1:Value,Acts aP 305 2 (inL l3) [.own 0, .r (I 8)] [(0,v0),(1,v1)] 2 (inL l4) (.r (U64 m.epoch)))
  (c5: ∀v0 v1:Value,Acts aP 303 2 (inL l4) [.own 0, .r (I 1), .r (U64 1)] [(0,v0),(1,v1)] 2 (inL l5) (.r (.tu [])))
  (c6: ∀v0 v1:Value,Acts aP 305 2 (inL l5) [.own 0, .r (I 4)] [(0,v0),(1,v1)] 2 (inL l6) (.r (U64 m.frm)))
  (c7: ∀v0 v1:Value,Acts aP 305 2 (inL l6) [.own 0, .r (I 1)] [(0,v0),(1,v1)] 2 (inL l7) (.r (U64 3)))
  (c8: ∀v0 v1:Value,Acts aP 307 2 (inL l7) [.own 0] [(0,v0),(1,v1)] 3 (inL l8) (.r (.ag (comR m.lf))))
  (c9: ∀v0 v1:Value,Acts aP 304 2 (inL l8) [.own 0] [(0,v0),(1,v1)] 2 (inL l9) (.r (bs m.sig)))
  (c10: ∀v0 v1:Value,Acts aP 304 2 (inL l9) [.own 0] [(0,v0),(1,v1)] 2 (inL l10) (.r (bs m.tag)))
  (c11: ∀v0 v1:Value,Acts aP 304 2 (inL l10) [.own 0] [(0,v0),(1,v1)] 2 (inL l11) (.r (bs m.mem))):
  Acts aP 193 2 (inL l0) [.own 0] [(0,v0),(1,v1)] 3 (inL l11) (.r (.ag m.c)):=by
 obtain⟨h1,h2,h3,h4,h5,h6,h7,h8,h9⟩:=hm
 refine zah (T:=Tab) mixed Tab_ok Tryz.func193 rfl (by kernel_rfl) rfl (ze6 _ _ _ _) ?_
 refine zj [(0,0),(1,1)] [0,1] (λvs _=>c1 (vs 0) (vs 1)) (zi rfl ⟨_,_,rfl,rfl,_,_,rfl,cr,_,_,rfl,cr,rfl⟩) rfl ⟨⟨_,_,rfl,rfl,_,_,rfl,cr,rfl⟩,(aB aZ),trivial⟩ ⟨zad,zad,trivial⟩ ?_
 refine zj [(0,0),(1,1)] [0,1] (λvs _=>c2 (vs 0) (vs 1)) (zi rfl ⟨_,_,rfl,rfl,_,_,rfl,cr,_,_,rfl,cr,rfl⟩) rfl ⟨⟨_,_,rfl,rfl,_,_,rfl,cr,rfl⟩,(aB aZ),trivial⟩ ⟨zad,zad,trivial⟩ ?_
 refine zj [(0,0),(1,1)] [0,1] (λvs _=>c3 (vs 0) (vs 1)) (zi rfl ⟨_,_,rfl,rfl,rfl⟩) rfl ⟨⟨_,_,rfl,rfl,_,_,rfl,cr,rfl⟩,(aB aZ),trivial⟩ ⟨zad,zad,trivial⟩ ?_
 refine zj [(0,0),(1,1)] [0,1] (λvs _=>c4 (vs 0) (vs 1)) (zi rfl ⟨_,_,rfl,rfl,_,_,rfl,cr,rfl⟩) rfl ⟨⟨_,_,rfl,rfl,_,_,rfl,cr,rfl⟩,(aB aZ),trivial⟩ ⟨zad,zad,trivial⟩ ?_
 refine zj [(0,0),(1,1)] [0,1] (λvs _=>c5 (vs 0) (vs 1)) (zi rfl ⟨_,_,rfl,rfl,_,_,rfl,cr,_,_,rfl,cr,rfl⟩) rfl ⟨⟨_,_,rfl,rfl,_,_,rfl,cr,rfl⟩,(aB aZ),trivial⟩ ⟨zad,zad,trivial⟩ ?_
 refine zj [(0,0),(1,1)] [0,1] (λvs _=>c6 (vs 0) (vs 1)) (zi rfl ⟨_,_,rfl,rfl,_,_,rfl,cr,rfl⟩) rfl ⟨⟨_,_,rfl,rfl,_,_,rfl,cr,rfl⟩,(aB aZ),trivial⟩ ⟨zad,zad,trivial⟩ ?_
 refine zd (m:=(m.frm:Int)) (by omega) (by omega) ?_
 refine zj [(0,0),(1,1)] [0,1] (λvs _=>c7 (vs 0) (vs 1)) (zi rfl ⟨_,_,rfl,rfl,_,_,rfl,cr,rfl⟩) rfl ⟨⟨_,_,rfl,rfl,_,_,rfl,cr,rfl⟩,(aB aZ),trivial⟩ ⟨zad,zad,trivial⟩ ?_
 refine Vint.n 3 (by show(3:Int)=IntKind.u8.wrap 3;decide) ?_
 refine zu rfl (zq ?_)
 refine zt rfl (zp ?_)
 refine zj [(0,0),(1,1)] [0,1] (λvs _=>c8 (vs 0) (vs 1)) (zi rfl ⟨_,_,rfl,rfl,rfl⟩) rfl ⟨⟨_,_,rfl,rfl,_,_,rfl,cr,rfl⟩,(aB aZ),trivial⟩ ⟨zad,zad,trivial⟩ ?_
 refine zj [(0,0),(1,1)] [0,1] (λvs _=>c9 (vs 0) (vs 1)) (zi rfl ⟨_,_,rfl,rfl,rfl⟩) rfl ⟨⟨_,_,rfl,rfl,_,_,rfl,cr,rfl⟩,(aB aZ),trivial⟩ ⟨zad,zad,trivial⟩ ?_
 refine zt rfl (zp ?_)
 refine zj [(0,0),(1,1)] [0,1] (λvs _=>c10 (vs 0) (vs 1)) (zi rfl ⟨_,_,rfl,rfl,rfl⟩) rfl ⟨⟨_,_,rfl,rfl,_,_,rfl,cr,rfl⟩,(aB aZ),trivial⟩ ⟨zad,zad,trivial⟩ ?_
 refine zj [(0,0),(1,1)] [0,1] (λvs _=>c11 (vs 0) (vs 1)) (zi rfl ⟨_,_,rfl,rfl,rfl⟩) rfl ⟨⟨_,_,rfl,rfl,_,_,rfl,cr,rfl⟩,(aB aZ),trivial⟩ ⟨zad,zad,trivial⟩ ?_
 refine za rfl rfl ?_
 exact zan (.inl rfl) [(0,0),(1,1),(2,2)] [(2, .own 2)] [(2,some (.box (m.c.map .r)))] rfl ⟨rfl,⟨rfl,rfl⟩,⟨rfl,rfl⟩,trivial⟩ ⟨⟨_,_,rfl,rfl,_,_,rfl,cr,rfl⟩,(aB aZ),(aE (aE aZ)),trivial⟩ ⟨⟨1000000,rfl⟩,⟨1000001,rfl⟩,trivial⟩ (za rfl rfl (cr))
theorem zus(m:MsgP):msgB m=beB 2 1++(beB 2 1++(vecB m.group++(beB 8 m.epoch++(beB 1 1++(beB 4 m.frm++(beB 1 3++(vecB []++(1::(zdl m.lf++(vecB []++(vecB m.sig++(vecB m.tag++(vecB m.mem++[]))))))))))))):=by
 have e1:beB 1 1=[1]:=by decide
 have e3:beB 1 3=[3]:=by decide
 rw[e1,e3]
 simp only[msgB,zmj,zb3,frmB,comB,List.append_assoc,List.cons_append,List.nil_append,List.append_nil]
theorem z4s(v0 v1:Value)(m:MsgP)(hm:m.sm):Acts aP 193 2 (inL (msgB m)) [.own 0] [(0,v0),(1,v1)] 3 (inL []) (.r (.ag m.c)):=by
 obtain⟨h1,h2,h3,h4,h5,h6,h7,h8,h9⟩:=id hm
 obtain⟨k1,k2,k3,k4,k5⟩:=zhv h7
 have b1:=zi9 m.lf
 have b2:=zag m.sig
 have b3:=zag m.tag
 have b4:=zag m.mem
 have b5:=zag m.group
 have b6:=zag []
 rw[zus]
 have q11:(vecB m.mem++[]).length<=1000:=by simp only[aL,List.length_nil];omega
 generalize hl10:vecB m.mem++[]=l10 at q11
 have q10:(vecB m.tag++l10).length<=2000:=by simp only[aL];omega
 generalize hl9:vecB m.tag++l10=l9 at q10
 have q9:(vecB m.sig++l9).length<=3000:=by simp only[aL];omega
 generalize hl8:vecB m.sig++l9=l8 at q9
 have qa:(vecB []++l8).length<=4000:=by simp only[aL,List.length_nil]at*;omega
 generalize hla:vecB []++l8=la at qa
 have qb:(zdl m.lf++la).length<=5000:=by simp only[aL];omega
 generalize hlb:zdl m.lf++la=lb at qb
 have q8:(vecB []++(1::lb)).length<=6000:=by simp only[aL,List.length_cons,List.length_nil]at*;omega
 have p8: ∀v0 v1:Value,Acts aP 307 2 (inL (vecB []++(1::lb))) [.own 0] [(0,v0),(1,v1)] 3 (inL l8) (.r (.ag (comR m.lf))):=λv0 v1=>
  z7z v0 v1 _ lb la l8 m.lf (by omega) (by omega) (by omega) (zdr (by decide) _) (by rw[<-hlb];exact z0z h7 _) (by rw[<-hla];exact zdr (by decide) _)
 generalize vecB []++(1::lb)=l7 at q8 p8
 generalize hl6:beB 1 3++l7=l6
 generalize hl5:beB 4 m.frm++l6=l5
 generalize hl4:beB 1 1++l5=l4
 have q4:l4.length<=7000:=by rw[<-hl4,<-hl5,<-hl6];simp only[aL,zak];omega
 generalize hl3:beB 8 m.epoch++l4=l3
 have q3:l3.length<=8000:=by rw[<-hl3];simp only[aL,zak];omega
 generalize hl2:vecB m.group++l3=l2
 generalize hl1:beB 2 1++l2=l1
 generalize hl0:beB 2 1++l1=l0
 refine zvz v0 v1 l0 l1 l2 l3 l4 l5 l6 l7 l8 l9 l10 [] m hm ?_ ?_ ?_ ?_ ?_ ?_ ?_ p8 ?_ ?_ ?_
 ·rw[<-hl0];exactλv0 v1=>zqc v0 v1 2 1 _ (.inr (.inl rfl)) (by decide)
 ·rw[<-hl1];exactλv0 v1=>zqc v0 v1 2 1 _ (.inr (.inl rfl)) (by decide)
 ·rw[<-hl2];exactλv0 v1=>zou v0 v1 _ _ (by omega) (by omega)
 ·rw[<-hl3];exactλv0 v1=>zs7 v0 v1 8 _ _ (.inr (.inr (.inr rfl))) (by rw[show(256:Nat)^8=18446744073709551616 by decide];omega)
 ·rw[<-hl4];exactλv0 v1=>zqc v0 v1 1 1 _ (.inl rfl) (by decide)
 ·rw[<-hl5];exactλv0 v1=>zs7 v0 v1 4 _ _ (.inr (.inr (.inl rfl))) (by rw[show(256:Nat)^4=4294967296 by decide];omega)
 ·rw[<-hl6];exactλv0 v1=>zs7 v0 v1 1 3 _ (.inl rfl) (by decide)
 ·rw[<-hl8];exactλv0 v1=>zou v0 v1 _ _ (by omega) (by omega)
 ·rw[<-hl9];exactλv0 v1=>zou v0 v1 _ _ (by omega) (by omega)
 ·rw[<-hl10];exactλv0 v1=>zou v0 v1 _ _ (by omega) (by decide)
theorem zjrb(v0 v1 v2:Value)(l r:List UInt8)(m:MsgP)(c: ∀v0 v1:Value,Acts aP 193 2 (inL l) [.own 0] [(0,v0),(1,v1)] 3 (inL r) (.r (.ag m.c))):
  Acts aP 192 3 [(0, .box [.own 1, .r (Er 0)]),(1,rdO (bs l) 0),(2, .box (zMsg.map .r))] [.own 0, .own 2] [(0,v0),(1,v1),(2,v2)] 3 [(0, .box [.own 1, .r (Er 0)]),(1,rdO (bs r) 0),(2, .box (m.c.map .r))] (.r (.tu [])):=by
 refine zah (T:=Tab) mixed Tab_ok Tryz.func192 rfl (by kernel_rfl) rfl ⟨⟨_,_,rfl,rfl,zai,zai⟩,⟨_,_,rfl,rfl,zai,zai⟩,⟨_,_,rfl,rfl,zai,zai⟩,trivial⟩ ?_
 refine zj [(0,0),(1,1)] [0,1] (λvs _=>c (vs 0) (vs 1)) (zi rfl ⟨_,_,rfl,rfl,rfl⟩) rfl ⟨⟨_,_,rfl,rfl,_,_,rfl,cr,rfl⟩,(aB aZ),trivial⟩ ⟨zad,zad,trivial⟩ ?_
 exact zan (.inr rfl) [(0,0),(1,1),(2,2)] [] [] rfl ⟨⟨rfl,rfl⟩,⟨rfl,rfl⟩,⟨rfl,rfl⟩,trivial⟩ ⟨⟨_,_,rfl,rfl,_,_,rfl,cr,rfl⟩,(aB aZ),(aE (aE aZ)),trivial⟩ ⟨⟨1000000,rfl⟩,⟨1000001,rfl⟩,⟨1000002,rfl⟩,trivial⟩ ⟨_,rfl,cr⟩
theorem zjsb(v:Value)(m:MsgP)(hm:m.sm):Acts aP 194 1 [(0, .box (m.c.map .r))] [.own 0] [(0,v)] 1 [(0, .box (m.c.map .r))] (.r (.b true)):=by
 refine zah (T:=Tab) mixed Tab_ok Tryz.func194 rfl (by kernel_rfl) rfl ⟨⟨_,_,rfl,rfl,zai,zai⟩,trivial⟩ ?_
 refine za rfl rfl ?_
 refine ze (zi1 m hm) ?_
 exact zan (.inl rfl) [(0,0)] [(1, .r (.b true))] [] rfl ⟨cr,⟨rfl,rfl⟩,trivial⟩ ⟨(aE (aE aZ)),trivial⟩ ⟨⟨1000000,rfl⟩,trivial⟩ (cr)
theorem zgob(p:Value)(b:List UInt8)(m:MsgP)(hb:b.length<=1048576)(hm:m.sm)(c: ∀v0 v1:Value,Acts aP 193 2 (inL b) [.own 0] [(0,v0),(1,v1)] 3 (inL []) (.r (.ag m.c))):
  Acts aP 191 1 [(0, .box (zMsg.map .r))] [.r (bs b), .r (.x (.func (.func 192) #[] #[p])), .r (.x (.func (.func 194) #[] #[p]))] [(0,p)] 1 [(0, .box (m.c.map .r))] (.r (Er 0)):=by
 refine zah (T:=Tab) mixed Tab_ok Tryz.func191 rfl (by kernel_rfl) rfl ⟨⟨_,_,rfl,rfl,zai,zai⟩,trivial⟩ ?_
 refine zu (by simp only[zb];omega) (zq ?_)
 refine ze (zpj b) ?_
 refine Vstep.nmB 1 1000001 rfl λr=>Vstep.sub (zk6 (id:=1) (t:=12) (tn:=1000001) rfl rfl) (Vstep.val Tab_ok ?_)
 refine Vstep.sub (zj8 (id:=2) (j:=1) (tn:=1000001) (i:=0) rfl rfl rfl) ?_
 refine zj [(0,2),(1,1),(2,0)] [0,1,2] (λvs _=>zjrb (vs 0) (vs 1) (vs 2) b [] m c) (Handed.clo (fs:=[.own 0]) (cs:=[.own 2]) rfl rfl ⟨_,_,rfl,rfl,rfl⟩ ⟨_,_,rfl,⟨0,1000000,rfl,rfl⟩,rfl⟩) rfl ⟨⟨_,_,rfl,rfl,_,_,rfl,cr,rfl⟩,(aB aZ),(aE (aE aZ)),trivial⟩ ⟨zad,zad,zad,trivial⟩ ?_
 have hE: ∀v:Value,Acts aP 302 1 (rdL []) [.own 0] [(0,v)] 1 (rdL []) (.r (Er 0)):=λv=>zjib v []
 refine zj [(0,1)] [0] (λvs _=>hE (vs 0)) (zi rfl ⟨_,_,rfl,rfl,rfl⟩) rfl ⟨(aB aZ),trivial⟩ ⟨zad,trivial⟩ ?_
 refine zj [(0,2),(1,1)] [0,1] (λvs _=>zi0 (vs 0) (vs 1) []) (zi rfl ⟨_,_,rfl,rfl,_,_,rfl,cr,rfl⟩) rfl ⟨⟨_,_,rfl,rfl,_,_,rfl,cr,rfl⟩,(aB aZ),trivial⟩ ⟨zad,zad,trivial⟩ ?_
 refine zt rfl ?_
 refine zj [(0,0)] [0] (λvs _=>zjsb (vs 0) m hm) (Handed.clo (fs:=[]) (cs:=[.own 0]) rfl rfl rfl ⟨_,_,rfl,⟨0,1000000,rfl,rfl⟩,rfl⟩) rfl ⟨(aE (aE aZ)),trivial⟩ ⟨zad,trivial⟩ ?_
 refine zu rfl (zq ?_)
 exact zan (.inl rfl) [(0,0)] [(6, .r (Er 0))] [] rfl ⟨cr,⟨rfl,rfl⟩,trivial⟩ ⟨(aE (aE aZ)),trivial⟩ ⟨⟨1000000,rfl⟩,trivial⟩ (cr)
theorem z2i(m:MsgP)(hm:m.sm):(msgB m).length<=2000:=by
 have h1:=zi3 m hm
 have h2:=zqu (zb3 m) m hm
 have h3:=zag m.mem
 have h4:=hm.mem
 rw[msgB,aL]
 omega
theorem zjtb(m:MsgP)(hm:m.sm):aG 111 [bs (msgB m)] (.r (.tu [.ag m.c,Er 0])):=by
 have hb:=z2i m hm
 have c:=λv0 v1=>z4s v0 v1 m hm
 generalize msgB m=b at hb c
 refine aT Tryz.func111 rfl ?_
 refine Vstep.nm 1 1000001 rfl λp=>Vstep.mkfunX [p] rfl ⟨_,_,rfl,⟨1,1000001,rfl,rfl⟩,rfl⟩ ?_
 refine Vstep.mkfunX [p] rfl ⟨_,_,rfl,⟨1,1000001,rfl,rfl⟩,rfl⟩ ?_
 refine zj [(0,1)] [0] (λvs hv=>zhl (by simp only[List.map];rw[hv 0 1 1000001 _ rfl rfl]) (zgob p b m (by omega) hm c)) (zi rfl ⟨_,_,rfl,cr,_,_,rfl,cr,_,_,rfl,cr,rfl⟩) rfl ⟨(aE (aE aZ)),trivial⟩ ⟨zad,trivial⟩ ?_
 refine zu rfl (zq ?_)
 refine za rfl rfl ?_
 refine za rfl rfl ?_
 exact⟨_,rfl,cr⟩
set_option maxRecDepth 20000 in
theorem zxj(c0 c1 c2:List RV)(s1 s2 cm:List UInt8)(w:ViewP)(ol:Leaf)(sg:List UInt8)(hw:w.ctx.epoch=1)
  (cA:aG 41 [I 1] (.r (bs s1))) (cB:aG 41 [I 2] (.r (bs s2)))
  (cN:zmt aP 7 [bs [103],bs [1],bs s1] c0 [Er 0])
  (cC: ∀q:Value,Acts aP 38 1 [(0, .box (c0.map .r))] [.own 0, .r nl, .r (.b false), .r (bs s2)] [(0,q)] 1 [(0, .box (c1.map .r))] (.r (.tu [bs cm,nl,Er 0])))
  (cP: ∀q:Value,Acts aP 40 1 [(0, .box (c1.map .r))] [.own 0, .r (bs cm)] [(0,q)] 1 [(0, .box (c2.map .r))] (.r (Er 0)))
  (cS:aG 17 [.ptr c2] (.r (.ag (stR w ol sg)))):
  aG 6 [] (.r (.b true)):=by
 refine aT Tryz.func6 rfl ?_
 refine Vpub.own ?_
 refine zw ?_
 refine ze cA ?_
 refine Vstep.sub (zbd (id:=0) rfl) (Vstep.tup 1000009 rfl rfl (zn _) cN λb=>?_)
 refine zd (m:=0) rfl (by decide) ?_
 refine zu rfl (zq ?_)
 refine ze cB ?_
 refine Vstep.sub (zmn (id:=2) (t:=18) (tn:=1000009) rfl rfl) (Vstep.actsBox 2 cC (zi rfl ⟨_,_,rfl,rfl,_,_,rfl,cr,_,_,rfl,cr,_,_,rfl,cr,rfl⟩) rfl ?_)
 refine Vstep.sub (zmn (id:=2) (t:=24) (tn:=1000009) rfl rfl) (Vstep.actsBox 2 cP (zi rfl ⟨_,_,rfl,rfl,_,_,rfl,cr,rfl⟩) rfl ?_)
 refine zd (m:=0) rfl (by decide) ?_
 refine zt rfl ?_
 refine zd (m:=0) rfl (by decide) ?_
 refine zt rfl ?_
 refine Vstep.sub (Sub.trans (zmn (id:=2) (t:=36) (tn:=1000009) rfl rfl) (zcq (id:=2) (t:=36) c2 rfl rfl)) (Vstep.val Tab_ok ?_)
 refine ze cS ?_
 refine Vsem.fieldN Tab_ok rfl rfl rfl rfl rfl rfl rfl (Nat.le_of_ble_eq_true rfl) rfl ?_
 refine Vsem.fieldN Tab_ok rfl rfl rfl rfl rfl rfl rfl (Nat.le_of_ble_eq_true rfl) rfl ?_
 refine Vsem.field Tab_ok rfl rfl rfl rfl rfl rfl rfl rfl ?_
 refine zt (by show((w.ctx.epoch:Int)==1)=true;rw[hw];rfl) ?_
 exact cr
theorem zd1b(g:List UInt8)(e f:Nat)(l:Leaf)(s t a b:List UInt8)(x:CtxP):tagB ⟨g,e,f,l,s,t,a⟩ x=tagB ⟨g,e,f,l,s,t,b⟩ x:=rfl
theorem zh0b(g:List UInt8)(e f:Nat)(l:Leaf)(s t a s' t' a':List UInt8)(x:CtxP):sgnB ⟨g,e,f,l,s,t,a⟩ x=sgnB ⟨g,e,f,l,s',t',a'⟩ x:=rfl
set_option maxHeartbeats 1000000 in
theorem z7q:aG 6 [] (.r (.b true)):=by
 have cA:=zfu (z8p 1 (by decide))
 have cB:=zfu (z8p 2 (by decide))
 have l1:=zoc 1
 have l2:=zoc 2
 generalize zmk 1=s1 at cA l1
 generalize zmk 2=s2 at cB l2
 obtain⟨⟨⟨x,own,it,tg,sc,ky⟩,o,sg⟩,hg,_,cN⟩:=zjob [103] [1] s1 (by decide) (by decide) (by decide) l1
 have hown:own=0:=hg.own
 subst hown
 have hxe:x=⟨[103],0,hash1 o,[]⟩:=hg.ctx
 have hsm:(v0 x it tg sc ky).sm:=hg.sm
 have hlr:o.right=true:=hg.right
 have hsg:sg.length=32:=hg.sgl
 have hsp:o.sign=pubS sg:=hg.spub
 have hfo:=zcn hlr
 have hh0:=zht o
 have hgl:x.group.length<=64:=by rw[hxe];show([103]:List UInt8).length<=64;decide
 have hep:x.epoch=0:=by rw[hxe]
 have hxf:x.fit:=⟨by omega,by omega,by rw[hxe];show(hash1 o).length<=_;omega,by rw[hxe];show([]:List UInt8).length<=1000000;decide⟩
 have cs1:=zc2 s2 ⟨#[112,97,116,104]⟩ (by omega) (by decide)
 have ls1:=zbb s2 (sB ⟨#[112,97,116,104]⟩) [] (n:=32) (by omega)
 generalize labB s2 (sB ⟨#[112,97,116,104]⟩) [] 32=p1 at cs1 ls1
 have cs2:=zc2 s2 zwx (by omega) (by decide)
 generalize labB s2 (sB zwx) [] 32=p2 at cs2
 obtain⟨ol,com,pl,hor,hos,hop,hosg,hcom,hpl,cM⟩:=zgnb o p1 sg x.group hlr ls1 hsg (by omega)
 have hfl:=zcn hor
 have cW:=zcvb (v0 x it tg sc ky) hxf (by show x.epoch+1<_;omega) ol hor
 generalize ctxB (wayC (v0 x it tg sc ky).ctx ol)=cx at cW
 have cSe:=zgyb ol [⟨0,pl⟩] com p2 cx hor
 have c4:=zcjb x it tg sc ky o ol sg s2 com pl p1 p2 cx hlr hor (zgtb o hfo hlr) cs1 cM cs2 cW cSe
 have c5:aG 21 [.ag (v0 x it tg sc ky).c,bs sg, .ag (wrt0 0 ol)] (.r (.tu [.ag (wrtM (vw x 0 it tg sc ky) sg z32 0 ol).c,Er 0])):=zb7b x it tg sc ky sg 0 (by decide) hsm hxf hgl hsg ol hor hos hop
 obtain⟨M,hM⟩: ∃M,M=wrtM (vw x 0 it tg sc ky) sg z32 0 ol:=⟨_,rfl⟩
 have hMg:M.group=x.group:=by rw[hM];rfl
 have hMe:M.epoch=x.epoch:=by rw[hM];rfl
 have hMf:M.frm=0:=by rw[hM];rfl
 have hMl:M.lf=ol:=by rw[hM];rfl
 have hMs:M.sig=zh8 sg (sB frmS) (sgnB M x):=by rw[hM];exact congrArg (zh8 sg (sB frmS)) (zh0b _ _ _ _ _ _ _ _ _ _ _)
 have hMm:M.mem.length=32:=by rw[hM];exact zbm _ _
 have hMt:M.tag.length=32:=by rw[hM];rfl
 rw[<-hM]at c5
 have hMsm:M.sm:=⟨by rw[hMg];exact hgl,by rw[hMe];omega,by omega,by rw[hMs];exact zex _ _ _,hMt,hMm,by rw[hMl];exact hor,by rw[hMl];exact hos,by rw[hMl];exact hop⟩
 clear hM
 have c6:=zov ol hfl hor
 have hhl:=zht ol
 generalize hash1 ol=h at c6 hhl
 have c7:=zgfb (v0 x it tg sc ky) M h com ⟨0,pl⟩ (by show pl.length<=_;omega) hsm hMsm hgl (by show x.epoch+1<_;omega) (by omega) (by omega)
 have hw1:(nxtV (v0 x it tg sc ky) M h com ⟨0,pl⟩).ctx.epoch=1:=by show x.epoch+1=1;omega
 have hw2:(nxtV (v0 x it tg sc ky) M h com ⟨0,pl⟩).tag.length=32:=zbm _ _
 have hw3:(nxtV (v0 x it tg sc ky) M h com ⟨0,pl⟩).sm:=⟨by show x.group.length<=_;omega,by show h.length<=_;omega,by show(trnB it (cfmB M)).length<=_;have:(trnB it (cfmB M)).length=32:=zcd _;omega,by show(intB _ _).length<=_;have: ∀a b,(intB a b).length=32:=λa b=>zcd _;rw[this];omega,by rw[hw2];omega,zzq _ _ _,by show pl.length<=_;omega⟩
 generalize nxtV (v0 x it tg sc ky) M h com ⟨0,pl⟩=w at c7 hw1 hw2 hw3
 have m1:MsgP.sm ⟨M.group,M.epoch,M.frm,M.lf,M.sig,w.tag,M.mem⟩:=⟨hMsm.group,hMsm.epoch,hMsm.frm,hMsm.sig,hw2,hMsm.mem,hMsm.lf,hMsm.src,hMsm.par⟩
 have c8:=znj _ m1 x hxf
 have ht:=zto _ m1 x hxf
 have hsc:=hsm.sec.mb
 have c9:=znl sc (tagB ⟨M.group,M.epoch,M.frm,M.lf,M.sig,w.tag,M.mem⟩ x) hsc (by omega)
 obtain⟨mb,hmb⟩: ∃mb,mb=macB sc.mb (tagB ⟨M.group,M.epoch,M.frm,M.lf,M.sig,w.tag,M.mem⟩ x):=⟨_,rfl⟩
 rw[<-hmb]at c9
 have m2:MsgP.sm ⟨M.group,M.epoch,M.frm,M.lf,M.sig,w.tag,mb⟩:=⟨hMsm.group,hMsm.epoch,hMsm.frm,hMsm.sig,hw2,by rw[hmb];exact zbm _ _,hMsm.lf,hMsm.src,hMsm.par⟩
 have hof:MsgP.of ⟨M.group,M.epoch,M.frm,M.lf,M.sig,w.tag,mb⟩ (v0 x it tg sc ky) o sg:=⟨m2,hMg,hMe,hsp,hMs,hmb.trans (congrArg (macB sc.mb) (zd1b _ _ _ _ _ _ _ _ _))⟩
 generalize tagB ⟨M.group,M.epoch,M.frm,M.lf,M.sig,w.tag,M.mem⟩ x=tx at c8 c9
 have c10:=zcbb _ m2
 have q1:=zjtb _ m2
 have hcl:=z2i _ m2
 have hc0:0< (msgB ⟨M.group,M.epoch,M.frm,M.lf,M.sig,w.tag,mb⟩).length:=by rw[zus];simp only[aL,zak];omega
 generalize msgB ⟨M.group,M.epoch,M.frm,M.lf,M.sig,w.tag,mb⟩=cm at c10 q1 hcl hc0
 have c11:aG 42 [bs cm] (.r (bs cm)):=zfu (zbx cm (by omega))
 have c12:=zxk w ol sg hw3 hfl (by omega)
 have cC:=λq=>zxm q x it tg sc ky o ol sg s2 com pl h tx mb cm M w l2 (by omega) (by omega) (by omega) hlr c4 c5 c6 c7 c8 c9 c10 c11 c12
 have q2:=z1y (v0 x it tg sc ky) ⟨M.group,M.epoch,M.frm,M.lf,M.sig,w.tag,mb⟩ hMg hMe (by show M.group.length<=_;rw[hMg];omega)
 have q3:aG 112 [nods [L1 o],I ((M.frm:Nat):Int)] (.r (.tu [.ag o.c, .b true])):=by rw[hMf];exact zxz o hfo hlr
 have q4:=zgeb (v0 x it tg sc ky) _ o sg hsm hxf hof hfo
 have q5:aG 114 [bs cm,bs cm] (.r (.b true)):=by
  have h:=zlq cm cm
  rw[decide_eq_true rfl]at h
  exact h
 have cP:=λq=>zvy q x it tg sc ky o ol sg cm ⟨M.group,M.epoch,M.frm,M.lf,M.sig,w.tag,mb⟩ w (by show M.epoch≠_;omega) (by show M.epoch<_;omega) hMf hc0 q1 q2 q3 q4 q5
 have cS:=z10 w ol sg hw3 hfl (by omega)
 exact zxj _ _ _ s1 s2 cm w ol sg hw1 cA cB cN cC cP cS
end Go.Proofs.YtkegaaonpekkgaaGreat.Sx
