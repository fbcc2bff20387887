import Derived.Test.YtkegaaonpekkgaaGreatZJh
import Derived.Test.YtkegaaonpekkgaaGreatZJa
import Derived.Test.YtkegaaonpekkgaaGreatZPa
namespace Go.Proofs.YtkegaaonpekkgaaGreat.Sx
open Go.RowKit
set_option maxRecDepth 20000 in
theorem zud(v0 v1:Value)(l0 l1 l2 l3 l4 l5 l6 l7 l8 l9 l10 l11:List UInt8)(m:MsgP)(hm:m.sm)
  (c1: ∀v0 v1:Value,Acts aP 303 2 (inL l0) [.own 0, .r (I 2), .r (U64 1)] [(0,v0),(1,v1)] 2 (inL l1) (.r (.tu [])))
  (c2: ∀v0 v1:Value,Acts aP 303 2 (inL l1) [.own 0, .r (I 2), .r (U64 1)] [(0,v0),(1,v1)] 2 (inL l2) (.r (.tu [])))
  (c3: ∀v0 v1:Value,Acts aP 304 2 (inL l2) [.own 0] [(0,v0),(1,v1)] 2 (inL l3) (.r (bs m.group)))
  (c4: ∀v0 v1:Value,Acts aP 305 2 (inL l3) [.own 0, .r (I 8)] [(0,v0),(1,v1)] 2 (inL l4) (.r (U64 m.epoch)))
  (c5: ∀v0 v1:Value,Acts aP 303 2 (inL l4) [.own 0, .r (I 1), .r (U64 1)] [(0,v0),(1,v1)] 2 (inL l5) (.r (.tu [])))
  (c6: ∀v0 v1:Value,Acts aP 305 2 (inL l5) [.own 0, .r (I 4)] [(0,v0),(1,v1)] 2 (inL l6) (.r (U64 m.frm)))
  (c7: ∀v0 v1:Value,Acts aP 305 2 (inL l6) [.own 0, .r (I 1)] [(0,v0),(1,v1)] 2 (inL l7) (.r (U64 3)))
  (c8: ∀v0 v1:Value,Acts aP 307 2 (inL l7) [.own 0] [(0,v0),(1,v1)] 3 (inL l8) (.r (.ag (comR m.lf))))
  (c9: ∀v0 v1:Value,Acts aP 304 2 (inL l8) [.own 0] [(0,v0),(1,v1)] 2 (inL l9) (.r (bs m.sig)))
  (c10: ∀v0 v1:Value,Acts aP 304 2 (inL l9) [.own 0] [(0,v0),(1,v1)] 2 (inL l10) (.r (bs m.tag)))
  (c11: ∀v0 v1:Value,Acts aP 304 2 (inL l10) [.own 0] [(0,v0),(1,v1)] 2 (inL l11) (.r (bs m.mem))):
  Acts aP 193 2 (inL l0) [.own 0] [(0,v0),(1,v1)] 3 (inL l11) (.r (.ag m.c)):=by
 obtain⟨h1,h2,h3,h4,h5,h6,h7,h8,h9⟩:=hm
 refine zag (T:=Tab) mixed Tab_ok Tryz.func193 rfl (by kernel_rfl) rfl (zet _ _ _ _) ?_
 refine zj [(0,0),(1,1)] [0,1] (λvs _=>c1 (vs 0) (vs 1)) (zi rfl ⟨_,_,rfl,rfl,_,_,rfl,cr,_,_,rfl,cr,rfl⟩) rfl ⟨⟨_,_,rfl,rfl,_,_,rfl,cr,rfl⟩,(aB aZ),trivial⟩ ⟨zac,zac,trivial⟩ ?_
 refine zj [(0,0),(1,1)] [0,1] (λvs _=>c2 (vs 0) (vs 1)) (zi rfl ⟨_,_,rfl,rfl,_,_,rfl,cr,_,_,rfl,cr,rfl⟩) rfl ⟨⟨_,_,rfl,rfl,_,_,rfl,cr,rfl⟩,(aB aZ),trivial⟩ ⟨zac,zac,trivial⟩ ?_
 refine zj [(0,0),(1,1)] [0,1] (λvs _=>c3 (vs 0) (vs 1)) (zi rfl ⟨_,_,rfl,rfl,rfl⟩) rfl ⟨⟨_,_,rfl,rfl,_,_,rfl,cr,rfl⟩,(aB aZ),trivial⟩ ⟨zac,zac,trivial⟩ ?_
 refine zj [(0,0),(1,1)] [0,1] (λvs _=>c4 (vs 0) (vs 1)) (zi rfl ⟨_,_,rfl,rfl,_,_,rfl,cr,rfl⟩) rfl ⟨⟨_,_,rfl,rfl,_,_,rfl,cr,rfl⟩,(aB aZ),trivial⟩ ⟨zac,zac,trivial⟩ ?_
 refine zj [(0,0),(1,1)] [0,1] (λvs _=>c5 (vs 0) (vs 1)) (zi rfl ⟨_,_,rfl,rfl,_,_,rfl,cr,_,_,rfl,cr,rfl⟩) rfl ⟨⟨_,_,rfl,rfl,_,_,rfl,cr,rfl⟩,(aB aZ),trivial⟩ ⟨zac,zac,trivial⟩ ?_
 refine zj [(0,0),(1,1)] [0,1] (λvs _=>c6 (vs 0) (vs 1)) (zi rfl ⟨_,_,rfl,rfl,_,_,rfl,cr,rfl⟩) rfl ⟨⟨_,_,rfl,rfl,_,_,rfl,cr,rfl⟩,(aB aZ),trivial⟩ ⟨zac,zac,trivial⟩ ?_
 refine zd (m:=(m.frm:Int)) (by omega) (by omega) ?_
 refine zj [(0,0),(1,1)] [0,1] (λvs _=>c7 (vs 0) (vs 1)) (zi rfl ⟨_,_,rfl,rfl,_,_,rfl,cr,rfl⟩) rfl ⟨⟨_,_,rfl,rfl,_,_,rfl,cr,rfl⟩,(aB aZ),trivial⟩ ⟨zac,zac,trivial⟩ ?_
 refine Vint.n 3 (by show(3:Int)=IntKind.u8.wrap 3;decide) ?_
 refine zu rfl (zq ?_)
 refine zt rfl (zp ?_)
 refine zj [(0,0),(1,1)] [0,1] (λvs _=>c8 (vs 0) (vs 1)) (zi rfl ⟨_,_,rfl,rfl,rfl⟩) rfl ⟨⟨_,_,rfl,rfl,_,_,rfl,cr,rfl⟩,(aB aZ),trivial⟩ ⟨zac,zac,trivial⟩ ?_
 refine zj [(0,0),(1,1)] [0,1] (λvs _=>c9 (vs 0) (vs 1)) (zi rfl ⟨_,_,rfl,rfl,rfl⟩) rfl ⟨⟨_,_,rfl,rfl,_,_,rfl,cr,rfl⟩,(aB aZ),trivial⟩ ⟨zac,zac,trivial⟩ ?_
 refine zt rfl (zp ?_)
 refine zj [(0,0),(1,1)] [0,1] (λvs _=>c10 (vs 0) (vs 1)) (zi rfl ⟨_,_,rfl,rfl,rfl⟩) rfl ⟨⟨_,_,rfl,rfl,_,_,rfl,cr,rfl⟩,(aB aZ),trivial⟩ ⟨zac,zac,trivial⟩ ?_
 refine zj [(0,0),(1,1)] [0,1] (λvs _=>c11 (vs 0) (vs 1)) (zi rfl ⟨_,_,rfl,rfl,rfl⟩) rfl ⟨⟨_,_,rfl,rfl,_,_,rfl,cr,rfl⟩,(aB aZ),trivial⟩ ⟨zac,zac,trivial⟩ ?_
 refine za rfl rfl ?_
 exact zal (.inl rfl) [(0,0),(1,1),(2,2)] [(2, .own 2)] [(2,some (.box (m.c.map .r)))] rfl ⟨rfl,⟨rfl,rfl⟩,⟨rfl,rfl⟩,trivial⟩ ⟨⟨_,_,rfl,rfl,_,_,rfl,cr,rfl⟩,(aB aZ),(aE (aE aZ)),trivial⟩ ⟨⟨1000000,rfl⟩,⟨1000001,rfl⟩,trivial⟩ (za rfl rfl (cr))
theorem zte(m:MsgP):msgB m=beB 2 1++(beB 2 1++(vecB m.group++(beB 8 m.epoch++(beB 1 1++(beB 4 m.frm++(beB 1 3++(vecB []++(1::(zc8 m.lf++(vecB []++(vecB m.sig++(vecB m.tag++(vecB m.mem++[]))))))))))))):=by
 have e1:beB 1 1=[1]:=by decide
 have e3:beB 1 3=[3]:=by decide
 rw[e1,e3]
 simp only[msgB,zll,zbz,frmB,comB,List.append_assoc,List.cons_append,List.nil_append,List.append_nil]
theorem z2m(v0 v1:Value)(m:MsgP)(hm:m.sm):Acts aP 193 2 (inL (msgB m)) [.own 0] [(0,v0),(1,v1)] 3 (inL []) (.r (.ag m.c)):=by
 obtain⟨h1,h2,h3,h4,h5,h6,h7,h8,h9⟩:=id hm
 obtain⟨k1,k2,k3,k4,k5⟩:=zg5 h7
 have b1:=zib m.lf
 have b2:=zai m.sig
 have b3:=zai m.tag
 have b4:=zai m.mem
 have b5:=zai m.group
 have b6:=zai []
 rw[zte]
 have q11:(vecB m.mem++[]).length<=1000:=by simp only[aL,List.length_nil];omega
 generalize hl10:vecB m.mem++[]=l10 at q11
 have q10:(vecB m.tag++l10).length<=2000:=by simp only[aL];omega
 generalize hl9:vecB m.tag++l10=l9 at q10
 have q9:(vecB m.sig++l9).length<=3000:=by simp only[aL];omega
 generalize hl8:vecB m.sig++l9=l8 at q9
 have qa:(vecB []++l8).length<=4000:=by simp only[aL,List.length_nil]at*;omega
 generalize hla:vecB []++l8=la at qa
 have qb:(zc8 m.lf++la).length<=5000:=by simp only[aL];omega
 generalize hlb:zc8 m.lf++la=lb at qb
 have q8:(vecB []++(1::lb)).length<=6000:=by simp only[aL,List.length_cons,List.length_nil]at*;omega
 have p8: ∀v0 v1:Value,Acts aP 307 2 (inL (vecB []++(1::lb))) [.own 0] [(0,v0),(1,v1)] 3 (inL l8) (.r (.ag (comR m.lf))):=λv0 v1=>
  z5s v0 v1 _ lb la l8 m.lf (by omega) (by omega) (by omega) (zdc (by decide) _) (by rw[<-hlb];exact zzh h7 _) (by rw[<-hla];exact zdc (by decide) _)
 generalize vecB []++(1::lb)=l7 at q8 p8
 generalize hl6:beB 1 3++l7=l6
 generalize hl5:beB 4 m.frm++l6=l5
 generalize hl4:beB 1 1++l5=l4
 have q4:l4.length<=7000:=by rw[<-hl4,<-hl5,<-hl6];simp only[aL,zao];omega
 generalize hl3:beB 8 m.epoch++l4=l3
 have q3:l3.length<=8000:=by rw[<-hl3];simp only[aL,zao];omega
 generalize hl2:vecB m.group++l3=l2
 generalize hl1:beB 2 1++l2=l1
 generalize hl0:beB 2 1++l1=l0
 refine zud v0 v1 l0 l1 l2 l3 l4 l5 l6 l7 l8 l9 l10 [] m hm ?_ ?_ ?_ ?_ ?_ ?_ ?_ p8 ?_ ?_ ?_
 ·rw[<-hl0];exactλv0 v1=>zo6 v0 v1 2 1 _ (.inr (.inl rfl)) (by decide)
 ·rw[<-hl1];exactλv0 v1=>zo6 v0 v1 2 1 _ (.inr (.inl rfl)) (by decide)
 ·rw[<-hl2];exactλv0 v1=>znr v0 v1 _ _ (by omega) (by omega)
 ·rw[<-hl3];exactλv0 v1=>zrw v0 v1 8 _ _ (.inr (.inr (.inr rfl))) (by rw[show(256:Nat)^8=18446744073709551616 by decide];omega)
 ·rw[<-hl4];exactλv0 v1=>zo6 v0 v1 1 1 _ (.inl rfl) (by decide)
 ·rw[<-hl5];exactλv0 v1=>zrw v0 v1 4 _ _ (.inr (.inr (.inl rfl))) (by rw[show(256:Nat)^4=4294967296 by decide];omega)
 ·rw[<-hl6];exactλv0 v1=>zrw v0 v1 1 3 _ (.inl rfl) (by decide)
 ·rw[<-hl8];exactλv0 v1=>znr v0 v1 _ _ (by omega) (by omega)
 ·rw[<-hl9];exactλv0 v1=>znr v0 v1 _ _ (by omega) (by omega)
 ·rw[<-hl10];exactλv0 v1=>znr v0 v1 _ _ (by omega) (by decide)
theorem zgxb(v0 v1 v2:Value)(l r:List UInt8)(m:MsgP)(c: ∀v0 v1:Value,Acts aP 193 2 (inL l) [.own 0] [(0,v0),(1,v1)] 3 (inL r) (.r (.ag m.c))):
  Acts aP 192 3 [(0, .box [.own 1, .r (Er 0)]),(1,rdO (bs l) 0),(2, .box (zMsg.map .r))] [.own 0, .own 2] [(0,v0),(1,v1),(2,v2)] 3 [(0, .box [.own 1, .r (Er 0)]),(1,rdO (bs r) 0),(2, .box (m.c.map .r))] (.r (.tu [])):=by
 refine zag (T:=Tab) mixed Tab_ok Tryz.func192 rfl (by kernel_rfl) rfl ⟨⟨_,_,rfl,rfl,zah,zah⟩,⟨_,_,rfl,rfl,zah,zah⟩,⟨_,_,rfl,rfl,zah,zah⟩,trivial⟩ ?_
 refine zj [(0,0),(1,1)] [0,1] (λvs _=>c (vs 0) (vs 1)) (zi rfl ⟨_,_,rfl,rfl,rfl⟩) rfl ⟨⟨_,_,rfl,rfl,_,_,rfl,cr,rfl⟩,(aB aZ),trivial⟩ ⟨zac,zac,trivial⟩ ?_
 exact zal (.inr rfl) [(0,0),(1,1),(2,2)] [] [] rfl ⟨⟨rfl,rfl⟩,⟨rfl,rfl⟩,⟨rfl,rfl⟩,trivial⟩ ⟨⟨_,_,rfl,rfl,_,_,rfl,cr,rfl⟩,(aB aZ),(aE (aE aZ)),trivial⟩ ⟨⟨1000000,rfl⟩,⟨1000001,rfl⟩,⟨1000002,rfl⟩,trivial⟩ ⟨_,rfl,cr⟩
theorem zgyb(v:Value)(m:MsgP)(hm:m.sm):Acts aP 194 1 [(0, .box (m.c.map .r))] [.own 0] [(0,v)] 1 [(0, .box (m.c.map .r))] (.r (.b true)):=by
 refine zag (T:=Tab) mixed Tab_ok Tryz.func194 rfl (by kernel_rfl) rfl ⟨⟨_,_,rfl,rfl,zah,zah⟩,trivial⟩ ?_
 refine za rfl rfl ?_
 refine ze (zh6 m hm) ?_
 exact zal (.inl rfl) [(0,0)] [(1, .r (.b true))] [] rfl ⟨cr,⟨rfl,rfl⟩,trivial⟩ ⟨(aE (aE aZ)),trivial⟩ ⟨⟨1000000,rfl⟩,trivial⟩ (cr)
theorem zdwb(p:Value)(b:List UInt8)(m:MsgP)(hb:b.length<=1048576)(hm:m.sm)(c: ∀v0 v1:Value,Acts aP 193 2 (inL b) [.own 0] [(0,v0),(1,v1)] 3 (inL []) (.r (.ag m.c))):
  Acts aP 191 1 [(0, .box (zMsg.map .r))] [.r (bs b), .r (.x (.func (.func 192) #[] #[p])), .r (.x (.func (.func 194) #[] #[p]))] [(0,p)] 1 [(0, .box (m.c.map .r))] (.r (Er 0)):=by
 refine zag (T:=Tab) mixed Tab_ok Tryz.func191 rfl (by kernel_rfl) rfl ⟨⟨_,_,rfl,rfl,zah,zah⟩,trivial⟩ ?_
 refine zu (by simp only[zb];omega) (zq ?_)
 refine ze (zof b) ?_
 refine Vstep.nmB 1 1000001 rfl λr=>Vstep.sub (zkf (id:=1) (t:=12) (tn:=1000001) rfl rfl) (Vstep.val Tab_ok ?_)
 refine Vstep.sub (zjc (id:=2) (j:=1) (tn:=1000001) (i:=0) rfl rfl rfl) ?_
 refine zj [(0,2),(1,1),(2,0)] [0,1,2] (λvs _=>zgxb (vs 0) (vs 1) (vs 2) b [] m c) (Handed.clo (fs:=[.own 0]) (cs:=[.own 2]) rfl rfl ⟨_,_,rfl,rfl,rfl⟩ ⟨_,_,rfl,⟨0,1000000,rfl,rfl⟩,rfl⟩) rfl ⟨⟨_,_,rfl,rfl,_,_,rfl,cr,rfl⟩,(aB aZ),(aE (aE aZ)),trivial⟩ ⟨zac,zac,zac,trivial⟩ ?_
 have hE: ∀v:Value,Acts aP 302 1 (rdL []) [.own 0] [(0,v)] 1 (rdL []) (.r (Er 0)):=λv=>zgob v []
 refine zj [(0,1)] [0] (λvs _=>hE (vs 0)) (zi rfl ⟨_,_,rfl,rfl,rfl⟩) rfl ⟨(aB aZ),trivial⟩ ⟨zac,trivial⟩ ?_
 refine zj [(0,2),(1,1)] [0,1] (λvs _=>zh5 (vs 0) (vs 1) []) (zi rfl ⟨_,_,rfl,rfl,_,_,rfl,cr,rfl⟩) rfl ⟨⟨_,_,rfl,rfl,_,_,rfl,cr,rfl⟩,(aB aZ),trivial⟩ ⟨zac,zac,trivial⟩ ?_
 refine zt rfl ?_
 refine zj [(0,0)] [0] (λvs _=>zgyb (vs 0) m hm) (Handed.clo (fs:=[]) (cs:=[.own 0]) rfl rfl rfl ⟨_,_,rfl,⟨0,1000000,rfl,rfl⟩,rfl⟩) rfl ⟨(aE (aE aZ)),trivial⟩ ⟨zac,trivial⟩ ?_
 refine zu rfl (zq ?_)
 exact zal (.inl rfl) [(0,0)] [(6, .r (Er 0))] [] rfl ⟨cr,⟨rfl,rfl⟩,trivial⟩ ⟨(aE (aE aZ)),trivial⟩ ⟨⟨1000000,rfl⟩,trivial⟩ (cr)
theorem z0t(m:MsgP)(hm:m.sm):(msgB m).length<=2000:=by
 have h1:=zh8 m hm
 have h2:=zpk (zbz m) m hm
 have h3:=zai m.mem
 have h4:=hm.mem
 rw[msgB,aL]
 omega
theorem zgzb(m:MsgP)(hm:m.sm):aG 111 [bs (msgB m)] (.r (.tu [.ag m.c,Er 0])):=by
 have hb:=z0t m hm
 have c:=λv0 v1=>z2m v0 v1 m hm
 generalize msgB m=b at hb c
 refine aT Tryz.func111 rfl ?_
 refine Vstep.nm 1 1000001 rfl λp=>Vstep.mkfunX [p] rfl ⟨_,_,rfl,⟨1,1000001,rfl,rfl⟩,rfl⟩ ?_
 refine Vstep.mkfunX [p] rfl ⟨_,_,rfl,⟨1,1000001,rfl,rfl⟩,rfl⟩ ?_
 refine zj [(0,1)] [0] (λvs hv=>zgx (by simp only[List.map];rw[hv 0 1 1000001 _ rfl rfl]) (zdwb p b m (by omega) hm c)) (zi rfl ⟨_,_,rfl,cr,_,_,rfl,cr,_,_,rfl,cr,rfl⟩) rfl ⟨(aE (aE aZ)),trivial⟩ ⟨zac,trivial⟩ ?_
 refine zu rfl (zq ?_)
 refine za rfl rfl ?_
 refine za rfl rfl ?_
 exact⟨_,rfl,cr⟩
theorem zv5(p:List RV):aG 36 [np, .ag p] (.r (.tu [bs [],Er 2])):=by
 refine aT Tryz.func36 rfl ?_
 refine Vfun.nn _ rfl rfl rfl Tryz.underlying24 (zp ?_)
 exact⟨_,rfl,Cv.tu (zk (Cv.nil 1) (zn _))⟩
theorem z2i(p:RV):aG 37 [np,p] (.r (.tu [bs [],Er 2])):=by
 refine aT Tryz.func37 rfl ?_
 refine Vfun.nn _ rfl rfl rfl Tryz.underlying24 (zp ?_)
 exact⟨_,rfl,Cv.tu (zk (Cv.nil 1) (zn _))⟩
theorem zy8(p q r:RV):aG 38 [np,p,q,r] (.r (.tu [bs [],bs [],Er 2])):=by
 refine aT Tryz.func38 rfl ?_
 refine Vfun.nn _ rfl rfl rfl Tryz.underlying24 (zp ?_)
 exact⟨_,rfl,Cv.tu (zk (Cv.nil 1) (zk (Cv.nil 1) (zn _)))⟩
theorem zy9(p q r:RV):aG 39 [np,p,q,r] (.r (.tu [bs [],Er 2])):=by
 refine aT Tryz.func39 rfl ?_
 refine Vfun.nn _ rfl rfl rfl Tryz.underlying24 (zp ?_)
 exact⟨_,rfl,Cv.tu (zk (Cv.nil 1) (zn _))⟩
theorem zv4(p:RV):aG 40 [np,p] (.r (Er 2)):=by
 refine aT Tryz.func40 rfl ?_
 refine Vfun.nn _ rfl rfl rfl Tryz.underlying24 (zp ?_)
 exact cr
theorem z2j:aG 17 [np] (.r (.ag zys)):=by
 refine aT Tryz.func17 rfl ?_
 refine Vfun.nn _ rfl rfl rfl Tryz.underlying24 (zp ?_)
 refine za rfl rfl ?_
 exact cr
set_option maxHeartbeats 1000000 in
theorem zuc(hal:aG 6 [] (.r (.b true)))(b:List UInt8)(p:PropP):aG 5 [bs b, .ag p.c] (.r (.b true)):=by
 refine aT Tryz.func5 rfl ?_
 refine ze hal ?_
 refine zu rfl (zq ?_)
 refine za rfl rfl ?_
 refine ze (zv5 _) ?_
 refine ze (z2i _) ?_
 refine za rfl rfl ?_
 refine zw ?_
 refine ze (zy8 _ _ _) ?_
 refine ze (zy9 _ _ _) ?_
 refine zd (m:=2) rfl (by decide) ?_
 refine zt rfl ?_
 refine zd (m:=2) rfl (by decide) ?_
 refine zt rfl ?_
 refine zd (m:=2) rfl (by decide) ?_
 refine zt rfl ?_
 refine zd (m:=2) rfl (by decide) ?_
 refine zt rfl ?_
 refine ze (zv4 _) ?_
 refine zd (m:=2) rfl (by decide) ?_
 refine zt rfl ?_
 refine zd (m:=0) rfl (by decide) ?_
 refine zd (m:=0) rfl (by decide) ?_
 refine zd (m:=0) rfl (by decide) ?_
 refine zd (m:=0) rfl (by decide) ?_
 refine zt rfl ?_
 refine ze z2j ?_
 refine ze z3a ?_
 exact cr
set_option maxRecDepth 20000 in
theorem zv1(c0 c1 c2:List RV)(s1 s2 cm:List UInt8)(w:ViewP)(ol:Leaf)(sg:List UInt8)(hw:w.ctx.epoch=1)
  (cA:aG 41 [I 1] (.r (bs s1))) (cB:aG 41 [I 2] (.r (bs s2)))
  (cN:zlv aP 7 [bs [103],bs [1],bs s1] c0 [Er 0])
  (cC: ∀q:Value,Acts aP 38 1 [(0, .box (c0.map .r))] [.own 0, .r nl, .r (.b false), .r (bs s2)] [(0,q)] 1 [(0, .box (c1.map .r))] (.r (.tu [bs cm,nl,Er 0])))
  (cP: ∀q:Value,Acts aP 40 1 [(0, .box (c1.map .r))] [.own 0, .r (bs cm)] [(0,q)] 1 [(0, .box (c2.map .r))] (.r (Er 0)))
  (cS:aG 17 [.ptr c2] (.r (.ag (stR w ol sg)))):
  aG 6 [] (.r (.b true)):=by
 refine aT Tryz.func6 rfl ?_
 refine Vpub.own ?_
 refine zw ?_
 refine ze cA ?_
 refine Vstep.sub (zbb (id:=0) rfl) (Vstep.tup 1000009 rfl rfl (zn _) cN λb=>?_)
 refine zd (m:=0) rfl (by decide) ?_
 refine zu rfl (zq ?_)
 refine ze cB ?_
 refine Vstep.sub (zlo (id:=2) (t:=18) (tn:=1000009) rfl rfl) (Vstep.actsBox 2 cC (zi rfl ⟨_,_,rfl,rfl,_,_,rfl,cr,_,_,rfl,cr,_,_,rfl,cr,rfl⟩) rfl ?_)
 refine Vstep.sub (zlo (id:=2) (t:=24) (tn:=1000009) rfl rfl) (Vstep.actsBox 2 cP (zi rfl ⟨_,_,rfl,rfl,_,_,rfl,cr,rfl⟩) rfl ?_)
 refine zd (m:=0) rfl (by decide) ?_
 refine zt rfl ?_
 refine zd (m:=0) rfl (by decide) ?_
 refine zt rfl ?_
 refine Vstep.sub (Sub.trans (zlo (id:=2) (t:=36) (tn:=1000009) rfl rfl) (zci (id:=2) (t:=36) c2 rfl rfl)) (Vstep.val Tab_ok ?_)
 refine ze cS ?_
 refine Vsem.fieldN Tab_ok rfl rfl rfl rfl rfl rfl rfl (Nat.le_of_ble_eq_true rfl) rfl ?_
 refine Vsem.fieldN Tab_ok rfl rfl rfl rfl rfl rfl rfl (Nat.le_of_ble_eq_true rfl) rfl ?_
 refine Vsem.field Tab_ok rfl rfl rfl rfl rfl rfl rfl rfl ?_
 refine zt (by show((w.ctx.epoch:Int)==1)=true;rw[hw];rfl) ?_
 exact cr
theorem zbeb(g:List UInt8)(e f:Nat)(l:Leaf)(s t a b:List UInt8)(x:CtxP):tagB ⟨g,e,f,l,s,t,a⟩ x=tagB ⟨g,e,f,l,s,t,b⟩ x:=rfl
theorem zfab(g:List UInt8)(e f:Nat)(l:Leaf)(s t a s' t' a':List UInt8)(x:CtxP):sgnB ⟨g,e,f,l,s,t,a⟩ x=sgnB ⟨g,e,f,l,s',t',a'⟩ x:=rfl
set_option maxHeartbeats 1000000 in
theorem z5l:aG 6 [] (.r (.b true)):=by
 have cA:=zfd (z6h 1 (by decide))
 have cB:=zfd (z6h 2 (by decide))
 have l1:=znb 1
 have l2:=znb 2
 generalize zlm 1=s1 at cA l1
 generalize zlm 2=s2 at cB l2
 obtain⟨⟨⟨x,own,it,tg,sc,ky⟩,o,sg⟩,hg,_,cN⟩:=zgub [103] [1] s1 (by decide) (by decide) (by decide) l1
 have hown:own=0:=hg.own
 subst hown
 have hxe:x=⟨[103],0,hash1 o,[]⟩:=hg.ctx
 have hsm:(v0 x it tg sc ky).sm:=hg.sm
 have hlr:o.right=true:=hg.right
 have hsg:sg.length=32:=hg.sgl
 have hsp:o.sign=pubS sg:=hg.spub
 have hfo:=zcy hlr
 have hh0:=zix o
 have hgl:x.group.length<=64:=by rw[hxe];show([103]:List UInt8).length<=64;decide
 have hep:x.epoch=0:=by rw[hxe]
 have hxf:x.fit:=⟨by omega,by omega,by rw[hxe];show(hash1 o).length<=_;omega,by rw[hxe];show([]:List UInt8).length<=1000000;decide⟩
 have cs1:=zc1 s2 ⟨#[112,97,116,104]⟩ (by omega) (by decide)
 have ls1:=zbk s2 (sB ⟨#[112,97,116,104]⟩) [] (n:=32) (by omega)
 generalize labB s2 (sB ⟨#[112,97,116,104]⟩) [] 32=p1 at cs1 ls1
 have cs2:=zc1 s2 zvb (by omega) (by decide)
 generalize labB s2 (sB zvb) [] 32=p2 at cs2
 obtain⟨ol,com,pl,hor,hos,hop,hosg,hcom,hpl,cM⟩:=zdvb o p1 sg x.group hlr ls1 hsg (by omega)
 have hfl:=zcy hor
 have cW:=z99 (v0 x it tg sc ky) hxf (by show x.epoch+1<_;omega) ol hor
 generalize ctxB (wayC (v0 x it tg sc ky).ctx ol)=cx at cW
 have cSe:=zd6b ol [⟨0,pl⟩] com p2 cx hor
 have c4:=z9z x it tg sc ky o ol sg s2 com pl p1 p2 cx hlr hor (zd1b o hfo hlr) cs1 cM cs2 cW cSe
 have c5:aG 21 [.ag (v0 x it tg sc ky).c,bs sg, .ag (wrt0 0 ol)] (.r (.tu [.ag (wrtM (vw x 0 it tg sc ky) sg z32 0 ol).c,Er 0])):=z9p x it tg sc ky sg 0 (by decide) hsm hxf hgl hsg ol hor hos hop
 obtain⟨M,hM⟩: ∃M,M=wrtM (vw x 0 it tg sc ky) sg z32 0 ol:=⟨_,rfl⟩
 have hMg:M.group=x.group:=by rw[hM];rfl
 have hMe:M.epoch=x.epoch:=by rw[hM];rfl
 have hMf:M.frm=0:=by rw[hM];rfl
 have hMl:M.lf=ol:=by rw[hM];rfl
 have hMs:M.sig=zhg sg (sB frmS) (sgnB M x):=by rw[hM];exact congrArg (zhg sg (sB frmS)) (zfab _ _ _ _ _ _ _ _ _ _ _)
 have hMm:M.mem.length=32:=by rw[hM];exact zch _ _
 have hMt:M.tag.length=32:=by rw[hM];rfl
 rw[<-hM]at c5
 have hMsm:M.sm:=⟨by rw[hMg];exact hgl,by rw[hMe];omega,by omega,by rw[hMs];exact zei _ _ _,hMt,hMm,by rw[hMl];exact hor,by rw[hMl];exact hos,by rw[hMl];exact hop⟩
 clear hM
 have c6:=zr2 ol hfl hor
 have hhl:=zix ol
 generalize hash1 ol=h at c6 hhl
 have c7:=zdnb (v0 x it tg sc ky) M h com ⟨0,pl⟩ (by show pl.length<=_;omega) hsm hMsm hgl (by show x.epoch+1<_;omega) (by omega) (by omega)
 have hw1:(nxtV (v0 x it tg sc ky) M h com ⟨0,pl⟩).ctx.epoch=1:=by show x.epoch+1=1;omega
 have hw2:(nxtV (v0 x it tg sc ky) M h com ⟨0,pl⟩).tag.length=32:=zch _ _
 have hw3:(nxtV (v0 x it tg sc ky) M h com ⟨0,pl⟩).sm:=⟨by show x.group.length<=_;omega,by show h.length<=_;omega,by show(trnB it (cfmB M)).length<=_;have:(trnB it (cfmB M)).length=32:=zdz _;omega,by show(intB _ _).length<=_;have: ∀a b,(intB a b).length=32:=λa b=>zdz _;rw[this];omega,by rw[hw2];omega,z73 _ _ _,by show pl.length<=_;omega⟩
 generalize nxtV (v0 x it tg sc ky) M h com ⟨0,pl⟩=w at c7 hw1 hw2 hw3
 have m1:MsgP.sm ⟨M.group,M.epoch,M.frm,M.lf,M.sig,w.tag,M.mem⟩:=⟨hMsm.group,hMsm.epoch,hMsm.frm,hMsm.sig,hw2,hMsm.mem,hMsm.lf,hMsm.src,hMsm.par⟩
 have c8:=zmi _ m1 x hxf
 have ht:=zsa _ m1 x hxf
 have hsc:=hsm.sec.mb
 have c9:=zmk sc (tagB ⟨M.group,M.epoch,M.frm,M.lf,M.sig,w.tag,M.mem⟩ x) hsc (by omega)
 obtain⟨mb,hmb⟩: ∃mb,mb=macB sc.mb (tagB ⟨M.group,M.epoch,M.frm,M.lf,M.sig,w.tag,M.mem⟩ x):=⟨_,rfl⟩
 rw[<-hmb]at c9
 have m2:MsgP.sm ⟨M.group,M.epoch,M.frm,M.lf,M.sig,w.tag,mb⟩:=⟨hMsm.group,hMsm.epoch,hMsm.frm,hMsm.sig,hw2,by rw[hmb];exact zch _ _,hMsm.lf,hMsm.src,hMsm.par⟩
 have hof:MsgP.of ⟨M.group,M.epoch,M.frm,M.lf,M.sig,w.tag,mb⟩ (v0 x it tg sc ky) o sg:=⟨m2,hMg,hMe,hsp,hMs,hmb.trans (congrArg (macB sc.mb) (zbeb _ _ _ _ _ _ _ _ _))⟩
 generalize tagB ⟨M.group,M.epoch,M.frm,M.lf,M.sig,w.tag,M.mem⟩ x=tx at c8 c9
 have c10:=z9s _ m2
 have q1:=zgzb _ m2
 have hcl:=z0t _ m2
 have hc0:0< (msgB ⟨M.group,M.epoch,M.frm,M.lf,M.sig,w.tag,mb⟩).length:=by rw[zte];simp only[aL,zao];omega
 generalize msgB ⟨M.group,M.epoch,M.frm,M.lf,M.sig,w.tag,mb⟩=cm at c10 q1 hcl hc0
 have c11:aG 42 [bs cm] (.r (bs cm)):=zfd (zbu cm (by omega))
 have c12:=zv2 w ol sg hw3 hfl (by omega)
 have cC:=λq=>zv3 q x it tg sc ky o ol sg s2 com pl h tx mb cm M w l2 (by omega) (by omega) (by omega) hlr c4 c5 c6 c7 c8 c9 c10 c11 c12
 have q2:=z0f (v0 x it tg sc ky) ⟨M.group,M.epoch,M.frm,M.lf,M.sig,w.tag,mb⟩ hMg hMe (by show M.group.length<=_;rw[hMg];omega)
 have q3:aG 112 [nods [L1 o],I ((M.frm:Nat):Int)] (.r (.tu [.ag o.c, .b true])):=by rw[hMf];exact zwg o hfo hlr
 have q4:=zdmb (v0 x it tg sc ky) _ o sg hsm hxf hof hfo
 have q5:aG 114 [bs cm,bs cm] (.r (.b true)):=by
  have h:=zky cm cm
  rw[decide_eq_true rfl]at h
  exact h
 have cP:=λq=>zub q x it tg sc ky o ol sg cm ⟨M.group,M.epoch,M.frm,M.lf,M.sig,w.tag,mb⟩ w (by show M.epoch≠_;omega) (by show M.epoch<_;omega) hMf hc0 q1 q2 q3 q4 q5
 have cS:=zd8b w ol sg hw3 hfl (by omega)
 exact zv1 _ _ _ s1 s2 cm w ol sg hw1 cA cB cN cC cP cS
theorem z2k(b:List UInt8)(p:PropP):aG 5 [bs b, .ag p.c] (.r (.b true)):=zuc z5l b p
section
open Go.ChangeShapes Go.WideShapes Go.ChangeAt Go.RowKit
def groupNilC0:List Nat:=[5,6,41,7,8,45,119,205,237,318,120,207,319,206,14,65,63,64,140,139,236,238,239,342,344,432,343,49,122,208,202,121,123,210,211,323,326,209,321,322,424,320,423,219,330,212,324,339,325,329,213,328,425,488,527,489,327,50,124,214,218,332,331,356]
def groupNilC1:List Nat:=[223,215,126,222,228,336,426,427,429,428,490,430,491,492,528,227,334,335,337,338,355,354,439,125,216,217,220,221,127,51,128,42,129,130,224,53,136,135,230,229,231,52,132,225,333,133,134,172,171,226,131,43,116,175,258,357,440,497,498,259,358,441,499,500]
def groupNilC2:List Nat:=[501,442,260,359,443,360,261,272,370,371,284,387,291,361,444,462,445,201,314,315,422,317,316,46,44,118,157,203,117,204,47,48,38,106,167,104,154,245,246,345,433,494,114,346,247,249,347,434,348,349,248,350,435,495,436,437,438,496,174,156,173,256,257,159]
def groupNilC3:List Nat:=[25,82,30,93,166,165,107,176,262,362,177,263,363,264,265,91,164,252,353,253,255,254,145,196,308,178,197,309,266,179,267,364,195,365,366,268,367,269,368,446,447,502,529,180,108,181,101,271,270,369,182,273,112,373,372,448,449,504,503,292,450,451,274,375]
def groupNilC4:List Nat:=[454,374,452,505,453,461,517,518,506,530,531,550,532,540,541,533,551,552,555,534,535,536,537,376,455,183,275,377,456,457,507,538,508,276,283,386,378,458,379,459,277,380,278,279,280,281,381,460,509,510,539,511,512,542,543,553,513,514,515,516,382,383,282,385]
def groupNilC5:List Nat:=[384,184,285,186,185,286,389,390,464,463,519,388,288,287,392,391,465,520,544,554,545,521,466,296,397,398,467,468,522,546,547,523,524,399,469,470,471,472,21,76,155,77,158,78,34,99,170,100,109,187,289,290,393,394,395,188,293,189,294,396,295,297,400,401]
def groupNilC6:List Nat:=[473,402,474,475,403,190,298,404,405,476,299,69,144,243,146,111,192,193,303,305,408,479,525,480,406,301,304,407,477,478,306,409,410,481,307,412,413,411,300,482,414,483,415,416,484,194,191,302,40,90,28,92,113,115,198,199,311,310,200,312,417,313,418,485]
def groupNilC7:List Nat:=[419,421,487,486,526,548,549,420,17,36,37,105,39,110,16,33,96,24,97,168,98,169,68,143,95,242,23,81,32,94,160]
def groupNilC:List Nat:=groupNilC0++(groupNilC1++(groupNilC2++(groupNilC3++(groupNilC4++(groupNilC5++(groupNilC6++(groupNilC7)))))))
theorem zh4:Tryz.prog.closure 5=groupNilC:=by rw[z4w];kernel_rfl
noncomputable def groupNilIn (g:Nat):Option String:=(Tryz.prog.funcs[g]?).bind λfn=>if fn.ours||fn.body.isNone||fn.name== "runtime.NumGoroutine" then some fn.name else none
theorem zy4:(Rows.groupNilRow.inPlace==Tryz.prog.inPlace 5)=true:=by
 unfold Program.inPlace
 rw[zh4]
 have h:groupNilC.filterMap groupNilIn=Rows.groupNilRow.inPlace:=by kernel_rfl
 exact beq_iff_eq.2 h.symm
theorem zog:Tryz.prog.unfollowed 5=true:=by
 unfold Program.unfollowed
 rw[zh4]
 exact List.any_eq_true.2 ⟨322,List.contains_iff_mem.1 (by kernel_rfl),by kernel_rfl⟩
theorem zv0:(Rows.groupNilRow.unfollowed==Tryz.prog.unfollowed 5)=true:=by rw[zog];rfl
theorem zvz:(Rows.groupNilRow.recurses==Tryz.prog.recurses 5)=true:=by unfold Program.recurses;rw[zog];rfl
noncomputable def groupNilGn (g:Nat):List Nat:=((Tryz.prog.funcs[g]?).bind (·.body)).elim [] Code.globalsNamed
theorem zvr:groupNilC0.flatMap groupNilGn=[]:=by kernel_rfl
theorem zvs:groupNilC1.flatMap groupNilGn=[]:=by kernel_rfl
theorem zvt:groupNilC2.flatMap groupNilGn=[]:=by kernel_rfl
theorem zvu:groupNilC3.flatMap groupNilGn=[]:=by kernel_rfl
theorem zvv:groupNilC4.flatMap groupNilGn=[]:=by kernel_rfl
theorem zvw:groupNilC5.flatMap groupNilGn=[]:=by kernel_rfl
theorem zvx:groupNilC6.flatMap groupNilGn=[]:=by kernel_rfl
theorem zvy:groupNilC7.flatMap groupNilGn=[]:=by kernel_rfl
theorem zy3:groupNilC.flatMap groupNilGn=[]:=by simp only[groupNilC,List.flatMap_append,zvr,zvs,zvt,zvu,zvv,zvw,zvx,zvy,List.append_nil]
theorem zy5:(Rows.groupNilRow.named==Tryz.prog.varsNamed 5)=true:=by
 unfold Program.varsNamed
 rw[zh4]
 have h:(groupNilC.filterMap λg=>(Tryz.prog.funcs[g]?).bind λfn=>if fn.body.isNone then entryReads.lookup fn.name else none)=[]:=by kernel_rfl
 have k:(groupNilC.flatMap λg=>((Tryz.prog.funcs[g]?).bind (·.body)).elim [] Code.globalsNamed)=[]:=zy3
 rw[h,k];rfl
theorem zqe:joinedFacts aP 5 Tryz.f5 Rows.groupNilSpec Rows.groupNilRow=true:=by
 unfold joinedFacts
 repeat' with_reducible apply andI
 all_goals first
  |with_reducible exact zqo
  |with_reducible exact z3o
  |with_reducible exact zzq
  |with_reducible exact zy4
  |with_reducible exact zv0
  |with_reducible exact zvz
  |with_reducible exact zy5
  |(rw[z3k];kernel_rfl)
  |kernel_rfl
end
section
open Go.ChangeShapes Go.WideShapes Go.ChangeAt Go.RowKit
set_option maxRecDepth 100000 in
theorem zqf(os:Os)(started:os.Started)(H:Type)(enc:TypeId×Value->H):
  ReturnsInHanded {} Tryz.checked os 5 .any (Rows.groupNilSpec.pre6 enc aP Tryz.f5 Rows.groupNilRow.domain false) (Rows.groupNilSpec.post enc aP Tryz.f5 false true false false):=by
 refine returnsInHanded_of_change_sized (C:=Tryz.checked) zatb started (by kernel_rfl) Tryz.func5
  (ChangeSpec.witness6 (enc:=enc) (C:=Tryz.checked) false ⟨#[], #[.slice none 0 0, .agg #[.int .u8 0, .slice none 0 0, .slice none 0 0, .slice none 0 0, .slice none 0 0, .int .u8 0, .slice none 0 0, .slice none 0 0, .slice none 0 0, .slice none 0 0, .slice none 0 0, .slice none 0 0, .int .u8 0, .slice none 0 0, .slice none 0 0, .int .i64 0]],[]⟩ 8 (by kernel_rfl) (by kernel_rfl) (by kernel_rfl) (by kernel_rfl)) ?_
 intro W base args ds gs before hval0 hW hcnd hsz0 _
 have hval: ∀(j:Nat) t v,Tryz.f5.params[j]?=some t->args[j]?=some v->Value.okWide aP W .any base t v:=hval0
 have hW':=hW
 obtain⟨p,q,hA0,hV,rfl,hfz,hnd⟩:=hW
 have hA:DataW.TrodAll enc aP W 0 (λ_=>true) true Tryz.f5.params.toList args.toList ds p:=hA0
 rw[Tryz.params5]at hA hval
 obtain⟨v0,vs0,d0,ds0,p0,q0,hargs,rfl,rfl,h0,r0⟩:=trodAll_cons hA
 obtain⟨v1,vs1,d1,ds1,p1,q1,rfl,rfl,rfl,h1,r1⟩:=trodAll_cons r0
 obtain⟨rfl,rfl,rfl⟩:=trodAll_nil r1
 obtain rfl:args= #[v0,v1]:=by cases args;simp_all
 obtain⟨rfl,rfl⟩:=trodVars_none hV
 have lt0: ∀x∈p0,x.block<W.heap.size:=by obtain⟨m,hm⟩:=h0;exact DataW.trod_lt m _ _ _ hm
 obtain⟨l0,hv0⟩:=z8x (hval 0 22 v0 rfl rfl) h0
 have lt1: ∀x∈p1,x.block<W.heap.size:=by obtain⟨m,hm⟩:=h1;exact DataW.trod_lt m _ _ _ hm
 obtain⟨l1,i1,hv1⟩:=ze1b (hval 1 67 v1 rfl rfl) h1
 clear hA0 hval0 hsz0
 refine((z2k l0 l1).2 W (allK W) [v0,v1] (by simp only[RV.partsAt];exact⟨_,_,rfl,hv0,_,_,rfl,hv1,rfl⟩)).mono λe W' ⟨v,he,bel,k',_,hr⟩=>?_
 have hr':v= .bool true:=by simpa[Res.at_,RV.at_]using hr
 subst hr';subst he
 exact⟨_,rfl,_,_,_,[],_,[],hW',trodAll_mk1 (shut_bool Tryz.underlying4 _),(trodAll_cons_mk (Below.trod zwp (by kernel_rfl) (of_decide_eq_true (by kernel_rfl)) h0 bel lt0) (trodAll_cons_mk (Below.trod zwp (by kernel_rfl) (of_decide_eq_true (by kernel_rfl)) h1 bel lt1) trodAll_mk0)),rfl,bel.frame _,λh=>by cases h⟩
theorem groupNil_holds:Rows.GroupNilSaid:=
 OpenClaim.holds_of_wide 5 Tryz.f5 rfl rfl rfl rfl rfl rfl rfl ⟨rfl,rfl,rfl,rfl,rfl⟩ rfl rfl rfl rfl rfl (by kernel_rfl) Tryz.func5 zqe
  (of_decide_eq_true (by kernel_rfl)) (by unfold Func.isWrapper;first|(rw[if_pos (by decide+kernel)];kernel_rfl)|(rw[if_neg (by decide+kernel)];exact⟨rfl,rfl⟩))
  (λos started H enc _=>zqf os started H enc)
#print axioms groupNil_holds
end
end Go.Proofs.YtkegaaonpekkgaaGreat.Sx
