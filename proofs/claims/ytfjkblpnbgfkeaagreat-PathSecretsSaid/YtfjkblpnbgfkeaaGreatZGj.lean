import Derived.Test.YtfjkblpnbgfkeaaGreatZEc
import Derived.Test.YtfjkblpnbgfkeaaGreatZKe
import Derived.Laws.BytesArg
import Derived.Lib.Bytes
import Derived.Test.YtfjkblpnbgfkeaaGreatZSxU
import Derived.Shelf.SlSortCmp.WholeK
import Derived.Ground.SlsfProg
namespace Go.Proofs.YtfjkblpnbgfkeaaGreat.Sx
open Go.RowKit
set_option linter.unusedVariables false
section
theorem z9v{n:Nat}(hn:1<=n/\n<=32):(1:Int)=IntKind.i64.wrap (((n+31:Nat):Int).tdiv 32):=by
 have h:((n+31:Nat):Int).tdiv 32=1:=by rw[Int.tdiv_eq_ediv_of_nonneg (by omega)];omega
 rw[h]
 rfl
theorem zp4(s info:List UInt8)(n:Nat)(hn:1<=n/\n<=32)(hs:s.length<=1000000000)(hi:info.length<=1000000000):zab Tryz.prog 43 [bs s,bs info,I n] (.r (bs (exp1 s info n))):=by
 refine zaa (T:=Tab) mixed Tab_ok Tryz.func43 rfl (by kernel_rfl) ?_
 refine Vloop.rounds 2 (Vrounds.step mixed Tab_ok ?_)
 refine zd (m:=((n+31:Nat):Int)) (by omega) (by omega) ?_
 refine⟨by decide,1,z9v hn,?_⟩
 refine zt rfl (zp ?_)
 refine zu rfl (zq ?_)
 refine Vapp.mk' (j:=info.length) (zs:=info.map U8) (by simp[maxLen];omega) (by simp;omega) (by simp) (by simp) ?_
 refine zd (m:=1) rfl (by decide) ?_
 refine Vint.u8 1 rfl (zw ?_)
 refine Vapp.mk' (j:=(info++[1]).length) (zs:=(info++[1]).map U8) (by simp[maxLen];omega) (by simp;omega) (by simp) (by rw[List.map_append];rfl) ?_
 refine ze (zyx s (info++[1]) hs (by simp;omega)) ?_
 refine zw ?_
 refine Vapp.mk' (j:=1) (zs:=[bs (macB s (info++[1]))]) (by decide) (by decide) rfl rfl ?_
 refine zd (m:=1) rfl (by decide) ?_
 refine Vrounds.step mixed Tab_ok ?_
 refine zd (m:=((n+31:Nat):Int)) (by omega) (by omega) ?_
 refine⟨by decide,1,z9v hn,?_⟩
 refine zu rfl (zq ?_)
 refine Vloop.rounds 2 (Vrounds.step mixed Tab_ok ?_)
 refine zt rfl (zp ?_)
 refine zm (by decide) (by decide) rfl (zg rfl ?_)
 refine Vapp.mk' (j:=32) (zs:=(macB s (info++[1])).map U8) (by simp[maxLen,zei]) (by simp[zei]) (by simp[zei]) (by simp) ?_
 refine zd (m:=1) rfl (by decide) ?_
 refine Vrounds.step mixed Tab_ok ?_
 refine zu rfl (zq ?_)
 refine⟨by omega,by omega,by omega,n,(exp1 s info n).map U8,by omega,?_,?_⟩
 ·unfold exp1;rw[List.map_take];simp
 ·refine zf ?_
  simp only[bs,zkw s info hn.2]
theorem zmf(s:List UInt8)(label:ByteArray)(ctx:List UInt8)(n:Nat)(hn:1<=n/\n<=32)(hs:s.length<=1000000000)(hl:label.size<=1048576)(hc:ctx.length<=1048576):
  zab Tryz.prog 19 [bs s,Str label,bs ctx,I n] (.r (bs (labB s (sB label) ctx n))):=by
 refine zaa (T:=Tab) mixed Tab_ok Tryz.func19 rfl (by kernel_rfl) ?_
 have hd:=zo3 label
 have hsz:label.data.toList.length=label.size:=rfl
 have hml:mlsB.length=8:=rfl
 have hb:(beB 2 n).length=2:=za0 2 n
 have hv:=zal (mlsB++label.data.toList)
 have hv2:=zal ctx
 rw[List.length_append]at hv
 refine Vint.u64 n rfl (by omega) ?_
 refine ze (zj8 2 n (by omega) (by omega)) ?_
 refine⟨by show 8+label.size<=_;omega,?_⟩
 refine⟨by rw[zrs];show 8+label.size<=_;omega,?_⟩
 refine ze (zc1 ((⟨#[77,76,83,32,49,46,48,32]⟩:ByteArray)++label).data.toList (by rw[hd,List.length_append];omega)) ?_
 rw[hd]
 refine Vapp.mk' (j:=(beB 2 n++vecB (mlsB++label.data.toList)).length) (zs:=(beB 2 n++vecB (mlsB++label.data.toList)).map U8) (by simp only[maxLen];omega) (by show _*1<=_;omega) (by simp) (by simp) ?_
 refine ze (zc1 ctx (by omega)) ?_
 refine Vapp.mk' (j:=(beB 2 n++vecB (mlsB++label.data.toList)++vecB ctx).length) (zs:=(beB 2 n++vecB (mlsB++label.data.toList)++vecB ctx).map U8) (by simp only[maxLen,List.length_append];omega) (by show _*1<=_;simp only[List.length_append];omega) (by simp only[List.length_append]) (by simp) ?_
 refine ze (zp4 s (beB 2 n++vecB (mlsB++label.data.toList)++vecB ctx) n hn hs (by simp only[List.length_append];omega)) ?_
 exact cr
end
section
def nums(l:List UInt8):List Int:=l.map λb=>(b.toNat:Int)
theorem zahb{S:Nat->Prop}(p:AC)(l:List UInt8)(w:World)(hp:By w S p l):(convert 22 9 (.slice p.a l.length p.c)).run Tryz.prog w= .ok (.string (strOfNums (nums l))) w:=by
 rcases Nat.eq_zero_or_pos l.length with hn |hn
 ·have hl:l=[]:=List.eq_nil_of_length_eq_zero hn
  subst hl
  rw[run_convert_bytes_string w _ _ _ _ _ _ Tryz.underlying22 Tryz.underlying5 Tryz.underlying9]
  simp only[List.length_nil]
  cases p.a<;>simp[Conv.bytesToString,loadCells]
  all_goals rfl
 ·obtain⟨b,o,e,hc⟩:=hp.form hn
  rw[e]
  exact run_convert_bytes_arg w _ _ Tryz.underlying22 Tryz.underlying5 b o l.length p.c (nums l) (by simp[nums]) (λi hi=>by
   rw[hc i hi]
   simp[nums,hi]) _ Tryz.underlying9
end
section
def baS(l:List UInt8):ByteArray:=⟨l.toArray⟩
theorem z14(l:List UInt8):strOfNums (nums l)=baS l:=by
 unfold strOfNums baS nums
 rw[List.map_map]
 congr 2
 exact(List.map_congr_left (λx _=>by simp)).trans (List.map_id l)
theorem Vfun.str{S:St}{o:Oper}{x:Operand}{l:List UInt8}{K:RV->Prop}(hop:o.op= .convert 22 9 x)(hx:oprs S [x]=some [bs l])(hK:K (Str (baS l))):Vfun Tryz.prog S o [x] K:=
 ⟨_,hx,_,λa w k h=>by
  simp only[RV.partsAt,List.map_cons,List.map_nil]at h
  obtain⟨u,r,e,hat,_⟩:=h
  obtain⟨p,rfl,hp⟩:=ze6 hat
  have hv:=(List.cons.inj e).1
  refine⟨.string (baS l),?_,by simp only[RV.at_]⟩
  have hc:=zahb p l w hp
  rw[z14]at hc
  simp[execOp,hop,hv,hc],hK⟩
def strs(l:List ByteArray):RV:= .sl 1 l.length (l.map Str)
def catS(l:List ByteArray):List UInt8:=l.flatMap sB
def zeub(l:List ByteArray):Nat->St
 |0=>{F:=[(3, .r (.x (.slice none 0 0))),(6, .r (strs l)),(7, .r (I l.length)),(8, .r (I ((0:Nat):Int)))],O:=[],nx:=0}
 |i+1=>{F:=[(3, .own 0),(6, .r (strs l)),(7, .r (I l.length)),(8, .r (I ((i+1:Nat):Int)))],O:=[(0,some (.ch 5 1 (catS (l.take (i+1))).length ((catS (l.take (i+1))).map U8) true))],nx:=1}
theorem zsw{l:List ByteArray}{i:Nat}(hi:i<l.length):catS (l.take (i+1))=catS (l.take i)++sB l[i]:=by
 rw[List.take_add_one,List.getElem?_eq_getElem hi]
 show(l.take i++[l[i]]).flatMap sB=_
 rw[List.flatMap_append]
 simp only[catS,List.flatMap_cons,List.flatMap_nil,List.append_nil]
theorem zaeb{l:List ByteArray}{i:Nat}:(catS (l.take i)).length<=(catS l).length:=by
 have h:catS l=catS (l.take i)++catS (l.drop i):=by
  unfold catS
  rw[<-List.flatMap_append,List.take_append_drop]
 rw[h,List.length_append]
 omega
theorem z3k(l:List ByteArray)(h0:l≠[])(hl:(catS l).length<=10000000000)(hn:l.length<=1000000000):zab Tryz.prog 87 [strs l] (bch (catS l)):=by
 refine zaa (T:=Tab) mixed Tab_ok Tryz.func87 rfl (by kernel_rfl) ?_
 refine zx (zeub l) (λi=>i<=l.length) (λi=>l.length-i) 0 (by omega) (zac [] rfl ⟨cr,cr,cr,cr,trivial⟩ trivial) ?_
 intro i hi
 have hpos:0<l.length:=by cases l;exact absurd rfl h0;simp
 have hle:= @zaeb l (i+1)
 rcases i with _ |i
 ·refine zt (decide_eq_true (by omega)) (zp ?_)
  refine zm (by omega) (by omega) (zak (j:=0) rfl hpos) (zg rfl ?_)
  have hs:=zsw hpos
  rw[hs]at hle
  simp only[List.length_append,sB,Array.length_toList]at hle
  refine Vstep.appS (s:=l[0]) Tab_ok rfl rfl rfl rfl ⟨rfl,rfl⟩ rfl rfl rfl rfl rfl (by show 0+l[0].data.size<=_;omega) ?_
  refine zd (m:=((0+1:Nat):Int)) rfl (by decide) ?_
  refine⟨0+1,by omega,by omega,zac [(0,0)] rfl ⟨rfl,cr,cr,cr,trivial⟩ ⟨⟨rfl,rfl,?_,rfl,Cvs.of_eq ?_⟩,trivial⟩⟩
  ·rw[hs];simp[catS,sB]
  ·rw[hs];rfl
 ·refine zh (λh=>zp ?_) (λh=>zq ?_)
  ·simp only[zb]at h
   have hlt:i+1<l.length:=by omega
   refine zm (by omega) (by omega) (zak (j:=i+1) rfl hlt) (zg rfl ?_)
   have hs:=zsw hlt
   rw[hs]at hle
   simp only[List.length_append,sB,Array.length_toList]at hle
   refine Vstep.appS (s:=l[i+1]) Tab_ok rfl rfl rfl rfl ⟨rfl,rfl⟩ rfl rfl rfl rfl rfl (by show _+l[i+1].data.size<=_;omega) ?_
   refine zd (m:=((i+1+1:Nat):Int)) (by omega) (by omega) ?_
   refine⟨i+1+1,by omega,by omega,zac [(0,1)] rfl ⟨rfl,cr,cr,cr,trivial⟩ ⟨⟨rfl,rfl,?_,rfl,Cvs.of_eq ?_⟩,trivial⟩⟩
   ·rw[hs,List.length_append];rfl
   ·rw[hs,List.map_append]
  ·simp only[zb]at h
   have hl':i+1=l.length:=by omega
   exact zdu (by rw[hl',List.take_length])
def verB:List UInt8:=[72,80,75,69,45,118,49]
def extB(name salt label secret:List UInt8):List UInt8:=macB salt (verB++name++label++secret)
def epdB(name secret label info:List UInt8)(n:Nat):List UInt8:=exp1 secret (beB 2 n++verB++name++label++info) n
theorem z0q(salt secret:List UInt8)(h1:salt.length<=1000000000)(h2:secret.length<=10000000000):zab Tryz.prog 88 [bs salt,bs secret] (bch (macB salt secret)):=by
 refine zaa (T:=Tab) mixed Tab_ok Tryz.func88 rfl (by kernel_rfl) ?_
 refine zw ?_
 refine ze (z9f salt [secret] h1 (by simp;omega)) ?_
 exact zdu (by simp)
theorem z0p(name label:ByteArray)(salt secret:List UInt8)(h1:salt.length<=1000000000)(h2:secret.length<=1000000000)(h3:name.size<=1000)(h4:label.size<=1000):
  zab Tryz.prog 37 [Str name,bs salt,Str label,bs secret] (bch (extB (sB name) salt (sB label) secret)):=by
 refine zaa (T:=Tab) mixed Tab_ok Tryz.func37 rfl (by kernel_rfl) ?_
 have e:catS [⟨#[72,80,75,69,45,118,49]⟩,name,label,baS secret]=verB++sB name++sB label++secret:=by simp[catS,verB,baS];rfl
 have hl:(catS [⟨#[72,80,75,69,45,118,49]⟩,name,label,baS secret]).length<=10000000000:=by
  rw[e];simp only[List.length_append,sB,Array.length_toList];show 7+name.size+label.size+_<=_;omega
 refine Vfun.str rfl rfl (zw ?_)
 refine ze (z3k [⟨#[72,80,75,69,45,118,49]⟩,name,label,baS secret] (by simp) hl (by simp)) ?_
 refine ze (z0q salt _ h1 (by omega)) ?_
 exact zdu (by rw[e];rfl)
theorem z3j(name label:ByteArray)(secret info:List UInt8)(n:Nat)(hn:1<=n/\n<=32)(h1:secret.length<=1000000000)(h2:info.length<=1000000)(h3:name.size<=1000)(h4:label.size<=1000):
  zab Tryz.prog 36 [Str name,bs secret,Str label,bs info,I n] (.r (bs (epdB (sB name) secret (sB label) info n))):=by
 refine zaa (T:=Tab) mixed Tab_ok Tryz.func36 rfl (by kernel_rfl) ?_
 have e:catS [baS ([]++beB 2 n),⟨#[72,80,75,69,45,118,49]⟩,name,label,baS info]=beB 2 n++verB++sB name++sB label++info:=by simp[catS,verB,baS];rfl
 have hb:(beB 2 n).length=2:=za0 2 n
 have hl:(catS [baS ([]++beB 2 n),⟨#[72,80,75,69,45,118,49]⟩,name,label,baS info]).length<=1000000000:=by
  rw[e];simp only[List.length_append,sB,Array.length_toList,hb];show 2+7+name.size+label.size+_<=_;omega
 refine Vint.u64 n rfl (by omega) ?_
 refine Vcall.mk' (ziq [] 2 n (by simp) (.inr (.inl rfl))) (zk (Cv.nil _) (zn _)) ?_
 refine Vfun.str rfl rfl ?_
 refine Vfun.str rfl rfl (zw ?_)
 refine ze (z3k [baS ([]++beB 2 n),⟨#[72,80,75,69,45,118,49]⟩,name,label,baS info] (by simp) (by omega) (by simp)) ?_
 refine ze (zs3 secret _ n hn h1 hl) ?_
 rw[e]
 exact cr
end
section
def z0e(k p:List UInt8):List UInt8:=znp (zik k) (Fe.of p)
def nine:List UInt8:=Fe.bytes ⟨9&&&msk,shrW 9 51,0,0,0⟩
def zgj(k:List UInt8):List UInt8:=z0e k nine
theorem z7z:nine.length=32:=Fe.bytes_len _
attribute [irreducible] nine
theorem za2b(k p:List UInt8)(hk:k.length=32)(hp:p.length=32):zab Tryz.prog 44 [bs k,bs p] (.r (.tu [bs (z0e k p),Er 0])):=by
 refine zaa (T:=Tab) mixed Tab_ok Tryz.func44 rfl (by kernel_rfl) ?_
 refine zu (by simp[hk]) (zq ?_)
 refine zu (by simp[hp]) (zq ?_)
 refine ze (za1b k hk) ?_
 refine ze (h_of p hp) ?_
 refine ze (z4d (zik k) (Fe.of p) ((zpt k).trans hk)) ?_
 exact⟨_,rfl,cr⟩
theorem z3x(k:List UInt8)(hk:k.length=32):zab Tryz.prog 20 [bs k] (.r (.tu [bs (zgj k),Er 0])):=by
 refine zaa (T:=Tab) mixed Tab_ok Tryz.func20 rfl (by kernel_rfl) ?_
 refine ze (zi9 9) ?_
 refine ze (zry ⟨9&&&msk,shrW 9 51,0,0,0⟩) ?_
 refine Vcall.mk' (za2b k nine hk z7z) (zk (cr) (zk (zf (by unfold nine;rfl)) Cvs.nil)) ?_
 exact⟨_,rfl,cr⟩
def kemB:List UInt8:=[75,69,77,0,32]
def zdb(seed:List UInt8):List UInt8:=epdB kemB (extB kemB [] [100,107,112,95,112,114,107] seed) [115,107] [] 32
theorem z6r(n s l i:List UInt8){m:Nat}(h:m<=32):(epdB n s l i m).length=m:=zkw _ _ h
theorem zvc(n s l i:List UInt8):(extB n s l i).length=32:=zei _ _
theorem ztp(seed:List UInt8):(zdb seed).length=32:=z6r _ _ _ _ (by omega)
theorem zrz(seed:List UInt8)(hs:seed.length<=1000000000):zab Tryz.prog 17 [bs seed] (.r (.tu [bs (zdb seed),bs (zgj (zdb seed))])):=by
 refine zaa (T:=Tab) mixed Tab_ok Tryz.func17 rfl (by kernel_rfl) ?_
 have hx:(extB kemB [] [100,107,112,95,112,114,107] seed).length<=1000000000:=by rw[zvc];omega
 refine Vcall.mk' (z0p ⟨#[75,69,77,0,32]⟩ ⟨#[100,107,112,95,112,114,107]⟩ [] seed (by simp) hs (by decide) (by decide)) (zk (cr) (zk (Cv.nil 1) (zn _))) ?_
 refine Vcall.mk' (z3j ⟨#[75,69,77,0,32]⟩ ⟨#[115,107]⟩ (extB kemB [] [100,107,112,95,112,114,107] seed) [] 32 (by omega) hx (by simp) (by decide) (by decide)) (zk (cr) (zk (cr) (zk (cr) (zk (Cv.nil 1) (zn _))))) ?_
 refine ze (z3x (zdb seed) (ztp seed)) ?_
 exact⟨_,rfl,cr⟩
theorem zg6(s l c:List UInt8){n:Nat}(h:n<=32):(labB s l c n).length=n:=zkw _ _ h
def z1k:List UInt8:=[110,111,100,101]
theorem za9b(s:List UInt8)(hs:s.length<=1000000000):zab Tryz.prog 6 [bs s] (.r (.tu [bs (zdb (labB s z1k [] 32)),bs (zgj (zdb (labB s z1k [] 32)))])):=by
 refine zaa (T:=Tab) mixed Tab_ok Tryz.func6 rfl (by kernel_rfl) ?_
 refine ze (zk1 s ⟨#[110,111,100,101]⟩ hs (by decide)) ?_
 refine ze (zrz (labB s z1k [] 32) (by rw[zg6 _ _ _ (by omega)];omega)) ?_
 exact⟨_,rfl,cr⟩
def zuq:List UInt8:=[112,97,116,104]
theorem z34(s:List UInt8)(hs:s.length<=1000000000):zab Tryz.prog 16 [bs s] (.r (bs (labB s zuq [] 32))):=by
 refine zaa (T:=Tab) mixed Tab_ok Tryz.func16 rfl (by kernel_rfl) ?_
 refine ze (zk1 s ⟨#[112,97,116,104]⟩ hs (by decide)) ?_
 exact cr
end
section
theorem zis(a b:List UInt8)(h:a.length+b.length<=100000000000):zab Tryz.prog 89 [bs a,bs b] (bch (a++b)):=by
 refine zaa (T:=Tab) mixed Tab_ok Tryz.func89 rfl (by kernel_rfl) ?_
 refine zw ?_
 refine Vapp.mk' (j:=a.length) (zs:=a.map U8) (by simp only[maxLen];omega) (by show _*1<=_;omega) (by omega) (by simp) ?_
 refine Vapp.mk' (j:=(a++b).length) (zs:=(a++b).map U8) (by simp only[maxLen];omega) (by show _*1<=_;omega) (by simp) (by simp) ?_
 exact rfl
theorem zyz:zab Tryz.prog 39 [] (bch kemB):=by
 refine zaa (T:=Tab) mixed Tab_ok Tryz.func39 rfl (by kernel_rfl) ?_
 exact zw rfl
theorem zx0(name salt secret:List UInt8)(label:ByteArray)(h1:name.length<=1000)(h2:salt.length<=1000000000)(h3:label.size<=1000)(h4:secret.length<=1000000000):
  zab Tryz.prog 40 [bs name,bs salt,Str label,bs secret] (bch (extB name salt (sB label) secret)):=by
 refine zaa (T:=Tab) mixed Tab_ok Tryz.func40 rfl (by kernel_rfl) ?_
 have hl:(sB label).length=label.size:=Array.length_toList
 refine Vpub.own ?_
 refine Vstep.frz Tab_ok rfl rfl rfl rfl rfl rfl rfl (by decide) ?_
 refine ze (zis verB name (by show 7+_<=_;omega)) ?_
 refine⟨by omega,?_⟩
 refine ze (zis (sB label) secret (by omega)) ?_
 refine ze (zis (verB++name) (sB label++secret) (by simp only[List.length_append];show 7+_+_<=_;omega)) ?_
 refine ze (zyx salt (verB++name++(sB label++secret)) h2 (by simp only[List.length_append];show 7+_+_<=_;omega)) ?_
 exact zdu (by unfold extB;rw[List.append_assoc (verB++name)])
theorem z0u(name secret info:List UInt8)(label:ByteArray)(n:Nat)(hn:1<=n/\n<=32)(h1:name.length<=1000)(h2:secret.length<=1000000000)(h3:label.size<=1000)(h4:info.length<=1000000):
  zab Tryz.prog 38 [bs name,bs secret,Str label,bs info,I n] (.r (bs (epdB name secret (sB label) info n))):=by
 refine zaa (T:=Tab) mixed Tab_ok Tryz.func38 rfl (by kernel_rfl) ?_
 have hl:(sB label).length=label.size:=Array.length_toList
 have hb:(beB 2 n).length=2:=za0 2 n
 refine Vint.u64 n rfl (by omega) ?_
 refine ze (zj8 2 n (by omega) (by omega)) ?_
 refine Vpub.own ?_
 refine Vstep.frz Tab_ok rfl rfl rfl rfl rfl rfl rfl (by decide) ?_
 refine ze (zis (beB 2 n) verB (by rw[hb];decide)) ?_
 refine ze (zis (beB 2 n++verB) name (by simp only[List.length_append,hb];show 2+7+_<=_;omega)) ?_
 refine⟨by omega,?_⟩
 refine ze (zis (sB label) info (by omega)) ?_
 refine ze (zis (beB 2 n++verB++name) (sB label++info) (by simp only[List.length_append,hb];show 2+7+_+_<=_;omega)) ?_
 refine ze (zp4 secret (beB 2 n++verB++name++(sB label++info)) n hn h2 (by simp only[List.length_append,hb];show 2+7+_+_<=_;omega)) ?_
 exact zf (by unfold epdB;rw[List.append_assoc (beB 2 n++verB++name)])
theorem zx2(seed:List UInt8)(hs:seed.length<=1000000000):zab Tryz.prog 18 [bs seed] (.r (bs (zdb seed))):=by
 refine zaa (T:=Tab) mixed Tab_ok Tryz.func18 rfl (by kernel_rfl) ?_
 have hx:(extB kemB [] [100,107,112,95,112,114,107] seed).length<=1000000000:=by rw[zvc];omega
 refine ze zyz ?_
 refine ze zyz ?_
 refine Vcall.mk' (zx0 kemB [] seed ⟨#[100,107,112,95,112,114,107]⟩ (by decide) (by simp) (by decide) hs) (zk (cr) (zk (Cv.nil 1) (zn _))) ?_
 refine Vcall.mk' (z0u kemB (extB kemB [] [100,107,112,95,112,114,107] seed) [] ⟨#[115,107]⟩ 32 (by omega) (by decide) hx (by decide) (by simp)) (zk (cr) (zk (cr) (zk (cr) (zk (Cv.nil 1) (zn _))))) ?_
 exact cr
theorem za6b(s:List UInt8)(label:ByteArray)(hs:s.length<=1000000000)(hl:label.size<=1000000):zab Tryz.prog 7 [bs s,Str label] (.r (.tu [bs (zdb (labB s (sB label) [] 32)),bs (zgj (zdb (labB s (sB label) [] 32)))])):=by
 refine zaa (T:=Tab) mixed Tab_ok Tryz.func7 rfl (by kernel_rfl) ?_
 refine Vcall.mk' (zmf s label [] 32 (by omega) hs (by omega) (by simp)) (zk (cr) (zk (cr) (zk (Cv.nil 1) (zn _)))) ?_
 refine ze (zx2 (labB s (sB label) [] 32) (by rw[zg6 _ _ _ (by omega)];omega)) ?_
 refine ze (z3x (zdb (labB s (sB label) [] 32)) (ztp _)) ?_
 exact⟨_,rfl,cr⟩
end
section
def wayS:List UInt8:=[119,97,121]
def secN(seed:List UInt8):Nat->List UInt8
 |0=>labB seed wayS [] 32
 |k+1=>labB (secN seed k) zuq [] 32
theorem z5q(seed:List UInt8)(k:Nat):secN seed (k+1)=labB (secN seed k) zuq [] 32:=rfl
theorem zpb(seed:List UInt8): ∀k,(secN seed k).length=32
 |0=>zg6 _ _ _ (by omega)
 |k+1=>zg6 _ _ _ (by omega)
attribute [irreducible] secN
def zch(seed:List UInt8)(m:Nat):List (List UInt8):=(List.range m).map (secN seed)
theorem zjk(seed:List UInt8)(m:Nat):(zch seed m).length=m:=by simp[zch]
theorem z11(seed:List UInt8)(m:Nat):zch seed (m+1)=zch seed m++[secN seed m]:=by simp[zch,List.range_succ]
theorem zm3(seed:List UInt8):zch seed 1=[secN seed 0]:=by simp[zch,List.range_succ]
theorem ztv(seed:List UInt8){m:Nat}:((((zch seed (m+1)).map bs).drop ((m:Int).toNat*1)).take 1)[0]?=some (bs (secN seed m)):=by
 have h:m< ((zch seed (m+1)).map bs).length:=by rw[List.length_map,zjk];omega
 rw[Int.toNat_natCast,Nat.mul_one,List.getElem?_take,if_pos (by omega),List.getElem?_drop]
 show((zch seed (m+1)).map bs)[m]?=_
 rw[List.getElem?_eq_getElem h]
 simp[zch]
def secI(seed:List UInt8)(n:Int)(m:Nat):St:={F:=[(1, .r (I n)),(5, .own 0)],O:=[(0,some (.ch 22 1 (m+1) ((zch seed (m+1)).map bs) true))],nx:=1}
theorem zsf(seed:List UInt8)(m:Nat):(zch seed (m+1)).map bs++[bs (labB (secN seed m) zuq [] 32)]=(zch seed (m+1+1)).map bs:=by
 rw[z11 seed (m+1),List.map_append,<-z5q]
 rfl
theorem zzv(seed:List UInt8){n:Int}{m:Nat}(h:n=(m:Int)):Cv (.sl 1 (m+1) ((zch seed (m+1)).map bs)) (bss (zch seed (n.toNat+1))):=zf (by subst h;rw[Int.toNat_natCast];unfold bss;rw[zjk])
theorem zmh(seed:List UInt8)(n:Int)(hs:seed.length<=1000000000)(hn:0<=n/\n<=16):zab Tryz.prog 5 [bs seed,I n] (.r (bss (zch seed (n.toNat+1)))):=by
 refine zaa (T:=Tab) mixed Tab_ok Tryz.func5 rfl (by kernel_rfl) ?_
 refine Vcode.scope mixed Tab_ok 0 (secI seed n) (λm=>(m:Int)<=n) (λm=>n.toNat-m) rfl ?_ ?_
 ·refine zu (by simp;omega) ?_
  refine zu (by simp;omega) (zq ?_)
  refine ze (zk1 seed ⟨#[119,97,121]⟩ hs (by decide)) ?_
  refine zw ?_
  have e0:[bs (labB seed wayS [] 32)]=(zch seed 1).map bs:=by rw[zm3];unfold secN;rfl
  refine zh (λh=>zp ?_) (λh=>zq ?_)
  ·simp only[zb]at h
   refine zd (m:=0) rfl (by decide) ?_
   refine zm (by decide) (by decide) rfl (zg rfl ?_)
   refine ze (z34 (labB seed wayS [] 32) (by rw[zg6 _ _ _ (by omega)];omega)) ?_
   refine zw ?_
   refine Vapp.mk' (j:=2) (zs:=(zch seed 2).map bs) (by decide) (by decide) rfl (by rw[<-zsf seed 0];unfold secN;rw[zm3];unfold secN;rfl) ?_
   exact⟨1,by omega,zac [(0,2)] rfl ⟨cr,rfl,trivial⟩ ⟨⟨rfl,rfl,rfl,rfl,zn _⟩,trivial⟩⟩
  ·simp only[zb]at h
   exact zf (by rw[show n.toNat=0 by omega];unfold bss;rw[zjk,<-e0];rfl)
 ·intro m hm
  refine zh (λh=>zp ?_) (λh=>zq ?_)
  ·simp only[zb]at h
   refine zd (m:=(m:Int)) (by omega) (by omega) ?_
   refine zm (by omega) (by omega) rfl (zg (ztv seed) ?_)
   refine ze (z34 (secN seed m) (by rw[zpb];omega)) ?_
   refine zw ?_
   refine Vapp.mk' (j:=m+1+1) (zs:=(zch seed (m+1+1)).map bs) (by simp only[maxLen];omega) (by show(m+1+1)*24<=_;omega) rfl (zsf seed m) ?_
   exact⟨m+1,by omega,by omega,zac [(0,2)] rfl ⟨cr,rfl,trivial⟩ ⟨⟨rfl,rfl,rfl,rfl,zn _⟩,trivial⟩⟩
  ·simp only[zb]at h
   exact zzv seed (by omega)
theorem zr3(seed:List UInt8)(n:Int)(hn:n<0\/16<n):zab Tryz.prog 5 [bs seed,I n] (.r (bss [])):=by
 refine zaa (T:=Tab) mixed Tab_ok Tryz.func5 rfl (by kernel_rfl) ?_
 refine Vcode.scope mixed Tab_ok 0 (secI seed n) (λ_=>False) (λm=>0) rfl ?_ λ_ h=>h.elim
 by_cases h0:n<0
 ·refine zt (by simp;omega) ?_
  refine zp ?_
  exact Cv.nil 1
 ·refine zu (by simp;omega) ?_
  refine zt (by simp;omega) (zp ?_)
  exact Cv.nil 1
theorem z0v(seed:List UInt8)(n:Int)(hs:seed.length<=1000000000)(hn:0<=n/\n<=16):zab Tryz.prog 9 [bs seed,I n] (.r (bss (zch seed (n.toNat+1)))):=by
 refine zaa (T:=Tab) mixed Tab_ok Tryz.func9 rfl (by kernel_rfl) ?_
 refine Vcall.mk' (zmf seed ⟨#[119,97,121]⟩ [] 32 (by omega) hs (by decide) (by simp)) (zk (cr) (zk (cr) (zk (Cv.nil 1) (zn _)))) ?_
 refine zw ?_
 have e0:[bs (labB seed wayS [] 32)]=(zch seed 1).map bs:=by rw[zm3];unfold secN;rfl
 refine zx (secI seed n) (λm=>(m:Int)<=n) (λm=>n.toNat-m) 0 (by omega) (zac [(0,0)] rfl ⟨cr,rfl,trivial⟩ ⟨⟨rfl,rfl,rfl,rfl,Cvs.of_eq e0⟩,trivial⟩) ?_
 intro m hm
 refine zh (λh=>zp ?_) (λh=>zq ?_)
 ·simp only[zb]at h
  refine zd (m:=(m:Int)) (by omega) (by omega) ?_
  refine zm (by omega) (by omega) rfl (zg (ztv seed) ?_)
  refine Vcall.mk' (zmf (secN seed m) ⟨#[112,97,116,104]⟩ [] 32 (by omega) (by rw[zpb];omega) (by decide) (by simp)) (zk (cr) (zk (cr) (zk (Cv.nil 1) (zn _)))) ?_
  refine zw ?_
  refine Vapp.mk' (j:=m+1+1) (zs:=(zch seed (m+1+1)).map bs) (by simp only[maxLen];omega) (by show(m+1+1)*24<=_;omega) rfl (zsf seed m) ?_
  exact⟨m+1,by omega,by omega,zac [(0,2)] rfl ⟨cr,rfl,trivial⟩ ⟨⟨rfl,rfl,rfl,rfl,zn _⟩,trivial⟩⟩
 ·simp only[zb]at h
  exact zzv seed (by omega)
end
section
structure KeyP where
 at_:Int
 key:List UInt8
 deriving DecidableEq
abbrev KeyP.c(k:KeyP):List RV:=[I k.at_,bs k.key]
def keyR(l:List KeyP):RV:= .sl 2 l.length (l.flatMap KeyP.c)
structure Wld where
 t:List Node
 keys:List (List KeyP)
 sign:List (List UInt8)
 n:Nat
abbrev wBx(t:List Node)(n:Int):Ow:= .box [.r (nods t), .own 1, .own 2, .r (I n)]
abbrev wK(keys:List (List KeyP)):Ow:= .ch 44 1 keys.length (keys.map keyR) false
abbrev wG(sign:List (List UInt8)):Ow:= .ch 22 1 sign.length (sign.map bs) false
abbrev wO(w:Wld):List (Nat×Ow):=[(0,wBx w.t w.n),(1,wK w.keys),(2,wG w.sign)]
theorem zea{ρ:List (Nat×Nat)}{S:St}{t:List Node}{n:Int}{i j:Nat}(h1:zbc ρ 1=some i)(h2:zbc ρ 2=some j):cvOw ρ S (.box [.r (nods t), .own i, .own j, .r (I n)]) (wBx t n):=
 ⟨_,_,rfl,cr,_,_,rfl,by show(match zbc ρ 1,TF.own i with |some j, .own i=>i=j |_,_=>False);rw[h1],_,_,rfl,by show(match zbc ρ 2,TF.own j with |some j, .own i=>i=j |_,_=>False);rw[h2],_,_,rfl,cr,rfl⟩
theorem zhd(w:Wld):zux (wO w):=⟨zae,zba,zba,trivial⟩
def zbd(n:Nat):List UInt8:=((List.replicate 32 (0:UInt8)).set 0 (UInt8.ofNat n)).set 1 (UInt8.ofNat (n/256))
theorem ze4(n:Nat):(zbd n).length=32:=by simp[zbd]
theorem z4g(n:Nat)(hn:n<=1000000000):zab Tryz.prog 14 [I n] (bch (zbd n)):=by
 refine zbo (T:=Tab) mixed Tab_ok Tryz.func14 rfl (by kernel_rfl) ?_
 refine⟨rfl,by decide,by decide,by decide,_,_,rfl,zs32,Vpub.own ?_⟩
 refine Vint.u8 n rfl ?_
 refine Vquo.i64 n 256 rfl rfl (by omega) (by omega) ?_
 refine Vint.u8 (n/256) rfl ?_
 refine Vadr.mk' 0 rfl (by decide) ?_
 refine⟨by decide,((List.replicate 32 (0:UInt8)).set 0 (UInt8.ofNat n)).map U8,zc0 (by decide),?_⟩
 refine Vadr.mk' 1 rfl (by decide) ?_
 refine⟨by rw[List.length_map,List.length_set];decide,(zbd n).map U8,zc0 (by rw[List.length_set];decide),?_⟩
 refine⟨_,zbw (id:=0) rfl,?_⟩
 exact congrArg (λm=>some (Ow.ch 5 1 m ((zbd n).map U8) true)) (ze4 n).symm
theorem zy4(v:Value)(w:Wld)(hn:w.n<=100000000):Acts Tryz.prog 47 3 (wO w) [.own 0] [(0,v)] 3 (wO {w with n:=w.n+1}) (.r (bs (zbd (w.n+1)))):=by
 refine zb4 (T:=Tab) mixed Tab_ok Tryz.func47 rfl (by kernel_rfl) rfl ⟨⟨_,_,rfl,rfl,zax,zax⟩,trivial⟩ ?_
 refine zd (m:=((w.n+1:Nat):Int)) (by omega) (by omega) ?_
 refine ze (z4g (w.n+1) (by omega)) ?_
 exact zbx (.inl rfl) [(0,0),(1,1),(2,2)] [(2, .r (bs (zbd (w.n+1))))] [] rfl ⟨cr,⟨rfl,rfl⟩,trivial⟩ ⟨zea rfl rfl,⟨rfl,rfl,rfl,rfl,zn _⟩,⟨rfl,rfl,rfl,rfl,zn _⟩,trivial⟩ ⟨⟨1000000,rfl⟩,trivial⟩ (cr)
theorem zh1(k:List UInt8):(zgj k).length=32:=by unfold zgj z0e znp;exact Fe.bytes_len _
def zc9(sig:List UInt8)(src ident:UInt8)(n:Nat):Leaf:=⟨zgj (zdb (zbd (n+1))),pubS sig,[ident],src,[],[]⟩
theorem zub(sig:List UInt8)(src ident:UInt8)(n:Nat)(hs:src.toNat=1\/src.toNat=2):((zc9 sig src ident n).with zS64).right=true:=by
 have h1:=zh1 (zdb (zbd (n+1)))
 have h2:=zlj sig
 simp only[Leaf.right,Leaf.with,zc9,h1,h2]
 simp[zS64]
 omega
set_option maxHeartbeats 1000000 in
theorem z7h(v:Value)(w:Wld)(sig group:List UInt8)(src ident:UInt8)(at_:Int)(hn:w.n<=100000000)(hsig:sig.length=32)(hg:group.length<=1000000)(hs:src.toNat=1\/src.toNat=2)(ha:0<=at_/\at_<65536):
  Acts Tryz.prog 48 3 (wO w) [.own 0, .r (bs sig), .r (bs group), .r (U8 src), .r (U8 ident), .r (I at_)] [(0,v)] 4 (wO {w with n:=w.n+1}) (.r (.tu [.ag (slOk (zc9 sig src ident w.n) sig group at_).c,bs (zdb (zbd (w.n+1))), .b true])):=by
 refine zb4 (T:=Tab) mixed Tab_ok Tryz.func48 rfl (by kernel_rfl) rfl ⟨⟨_,_,rfl,rfl,zax,zax⟩,trivial⟩ ?_
 refine zj [(0,0),(1,1),(2,2)] [0] (λvs _=>zy4 (vs 0) w hn) (zi rfl ⟨_,_,rfl,rfl,rfl⟩) rfl ⟨zea rfl rfl,⟨rfl,rfl,rfl,rfl,zn _⟩,⟨rfl,rfl,rfl,rfl,zn _⟩,trivial⟩ (zhd _) ?_
 have hb:=zh1 (zdb (zbd (w.n+1)))
 have hp:=zlj sig
 refine ze (zrz (zbd (w.n+1)) (by rw[ze4];omega)) ?_
 refine ze (zs7 sig hsig) ?_
 refine zw ?_
 have hL:=zp9 (zc9 sig src ident w.n) sig group at_ ⟨by simp only[zc9];omega,by simp only[zc9];omega,by simp[zc9],by simp[zc9],by simp[zc9]⟩ (by omega) (by simp only[zc9,List.length_cons,List.length_nil];omega) (by unfold i64;omega)
 have hE:zfu (zc9 sig src ident w.n) sig at_=0:=by
  unfold zfu
  rw[if_pos (zub sig src ident w.n hs),if_pos,if_pos hsig]
  simp[zfq,zc9]
  omega
 rw[zjl,if_pos hE]at hL
 refine Vcall.mk' hL (zk (Cv.ag (zk (cr) (zk (cr) (zk (cr) (zk (cr) (zk (Cv.nil 1) (zk (Cv.nil 1) Cvs.nil))))))) (zn _)) ?_
 generalize slOk (zc9 sig src ident w.n) sig group at_=q
 refine za rfl rfl ?_
 refine zd (m:=0) rfl (by decide) ?_
 refine zd (m:=0) rfl (by decide) ?_
 refine zd (m:=0) rfl (by decide) ?_
 refine zt rfl ?_
 exact zbx (.inl rfl) [(0,0),(1,5),(2,6),(3,3)] [(12, .own 3),(13, .r (bs (zdb (zbd (w.n+1))))),(14, .r (.b true))] [(3,some (.box (q.c.map .r)))] rfl ⟨rfl,cr,cr,⟨rfl,rfl⟩,trivial⟩ ⟨zea rfl rfl,⟨rfl,rfl,rfl,rfl,zn _⟩,⟨rfl,rfl,rfl,rfl,zn _⟩,⟨_,_,rfl,cr,_,_,rfl,cr,_,_,rfl,cr,_,_,rfl,cr,_,_,rfl,cr,_,_,rfl,cr,rfl⟩,trivial⟩ ⟨⟨1000000,rfl⟩,trivial⟩ (za rfl rfl ⟨_,rfl,cr⟩)
def padL{α:Type}(z:α)(l:List α)(n:Nat):List α:=l++List.replicate (n-l.length) z
def Wld.put(w:Wld)(at_:Nat)(keys:List KeyP)(sig:List UInt8):Wld:={w with keys:=(padL [] w.keys (at_+1)).set at_ keys,sign:=(padL [] w.sign (at_+1)).set at_ sig}
theorem zw0{α:Type}(l:List α)(z:α)(j:Nat):l++List.replicate (j+1) z=(l++List.replicate j z)++[z]:=by rw[List.replicate_succ',List.append_assoc]
abbrev putS(w:Wld)(v:Value)(at_:Nat)(keys:List KeyP)(sig:List UInt8)(j:Nat):St:=⟨[(0, .own 0),(1, .r (I at_)),(2, .r (keyR keys)),(3, .r (bs sig)),(1000000, .nm 0 v)],lift (wO {w with keys:=w.keys++List.replicate j [],sign:=w.sign++List.replicate j []}),3⟩
set_option maxHeartbeats 1000000 in
theorem zfib(v:Value)(w:Wld)(at_:Nat)(keys:List KeyP)(sig:List UInt8)(hl:w.keys.length=w.sign.length)(hk:w.keys.length<=1000000)(ha:at_<=1000000):
  Acts Tryz.prog 50 3 (wO w) [.own 0, .r (I at_), .r (keyR keys), .r (bs sig)] [(0,v)] 3 (wO (w.put at_ keys sig)) (.r (.tu [])):=by
 refine zb4 (T:=Tab) mixed Tab_ok Tryz.func50 rfl (by kernel_rfl) rfl ⟨⟨_,_,rfl,rfl,zax,zax⟩,trivial⟩ ?_
 refine zx (putS w v at_ keys sig) (λj=>j<=at_+1-w.keys.length) (λj=>at_+1-w.keys.length-j) 0 (by omega) (zac [(0,0),(1,1),(2,2)] rfl ⟨rfl,cr,cr,cr,⟨rfl,rfl⟩,trivial⟩ ⟨zea rfl rfl,⟨rfl,rfl,by simp,rfl,Cvs.of_eq (by simp)⟩,⟨rfl,rfl,by simp,rfl,Cvs.of_eq (by simp)⟩,trivial⟩) ?_
 intro j hj
 have e1:(w.keys++List.replicate j ([]:List KeyP)).length=w.keys.length+j:=by simp
 have e2:(w.sign++List.replicate j ([]:List UInt8)).length=w.sign.length+j:=by simp
 refine zh (λh=>zp ?_) (λh=>zq ?_)
 ·simp only[zb]at h
  refine zw ?_
  refine Vapp.mk' (j:=w.keys.length+j+1) (zs:=(w.keys++List.replicate j ([]:List KeyP)).map keyR++[.x (.slice none 0 0)]) (by simp only[maxLen];omega) (by show((w.keys++List.replicate j ([]:List KeyP)).length+1)*24<=_;omega) (by rw[e1]) rfl ?_
  refine zw ?_
  refine Vapp.mk' (j:=w.sign.length+j+1) (zs:=(w.sign++List.replicate j ([]:List UInt8)).map bs++[.x (.slice none 0 0)]) (by simp only[maxLen];omega) (by show((w.sign++List.replicate j ([]:List UInt8)).length+1)*24<=_;omega) (by rw[e2]) rfl ?_
  refine⟨j+1,by omega,by omega,zac [(0,0),(1,4),(2,6)] rfl ⟨rfl,cr,cr,cr,⟨rfl,rfl⟩,trivial⟩ ⟨zea rfl rfl,⟨rfl,rfl,by simp;omega,rfl,?_⟩,⟨rfl,rfl,by simp;omega,rfl,?_⟩,trivial⟩⟩
  ·have e:(w.keys++List.replicate (j+1) ([]:List KeyP)).map keyR=(w.keys++List.replicate j []).map keyR++[keyR []]:=by rw[zw0,List.map_append];rfl
   show Cvs _ ((w.keys++List.replicate (j+1) ([]:List KeyP)).map keyR)
   rw[e]
   exact Cvs.app (zn _) (zk (Cv.nil 2) Cvs.nil)
  ·have e:(w.sign++List.replicate (j+1) ([]:List UInt8)).map bs=(w.sign++List.replicate j []).map bs++[bs []]:=by rw[zw0,List.map_append];rfl
   show Cvs _ ((w.sign++List.replicate (j+1) ([]:List UInt8)).map bs)
   rw[e]
   exact Cvs.app (zn _) (zk (Cv.nil 1) Cvs.nil)
 ·simp only[zb]at h
  have hj2:j=at_+1-w.keys.length:=by omega
  have hp1:w.keys++List.replicate j []=padL [] w.keys (at_+1):=by unfold padL;rw[hj2]
  have hp2:w.sign++List.replicate j []=padL [] w.sign (at_+1):=by unfold padL;rw[hj2,hl]
  refine Vdraw.mk' (by kernel_rfl) ?_
  refine Vadr.mk' at_ rfl (by show at_< (w.keys++List.replicate j ([]:List KeyP)).length;rw[e1];omega) ?_
  refine⟨by show at_*1+1<=((w.keys++List.replicate j ([]:List KeyP)).map keyR).length;rw[List.length_map,e1];omega,((w.keys++List.replicate j []).set at_ keys).map keyR,by rw[Nat.mul_one];exact zc0 (by rw[e1];omega),?_⟩
  refine Vadr.mk' at_ rfl (by show at_< (w.sign++List.replicate j ([]:List UInt8)).length;rw[e2];omega) ?_
  refine⟨by show at_*1+1<=((w.sign++List.replicate j ([]:List UInt8)).map bs).length;rw[List.length_map,e2];omega,((w.sign++List.replicate j []).set at_ sig).map bs,by rw[Nat.mul_one];exact zc0 (by rw[e2];omega),?_⟩
  have hO:wO (w.put at_ keys sig)=[(0,wBx w.t w.n),(1,wK ((w.keys++List.replicate j []).set at_ keys)),(2,wG ((w.sign++List.replicate j []).set at_ sig))]:=by rw[hp1,hp2];rfl
  rw[hO]
  exact zbx (.inr rfl) [(0,0),(1,1),(2,2)] [] [] rfl ⟨⟨rfl,rfl⟩,trivial⟩ ⟨zea rfl rfl,⟨rfl,rfl,by simp,rfl,zn _⟩,⟨rfl,rfl,by simp,rfl,zn _⟩,trivial⟩ ⟨⟨1000000,rfl⟩,trivial⟩ ⟨_,rfl,cr⟩
end
section
open Go.Shelf
def zw9:Go.Shelf.Ren:=⟨λ |6=>69 |15=>126 |14=>125 |28=>202 |29=>203 |20=>194 |21=>195 |22=>196 |23=>197 |24=>198 |25=>199 |26=>200 |27=>201 |46=>265 |47=>266 |48=>267 |49=>268 |50=>269 |57=>302 |n=>n,λ |22=>44 |24=>74 |25=>144 |3=>3 |39=>159 |0=>0 |53=>245 |55=>107 |4=>4 |46=>255 |45=>254 |50=>62 |5=>5 |9=>9 |66=>312 |70=>316 |76=>340 |77=>151 |n=>n,λ |n=>n⟩
theorem z8t:Go.Proofs.SlLaysF0.n6 Tryz.prog zw9:={
 mixed:=by kernel_rfl
 f6:=⟨Tryz.f69.name,by decide,Tryz.func69.trans (congrArg some (by kernel_rfl))⟩
 f14:=⟨Tryz.f125.name,by decide,Tryz.func125.trans (congrArg some (by kernel_rfl))⟩
 f15:=Tryz.func126.trans (congrArg some (by kernel_rfl))
 f20:=⟨Tryz.f194.name,by decide,Tryz.func194.trans (congrArg some (by kernel_rfl))⟩
 f21:=⟨Tryz.f195.name,by decide,Tryz.func195.trans (congrArg some (by kernel_rfl))⟩
 f22:=⟨Tryz.f196.name,by decide,Tryz.func196.trans (congrArg some (by kernel_rfl))⟩
 f23:=⟨Tryz.f197.name,by decide,Tryz.func197.trans (congrArg some (by kernel_rfl))⟩
 f24:=⟨Tryz.f198.name,by decide,Tryz.func198.trans (congrArg some (by kernel_rfl))⟩
 f25:=⟨Tryz.f199.name,by decide,Tryz.func199.trans (congrArg some (by kernel_rfl))⟩
 f26:=⟨Tryz.f200.name,by decide,Tryz.func200.trans (congrArg some (by kernel_rfl))⟩
 f27:=⟨Tryz.f201.name,by decide,Tryz.func201.trans (congrArg some (by kernel_rfl))⟩
 f28:=Tryz.func202.trans (congrArg some (by kernel_rfl))
 f29:=Tryz.func203.trans (congrArg some (by kernel_rfl))
 f46:=⟨Tryz.f265.name,by decide,Tryz.func265.trans (congrArg some (by kernel_rfl))⟩
 f47:=Tryz.func266.trans (congrArg some (by kernel_rfl))
 f48:=Tryz.func267.trans (congrArg some (by kernel_rfl))
 f49:=⟨Tryz.f268.name,by decide,Tryz.func268.trans (congrArg some (by kernel_rfl))⟩
 f50:=⟨Tryz.f269.name,by decide,Tryz.func269.trans (congrArg some (by kernel_rfl))⟩
 f57:=⟨Tryz.f302.name,by decide,Tryz.func302.trans (congrArg some (by kernel_rfl))⟩
 t0:=Tryz.underlying0
 a0:=Tryz.isAgg0
 z0:=Tryz.sizeOf0
 v0:=Tryz.zeroValue0
 t3:=Tryz.underlying3
 a3:=Tryz.isAgg3
 z3:=Tryz.sizeOf3
 v3:=Tryz.zeroValue3
 t4:=Tryz.underlying4
 a4:=Tryz.isAgg4
 z4:=Tryz.sizeOf4
 v4:=Tryz.zeroValue4
 t5:=Tryz.underlying5
 a5:=Tryz.isAgg5
 z5:=Tryz.sizeOf5
 v5:=Tryz.zeroValue5
 t9:=Tryz.underlying9
 a9:=Tryz.isAgg9
 z9:=Tryz.sizeOf9
 v9:=Tryz.zeroValue9
 t22:=Tryz.underlying44
 a22:=Tryz.isAgg44
 z22:=Tryz.sizeOf44
 v22:=Tryz.zeroValue44
 t25:=Tryz.underlying144
 a25:=Tryz.isAgg144
 z25:=Tryz.sizeOf144
 v25:=Tryz.zeroValue144
 t39:=Tryz.underlying159
 a39:=Tryz.isAgg159
 z39:=Tryz.sizeOf159
 v39:=Tryz.zeroValue159
 t45:=Tryz.underlying254
 a45:=Tryz.isAgg254
 z45:=Tryz.sizeOf254
 v45:=Tryz.zeroValue254
 t46:=Tryz.underlying255
 a46:=Tryz.isAgg255
 z46:=Tryz.sizeOf255
 v46:=Tryz.zeroValue255
 t50:=Tryz.underlying62
 a50:=Tryz.isAgg62
 z50:=Tryz.sizeOf62
 v50:=Tryz.zeroValue62
 t53:=Tryz.underlying245
 a53:=Tryz.isAgg245
 z53:=Tryz.sizeOf245
 v53:=Tryz.zeroValue245
 t55:=Tryz.underlying107
 a55:=Tryz.isAgg107
 z55:=Tryz.sizeOf107
 v55:=Tryz.zeroValue107
 t66:=Tryz.underlying312
 a66:=Tryz.isAgg312
 z66:=Tryz.sizeOf312
 v66:=Tryz.zeroValue312
 t70:=Tryz.underlying316
 a70:=Tryz.isAgg316
 z70:=Tryz.sizeOf316
 v70:=Tryz.zeroValue316
 t76:=Tryz.underlying340
 a76:=Tryz.isAgg340
 z76:=Tryz.sizeOf340
 v76:=Tryz.zeroValue340
 t77:=Tryz.underlying151
 a77:=Tryz.isAgg151
 z77:=Tryz.sizeOf151
 v77:=Tryz.zeroValue151}
end
section
open Go.RowKit Go.Sort Go.Shelf
inductive All2 {α β:Type} (R:α->β->Prop):List α->List β->Prop
 |nil:All2 R [] []
 |cons {a b l m}:R a b->All2 R l m->All2 R (a::l) (b::m)
theorem All2.len{α β:Type}{R:α->β->Prop}{l:List α}{m:List β}(h:All2 R l m):l.length=m.length:=by induction h<;>simp_all
theorem All2.perm{α β:Type}{R:α->β->Prop}{l l':List α}(hp:l.Perm l'): ∀{m:List β},All2 R l m->∃m',m.Perm m'/\All2 R l' m':=by
 induction hp with
 |nil=>intro m h;exact⟨m, .refl _,h⟩
 |cons x _ ih=>
  intro m h
  cases h with
  |cons h1 h2=>
   obtain⟨m',p,q⟩:=ih h2
   exact⟨_,p.cons _, .cons h1 q⟩
 |swap x y l=>
  intro m h
  cases h with
  |cons h1 h2=>
   cases h2 with
   |cons h3 h4=>exact⟨_, .swap _ _ _, .cons h3 (.cons h1 h4)⟩
 |trans _ _ ih1 ih2=>
  intro m h
  obtain⟨m1,p1,q1⟩:=ih1 h
  obtain⟨m2,p2,q2⟩:=ih2 q1
  exact⟨m2,p1.trans p2,q2⟩
theorem All2.mono{α β:Type}{R R':α->β->Prop}(hR: ∀a b,R a b->R' a b){l:List α}{m:List β}(h:All2 R l m):All2 R' l m:=by
 induction h with
 |nil=>exact .nil
 |cons a _ ih=>exact .cons (hR _ _ a) ih
def zd5(l:List KeyP):List KeyP:=l.mergeSort λa b=>decide (a.at_<=b.at_)
theorem zfv(l:List KeyP):(zd5 l).Perm l:=List.mergeSort_perm _ _
theorem zyd(l:List KeyP):(zd5 l).Pairwise λa b=>a.at_<=b.at_:=by
 have h:=List.pairwise_mergeSort (le:=λa b:KeyP=>decide (a.at_<=b.at_)) (λa b c h1 h2=>by simp at*;omega) (λa b=>by simp;omega) l
 exact h.imp λh=>by simpa using h
theorem zok: ∀{l m:List KeyP},l.Pairwise (λa b=>a.at_<b.at_)->m.Pairwise (λa b=>a.at_<b.at_)->l.Perm m->l=m
 |[],m,_,_,h=>(List.nil_perm.1 h).symm
 |x::l,[],_,_,h=>by have:=h.length_eq;simp at this
 |x::l,y::m,hl,hm,h=>by
  obtain⟨l1,l2⟩:=List.pairwise_cons.1 hl
  obtain⟨m1,m2⟩:=List.pairwise_cons.1 hm
  have hx:x∈y::m:=h.mem_iff.1 (by simp)
  have hy:y∈x::l:=h.mem_iff.2 (by simp)
  have e:x=y:=by
   rcases List.mem_cons.1 hx with e |hx
   ·exact e
   ·rcases List.mem_cons.1 hy with e |hy
    ·exact e.symm
    ·have:=m1 x hx
     have:=l1 y hy
     omega
  subst e
  rw[zok l2 m2 ((List.perm_cons x).1 h)]
theorem zmm: ∀{l:List KeyP},(l.map (·.at_)).Nodup->l.Pairwise (λa b=>a.at_<=b.at_)->l.Pairwise (λa b=>a.at_<b.at_)
 |[],_,_=>List.Pairwise.nil
 |x::l,hn,h=>by
  obtain⟨h1,h2⟩:=List.pairwise_cons.1 h
  rw[List.map_cons,List.nodup_cons]at hn
  refine List.pairwise_cons.2 ⟨λy hy=>?_,zmm hn.2 h2⟩
  have:=h1 y hy
  have hne:x.at_≠y.at_:=λe=>hn.1 (List.mem_map.2 ⟨y,hy,e.symm⟩)
  omega
theorem zcbb{l m:List KeyP}(hn:(l.map (·.at_)).Nodup)(hp:m.Perm l)(hm:m.Pairwise λa b=>a.at_<=b.at_):m=zd5 l:=by
 have n1:(m.map (·.at_)).Nodup:=(hp.map _).nodup_iff.2 hn
 have n2:((zd5 l).map (·.at_)).Nodup:=((zfv l).map _).nodup_iff.2 hn
 exact zok (zmm n1 hm) (zmm n2 (zyd l)) (hp.trans (zfv l).symm)
abbrev KeyV:Type:=Int×{v:Value//v.oneCell'=true}
instance :Inhabited KeyV:=⟨(0,⟨.int .i64 0,rfl⟩)⟩
def zb7(x:KeyV):List Value:=[.int .i64 x.1,x.2.1]
theorem zs0(x:KeyV):(zb7 x).length=2:=rfl
theorem z29(x:KeyV): ∀v∈zb7 x,v.oneCell'=true:=λv hv=>by
 simp only[zb7,List.mem_cons,List.not_mem_nil,or_false]at hv
 rcases hv with rfl |rfl
 ·rfl
 ·exact x.2.2
def z07(w:World)(k:Kp)(x:KeyV)(κ:KeyP):Prop:=x.1=κ.at_/\(bs κ.key).at_ w k x.2.1
theorem zw1{w:World}{k:Kp}: ∀(l:List KeyP) (us:List Value),RV.listAt w k (l.flatMap KeyP.c) us->∃ds:List KeyV,us=ds.flatMap zb7/\All2 (z07 w k) ds l
 |[],us,h=>by
  simp only[List.flatMap_nil,RV.listAt]at h
  subst h
  exact⟨[],rfl, .nil⟩
 |κ::l,us,h=>by
  simp only[List.flatMap_cons,KeyP.c,List.cons_append,List.nil_append,RV.listAt]at h
  obtain⟨u1,r1,rfl,_,h1,u2,r2,rfl,h2,h3,hr⟩:=h
  obtain⟨ds,rfl,hds⟩:=zw1 l _ hr
  simp only[RV.at_]at h1
  subst h1
  exact⟨(κ.at_,⟨u2,h2⟩)::ds,rfl, .cons ⟨rfl,h3⟩ hds⟩
theorem zvw{w:World}{k:Kp}: ∀{l:List KeyP} {ds:List KeyV},All2 (z07 w k) ds l->RV.listAt w k (l.flatMap KeyP.c) (ds.flatMap zb7)
 |[],_, .nil=>by simp[RV.listAt]
 |κ::l,_, .cons (a:=x) (l:=ds) h hr=>by
  have ih:=zvw hr
  simp only[List.flatMap_cons,KeyP.c,zb7,List.cons_append,List.nil_append,RV.listAt]
  refine⟨_,_,rfl,rfl,by simp only[RV.at_];rw[h.1],_,_,rfl,x.2.2,h.2,ih⟩
end
end Go.Proofs.YtfjkblpnbgfkeaaGreat.Sx
