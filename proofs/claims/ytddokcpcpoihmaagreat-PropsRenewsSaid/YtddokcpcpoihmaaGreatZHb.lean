import Derived.Test.YtddokcpcpoihmaaGreatZEc
import Derived.Test.YtddokcpcpoihmaaGreatZRefC
import Derived.Laws.BytesArg
import Derived.Lib.Bytes
import Derived.Test.YtddokcpcpoihmaaGreatZFb
import Derived.Shelf.SlSortCmp.WholeK
import Derived.Ground.SlsfProg
import Derived.Test.YtddokcpcpoihmaaGreatZMe
import Derived.Test.YtddokcpcpoihmaaGreatZEq
import Derived.Maps.RangeRun
import Derived.Shelf.SlIterI.Nil
import Derived.Shelf.SortM.Plain
import Derived.Shelf.SortM.SortNone
import Derived.Ground.GgzProg
import Derived.Ground.SlgmProg
import Derived.WideShapes
import Derived.Test.YtddokcpcpoihmaaGreatZEa
import Derived.Shelf.RegionOpenPlain
import Derived.Lib.Walk
import Derived.Lib.SliceRun
import Derived.Lib.Overlaps
import Derived.Laws.Externs
import Derived.Laws.IdiomCopy
import Derived.Lib.AppendZerosOnto
import Derived.Laws.NewBlocks
import Derived.Shelf.SlicesG.Cmp
import Derived.Ground.SlgcProg
import Derived.Test.YtddokcpcpoihmaaGreatZFw
namespace Go.Proofs.YtddokcpcpoihmaaGreat.Sx
open Go.RowKit
set_option linter.unusedVariables false
section
theorem z0k{n:Nat}(hn:1<=n/\n<=32):(1:Int)=IntKind.i64.wrap (((n+31:Nat):Int).tdiv 32):=by
 have h:((n+31:Nat):Int).tdiv 32=1:=by rw[Int.tdiv_eq_ediv_of_nonneg (by omega)];omega
 rw[h]
 rfl
theorem zls(s info:List UInt8)(n:Nat)(hn:1<=n/\n<=32)(hs:s.length<=1000000000)(hi:info.length<=1000000000):zab Tryz.prog 115 [bs s,bs info,I n] (.r (bs (exp1 s info n))):=by
 refine zaa (T:=Tab) mixed Tab_ok Tryz.func115 rfl (by kernel_rfl) ?_
 refine Vloop.rounds 2 (Vrounds.step mixed Tab_ok ?_)
 refine zc (m:=((n+31:Nat):Int)) (by omega) (by omega) ?_
 refine⟨by decide,1,z0k hn,?_⟩
 refine zq rfl (zo ?_)
 refine zt rfl (zp ?_)
 refine zy (j:=info.length) (zs:=info.map U8) (by simp[maxLen];omega) (by simp;omega) (by simp) (by simp) ?_
 refine zc (m:=1) rfl (by decide) ?_
 refine Vint.u8 1 rfl (zu ?_)
 refine zy (j:=(info++[1]).length) (zs:=(info++[1]).map U8) (by simp[maxLen];omega) (by simp;omega) (by simp) (by rw[List.map_append];rfl) ?_
 refine zd (zsa s (info++[1]) hs (by simp;omega)) ?_
 refine zu ?_
 refine zy (j:=1) (zs:=[bs (macB s (info++[1]))]) (by decide) (by decide) rfl rfl ?_
 refine zc (m:=1) rfl (by decide) ?_
 refine Vrounds.step mixed Tab_ok ?_
 refine zc (m:=((n+31:Nat):Int)) (by omega) (by omega) ?_
 refine⟨by decide,1,z0k hn,?_⟩
 refine zt rfl (zp ?_)
 refine Vloop.rounds 2 (Vrounds.step mixed Tab_ok ?_)
 refine zq rfl (zo ?_)
 refine zk (by decide) (by decide) rfl (zf rfl ?_)
 refine zy (j:=32) (zs:=(macB s (info++[1])).map U8) (by simp[maxLen,zcv]) (by simp[zcv]) (by simp[zcv]) (by simp) ?_
 refine zc (m:=1) rfl (by decide) ?_
 refine Vrounds.step mixed Tab_ok ?_
 refine zt rfl (zp ?_)
 refine⟨by omega,by omega,by omega,n,(exp1 s info n).map U8,by omega,?_,?_⟩
 ·unfold exp1;rw[List.map_take];simp
 ·refine ze ?_
  simp only[bs,zhh s info hn.2]
theorem zvo(s:List UInt8)(label:ByteArray)(ctx:List UInt8)(n:Nat)(hn:1<=n/\n<=32)(hs:s.length<=1000000000)(hl:label.size<=1048576)(hc:ctx.length<=1048576):
  zab Tryz.prog 56 [bs s,Str label,bs ctx,I n] (.r (bs (labB s (sB label) ctx n))):=by
 refine zaa (T:=Tab) mixed Tab_ok Tryz.func56 rfl (by kernel_rfl) ?_
 have hd:=zkr label
 have hsz:label.data.toList.length=label.size:=rfl
 have hml:mlsB.length=8:=rfl
 have hb:(beB 2 n).length=2:=zat 2 n
 have hv:=zav (mlsB++label.data.toList)
 have hv2:=zav ctx
 rw[List.length_append]at hv
 refine Vint.u64 n rfl (by omega) ?_
 refine zd (zr8 2 n (by omega) (by omega)) ?_
 refine⟨by show 8+label.size<=_;omega,?_⟩
 refine⟨by rw[zm1];show 8+label.size<=_;omega,?_⟩
 refine zd (zsb ((⟨#[77,76,83,32,49,46,48,32]⟩:ByteArray)++label).data.toList (by rw[hd,List.length_append];omega)) ?_
 rw[hd]
 refine zy (j:=(beB 2 n++vecB (mlsB++label.data.toList)).length) (zs:=(beB 2 n++vecB (mlsB++label.data.toList)).map U8) (by simp only[maxLen];omega) (by show _*1<=_;omega) (by simp) (by simp) ?_
 refine zd (zsb ctx (by omega)) ?_
 refine zy (j:=(beB 2 n++vecB (mlsB++label.data.toList)++vecB ctx).length) (zs:=(beB 2 n++vecB (mlsB++label.data.toList)++vecB ctx).map U8) (by simp only[maxLen,List.length_append];omega) (by show _*1<=_;simp only[List.length_append];omega) (by simp only[List.length_append]) (by simp) ?_
 refine zd (zls s (beB 2 n++vecB (mlsB++label.data.toList)++vecB ctx) n hn hs (by simp only[List.length_append];omega)) ?_
 exact cr
end
section
def nums(l:List UInt8):List Int:=l.map λb=>(b.toNat:Int)
theorem z04{S:Nat->Prop}(p:AC)(l:List UInt8)(w:World)(hp:By w S p l):(convert 25 9 (.slice p.a l.length p.c)).run Tryz.prog w= .ok (.string (strOfNums (nums l))) w:=by
 rcases Nat.eq_zero_or_pos l.length with hn |hn
 ·have hl:l=[]:=List.eq_nil_of_length_eq_zero hn
  subst hl
  rw[run_convert_bytes_string w _ _ _ _ _ _ Tryz.underlying25 Tryz.underlying5 Tryz.underlying9]
  simp only[List.length_nil]
  cases p.a<;>simp[Conv.bytesToString,loadCells]
  all_goals rfl
 ·obtain⟨b,o,e,hc⟩:=hp.form hn
  rw[e]
  exact run_convert_bytes_arg w _ _ Tryz.underlying25 Tryz.underlying5 b o l.length p.c (nums l) (by simp[nums]) (λi hi=>by
   rw[hc i hi]
   simp[nums,hi]) _ Tryz.underlying9
end
section
def baS(l:List UInt8):ByteArray:=⟨l.toArray⟩
theorem zut(l:List UInt8):strOfNums (nums l)=baS l:=by
 unfold strOfNums baS nums
 rw[List.map_map]
 congr 2
 exact(List.map_congr_left (λx _=>by simp)).trans (List.map_id l)
theorem Vfun.str{S:St}{o:Oper}{x:Operand}{l:List UInt8}{K:RV->Prop}(hop:o.op= .convert 25 9 x)(hx:oprs S [x]=some [bs l])(hK:K (Str (baS l))):Vfun Tryz.prog S o [x] K:=
 ⟨_,hx,_,λa w k h=>by
  simp only[RV.partsAt,List.map_cons,List.map_nil]at h
  obtain⟨u,r,e,hat,_⟩:=h
  obtain⟨p,rfl,hp⟩:=zed hat
  have hv:=(List.cons.inj e).1
  refine⟨.string (baS l),?_,by simp only[RV.at_]⟩
  have hc:=z04 p l w hp
  rw[zut]at hc
  simp[execOp,hop,hv,hc],hK⟩
def strs(l:List ByteArray):RV:= .sl 1 l.length (l.map Str)
def catS(l:List ByteArray):List UInt8:=l.flatMap sB
def z49(l:List ByteArray):Nat->St
 |0=>{F:=[(3, .r (.x (.slice none 0 0))),(6, .r (strs l)),(7, .r (I l.length)),(8, .r (I ((0:Nat):Int)))],O:=[],nx:=0}
 |i+1=>{F:=[(3, .own 0),(6, .r (strs l)),(7, .r (I l.length)),(8, .r (I ((i+1:Nat):Int)))],O:=[(0,some (.ch 5 1 (catS (l.take (i+1))).length ((catS (l.take (i+1))).map U8) true))],nx:=1}
theorem zns{l:List ByteArray}{i:Nat}(hi:i<l.length):catS (l.take (i+1))=catS (l.take i)++sB l[i]:=by
 rw[List.take_add_one,List.getElem?_eq_getElem hi]
 show(l.take i++[l[i]]).flatMap sB=_
 rw[List.flatMap_append]
 simp only[catS,List.flatMap_cons,List.flatMap_nil,List.append_nil]
theorem z02{l:List ByteArray}{i:Nat}:(catS (l.take i)).length<=(catS l).length:=by
 have h:catS l=catS (l.take i)++catS (l.drop i):=by
  unfold catS
  rw[<-List.flatMap_append,List.take_append_drop]
 rw[h,List.length_append]
 omega
theorem zvn(l:List ByteArray)(h0:l≠[])(hl:(catS l).length<=10000000000)(hn:l.length<=1000000000):zab Tryz.prog 168 [strs l] (bch (catS l)):=by
 refine zaa (T:=Tab) mixed Tab_ok Tryz.func168 rfl (by kernel_rfl) ?_
 refine zw (z49 l) (λi=>i<=l.length) (λi=>l.length-i) 0 (by omega) (zac [] rfl ⟨cr,cr,cr,cr,trivial⟩ trivial) ?_
 intro i hi
 have hpos:0<l.length:=by cases l;exact absurd rfl h0;simp
 have hle:= @z02 l (i+1)
 rcases i with _ |i
 ·refine zq (decide_eq_true (by omega)) (zo ?_)
  refine zk (by omega) (by omega) (zcs (j:=0) rfl hpos) (zf rfl ?_)
  have hs:=zns hpos
  rw[hs]at hle
  simp only[List.length_append,sB,Array.length_toList]at hle
  refine Vstep.appS (s:=l[0]) Tab_ok rfl rfl rfl rfl ⟨rfl,rfl⟩ rfl rfl rfl rfl rfl (by show 0+l[0].data.size<=_;omega) ?_
  refine zc (m:=((0+1:Nat):Int)) rfl (by decide) ?_
  refine⟨0+1,by omega,by omega,zac [(0,0)] rfl ⟨rfl,cr,cr,cr,trivial⟩ ⟨⟨rfl,rfl,?_,rfl,Cvs.of_eq ?_⟩,trivial⟩⟩
  ·rw[hs];simp[catS,sB]
  ·rw[hs];rfl
 ·refine zg (λh=>zo ?_) (λh=>zp ?_)
  ·simp only[zb]at h
   have hlt:i+1<l.length:=by omega
   refine zk (by omega) (by omega) (zcs (j:=i+1) rfl hlt) (zf rfl ?_)
   have hs:=zns hlt
   rw[hs]at hle
   simp only[List.length_append,sB,Array.length_toList]at hle
   refine Vstep.appS (s:=l[i+1]) Tab_ok rfl rfl rfl rfl ⟨rfl,rfl⟩ rfl rfl rfl rfl rfl (by show _+l[i+1].data.size<=_;omega) ?_
   refine zc (m:=((i+1+1:Nat):Int)) (by omega) (by omega) ?_
   refine⟨i+1+1,by omega,by omega,zac [(0,1)] rfl ⟨rfl,cr,cr,cr,trivial⟩ ⟨⟨rfl,rfl,?_,rfl,Cvs.of_eq ?_⟩,trivial⟩⟩
   ·rw[hs,List.length_append];rfl
   ·rw[hs,List.map_append]
  ·simp only[zb]at h
   have hl':i+1=l.length:=by omega
   exact zdw (by rw[hl',List.take_length])
def verB:List UInt8:=[72,80,75,69,45,118,49]
def extB(name salt label secret:List UInt8):List UInt8:=macB salt (verB++name++label++secret)
def epdB(name secret label info:List UInt8)(n:Nat):List UInt8:=exp1 secret (beB 2 n++verB++name++label++info) n
theorem ztt(salt secret:List UInt8)(h1:salt.length<=1000000000)(h2:secret.length<=10000000000):zab Tryz.prog 169 [bs salt,bs secret] (bch (macB salt secret)):=by
 refine zaa (T:=Tab) mixed Tab_ok Tryz.func169 rfl (by kernel_rfl) ?_
 refine zu ?_
 refine zd (zz2 salt [secret] h1 (by simp;omega)) ?_
 exact zdw (by simp)
theorem zts(name label:ByteArray)(salt secret:List UInt8)(h1:salt.length<=1000000000)(h2:secret.length<=1000000000)(h3:name.size<=1000)(h4:label.size<=1000):
  zab Tryz.prog 97 [Str name,bs salt,Str label,bs secret] (bch (extB (sB name) salt (sB label) secret)):=by
 refine zaa (T:=Tab) mixed Tab_ok Tryz.func97 rfl (by kernel_rfl) ?_
 have e:catS [⟨#[72,80,75,69,45,118,49]⟩,name,label,baS secret]=verB++sB name++sB label++secret:=by simp[catS,verB,baS];rfl
 have hl:(catS [⟨#[72,80,75,69,45,118,49]⟩,name,label,baS secret]).length<=10000000000:=by
  rw[e];simp only[List.length_append,sB,Array.length_toList];show 7+name.size+label.size+_<=_;omega
 refine Vfun.str rfl rfl (zu ?_)
 refine zd (zvn [⟨#[72,80,75,69,45,118,49]⟩,name,label,baS secret] (by simp) hl (by simp)) ?_
 refine zd (ztt salt _ h1 (by omega)) ?_
 exact zdw (by rw[e];rfl)
theorem zvm(name label:ByteArray)(secret info:List UInt8)(n:Nat)(hn:1<=n/\n<=32)(h1:secret.length<=1000000000)(h2:info.length<=1000000)(h3:name.size<=1000)(h4:label.size<=1000):
  zab Tryz.prog 96 [Str name,bs secret,Str label,bs info,I n] (.r (bs (epdB (sB name) secret (sB label) info n))):=by
 refine zaa (T:=Tab) mixed Tab_ok Tryz.func96 rfl (by kernel_rfl) ?_
 have e:catS [baS ([]++beB 2 n),⟨#[72,80,75,69,45,118,49]⟩,name,label,baS info]=beB 2 n++verB++sB name++sB label++info:=by simp[catS,verB,baS];rfl
 have hb:(beB 2 n).length=2:=zat 2 n
 have hl:(catS [baS ([]++beB 2 n),⟨#[72,80,75,69,45,118,49]⟩,name,label,baS info]).length<=1000000000:=by
  rw[e];simp only[List.length_append,sB,Array.length_toList,hb];show 2+7+name.size+label.size+_<=_;omega
 refine Vint.u64 n rfl (by omega) ?_
 refine Vcall.mk' (zfz [] 2 n (by simp) (.inr (.inl rfl))) (zj (Cv.nil _) (zm _)) ?_
 refine Vfun.str rfl rfl ?_
 refine Vfun.str rfl rfl (zu ?_)
 refine zd (zvn [baS ([]++beB 2 n),⟨#[72,80,75,69,45,118,49]⟩,name,label,baS info] (by simp) (by omega) (by simp)) ?_
 refine zd (znv secret _ n hn h1 hl) ?_
 rw[e]
 exact cr
end
section
def ztj(k p:List UInt8):List UInt8:=zjk (zfv k) (Fe.of p)
def nine:List UInt8:=Fe.bytes ⟨9&&&msk,shrW 9 51,0,0,0⟩
def zgr(k:List UInt8):List UInt8:=ztj k nine
theorem zyy:nine.length=32:=Fe.bytes_len _
attribute [irreducible] nine
theorem z1h(k p:List UInt8)(hk:k.length=32)(hp:p.length=32):zab Tryz.prog 102 [bs k,bs p] (.r (.tu [bs (ztj k p),Er 0])):=by
 refine zaa (T:=Tab) mixed Tab_ok Tryz.func102 rfl (by kernel_rfl) ?_
 refine zt (by simp[hk]) (zp ?_)
 refine zt (by simp[hp]) (zp ?_)
 refine zd (z1f k hk) ?_
 refine zd (h_of p hp) ?_
 refine zd (zv2 (zfv k) (Fe.of p) ((zlg k).trans hk)) ?_
 exact⟨_,rfl,cr⟩
theorem zvu(k:List UInt8)(hk:k.length=32):zab Tryz.prog 50 [bs k] (.r (.tu [bs (zgr k),Er 0])):=by
 refine zaa (T:=Tab) mixed Tab_ok Tryz.func50 rfl (by kernel_rfl) ?_
 refine zd (zf7 9) ?_
 refine zd (zm8 ⟨9&&&msk,shrW 9 51,0,0,0⟩) ?_
 refine Vcall.mk' (z1h k nine hk zyy) (zj (cr) (zj (ze (by unfold nine;rfl)) Cvs.nil)) ?_
 exact⟨_,rfl,cr⟩
def kemB:List UInt8:=[75,69,77,0,32]
def zdl(seed:List UInt8):List UInt8:=epdB kemB (extB kemB [] [100,107,112,95,112,114,107] seed) [115,107] [] 32
theorem zxs(n s l i:List UInt8){m:Nat}(h:m<=32):(epdB n s l i m).length=m:=zhh _ _ h
theorem zpb(n s l i:List UInt8):(extB n s l i).length=32:=zcv _ _
theorem zn9(seed:List UInt8):(zdl seed).length=32:=zxs _ _ _ _ (by omega)
theorem zsd(seed:List UInt8)(hs:seed.length<=1000000000):zab Tryz.prog 47 [bs seed] (.r (.tu [bs (zdl seed),bs (zgr (zdl seed))])):=by
 refine zaa (T:=Tab) mixed Tab_ok Tryz.func47 rfl (by kernel_rfl) ?_
 have hx:(extB kemB [] [100,107,112,95,112,114,107] seed).length<=1000000000:=by rw[zpb];omega
 refine Vcall.mk' (zts ⟨#[75,69,77,0,32]⟩ ⟨#[100,107,112,95,112,114,107]⟩ [] seed (by simp) hs (by decide) (by decide)) (zj (cr) (zj (Cv.nil 1) (zm _))) ?_
 refine Vcall.mk' (zvm ⟨#[75,69,77,0,32]⟩ ⟨#[115,107]⟩ (extB kemB [] [100,107,112,95,112,114,107] seed) [] 32 (by omega) hx (by simp) (by decide) (by decide)) (zj (cr) (zj (cr) (zj (cr) (zj (Cv.nil 1) (zm _))))) ?_
 refine zd (zvu (zdl seed) (zn9 seed)) ?_
 exact⟨_,rfl,cr⟩
theorem zyt(s l c:List UInt8){n:Nat}(h:n<=32):(labB s l c n).length=n:=zhh _ _ h
def z52:List UInt8:=[112,97,116,104]
end
section
theorem zf0(a b:List UInt8)(h:a.length+b.length<=100000000000):zab Tryz.prog 170 [bs a,bs b] (bch (a++b)):=by
 refine zaa (T:=Tab) mixed Tab_ok Tryz.func170 rfl (by kernel_rfl) ?_
 refine zu ?_
 refine zy (j:=a.length) (zs:=a.map U8) (by simp only[maxLen];omega) (by show _*1<=_;omega) (by omega) (by simp) ?_
 refine zy (j:=(a++b).length) (zs:=(a++b).map U8) (by simp only[maxLen];omega) (by show _*1<=_;omega) (by simp) (by simp) ?_
 exact rfl
theorem zse:zab Tryz.prog 100 [] (bch kemB):=by
 refine zaa (T:=Tab) mixed Tab_ok Tryz.func100 rfl (by kernel_rfl) ?_
 exact zu rfl
theorem zrf(name salt secret:List UInt8)(label:ByteArray)(h1:name.length<=1000)(h2:salt.length<=1000000000)(h3:label.size<=1000)(h4:secret.length<=1000000000):
  zab Tryz.prog 101 [bs name,bs salt,Str label,bs secret] (bch (extB name salt (sB label) secret)):=by
 refine zaa (T:=Tab) mixed Tab_ok Tryz.func101 rfl (by kernel_rfl) ?_
 have hl:(sB label).length=label.size:=Array.length_toList
 refine Vpub.own ?_
 refine Vstep.frz Tab_ok rfl rfl rfl rfl rfl rfl rfl (by decide) ?_
 refine zd (zf0 verB name (by show 7+_<=_;omega)) ?_
 refine⟨by omega,?_⟩
 refine zd (zf0 (sB label) secret (by omega)) ?_
 refine zd (zf0 (verB++name) (sB label++secret) (by simp only[List.length_append];show 7+_+_<=_;omega)) ?_
 refine zd (zsa salt (verB++name++(sB label++secret)) h2 (by simp only[List.length_append];show 7+_+_<=_;omega)) ?_
 exact zdw (by unfold extB;rw[List.append_assoc (verB++name)])
theorem ztx(name secret info:List UInt8)(label:ByteArray)(n:Nat)(hn:1<=n/\n<=32)(h1:name.length<=1000)(h2:secret.length<=1000000000)(h3:label.size<=1000)(h4:info.length<=1000000):
  zab Tryz.prog 99 [bs name,bs secret,Str label,bs info,I n] (.r (bs (epdB name secret (sB label) info n))):=by
 refine zaa (T:=Tab) mixed Tab_ok Tryz.func99 rfl (by kernel_rfl) ?_
 have hl:(sB label).length=label.size:=Array.length_toList
 have hb:(beB 2 n).length=2:=zat 2 n
 refine Vint.u64 n rfl (by omega) ?_
 refine zd (zr8 2 n (by omega) (by omega)) ?_
 refine Vpub.own ?_
 refine Vstep.frz Tab_ok rfl rfl rfl rfl rfl rfl rfl (by decide) ?_
 refine zd (zf0 (beB 2 n) verB (by rw[hb];decide)) ?_
 refine zd (zf0 (beB 2 n++verB) name (by simp only[List.length_append,hb];show 2+7+_<=_;omega)) ?_
 refine⟨by omega,?_⟩
 refine zd (zf0 (sB label) info (by omega)) ?_
 refine zd (zf0 (beB 2 n++verB++name) (sB label++info) (by simp only[List.length_append,hb];show 2+7+_+_<=_;omega)) ?_
 refine zd (zls secret (beB 2 n++verB++name++(sB label++info)) n hn h2 (by simp only[List.length_append,hb];show 2+7+_+_<=_;omega)) ?_
 exact ze (by unfold epdB;rw[List.append_assoc (beB 2 n++verB++name)])
theorem zrj(seed:List UInt8)(hs:seed.length<=1000000000):zab Tryz.prog 49 [bs seed] (.r (bs (zdl seed))):=by
 refine zaa (T:=Tab) mixed Tab_ok Tryz.func49 rfl (by kernel_rfl) ?_
 have hx:(extB kemB [] [100,107,112,95,112,114,107] seed).length<=1000000000:=by rw[zpb];omega
 refine zd zse ?_
 refine zd zse ?_
 refine Vcall.mk' (zrf kemB [] seed ⟨#[100,107,112,95,112,114,107]⟩ (by decide) (by simp) (by decide) hs) (zj (cr) (zj (Cv.nil 1) (zm _))) ?_
 refine Vcall.mk' (ztx kemB (extB kemB [] [100,107,112,95,112,114,107] seed) [] ⟨#[115,107]⟩ 32 (by omega) (by decide) hx (by decide) (by simp)) (zj (cr) (zj (cr) (zj (cr) (zj (Cv.nil 1) (zm _))))) ?_
 exact cr
end
section
def wayS:List UInt8:=[119,97,121]
def secN(seed:List UInt8):Nat->List UInt8
 |0=>labB seed wayS [] 32
 |k+1=>labB (secN seed k) z52 [] 32
attribute [irreducible] secN
end
section
structure KeyP where
 at_:Int
 key:List UInt8
 deriving DecidableEq
abbrev KeyP.c(k:KeyP):List RV:=[I k.at_,bs k.key]
def keyR(l:List KeyP):RV:= .sl 2 l.length (l.flatMap KeyP.c)
structure Wld where
 t:List Node
 keys:List (List KeyP)
 sign:List (List UInt8)
 n:Nat
abbrev wBx(t:List Node)(n:Int):Ow:= .box [.r (nods t), .own 1, .own 2, .r (I n)]
abbrev wK(keys:List (List KeyP)):Ow:= .ch 182 1 keys.length (keys.map keyR) false
abbrev wG(sign:List (List UInt8)):Ow:= .ch 25 1 sign.length (sign.map bs) false
abbrev wO(w:Wld):List (Nat×Ow):=[(0,wBx w.t w.n),(1,wK w.keys),(2,wG w.sign)]
theorem zcq{ρ:List (Nat×Nat)}{S:St}{t:List Node}{n:Int}{i j:Nat}(h1:zaz ρ 1=some i)(h2:zaz ρ 2=some j):cvOw ρ S (.box [.r (nods t), .own i, .own j, .r (I n)]) (wBx t n):=
 ⟨_,_,rfl,cr,_,_,rfl,by show(match zaz ρ 1,TF.own i with |some j, .own i=>i=j |_,_=>False);rw[h1],_,_,rfl,by show(match zaz ρ 2,TF.own j with |some j, .own i=>i=j |_,_=>False);rw[h2],_,_,rfl,cr,rfl⟩
theorem zex(w:Wld):zo1 (wO w):=⟨zra,zs9,zs9,trivial⟩
def zbt(n:Nat):List UInt8:=((List.replicate 32 (0:UInt8)).set 0 (UInt8.ofNat n)).set 1 (UInt8.ofNat (n/256))
theorem zgd(n:Nat):(zbt n).length=32:=by simp[zbt]
theorem z3z(n:Nat)(hn:n<=1000000000):zab Tryz.prog 71 [I n] (bch (zbt n)):=by
 refine zbb (T:=Tab) mixed Tab_ok Tryz.func71 rfl (by kernel_rfl) ?_
 refine⟨rfl,by decide,by decide,by decide,_,_,rfl,zs32,Vpub.own ?_⟩
 refine Vint.u8 n rfl ?_
 refine Vquo.i64 n 256 rfl rfl (by omega) (by omega) ?_
 refine Vint.u8 (n/256) rfl ?_
 refine Vadr.mk' 0 rfl (by decide) ?_
 refine⟨by decide,((List.replicate 32 (0:UInt8)).set 0 (UInt8.ofNat n)).map U8,zbu (by decide),?_⟩
 refine Vadr.mk' 1 rfl (by decide) ?_
 refine⟨by rw[List.length_map,List.length_set];decide,(zbt n).map U8,zbu (by rw[List.length_set];decide),?_⟩
 refine⟨_,zbr (id:=0) rfl,?_⟩
 exact congrArg (λm=>some (Ow.ch 5 1 m ((zbt n).map U8) true)) (zgd n).symm
theorem zsj(v:Value)(w:Wld)(hn:w.n<=100000000):Acts Tryz.prog 138 3 (wO w) [.own 0] [(0,v)] 3 (wO {w with n:=w.n+1}) (.r (bs (zbt (w.n+1)))):=by
 refine zc1 (T:=Tab) mixed Tab_ok Tryz.func138 rfl (by kernel_rfl) rfl ⟨⟨_,_,rfl,rfl,zc2,zc2⟩,trivial⟩ ?_
 refine zc (m:=((w.n+1:Nat):Int)) (by omega) (by omega) ?_
 refine zd (z3z (w.n+1) (by omega)) ?_
 exact zgt (.inl rfl) [(0,0),(1,1),(2,2)] [(2, .r (bs (zbt (w.n+1))))] [] rfl ⟨cr,⟨rfl,rfl⟩,trivial⟩ ⟨zcq rfl rfl,⟨rfl,rfl,rfl,rfl,zm _⟩,⟨rfl,rfl,rfl,rfl,zm _⟩,trivial⟩ ⟨⟨1000000,rfl⟩,trivial⟩ (cr)
theorem zfg(k:List UInt8):(zgr k).length=32:=by unfold zgr ztj zjk;exact Fe.bytes_len _
def zby(sig:List UInt8)(src ident:UInt8)(n:Nat):Leaf:=⟨zgr (zdl (zbt (n+1))),pubS sig,[ident],src,[],[]⟩
theorem zom(sig:List UInt8)(src ident:UInt8)(n:Nat)(hs:src.toNat=1\/src.toNat=2):((zby sig src ident n).with zS64).right=true:=by
 have h1:=zfg (zdl (zbt (n+1)))
 have h2:=zhw sig
 simp only[Leaf.right,Leaf.with,zby,h1,h2]
 simp[zS64]
 omega
set_option maxHeartbeats 1000000 in
theorem zyg(v:Value)(w:Wld)(sig group:List UInt8)(src ident:UInt8)(at_:Int)(hn:w.n<=100000000)(hsig:sig.length=32)(hg:group.length<=1000000)(hs:src.toNat=1\/src.toNat=2)(ha:0<=at_/\at_<65536):
  Acts Tryz.prog 139 3 (wO w) [.own 0, .r (bs sig), .r (bs group), .r (U8 src), .r (U8 ident), .r (I at_)] [(0,v)] 4 (wO {w with n:=w.n+1}) (.r (.tu [.ag (slOk (zby sig src ident w.n) sig group at_).c,bs (zdl (zbt (w.n+1))), .b true])):=by
 refine zc1 (T:=Tab) mixed Tab_ok Tryz.func139 rfl (by kernel_rfl) rfl ⟨⟨_,_,rfl,rfl,zc2,zc2⟩,trivial⟩ ?_
 refine zi [(0,0),(1,1),(2,2)] [0] (λvs _=>zsj (vs 0) w hn) (zh rfl ⟨_,_,rfl,rfl,rfl⟩) rfl ⟨zcq rfl rfl,⟨rfl,rfl,rfl,rfl,zm _⟩,⟨rfl,rfl,rfl,rfl,zm _⟩,trivial⟩ (zex _) ?_
 have hb:=zfg (zdl (zbt (w.n+1)))
 have hp:=zhw sig
 refine zd (zsd (zbt (w.n+1)) (by rw[zgd];omega)) ?_
 refine zd (znx sig hsig) ?_
 refine zu ?_
 have hL:=zlw (zby sig src ident w.n) sig group at_ ⟨by simp only[zby];omega,by simp only[zby];omega,by simp[zby],by simp[zby],by simp[zby]⟩ (by omega) (by simp only[zby,List.length_cons,List.length_nil];omega) (by unfold i64;omega)
 have hE:zdb (zby sig src ident w.n) sig at_=0:=by
  unfold zdb
  rw[if_pos (zom sig src ident w.n hs),if_pos,if_pos hsig]
  simp[zes,zby]
  omega
 rw[zfn,if_pos hE]at hL
 refine Vcall.mk' hL (zj (Cv.ag (zj (cr) (zj (cr) (zj (cr) (zj (cr) (zj (Cv.nil 1) (zj (Cv.nil 1) Cvs.nil))))))) (zm _)) ?_
 generalize slOk (zby sig src ident w.n) sig group at_=q
 refine za rfl rfl ?_
 refine zc (m:=0) rfl (by decide) ?_
 refine zc (m:=0) rfl (by decide) ?_
 refine zc (m:=0) rfl (by decide) ?_
 refine zq rfl ?_
 exact zgt (.inl rfl) [(0,0),(1,5),(2,6),(3,3)] [(12, .own 3),(13, .r (bs (zdl (zbt (w.n+1))))),(14, .r (.b true))] [(3,some (.box (q.c.map .r)))] rfl ⟨rfl,cr,cr,⟨rfl,rfl⟩,trivial⟩ ⟨zcq rfl rfl,⟨rfl,rfl,rfl,rfl,zm _⟩,⟨rfl,rfl,rfl,rfl,zm _⟩,⟨_,_,rfl,cr,_,_,rfl,cr,_,_,rfl,cr,_,_,rfl,cr,_,_,rfl,cr,_,_,rfl,cr,rfl⟩,trivial⟩ ⟨⟨1000000,rfl⟩,trivial⟩ (za rfl rfl ⟨_,rfl,cr⟩)
def padL{α:Type}(z:α)(l:List α)(n:Nat):List α:=l++List.replicate (n-l.length) z
def Wld.put(w:Wld)(at_:Nat)(keys:List KeyP)(sig:List UInt8):Wld:={w with keys:=(padL [] w.keys (at_+1)).set at_ keys,sign:=(padL [] w.sign (at_+1)).set at_ sig}
theorem zqp{α:Type}(l:List α)(z:α)(j:Nat):l++List.replicate (j+1) z=(l++List.replicate j z)++[z]:=by rw[List.replicate_succ',List.append_assoc]
abbrev putS(w:Wld)(v:Value)(at_:Nat)(keys:List KeyP)(sig:List UInt8)(j:Nat):St:=⟨[(0, .own 0),(1, .r (I at_)),(2, .r (keyR keys)),(3, .r (bs sig)),(1000000, .nm 0 v)],lift (wO {w with keys:=w.keys++List.replicate j [],sign:=w.sign++List.replicate j []}),3⟩
set_option maxHeartbeats 1000000 in
theorem z5x(v:Value)(w:Wld)(at_:Nat)(keys:List KeyP)(sig:List UInt8)(hl:w.keys.length=w.sign.length)(hk:w.keys.length<=1000000)(ha:at_<=1000000):
  Acts Tryz.prog 141 3 (wO w) [.own 0, .r (I at_), .r (keyR keys), .r (bs sig)] [(0,v)] 3 (wO (w.put at_ keys sig)) (.r (.tu [])):=by
 refine zc1 (T:=Tab) mixed Tab_ok Tryz.func141 rfl (by kernel_rfl) rfl ⟨⟨_,_,rfl,rfl,zc2,zc2⟩,trivial⟩ ?_
 refine zw (putS w v at_ keys sig) (λj=>j<=at_+1-w.keys.length) (λj=>at_+1-w.keys.length-j) 0 (by omega) (zac [(0,0),(1,1),(2,2)] rfl ⟨rfl,cr,cr,cr,⟨rfl,rfl⟩,trivial⟩ ⟨zcq rfl rfl,⟨rfl,rfl,by simp,rfl,Cvs.of_eq (by simp)⟩,⟨rfl,rfl,by simp,rfl,Cvs.of_eq (by simp)⟩,trivial⟩) ?_
 intro j hj
 have e1:(w.keys++List.replicate j ([]:List KeyP)).length=w.keys.length+j:=by simp
 have e2:(w.sign++List.replicate j ([]:List UInt8)).length=w.sign.length+j:=by simp
 refine zg (λh=>zo ?_) (λh=>zp ?_)
 ·simp only[zb]at h
  refine zu ?_
  refine zy (j:=w.keys.length+j+1) (zs:=(w.keys++List.replicate j ([]:List KeyP)).map keyR++[.x (.slice none 0 0)]) (by simp only[maxLen];omega) (by show((w.keys++List.replicate j ([]:List KeyP)).length+1)*24<=_;omega) (by rw[e1]) rfl ?_
  refine zu ?_
  refine zy (j:=w.sign.length+j+1) (zs:=(w.sign++List.replicate j ([]:List UInt8)).map bs++[.x (.slice none 0 0)]) (by simp only[maxLen];omega) (by show((w.sign++List.replicate j ([]:List UInt8)).length+1)*24<=_;omega) (by rw[e2]) rfl ?_
  refine⟨j+1,by omega,by omega,zac [(0,0),(1,4),(2,6)] rfl ⟨rfl,cr,cr,cr,⟨rfl,rfl⟩,trivial⟩ ⟨zcq rfl rfl,⟨rfl,rfl,by simp;omega,rfl,?_⟩,⟨rfl,rfl,by simp;omega,rfl,?_⟩,trivial⟩⟩
  ·have e:(w.keys++List.replicate (j+1) ([]:List KeyP)).map keyR=(w.keys++List.replicate j []).map keyR++[keyR []]:=by rw[zqp,List.map_append];rfl
   show Cvs _ ((w.keys++List.replicate (j+1) ([]:List KeyP)).map keyR)
   rw[e]
   exact Cvs.app (zm _) (zj (Cv.nil 2) Cvs.nil)
  ·have e:(w.sign++List.replicate (j+1) ([]:List UInt8)).map bs=(w.sign++List.replicate j []).map bs++[bs []]:=by rw[zqp,List.map_append];rfl
   show Cvs _ ((w.sign++List.replicate (j+1) ([]:List UInt8)).map bs)
   rw[e]
   exact Cvs.app (zm _) (zj (Cv.nil 1) Cvs.nil)
 ·simp only[zb]at h
  have hj2:j=at_+1-w.keys.length:=by omega
  have hp1:w.keys++List.replicate j []=padL [] w.keys (at_+1):=by unfold padL;rw[hj2]
  have hp2:w.sign++List.replicate j []=padL [] w.sign (at_+1):=by unfold padL;rw[hj2,hl]
  refine Vdraw.mk' (by kernel_rfl) ?_
  refine Vadr.mk' at_ rfl (by show at_< (w.keys++List.replicate j ([]:List KeyP)).length;rw[e1];omega) ?_
  refine⟨by show at_*1+1<=((w.keys++List.replicate j ([]:List KeyP)).map keyR).length;rw[List.length_map,e1];omega,((w.keys++List.replicate j []).set at_ keys).map keyR,by rw[Nat.mul_one];exact zbu (by rw[e1];omega),?_⟩
  refine Vadr.mk' at_ rfl (by show at_< (w.sign++List.replicate j ([]:List UInt8)).length;rw[e2];omega) ?_
  refine⟨by show at_*1+1<=((w.sign++List.replicate j ([]:List UInt8)).map bs).length;rw[List.length_map,e2];omega,((w.sign++List.replicate j []).set at_ sig).map bs,by rw[Nat.mul_one];exact zbu (by rw[e2];omega),?_⟩
  have hO:wO (w.put at_ keys sig)=[(0,wBx w.t w.n),(1,wK ((w.keys++List.replicate j []).set at_ keys)),(2,wG ((w.sign++List.replicate j []).set at_ sig))]:=by rw[hp1,hp2];rfl
  rw[hO]
  exact zgt (.inr rfl) [(0,0),(1,1),(2,2)] [] [] rfl ⟨⟨rfl,rfl⟩,trivial⟩ ⟨zcq rfl rfl,⟨rfl,rfl,by simp,rfl,zm _⟩,⟨rfl,rfl,by simp,rfl,zm _⟩,trivial⟩ ⟨⟨1000000,rfl⟩,trivial⟩ ⟨_,rfl,cr⟩
end
section
open Go.RowKit Go.Sort Go.Shelf
abbrev KeyV:Type:=Int×{v:Value//v.oneCell'=true}
instance :Inhabited KeyV:=⟨(0,⟨.int .i64 0,rfl⟩)⟩
end
section
def zpr:Par:=⟨[],[],[]⟩
theorem z23:zpr.fit:=⟨by decide,by decide,by decide,λy hy=>by cases hy⟩
end
section
abbrev nl:RV:= .x (.slice none 0 0)
end
section
def idxA{α:Type}(q:α->Bool):Nat->List α->Int
 |_,[]=> -1
 |j,x::r=>if q x then(j:Int)else idxA q (j+1) r
theorem zsl{α:Type}(q:α->Bool): ∀(l:List α) (j:Nat), -1<=idxA q j l/\idxA q j l< (j+l.length:Nat)/\(0<=idxA q j l↔l.any q=true)
 |[],j=>by simp[idxA];omega
 |x::r,j=>by
  have ih:=zsl q r (j+1)
  rw[idxA,List.any_cons,List.length_cons]
  by_cases hq:q x=true
  ·rw[if_pos hq,hq]
   exact⟨by omega,by omega,by simp⟩
  ·rw[if_neg hq,Bool.eq_false_iff.2 hq,Bool.false_or]
   exact⟨ih.1,by omega,ih.2.2⟩
theorem Cv.fn{P:Program}{α:Type}{f:FuncId}{arg:α->RV}{D:α->Prop}{q:α->Bool}(h: ∀x,D x->zab P f [arg x] (.r (.b (q x)))):Cv (.x (.func (.func f) #[] #[])) (.s (cloS P arg D q)):=λw k v hv=>by
 simp only[RV.at_]at hv⊢
 exact⟨f,[], #[],hv,rfl,h⟩
abbrev nodA(n:Node):RV:= .ag n.c
theorem zre(l:List Node)(D:Node->Prop)(q:Node->Bool)(hl:l.length<=1000000000)(hD: ∀x∈l,D x):zab Tryz.prog 212 [nods l, .s (cloS Tryz.prog nodA D q)] (.r (I (idxA q 0 l))):=by
 refine zaa (T:=Tab) mixed Tab_ok Tryz.func212 rfl (by kernel_rfl) ?_
 refine zw (λj:Nat=>{F:=[(0, .r (nods l)),(1, .r (.s (cloS Tryz.prog nodA D q))),(7, .r (I l.length)),(8, .r (I j))],O:=[],nx:=0}) (λj=>j<=l.length/\idxA q 0 l=idxA q j (l.drop j)) (λj=>l.length-j) 0 ⟨by omega,by simp⟩ (zac [] rfl ⟨cr,cr,cr,cr,trivial⟩ trivial) ?_
 rintro j ⟨hj,he⟩
 refine zg (λh=>zo ?_) (λh=>zp ?_)
 ·simp only[zb]at h
  have hj':j<l.length:=by omega
  rw[List.drop_eq_getElem_cons hj']at he
  simp only[idxA]at he
  refine zk (by omega) (by omega) (zg1 rfl hj') ?_
  refine za rfl rfl ?_
  refine Vstep.cloB l[j] rfl rfl rfl rfl (cr) (hD _ (List.getElem_mem hj')) (λhq=>zo ?_) (λhq=>zp ?_)
  ·rw[hq]at he
   exact ze (by rw[he];simp)
  ·rw[hq]at he
   refine zc (m:=((j+1:Nat):Int)) (by omega) (by omega) ?_
   exact⟨j+1,⟨hj',by rw[he];simp⟩,by omega,zac [] rfl ⟨cr,cr,cr,cr,trivial⟩ trivial⟩
 ·simp only[zb]at h
  rw[List.drop_eq_nil_of_le (by omega)]at he
  exact ze (by rw[he];rfl)
theorem zm7(l:List Node)(D:Node->Prop)(q:Node->Bool)(hl:l.length<=1000000000)(hD: ∀x∈l,D x):zab Tryz.prog 147 [nods l, .s (cloS Tryz.prog nodA D q)] (.r (.b (l.any q))):=by
 refine zaa (T:=Tab) mixed Tab_ok Tryz.func147 rfl (by kernel_rfl) ?_
 refine zd (zre l D q hl hD) ?_
 exact Vcmp.mk' rfl (ze (congrArg RV.b (by rw[Bool.eq_iff_iff,decide_eq_true_eq];exact(zsl q l 0).2.2)))
def isLf(n:Node):Bool:=decide (n.kind.toNat=1)
theorem zx8(n:Node):zab Tryz.prog 148 [nodA n] (.r (.b (isLf n))):=by
 refine zaa (T:=Tab) mixed Tab_ok Tryz.func148 rfl (by kernel_rfl) ?_
 refine Vcmp.mk' (m:=isLf n) ?_ (cr)
 unfold isLf
 rw[Bool.eq_iff_iff]
 simp only[zb]
 omega
theorem z1a(l:List Node)(hl:l.length<=1000000000):zab Tryz.prog 78 [nods l] (.r (.b (l.any isLf))):=by
 refine zaa (T:=Tab) mixed Tab_ok Tryz.func78 rfl (by kernel_rfl) ?_
 refine Vcall.mk' (zm7 l (λ_=>True) isLf hl λ_ _=>trivial) (zj (cr) (zj (Cv.fn λn _=>zx8 n) Cvs.nil)) ?_
 exact cr
section
variable (lf:Leaf) (hlf:lf.fit) (hlr:lf.right=true)
abbrev L1(lf:Leaf):Node:=⟨1,lf,zpr⟩
theorem zu3{lf:Leaf}(h:lf.fit):(L1 lf).fit:=⟨h,z23⟩
theorem zxj{lf:Leaf}(h:lf.right=true):(L1 lf).right=true:=by
 show(if(1:UInt8).toNat=0 then _ else if(1:UInt8).toNat=1 then lf.right&&zpr.none else _)=true
 rw[if_neg (by decide),if_pos (by decide),h]
 rfl
theorem i00:(0:Int)<=0:=by decide
theorem i01:(0:Int)< ((1:Nat):Int):=by decide
theorem i2b: -9223372036854775808<=(2:Int)/\(2:Int)<=9223372036854775807:=by decide
theorem n1b:1<=1000000000:=by decide
theorem idx0:(([L1 lf].flatMap Node.c).drop ((0:Int).toNat*10)).take 10=(L1 lf).c:=zg1 (l:=[L1 lf]) (j:=0) rfl (Nat.succ_pos _)
theorem znw:zab Tryz.prog 76 [nods [L1 lf]] (.r (I 1)):=by
 refine zaa (T:=Tab) mixed Tab_ok Tryz.func76 rfl (by kernel_rfl) ?_
 refine zc (m:=2) rfl i2b ?_
 refine⟨by decide,1,by decide,?_⟩
 refine⟨by decide,1,rfl,?_⟩
 refine zt rfl ?_
 refine zx (z3p 1) (λ_=>zt rfl (zp ?_)) (λh=>absurd h (by decide))
 exact cr
include hlf hlr in
theorem zvz:zab Tryz.prog 77 [nods [L1 lf]] (.r (.b true)):=by
 refine zaa (T:=Tab) mixed Tab_ok Tryz.func77 rfl (by kernel_rfl) ?_
 have hb:=zx2 (L1 lf) (zu3 hlf)
 rw[if_pos (zxj hlr)]at hb
 generalize zl3 (L1 lf)=q at hb
 refine Vloop.rounds 2 ?_
 refine Vrounds.step mixed Tab_ok ?_
 refine zq rfl (zo ?_)
 refine zk i00 i01 (idx0 lf) ?_
 refine za rfl rfl ?_
 refine⟨by decide,0,by decide,?_⟩
 refine zt rfl (zp ?_)
 refine zt rfl (zp ?_)
 refine za rfl rfl ?_
 refine zd hb ?_
 refine zt rfl (zp ?_)
 refine zc (m:=1) rfl (by decide) ?_
 refine Vrounds.step mixed Tab_ok ?_
 refine zt rfl (zp ?_)
 exact cr
theorem z1k:zab Tryz.prog 79 [nods [L1 lf],I 0] (.r (.b true)):=by
 refine zaa (T:=Tab) mixed Tab_ok Tryz.func79 rfl (by kernel_rfl) ?_
 refine zd (znw lf) ?_
 refine zk i00 i01 (idx0 lf) ?_
 refine zf rfl ?_
 refine Vloop.rounds 1 ?_
 refine Vrounds.step mixed Tab_ok ?_
 refine zt rfl (zp ?_)
 exact cr
include hlf hlr in
theorem zpo:zab Tryz.prog 32 [nods [L1 lf]] (.r (.b true)):=by
 refine zaa (T:=Tab) mixed Tab_ok Tryz.func32 rfl (by kernel_rfl) ?_
 have hs:=z1a [L1 lf] n1b
 have e:[L1 lf].any isLf=true:=rfl
 rw[e]at hs
 refine zd (znw lf) ?_
 refine zt rfl ?_
 refine zd (zvz lf hlf hlr) ?_
 refine zt rfl ?_
 refine zq rfl ?_
 refine zd hs ?_
 refine zt rfl ?_
 refine zt rfl (zp ?_)
 refine Vloop.rounds 2 ?_
 refine Vrounds.step mixed Tab_ok ?_
 refine zq rfl (zo ?_)
 refine zd (z1k lf) ?_
 refine zt rfl (zp ?_)
 refine zc (m:=1) rfl (by decide) ?_
 refine Vrounds.step mixed Tab_ok ?_
 refine zt rfl (zp ?_)
 exact cr
theorem z3w:zab Tryz.prog 152 [nods [L1 lf]] (.r (is [0])):=by
 refine zaa (T:=Tab) mixed Tab_ok Tryz.func152 rfl (by kernel_rfl) ?_
 refine Vloop.rounds 2 ?_
 refine Vrounds.step mixed Tab_ok ?_
 refine zq rfl (zo ?_)
 refine zk i00 i01 (idx0 lf) ?_
 refine za rfl rfl ?_
 refine zq rfl (zo ?_)
 refine⟨by decide,0,by decide,?_⟩
 refine zu ?_
 refine zy (j:=1) (zs:=[I 0]) (by decide) (by decide) rfl rfl ?_
 refine zc (m:=1) rfl (by decide) ?_
 refine Vrounds.step mixed Tab_ok ?_
 refine zt rfl (zp ?_)
 exact cr
include hlf hlr in
theorem zty:zab Tryz.prog 80 [nods [L1 lf]] (.r (is [0])):=by
 refine zaa (T:=Tab) mixed Tab_ok Tryz.func80 rfl (by kernel_rfl) ?_
 refine zd (zpo lf hlf hlr) ?_
 refine zt rfl (zp ?_)
 refine zd (z3w lf) ?_
 exact cr
include hlf in
theorem z1g:zab Tryz.prog 35 [nods [L1 lf]] (.r (nods [L1 lf])):=by
 refine zaa (T:=Tab) mixed Tab_ok Tryz.func35 rfl (by kernel_rfl) ?_
 refine Vloop.rounds 2 ?_
 refine Vrounds.step mixed Tab_ok ?_
 refine zq rfl (zo ?_)
 refine zk i00 i01 (idx0 lf) ?_
 refine za rfl rfl ?_
 refine za rfl rfl ?_
 refine zd (z08 (L1 lf) (zu3 hlf) (zei _ hlf)) ?_
 refine zu ?_
 refine zy (j:=1) (zs:=(L1 lf).c) (by decide) (by decide) rfl rfl ?_
 refine zc (m:=1) rfl (by decide) ?_
 refine Vrounds.step mixed Tab_ok ?_
 refine zt rfl (zp ?_)
 exact cr
end
end
end Go.Proofs.YtddokcpcpoihmaaGreat.Sx
