import Derived.Test.YtkegaaonpekkgaaGreatZEt
import Derived.Test.YtkegaaonpekkgaaGreatZSxU
import Derived.Test.YtkegaaonpekkgaaGreatZHg
import Derived.Test.YtkegaaonpekkgaaGreatZEr
import Derived.Maps.RangeRun
import Derived.Test.YtkegaaonpekkgaaGreatZMe
import Derived.Shelf.SlIterI.Nil
import Derived.Shelf.SortM.Plain
import Derived.Shelf.SortM.SortNone
import Derived.Ground.GgzProg
import Derived.Ground.SlgmProg
namespace Go.Proofs.YtkegaaonpekkgaaGreat.Sx
open Go.RowKit
section
def z3x(k p:List UInt8):List UInt8:=zo4 (ziu k) (Fe.of p)
def nine:List UInt8:=Fe.bytes ⟨9&&&msk,shrW 9 51,0,0,0⟩
def zhp(k:List UInt8):List UInt8:=z3x k nine
theorem zdab:nine.length=32:=Fe.bytes_len _
attribute [irreducible] nine
theorem zf9b(k p:List UInt8)(hk:k.length=32)(hp:p.length=32):aG 209 [bs k,bs p] (.r (.tu [bs (z3x k p),Er 0])):=by
 refine aT Tryz.func209 rfl ?_
 refine zu (by simp[hk]) (zq ?_)
 refine zu (by simp[hp]) (zq ?_)
 refine ze (zf8b k hk) ?_
 refine ze (h_of p hp) ?_
 refine ze (z8l (ziu k) (Fe.of p) ((zq8 k).trans hk)) ?_
 exact⟨_,rfl,cr⟩
theorem zjlb(k:List UInt8)(hk:k.length=32):aG 123 [bs k] (.r (.tu [bs (zhp k),Er 0])):=by
 refine aT Tryz.func123 rfl ?_
 refine ze (zju 9) ?_
 refine ze (zos ⟨9&&&msk,shrW 9 51,0,0,0⟩) ?_
 refine Vcall.mk' (zf9b k nine hk zdab) (zk (cr) (zk (zf (by unfold nine;rfl)) Cvs.nil)) ?_
 exact⟨_,rfl,cr⟩
def kemB:List UInt8:=[75,69,77,0,32]
def zh9(seed:List UInt8):List UInt8:=epdB kemB (extB kemB [] [100,107,112,95,112,114,107] seed) [115,107] [] 32
theorem za8b(n s l i:List UInt8){m:Nat}(h:m<=32):(epdB n s l i m).length=m:=zln _ _ h
theorem zbbb(n s l i:List UInt8):(extB n s l i).length=32:=zbm _ _
theorem zj1(seed:List UInt8):(zh9 seed).length=32:=za8b _ _ _ _ (by omega)
theorem zs6(seed:List UInt8)(hs:seed.length<=1000000000):aG 49 [bs seed] (.r (.tu [bs (zh9 seed),bs (zhp (zh9 seed))])):=by
 refine aT Tryz.func49 rfl ?_
 have hx:(extB kemB [] [100,107,112,95,112,114,107] seed).length<=1000000000:=by rw[zbbb];omega
 refine Vcall.mk' (z4e ⟨#[75,69,77,0,32]⟩ ⟨#[100,107,112,95,112,114,107]⟩ [] seed (by simp) hs (by decide) (by decide)) (zk (cr) (zk (Cv.nil 1) (zn _))) ?_
 refine Vcall.mk' (z7f ⟨#[75,69,77,0,32]⟩ ⟨#[115,107]⟩ (extB kemB [] [100,107,112,95,112,114,107] seed) [] 32 (by omega) hx (by simp) (by decide) (by decide)) (zk (cr) (zk (cr) (zk (cr) (zk (Cv.nil 1) (zn _))))) ?_
 refine ze (zjlb (zh9 seed) (zj1 seed)) ?_
 exact⟨_,rfl,cr⟩
theorem zbb(s l c:List UInt8){n:Nat}(h:n<=32):(labB s l c n).length=n:=zln _ _ h
def zwj:List UInt8:=[112,97,116,104]
theorem z8a(s:List UInt8)(hs:s.length<=1000000000):aG 380 [bs s] (.r (bs (labB s zwj [] 32))):=by
 refine aT Tryz.func380 rfl ?_
 refine ze (zc2 s ⟨#[112,97,116,104]⟩ hs (by decide)) ?_
 exact cr
end
section
def wayS:List UInt8:=[119,97,121]
def secN(seed:List UInt8):Nat->List UInt8
 |0=>labB seed wayS [] 32
 |k+1=>labB (secN seed k) zwj [] 32
theorem zacb(seed:List UInt8)(k:Nat):secN seed (k+1)=labB (secN seed k) zwj [] 32:=rfl
theorem zzr(seed:List UInt8): ∀k,(secN seed k).length=32
 |0=>zbb _ _ _ (by omega)
 |k+1=>zbb _ _ _ (by omega)
attribute [irreducible] secN
def zcv(seed:List UInt8)(m:Nat):List (List UInt8):=(List.range m).map (secN seed)
theorem zob(seed:List UInt8)(m:Nat):(zcv seed m).length=m:=by simp[zcv]
theorem z6c(seed:List UInt8)(m:Nat):zcv seed (m+1)=zcv seed m++[secN seed m]:=by simp[zcv,List.range_succ]
theorem zu7(seed:List UInt8):zcv seed 1=[secN seed 0]:=by simp[zcv,List.range_succ]
theorem zadb(seed:List UInt8){m:Nat}:((((zcv seed (m+1)).map bs).drop ((m:Int).toNat*1)).take 1)[0]?=some (bs (secN seed m)):=by
 have h:m< ((zcv seed (m+1)).map bs).length:=by rw[List.length_map,zob];omega
 rw[Int.toNat_natCast,Nat.mul_one,List.getElem?_take,if_pos (by omega),List.getElem?_drop]
 show((zcv seed (m+1)).map bs)[m]?=_
 rw[List.getElem?_eq_getElem h]
 simp[zcv]
def secI(seed:List UInt8)(n:Int)(m:Nat):St:={F:=[(1, .r (I n)),(5, .own 0)],O:=[(0,some (.ch 22 1 (m+1) ((zcv seed (m+1)).map bs) true))],nx:=1}
theorem z20(seed:List UInt8)(m:Nat):(zcv seed (m+1)).map bs++[bs (labB (secN seed m) zwj [] 32)]=(zcv seed (m+1+1)).map bs:=by
 rw[z6c seed (m+1),List.map_append,<-zacb]
 rfl
theorem zhzb(seed:List UInt8){n:Int}{m:Nat}(h:n=(m:Int)):Cv (.sl 1 (m+1) ((zcv seed (m+1)).map bs)) (bss (zcv seed (n.toNat+1))):=zf (by subst h;rw[Int.toNat_natCast];unfold bss;rw[zob])
theorem z8o(seed:List UInt8)(n:Int)(hs:seed.length<=1000000000)(hn:0<=n/\n<=16):aG 277 [bs seed,I n] (.r (bss (zcv seed (n.toNat+1)))):=by
 refine aT Tryz.func277 rfl ?_
 refine Vcode.scope mixed Tab_ok 0 (secI seed n) (λm=>(m:Int)<=n) (λm=>n.toNat-m) rfl ?_ ?_
 ·refine zu (by simp;omega) ?_
  refine zu (by simp;omega) (zq ?_)
  refine ze (zc2 seed ⟨#[119,97,121]⟩ hs (by decide)) ?_
  refine zw ?_
  have e0:[bs (labB seed wayS [] 32)]=(zcv seed 1).map bs:=by rw[zu7];unfold secN;rfl
  refine zh (λh=>zp ?_) (λh=>zq ?_)
  ·simp only[zb]at h
   refine zd (m:=0) rfl (by decide) ?_
   refine zm (by decide) (by decide) rfl (zg rfl ?_)
   refine ze (z8a (labB seed wayS [] 32) (by rw[zbb _ _ _ (by omega)];omega)) ?_
   refine zw ?_
   refine Vapp.mk' (j:=2) (zs:=(zcv seed 2).map bs) (by decide) (by decide) rfl (by rw[<-z20 seed 0];unfold secN;rw[zu7];unfold secN;rfl) ?_
   exact⟨1,by omega,zac [(0,2)] rfl ⟨cr,rfl,trivial⟩ ⟨⟨rfl,rfl,rfl,rfl,zn _⟩,trivial⟩⟩
  ·simp only[zb]at h
   exact zf (by rw[show n.toNat=0 by omega];unfold bss;rw[zob,<-e0];rfl)
 ·intro m hm
  refine zh (λh=>zp ?_) (λh=>zq ?_)
  ·simp only[zb]at h
   refine zd (m:=(m:Int)) (by omega) (by omega) ?_
   refine zm (by omega) (by omega) rfl (zg (zadb seed) ?_)
   refine ze (z8a (secN seed m) (by rw[zzr];omega)) ?_
   refine zw ?_
   refine Vapp.mk' (j:=m+1+1) (zs:=(zcv seed (m+1+1)).map bs) (by simp only[maxLen];omega) (by show(m+1+1)*24<=_;omega) rfl (z20 seed m) ?_
   exact⟨m+1,by omega,by omega,zac [(0,2)] rfl ⟨cr,rfl,trivial⟩ ⟨⟨rfl,rfl,rfl,rfl,zn _⟩,trivial⟩⟩
  ·simp only[zb]at h
   exact zhzb seed (by omega)
end
structure KeyP where
 at_:Int
 key:List UInt8
 deriving DecidableEq
abbrev KeyP.c(k:KeyP):List RV:=[I k.at_,bs k.key]
def keyR(l:List KeyP):RV:= .sl 2 l.length (l.flatMap KeyP.c)
def zmk(n:Nat):List UInt8:=((List.replicate 32 (0:UInt8)).set 0 (UInt8.ofNat n)).set 1 (UInt8.ofNat (n/256))
theorem zoc(n:Nat):(zmk n).length=32:=by simp[zmk]
theorem z8p(n:Nat)(hn:n<=1000000000):aG 41 [I n] (bch (zmk n)):=by
 refine za1 (T:=Tab) mixed Tab_ok Tryz.func41 rfl (by kernel_rfl) ?_
 refine⟨rfl,by decide,by decide,by decide,_,_,rfl,zs32,Vpub.own ?_⟩
 refine Vint.u8 n rfl ?_
 refine Vquo.i64 n 256 rfl rfl (by omega) (by omega) ?_
 refine Vint.u8 (n/256) rfl ?_
 refine Vadr.mk' 0 rfl (by decide) ?_
 refine⟨by decide,((List.replicate 32 (0:UInt8)).set 0 (UInt8.ofNat n)).map U8,zc1 (by decide),?_⟩
 refine Vadr.mk' 1 rfl (by decide) ?_
 refine⟨by rw[List.length_map,List.length_set];decide,(zmk n).map U8,zc1 (by rw[List.length_set];decide),?_⟩
 refine⟨_,zbd (id:=0) rfl,?_⟩
 exact congrArg (λm=>some (Ow.ch 5 1 m ((zmk n).map U8) true)) (zoc n).symm
theorem zlk(k:List UInt8):(zhp k).length=32:=by unfold zhp z3x zo4;exact Fe.bytes_len _
structure CtxP where
 group:List UInt8
 epoch:Nat
 tree:List UInt8
 trans:List UInt8
abbrev CtxP.c(x:CtxP):List RV:=[bs x.group, .i .u64 x.epoch,bs x.tree,bs x.trans]
structure CtxP.fit (x:CtxP):Prop where
 group:x.group.length<=1000000
 epoch:x.epoch<18446744073709551616
 tree:x.tree.length<=1000000
 trans:x.trans.length<=1000000
def ctxB(x:CtxP):List UInt8:=beB 2 1++beB 2 1++vecB x.group++beB 8 x.epoch++vecB x.tree++vecB x.trans++[0]
theorem zgq(x:CtxP):(ctxB x).length<=x.group.length+x.tree.length+x.trans.length+25:=by
 have v1:=zag x.group
 have v2:=zag x.tree
 have v3:=zag x.trans
 simp only[ctxB,aL,zak,List.length_cons,List.length_nil]
 omega
theorem zng(x:CtxP)(hx:x.fit):aG 157 [.ag x.c] (.r (bs (ctxB x))):=by
 refine aT Tryz.func157 rfl ?_
 obtain⟨h1,h2,h3,h4⟩:=hx
 have v1:=zag x.group
 have v2:=zag x.tree
 have v3:=zag x.trans
 refine aV ?_
 refine Vcall.mk' (zfi [] 2 1 (by simp) (.inr (.inl rfl))) (zk (Cv.nil _) (zn _)) ?_
 rw[List.nil_append]
 refine ze (zfi (beB 2 1) 2 1 (by rw[zak];omega) (.inr (.inl rfl))) ?_
 refine ze (zev (beB 2 1++beB 2 1) x.group (by rw[aL,zak];omega) (by omega)) ?_
 refine ze (zfi (beB 2 1++beB 2 1++vecB x.group) 8 x.epoch (by simp only[aL,zak];omega) (.inr (.inr (.inr rfl)))) ?_
 refine aV ?_
 refine ze (zev (beB 2 1++beB 2 1++vecB x.group++beB 8 x.epoch) x.tree (by simp only[aL,zak];omega) (by omega)) ?_
 refine ze (zev (beB 2 1++beB 2 1++vecB x.group++beB 8 x.epoch++vecB x.tree) x.trans (by simp only[aL,zak];omega) (by omega)) ?_
 refine zw ?_
 refine Vapp.mk' (j:=(ctxB x).length) (zs:=(ctxB x).map U8) (by simp only[maxLen,aL,zak];omega) (by simp only[aL,zak];show(_+_)*1<=_;omega) (by simp only[ctxB,aL,List.length_cons,List.length_nil]) (by simp only[ctxB,List.map_append];rfl) ?_
 exact cr
theorem zpl(s:List UInt8)(label:ByteArray)(ctx:List UInt8)(n:Nat)(hn:1<=n/\n<=32)(hs:s.length<=1000000000)(hl:label.size<=1048576)(hc:ctx.length<=1048576):aG 203 [bs s,Str label,bs ctx,I n] (.r (bs (labB s (sB label) ctx n))):=by
 refine aT Tryz.func203 rfl ?_
 refine ze (zw8 s label ctx n hn hs hl hc) ?_
 exact cr
abbrev jnrS:ByteArray:=⟨#[106,111,105,110,101,114]⟩
abbrev epoS:ByteArray:=⟨#[101,112,111,99,104]⟩
abbrev wlcS:ByteArray:=⟨#[119,101,108,99,111,109,101]⟩
abbrev grpS:ByteArray:=⟨#[103,114,111,117,112]⟩
abbrev sndS:ByteArray:=⟨#[115,101,110,100,101,114,32,100,97,116,97]⟩
abbrev encS:ByteArray:=⟨#[101,110,99,114,121,112,116,105,111,110]⟩
abbrev expS:ByteArray:=⟨#[101,120,112,111,114,116,101,114]⟩
abbrev autS:ByteArray:=⟨#[97,117,116,104,101,110,116,105,99,97,116,105,111,110]⟩
abbrev xtlS:ByteArray:=⟨#[101,120,116,101,114,110,97,108]⟩
abbrev cfmS:ByteArray:=⟨#[99,111,110,102,105,114,109]⟩
abbrev mbrS:ByteArray:=⟨#[109,101,109,98,101,114,115,104,105,112]⟩
abbrev rsmS:ByteArray:=⟨#[114,101,115,117,109,112,116,105,111,110]⟩
abbrev iniS:ByteArray:=⟨#[105,110,105,116]⟩
structure SecP where
 jn:List UInt8
 wl:List UInt8
 ep:List UInt8
 sd:List UInt8
 en:List UInt8
 ex:List UInt8
 au:List UInt8
 xt:List UInt8
 cf:List UInt8
 mb:List UInt8
 rs:List UInt8
 it:List UInt8
abbrev SecP.c(s:SecP):List RV:=[bs s.jn,bs s.wl,bs s.ep,bs s.sd,bs s.en,bs s.ex,bs s.au,bs s.xt,bs s.cf,bs s.mb,bs s.rs,bs s.it]
def ze7(init commit ctx:List UInt8):List UInt8:=labB (macB init commit) (sB jnrS) ctx 32
theorem zcab(init commit:List UInt8)(x:CtxP)(hx:x.fit)(hs:x.group.length+x.tree.length+x.trans.length<=1000000)(hi:init.length<=1000000000)(hc:commit.length<=1000000000):aG 118 [bs init,bs commit, .ag x.c] (.r (bs (ze7 init commit (ctxB x)))):=by
 refine aT Tryz.func118 rfl ?_
 have hb:=zgq x
 have hm:=zbm init commit
 refine aV ?_
 refine ze (zlr init commit (by omega) (by omega)) ?_
 refine za rfl rfl ?_
 refine ze (zng x hx) ?_
 refine ze (zpl (macB init commit) jnrS (ctxB x) 32 (by omega) (by omega) (by decide) (by omega)) ?_
 exact cr
abbrev At(b off:Nat):RV:= .x (.pointer (some ⟨b,off,none⟩))
abbrev tabR(b:Nat):List RV:=[Str sndS,At b 3,Str encS,At b 4,Str expS,At b 5,Str autS,At b 6,Str xtlS,At b 7,Str cfmS,At b 8,Str mbrS,At b 9,Str rsmS,At b 10,Str iniS,At b 11]
set_option maxRecDepth 20000 in
set_option maxHeartbeats 4000000 in
theorem zg1b(b:Nat):aG 204 [At b 0] (.r (.sl 2 9 (tabR b))):=by
 refine aT Tryz.func204 rfl ?_
 refine aV ?_
 refine zw ?_
 exact cr
def secE(jn wl ep:List UInt8):SecP:=⟨jn,wl,ep,labB ep (sB sndS) [] 32,labB ep (sB encS) [] 32,labB ep (sB expS) [] 32,labB ep (sB autS) [] 32,labB ep (sB xtlS) [] 32,labB ep (sB cfmS) [] 32,labB ep (sB mbrS) [] 32,labB ep (sB rsmS) [] 32,labB ep (sB iniS) [] 32⟩
def z32:List UInt8:=List.replicate 32 0
def schS(joiner ctx:List UInt8):SecP:=secE joiner (labB (macB joiner z32) (sB wlcS) [] 32) (labB (macB joiner z32) (sB epoS) ctx 32)
abbrev nl12:List TF:=[.r nl, .r nl, .r nl, .r nl, .r nl, .r nl, .r nl, .r nl, .r nl, .r nl, .r nl, .r nl]
def zivb(jn wl ep:List UInt8)(j:Nat):List TF:=[.r (bs jn), .r (bs wl), .r (bs ep)]++((((secE jn wl ep).c.drop 3).take j).map TF.r++List.replicate (9-j) (.r nl))
set_option maxHeartbeats 4000000 in
theorem zgqb(joiner m wl ep z cx:List UInt8)(x:CtxP)(hj:joiner.length<=1000000000)(hz:32=z.length)(hzm:(List.replicate ((32:Int).toNat) ([Value.int .u8 0].map ofC)).flatten=z.map U8)(hep:ep.length=32)
  (c1:aG 202 [bs joiner,bs z] (bch m)) (c2:aG 45 [bs m,Str wlcS] (.r (bs wl)))
  (c3:aG 157 [.ag x.c] (.r (bs cx))) (c4:aG 203 [bs m,Str epoS,bs cx,I 32] (.r (bs ep))):
  aG 117 [bs joiner, .ag x.c] (.r (.ag (secE joiner wl ep).c)):=by
 refine aT Tryz.func117 rfl ?_
 refine⟨rfl,by decide,by decide,by decide,z.length,z.map U8,hz,hzm,zw ?_⟩
 refine ze c1 ?_
 refine ze (zbx joiner (by omega)) ?_
 refine ze c2 ?_
 refine za rfl rfl ?_
 refine ze c3 ?_
 refine ze c4 ?_
 refine Vstep.nmB 5 1000000 rfl λb=>Vstep.callX (tn:=1000000) rfl rfl rfl (zg1b b) ?_
 refine zy (λj:Nat=>⟨[(4, .own 1),(6, .own 5),(22, .r (.sl 2 9 (tabR b))),(23, .r (I 9)),(24, .r (I j)),(1000000, .nm 5 (.pointer (some ⟨b,0,none⟩)))],[(1,some (.box nl12)),(5,some (.box (zivb joiner wl ep j)))],6⟩) (λj=>j<=9) (λj=>9-j) 0 (by omega) (zac [(1,1),(5,5)] rfl (by repeat' (first|exact rfl|exact trivial|exact cr|exact Cv.nil _|exact⟨rfl,rfl⟩|refine⟨_,_,rfl,?_,?_⟩|refine⟨?_,?_⟩)) (by repeat' (first|exact rfl|exact trivial|exact cr|exact Cv.nil _|exact⟨rfl,rfl⟩|refine⟨_,_,rfl,?_,?_⟩|refine⟨?_,?_⟩))) ?_
 intro j hj
 rcases(by omega:j<9\/j=9)with hlt |rfl
 rotate_left
 ·refine zu rfl (zq ?_)
  refine za rfl rfl ?_
  refine za rfl rfl ?_
  exact cr
 obtain⟨k,hk⟩: ∃k,k=j+1:=⟨_,rfl⟩
 rcases(by omega:j=0\/j=1\/j=2\/j=3\/j=4\/j=5\/j=6\/j=7\/j=8)with rfl |rfl |rfl |rfl |rfl |rfl |rfl |rfl |rfl
 all_goals
  refine zt rfl (zp ?_)
  refine zm (by decide) (by decide) rfl ?_
  refine za rfl rfl ?_
  refine aV ?_
  refine ze (zc2 ep _ (by omega) (by decide)) ?_
  refine Vstep.sub (zqw (id:=5) (t:=35) (tn:=1000000) rfl rfl rfl) (Vstep.sto Tab_ok rfl ?_)
  refine zd (m:=(k:Int)) (by omega) (by omega) ?_
  exact⟨k,by omega,by omega,by subst hk;exact zac [(1,1),(5,5)] rfl (by repeat' (first|exact rfl|exact trivial|exact cr|exact Cv.nil _|exact⟨rfl,rfl⟩|refine⟨_,_,rfl,?_,?_⟩|refine⟨?_,?_⟩)) (by repeat' (first|exact rfl|exact trivial|exact cr|exact Cv.nil _|exact⟨rfl,rfl⟩|refine⟨_,_,rfl,?_,?_⟩|refine⟨?_,?_⟩))⟩
theorem znfb(joiner:List UInt8)(x:CtxP)(hx:x.fit)(hs:x.group.length+x.tree.length+x.trans.length<=1000000)(hj:joiner.length<=1000000000):aG 117 [bs joiner, .ag x.c] (.r (.ag (schS joiner (ctxB x)).c)):=by
 have hb:=zgq x
 have hm:=zbm joiner z32
 have c1:=zlr joiner z32 hj (by decide)
 have c2:=zc2 (macB joiner z32) wlcS (by omega) (by decide)
 have c3:=zng x hx
 have c4:=zpl (macB joiner z32) epoS (ctxB x) 32 (by omega) (by omega) (by decide) (by omega)
 have h1:=zbb (macB joiner z32) (sB epoS) (ctxB x) (n:=32) (by omega)
 exact zgqb joiner _ _ _ z32 _ x hj rfl zs32 h1 c1 c2 c3 c4
theorem zte(init commit:List UInt8)(x:CtxP)(hx:x.fit)(hs:x.group.length+x.tree.length+x.trans.length<=1000000)(hi:init.length<=1000000000)(hc:commit.length<=1000000000):aG 44 [bs init,bs commit, .ag x.c] (.r (.ag (schS (ze7 init commit (ctxB x)) (ctxB x)).c)):=by
 refine aT Tryz.func44 rfl ?_
 have hj:=zbb (macB init commit) (sB jnrS) (ctxB x) (n:=32) (by omega)
 have c2:=znfb (ze7 init commit (ctxB x)) x hx hs (by unfold ze7;omega)
 refine aV ?_
 refine za rfl rfl ?_
 refine ze (zcab init commit x hx hs hi hc) ?_
 refine za rfl rfl ?_
 refine ze c2 ?_
 generalize schS (ze7 init commit (ctxB x)) (ctxB x)=s
 refine za rfl rfl ?_
 exact cr
theorem zxx(s:SecP)(l:List UInt8)(h1:s.cf.length<=1000000)(h2:l.length<=1000000):aG 47 [.ag s.c,bs l] (.r (bs (macB s.cf l))):=by
 refine aT Tryz.func47 rfl ?_
 have h:=zrm s.cf [l] (by omega) (by simp;omega)
 have e:([l]:List (List UInt8)).flatMap id=l:=by simp
 rw[e]at h
 refine zw ?_
 refine ze h ?_
 exact cr
def intB(c t:List UInt8):List UInt8:=shaB (c++vecB t)
theorem zlx(c t:List UInt8)(h1:c.length<=1000000)(h2:t.length<=1000000):aG 48 [bs c,bs t] (.r (bs (intB c t))):=by
 refine aT Tryz.func48 rfl ?_
 have hv:=zag t
 have h:=zoq [c,vecB t] (by simp;omega)
 have e:([c,vecB t]:List (List UInt8)).flatMap id=c++vecB t:=by simp
 rw[e]at h
 refine Vcall.mk' (zbl [] t (by simp) (by omega)) (zk (Cv.nil 1) (zn _)) ?_
 rw[List.nil_append]
 refine zw ?_
 refine ze h ?_
 exact cr
def itO(ents:List (Int×RV))(dn:List Nat)(last:Option Nat):GOw where
 at_ w k vb:=∃r,vb=(.pointer (some ⟨r,0,none⟩),some r)/\k r=0/\((ents=[]/\last=none/\w.heap[r]?=some (.mapIter none 0 #[] 0))\/
  ∃b es c since seen c0,b<w.heap.size/\0<k b/\w.heap[b]?=some (.map es c)/\entsAt w k ents es.toList/\stampE es c/\w.heap[r]?=some (.mapIter (some b) since seen c0)/\(∀x∈es.toList,x.born<since)/\since<=c0/\since<=c/\
   (∀j e,es.toList[j]?=some e->(seen.contains e.born=true↔j∈dn))/\(∀j,last=some j->∃e s,es.toList[j]?=some e/\seen=Array.push s e.born/\c0=c))
 mono:=by
  rintro w k w' k' vb h hb ⟨r,rfl,hk,hr⟩
  obtain⟨h1,h2⟩:=hb r rfl
  refine⟨r,rfl,h2.trans hk,?_⟩
  rcases hr with⟨e1,e2,hr⟩ |⟨b,es,c,since,seen,c0,q1,q2,q3,q4,q5,q6,q7,q8,q9,q10,q11⟩
  ·exact .inl ⟨e1,e2,h1.trans hr⟩
  ·exact .inr ⟨b,es,c,since,seen,c0,Nat.lt_of_lt_of_le q1 h.size,Nat.lt_of_lt_of_le q2 (h.keep b q1),h.map b q1 q2 es c q3,q4.mono h,q5,h1.trans q6,q7,q8,q9,q10,q11⟩
 one:=by rintro w k vb ⟨r,rfl,_⟩;rfl
theorem zrv{ents:List (Int×RV)}{dn:List Nat}{last:Option Nat}(w:World)(k:Kp)(vb:Value×Option Nat)(h:(itO ents dn last).at_ w k vb):(itO ents dn none).at_ w k vb:=by
 obtain⟨r,e,hk,hr⟩:=h
 refine⟨r,e,hk,?_⟩
 rcases hr with⟨e1,_,hr⟩ |⟨b,es,c,since,seen,c0,q1,q2,q3,q4,q5,q6,q7,q8,q9,q10,_⟩
 ·exact .inl ⟨e1,rfl,hr⟩
 ·exact .inr ⟨b,es,c,since,seen,c0,q1,q2,q3,q4,q5,q6,q7,q8,q9,q10,λj h=>by cases h⟩
theorem z9j{l:List Nat}(h:l.Nodup){i j x:Nat}(hi:l[i]?=some x)(hj:l[j]?=some x):i=j:=by
 obtain⟨h1,e1⟩:=List.getElem?_eq_some_iff.1 hi
 obtain⟨h2,e2⟩:=List.getElem?_eq_some_iff.1 hj
 rcases Nat.lt_trichotomy i j with hlt |e |hlt
 ·exact absurd (e1.trans e2.symm) ((List.pairwise_iff_getElem.1 h) i j h1 h2 hlt)
 ·exact e
 ·exact absurd (e2.trans e1.symm) ((List.pairwise_iff_getElem.1 h) j i h2 h1 hlt)
theorem zj0: ∀(n:Nat) {l:List Nat},l.Nodup->(∀x∈l,x<n)->l.length<=n
 |0,l,_,h=>by
  cases l with
  |nil=>simp
  |cons x r=>have:=h x (by simp);omega
 |n+1,l,hn,h=>by
  by_cases hm:n∈l
  ·have h1:=zj0 n (hn.erase n) λx hx=>by
    have:=(hn.mem_erase_iff).1 hx
    have:=h x this.2
    omega
   rw[List.length_erase_of_mem hm]at h1
   omega
  ·have:=zj0 n hn λx hx=>by
    have h1:=h x hx
    have:x≠n:=λe=>hm (e▸hx)
    omega
   omega
section
variable {P:Program} {T:TT} {B:Bs} {N:Nat} {S:St} {a:Act} {w:World} {k:Kp} {g:Env} {o:Oper} {Q:Exit->Act->World->Prop}
theorem Vstep.range{t kt et:TypeId}{x:Operand}{ents:List (Int×RV)}{K:St->Prop}(hop:o.op= .range t x)(hx:opr S x=some (.r (.s (mapS ents))))(hu:P.underlying t=some (.map kt et))
  (hK:newK S o.dst (.own S.nx) (some (.gen (itO ents [] none))) K):Vstep P S o K:=by
 rw[zaw]at hK
 refine Vstep.one (λB N a w k Q ⟨g,hs⟩ hd=>?_) hK
 have hv:=(zaf hs hx).2
 simp only[TF.at_,RV.at_]at hv
 rcases hv with⟨hv,rfl⟩ |⟨b,es,c,hv,hb,hk,hh,he,hst⟩
 ·refine zau (v:= .pointer (some ⟨w.heap.size,0,none⟩)) (w':=w.alloc (.mapIter none 0 #[] 0)) (by simp[execOp,hop,hv,run_range_nilMap w t kt et hu]) ⟨kset k w.heap.size 0,_,hs.make hd (zcm w _) (λb hb=>zcc b hb) (vb:=(.pointer (some ⟨w.heap.size,0,none⟩),some w.heap.size)) (o:= .gen (itO [] [] none)) trivial ?_ λb hb=>?_⟩
  ·exact⟨w.heap.size,rfl,zby, .inl ⟨rfl,rfl,heap_alloc_new w _⟩⟩
  ·cases hb
   exact⟨Nat.le_refl _,by simp⟩
 ·refine zau (v:= .pointer (some ⟨w.heap.size,0,none⟩)) (w':=w.alloc (.mapIter (some b) c #[] c)) (by simp[execOp,hop,hv,run_range_map w t kt et b es c hu hh]) ⟨kset k w.heap.size 0,_,hs.make hd (zcm w _) (λb hb=>zcc b hb) (vb:=(.pointer (some ⟨w.heap.size,0,none⟩),some w.heap.size)) (o:= .gen (itO ents [] none)) trivial ?_ λb hb=>?_⟩
  ·have hle:=Ext.le (zcm w (.mapIter (some b) c #[] c)) (k:=k) (k':=kset k w.heap.size 0) λb hb=>zcc b hb
   exact⟨w.heap.size,rfl,zby, .inr ⟨b,es,c,c, #[],c,by simp;omega,by show 0<kset k w.heap.size 0 b;rw[zcc b hb];exact hk,hle.map b hb hk es c hh,he.mono hle,hst,heap_alloc_new w _,hst.1,Nat.le_refl _,Nat.le_refl _,λj e _=>by simp,λj h=>by cases h⟩⟩
  ·cases hb
   exact⟨Nat.le_refl _,by simp⟩
theorem Vstep.next{x:Operand}{id:Nat}{ents:List (Int×RV)}{dn:List Nat}{last:Option Nat}{K:St->Prop}(hop:o.op= .next x false)(hx:opr S x=some (.own id))(ho:oget S.O id=some (.gen (itO ents dn last)))
  (h0:(∀j,j<ents.length->j∈dn)->newK S o.dst (.r (.tu [.b false])) none K)
  (h1: ∀(j:Nat) (x:Int×RV),ents[j]?=some x->j∉dn->newK ⟨S.F,(id,some (.gen (itO ents (dn++[j]) (some j))))::S.O,S.nx⟩ o.dst (.r (.tu [.b true, .i .i64 x.1,x.2])) none K):Vstep P S o K:=by
 simp only[zaw]at h0 h1
 let ι:={y:Option Nat//match y with
  |none=>∀j,j<ents.length->j∈dn
  |some j=>j<ents.length/\j∉dn}
 refine⟨ι,λy=>match y with
  |⟨none,_⟩=>S.new o.dst (.r (.tu [.b false])) none
  |⟨some j,h⟩=>St.new ⟨S.F,(id,some (.gen (itO ents (dn++[j]) (some j))))::S.O,S.nx⟩ o.dst (.r (.tu [.b true, .i .i64 (ents[j]'h.1).1,(ents[j]'h.1).2])) none,λB N a w k Q ⟨g,hs⟩ hd=>?_,λy=>?_⟩
 ·have hv:=(zaf hs hx).2
  simp only[TF.at_]at hv
  obtain⟨_,_,hat,_⟩:=hs.owns id _ ho
  simp only[Ow.at_]at hat
  obtain⟨r,e,hkr,hr⟩:=hat
  rw[e]at hv
  rcases hr with⟨rfl,rfl,hr⟩ |⟨b,es,c,since,seen,c0,q1,q2,q3,q4,q5,q6,q7,q8,q9,q10,q11⟩
  ·refine zau (v:= .tuple #[.bool false]) (w':=w) ?_ ⟨⟨none,λj hj=>by simp at hj⟩,k,g,hs.put hd trivial ?_⟩
   ·simp only[execOp,hop,hv,Sem.run_bind]
    simp[Instr.next,getObj,Sem.run,hr]
   ·simp only[TF.at_,RV.at_]
    exact⟨_,rfl,by simp only[RV.partsAt,RV.at_];exact⟨_,_,rfl,rfl,rfl⟩⟩
  ·rcases run_next_at (P:=P) w o.type r b since c0 seen es c q6 q3 q7 q8 with⟨hz,hrun⟩ |⟨en,hen,w1,hw1,hrun⟩
   ·have hall: ∀j,j<ents.length->j∈dn:=λj hj=>by
     have hjl:j<es.toList.length:=by rw[q4.1];exact hj
     have hjs:=List.getElem?_eq_getElem hjl
     refine(q10 j _ hjs).1 ?_
     refine Classical.byContradiction λhn=>?_
     have hm:es.toList[j]∈(leftOf es seen).toList:=by
      unfold leftOf
      rw[Array.toList_filter,List.mem_filter]
      exact⟨List.getElem_mem hjl,by simpa using hn⟩
     have:(leftOf es seen).toList=[]:=List.eq_nil_of_length_eq_zero (by rw[Array.length_toList];exact hz)
     rw[this]at hm
     cases hm
    refine zau (v:= .tuple #[.bool false]) (w':=w) (by simp[execOp,hop,hv,hrun]) ⟨⟨none,hall⟩,k,g,hs.put hd trivial ?_⟩
    simp only[TF.at_,RV.at_]
    exact⟨_,rfl,by simp only[RV.partsAt,RV.at_];exact⟨_,_,rfl,rfl,rfl⟩⟩
   ·unfold leftOf at hen
    rw[Array.toList_filter,List.mem_filter]at hen
    obtain⟨hmem,hns⟩:=hen
    obtain⟨j,hjl,hj⟩:=List.getElem_of_mem hmem
    have hjs:es.toList[j]?=some en:=by rw[List.getElem?_eq_getElem hjl,hj]
    have hje:j<ents.length:=by rw[<-q4.1];exact hjl
    have hjn:j∉dn:=λh=>by
     have:=(q10 j en hjs).2 h
     rw[this]at hns
     cases hns
    have hx1:=q4.2 j _ en (List.getElem?_eq_getElem hje) hjs
    have hheap:w1.heap=w.heap:=by rcases hw1 with rfl |rfl<;>rfl
    have hrl:r<w.heap.size:=(Array.getElem?_eq_some_iff.1 q6).1
    have hbr:b≠r:=λe=>by rw[e,q6]at q3;cases q3
    obtain⟨w2,hw2⟩: ∃w2,w2=ChangeMaps.setBlock w1 r (.mapIter (some b) since (seen.push en.born) c):=⟨_,rfl⟩
    have e2:w2.heap=w.heap.setIfInBounds r (.mapIter (some b) since (seen.push en.born) c):=by rw[hw2];simp only[ChangeMaps.setBlock];rw[hheap]
    have eos:w2.os=w.os/\w2.tape=w.tape/\w2.output=w.output:=by rw[hw2];rcases hw1 with rfl |rfl<;>exact⟨rfl,rfl,rfl⟩
    have hw:Wrote w k w2 k (some r):=⟨eos.1,eos.2.1,eos.2.2,by rw[e2];simp,λx _ hne=>⟨by rw[e2,Array.getElem?_setIfInBounds_ne (λh=>hne (by rw[h]))],rfl⟩,λx hx=>by
     cases hx
     exact⟨Nat.le_refl _,λo' ho'=>by omega,λh=>by omega⟩⟩
    have hnew:(Ow.gen (itO ents (dn++[j]) (some j))).at_ w2 k g (g id):=by
     simp only[Ow.at_]
     refine⟨r,e,hkr, .inr ⟨b,es,c,since,seen.push en.born,c,Nat.lt_of_lt_of_le q1 hw.size,q2,hw.le.map b q1 q2 es c q3,q4.mono hw.le,q5,by rw[e2,Array.getElem?_setIfInBounds_self_of_lt hrl],q7,q9,q9,λi ei hi=>?_,λi hi=>?_⟩⟩
     ·rw[Array.contains_push]
      simp only[Bool.or_eq_true,beq_iff_eq,List.mem_append,List.mem_singleton]
      constructor
      ·rintro(h |h)
       ·exact .inl ((q10 i ei hi).1 h)
       ·refine .inr (z9j q5.2.1 (x:=en.born) ?_ ?_)
        ·rw[List.getElem?_map,hi];exact congrArg some h
        ·rw[List.getElem?_map,hjs];rfl
      ·rintro(h |rfl)
       ·exact .inl ((q10 i ei hi).2 h)
       ·rw[hjs]at hi;cases hi;exact .inr rfl
     ·cases hi
      exact⟨en,seen,hjs,rfl,rfl⟩
    have hs2:=hs.redo (ow':= .gen (itO ents (dn++[j]) (some j))) ho (by rw[e]) hw trivial hnew
    refine zau (v:= .tuple #[.bool true,en.key,en.val]) (w':=w2) (by simp[execOp,hop,hv,hrun,hw2]) ⟨⟨some j,hje,hjn⟩,k,g,hs2.put hd trivial ?_⟩
    simp only[TF.at_,RV.at_]
    refine⟨_,rfl,?_⟩
    simp only[RV.partsAt,RV.at_]
    exact⟨_,_,rfl,rfl,_,_,rfl,hx1.1,_,_,rfl,RV.mono hw.le _ _ hx1.2,rfl⟩
 ·obtain⟨y,hy⟩:=y
  cases y with
  |none=>exact h0 hy
  |some j=>exact h1 j _ (List.getElem?_eq_getElem hy.1) hy.2
theorem Vstep.entry{x:Operand}{id:Nat}{ents:List (Int×RV)}{dn:List Nat}{j:Nat}{y:Int×RV}{K:St->Prop}(hop:o.op= .entry x)(hx:opr S x=some (.own id))(ho:oget S.O id=some (.gen (itO ents dn (some j))))(hy:ents[j]?=some y)
  (hK:newK S o.dst (.r (.tu [.i .i64 y.1,y.2])) none K):Vstep P S o K:=by
 rw[zaw]at hK
 refine Vstep.one (λB N a w k Q ⟨g,hs⟩ hd=>?_) hK
 have hv:=(zaf hs hx).2
 simp only[TF.at_]at hv
 obtain⟨_,_,hat,_⟩:=hs.owns id _ ho
 simp only[Ow.at_]at hat
 obtain⟨r,e,hkr,hr⟩:=hat
 rw[e]at hv
 rcases hr with⟨_,h,_⟩ |⟨b,es,c,since,seen,c0,q1,q2,q3,q4,q5,q6,q7,q8,q9,q10,q11⟩
 ·cases h
 ·obtain⟨en,s,hjs,rfl,rfl⟩:=q11 j rfl
  have hx1:=q4.2 j _ en hy hjs
  have hrun:=run_entry_at (P:=P) w r b since s es c0 en q6 q3 (List.mem_of_getElem? hjs) q5.2.1
  refine zau (v:= .tuple #[en.key,en.val]) (w':=w) (by simp[execOp,hop,hv,hrun]) ⟨k,g,hs.put hd trivial ?_⟩
  simp only[TF.at_,RV.at_]
  refine⟨_,rfl,?_⟩
  simp only[RV.partsAt,RV.at_]
  exact⟨_,_,rfl,hx1.1,_,_,rfl,hx1.2,rfl⟩
end
section
open Go.Shelf
def zno:Go.Shelf.Ren:=⟨λ |7=>375 |10=>454 |n=>n,λ |23=>330 |26=>3 |3=>40 |28=>428 |0=>0 |27=>427 |33=>308 |4=>4 |n=>n,λ |n=>n⟩
theorem z5k:Go.Proofs.SlLaysZI.n7 aP zno:={
 mixed:=by kernel_rfl
 f7:=⟨Tryz.f375.name,by decide,Tryz.func375.trans (congrArg some (by kernel_rfl))⟩
 f10:=⟨Tryz.f454.name,by decide,Tryz.func454.trans (congrArg some (by kernel_rfl))⟩
 t0:=Tryz.underlying0
 a0:=Tryz.isAgg0
 z0:=Tryz.sizeOf0
 v0:=Tryz.zeroValue0
 t4:=Tryz.underlying4
 a4:=Tryz.isAgg4
 z4:=Tryz.sizeOf4
 v4:=Tryz.zeroValue4
 t23:=Tryz.underlying330
 a23:=Tryz.isAgg330
 z23:=Tryz.sizeOf330
 v23:=Tryz.zeroValue330
 t26:=Tryz.underlying3
 a26:=Tryz.isAgg3
 z26:=Tryz.sizeOf3
 v26:=Tryz.zeroValue3
 t27:=Tryz.underlying427
 a27:=Tryz.isAgg427
 z27:=Tryz.sizeOf427
 v27:=Tryz.zeroValue427
 t28:=Tryz.underlying428
 a28:=Tryz.isAgg428
 z28:=Tryz.sizeOf428
 v28:=Tryz.zeroValue428
 t33:=Tryz.underlying308
 a33:=Tryz.isAgg308
 z33:=Tryz.sizeOf308
 v33:=Tryz.zeroValue308}
def znp:Go.Shelf.Ren:=⟨λ |7=>376 |10=>455 |n=>n,λ |23=>331 |26=>3 |3=>22 |28=>428 |0=>0 |27=>427 |33=>308 |4=>4 |n=>n,λ |n=>n⟩
theorem z5l:Go.Proofs.SlLaysZI.n7 aP znp:={
 mixed:=by kernel_rfl
 f7:=⟨Tryz.f376.name,by decide,Tryz.func376.trans (congrArg some (by kernel_rfl))⟩
 f10:=⟨Tryz.f455.name,by decide,Tryz.func455.trans (congrArg some (by kernel_rfl))⟩
 t0:=Tryz.underlying0
 a0:=Tryz.isAgg0
 z0:=Tryz.sizeOf0
 v0:=Tryz.zeroValue0
 t4:=Tryz.underlying4
 a4:=Tryz.isAgg4
 z4:=Tryz.sizeOf4
 v4:=Tryz.zeroValue4
 t23:=Tryz.underlying331
 a23:=Tryz.isAgg331
 z23:=Tryz.sizeOf331
 v23:=Tryz.zeroValue331
 t26:=Tryz.underlying3
 a26:=Tryz.isAgg3
 z26:=Tryz.sizeOf3
 v26:=Tryz.zeroValue3
 t27:=Tryz.underlying427
 a27:=Tryz.isAgg427
 z27:=Tryz.sizeOf427
 v27:=Tryz.zeroValue427
 t28:=Tryz.underlying428
 a28:=Tryz.isAgg428
 z28:=Tryz.sizeOf428
 v28:=Tryz.zeroValue428
 t33:=Tryz.underlying308
 a33:=Tryz.isAgg308
 z33:=Tryz.sizeOf308
 v33:=Tryz.zeroValue308}
def zps:Go.Shelf.Ren:=⟨λ |6=>374 |8=>452 |9=>453 |11=>505 |13=>461 |12=>506 |23=>517 |24=>518 |14=>530 |15=>531 |16=>532 |17=>533 |18=>534 |19=>535 |20=>444 |21=>536 |22=>537 |25=>550 |26=>540 |27=>541 |28=>551 |29=>552 |30=>462 |31=>555 |n=>n,λ |26=>3 |28=>428 |24=>36 |0=>0 |3=>3 |37=>303 |48=>298 |50=>43 |4=>4 |40=>534 |39=>533 |45=>417 |5=>5 |9=>9 |51=>552 |55=>556 |57=>564 |58=>296 |33=>308 |n=>n,λ |n=>n⟩
theorem z3b:Go.Proofs.SlLaysZI.n6 aP zps:={
 mixed:=by kernel_rfl
 f6:=⟨Tryz.f374.name,by decide,Tryz.func374.trans (congrArg some (by kernel_rfl))⟩
 f8:=⟨Tryz.f452.name,by decide,Tryz.func452.trans (congrArg some (by kernel_rfl))⟩
 f11:=⟨Tryz.f505.name,by decide,Tryz.func505.trans (congrArg some (by kernel_rfl))⟩
 t0:=Tryz.underlying0
 a0:=Tryz.isAgg0
 z0:=Tryz.sizeOf0
 v0:=Tryz.zeroValue0
 t24:=Tryz.underlying36
 a24:=Tryz.isAgg36
 z24:=Tryz.sizeOf36
 v24:=Tryz.zeroValue36
 t26:=Tryz.underlying3
 a26:=Tryz.isAgg3
 z26:=Tryz.sizeOf3
 v26:=Tryz.zeroValue3
 t28:=Tryz.underlying428
 a28:=Tryz.isAgg428
 z28:=Tryz.sizeOf428
 v28:=Tryz.zeroValue428
 i26:=by kernel_rfl}
def zagb:Go.Shelf.Ren:=⟨λ |5=>453 |8=>461 |7=>506 |19=>517 |20=>518 |10=>530 |11=>531 |12=>532 |13=>533 |14=>534 |15=>535 |16=>444 |17=>536 |18=>537 |30=>550 |31=>540 |32=>541 |33=>551 |34=>552 |35=>462 |40=>555 |n=>n,λ |23=>36 |25=>3 |3=>3 |32=>303 |22=>36 |0=>0 |44=>298 |46=>43 |4=>4 |36=>534 |35=>533 |41=>417 |5=>5 |9=>9 |53=>552 |57=>556 |63=>564 |64=>296 |n=>n,λ |n=>n⟩
theorem ze5b:Go.Proofs.SlLaysM.n5 aP zagb:={
 mixed:=by kernel_rfl
 f5:=⟨Tryz.f453.name,by decide,Tryz.func453.trans (congrArg some (by kernel_rfl))⟩
 f7:=⟨Tryz.f506.name,by decide,Tryz.func506.trans (congrArg some (by kernel_rfl))⟩
 f8:=Tryz.func461.trans (congrArg some (by kernel_rfl))
 f10:=⟨Tryz.f530.name,by decide,Tryz.func530.trans (congrArg some (by kernel_rfl))⟩
 f11:=⟨Tryz.f531.name,by decide,Tryz.func531.trans (congrArg some (by kernel_rfl))⟩
 f12:=⟨Tryz.f532.name,by decide,Tryz.func532.trans (congrArg some (by kernel_rfl))⟩
 f13:=⟨Tryz.f533.name,by decide,Tryz.func533.trans (congrArg some (by kernel_rfl))⟩
 f14:=⟨Tryz.f534.name,by decide,Tryz.func534.trans (congrArg some (by kernel_rfl))⟩
 f15:=⟨Tryz.f535.name,by decide,Tryz.func535.trans (congrArg some (by kernel_rfl))⟩
 f16:=⟨Tryz.f444.name,by decide,Tryz.func444.trans (congrArg some (by kernel_rfl))⟩
 f17:=⟨Tryz.f536.name,by decide,Tryz.func536.trans (congrArg some (by kernel_rfl))⟩
 f18:=⟨Tryz.f537.name,by decide,Tryz.func537.trans (congrArg some (by kernel_rfl))⟩
 f19:=Tryz.func517.trans (congrArg some (by kernel_rfl))
 f20:=Tryz.func518.trans (congrArg some (by kernel_rfl))
 f30:=⟨Tryz.f550.name,by decide,Tryz.func550.trans (congrArg some (by kernel_rfl))⟩
 f31:=Tryz.func540.trans (congrArg some (by kernel_rfl))
 f32:=Tryz.func541.trans (congrArg some (by kernel_rfl))
 f33:=⟨Tryz.f551.name,by decide,Tryz.func551.trans (congrArg some (by kernel_rfl))⟩
 f34:=⟨Tryz.f552.name,by decide,Tryz.func552.trans (congrArg some (by kernel_rfl))⟩
 f35:=⟨Tryz.f462.name,by decide,Tryz.func462.trans (congrArg some (by kernel_rfl))⟩
 f40:=⟨Tryz.f555.name,by decide,Tryz.func555.trans (congrArg some (by kernel_rfl))⟩
 t0:=Tryz.underlying0
 a0:=Tryz.isAgg0
 z0:=Tryz.sizeOf0
 v0:=Tryz.zeroValue0
 t3:=Tryz.underlying3
 a3:=Tryz.isAgg3
 z3:=Tryz.sizeOf3
 v3:=Tryz.zeroValue3
 t4:=Tryz.underlying4
 a4:=Tryz.isAgg4
 z4:=Tryz.sizeOf4
 v4:=Tryz.zeroValue4
 t5:=Tryz.underlying5
 a5:=Tryz.isAgg5
 z5:=Tryz.sizeOf5
 v5:=Tryz.zeroValue5
 t9:=Tryz.underlying9
 a9:=Tryz.isAgg9
 z9:=Tryz.sizeOf9
 v9:=Tryz.zeroValue9
 t22:=Tryz.underlying36
 a22:=Tryz.isAgg36
 z22:=Tryz.sizeOf36
 v22:=Tryz.zeroValue36
 t23:=Tryz.underlying36
 a23:=Tryz.isAgg36
 z23:=Tryz.sizeOf36
 v23:=Tryz.zeroValue36
 t25:=Tryz.underlying3
 a25:=Tryz.isAgg3
 z25:=Tryz.sizeOf3
 v25:=Tryz.zeroValue3
 t32:=Tryz.underlying303
 a32:=Tryz.isAgg303
 z32:=Tryz.sizeOf303
 v32:=Tryz.zeroValue303
 t35:=Tryz.underlying533
 a35:=Tryz.isAgg533
 z35:=Tryz.sizeOf533
 v35:=Tryz.zeroValue533
 t36:=Tryz.underlying534
 a36:=Tryz.isAgg534
 z36:=Tryz.sizeOf534
 v36:=Tryz.zeroValue534
 t41:=Tryz.underlying417
 a41:=Tryz.isAgg417
 z41:=Tryz.sizeOf417
 v41:=Tryz.zeroValue417
 t44:=Tryz.underlying298
 a44:=Tryz.isAgg298
 z44:=Tryz.sizeOf298
 v44:=Tryz.zeroValue298
 t46:=Tryz.underlying43
 a46:=Tryz.isAgg43
 z46:=Tryz.sizeOf43
 v46:=Tryz.zeroValue43
 t53:=Tryz.underlying552
 a53:=Tryz.isAgg552
 z53:=Tryz.sizeOf552
 v53:=Tryz.zeroValue552
 t57:=Tryz.underlying556
 a57:=Tryz.isAgg556
 z57:=Tryz.sizeOf556
 v57:=Tryz.zeroValue556
 t63:=Tryz.underlying564
 a63:=Tryz.isAgg564
 z63:=Tryz.sizeOf564
 v63:=Tryz.zeroValue564
 t64:=Tryz.underlying296
 a64:=Tryz.isAgg296
 z64:=Tryz.sizeOf296
 v64:=Tryz.zeroValue296}
end
end Go.Proofs.YtkegaaonpekkgaaGreat.Sx
