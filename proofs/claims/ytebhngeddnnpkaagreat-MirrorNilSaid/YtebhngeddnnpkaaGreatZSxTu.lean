import Derived.Test.YtebhngeddnnpkaaGreatZGd
import Derived.Test.YtebhngeddnnpkaaGreatZTm
import Derived.Test.YtebhngeddnnpkaaGreatZTi
import Derived.Test.YtebhngeddnnpkaaGreatZQa
import Derived.Test.YtebhngeddnnpkaaGreatZSxU
import Derived.Test.YtebhngeddnnpkaaGreatZTt
import Derived.Test.YtebhngeddnnpkaaGreatZMe
import Derived.Test.YtebhngeddnnpkaaGreatZKg
import Derived.Test.YtebhngeddnnpkaaGreatZWire
import Derived.Shelf.RegionOpenPlain
import Derived.Lib.Walk
import Derived.Lib.SliceRun
import Derived.Lib.Overlaps
import Derived.Laws.Externs
import Derived.Laws.IdiomCopy
import Derived.Lib.AppendZerosOnto
import Derived.Laws.NewBlocks
import Derived.Test.YtebhngeddnnpkaaGreatZGc
namespace Go.Proofs.YtebhngeddnnpkaaGreat.Sx
open Go.RowKit
set_option linter.unusedVariables false
section
structure CtxP where
 group:List UInt8
 epoch:Nat
 tree:List UInt8
 trans:List UInt8
abbrev CtxP.c(x:CtxP):List RV:=[bs x.group, .i .u64 x.epoch,bs x.tree,bs x.trans]
structure CtxP.fit (x:CtxP):Prop where
 group:x.group.length<=1000000
 epoch:x.epoch<18446744073709551616
 tree:x.tree.length<=1000000
 trans:x.trans.length<=1000000
def ctxB(x:CtxP):List UInt8:=beB 2 1++beB 2 1++vecB x.group++beB 8 x.epoch++vecB x.tree++vecB x.trans++[0]
theorem ztt(x:CtxP):(ctxB x).length<=x.group.length+x.tree.length+x.trans.length+25:=by
 have v1:=zaj x.group
 have v2:=zaj x.tree
 have v3:=zaj x.trans
 simp only[ctxB,List.length_append,zam,List.length_cons,List.length_nil]
 omega
theorem zxz(x:CtxP)(hx:x.fit):zab Tryz.prog 183 [.ag x.c] (.r (bs (ctxB x))):=by
 refine zaa (T:=Tab) mixed Tab_ok Tryz.func183 rfl (by kernel_rfl) ?_
 obtain⟨h1,h2,h3,h4⟩:=hx
 have v1:=zaj x.group
 have v2:=zaj x.tree
 have v3:=zaj x.trans
 refine Vdraw.mk' (by kernel_rfl) ?_
 refine Vcall.mk' (zjj [] 2 1 (by simp) (.inr (.inl rfl))) (zk (Cv.nil _) (zn _)) ?_
 rw[List.nil_append]
 refine ze (zjj (beB 2 1) 2 1 (by rw[zam];omega) (.inr (.inl rfl))) ?_
 refine ze (zmu (beB 2 1++beB 2 1) x.group (by rw[List.length_append,zam];omega) (by omega)) ?_
 refine ze (zjj (beB 2 1++beB 2 1++vecB x.group) 8 x.epoch (by simp only[List.length_append,zam];omega) (.inr (.inr (.inr rfl)))) ?_
 refine Vdraw.mk' (by kernel_rfl) ?_
 refine ze (zmu (beB 2 1++beB 2 1++vecB x.group++beB 8 x.epoch) x.tree (by simp only[List.length_append,zam];omega) (by omega)) ?_
 refine ze (zmu (beB 2 1++beB 2 1++vecB x.group++beB 8 x.epoch++vecB x.tree) x.trans (by simp only[List.length_append,zam];omega) (by omega)) ?_
 refine zw ?_
 refine Vapp.mk' (j:=(ctxB x).length) (zs:=(ctxB x).map U8) (by simp only[maxLen,List.length_append,zam];omega) (by simp only[List.length_append,zam];show(_+_)*1<=_;omega) (by simp only[ctxB,List.length_append,List.length_cons,List.length_nil]) (by simp only[ctxB,List.map_append];rfl) ?_
 exact cr
theorem zk7(s:List UInt8)(label:ByteArray)(ctx:List UInt8)(n:Nat)(hn:1<=n/\n<=32)(hs:s.length<=1000000000)(hl:label.size<=1048576)(hc:ctx.length<=1048576):zab Tryz.prog 243 [bs s,Str label,bs ctx,I n] (.r (bs (labB s (sB label) ctx n))):=by
 refine zaa (T:=Tab) mixed Tab_ok Tryz.func243 rfl (by kernel_rfl) ?_
 refine ze (zqv s label ctx n hn hs hl hc) ?_
 exact cr
abbrev jnrS:ByteArray:=⟨#[106,111,105,110,101,114]⟩
abbrev epoS:ByteArray:=⟨#[101,112,111,99,104]⟩
abbrev wlcS:ByteArray:=⟨#[119,101,108,99,111,109,101]⟩
abbrev grpS:ByteArray:=⟨#[103,114,111,117,112]⟩
abbrev sndS:ByteArray:=⟨#[115,101,110,100,101,114,32,100,97,116,97]⟩
abbrev encS:ByteArray:=⟨#[101,110,99,114,121,112,116,105,111,110]⟩
abbrev expS:ByteArray:=⟨#[101,120,112,111,114,116,101,114]⟩
abbrev autS:ByteArray:=⟨#[97,117,116,104,101,110,116,105,99,97,116,105,111,110]⟩
abbrev xtlS:ByteArray:=⟨#[101,120,116,101,114,110,97,108]⟩
abbrev cfmS:ByteArray:=⟨#[99,111,110,102,105,114,109]⟩
abbrev mbrS:ByteArray:=⟨#[109,101,109,98,101,114,115,104,105,112]⟩
abbrev rsmS:ByteArray:=⟨#[114,101,115,117,109,112,116,105,111,110]⟩
abbrev iniS:ByteArray:=⟨#[105,110,105,116]⟩
structure SecP where
 jn:List UInt8
 wl:List UInt8
 ep:List UInt8
 sd:List UInt8
 en:List UInt8
 ex:List UInt8
 au:List UInt8
 xt:List UInt8
 cf:List UInt8
 mb:List UInt8
 rs:List UInt8
 it:List UInt8
abbrev SecP.c(s:SecP):List RV:=[bs s.jn,bs s.wl,bs s.ep,bs s.sd,bs s.en,bs s.ex,bs s.au,bs s.xt,bs s.cf,bs s.mb,bs s.rs,bs s.it]
def zkj(init commit ctx:List UInt8):List UInt8:=labB (macB init commit) (sB jnrS) ctx 32
theorem z0v(init commit:List UInt8)(x:CtxP)(hx:x.fit)(hs:x.group.length+x.tree.length+x.trans.length<=1000000)(hi:init.length<=1000000000)(hc:commit.length<=1000000000):zab Tryz.prog 131 [bs init,bs commit, .ag x.c] (.r (bs (zkj init commit (ctxB x)))):=by
 refine zaa (T:=Tab) mixed Tab_ok Tryz.func131 rfl (by kernel_rfl) ?_
 have hb:=ztt x
 have hm:=zdi init commit
 refine Vdraw.mk' (by kernel_rfl) ?_
 refine ze (zic init commit (by omega) (by omega)) ?_
 refine za rfl rfl ?_
 refine ze (zxz x hx) ?_
 refine ze (zk7 (macB init commit) jnrS (ctxB x) 32 (by omega) (by omega) (by decide) (by omega)) ?_
 exact cr
abbrev At(b off:Nat):RV:= .x (.pointer (some ⟨b,off,none⟩))
abbrev tabR(b:Nat):List RV:=[Str sndS,At b 3,Str encS,At b 4,Str expS,At b 5,Str autS,At b 6,Str xtlS,At b 7,Str cfmS,At b 8,Str mbrS,At b 9,Str rsmS,At b 10,Str iniS,At b 11]
set_option maxRecDepth 20000 in
set_option maxHeartbeats 4000000 in
theorem z4t(b:Nat):zab Tryz.prog 244 [At b 0] (.r (.sl 2 9 (tabR b))):=by
 refine zaa (T:=Tab) mixed Tab_ok Tryz.func244 rfl (by kernel_rfl) ?_
 refine Vdraw.mk' (by kernel_rfl) ?_
 refine zw ?_
 exact cr
def secE(jn wl ep:List UInt8):SecP:=⟨jn,wl,ep,labB ep (sB sndS) [] 32,labB ep (sB encS) [] 32,labB ep (sB expS) [] 32,labB ep (sB autS) [] 32,labB ep (sB xtlS) [] 32,labB ep (sB cfmS) [] 32,labB ep (sB mbrS) [] 32,labB ep (sB rsmS) [] 32,labB ep (sB iniS) [] 32⟩
def z32:List UInt8:=List.replicate 32 0
def schS(joiner ctx:List UInt8):SecP:=secE joiner (labB (macB joiner z32) (sB wlcS) [] 32) (labB (macB joiner z32) (sB epoS) ctx 32)
abbrev nl12:List TF:=[.r nl, .r nl, .r nl, .r nl, .r nl, .r nl, .r nl, .r nl, .r nl, .r nl, .r nl, .r nl]
def z6s(jn wl ep:List UInt8)(j:Nat):List TF:=[.r (bs jn), .r (bs wl), .r (bs ep)]++((((secE jn wl ep).c.drop 3).take j).map TF.r++List.replicate (9-j) (.r nl))
set_option maxHeartbeats 4000000 in
theorem z4h(joiner m wl ep z cx:List UInt8)(x:CtxP)(hj:joiner.length<=1000000000)(hz:32=z.length)(hzm:(List.replicate ((32:Int).toNat) ([Value.int .u8 0].map ofC)).flatten=z.map U8)(hep:ep.length=32)
  (c1:zab Tryz.prog 242 [bs joiner,bs z] (bch m)) (c2:zab Tryz.prog 55 [bs m,Str wlcS] (.r (bs wl)))
  (c3:zab Tryz.prog 183 [.ag x.c] (.r (bs cx))) (c4:zab Tryz.prog 243 [bs m,Str epoS,bs cx,I 32] (.r (bs ep))):
  zab Tryz.prog 130 [bs joiner, .ag x.c] (.r (.ag (secE joiner wl ep).c)):=by
 refine zaa (T:=Tab) mixed Tab_ok Tryz.func130 rfl (by kernel_rfl) ?_
 refine⟨rfl,by decide,by decide,by decide,z.length,z.map U8,hz,hzm,zw ?_⟩
 refine ze c1 ?_
 refine ze (zbw joiner (by omega)) ?_
 refine ze c2 ?_
 refine za rfl rfl ?_
 refine ze c3 ?_
 refine ze c4 ?_
 refine Vstep.nmB 5 1000000 rfl λb=>Vstep.callX (tn:=1000000) rfl rfl rfl (z4t b) ?_
 refine zy (λj:Nat=>⟨[(4, .own 1),(6, .own 5),(22, .r (.sl 2 9 (tabR b))),(23, .r (I 9)),(24, .r (I j)),(1000000, .nm 5 (.pointer (some ⟨b,0,none⟩)))],[(1,some (.box nl12)),(5,some (.box (z6s joiner wl ep j)))],6⟩) (λj=>j<=9) (λj=>9-j) 0 (by omega) (zad [(1,1),(5,5)] rfl (by repeat' (first |exact rfl |exact trivial |exact cr |exact Cv.nil _ |exact⟨rfl,rfl⟩ |refine⟨_,_,rfl,?_,?_⟩ |refine⟨?_,?_⟩)) (by repeat' (first |exact rfl |exact trivial |exact cr |exact Cv.nil _ |exact⟨rfl,rfl⟩ |refine⟨_,_,rfl,?_,?_⟩ |refine⟨?_,?_⟩))) ?_
 intro j hj
 rcases(by omega:j<9\/j=9)with hlt |rfl
 rotate_left
 ·refine zu rfl (zq ?_)
  refine za rfl rfl ?_
  refine za rfl rfl ?_
  exact cr
 obtain⟨k,hk⟩: ∃k,k=j+1:=⟨_,rfl⟩
 rcases(by omega:j=0\/j=1\/j=2\/j=3\/j=4\/j=5\/j=6\/j=7\/j=8)with rfl |rfl |rfl |rfl |rfl |rfl |rfl |rfl |rfl
 all_goals
  refine zt rfl (zp ?_)
  refine zm (by decide) (by decide) rfl ?_
  refine za rfl rfl ?_
  refine Vdraw.mk' (by kernel_rfl) ?_
  refine ze (zff ep _ (by omega) (by decide)) ?_
  refine Vstep.sub (zl4 (id:=5) (t:=35) (tn:=1000000) rfl rfl rfl) (Vstep.sto Tab_ok rfl ?_)
  refine zd (m:=(k:Int)) (by omega) (by omega) ?_
  exact⟨k,by omega,by omega,by subst hk;exact zad [(1,1),(5,5)] rfl (by repeat' (first |exact rfl |exact trivial |exact cr |exact Cv.nil _ |exact⟨rfl,rfl⟩ |refine⟨_,_,rfl,?_,?_⟩ |refine⟨?_,?_⟩)) (by repeat' (first |exact rfl |exact trivial |exact cr |exact Cv.nil _ |exact⟨rfl,rfl⟩ |refine⟨_,_,rfl,?_,?_⟩ |refine⟨?_,?_⟩))⟩
theorem z9l(joiner:List UInt8)(x:CtxP)(hx:x.fit)(hs:x.group.length+x.tree.length+x.trans.length<=1000000)(hj:joiner.length<=1000000000):zab Tryz.prog 130 [bs joiner, .ag x.c] (.r (.ag (schS joiner (ctxB x)).c)):=by
 have hb:=ztt x
 have hm:=zdi joiner z32
 have c1:=zic joiner z32 hj (by decide)
 have c2:=zff (macB joiner z32) wlcS (by omega) (by decide)
 have c3:=zxz x hx
 have c4:=zk7 (macB joiner z32) epoS (ctxB x) 32 (by omega) (by omega) (by decide) (by omega)
 have h1:=zct (macB joiner z32) (sB epoS) (ctxB x) (n:=32) (by omega)
 exact z4h joiner _ _ _ z32 _ x hj rfl zs32 h1 c1 c2 c3 c4
theorem z4q(init commit:List UInt8)(x:CtxP)(hx:x.fit)(hs:x.group.length+x.tree.length+x.trans.length<=1000000)(hi:init.length<=1000000000)(hc:commit.length<=1000000000):zab Tryz.prog 54 [bs init,bs commit, .ag x.c] (.r (.ag (schS (zkj init commit (ctxB x)) (ctxB x)).c)):=by
 refine zaa (T:=Tab) mixed Tab_ok Tryz.func54 rfl (by kernel_rfl) ?_
 have hj:=zct (macB init commit) (sB jnrS) (ctxB x) (n:=32) (by omega)
 have c2:=z9l (zkj init commit (ctxB x)) x hx hs (by unfold zkj;omega)
 refine Vdraw.mk' (by kernel_rfl) ?_
 refine za rfl rfl ?_
 refine ze (z0v init commit x hx hs hi hc) ?_
 refine za rfl rfl ?_
 refine ze c2 ?_
 generalize schS (zkj init commit (ctxB x)) (ctxB x)=s
 refine za rfl rfl ?_
 exact cr
theorem z7p(s:SecP)(l:List UInt8)(h1:s.cf.length<=1000000)(h2:l.length<=1000000):zab Tryz.prog 57 [.ag s.c,bs l] (.r (bs (macB s.cf l))):=by
 refine zaa (T:=Tab) mixed Tab_ok Tryz.func57 rfl (by kernel_rfl) ?_
 have h:=zvk s.cf [l] (by omega) (by simp;omega)
 have e:([l]:List (List UInt8)).flatMap id=l:=by simp
 rw[e]at h
 refine zw ?_
 refine ze h ?_
 exact cr
def intB(c t:List UInt8):List UInt8:=shaB (c++vecB t)
theorem zvy(c t:List UInt8)(h1:c.length<=1000000)(h2:t.length<=1000000):zab Tryz.prog 49 [bs c,bs t] (.r (bs (intB c t))):=by
 refine zaa (T:=Tab) mixed Tab_ok Tryz.func49 rfl (by kernel_rfl) ?_
 have hv:=zaj t
 have h:=zmr [c,vecB t] (by simp;omega)
 have e:([c,vecB t]:List (List UInt8)).flatMap id=c++vecB t:=by simp
 rw[e]at h
 refine Vcall.mk' (za7 [] t (by simp) (by omega)) (zk (Cv.nil 1) (zn _)) ?_
 rw[List.nil_append]
 refine zw ?_
 refine ze h ?_
 exact cr
end
section
theorem zfu{S:St}{id i im gh:Nat}{m:Value}{ents:List (Int×RV)}{cells:List TF}(ho:oget S.O im=some (.gen (mapO ents)))(hgh:fget S.F gh=some (.nm im m))(hb:oget S.O id=some (.box cells))(hc:cells[i]?=some (.r (.x m)))(hne:id≠im):
  Sub S ⟨S.F,(id,some (.box (cells.set i (.r (.s (mapS ents))))))::(im,none)::S.O,S.nx⟩:=by
 intro B N a w k h0
 obtain⟨k',⟨g,hs⟩,hat,_⟩:=zth ho hgh h0
 have hid:oget ((im,none)::S.O) id=some (.box cells):=by
  simp only[oget]
  split
  ·rename_i hb;exact absurd (Nat.eq_of_beq_eq_true hb).symm hne
  ·exact hb
 have old: ∀x ox,oget ((id,some (Ow.box (cells.set i (.r (.s (mapS ents))))))::(im,none)::S.O) x=some ox->∃ox',oget ((im,none)::S.O) x=some ox':=λx ox hx=>by
  rcases zal hx with⟨rfl,_⟩ |⟨_,h'⟩
  ·exact⟨_,hid⟩
  ·exact⟨_,h'⟩
 refine⟨k',g,hs.size,hs.defers,hs.keep,hs.kk,hs.facts,λj o' ho'=>?_,λx y ox oy b hx hy hne hb=>?_⟩
 ·rcases zal ho' with⟨rfl,e'⟩ |⟨_,h'⟩
  ·cases e'
   obtain⟨q1,q2,q3,q4⟩:=hs.owns _ _ hid
   refine⟨q1,λf hf=>?_,?_,q4⟩
   ·rcases List.mem_or_eq_of_mem_set hf with hf |rfl
    ·exact q2 f hf
    ·exact True.intro
   ·obtain⟨b,cur,t,e1,e2,e3,e4,e5⟩:=q3
    refine⟨b,cur,t,e1,e2,e3,by simpa using e4,λj f u hf hu=>?_⟩
    rw[List.getElem?_set]at hf
    split at hf
    ·rename_i hij
     subst hij
     split at hf
     ·cases hf
      obtain⟨u1,u2⟩:=e5 i _ u hc hu
      simp only[TF.at_,RV.at_]at u2
      refine⟨u1,?_⟩
      simp only[TF.at_]
      rw[u2]
      exact hat
     ·cases hf
    ·exact e5 j f u hf hu
  ·exact hs.owns j o' h'
 ·obtain⟨ox',hx'⟩:=old x ox hx
  obtain⟨oy',hy'⟩:=old y oy hy
  exact hs.apart x y ox' oy' b hx' hy' hne hb
abbrev zy4:RV:= .ag [I 0,I 0, .x (.map none), .x (.map none)]
end
section
def zcv(a:Int):List Int->Int
 |[]=>a
 |x::r=>zcv x r
def ascL(a:Int):List Int->Bool
 |[]=>true
 |x::r=>decide (a<x)&&ascL x r
theorem zij(x:Int): ∀(l:List Int) (a:Int),zcv a (l++[x])=x
 |[],a=>rfl
 |y::r,a=>by simp only[List.cons_append,zcv];exact zij x r y
theorem zfv(x:Int): ∀(l:List Int) (a:Int),ascL a (l++[x])=(ascL a l&&decide (zcv a l<x))
 |[],a=>by show(decide (a<x)&&true)=(true&&decide (a<x));rw[Bool.and_true,Bool.true_and]
 |y::r,a=>by show(decide (a<y)&&ascL y (r++[x]))=((decide (a<y)&&ascL y r)&&decide (zcv y r<x));rw[zfv x r y,Bool.and_assoc]
theorem zli: ∀(l m:List Int) (a:Int),ascL a (l++m)=(ascL a l&&ascL (zcv a l) m)
 |[],m,a=>by show ascL a m=(true&&ascL a m);rw[Bool.true_and]
 |y::r,m,a=>by show(decide (a<y)&&ascL y (r++m))=((decide (a<y)&&ascL y r)&&ascL (zcv y r) m);rw[zli r m y,Bool.and_assoc]
theorem zto: ∀(l:List Int) (a:Int),ascL a l=true->a<=zcv a l/\∀y∈l,a<y/\y<=zcv a l
 |[],a,_=>⟨Int.le_refl _,λy h=>by cases h⟩
 |x::r,a,h=>by
  simp only[ascL,Bool.and_eq_true,decide_eq_true_eq]at h
  obtain⟨h1,h2⟩:=zto r x h.2
  refine⟨by simp only[zcv];omega,λy hy=>?_⟩
  simp only[zcv]
  rcases List.mem_cons.1 hy with rfl |hy
  ·exact⟨h.1,h1⟩
  ·have:=h2 y hy
   exact⟨by omega,this.2⟩
theorem zqm{l:List Int}{a x:Int}(h:ascL a l=true)(hx:zcv a l<x):x∉l:=λhm=>by
 have:=((zto l a h).2 x hm).2
 omega
theorem zlu: ∀{ents:List (Int×RV)} {n:Int},n∉ents.map (·.1)->zb5 ents n=none
 |[],n,_=>rfl
 |(m,r)::l,n,h=>by
  simp only[List.map_cons,List.mem_cons,not_or]at h
  simp only[zb5]
  rw[if_neg (λe=>h.1 e.symm)]
  exact zlu h.2
theorem zej{α β:Type}(f:α->β){l:List α}{j:Nat}(h:j<l.length):(l.take (j+1)).map f=(l.take j).map f++[f l[j]]:=by
 rw[List.take_succ_eq_append_getElem h,List.map_append];rfl
def atsO(s:Lean_):List Int:=s.opn.map (·.at_)
def atsH(s:Lean_):List Int:=s.shut.map (·.at_)
def ascS(s:Lean_):Bool:=ascL (-1) (atsO s)&&ascL (-1) (atsH s)
def lean0:Lean_:=⟨0,0,[],[]⟩
def pieS(s:Lean_):Lean_:=if ascS s=true then s else lean0
abbrev Lean_.pr(s:Lean_):RV:=zrz s.leaves s.own s.opn s.shut
theorem zy5:Cv zy4 lean0.pr:=Cv.ag (zk (cr) (zk (cr) (zk (λw k v h=>by simp only[RV.at_]at h⊢;exact .inl ⟨h,rfl⟩) (zk (λw k v h=>by simp only[RV.at_]at h⊢;exact .inl ⟨h,rfl⟩) Cvs.nil))))
structure Lean_.bd (s:Lean_):Prop where
 nl:i64 s.leaves
 no:i64 s.own
 lo:s.opn.length<=1000000
 lh:s.shut.length<=1000000
 ao: ∀x∈s.opn,i64 x.at_
 ah: ∀x∈s.shut,i64 x.at_
 fo: ∀x∈s.opn,x.node.fit
 fh: ∀x∈s.shut,x.hash.length<=1000000000
abbrev pmO(b1 b2:Nat)(s:Lean_)(j i:Nat):List (Nat×Option Ow):=[(0,some (.box (s.c.map .r))),(1,some (.box [.r (I 0), .r (I 0), .r (.x (.map none)), .r (.x (.map none))])),(2,some (.gen (mapO (zbg (s.opn.take j))))),(3,some (.gen (mapO (zbj (s.shut.take i))))),(4,some (.box [.r (I s.leaves), .r (I s.own), .r (.x (.map (some b1))), .r (.x (.map (some b2)))]))]
set_option maxHeartbeats 4000000 in
theorem zxm(s:Lean_)(hb:s.bd):zab Tryz.prog 200 [.ag s.c] (.r (.tu [(pieS s).pr, .b (ascS s)])):=by
 refine zax (T:=Tab) mixed Tab_ok Tryz.func200 rfl (by kernel_rfl) ?_
 have hlo:=hb.lo
 have hlh:=hb.lh
 have bad:ascS s=false->Cv (.tu [zy4, .b false]) (.tu [(pieS s).pr, .b (ascS s)]):=λh=>by
  have:pieS s=lean0:=by unfold pieS;rw[h];simp
  rw[this,h]
  exact Cv.tu (zk zy5 (zn _))
 refine Vcode.run Tab_ok ?_
 refine Vstep.mapMk 2000001 rfl λb1=>?_
 refine Vstep.mapMk 2000002 rfl λb2=>?_
 refine Vloop.mkx (λj:Nat=>⟨[(1, .own 0),(2, .own 1),(4, .own 4),(5, .r (I (zcv (-1) ((s.opn.take j).map (·.at_))))),(18, .r (z3g s.opn)),(19, .r (I s.opn.length)),(20, .r (I j)),(2000001, .nm 2 (.map (some b1))),(2000002, .nm 3 (.map (some b2)))],pmO b1 b2 s j 0,5⟩) (λj=>j<=s.opn.length/\ascL (-1) ((s.opn.take j).map (·.at_))=true) (λj=>s.opn.length-j) 0 ⟨by omega,rfl⟩ (zad [(0,0),(1,1),(2,2),(3,3),(4,4)] rfl ⟨rfl,rfl,rfl,cr,cr,cr,cr,⟨rfl,rfl⟩,⟨rfl,rfl⟩,trivial⟩ ⟨⟨_,_,rfl,cr,_,_,rfl,cr,_,_,rfl,cr,_,_,rfl,cr,rfl⟩,⟨_,_,rfl,cr,_,_,rfl,cr,_,_,rfl,cr,_,_,rfl,cr,rfl⟩,λ_ _ _ hh=>hh,λ_ _ _ hh=>hh,⟨_,_,rfl,cr,_,_,rfl,cr,_,_,rfl,cr,_,_,rfl,cr,rfl⟩,trivial⟩) ?_
 rintro j ⟨hj,hasc⟩
 refine zh (λh=>zp ?_) (λh=>zq ?_)
 ·simp only[zb]at h
  have hj':j<s.opn.length:=by omega
  have hai:=hb.ao s.opn[j] (List.getElem_mem hj')
  have hsn:=zej Spot.at_ hj'
  refine zm (by omega) (by omega) (zlp (f:=Spot.c) (λ_=>rfl) rfl hj') ?_
  refine za rfl rfl ?_
  refine zh (λh2=>zp ?_) (λh2=>zq ?_)
  ·simp only[zb]at h2
   refine⟨_,zo _,?_⟩
   refine⟨_,zo _,?_⟩
   refine za rfl rfl ?_
   have hf:ascS s=false:=by
    have e:atsO s=((s.opn.take (j+1)).map (·.at_))++(s.opn.drop (j+1)).map (·.at_):=by unfold atsO;rw[<-List.map_append,List.take_append_drop]
    have h3:decide (zcv (-1) ((s.opn.take j).map (·.at_))<s.opn[j].at_)=false:=decide_eq_false (by omega)
    unfold ascS
    rw[e,zli,hsn,zfv,h3]
    simp
   exact⟨_,rfl,bad hf⟩
  ·simp only[zb]at h2
   have hlt:zcv (-1) ((s.opn.take j).map (·.at_))<s.opn[j].at_:=by omega
   refine za rfl rfl ?_
   have hk:(zbg (s.opn.take j)).map (·.1)=(s.opn.take j).map (·.at_):=zio _
   refine Vstep.mapPut 2 2000001 rfl rfl rfl rfl rfl rfl rfl zh2 zi1 (zlu (by rw[hk];exact zqm hasc hlt)) ?_
   refine zd (m:=((j+1:Nat):Int)) (by omega) (by omega) ?_
   have hsN:zbg (s.opn.take (j+1))=zbg (s.opn.take j)++[(s.opn[j].at_, .ag s.opn[j].node.c)]:=zej _ hj'
   refine⟨j+1,⟨by omega,by rw[hsn,zfv,hasc,decide_eq_true hlt];rfl⟩,by omega,zad [(0,0),(1,1),(2,2),(3,3),(4,4)] rfl ⟨rfl,rfl,rfl,zf (by rw[hsn,zij]),cr,cr,cr,⟨rfl,rfl⟩,⟨rfl,rfl⟩,trivial⟩ ⟨⟨_,_,rfl,cr,_,_,rfl,cr,_,_,rfl,cr,_,_,rfl,cr,rfl⟩,⟨_,_,rfl,cr,_,_,rfl,cr,_,_,rfl,cr,_,_,rfl,cr,rfl⟩,λ_ _ _ hh=>by rw[hsN];exact hh,λ_ _ _ hh=>hh,⟨_,_,rfl,cr,_,_,rfl,cr,_,_,rfl,cr,_,_,rfl,cr,rfl⟩,trivial⟩⟩
 simp only[zb]at h
 rw[List.take_of_length_le (by omega)]at hasc
 refine⟨_,zo _,?_⟩
 refine Vloop.mkx (λi:Nat=>⟨[(1, .own 0),(2, .own 1),(4, .own 4),(5, .r (I (zcv (-1) ((s.shut.take i).map (·.at_))))),(39, .r (z3h s.shut)),(40, .r (I s.shut.length)),(41, .r (I i)),(2000001, .nm 2 (.map (some b1))),(2000002, .nm 3 (.map (some b2)))],pmO b1 b2 s s.opn.length i,5⟩) (λi=>i<=s.shut.length/\ascL (-1) ((s.shut.take i).map (·.at_))=true) (λi=>s.shut.length-i) 0 ⟨by omega,rfl⟩ (zad [(0,0),(1,1),(2,2),(3,3),(4,4)] rfl ⟨rfl,rfl,rfl,cr,cr,cr,cr,⟨rfl,rfl⟩,⟨rfl,rfl⟩,trivial⟩ ⟨⟨_,_,rfl,cr,_,_,rfl,cr,_,_,rfl,cr,_,_,rfl,cr,rfl⟩,⟨_,_,rfl,cr,_,_,rfl,cr,_,_,rfl,cr,_,_,rfl,cr,rfl⟩,λ_ _ _ hh=>by rw[List.take_of_length_le (Nat.le_refl _)];rw[List.take_of_length_le (by omega)]at hh;exact hh,λ_ _ _ hh=>hh,⟨_,_,rfl,cr,_,_,rfl,cr,_,_,rfl,cr,_,_,rfl,cr,rfl⟩,trivial⟩) ?_
 clear h hj
 rintro i ⟨hi,hasc2⟩
 refine zh (λh=>zp ?_) (λh=>zq ?_)
 ·simp only[zb]at h
  have hi':i<s.shut.length:=by omega
  have hsn:=zej Stub.at_ hi'
  refine zm (by omega) (by omega) (zlp (f:=Stub.c) (λ_=>rfl) rfl hi') ?_
  refine za rfl rfl ?_
  refine zh (λh2=>zp ?_) (λh2=>zq ?_)
  ·simp only[zb]at h2
   refine⟨_,zo _,?_⟩
   refine⟨_,zo _,?_⟩
   refine za rfl rfl ?_
   have hf:ascS s=false:=by
    have e:atsH s=((s.shut.take (i+1)).map (·.at_))++(s.shut.drop (i+1)).map (·.at_):=by unfold atsH;rw[<-List.map_append,List.take_append_drop]
    have h3:decide (zcv (-1) ((s.shut.take i).map (·.at_))<s.shut[i].at_)=false:=decide_eq_false (by omega)
    unfold ascS
    rw[e,zli,hsn,zfv,h3]
    simp
   exact⟨_,rfl,bad hf⟩
  ·simp only[zb]at h2
   have hlt:zcv (-1) ((s.shut.take i).map (·.at_))<s.shut[i].at_:=by omega
   have hk:(zbj (s.shut.take i)).map (·.1)=(s.shut.take i).map (·.at_):=zig _
   refine Vstep.mapPut 3 2000002 rfl rfl rfl rfl rfl rfl rfl zl6 zi1 (zlu (by rw[hk];exact zqm hasc2 hlt)) ?_
   refine zd (m:=((i+1:Nat):Int)) (by omega) (by omega) ?_
   have hsN:zbj (s.shut.take (i+1))=zbj (s.shut.take i)++[(s.shut[i].at_,bs s.shut[i].hash)]:=zej _ hi'
   refine⟨i+1,⟨by omega,by rw[hsn,zfv,hasc2,decide_eq_true hlt];rfl⟩,by omega,zad [(0,0),(1,1),(2,2),(3,3),(4,4)] rfl ⟨rfl,rfl,rfl,zf (by rw[hsn,zij]),cr,cr,cr,⟨rfl,rfl⟩,⟨rfl,rfl⟩,trivial⟩ ⟨⟨_,_,rfl,cr,_,_,rfl,cr,_,_,rfl,cr,_,_,rfl,cr,rfl⟩,⟨_,_,rfl,cr,_,_,rfl,cr,_,_,rfl,cr,_,_,rfl,cr,rfl⟩,λ_ _ _ hh=>hh,λ_ _ _ hh=>by rw[hsN];exact hh,⟨_,_,rfl,cr,_,_,rfl,cr,_,_,rfl,cr,_,_,rfl,cr,rfl⟩,trivial⟩⟩
 simp only[zb]at h
 rw[List.take_of_length_le (by omega)]at hasc2
 refine⟨_,zo _,?_⟩
 refine za rfl rfl ?_
 have hT:ascS s=true:=by unfold ascS atsO atsH;rw[hasc,hasc2];rfl
 have hP:pieS s=s:=if_pos hT
 rw[hT,hP]
 refine⟨_,Sub.trans (zfu (id:=1) (i:=2) (im:=2) (gh:=2000001) rfl rfl rfl rfl (by decide)) (zfu (id:=1) (i:=3) (im:=3) (gh:=2000002) rfl rfl rfl rfl (by decide)),?_⟩
 refine za rfl rfl ?_
 exact⟨_,rfl,zf (by rw[List.take_of_length_le (Nat.le_refl _),List.take_of_length_le (by omega)];rfl)⟩
end
section
def sR(s:Lean_):Bool:=ascS s&&zdb s.leaves s.own s.opn s.shut false
theorem z5j{s:Lean_}(hb:s.bd):(pieS s).bd:=by
 unfold pieS
 split
 ·exact hb
 ·exact⟨(by unfold i64 lean0;decide),(by unfold i64 lean0;decide),(by decide),(by decide),λx h=>(by cases h),λx h=>(by cases h),λx h=>(by cases h),λx h=>(by cases h)⟩
set_option maxHeartbeats 1000000 in
theorem zxp(s:Lean_)(hb:s.bd):zab Tryz.prog 105 [.ag s.c] (.r (.tu [(pieS s).pr, .b (sR s)])):=by
 refine zaa (T:=Tab) mixed Tab_ok Tryz.func105 rfl (by kernel_rfl) ?_
 have hp:=z5j hb
 have e0:ascS s=false->sR s=false:=λh=>by unfold sR;rw[h];rfl
 have e1:ascS s=true->sR s=zdb (pieS s).leaves (pieS s).own (pieS s).opn (pieS s).shut false:=λh=>by unfold sR pieS;rw[h];rfl
 refine za rfl rfl ?_
 refine ze (zxm s hb) ?_
 obtain⟨β,hβ⟩: ∃β,β=ascS s:=⟨_,rfl⟩
 rw[<-hβ]at e0 e1⊢
 generalize pieS s=q at hp e1⊢
 cases β with
 |false=>
  rw[e0 rfl]
  refine Vdraw.mk' (by kernel_rfl) ?_
  refine za rfl rfl ?_
  refine za rfl rfl ?_
  exact⟨_,rfl,cr⟩
 |true=>
  rw[e1 rfl]
  refine Vdraw.mk' (by kernel_rfl) ?_
  refine za rfl rfl ?_
  refine za rfl rfl ?_
  refine ze (z0k q.leaves q.own hp.nl hp.no q.opn q.shut false hp.lo hp.lh hp.fo hp.ao hp.ah hp.fh) ?_
  refine za rfl rfl ?_
  exact⟨_,rfl,cr⟩
end
section
def zpr:Par:=⟨[],[],[]⟩
theorem z6l:zpr.fit:=⟨by decide,by decide,by decide,λy hy=>by cases hy⟩
end
section
def idxA{α:Type}(q:α->Bool):Nat->List α->Int
 |_,[]=> -1
 |j,x::r=>if q x then(j:Int)else idxA q (j+1) r
theorem zuc{α:Type}(q:α->Bool): ∀(l:List α) (j:Nat), -1<=idxA q j l/\idxA q j l< (j+l.length:Nat)/\(0<=idxA q j l↔l.any q=true)
 |[],j=>by simp[idxA];omega
 |x::r,j=>by
  have ih:=zuc q r (j+1)
  rw[idxA,List.any_cons,List.length_cons]
  by_cases hq:q x=true
  ·rw[if_pos hq,hq]
   exact⟨by omega,by omega,by simp⟩
  ·rw[if_neg hq,Bool.eq_false_iff.2 hq,Bool.false_or]
   exact⟨ih.1,by omega,ih.2.2⟩
theorem Cv.fn{P:Program}{α:Type}{f:FuncId}{arg:α->RV}{D:α->Prop}{q:α->Bool}(h: ∀x,D x->zab P f [arg x] (.r (.b (q x)))):Cv (.x (.func (.func f) #[] #[])) (.s (cloS P arg D q)):=λw k v hv=>by
 simp only[RV.at_]at hv⊢
 exact⟨f,[], #[],hv,rfl,h⟩
abbrev nodA(n:Node):RV:= .ag n.c
theorem zs1(l:List Node)(D:Node->Prop)(q:Node->Bool)(hl:l.length<=1000000000)(hD: ∀x∈l,D x):zab Tryz.prog 453 [nods l, .s (cloS Tryz.prog nodA D q)] (.r (I (idxA q 0 l))):=by
 refine zaa (T:=Tab) mixed Tab_ok Tryz.func453 rfl (by kernel_rfl) ?_
 refine zy (λj:Nat=>{F:=[(0, .r (nods l)),(1, .r (.s (cloS Tryz.prog nodA D q))),(7, .r (I l.length)),(8, .r (I j))],O:=[],nx:=0}) (λj=>j<=l.length/\idxA q 0 l=idxA q j (l.drop j)) (λj=>l.length-j) 0 ⟨by omega,by simp⟩ (zad [] rfl ⟨cr,cr,cr,cr,trivial⟩ trivial) ?_
 rintro j ⟨hj,he⟩
 refine zh (λh=>zp ?_) (λh=>zq ?_)
 ·simp only[zb]at h
  have hj':j<l.length:=by omega
  rw[List.drop_eq_getElem_cons hj']at he
  simp only[idxA]at he
  refine zm (by omega) (by omega) (zue rfl hj') ?_
  refine za rfl rfl ?_
  refine Vstep.cloB l[j] rfl rfl rfl rfl (cr) (hD _ (List.getElem_mem hj')) (λhq=>zp ?_) (λhq=>zq ?_)
  ·rw[hq]at he
   exact zf (by rw[he];simp)
  ·rw[hq]at he
   refine zd (m:=((j+1:Nat):Int)) (by omega) (by omega) ?_
   exact⟨j+1,⟨hj',by rw[he];simp⟩,by omega,zad [] rfl ⟨cr,cr,cr,cr,trivial⟩ trivial⟩
 ·simp only[zb]at h
  rw[List.drop_eq_nil_of_le (by omega)]at he
  exact zf (by rw[he];rfl)
theorem zn1(l:List Node)(D:Node->Prop)(q:Node->Bool)(hl:l.length<=1000000000)(hD: ∀x∈l,D x):zab Tryz.prog 341 [nods l, .s (cloS Tryz.prog nodA D q)] (.r (.b (l.any q))):=by
 refine zaa (T:=Tab) mixed Tab_ok Tryz.func341 rfl (by kernel_rfl) ?_
 refine ze (zs1 l D q hl hD) ?_
 exact Vcmp.mk' rfl (zf (congrArg RV.b (by rw[Bool.eq_iff_iff,decide_eq_true_eq];exact(zuc q l 0).2.2)))
def isLf(n:Node):Bool:=decide (n.kind.toNat=1)
theorem z0p(n:Node):zab Tryz.prog 342 [nodA n] (.r (.b (isLf n))):=by
 refine zaa (T:=Tab) mixed Tab_ok Tryz.func342 rfl (by kernel_rfl) ?_
 refine Vcmp.mk' (m:=isLf n) ?_ (cr)
 unfold isLf
 rw[Bool.eq_iff_iff]
 simp only[zb]
 omega
theorem z34(l:List Node)(hl:l.length<=1000000000):zab Tryz.prog 212 [nods l] (.r (.b (l.any isLf))):=by
 refine zaa (T:=Tab) mixed Tab_ok Tryz.func212 rfl (by kernel_rfl) ?_
 refine Vcall.mk' (zn1 l (λ_=>True) isLf hl λ_ _=>trivial) (zk (cr) (zk (Cv.fn λn _=>z0p n) Cvs.nil)) ?_
 exact cr
section
variable (lf:Leaf) (hlf:lf.fit) (hlr:lf.right=true)
abbrev L1(lf:Leaf):Node:=⟨1,lf,zpr⟩
theorem zev{lf:Leaf}(h:lf.fit):(L1 lf).fit:=⟨h,z6l⟩
theorem zlg{lf:Leaf}(h:lf.right=true):(L1 lf).right=true:=by
 show(if(1:UInt8).toNat=0 then _ else if(1:UInt8).toNat=1 then lf.right&&zpr.none else _)=true
 rw[if_neg (by decide),if_pos (by decide),h]
 rfl
theorem i00:(0:Int)<=0:=by decide
theorem i01:(0:Int)< ((1:Nat):Int):=by decide
theorem i2b: -9223372036854775808<=(2:Int)/\(2:Int)<=9223372036854775807:=by decide
theorem n1b:1<=1000000000:=by decide
theorem idx0:(([L1 lf].flatMap Node.c).drop ((0:Int).toNat*10)).take 10=(L1 lf).c:=zue (l:=[L1 lf]) (j:=0) rfl (Nat.succ_pos _)
theorem zji:zab Tryz.prog 210 [nods [L1 lf]] (.r (I 1)):=by
 refine zaa (T:=Tab) mixed Tab_ok Tryz.func210 rfl (by kernel_rfl) ?_
 refine zd (m:=2) rfl i2b ?_
 refine⟨by decide,1,by decide,?_⟩
 refine⟨by decide,1,rfl,?_⟩
 refine zu rfl ?_
 refine Vcall.bool (zxh 1) (λ_=>zu rfl (zq ?_)) (λh=>absurd h (by decide))
 exact cr
include hlf hlr in
theorem zx8:zab Tryz.prog 211 [nods [L1 lf]] (.r (.b true)):=by
 refine zaa (T:=Tab) mixed Tab_ok Tryz.func211 rfl (by kernel_rfl) ?_
 have hb:=zid (L1 lf) (zev hlf)
 rw[if_pos (zlg hlr)]at hb
 generalize zcb (L1 lf)=q at hb
 refine Vloop.rounds 2 ?_
 refine Vrounds.step mixed Tab_ok ?_
 refine zt rfl (zp ?_)
 refine zm i00 i01 (idx0 lf) ?_
 refine za rfl rfl ?_
 refine⟨by decide,0,by decide,?_⟩
 refine zu rfl (zq ?_)
 refine zu rfl (zq ?_)
 refine za rfl rfl ?_
 refine ze hb ?_
 refine zu rfl (zq ?_)
 refine zd (m:=1) rfl (by decide) ?_
 refine Vrounds.step mixed Tab_ok ?_
 refine zu rfl (zq ?_)
 exact cr
theorem z4f:zab Tryz.prog 213 [nods [L1 lf],I 0] (.r (.b true)):=by
 refine zaa (T:=Tab) mixed Tab_ok Tryz.func213 rfl (by kernel_rfl) ?_
 refine ze (zji lf) ?_
 refine zm i00 i01 (idx0 lf) ?_
 refine zg rfl ?_
 refine Vloop.rounds 1 ?_
 refine Vrounds.step mixed Tab_ok ?_
 refine zu rfl (zq ?_)
 exact cr
include hlf hlr in
theorem zq8:zab Tryz.prog 111 [nods [L1 lf]] (.r (.b true)):=by
 refine zaa (T:=Tab) mixed Tab_ok Tryz.func111 rfl (by kernel_rfl) ?_
 have hs:=z34 [L1 lf] n1b
 have e:[L1 lf].any isLf=true:=rfl
 rw[e]at hs
 refine ze (zji lf) ?_
 refine zu rfl ?_
 refine ze (zx8 lf hlf hlr) ?_
 refine zu rfl ?_
 refine zt rfl ?_
 refine ze hs ?_
 refine zu rfl ?_
 refine zu rfl (zq ?_)
 refine Vloop.rounds 2 ?_
 refine Vrounds.step mixed Tab_ok ?_
 refine zt rfl (zp ?_)
 refine ze (z4f lf) ?_
 refine zu rfl (zq ?_)
 refine zd (m:=1) rfl (by decide) ?_
 refine Vrounds.step mixed Tab_ok ?_
 refine zu rfl (zq ?_)
 exact cr
include hlf in
theorem zt2:zab Tryz.prog 163 [nods [L1 lf]] (.r (nods [L1 lf])):=by
 refine zaa (T:=Tab) mixed Tab_ok Tryz.func163 rfl (by kernel_rfl) ?_
 refine Vloop.rounds 2 ?_
 refine Vrounds.step mixed Tab_ok ?_
 refine zt rfl (zp ?_)
 refine zm i00 i01 (idx0 lf) ?_
 refine za rfl rfl ?_
 refine za rfl rfl ?_
 refine ze (zn2 (L1 lf) (zev hlf) (zdf _ hlf)) ?_
 refine zw ?_
 refine Vapp.mk' (j:=1) (zs:=(L1 lf).c) (by decide) (by decide) rfl rfl ?_
 refine zd (m:=1) rfl (by decide) ?_
 refine Vrounds.step mixed Tab_ok ?_
 refine zu rfl (zq ?_)
 exact cr
end
end
section
structure SecP.sm (s:SecP):Prop where
 jn:s.jn.length<=1000000
 wl:s.wl.length<=1000000
 ep:s.ep.length<=1000000
 sd:s.sd.length<=1000000
 en:s.en.length<=1000000
 ex:s.ex.length<=1000000
 au:s.au.length<=1000000
 xt:s.xt.length<=1000000
 cf:s.cf.length<=1000000
 mb:s.mb.length<=1000000
 rs:s.rs.length<=1000000
 it:s.it.length<=1000000
set_option maxHeartbeats 2000000 in
theorem zxw(s:SecP)(hs:s.sm):zab Tryz.prog 284 [.ag s.c] (.r (.ag s.c)):=by
 refine zaa (T:=Tab) mixed Tab_ok Tryz.func284 rfl (by kernel_rfl) ?_
 obtain⟨h1,h2,h3,h4,h5,h6,h7,h8,h9,h10,h11,h12⟩:=hs
 refine Vstep.bsl (adrs 0 [0,1,2,3,4,5,6,7,8,9,10,11]) Tab_ok rfl rfl rfl rfl rfl rfl (by decide) (by repeat' (first |exact rfl |refine⟨_,_,_,rfl,rfl,rfl,?_⟩)) ?_
 refine zy (λj:Nat=>⟨[(1, .own 0),(2, .own 1),(17, .cut 2 0 12),(18, .r (I 12)),(19, .r (I j))],[(0,some (.box (s.c.map TF.r))),(1,some (.box nl12)),(2,some (.box (adrs 0 [0,1,2,3,4,5,6,7,8,9,10,11])))],3⟩) (λj=>j<=12) (λj=>12-j) 0 (by omega) (zad [(0,0),(1,1),(2,2)] rfl (by repeat' (first |exact rfl |exact trivial |exact cr |exact Cv.nil _ |exact⟨rfl,rfl⟩ |refine⟨_,_,rfl,?_,?_⟩ |refine⟨?_,?_⟩)) (by repeat' (first |exact rfl |exact trivial |exact cr |exact Cv.nil _ |exact⟨rfl,rfl⟩ |refine⟨_,_,rfl,?_,?_⟩ |refine⟨?_,?_⟩))) ?_
 intro j hj
 rcases(by omega:j<12\/j=12)with hlt |rfl
 rotate_left
 ·refine zu rfl (zq ?_)
  refine za rfl rfl ?_
  refine za rfl rfl ?_
  exact cr
 obtain⟨k,hk⟩: ∃k,k=j+1:=⟨_,rfl⟩
 rcases(by omega:j=0\/j=1\/j=2\/j=3\/j=4\/j=5\/j=6\/j=7\/j=8\/j=9\/j=10\/j=11)with rfl |rfl |rfl |rfl |rfl |rfl |rfl |rfl |rfl |rfl |rfl |rfl
 all_goals
  refine zt rfl (zp ?_)
  refine Vadr.mk' _ rfl (by decide) ?_
  refine ze (zbw _ (by omega)) ?_
  refine zd (m:=(k:Int)) (by omega) (by omega) ?_
  exact⟨k,by omega,by omega,by subst hk;exact zad [(0,0),(1,1),(2,2)] rfl (by repeat' (first |exact rfl |exact trivial |exact cr |exact Cv.nil _ |exact⟨rfl,rfl⟩ |refine⟨_,_,rfl,?_,?_⟩ |refine⟨?_,?_⟩)) (by repeat' (first |exact rfl |exact trivial |exact cr |exact Cv.nil _ |exact⟨rfl,rfl⟩ |refine⟨_,_,rfl,?_,?_⟩ |refine⟨?_,?_⟩))⟩
theorem zs3(x:KeyP)(hx:x.key.length<=1000000):zab Tryz.prog 181 [keyR [x]] (.r (keyR [x])):=by
 refine zaa (T:=Tab) mixed Tab_ok Tryz.func181 rfl (by kernel_rfl) ?_
 refine Vloop.rounds 2 ?_
 refine Vrounds.step mixed Tab_ok ?_
 refine zt rfl (zp ?_)
 refine zm i00 i01 rfl ?_
 refine za rfl rfl ?_
 refine Vdraw.mk' (by kernel_rfl) ?_
 refine ze (zbw _ (by omega)) ?_
 refine zw ?_
 refine Vapp.mk' (j:=1) (zs:=x.c) (by decide) (by decide) rfl rfl ?_
 refine zd (m:=1) rfl (by decide) ?_
 refine Vrounds.step mixed Tab_ok ?_
 refine zu rfl (zq ?_)
 exact cr
structure ViewP where
 ctx:CtxP
 own:Int
 interim:List UInt8
 tag:List UInt8
 sec:SecP
 key:KeyP
abbrev ViewP.c(v:ViewP):List RV:=[bs v.ctx.group, .i .u64 v.ctx.epoch,bs v.ctx.tree,bs v.ctx.trans,I v.own,bs v.interim,bs v.tag,bs v.sec.jn,bs v.sec.wl,bs v.sec.ep,bs v.sec.sd,bs v.sec.en,bs v.sec.ex,bs v.sec.au,bs v.sec.xt,bs v.sec.cf,bs v.sec.mb,bs v.sec.rs,bs v.sec.it,keyR [v.key]]
structure ViewP.sm (v:ViewP):Prop where
 group:v.ctx.group.length<=1000000
 tree:v.ctx.tree.length<=1000000
 trans:v.ctx.trans.length<=1000000
 interim:v.interim.length<=1000000
 tag:v.tag.length<=1000000
 sec:v.sec.sm
 key:v.key.key.length<=1000000
abbrev nl20:List TF:=[.r nl, .r (.i .u64 0), .r nl, .r nl, .r (I 0), .r nl, .r nl, .r nl, .r nl, .r nl, .r nl, .r nl, .r nl, .r nl, .r nl, .r nl, .r nl, .r nl, .r nl, .r nl]
set_option maxHeartbeats 2000000 in
theorem zvm(v:ViewP)(hv:v.sm):zab Tryz.prog 162 [.ag v.c] (.r (.ag v.c)):=by
 refine zaa (T:=Tab) mixed Tab_ok Tryz.func162 rfl (by kernel_rfl) ?_
 obtain⟨h1,h2,h3,h4,h5,h6,h7⟩:=hv
 have cs:=zxw v.sec h6
 have ck:=zs3 v.key h7
 refine Vdraw.code0 (Vcode.nmB 0 1000000 rfl λb=>Vcode.subp mixed Tab_ok ((z52 (id:=0) (t:=3) (tn:=1000000) (b:=b) rfl rfl rfl).trans (z54 (id:=0) (t:=1) (tn:=1000000) rfl rfl)) ?_)
 refine Vdraw.mk' (by kernel_rfl) ?_
 refine zw ?_
 refine zy (λj:Nat=>⟨[(1, .own 0),(2, .own 1),(18, .r (.sl 1 5 [At b 0,At b 2,At b 3,At b 5,At b 6])),(19, .r (I 5)),(20, .r (I j)),(1000000, .nm 0 (.pointer (some ⟨b,0,none⟩)))],[(0,some (.box (v.c.map TF.r))),(1,some (.box nl20))],2⟩) (λj=>j<=5) (λj=>5-j) 0 (by omega) ((z18 (id:=0) (t:=1) (tn:=1000000) rfl rfl).trans (zad [(0,0),(1,1)] rfl (by repeat' (first |exact rfl |exact trivial |exact cr |exact Cv.nil _ |exact⟨rfl,rfl⟩ |refine⟨_,_,rfl,?_,?_⟩ |refine⟨?_,?_⟩)) (by repeat' (first |exact rfl |exact trivial |exact cr |exact Cv.nil _ |exact⟨rfl,rfl⟩ |refine⟨_,_,rfl,?_,?_⟩ |refine⟨?_,?_⟩)))) ?_
 intro j hj
 rcases(by omega:j<5\/j=5)with hlt |rfl
 rotate_left
 ·refine zu rfl (zq ?_)
  refine Vdraw.mk' (by kernel_rfl) ?_
  refine za rfl rfl ?_
  refine ze cs ?_
  refine ze ck ?_
  refine za rfl rfl ?_
  refine za rfl rfl ?_
  exact cr
 obtain⟨k,hk⟩: ∃k,k=j+1:=⟨_,rfl⟩
 rcases(by omega:j=0\/j=1\/j=2\/j=3\/j=4)with rfl |rfl |rfl |rfl |rfl
 all_goals
  refine zt rfl (zp ?_)
  refine zm (by decide) (by decide) rfl ?_
  refine zg rfl ?_
  refine Vstep.sub (zl4 (id:=0) (t:=26) (tn:=1000000) rfl rfl rfl) (Vstep.val Tab_ok ?_)
  refine ze (zbw _ (by omega)) ?_
  refine Vstep.sub (zl4 (id:=0) (t:=29) (tn:=1000000) rfl rfl rfl) (Vstep.sto Tab_ok rfl ?_)
  refine zd (m:=(k:Int)) (by omega) (by omega) ?_
  exact⟨k,by omega,by omega,by subst hk;exact zad [(0,0),(1,1)] rfl (by repeat' (first |exact rfl |exact trivial |exact cr |exact Cv.nil _ |exact⟨rfl,rfl⟩ |refine⟨_,_,rfl,?_,?_⟩ |refine⟨?_,?_⟩)) (by repeat' (first |exact rfl |exact trivial |exact cr |exact Cv.nil _ |exact⟨rfl,rfl⟩ |refine⟨_,_,rfl,?_,?_⟩ |refine⟨?_,?_⟩))⟩
end
section
section
variable {P:Program} {T:TT} {B:Bs} {N:Nat} {S:St} {a:Act} {w:World} {k:Kp} {g:Env} {o:Oper}
def zqj(P:Program)(f:FuncId)(args cells rest:List RV):Prop:=
 zh3 P f/\∀w k vs,RV.partsAt w k args vs->Calls P f vs.toArray w λe w'=>∃v us,e= .returned (.tuple (v::us).toArray)/\Ext w w'/\∃k':Kp,(∀b,b<w.heap.size->k' b=k b)/\(Res.bx cells).at_ w.heap.size w' k' v/\RV.partsAt w' k' rest us
def z3a(S:St)(cells:List RV):TF->Prop
 | .own id=>oget S.O id=some (.box (cells.map .r))
 |_=>False
def retB(T:TT)(results:List ResultVar)(cells rest:List RV)(S:St):Prop:=
 match results with
 |x::y::xs=>resv T S x (z3a S cells)/\zkr T S (y::xs) λrs=>Cvs rs rest
 |_=>False
theorem z3x{X0:World}{X1:Kp}(hs:SatE ⟨X0,X1,[],[]⟩ N S a w k g){id:Nat}{cells:List RV}{v:Value}(ho:oget S.O id=some (.box (cells.map .r)))(hv:v=(g id).1):(Res.bx cells).at_ X0.heap.size w k v:=by
 obtain⟨q1,q2,q3,q4⟩:=hs.owns id _ ho
 simp only[Ow.at_]at q3
 obtain⟨b,cur,t,e,hh,hkb,hsz,hc⟩:=q3
 rw[e]at hv q4
 refine⟨b,cur,t,hv,?_,hh,hkb,by simpa using hsz,λj f u hf hu=>?_⟩
 ·rcases(q4 b rfl).1 with h |h
  ·exact h
  ·simp at h
 ·exact hc j (.r f) u (by rw[List.getElem?_map,hf];rfl) hu
theorem zpq{f:FuncId}{fn:Func}{args cells rest:List RV}{c:Code}(hm:P.follows .mixedOrders=true)(hT:TOk P T)(hf:P.funcs[f]?=some fn)(hb:fn.body=some c)
  (hk:(Nat.ble args.length fn.ntmps&&(zaw fn.ntmps c&& !(fn.name== "runtime.NumGoroutine")))=true)
  (h:vcg P T c (St.args args) λe S=>(e= .ret\/e= .normal)/\∃S',Sub S S'/\retB T fn.results.toList cells rest S'):zqj P f args cells rest:=by
 simp only[Bool.and_eq_true,Nat.ble_eq,Bool.not_eq_true',beq_eq_false_iff_ne]at hk
 obtain⟨hn,hd,hname⟩:=hk
 refine⟨⟨fn,c,hf,hb,hname⟩,λw k vs hp=>?_⟩
 refine calls_of_wp hf hb ?_
 refine zao hm hT c _ _ h ⟨w,k,[],[]⟩ fn.ntmps _ w k _ (zhc hp hn) hd λe S0 a' w' k0 ⟨hex,S',hsub,hq⟩ hs0=>?_
 have fin:a'.defers=[]/\∃v,(results fn a'.tmps).run P w'= .ok v w'/\(λ(e:Ending) w'=>∃v us,e= .returned (.tuple (v::us).toArray)/\Ext w w'/\∃k':Kp,(∀b,b<w.heap.size->k' b=k b)/\(Res.bx cells).at_ w.heap.size w' k' v/\RV.partsAt w' k' rest us) (.returned v) w':=by
  obtain⟨k',g,hs'⟩:=hsub _ _ _ _ _ hs0
  have hext:Ext w w':=⟨hs'.keep.os,hs'.keep.tape,hs'.keep.output,hs'.keep.size,λb hb=>hs'.keep.block b hb (by simp)⟩
  have hkk: ∀b,b<w.heap.size->k' b=k b:=λb hb=>hs'.kk b hb (by simp)
  refine⟨hs'.defers,?_⟩
  unfold retB at hq
  split at hq
  ·rename_i x y xs hx
   obtain⟨h1,h2⟩:=hq
   obtain⟨fr,v,hret,hat,hr⟩:=zgc hT hs' h1
   obtain⟨rs,us,hcv,hp',hlen,hr2⟩:=zfr hT hs' h2
   refine⟨.tuple (v::us).toArray,?_,v,us,rfl,hext,k',hkk,?_,hcv.at_ hp'⟩
   ·have hr3: ∀ys:List ResultVar,Sem.run P (List.mapM (zha a'.tmps) ys) w'=Result.ok us w'->Sem.run P (List.mapM (zha a'.tmps) (x::ys)) w'=Result.ok (v::us) w':=λys h=>by
     rw[List.mapM_cons,Sem.run_bind,hr]
     simp[h]
    have hr4:=hr3 _ hr2
    rw[zd4,Array.mapM_eq_mapM_toList,hx]
    simp only[Sem.run_bind,Sem.run_map,hr4]
    have hne:us≠[]:=λe=>by rw[e]at hlen;simp at hlen
    simp[hne]
   ·cases fr with
    |own id=>simp only[z3a]at hret;simp only[TF.at_]at hat;exact z3x hs' hret hat
    |_=>exact hret.elim
  ·exact hq.elim
 rcases hex with rfl |rfl
 ·exact fin
 ·exact fin
end
end
end Go.Proofs.YtebhngeddnnpkaaGreat.Sx
