import Derived.Test.YtkegaaonpekkgaaGreatXqBd
namespace Go.Proofs.YtkegaaonpekkgaaGreat.Sx
open Go.RowKit
theorem Qk{ρ:List (Nat×Nat)}{S:St}{e:TypeId}{b:Bool}{l m:cT}(h:l=m):jy ρ S (.ch e 1 l.length (l.map U8) b) (.ch e 1 m.length (m.map U8) b):=by
 subst h;exact⟨rfl,rfl,rfl,rfl,zn _⟩
def rJ(s:StpP)(k:Nat):cT:=(s.to.take k).flatMap mK
theorem SK{s:StpP}(h:s.sml)(k:Nat):(rJ s k).length<=4200:=Vn h k
theorem Xq{s:StpP}{k:Nat}(h:k<s.to.length):rJ s k++zZ s.to[k].enc++zZ s.to[k].box=rJ s (k+1):=by
 unfold rJ
 rw[List.take_add_one,bA h,List.flatMap_append]
 simp[mK]
def vr(c:ComP)(j:Nat):cT:=(c.way.steps.take j).flatMap rz
theorem eu{c:ComP}(h:c.sml)(j:Nat):(vr c j).length<=88000:=Tx h j
theorem Wu{c:ComP}{j:Nat}(h:j<c.way.steps.length):vr c j++zZ c.way.steps[j].box++zZ (rJ c.way.steps[j] c.way.steps[j].to.length)=vr c (j+1):=by
 unfold vr
 rw[List.take_add_one,bA h,List.flatMap_append]
 simp[rz,rJ]
def u6(c:ComP):cT:=zZ (xr c c.items.length)
def oH(c:ComP):cT:=u6 c++[1]
def mN(c:ComP):cT:=oH c++xA c.way.leaf
theorem OB{c:ComP}(h:c.sml):(u6 c).length<=105004:=by
 have h1:=kL h c.items.length
 have h2:=yf (xr c c.items.length)
 unfold u6
 omega
set_option maxRecDepth 20000 in
set_option maxHeartbeats 2000000 in
theorem Gx(c:ComP)(hc:c.sml)(hr:c.right=true):aG 257 [.ag c.c] (.r (bs (vT c))):=by
 have k1:=hc.items
 have k2:=hc.steps
 have hA:=OB hc
 refine aT Tryz.func257 rfl ?_
 refine zy (λj:Nat=>⟨[(1,.own 0),(3,.own 1),(4,.r nl),(14,.r (uo c.items)),(15,.r (I c.items.length)),(16,.r (I j))],[(0,some (.box (c.c.map .r))),(1,some (.ch 5 1 (xr c j).length ((xr c j).map U8) true))],2⟩) (λj=>j<=c.items.length) (λj=>c.items.length-j) 0 (by omega)
  (Sub.trans (uh 3 5 1 rfl) (zN [(0,0),(1,1)] ⟨(aD (aA aZ)),Qk (l:=[]) (m:=xr c 0) rfl,trivial⟩)) ?_
 intro j hj
 refine cZ (λh=>?_) λh=>?_
 ·simp only[zb]at h
  have hj':j<c.items.length:=by omega
  have hL:=kL hc j
  have hi:=hc.item _ (bY hj')
  have hri:=ComP.right_item hr (bY hj')
  refine cV (vf rfl hj') ?_
  refine cU ?_
  refine cZ (λh2=>?_) λh2=>?_
  ·simp only[zb]at h2
   have hne: ¬c.items[j].ref.length=0:=by omega
   have he:xr c (j+1)=qQ c j++zZ c.items[j].ref:=by
    rw[gA hj',tw,cQ hne,qQ,List.append_assoc]
   have h1:=hi.1
   have hl2:(qQ c j).length<=105001:=by rw[qQ,aL];show _+1<=_;omega
   refine Vdraw.code (Vcode.float mixed Tab_ok 5 [⟨1,25,.r (.sl 1 1 [U8 2]),[]⟩,⟨3,27,.adr 2 0,[]⟩,⟨4,28,.r (bs c.items[j].ref),[3]⟩] [(0,[]),(2,[1])] (by kernel_rfl) (F:=[(1,.own 0),(4,.r nl),(14,.r (uo c.items)),(15,.r (I c.items.length)),(16,.r (I j)),(3,.own 1),(6,.own 2)]) (O:=[(0,some (.box (c.c.map .r))),(1,some (.ch 5 1 (xr c j).length ((xr c j).map U8) true)),(2,some (.box (c.items[j].c.map .r)))]) (nx:=3) (zM [(0,0),(1,1),(2,2)]) ?_)
   refine⟨rfl,⟨λY=>Or.inr (Yld.read (d:=25) (e:=5) (sz:=1) (n:=1) (cells:=[U8 2]) Tab_ok (zw rfl)),λY=>zo _,λY=>zo _,trivial⟩,(24,.own 1)::[(1,.own 0),(4,.r nl),(14,.r (uo c.items)),(15,.r (I c.items.length)),(16,.r (I j)),(3,.own 1),(6,.own 2)],[(0,some (.box (c.c.map .r))),(1,some (.ch 5 1 (xr c j).length ((xr c j).map U8) true)),(2,some (.box (c.items[j].c.map .r)))],3,λY=>zo _,?_⟩
   refine⟨rfl,⟨λY=>Or.inr (Yld.read (d:=25) (e:=5) (sz:=1) (n:=1) (cells:=[U8 2]) Tab_ok (zw rfl)),λY=>zo _,λY=>zo _,trivial⟩,(26,.own 3)::(24,.own 1)::[(1,.own 0),(4,.r nl),(14,.r (uo c.items)),(15,.r (I c.items.length)),(16,.r (I j)),(3,.own 1),(6,.own 2)],(3,some (.ch 5 1 (qQ c j).length ((qQ c j).map U8) true))::(1,none)::[(0,some (.box (c.c.map .r))),(1,some (.ch 5 1 (xr c j).length ((xr c j).map U8) true)),(2,some (.box (c.items[j].c.map .r)))],4,λY=>by
    refine z7 (j:=(qQ c j).length) (zs:=(qQ c j).map U8) (by show(xr c j).length+1<=_;simp only[maxLen];omega) (by show((xr c j).length+1)*1<=_;omega) (by simp only[qQ,aL];rfl) (by simp only[qQ,bM];rfl) ?_
    exact zo _,?_⟩
   refine⟨rfl,⟨λY=>Or.inr (Yld.read (d:=25) (e:=5) (sz:=1) (n:=1) (cells:=[U8 2]) Tab_ok (zw rfl)),λY=>zo _,λY=>zo _,trivial⟩,?_⟩
   refine ze (wd (qQ c j) c.items[j].ref (by omega) (by omega)) ?_
   refine zd (m:=((j+1:Nat):Int)) (by omega) (by omega) ?_
   exact⟨j+1,hj',by omega,zN [(0,0),(1,4)] ⟨(aD (aA aZ)),Qk he.symm,trivial⟩⟩
  ·simp only[zb]at h2
   have hze:c.items[j].ref.length=0:=by omega
   have hrp:c.items[j].prop.right=true:=by unfold ItemP.right at hri;rw[cO hze]at hri;exact hri
   have cp:=VP c.items[j].prop hi.2 hrp
   have hpl:=pJ hi.2
   have he:xr c (j+1)=tz c j++xZ c.items[j].prop:=by
    rw[gA hj',tw,cO hze,tz,List.append_assoc]
   have hl2:(tz c j).length<=105001:=by rw[tz,aL];show _+1<=_;omega
   refine Vdraw.code (Vcode.float mixed Tab_ok 6 [⟨1,31,.r (.sl 1 1 [U8 1]),[]⟩,⟨3,33,.adr 2 1,[]⟩,⟨4,34,.r (.ag c.items[j].prop.c),[3]⟩] [(0,[]),(2,[1]),(5,[4])] (by kernel_rfl) (F:=[(1,.own 0),(4,.r nl),(14,.r (uo c.items)),(15,.r (I c.items.length)),(16,.r (I j)),(3,.own 1),(6,.own 2)]) (O:=[(0,some (.box (c.c.map .r))),(1,some (.ch 5 1 (xr c j).length ((xr c j).map U8) true)),(2,some (.box (c.items[j].c.map .r)))]) (nx:=3) (zM [(0,0),(1,1),(2,2)]) ?_)
   refine⟨rfl,⟨λY=>Or.inr (Yld.read (d:=31) (e:=5) (sz:=1) (n:=1) (cells:=[U8 1]) Tab_ok (zw rfl)),λY=>zo _,λY=>za rfl rfl (zo _),trivial⟩,(30,.own 1)::[(1,.own 0),(4,.r nl),(14,.r (uo c.items)),(15,.r (I c.items.length)),(16,.r (I j)),(3,.own 1),(6,.own 2)],[(0,some (.box (c.c.map .r))),(1,some (.ch 5 1 (xr c j).length ((xr c j).map U8) true)),(2,some (.box (c.items[j].c.map .r)))],3,λY=>zo _,?_⟩
   refine⟨rfl,⟨λY=>Or.inr (Yld.read (d:=31) (e:=5) (sz:=1) (n:=1) (cells:=[U8 1]) Tab_ok (zw rfl)),λY=>zo _,λY=>za rfl rfl (zo _),trivial⟩,(32,.own 3)::(30,.own 1)::[(1,.own 0),(4,.r nl),(14,.r (uo c.items)),(15,.r (I c.items.length)),(16,.r (I j)),(3,.own 1),(6,.own 2)],(3,some (.ch 5 1 (tz c j).length ((tz c j).map U8) true))::(1,none)::[(0,some (.box (c.c.map .r))),(1,some (.ch 5 1 (xr c j).length ((xr c j).map U8) true)),(2,some (.box (c.items[j].c.map .r)))],4,λY=>by
    refine z7 (j:=(tz c j).length) (zs:=(tz c j).map U8) (by show(xr c j).length+1<=_;simp only[maxLen];omega) (by show((xr c j).length+1)*1<=_;omega) (by simp only[tz,aL];rfl) (by simp only[tz,bM];rfl) ?_
    exact zo _,?_⟩
   refine⟨rfl,⟨λY=>Or.inr (Yld.read (d:=31) (e:=5) (sz:=1) (n:=1) (cells:=[U8 1]) Tab_ok (zw rfl)),λY=>zo _,λY=>za rfl rfl (zo _),trivial⟩,(35,.r (bs (xZ c.items[j].prop)))::(32,.own 3)::(30,.own 1)::[(1,.own 0),(4,.r nl),(14,.r (uo c.items)),(15,.r (I c.items.length)),(16,.r (I j)),(3,.own 1),(6,.own 2)],(3,some (.ch 5 1 (tz c j).length ((tz c j).map U8) true))::(1,none)::[(0,some (.box (c.c.map .r))),(1,some (.ch 5 1 (xr c j).length ((xr c j).map U8) true)),(2,some (.box (c.items[j].c.map .r)))],4,λY=>ze cp (zo _),?_⟩
   refine⟨rfl,⟨λY=>Or.inr (Yld.read (d:=31) (e:=5) (sz:=1) (n:=1) (cells:=[U8 1]) Tab_ok (zw rfl)),λY=>zo _,λY=>za rfl rfl (zo _),trivial⟩,?_⟩
   refine z7 (j:=(tz c j++xZ c.items[j].prop).length) (zs:=(tz c j++xZ c.items[j].prop).map U8) (by simp only[maxLen];omega) (by show((tz c j).length+(xZ c.items[j].prop).length)*1<=_;omega) (by rw[aL]) (by rw[bM]) ?_
   refine zd (m:=((j+1:Nat):Int)) (by omega) (by omega) ?_
   exact⟨j+1,hj',by omega,zN [(0,0),(1,4)] ⟨(aD (aA aZ)),Qk he.symm,trivial⟩⟩
 simp only[zb]at h
 obtain rfl:j=c.items.length:=by omega
 have hL:=kL hc c.items.length
 have cv:=wd [] (xr c c.items.length) (by simp) (by omega)
 rw[cG]at cv
 refine zB cv (zk (z8 1) (zn _)) ?_
 have hx:xr c c.items.length=c.items.flatMap tw:=by unfold xr;rw[List.take_length]
 cases hh:c.has with
 |false=>
  refine zt (by rw[hh];rfl) (zp ?_)
  have e:vT c=u6 c++[0]:=by unfold vT;rw[hh,cQ (by simp),u6,hx]
  refine zw ?_
  refine z7 (j:=(vT c).length) (zs:=(vT c).map U8) (by show(u6 c).length+1<=_;simp only[maxLen];omega) (by show((u6 c).length+1)*1<=_;omega) (by rw[e,aL];rfl) (by rw[e,bM];rfl) ?_
  exact cr
 |true=>
  have e:vT c=mN c++zZ (vr c c.way.steps.length):=by
   have hy:vr c c.way.steps.length=c.way.steps.flatMap rz:=by unfold vr;rw[List.take_length]
   unfold vT
   rw[hh,cO rfl,hy,mN,oH,u6,hx]
  have hlr:c.way.leaf.right=true:=by
   have h1:=hr
   unfold ComP.right WayP.right at h1
   rw[hh,cO rfl]at h1
   simp only[bB]at h1
   exact h1.2.1.1.1
  have cl:=qG c.way.leaf hc.leaf.fit hlr
  have hll:=sA hc.leaf
  refine zu (by rw[hh];rfl) (zq ?_)
  refine zy (λj:Nat=>⟨[(1,.own 0),(4,.r (bs (vr c j))),(7,.own 1),(48,.r (nG c.way.steps)),(49,.r (I c.way.steps.length)),(50,.r (I j))],[(0,some (.box (c.c.map .r))),(1,some (.ch 5 1 (u6 c).length ((u6 c).map U8) true))],2⟩) (λj=>j<=c.way.steps.length) (λj=>c.way.steps.length-j) 0 (by omega)
   (zX [(0,0),(1,2)] rfl ⟨rfl,z8 1,rfl,cr,cr,cr,trivial⟩ ⟨(aD (aA aZ)),⟨rfl,rfl,rfl,rfl,zn _⟩,trivial⟩) ?_
  intro j hj
  refine cZ (λh=>?_) λh=>?_
  ·simp only[zb]at h
   have hj':j<c.way.steps.length:=by omega
   have hs:=hc.step _ (bY hj')
   have hS:=eu hc j
   refine cV (vo rfl hj') ?_
   refine cU ?_
   have hsucc:=Wu hj'
   generalize c.way.steps[j]=s at hs hsucc⊢
   have hb:=hs.box
   have ht:=hs.to
   refine zy (λk:Nat=>⟨[(1,.own 0),(4,.r (bs (vr c j))),(7,.own 1),(48,.r (nG c.way.steps)),(49,.r (I c.way.steps.length)),(50,.r (I j)),(9,.own 2),(10,.r (bs (rJ s k))),(55,.r (ae s.to)),(56,.r (I s.to.length)),(57,.r (I k))],[(0,some (.box (c.c.map .r))),(1,some (.ch 5 1 (u6 c).length ((u6 c).map U8) true)),(2,some (.box (s.c.map .r)))],3⟩) (λk=>k<=s.to.length) (λk=>s.to.length-k) 0 (by omega)
    (zX [(0,0),(1,1),(2,2)] rfl ⟨rfl,cr,rfl,cr,cr,cr,rfl,z8 1,cr,cr,cr,trivial⟩ ⟨(aD (aA aZ)),⟨rfl,rfl,rfl,rfl,zn _⟩,(aB aZ),trivial⟩) ?_
   intro k hk
   have hB:=SK hs k
   refine cZ (λh2=>?_) λh2=>?_
   ·simp only[zb]at h2
    have hk':k<s.to.length:=by omega
    have hbx:=hs.all _ (bY hk')
    have v1:=yf s.to[k].enc
    refine cV (vJ rfl hk') ?_
    refine cU ?_
    refine aV ?_
    refine ze (wd (rJ s k) s.to[k].enc (by omega) (by omega)) ?_
    refine ze (wd (rJ s k++zZ s.to[k].enc) s.to[k].box (by rw[aL];omega) (by omega)) ?_
    refine zd (m:=((k+1:Nat):Int)) (by omega) (by omega) ?_
    exact⟨k+1,hk',by omega,zX [(0,0),(1,1),(2,2)] rfl ⟨rfl,cr,rfl,cr,cr,cr,rfl,zf (by rw[Xq hk'];rfl),cr,cr,cr,trivial⟩ ⟨(aD (aA aZ)),⟨rfl,rfl,rfl,rfl,zn _⟩,(aB aZ),trivial⟩⟩
   ·simp only[zb]at h2
    obtain rfl:k=s.to.length:=by omega
    have v1:=yf s.box
    refine ze (wd (vr c j) s.box (by omega) (by omega)) ?_
    refine ze (wd (vr c j++zZ s.box) (rJ s s.to.length) (by rw[aL];omega) (by omega)) ?_
    refine zd (m:=((j+1:Nat):Int)) (by omega) (by omega) ?_
    exact⟨j+1,hj',by omega,zX [(0,0),(1,1)] rfl ⟨rfl,zf (by rw[hsucc];rfl),rfl,cr,cr,cr,trivial⟩ ⟨(aD (aA aZ)),⟨rfl,rfl,rfl,rfl,zn _⟩,trivial⟩⟩
  simp only[zb]at h
  obtain rfl:j=c.way.steps.length:=by omega
  have hS:=eu hc c.way.steps.length
  have l1:(oH c).length<=105005:=by rw[oH,aL];show _+1<=_;omega
  have l2:(mN c).length<=107000:=by rw[mN,aL];omega
  refine Vdraw.code (Vcode.float mixed Tab_ok 9 [⟨1,77,.r (.sl 1 1 [U8 1]),[]⟩,⟨3,79,.adr 0 2,[]⟩,⟨4,80,.adr 0 2,[3]⟩,⟨5,81,.r (.ag c.way.leaf.c),[4]⟩,⟨8,84,.r (bs (vr c c.way.steps.length)),[]⟩] [(0,[]),(2,[1]),(6,[5]),(7,[])] (by kernel_rfl) (F:=[(4,.r (bs (vr c c.way.steps.length))),(7,.own 1),(1,.own 0)]) (O:=[(1,some (.ch 5 1 (u6 c).length ((u6 c).map U8) true)),(0,some (.box (c.c.map .r)))]) (nx:=2) (zM [(0,0),(1,1)]) ?_)
  refine⟨rfl,⟨λY=>Or.inr (Yld.read (d:=77) (e:=5) (sz:=1) (n:=1) (cells:=[U8 1]) Tab_ok (zw rfl)),λY=>zo _,λY=>zo _,λY=>za rfl rfl (zo _),λY=>zo _,trivial⟩,(76,.own 1)::[(4,.r (bs (vr c c.way.steps.length))),(7,.own 1),(1,.own 0)],[(1,some (.ch 5 1 (u6 c).length ((u6 c).map U8) true)),(0,some (.box (c.c.map .r)))],2,λY=>zo _,?_⟩
  refine⟨rfl,⟨λY=>Or.inr (Yld.read (d:=77) (e:=5) (sz:=1) (n:=1) (cells:=[U8 1]) Tab_ok (zw rfl)),λY=>zo _,λY=>zo _,λY=>za rfl rfl (zo _),λY=>zo _,trivial⟩,(78,.own 2)::(76,.own 1)::[(4,.r (bs (vr c c.way.steps.length))),(7,.own 1),(1,.own 0)],(2,some (.ch 5 1 (oH c).length ((oH c).map U8) true))::(1,none)::[(1,some (.ch 5 1 (u6 c).length ((u6 c).map U8) true)),(0,some (.box (c.c.map .r)))],3,λY=>by
   refine z7 (j:=(oH c).length) (zs:=(oH c).map U8) (by show(u6 c).length+1<=_;simp only[maxLen];omega) (by show((u6 c).length+1)*1<=_;omega) (by simp only[oH,aL];rfl) (by simp only[oH,bM];rfl) ?_
   exact zo _,?_⟩
  refine⟨rfl,⟨λY=>Or.inr (Yld.read (d:=77) (e:=5) (sz:=1) (n:=1) (cells:=[U8 1]) Tab_ok (zw rfl)),λY=>zo _,λY=>zo _,λY=>za rfl rfl (zo _),λY=>zo _,trivial⟩,(82,.r (bs (xA c.way.leaf)))::(78,.own 2)::(76,.own 1)::[(4,.r (bs (vr c c.way.steps.length))),(7,.own 1),(1,.own 0)],(2,some (.ch 5 1 (oH c).length ((oH c).map U8) true))::(1,none)::[(1,some (.ch 5 1 (u6 c).length ((u6 c).map U8) true)),(0,some (.box (c.c.map .r)))],3,λY=>ze cl (zo _),?_⟩
  refine⟨rfl,⟨λY=>Or.inr (Yld.read (d:=77) (e:=5) (sz:=1) (n:=1) (cells:=[U8 1]) Tab_ok (zw rfl)),λY=>zo _,λY=>zo _,λY=>za rfl rfl (zo _),λY=>zo _,trivial⟩,(83,.own 3)::(82,.r (bs (xA c.way.leaf)))::(78,.own 2)::(76,.own 1)::[(4,.r (bs (vr c c.way.steps.length))),(7,.own 1),(1,.own 0)],(3,some (.ch 5 1 (mN c).length ((mN c).map U8) true))::(2,none)::(2,some (.ch 5 1 (oH c).length ((oH c).map U8) true))::(1,none)::[(1,some (.ch 5 1 (u6 c).length ((u6 c).map U8) true)),(0,some (.box (c.c.map .r)))],4,λY=>by
   refine z7 (j:=(mN c).length) (zs:=(mN c).map U8) (by simp only[maxLen];omega) (by show((oH c).length+(xA c.way.leaf).length)*1<=_;omega) (by simp only[mN,aL]) (by simp only[mN,bM]) ?_
   exact zo _,?_⟩
  refine⟨rfl,⟨λY=>Or.inr (Yld.read (d:=77) (e:=5) (sz:=1) (n:=1) (cells:=[U8 1]) Tab_ok (zw rfl)),λY=>zo _,λY=>zo _,λY=>za rfl rfl (zo _),λY=>zo _,trivial⟩,?_⟩
  refine ze (wd (mN c) (vr c c.way.steps.length) (by omega) (by omega)) ?_
  exact zf (by rw[e];rfl)
structure MesP.rt (m:MesP):Prop where
 group:m.group.length<=64
 frm:0<=m.frm/\m.frm<65536
 two:m.kind=2->m.prop.right=true
 three: ¬m.kind=2->m.com.right=true
theorem Jb{m:MesP}(h:m.right=true):m.rt:=by
 unfold MesP.right at h
 simp only[bB,decide_eq_true_eq]at h
 obtain⟨⟨⟨⟨h1,h2⟩,h3⟩,h4⟩,h5⟩:=h
 refine⟨h1,h2,λk=>?_,λk=>?_⟩
 ·rw[cO k]at h5
  simp only[bB]at h5
  exact h5.1.1
 ·rw[cQ k]at h5
  by_cases k3:m.kind=3
  ·rw[cO k3]at h5
   simp only[bB]at h5
   exact h5.1.2
  ·rw[cQ k3]at h5;cases h5
def kw(m:MesP):cT:=zZ m.group++yg 8 m.epoch++[1]
def X7(m:MesP):cT:=kw m++yg 4 (xy m.frm)
def iG(m:MesP):cT:=X7 m++[m.kind]
theorem Ew(m:MesP):xQ m=iG m++(if m.kind=2 then xZ m.prop else vT m.com):=by
 simp only[xQ,iG,X7,kw,List.append_assoc]
set_option maxRecDepth 20000 in
theorem Zx(m:MesP)(hm:m.sml)(hr:m.right=true):aG 173 [.ag m.c] (.r (bs (xQ m))):=by
 refine aT Tryz.func173 rfl ?_
 obtain⟨r1,r2,r3,r4⟩:=Jb hr
 have h1:=hm.group
 have v1:=yf m.group
 have v2:=dv hm.com
 have v3:=pJ hm.prop
 have l0:(zZ m.group++yg 8 m.epoch).length<=220:=by simp only[aL,yj];omega
 have l1:(kw m).length<=221:=by simp only[kw,aL,yj,bJ,bO];omega
 have l2:(X7 m).length<=225:=by simp only[X7,aL,yj];omega
 have l3:(iG m).length=(X7 m).length+1:=by rw[iG,aL];rfl
 have hf:=Ew m
 have hu1:(xy m.frm:Int)=m.frm:=by unfold xy;omega
 have c1:=wd [] m.group (by simp) (by omega)
 rw[cG]at c1
 have c2:=vL (zZ m.group) 8 m.epoch (by omega) (.inr (.inr (.inr rfl)))
 have c3:=vL (kw m) 4 (xy m.frm) (by omega) (.inr (.inr (.inl rfl)))
 refine Vdraw.code (Vcode.float mixed Tab_ok 12 [⟨0,4,.adr 0 0,[]⟩,⟨1,5,.r (bs m.group),[0]⟩,⟨3,7,.adr 0 1,[]⟩,⟨4,8,.r (.i .u64 m.epoch),[3]⟩,⟨6,10,.r (.sl 1 1 [U8 1]),[]⟩,⟨8,12,.adr 0 2,[]⟩,⟨9,13,.r (I m.frm),[8]⟩,⟨10,14,.r (.i .u64 (xy m.frm)),[9]⟩] [(2,[1]),(5,[4]),(7,[6]),(11,[10])] (by kernel_rfl) (F:=[(1,.own 0)]) (O:=[(0,some (.box (m.c.map .r)))]) (nx:=1) (zM [(0,0)]) ?_)
 refine⟨rfl,⟨λY=>zo _,λY=>zo _,λY=>zo _,λY=>zo _,λY=>Or.inr (Yld.read (d:=10) (e:=5) (sz:=1) (n:=1) (cells:=[U8 1]) Tab_ok (zw rfl)),λY=>zo _,λY=>zo _,λY=>zF (xy m.frm) (by unfold xy;omega) (by unfold xy;omega) (zo _),trivial⟩,(6,.own 1)::[(1,.own 0)],(1,some (.ch 5 1 (zZ m.group).length ((zZ m.group).map U8) true))::[(0,some (.box (m.c.map .r)))],2,λY=>zB c1 (zk (z8 1) (zn _)) (zo _),?_⟩
 refine⟨rfl,⟨λY=>zo _,λY=>zo _,λY=>zo _,λY=>zo _,λY=>Or.inr (Yld.read (d:=10) (e:=5) (sz:=1) (n:=1) (cells:=[U8 1]) Tab_ok (zw rfl)),λY=>zo _,λY=>zo _,λY=>zF (xy m.frm) (by unfold xy;omega) (by unfold xy;omega) (zo _),trivial⟩,(9,.own 2)::(6,.own 1)::[(1,.own 0)],(2,some (.ch 5 1 (zZ m.group++yg 8 m.epoch).length ((zZ m.group++yg 8 m.epoch).map U8) true))::(1,some (.ch 5 1 (zZ m.group).length ((zZ m.group).map U8) true))::[(0,some (.box (m.c.map .r)))],3,λY=>ze c2 (zo _),?_⟩
 refine⟨rfl,⟨λY=>zo _,λY=>zo _,λY=>zo _,λY=>zo _,λY=>Or.inr (Yld.read (d:=10) (e:=5) (sz:=1) (n:=1) (cells:=[U8 1]) Tab_ok (zw rfl)),λY=>zo _,λY=>zo _,λY=>zF (xy m.frm) (by unfold xy;omega) (by unfold xy;omega) (zo _),trivial⟩,(11,.own 3)::(9,.own 2)::(6,.own 1)::[(1,.own 0)],(3,some (.ch 5 1 (kw m).length ((kw m).map U8) true))::(2,none)::(2,some (.ch 5 1 (zZ m.group++yg 8 m.epoch).length ((zZ m.group++yg 8 m.epoch).map U8) true))::(1,some (.ch 5 1 (zZ m.group).length ((zZ m.group).map U8) true))::[(0,some (.box (m.c.map .r)))],4,λY=>by
  refine z7 (j:=(kw m).length) (zs:=(kw m).map U8) (by simp only[maxLen];omega) (by show((zZ m.group++yg 8 m.epoch).length+1)*1<=_;omega) (by simp only[kw,aL];rfl) (by simp only[kw,bM];rfl) ?_
  exact zo _,?_⟩
 refine⟨rfl,⟨λY=>zo _,λY=>zo _,λY=>zo _,λY=>zo _,λY=>Or.inr (Yld.read (d:=10) (e:=5) (sz:=1) (n:=1) (cells:=[U8 1]) Tab_ok (zw rfl)),λY=>zo _,λY=>zo _,λY=>zF (xy m.frm) (by unfold xy;omega) (by unfold xy;omega) (zo _),trivial⟩,(15,.own 4)::(11,.own 3)::(9,.own 2)::(6,.own 1)::[(1,.own 0)],(4,some (.ch 5 1 (X7 m).length ((X7 m).map U8) true))::(3,some (.ch 5 1 (kw m).length ((kw m).map U8) true))::(2,none)::(2,some (.ch 5 1 (zZ m.group++yg 8 m.epoch).length ((zZ m.group++yg 8 m.epoch).map U8) true))::(1,some (.ch 5 1 (zZ m.group).length ((zZ m.group).map U8) true))::[(0,some (.box (m.c.map .r)))],5,λY=>ze c3 (zo _),?_⟩
 refine⟨rfl,⟨λY=>zo _,λY=>zo _,λY=>zo _,λY=>zo _,λY=>Or.inr (Yld.read (d:=10) (e:=5) (sz:=1) (n:=1) (cells:=[U8 1]) Tab_ok (zw rfl)),λY=>zo _,λY=>zo _,λY=>zF (xy m.frm) (by unfold xy;omega) (by unfold xy;omega) (zo _),trivial⟩,?_⟩
 refine zw ?_
 refine z7 (j:=(iG m).length) (zs:=(iG m).map U8) (by simp only[maxLen];omega) (by show((X7 m).length+1)*1<=_;omega) (by simp only[iG,aL];rfl) (by simp only[iG,bM];rfl) ?_
 by_cases k2:m.kind=2
 ·rw[cO k2]at hf
  refine zt (by rw[k2];rfl) (zp ?_)
  refine cU ?_
  refine ze (VP m.prop hm.prop (r3 k2)) ?_
  refine z7 (j:=(xQ m).length) (zs:=(xQ m).map U8) (by show(iG m).length+(xZ m.prop).length<=_;simp only[maxLen];omega) (by show((iG m).length+(xZ m.prop).length)*1<=_;omega) (by rw[hf,aL]) (by rw[hf,bM]) ?_
  exact cr
 ·rw[cQ k2]at hf
  refine zu (by simp only[zb];exact uO k2) (zq ?_)
  refine cU ?_
  refine ze (Gx m.com hm.com (r4 k2)) ?_
  refine z7 (j:=(xQ m).length) (zs:=(xQ m).map U8) (by show(iG m).length+(vT m.com).length<=_;simp only[maxLen];omega) (by show((iG m).length+(vT m.com).length)*1<=_;omega) (by rw[hf,aL]) (by rw[hf,bM]) ?_
  exact cr
theorem dG(m:MesP)(hm:m.sml)(hr:m.right=true):aG 156 [.ag m.c] (xJ (wz m)):=by
 refine aT Tryz.func156 rfl ?_
 have hf:=Zx m hm hr
 have hl:=rK hm
 have h0:(yg 2 1++yg 2 1).length=4:=by rw[aL,yj]
 refine aV ?_
 refine zB (vL [] 2 1 (by simp) (.inr (.inl rfl))) (zk (z8 _) (zn _)) ?_
 rw[cG]
 refine ze (vL (yg 2 1) 2 1 (by rw[yj];omega) (.inr (.inl rfl))) ?_
 refine cU ?_
 refine ze hf ?_
 refine z7 (j:=(wz m).length) (zs:=(wz m).map U8) (by simp only[maxLen];omega) (by show(_+(xQ m).length)*1<=_;omega) (by simp only[wz,aL]) (by simp only[wz,bM]) ?_
 exact rfl
theorem Zz(b:cT)(m:MesP)(hm:m.sml)(hb:b.length<=100000000):aG 159 [bs b,.ag m.c] (xJ (b++pQ m)):=by
 refine aT Tryz.func159 rfl ?_
 have v1:=yf m.sig
 have h3:=hm.sig
 have h4:=hm.tag
 refine ze (wd b m.sig (by omega) (by omega)) ?_
 by_cases k:m.kind=3
 ·refine zt (by rw[k];rfl) (zp ?_)
  refine ze (wd (b++zZ m.sig) m.tag (by rw[aL];omega) (by omega)) ?_
  exact vR (by unfold pQ;rw[cO k,List.append_assoc])
 ·refine zu (by simp only[zb];exact uO k) (zq ?_)
  exact vR (by unfold pQ;rw[cQ k])
theorem QP(m:MesP)(hm:m.sml)(hr:m.right=true):aG 174 [.ptr m.c] (.r (bs (tT m))):=by
 refine aT Tryz.func174 rfl ?_
 have hh:=dG m hm hr
 have hl:=sv hm
 have hs:=Zz (wz m) m hm (by omega)
 have hl2:=nR hm
 have h6:=hm.mem
 refine aV ?_
 refine cU ?_
 refine ze hh ?_
 refine cU ?_
 refine ze hs ?_
 refine zg rfl ?_
 refine ze (wd (wz m++pQ m) m.mem (by rw[aL];omega) (by omega)) ?_
 exact zf (by rw[tT,<-List.append_assoc];rfl)
theorem Sj(m:MesP)(hm:m.sml)(hr:m.right=true)(x:CtxP)(hx:x.fit):aG 155 [.ptr m.c,.ptr x.c] (.r (bs (xh m x))):=by
 refine aT Tryz.func155 rfl ?_
 have hh:=dG m hm hr
 have hl:=sv hm
 have hc:=mm x hx
 have hl2:=tI x
 obtain⟨k1,k2,k3,k4⟩:=id hx
 refine aV ?_
 refine cU ?_
 refine ze hh ?_
 refine cU ?_
 refine ze hc ?_
 refine z7 (j:=(xh m x).length) (zs:=(xh m x).map U8) (by simp only[maxLen];omega) (by show((wz m).length+(yV x).length)*1<=_;omega) (by simp only[xh,aL]) (by simp only[xh,bM]) ?_
 exact cr
theorem Sk(m:MesP)(hm:m.sml)(hr:m.right=true)(x:CtxP)(hx:x.fit):aG 158 [.ptr m.c,.ptr x.c] (.r (bs (vG m x))):=by
 refine aT Tryz.func158 rfl ?_
 have hh:=dG m hm hr
 have hl:=sv hm
 have hc:=mm x hx
 have hl2:=tI x
 obtain⟨k1,k2,k3,k4⟩:=id hx
 have l3:(xh m x).length=(wz m).length+(yV x).length:=aL
 have hs:=Zz (xh m x) m hm (by omega)
 refine Vdraw.code (Vcode.float mixed Tab_ok 7 [⟨0,3,.r (.ag m.c),[]⟩,⟨2,5,.r (.ag x.c),[]⟩,⟨5,8,.r (.ag m.c),[]⟩] [(1,[0]),(3,[2]),(4,[]),(6,[5])] (by kernel_rfl) (F:=[(0,.r (.ptr m.c)),(1,.r (.ptr x.c))]) (O:=[]) (nx:=0) (zM []) ?_)
 refine⟨rfl,⟨λY=>za rfl rfl (zo _),λY=>za rfl rfl (zo _),λY=>za rfl rfl (zo _),trivial⟩,(4,.own 0)::[(0,.r (.ptr m.c)),(1,.r (.ptr x.c))],(0,some (.ch 5 1 (wz m).length ((wz m).map U8) true))::[],1,λY=>ze hh (zo _),?_⟩
 refine⟨rfl,⟨λY=>za rfl rfl (zo _),λY=>za rfl rfl (zo _),λY=>za rfl rfl (zo _),trivial⟩,(6,.r (bs (yV x)))::(4,.own 0)::[(0,.r (.ptr m.c)),(1,.r (.ptr x.c))],(0,some (.ch 5 1 (wz m).length ((wz m).map U8) true))::[],1,λY=>ze hc (zo _),?_⟩
 refine⟨rfl,⟨λY=>za rfl rfl (zo _),λY=>za rfl rfl (zo _),λY=>za rfl rfl (zo _),trivial⟩,(7,.own 1)::(6,.r (bs (yV x)))::(4,.own 0)::[(0,.r (.ptr m.c)),(1,.r (.ptr x.c))],(1,some (.ch 5 1 (xh m x).length ((xh m x).map U8) true))::(0,none)::(0,some (.ch 5 1 (wz m).length ((wz m).map U8) true))::[],2,λY=>by
  refine z7 (j:=(xh m x).length) (zs:=(xh m x).map U8) (by simp only[maxLen];omega) (by show((wz m).length+(yV x).length)*1<=_;omega) (by simp only[xh,aL]) (by simp only[xh,bM]) ?_
  exact zo _,?_⟩
 refine⟨rfl,⟨λY=>za rfl rfl (zo _),λY=>za rfl rfl (zo _),λY=>za rfl rfl (zo _),trivial⟩,(9,.own 2)::(7,.own 1)::(6,.r (bs (yV x)))::(4,.own 0)::[(0,.r (.ptr m.c)),(1,.r (.ptr x.c))],(2,some (.ch 5 1 (vG m x).length ((vG m x).map U8) true))::(1,some (.ch 5 1 (xh m x).length ((xh m x).map U8) true))::(0,none)::(0,some (.ch 5 1 (wz m).length ((wz m).map U8) true))::[],3,λY=>ze hs (zo _),?_⟩
 refine⟨rfl,⟨λY=>za rfl rfl (zo _),λY=>za rfl rfl (zo _),λY=>za rfl rfl (zo _),trivial⟩,?_⟩
 exact cr
theorem YH(m:MesP)(hm:m.sml)(hr:m.right=true):aG 170 [.ptr m.c] (.r (bs (np m))):=by
 refine aT Tryz.func170 rfl ?_
 have hf:=Zx m hm hr
 have hl:=rK hm
 have h3:=hm.sig
 have h0:(yg 2 1).length=2:=yj _ _
 have l1:(yg 2 1++xQ m).length=2+(xQ m).length:=by rw[aL,h0]
 have c1:=vL [] 2 1 (by simp) (.inr (.inl rfl))
 rw[cG]at c1
 refine Vdraw.code (Vcode.float mixed Tab_ok 7 [⟨1,3,.r (.ag m.c),[]⟩,⟨4,6,.r (.ptr (m.c.drop 29)),[]⟩,⟨5,7,.r (bs m.sig),[4]⟩] [(0,[]),(2,[1]),(3,[]),(6,[5])] (by kernel_rfl) (F:=[(0,.r (.ptr m.c))]) (O:=[]) (nx:=0) (zM []) ?_)
 refine⟨rfl,⟨λY=>za rfl rfl (zo _),λY=>zo _,λY=>zg rfl (zo _),trivial⟩,(2,.own 0)::[(0,.r (.ptr m.c))],(0,some (.ch 5 1 (yg 2 1).length ((yg 2 1).map U8) true))::[],1,λY=>zB c1 (zk (z8 _) (zn _)) (zo _),?_⟩
 refine⟨rfl,⟨λY=>za rfl rfl (zo _),λY=>zo _,λY=>zg rfl (zo _),trivial⟩,(4,.r (bs (xQ m)))::(2,.own 0)::[(0,.r (.ptr m.c))],(0,some (.ch 5 1 (yg 2 1).length ((yg 2 1).map U8) true))::[],1,λY=>ze hf (zo _),?_⟩
 refine⟨rfl,⟨λY=>za rfl rfl (zo _),λY=>zo _,λY=>zg rfl (zo _),trivial⟩,(5,.own 1)::(4,.r (bs (xQ m)))::(2,.own 0)::[(0,.r (.ptr m.c))],(1,some (.ch 5 1 (yg 2 1++xQ m).length ((yg 2 1++xQ m).map U8) true))::(0,none)::(0,some (.ch 5 1 (yg 2 1).length ((yg 2 1).map U8) true))::[],2,λY=>by
  refine z7 (j:=(yg 2 1++xQ m).length) (zs:=(yg 2 1++xQ m).map U8) (by simp only[maxLen];omega) (by show((yg 2 1).length+(xQ m).length)*1<=_;omega) (by simp only[aL]) (by simp only[bM]) ?_
  exact zo _,?_⟩
 refine⟨rfl,⟨λY=>za rfl rfl (zo _),λY=>zo _,λY=>zg rfl (zo _),trivial⟩,(8,.own 2)::(5,.own 1)::(4,.r (bs (xQ m)))::(2,.own 0)::[(0,.r (.ptr m.c))],(2,some (.ch 5 1 (np m).length ((np m).map U8) true))::(1,some (.ch 5 1 (yg 2 1++xQ m).length ((yg 2 1++xQ m).map U8) true))::(0,none)::(0,some (.ch 5 1 (yg 2 1).length ((yg 2 1).map U8) true))::[],3,λY=>ze (wd (yg 2 1++xQ m) m.sig (by omega) (by omega)) (zo _),?_⟩
 refine⟨rfl,⟨λY=>za rfl rfl (zo _),λY=>zo _,λY=>zg rfl (zo _),trivial⟩,?_⟩
 exact cr
theorem Nu(m:MesP)(hm:m.sml):aG 104 [.ag m.c] (.r (uy m.right (tT m))):=by
 refine aT Tryz.func104 rfl ?_
 refine cU ?_
 refine ze (mS m hm) ?_
 refine zJ (xO (id:=0) (t:=1) m.c rfl rfl) (Vstep.mkfunS rfl rfl ?_)
 refine ze (qM m.right _ _ (tT m) λh=>QP m hm h) ?_
 unfold uy
 cases m.right with
 |true=>exact⟨_,rfl,cr⟩
 |false=>exact⟨_,rfl,cr⟩
theorem nv(m:MesP)(hm:m.sml)(x:CtxP)(hx:x.fit):aG 76 [.ag m.c,.ag x.c] (.r (uy m.right (xh m x))):=by
 refine aT Tryz.func76 rfl ?_
 refine cU ?_
 refine ze (mS m hm) ?_
 refine zJ ((xO (id:=0) (t:=2) m.c rfl rfl).trans (xO (id:=1) (t:=3) x.c rfl rfl)) (Vstep.mkfunS rfl rfl ?_)
 refine ze (qM m.right _ _ (xh m x) λh=>Sj m hm h x hx) ?_
 unfold uy
 cases m.right with
 |true=>exact⟨_,rfl,cr⟩
 |false=>exact⟨_,rfl,cr⟩
theorem nw(m:MesP)(hm:m.sml)(x:CtxP)(hx:x.fit):aG 77 [.ag m.c,.ag x.c] (.r (uy m.right (vG m x))):=by
 refine aT Tryz.func77 rfl ?_
 refine cU ?_
 refine ze (mS m hm) ?_
 refine zJ ((xO (id:=0) (t:=2) m.c rfl rfl).trans (xO (id:=1) (t:=3) x.c rfl rfl)) (Vstep.mkfunS rfl rfl ?_)
 refine ze (qM m.right _ _ (vG m x) λh=>Sk m hm h x hx) ?_
 unfold uy
 cases m.right with
 |true=>exact⟨_,rfl,cr⟩
 |false=>exact⟨_,rfl,cr⟩
theorem WA(m:MesP)(hm:m.sml):aG 99 [.ag m.c] (.r (uy m.right (np m))):=by
 refine aT Tryz.func99 rfl ?_
 refine cU ?_
 refine ze (mS m hm) ?_
 refine zJ (xO (id:=0) (t:=1) m.c rfl rfl) (Vstep.mkfunS rfl rfl ?_)
 refine ze (qM m.right _ _ (np m) λh=>YH m hm h) ?_
 unfold uy
 cases m.right with
 |true=>exact⟨_,rfl,cr⟩
 |false=>exact⟨_,rfl,cr⟩
end Go.Proofs.YtkegaaonpekkgaaGreat.Sx
