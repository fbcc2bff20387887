import Derived.Test.YtkegaaonpekkgaaGreatZFs
import Derived.Test.YtkegaaonpekkgaaGreatZEa
import Derived.Test.YtkegaaonpekkgaaGreatZSxU
import Derived.Test.YtkegaaonpekkgaaGreatZSxBx
import Derived.Test.YtkegaaonpekkgaaGreatZKu
import Derived.Test.YtkegaaonpekkgaaGreatZSxY
import Derived.Test.YtkegaaonpekkgaaGreatZGeoB
namespace Go.Proofs.YtkegaaonpekkgaaGreat.Sx
open Go.RowKit
section
variable {P:Program} {T:TT} {S:St}
theorem z6i{id t n:Nat}(vs:List RV)(hf:fget S.F t=some (.cut id 0 n))(ho:oget S.O id=some (.box (vs.map .r)))(hn:vs.length=n):Sub S ⟨(t, .r (.sl 1 n vs))::S.F,(id,none)::S.O,S.nx⟩:=by
 rintro B N a w k ⟨g,hs⟩
 obtain⟨b,k',hg,hle,hb,hc,h⟩:=hs.pub ho
 have hv:=(hs.facts t _ hf).2
 simp only[TF.at_]at hv
 obtain⟨b',c,e,hv,h1,h2⟩:=hv
 rw[hg]at e
 cases e
 refine⟨k',g,h.size,h.defers,h.keep,h.kk,λt' f hf'=>?_,h.owns,h.apart⟩
 rcases zay hf' with⟨rfl,rfl⟩ |⟨_,hf'⟩
 ·refine⟨trivial,?_⟩
  simp only[TF.at_,RV.at_]
  exact⟨_,c,hv,h1,h2,by rw[Nat.mul_one];exact hn,λ_=>⟨b,0,rfl,hb,hc⟩⟩
 ·exact h.facts t' f hf'
theorem Vcode.sub(hm:P.follows .mixedOrders=true)(hT:TOk P T){c:Code}{S':St}{Q:Exit->St->Prop}(hs:Sub S S')(h:vcg P T c S' Q):Vcode P c S Q:=
 ⟨λB N a w k Q' h0 hd hQ=>by
  obtain⟨k',h1⟩:=hs B N a w k h0
  exact zaz hm hT c S' Q h B N a w k' Q' h1 hd hQ⟩
theorem Vstep.actsNew{o:Oper}{l:List RV}{f:FuncId}{args:List TF}{n:Nat}{K:St->Prop}(hA:Acts P f 0 [] args [] 1 [(0, .box (l.map .r))] (.cut 0 0 n))(hcall:Handed P S o [] f args)
  (hK:newK ⟨S.F,(S.nx,some (.box (l.map .r)))::S.O,S.nx+1⟩ o.dst (.cut S.nx 0 n) none K):Vstep P S o K:=by
 refine zj [] [] (λ_ _=>hA) hcall rfl trivial trivial ?_
 rw[zmu]
 rw[zaw]at hK
 have e:(l.map TF.r).map (zec (ren [] [] S.nx))=l.map TF.r:=by
  rw[List.map_map]
  exact List.map_congr_left λx _=>rfl
 have e2:zmv [] [] S 1 [(0, .box (l.map .r))] (.cut 0 0 n) o.dst=St.new ⟨S.F,(S.nx,some (.box (l.map .r)))::S.O,S.nx+1⟩ o.dst (.cut S.nx 0 n) none:=by
  show St.put ⟨S.F,(S.nx,some (.box ((l.map TF.r).map (zec (ren [] [] S.nx)))))::S.O,S.nx+1⟩ o.dst (.cut S.nx 0 n)=_
  rw[e]
  rfl
 rw[e2]
 exact hK
end
set_option maxRecDepth 100000 in
theorem zgmb(ls:List (List UInt8))(hl:(ls.flatMap id).length<=10000000000):Acts aP 228 0 [] [.r (bss ls)] [] 1 [(0,boxB (zcu ls))] (.cut 0 0 64):=by
 refine zah (T:=Tab) mixed Tab_ok Tryz.func228 rfl (by kernel_rfl) rfl trivial ?_
 refine ze (zgt ls (by omega)) ?_
 refine ze (z13 (ls.flatMap id) hl) ?_
 (conv=>whnf)
 generalize hq:(za8 _&&_)=q
 obtain rfl:=hq.symm.trans (zh0 (l:=(zcu ls).map U8) 64 (by rw[List.length_map,zcf]) rfl)
 clear hq
 refine zeb (by rw[List.length_map,List.length_map];show(List.replicate 64 (Value.int .u8 0)).length=_;rw[List.length_replicate];exact(zcf ls).symm) ?_
 refine Vstep.val Tab_ok (Vcutn.mk' 0 64 rfl rfl (by decide) (by decide) ?_)
 exact zan (.inl rfl) [(0,1)] [(2, .cut 0 0 64)] [] (by have h:=zdz ((zcu ls).map U8) 1;simp only[stOk,lift,boxB,List.map_cons,List.map_nil,List.append_nil,List.all_cons,List.all_nil,zdq,h];rfl) ⟨⟨rfl,rfl,rfl⟩,trivial⟩ ⟨zae _,trivial⟩ trivial rfl
theorem z7p{l:List UInt8}{j:Nat}(h:j<l.length):lget ((l.map U8).map TF.r) (0+j*1)=some (TF.r (U8 (l.getD j 0))):=by
 rw[zat,Nat.zero_add,Nat.mul_one]
 exact z1v h
theorem zww{x:UInt8}{l:List UInt8}{j:Nat}(h:j<l.length):(za8 (U8 x)&&(Nat.beq (cellsOf (U8 x)).length 1&&Nat.ble (0+j*1+1) ((l.map U8).map TF.r).length))=true:=by
 rw[Nat.zero_add]
 exact z1h h
theorem zu0{l:List UInt8}{j:Nat}{x:UInt8}{K:List TF->Prop}(h:j<l.length)(hK:K (((l.set j x).map U8).map TF.r)):putK ((l.map U8).map TF.r) (0+j*1) [TF.r (U8 x)] K:=by
 rw[Nat.zero_add]
 exact zy8 h hK
theorem zjo(l:List UInt8)(n:Nat)(h:l.length=n):RV.sl 1 n (l.map U8)=bs l:=by rw[<-h];rfl
def zhb(h:List UInt8):List UInt8:=h.set 0 (h.getD 0 0&&& ~~~7)
def ze5(h:List UInt8):List UInt8:=(zhb h).set 31 (((zhb h).getD 31 0&&&63)|||64)
theorem z8x(h:List UInt8):(zhb h).length=h.length:=by simp[zhb]
theorem zuk(h:List UInt8):(ze5 h).length=h.length:=by simp[ze5,zhb]
def secS(seed:List UInt8):S4:=scOf ((ze5 (zcu [seed])).take 32)
def secB(seed:List UInt8):List UInt8:=(ze5 (zcu [seed])).drop 32
set_option maxHeartbeats 1000000 in
theorem zxn(seed:List UInt8)(hs:seed.length<=1000000000):aG 222 [bs seed] (.r (.tu [.ag (secS seed).v,bs (secB seed)])):=by
 refine aT Tryz.func222 rfl ?_
 refine Vpub.own ?_
 refine Vstep.sub (zbd (id:=1) rfl) (Vstep.actsNew (zgmb [seed] (by simp;omega)) (zi rfl ⟨_,_,rfl,cr,rfl⟩) ?_)
 have hh:secS seed=scOf ((ze5 (zcu [seed])).take 32):=rfl
 have hb:secB seed=(ze5 (zcu [seed])).drop 32:=rfl
 have hl:=zcf [seed]
 rw[hh,hb]
 generalize zcu [seed]=h at*
 have hl0:(zhb h).length=64:=by rw[z8x,hl]
 have hlB:(ze5 h).length=64:=by rw[zuk,hl]
 refine Vadr.mk' 0 rfl (by decide) ?_
 (conv=>whnf)
 generalize hq:lget _ _=q
 obtain rfl:=hq.symm.trans (z7p (l:=h) (j:=0) (by omega))
 clear hq
 refine Vbits.andn8 _ 7 rfl rfl ?_
 refine Vadr.mk' 0 rfl (by decide) ?_
 (conv=>whnf)
 generalize hq:(za8 _&&_)=q
 obtain rfl:=hq.symm.trans (zww (x:=h.getD 0 0&&& ~~~7) (l:=h) (j:=0) (by omega))
 clear hq
 refine zu0 (l:=h) (j:=0) (by omega) ?_
 refine Vadr.mk' 31 rfl (by decide) ?_
 (conv=>whnf)
 generalize hq:lget _ _=q
 obtain rfl:=hq.symm.trans (z7p (l:=zhb h) (j:=31) (by omega))
 clear hq
 refine Vbits.and8 _ 63 rfl rfl ?_
 refine Vbits.or8 _ 64 rfl rfl ?_
 refine Vadr.mk' 31 rfl (by decide) ?_
 (conv=>whnf)
 generalize hq:(za8 _&&_)=q
 obtain rfl:=hq.symm.trans (zww (x:=((zhb h).getD 31 0&&&63)|||64) (l:=zhb h) (j:=31) (by omega))
 clear hq
 refine zu0 (l:=zhb h) (j:=31) (by omega) ?_
 refine Vdraw.code (Vcode.sub mixed Tab_ok (z6i (t:=4) (n:=64) ((ze5 h).map U8) rfl rfl (by rw[List.length_map,hlB])) ?_)
 refine aV ?_
 have ht:((ze5 h).take 32).length=32:=by rw[List.length_take,hlB];rfl
 have hd:((ze5 h).drop 32).length=32:=by rw[List.length_drop,hlB]
 have hsc:=zrr ((ze5 h).take 32) (by omega)
 rw[<-zjo _ _ ht]at hsc
 rw[<-zjo _ _ hd]
 refine⟨by decide,by decide,by decide,32,((ze5 h).take 32).map U8,rfl,by rw[List.map_take];rfl,?_⟩
 refine ze hsc ?_
 refine⟨by decide,by decide,by decide,32,((ze5 h).drop 32).map U8,rfl,by rw[List.map_drop];exact List.take_of_length_le (by rw[List.length_drop,List.length_map,hlB];decide),?_⟩
 refine za rfl rfl ?_
 exact⟨_,rfl,cr⟩
theorem z8s(seed:List UInt8)(hs:seed.length=32):aG 126 [bs seed] (.r (.ag (secS seed).v)):=by
 refine aT Tryz.func126 rfl ?_
 refine zh (λh=>?_) (λh=>zq ?_)
 ·simp only[zb]at h
  exact absurd hs (by omega)
 refine ze (zxn seed (by omega)) ?_
 refine za rfl rfl ?_
 refine za rfl rfl ?_
 exact cr
def pubS(seed:List UInt8):List UInt8:=(mulP baseP (secS seed) 253).bytes
theorem zy6(seed:List UInt8):(pubS seed).length=32:=Pt.bytes_len _
theorem zuh(seed:List UInt8)(hs:seed.length=32):aG 50 [bs seed] (.r (.tu [bs (pubS seed), .i .u8 0])):=by
 refine aT Tryz.func50 rfl ?_
 refine zh (λh=>?_) (λh=>zq ?_)
 ·simp only[zb]at h
  exact absurd hs (by omega)
 refine ze ztc ?_
 refine ze (z8s seed hs) ?_
 refine ze (zrp baseP (secS seed)) ?_
 refine ze (zxu (mulP baseP (secS seed) 253)) ?_
 exact⟨_,rfl,cr⟩
def sigR(seed text:List UInt8):S4:=scOf (zcu [secB seed,text])
def sigP(seed text:List UInt8):List UInt8:=(mulP baseP (sigR seed text) 253).bytes
def sigK(seed text:List UInt8):S4:=scOf (zcu [sigP seed text,pubS seed,text])
def sigB(seed text:List UInt8):List UInt8:=sigP seed text++((sigR seed text).sum ((sigK seed text).mul (secS seed))).once.bytes
theorem zzs(seed text:List UInt8):(sigP seed text).length=32:=Pt.bytes_len _
theorem zdub(seed text:List UInt8):(sigB seed text).length=64:=by rw[sigB,aL,zzs,S4.bytes_len]
theorem zdsb(seed:List UInt8):(secB seed).length=32:=by rw[secB,List.length_drop,zuk,zcf]
theorem z34(a b:List UInt8):[a,b].flatMap id=a++b:=by simp
theorem zeib(a b c:List UInt8):[a,b,c].flatMap id=a++b++c:=by simp
set_option maxHeartbeats 1000000 in
theorem z8q(seed text P B L1 Q L2 R1:List UInt8)(s r k m z:S4)(M:Pt)(hs:seed.length=32)(ht:text.length<=1000000000)(hP:P.length=32)(hB:B.length=32)(hQ:Q.length=32)(hR:R1.length=32)(hL1:L1.length=64)(hL2:L2.length=64)
  (c1:aG 50 [bs seed] (.r (.tu [bs P, .i .u8 0])))
  (c2:aG 222 [bs seed] (.r (.tu [.ag s.v,bs B])))
  (c3:aG 228 [bss [B,text]] (.r (bs L1)))
  (c4:aG 227 [bs L1] (.r (.ag r.v)))
  (c6: ∀b:Pt,b=baseP->aG 125 [.ag b.v, .ag r.v] (.r (.ag M.v)))
  (c7:aG 127 [.ag M.v] (bch Q))
  (c8:aG 228 [bss [Q,P,text]] (.r (bs L2)))
  (c9:aG 227 [bs L2] (.r (.ag k.v)))
  (c10:aG 230 [.ag k.v, .ag s.v] (.r (.ag m.v)))
  (c11:aG 229 [.ag r.v, .ag m.v] (.r (.ag z.v)))
  (c12:aG 231 [.ag z.v] (bch R1)):
  aG 135 [bs seed,bs text] (.r (.tu [bs (Q++R1), .i .u8 0])):=by
 refine aT Tryz.func135 rfl ?_
 refine ze c1 ?_
 refine zu rfl (zq ?_)
 refine ze c2 ?_
 refine zw ?_
 refine ze c3 ?_
 refine ze c4 ?_
 refine aV ?_
 obtain⟨b,hb⟩: ∃b,b=baseP:=⟨_,rfl⟩
 have c5:=ztc
 rw[<-hb]at c5
 refine ze c5 ?_
 refine za rfl rfl ?_
 refine ze (c6 b hb) ?_
 refine ze c7 ?_
 refine zw ?_
 refine ze c8 ?_
 refine ze c9 ?_
 refine aV ?_
 refine za rfl rfl ?_
 refine za rfl rfl ?_
 refine za rfl rfl ?_
 refine ze c10 ?_
 refine ze c11 ?_
 refine ze c12 ?_
 refine zw ?_
 refine ze (zgt [Q,R1] (by rw[z34,aL];omega)) ?_
 exact⟨_,rfl,zf (by rw[z34];rfl)⟩
theorem zjzb(seed text:List UInt8)(hs:seed.length=32)(ht:text.length<=1000000000):aG 135 [bs seed,bs text] (.r (.tu [bs (sigB seed text), .i .u8 0])):=by
 have h1:=zdsb seed
 have h2:=zzs seed text
 have h3:=zy6 seed
 exact z8q seed text (pubS seed) (secB seed) (zcu [secB seed,text]) (sigP seed text) (zcu [sigP seed text,pubS seed,text]) _ (secS seed) (sigR seed text) (sigK seed text) ((sigK seed text).mul (secS seed)) _ (mulP baseP (sigR seed text) 253) hs ht h3 h1 h2 (S4.bytes_len _) (zcf _) (zcf _)
  (zuh seed hs) (zxn seed (by omega)) (zxp [secB seed,text] (by rw[z34,aL];omega)) (zrr _ (by rw[zcf];omega)) (λb hb=>by rw[hb];exact zrp baseP (sigR seed text)) (zxu _)
  (zxp [sigP seed text,pubS seed,text] (by rw[zeib,aL,aL];omega)) (zrr _ (by rw[zcf];omega)) (zgwb _ _) (zgub _ _) (z8n _)
theorem zv4(seed:List UInt8)(hs:seed.length≠32):aG 50 [bs seed] (.r (.tu [bs [], .i .u8 1])):=by
 refine aT Tryz.func50 rfl ?_
 refine zt (by simp only[zb];omega) (zp ?_)
 exact⟨_,rfl,Cv.tu (zk (Cv.nil 1) (zn _))⟩
theorem z49(seed text:List UInt8)(hs:seed.length≠32):aG 135 [bs seed,bs text] (.r (.tu [bs [], .i .u8 1])):=by
 refine aT Tryz.func135 rfl ?_
 refine ze (zv4 seed hs) ?_
 refine zt rfl (zp ?_)
 exact⟨_,rfl,Cv.tu (zk (Cv.nil 1) (zn _))⟩
def exp1(s info:List UInt8)(n:Nat):List UInt8:=(macB s (info++[1])).take n
theorem zln(s info:List UInt8){n:Nat}(hn:n<=32):(exp1 s info n).length=n:=by
 unfold exp1
 rw[List.length_take,zbm]
 omega
def mlsB:List UInt8:=[77,76,83,32,49,46,48,32]
def labB(s label ctx:List UInt8)(n:Nat):List UInt8:=exp1 s (beB 2 n++vecB (mlsB++label)++vecB ctx) n
theorem Cv.sl{sz n:Nat}{cs ds:List RV}(h:Cvs cs ds):Cv (.sl sz n cs) (.sl sz n ds):=λw k v hv=>by
 simp only[RV.at_]at hv⊢
 obtain⟨a,c,e,h1,h2,h3,h4⟩:=hv
 exact⟨a,c,e,h1,h2,by rw[h.length];exact h3,λhn=>by obtain⟨b,o,ea,hb,hc⟩:=h4 hn;exact⟨b,o,ea,hb,h.cells hc⟩⟩
theorem zt6(s info:List UInt8)(n:Nat)(hn:1<=n/\n<=32)(hs:s.length<=1000000000)(hi:info.length<=1000000000):aG 206 [bs s,bs info,I n] (.r (.tu [bs (exp1 s info n),Er 0])):=by
 refine aT Tryz.func206 rfl ?_
 have hm:=zbm s (info++[1])
 refine Vcode.scope mixed Tab_ok 0 (λ_:Unit=>{F:=[(0, .r (bs s)),(1, .r (bs info)),(2, .r (I n)),(8, .own 0)],O:=[(0,some (.ch 5 1 32 ((macB s (info++[1])).map U8) true))],nx:=1}) (λ_=>True) (λ_=>0) rfl ?_ ?_
 ·refine zu (decide_eq_false (by omega)) ?_
  refine zu (decide_eq_false (by omega)) (zq ?_)
  refine zt (decide_eq_true (by omega)) (zp ?_)
  refine Vint.u8 1 rfl ?_
  refine zw ?_
  refine zw ?_
  refine Vcall.mk' (zrm s [[],info,[1]] hs (by simp;omega)) (zk (cr) (zk (Cv.sl (zk (Cv.nil _) (zn _))) Cvs.nil)) ?_
  refine Vapp.mk' (j:=32) (zs:=(macB s (info++[1])).map U8) (by simp[maxLen,zbm]) (by simp[zbm]) (by simp[zbm]) (by simp) ?_
  exact⟨(),trivial,zac [(0,3)] rfl ⟨cr,cr,cr,rfl,trivial⟩ ⟨⟨rfl,rfl,rfl,rfl,zn _⟩,trivial⟩⟩
 ·intro _ _
  refine zu (decide_eq_false (by omega)) (zq ?_)
  refine⟨by omega,by omega,by omega,n,(exp1 s info n).map U8,by omega,?_,?_⟩
  ·unfold exp1;rw[List.map_take];simp
  ·refine⟨_,rfl,zf ?_⟩
   simp only[bs,zln s info hn.2]
   rfl
theorem zql(s:ByteArray):((⟨#[77,76,83,32,49,46,48,32]⟩:ByteArray)++s).data.toList=mlsB++s.data.toList:=by simp[mlsB]
theorem zsq(s t:ByteArray):(s++t).size=s.size+t.size:=by simp
theorem zw8(s:List UInt8)(label:ByteArray)(ctx:List UInt8)(n:Nat)(hn:1<=n/\n<=32)(hs:s.length<=1000000000)(hl:label.size<=1048576)(hc:ctx.length<=1048576):
  aG 119 [bs s,Str label,bs ctx,I n] (.r (.tu [bs (labB s (sB label) ctx n),Er 0])):=by
 refine aT Tryz.func119 rfl ?_
 refine zu (decide_eq_false (by omega)) ?_
 refine zu (decide_eq_false (by omega)) (zq ?_)
 refine zu (decide_eq_false (by omega)) ?_
 refine zu (decide_eq_false (by omega)) (zq ?_)
 refine Vint.u64 n rfl (by omega) ?_
 refine Vcall.mk' (zet [] 2 n (by simp) (.inr (.inl rfl))) (zk (Cv.nil _) (zn _)) ?_
 have hd:=zql label
 have hsz:label.data.toList.length=label.size:=rfl
 have hml:mlsB.length=8:=rfl
 refine⟨by show 8+label.size<=_;omega,?_⟩
 refine⟨by rw[zsq];show 8+label.size<=_;omega,?_⟩
 have hb:(beB 2 n).length=2:=zak 2 n
 refine ze (zbl ([]++beB 2 n) ((⟨#[77,76,83,32,49,46,48,32]⟩:ByteArray)++label).data.toList (by simp[hb]) (by rw[hd,aL];omega)) ?_
 rw[hd]
 have hv:=zag (mlsB++label.data.toList)
 have hv2:=zag ctx
 rw[aL]at hv
 refine ze (zbl ([]++beB 2 n++vecB (mlsB++label.data.toList)) ctx (by simp only[aL,List.length_nil,hb];omega) (by omega)) ?_
 refine ze (zt6 s ([]++beB 2 n++vecB (mlsB++label.data.toList)++vecB ctx) n hn hs (by simp only[aL,List.length_nil,hb];omega)) ?_
 exact⟨_,rfl,cr⟩
theorem zc2(s:List UInt8)(label:ByteArray)(hs:s.length<=1000000000)(hl:label.size<=1048576):aG 45 [bs s,Str label] (.r (bs (labB s (sB label) [] 32))):=by
 refine aT Tryz.func45 rfl ?_
 refine Vcall.mk' (zw8 s label [] 32 (by omega) hs hl (by simp)) (zk (cr) (zk (cr) (zk (Cv.nil _) (zn _)))) ?_
 exact cr
def zl:Leaf:=⟨[],[],[],0,[],[]⟩
def z6g(l:List Stub)(x:Int):List UInt8:=((l.find? λs=>decide (s.at_=x)).map (·.hash)).getD []
theorem zig:Tryz.prog.underlying 3=some (.int .i64):=by kernel_rfl
theorem zk9:Tryz.prog.underlying 330=some (.map 3 40):=by kernel_rfl
theorem zqy:Tryz.prog.underlying 331=some (.map 3 22):=by kernel_rfl
def zbw(l:List Spot):List (Int×RV):=l.map λs=>(s.at_,RV.ag s.node.c)
def zb2(l:List Stub):List (Int×RV):=l.map λs=>(s.at_,bs s.hash)
def idxF(q:Int->Bool):Nat->List Int->Int
 |_,[]=> -1
 |j,x::r=>if q x then(j:Int)else idxF q (j+1) r
theorem z18(q:Int->Bool): ∀(l:List Int) (j:Nat), -1<=idxF q j l/\idxF q j l< (j+l.length:Nat)/\(0<=idxF q j l↔l.any q=true)
 |[],j=>by simp[idxF];omega
 |x::r,j=>by
  have ih:=z18 q r (j+1)
  rw[idxF,List.any_cons,List.length_cons]
  by_cases hq:q x=true
  ·rw[if_pos hq,hq]
   exact⟨by omega,by omega,by simp⟩
  ·rw[if_neg hq,Bool.eq_false_iff.2 hq,Bool.false_or]
   exact⟨ih.1,by omega,ih.2.2⟩
theorem z0j(l:List Int)(D:Int->Prop)(q:Int->Bool)(hl:l.length<=1000000000)(hD: ∀x∈l,D x):aG 292 [is l, .s (cloS aP I D q)] (.r (I (idxF q 0 l))):=by
 refine aT Tryz.func292 rfl ?_
 refine zy (λj:Nat=>{F:=[(0, .r (is l)),(1, .r (.s (cloS aP I D q))),(7, .r (I l.length)),(8, .r (I j))],O:=[],nx:=0}) (λj=>j<=l.length/\idxF q 0 l=idxF q j (l.drop j)) (λj=>l.length-j) 0 ⟨by omega,by simp⟩ (zac [] rfl ⟨cr,cr,cr,cr,trivial⟩ trivial) ?_
 rintro j ⟨hj,he⟩
 refine zh (λh=>zp ?_) (λh=>zq ?_)
 ·simp only[zb]at h
  have hj':j<l.length:=by omega
  rw[List.drop_eq_getElem_cons hj']at he
  simp only[idxF]at he
  refine zm (by omega) (by omega) (za3 rfl hj') (zg rfl ?_)
  refine Vstep.cloB l[j] rfl rfl rfl rfl (cr) (hD _ (List.getElem_mem hj')) (λhq=>zp ?_) (λhq=>zq ?_)
  ·rw[hq]at he
   exact zf (by rw[he];simp)
  ·rw[hq]at he
   refine zd (m:=((j+1:Nat):Int)) (by omega) (by omega) ?_
   exact⟨j+1,⟨hj',by rw[he];simp⟩,by omega,zac [] rfl ⟨cr,cr,cr,cr,trivial⟩ trivial⟩
 ·simp only[zb]at h
  rw[List.drop_eq_nil_of_le (by omega)]at he
  exact zf (by rw[he];rfl)
theorem zkm(l:List Int)(D:Int->Prop)(q:Int->Bool)(hl:l.length<=1000000000)(hD: ∀x∈l,D x):aG 503 [is l, .s (cloS aP I D q)] (.r (.b (l.any q))):=by
 refine aT Tryz.func503 rfl ?_
 refine ze (z0j l D q hl hD) ?_
 exact Vcmp.mk' rfl (zf (congrArg RV.b (by rw[Bool.eq_iff_iff,decide_eq_true_eq];exact(z18 q l 0).2.2)))
def zjw(u:Int):Prop:=0<=u/\u<65536
def zgi(x:Int):Nat:=if x.tmod 2=1 then 1 else 2
def ze2(x:Int)(n:Node):Bool:=n.right&&(decide (n.kind.toNat≠zgi x)&&n.par.late.all λu=>ze1 (2*u) x)
theorem zffb(l:List Int)(q:Int->Bool):(!l.any λu=> !q u)=l.all q:=by
 induction l with
 |nil=>rfl
 |cons x r ih=>simp[List.any_cons,List.all_cons,Bool.not_or,ih]
theorem Node.right_late{n:Node}(h:n.right=true): ∀u∈n.par.late,zjw u:=by
 unfold Node.right at h
 split at h
 ·simp only[Bool.and_eq_true]at h
  have:=h.2
  simp only[Par.none,decide_eq_true_eq,List.length_eq_zero_iff]at this
  rw[this.2.2];simp
 ·split at h
  ·simp only[Bool.and_eq_true]at h
   have:=h.2
   simp only[Par.none,decide_eq_true_eq,List.length_eq_zero_iff]at this
   rw[this.2.2];simp
  ·split at h
   ·simp only[Bool.and_eq_true]at h
    exactλu hu=>Par.right_bd h.2 u hu
   ·cases h
theorem za2b:(Tryz.prog.info? 40).bind (·.zero)=some (.agg #[.int .u8 0, .slice none 0 0, .slice none 0 0, .slice none 0 0, .int .u8 0, .slice none 0 0, .slice none 0 0, .slice none 0 0, .slice none 0 0, .slice none 0 0]):=by kernel_rfl
theorem zinb:(Tryz.prog.info? 22).bind (·.zero)=some (.slice none 0 0):=by kernel_rfl
theorem zfbb(w:World)(k:Kp):(RV.ag zc).at_ w k (.agg #[.int .u8 0, .slice none 0 0, .slice none 0 0, .slice none 0 0, .int .u8 0, .slice none 0 0, .slice none 0 0, .slice none 0 0, .slice none 0 0, .slice none 0 0]):=by
 simp only[RV.at_]
 refine⟨_,rfl,?_⟩
 exact zh7 [.int .u8 0, .slice none 0 0, .slice none 0 0, .slice none 0 0, .int .u8 0, .slice none 0 0, .slice none 0 0, .slice none 0 0, .slice none 0 0, .slice none 0 0] (by simp[Value.oneCell'])
def zhh(l:List Stub)(x:Int):Option (List UInt8):=(l.find? λs=>decide (s.at_=x)).map (·.hash)
theorem zge: ∀(l:List Spot) (x:Int),zcg (zbw l) x=(zbk l x).map λn=> .ag n.c
 |[],x=>rfl
 |s::l,x=>by
  have ih:=zge l x
  simp only[zbw,zbk,List.map_cons,zcg,List.find?_cons]at*
  by_cases h:s.at_=x
  ·simp[h]
  ·simp[h,ih]
theorem zma: ∀(l:List Stub) (x:Int),zcg (zb2 l) x=(zhh l x).map bs
 |[],x=>rfl
 |s::l,x=>by
  have ih:=zma l x
  simp only[zb2,zhh,List.map_cons,zcg,List.find?_cons]at*
  by_cases h:s.at_=x
  ·simp[h]
  ·simp[h,ih]
section
variable {S:St} {o:Oper}
theorem Vstep.node2{x y:Operand}{n:Int}{l:List Spot}{K:St->Prop}(hop:o.op= .lookup 330 x y true)(hx:opr S x=some (.r (.s (mapS (zbw l)))))(hy:opr S y=some (.r (.i .i64 n)))
  (h1: ∀m,zbk l n=some m->newK S o.dst (.r (.tu [.ag m.c, .b true])) none K) (h0:zbk l n=none->newK S o.dst (.r (.tu [.ag zc, .b false])) none K):Vstep aP S o K:=by
 refine Vstep.look2 (.ag zc) hop hx hy zk9 zig za2b zfbb (λr hr=>?_) (λhr=>?_)
 ·rw[zge,Option.map_eq_some_iff]at hr
  obtain⟨m,hm,rfl⟩:=hr
  exact h1 m hm
 ·rw[zge,Option.map_eq_none_iff]at hr
  exact h0 hr
theorem Vstep.node1{x y:Operand}{n:Int}{l:List Spot}{K:St->Prop}(hop:o.op= .lookup 330 x y false)(hx:opr S x=some (.r (.s (mapS (zbw l)))))(hy:opr S y=some (.r (.i .i64 n)))
  (h1: ∀m,zbk l n=some m->newK S o.dst (.r (.ag m.c)) none K) (h0:zbk l n=none->newK S o.dst (.r (.ag zc)) none K):Vstep aP S o K:=by
 refine Vstep.look1 (.ag zc) hop hx hy zk9 zig za2b zfbb (λr hr=>?_) (λhr=>?_)
 ·rw[zge,Option.map_eq_some_iff]at hr
  obtain⟨m,hm,rfl⟩:=hr
  exact h1 m hm
 ·rw[zge,Option.map_eq_none_iff]at hr
  exact h0 hr
theorem Vstep.hash1{x y:Operand}{n:Int}{l:List Stub}{K:St->Prop}(hop:o.op= .lookup 331 x y false)(hx:opr S x=some (.r (.s (mapS (zb2 l)))))(hy:opr S y=some (.r (.i .i64 n)))
  (h1: ∀m,zhh l n=some m->newK S o.dst (.r (bs m)) none K) (h0:zhh l n=none->newK S o.dst (.r (.x (.slice none 0 0))) none K):Vstep aP S o K:=by
 refine Vstep.look1 (.x (.slice none 0 0)) hop hx hy zqy zig zinb (λ_ _=>by simp[RV.at_]) (λr hr=>?_) (λhr=>?_)
 ·rw[zma,Option.map_eq_some_iff]at hr
  obtain⟨m,hm,rfl⟩:=hr
  exact h1 m hm
 ·rw[zma,Option.map_eq_none_iff]at hr
  exact h0 hr
end
theorem zaob(k:Nat):(nd 0 k:Int).tmod 2=0:=by rw[z2k,Int.tmod_eq_emod_of_nonneg (by omega)];omega
theorem zd3b(h k:Nat):(nd (h+1) k:Int).tmod 2=1:=by rw[zhfb,Int.tmod_eq_emod_of_nonneg (by omega)];omega
theorem z7a{l:List Spot}{x:Int}{n:Node}(h:zbk l x=some n): ∃s∈l,s.at_=x/\s.node=n:=by
 simp only[zbk,Option.map_eq_some_iff]at h
 obtain⟨s,hs,rfl⟩:=h
 exact⟨s,List.mem_of_find?_eq_some hs,by simpa using List.find?_some hs,rfl⟩
theorem Vsem.field{P:Program}{T:TT}{S:St}{o:Oper}(hT:TOk P T){t:TypeId}{x:Operand}{i off:Nat}{ft:TypeId}{ti tf:TI}{fs:List (Nat×TypeId)}{cells:List RV}{rv:RV}{K:TF->Option Ow->Prop}(hop:o.op= .field t x i)(hti:tget T t=some ti)(hk:ti.k= .struct fs)(hfs:lget fs i=some (off,ft))(htf:tget T ft=some tf)(hag:tf.agg=false)
  (hx:opr S x=some (.r (.ag cells))) (hc:lget cells off=some rv) (hK:K (.r rv) none):Vsem P S o K:=by
 refine⟨_,_,λB N a w k Q ⟨g,hs⟩ hd=>?_,hK⟩
 have hv:=(zaf hs hx).2
 simp only[TF.at_,RV.at_]at hv
 obtain⟨us,e,hl⟩:=hv
 rw[zat]at hc hfs
 have hul:=(RV.listAt_iff _ _).1 hl
 have hlt:off<us.toList.length:=by rw[hul.1];exact(List.getElem?_eq_some_iff.1 hc).1
 have hu:us.toList[off]?=some us.toList[off]:=List.getElem?_eq_getElem hlt
 have h1:=hul.2 off rv _ hc hu
 obtain⟨q,hq⟩:=hT.get hti
 obtain⟨d,hdd,hko,_⟩:=q.desc
 rw[hq]at hdd
 rw[hk]at hko
 obtain⟨fields,rfl,hfl⟩:=hko
 obtain⟨qf,hqf⟩:=hT.get htf
 obtain⟨df,hdf,_,hrow⟩:=qf.desc
 rw[hqf]at hdf
 rw[hag]at hrow
 have hagg:(isAgg ft).run P w= .ok false w:=by
  unfold isAgg
  rw[Sem.run_bind,run_underlying hdf w]
  cases df<;>simp_all [TypeDesc.isRow]
 rw[<-hfl,List.getElem?_map]at hfs
 cases hfi:fields.toList[i]? with
 |none=>simp[hfi]at hfs
 |some fd=>
  simp only[hfi,Option.map_some,Option.some.injEq,Prod.mk.injEq]at hfs
  obtain⟨rfl,rfl⟩:=hfs
  have hfa:fields[i]?=some fd:=by simpa using hfi
  have hua:us[fd.offset]?=some us.toList[fd.offset]:=by rw[<-Array.getElem?_toList];exact hu
  refine zau (v:=us.toList[fd.offset]) (w':=w) ?_ ⟨k,g,hs.put hd trivial h1.2⟩
  simp[execOp,hop,Instr.field,run_underlying hdd w,hfa,e,part,hagg,hua,asAgg]
theorem ztt{α:Type}{p:α->Bool}{l:List α}{x:α}(hx:x∈l)(h:p x=false):l.all p=false:=by
 rw[List.all_eq_false];exact⟨x,hx,by simp[h]⟩
def zhu(i:Int)(n:Node):List UInt8:=if i<0\/65536<=i then[]else if n.right=false\/n.kind.toNat=2 then[]else zjy i n
def zyg(i:Int)(n:Node):Int:=if i<0\/65536<=i then 1 else if n.right=false\/n.kind.toNat=2 then 3 else 0
theorem z0l(i:Int)(n:Node)(hn:n.fit):aG 314 [I i, .ag n.c] (.r (.tu [bs (zhu i n), .i .u8 (zyg i n)])):=by
 have:=z4f i n hn
 unfold zhu zyg
 by_cases h1:i<0\/65536<=i
 ·rw[if_pos h1]at this;rw[if_pos h1,if_pos h1];exact this
 ·rw[if_neg h1]at this;rw[if_neg h1,if_neg h1]
  by_cases h2:n.right=false\/n.kind.toNat=2
  ·rw[if_pos h2]at this;rw[if_pos h2,if_pos h2];exact this
  ·rw[if_neg h2]at this;rw[if_neg h2,if_neg h2];exact this
theorem z89(i:Int)(n:Node)(hn:n.fit):(zhu i n).length<=50000000000:=by
 have:=zgy n hn
 unfold zhu zjy
 split
 ·simp
 ·split
  ·simp
  ·simp[zak];omega
theorem zu8{l:List Stub}{x:Int}{m:List UInt8}(h:zhh l x=some m):z6g l x=m/\∃s∈l,s.at_=x/\s.hash=m:=by
 simp only[zhh]at h
 refine⟨by simp[z6g,h],?_⟩
 rw[Option.map_eq_some_iff]at h
 obtain⟨s,hs,rfl⟩:=h
 exact⟨s,List.mem_of_find?_eq_some hs,by simpa using List.find?_some hs,rfl⟩
theorem z38{α β:Type}{f:β->α->β}{b:β}{l:List α}{j:Nat}(hj:j<l.length):(l.take (j+1)).foldl f b=f ((l.take j).foldl f b) l[j]:=by
 rw[List.take_add_one,List.getElem?_eq_getElem hj,List.foldl_append];rfl
def inR(h k:Nat)(x:Int):Prop:=((k*2^(h+1):Nat):Int)<=x/\x+2<=((k*2^(h+1)+2^(h+1):Nat):Int)
theorem z2j(k h:Nat):2*k*2^(h+1)=k*2^(h+1+1):=by rw[Nat.pow_succ 2 (h+1),Nat.mul_comm 2 k,Nat.mul_assoc,Nat.mul_comm 2]
theorem zc8b(k h:Nat):(2*k+1)*2^(h+1)=k*2^(h+1+1)+2^(h+1):=by rw[Nat.add_mul,z2j,Nat.one_mul]
theorem zi7(h k:Nat):inR h k (nd h k):=by
 have hp:=zal h
 unfold inR nd
 rw[Nat.pow_succ 2 h]
 generalize k*(2^h*2)=q
 omega
abbrev zlp(O:List Spot)(z:Int):Bool:=(zbk O z).isSome
theorem zdib{d:Nat}(hd:d<=16):2^d<=65536:=Nat.pow_le_pow_right (n:=2) (by omega) (show d<=16 from hd)
theorem zb4{S:St}(pub:Bool)(id i:Nat)(e:TypeId)(sz:Nat){cells:List TF}(ho:oget S.O id=some (.box cells))(hc:cells[i]?=some (.r (.x (.slice none 0 0)))):
  Sub S {F:=S.F,O:=(id,some (.box (cells.set i (.own S.nx))))::(S.nx,some (.ch e sz 0 [] pub))::S.O,nx:=S.nx+1}:=by
 rintro B N a w k ⟨g,hs⟩
 have h:=hs.adopt (dst:=none) (λd hd=>by cases hd) (o:= .ch e sz 0 [] pub) (vb:=(.slice none 0 0,none)) trivial ⟨by simp, .inl ⟨rfl, .inl ⟨rfl,none,rfl⟩⟩⟩ (λb hb=>by cases hb) (λi o' b _ hb=>by cases hb)
 have e0:a.put none (.slice none 0 0)=a:=rfl
 simp only[St.mk_]at h
 rw[e0]at h
 obtain⟨p1,p2,p3,p4⟩:=hs.owns id _ ho
 have hid:oget ((S.nx,some (Ow.ch e sz 0 [] pub))::S.O) id=some (.box cells):=by
  simp only[oget]
  split
  ·rename_i hb;have:=Nat.eq_of_beq_eq_true hb;omega
  ·exact ho
 have hg:(g.set S.nx ((Value.slice none 0 0),none)) S.nx=((Value.slice none 0 0),none):=by rw[Env.set_eq]
 have old: ∀x ox,oget ((id,some (Ow.box (cells.set i (.own S.nx))))::(S.nx,some (Ow.ch e sz 0 [] pub))::S.O) x=some ox->∃ox',oget ((S.nx,some (Ow.ch e sz 0 [] pub))::S.O) x=some ox':=λx ox hx=>by
  rcases zas hx with⟨rfl,_⟩ |⟨_,h'⟩
  ·exact⟨_,hid⟩
  ·exact⟨_,h'⟩
 refine⟨k,_,h.size,h.defers,h.keep,h.kk,h.facts,λj o' ho'=>?_,λx y ox oy b hx hy hne hb=>?_⟩
 ·rcases zas ho' with⟨rfl,e'⟩ |⟨hne,h'⟩
  ·cases e'
   obtain⟨q1,q2,q3,q4⟩:=h.owns _ _ hid
   refine⟨q1,λf hf=>?_,?_,q4⟩
   ·rcases List.mem_or_eq_of_mem_set hf with hf |rfl
    ·exact q2 f hf
    ·exact Nat.lt_succ_self _
   ·obtain⟨b,cur,t,e1,e2,e3,e4,e5⟩:=q3
    refine⟨b,cur,t,e1,e2,e3,by simpa using e4,λj f u hf hu=>?_⟩
    rw[List.getElem?_set]at hf
    split at hf
    ·rename_i hij
     subst hij
     split at hf
     ·cases hf
      obtain⟨u1,u2⟩:=e5 i _ u hc hu
      simp only[TF.at_,RV.at_]at u2
      exact⟨u1,by simp only[TF.at_];rw[hg];exact u2⟩
     ·cases hf
    ·exact e5 j f u hf hu
  ·exact h.owns j o' h'
 ·obtain⟨ox',hx'⟩:=old x ox hx
  obtain⟨oy',hy'⟩:=old y oy hy
  exact h.apart x y ox' oy' b hx' hy' hne hb
theorem cvc{ρ:List (Nat×Nat)}{S:St}{f g:TF}{fs gs:List TF}(h:cvTF ρ S f g)(r:zfz ρ S fs gs):zfz ρ S (f::fs) (g::gs):=⟨_,_,rfl,h,r⟩
abbrev zcw(L:List Spot):Ow:= .ch 241 11 L.length (L.flatMap Spot.c) true
abbrev zcx(L:List Stub):Ow:= .ch 432 2 L.length (L.flatMap Stub.c) true
abbrev zero4:List RV:=[I 0,I 0, .x (.slice none 0 0), .x (.slice none 0 0)]
theorem ze3(n:Node)(hn:n.fit)(hcl:aG 128 [.ag n.leaf.c] (.r (.ag n.leaf.c))):aG 196 [.ag n.c] (.r (.ag n.c)):=by
 refine aT Tryz.func196 rfl ?_
 obtain⟨h1,h2⟩:=hn
 refine za rfl rfl ?_
 refine ze hcl ?_
 refine aV ?_
 refine ze (zbx n.par.box (by have:=h2.1;omega)) ?_
 refine ze (zbx n.par.hash (by have:=h2.2.1;omega)) ?_
 refine ze (zbib n.par.late (by have:=h2.2.2.1;omega)) ?_
 refine za rfl rfl ?_
 refine za rfl rfl ?_
 exact cr
end Go.Proofs.YtkegaaonpekkgaaGreat.Sx
