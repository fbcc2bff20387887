import Derived.Test.YtfjkblpnbgfkeaaGreatZFs
import Derived.Test.YtfjkblpnbgfkeaaGreatZEn
import Derived.Test.YtfjkblpnbgfkeaaGreatZSxU
import Derived.Test.YtfjkblpnbgfkeaaGreatZKu
import Derived.Test.YtfjkblpnbgfkeaaGreatZSxSt
import Derived.Test.YtfjkblpnbgfkeaaGreatZWalkR14B
namespace Go.Proofs.YtfjkblpnbgfkeaaGreat.Sx
open Go.RowKit
section
section
variable {P:Program} {T:TT} {S:St}
theorem z15{id t n:Nat}(vs:List RV)(hf:fget S.F t=some (.cut id 0 n))(ho:oget S.O id=some (.box (vs.map .r)))(hn:vs.length=n):Sub S ⟨(t, .r (.sl 1 n vs))::S.F,(id,none)::S.O,S.nx⟩:=by
 rintro B N a w k ⟨g,hs⟩
 obtain⟨b,k',hg,hle,hb,hc,h⟩:=hs.pub ho
 have hv:=(hs.facts t _ hf).2
 simp only[TF.at_]at hv
 obtain⟨b',c,e,hv,h1,h2⟩:=hv
 rw[hg]at e
 cases e
 refine⟨k',g,h.size,h.defers,h.keep,h.kk,λt' f hf'=>?_,h.owns,h.apart⟩
 rcases zbf hf' with⟨rfl,rfl⟩ |⟨_,hf'⟩
 ·refine⟨trivial,?_⟩
  simp only[TF.at_,RV.at_]
  exact⟨_,c,hv,h1,h2,by rw[Nat.mul_one];exact hn,λ_=>⟨b,0,rfl,hb,hc⟩⟩
 ·exact h.facts t' f hf'
theorem Vcode.sub(hm:P.follows .mixedOrders=true)(hT:TOk P T){c:Code}{S':St}{Q:Exit->St->Prop}(hs:Sub S S')(h:vcg P T c S' Q):Vcode P c S Q:=
 ⟨λB N a w k Q' h0 hd hQ=>by
  obtain⟨k',h1⟩:=hs B N a w k h0
  exact zav hm hT c S' Q h B N a w k' Q' h1 hd hQ⟩
theorem Vstep.actsNew{o:Oper}{l:List RV}{f:FuncId}{args:List TF}{n:Nat}{K:St->Prop}(hA:Acts P f 0 [] args [] 1 [(0, .box (l.map .r))] (.cut 0 0 n))(hcall:Handed P S o [] f args)
  (hK:newK ⟨S.F,(S.nx,some (.box (l.map .r)))::S.O,S.nx+1⟩ o.dst (.cut S.nx 0 n) none K):Vstep P S o K:=by
 refine zj [] [] (λ_ _=>hA) hcall rfl trivial trivial ?_
 rw[zl1]
 rw[zau]at hK
 have e:(l.map TF.r).map (zej (ren [] [] S.nx))=l.map TF.r:=by
  rw[List.map_map]
  exact List.map_congr_left λx _=>rfl
 have e2:zl2 [] [] S 1 [(0, .box (l.map .r))] (.cut 0 0 n) o.dst=St.new ⟨S.F,(S.nx,some (.box (l.map .r)))::S.O,S.nx+1⟩ o.dst (.cut S.nx 0 n) none:=by
  show St.put ⟨S.F,(S.nx,some (.box ((l.map TF.r).map (zej (ren [] [] S.nx)))))::S.O,S.nx+1⟩ o.dst (.cut S.nx 0 n)=_
  rw[e]
  rfl
 rw[e2]
 exact hK
end
set_option maxRecDepth 100000 in
theorem za5b(ls:List (List UInt8))(hl:(ls.flatMap id).length<=10000000000):Acts Tryz.prog 190 0 [] [.r (bss ls)] [] 1 [(0,boxB (zd0 ls))] (.cut 0 0 64):=by
 refine zb4 (T:=Tab) mixed Tab_ok Tryz.func190 rfl (by kernel_rfl) rfl trivial ?_
 refine ze (zio ls (by omega)) ?_
 refine ze (zy3 (ls.flatMap id) hl) ?_
 (conv=>whnf)
 generalize hq:(zbg _&&_)=q
 obtain rfl:=hq.symm.trans (zpk (l:=(zd0 ls).map U8) 64 (by rw[List.length_map,zcu]) rfl)
 clear hq
 refine zi2 (by rw[List.length_map,List.length_map];show(List.replicate 64 (Value.int .u8 0)).length=_;rw[List.length_replicate];exact(zcu ls).symm) ?_
 refine Vstep.val Tab_ok (Vcutn.mk' 0 64 rfl rfl (by decide) (by decide) ?_)
 exact zbx (.inl rfl) [(0,1)] [(2, .cut 0 0 64)] [] (by have h:=zfh ((zd0 ls).map U8) 1;simp only[stOk,lift,boxB,List.map_cons,List.map_nil,List.append_nil,List.all_cons,List.all_nil,zeu,h];rfl) ⟨⟨rfl,rfl,rfl⟩,trivial⟩ ⟨zad _,trivial⟩ trivial rfl
theorem z3t{l:List UInt8}{j:Nat}(h:j<l.length):lget ((l.map U8).map TF.r) (0+j*1)=some (TF.r (U8 (l.getD j 0))):=by
 rw[zan,Nat.zero_add,Nat.mul_one]
 exact zyy h
theorem zu5{x:UInt8}{l:List UInt8}{j:Nat}(h:j<l.length):(zbg (U8 x)&&(Nat.beq (cellsOf (U8 x)).length 1&&Nat.ble (0+j*1+1) ((l.map U8).map TF.r).length))=true:=by
 rw[Nat.zero_add]
 exact zyp h
theorem ztq{l:List UInt8}{j:Nat}{x:UInt8}{K:List TF->Prop}(h:j<l.length)(hK:K (((l.set j x).map U8).map TF.r)):putK ((l.map U8).map TF.r) (0+j*1) [TF.r (U8 x)] K:=by
 rw[Nat.zero_add]
 exact zwt h hK
theorem z9e(l:List UInt8)(n:Nat)(h:l.length=n):RV.sl 1 n (l.map U8)=bs l:=by rw[<-h];rfl
def zhk(h:List UInt8):List UInt8:=h.set 0 (h.getD 0 0&&& ~~~7)
def zfa(h:List UInt8):List UInt8:=(zhk h).set 31 (((zhk h).getD 31 0&&&63)|||64)
theorem z4l(h:List UInt8):(zhk h).length=h.length:=by simp[zhk]
theorem zs9(h:List UInt8):(zfa h).length=h.length:=by simp[zfa,zhk]
def secS(seed:List UInt8):S4:=scOf ((zfa (zd0 [seed])).take 32)
def secB(seed:List UInt8):List UInt8:=(zfa (zd0 [seed])).drop 32
set_option maxHeartbeats 1000000 in
theorem zvl(seed:List UInt8)(hs:seed.length<=1000000000):zab Tryz.prog 188 [bs seed] (.r (.tu [.ag (secS seed).v,bs (secB seed)])):=by
 refine zaa (T:=Tab) mixed Tab_ok Tryz.func188 rfl (by kernel_rfl) ?_
 refine Vpub.own ?_
 refine Vstep.sub (zbw (id:=1) rfl) (Vstep.actsNew (za5b [seed] (by simp;omega)) (zi rfl ⟨_,_,rfl,cr,rfl⟩) ?_)
 have hh:secS seed=scOf ((zfa (zd0 [seed])).take 32):=rfl
 have hb:secB seed=(zfa (zd0 [seed])).drop 32:=rfl
 have hl:=zcu [seed]
 rw[hh,hb]
 generalize zd0 [seed]=h at*
 have hl0:(zhk h).length=64:=by rw[z4l,hl]
 have hlB:(zfa h).length=64:=by rw[zs9,hl]
 refine Vadr.mk' 0 rfl (by decide) ?_
 (conv=>whnf)
 generalize hq:lget _ _=q
 obtain rfl:=hq.symm.trans (z3t (l:=h) (j:=0) (by omega))
 clear hq
 refine Vbits.andn8 _ 7 rfl rfl ?_
 refine Vadr.mk' 0 rfl (by decide) ?_
 (conv=>whnf)
 generalize hq:(zbg _&&_)=q
 obtain rfl:=hq.symm.trans (zu5 (x:=h.getD 0 0&&& ~~~7) (l:=h) (j:=0) (by omega))
 clear hq
 refine ztq (l:=h) (j:=0) (by omega) ?_
 refine Vadr.mk' 31 rfl (by decide) ?_
 (conv=>whnf)
 generalize hq:lget _ _=q
 obtain rfl:=hq.symm.trans (z3t (l:=zhk h) (j:=31) (by omega))
 clear hq
 refine Vbits.and8 _ 63 rfl rfl ?_
 refine Vbits.or8 _ 64 rfl rfl ?_
 refine Vadr.mk' 31 rfl (by decide) ?_
 (conv=>whnf)
 generalize hq:(zbg _&&_)=q
 obtain rfl:=hq.symm.trans (zu5 (x:=((zhk h).getD 31 0&&&63)|||64) (l:=zhk h) (j:=31) (by omega))
 clear hq
 refine ztq (l:=zhk h) (j:=31) (by omega) ?_
 refine Vdraw.code (Vcode.sub mixed Tab_ok (z15 (t:=4) (n:=64) ((zfa h).map U8) rfl rfl (by rw[List.length_map,hlB])) ?_)
 refine Vdraw.mk' (by kernel_rfl) ?_
 have ht:((zfa h).take 32).length=32:=by rw[List.length_take,hlB];rfl
 have hd:((zfa h).drop 32).length=32:=by rw[List.length_drop,hlB]
 have hsc:=zvp ((zfa h).take 32) (by omega)
 rw[<-z9e _ _ ht]at hsc
 rw[<-z9e _ _ hd]
 refine⟨by decide,by decide,by decide,32,((zfa h).take 32).map U8,rfl,by rw[List.map_take];rfl,?_⟩
 refine ze hsc ?_
 refine⟨by decide,by decide,by decide,32,((zfa h).drop 32).map U8,rfl,by rw[List.map_drop];exact List.take_of_length_le (by rw[List.length_drop,List.length_map,hlB];decide),?_⟩
 refine za rfl rfl ?_
 exact⟨_,rfl,cr⟩
end
section
theorem z4j(seed:List UInt8)(hs:seed.length=32):zab Tryz.prog 149 [bs seed] (.r (.ag (secS seed).v)):=by
 refine zaa (T:=Tab) mixed Tab_ok Tryz.func149 rfl (by kernel_rfl) ?_
 refine zh (λh=>?_) (λh=>zq ?_)
 ·simp only[zb]at h
  exact absurd hs (by omega)
 refine ze (zvl seed (by omega)) ?_
 refine za rfl rfl ?_
 refine za rfl rfl ?_
 exact cr
def pubS(seed:List UInt8):List UInt8:=(mulP baseP (secS seed) 253).bytes
theorem zlj(seed:List UInt8):(pubS seed).length=32:=Pt.bytes_len _
theorem zs7(seed:List UInt8)(hs:seed.length=32):zab Tryz.prog 96 [bs seed] (.r (.tu [bs (pubS seed), .i .u8 0])):=by
 refine zaa (T:=Tab) mixed Tab_ok Tryz.func96 rfl (by kernel_rfl) ?_
 refine zh (λh=>?_) (λh=>zq ?_)
 ·simp only[zb]at h
  exact absurd hs (by omega)
 refine ze zy0 ?_
 refine ze (z4j seed hs) ?_
 refine ze (z4c baseP (secS seed)) ?_
 refine ze (zvm (mulP baseP (secS seed) 253)) ?_
 exact⟨_,rfl,cr⟩
end
section
def sigR(seed text:List UInt8):S4:=scOf (zd0 [secB seed,text])
def sigP(seed text:List UInt8):List UInt8:=(mulP baseP (sigR seed text) 253).bytes
def sigK(seed text:List UInt8):S4:=scOf (zd0 [sigP seed text,pubS seed,text])
def sigB(seed text:List UInt8):List UInt8:=sigP seed text++((sigR seed text).sum ((sigK seed text).mul (secS seed))).once.bytes
theorem zw7(seed text:List UInt8):(sigP seed text).length=32:=Pt.bytes_len _
theorem z8s(seed text:List UInt8):(sigB seed text).length=64:=by rw[sigB,List.length_append,zw7,S4.bytes_len]
theorem z8q(seed:List UInt8):(secB seed).length=32:=by rw[secB,List.length_drop,zs9,zcu]
theorem z0h(a b:List UInt8):[a,b].flatMap id=a++b:=by simp
theorem zfdb(a b c:List UInt8):[a,b,c].flatMap id=a++b++c:=by simp
set_option maxHeartbeats 1000000 in
theorem z4h(seed text P B L1 Q L2 R1:List UInt8)(s r k m z:S4)(M:Pt)(hs:seed.length=32)(ht:text.length<=1000000000)(hP:P.length=32)(hB:B.length=32)(hQ:Q.length=32)(hR:R1.length=32)(hL1:L1.length=64)(hL2:L2.length=64)
  (c1:zab Tryz.prog 96 [bs seed] (.r (.tu [bs P, .i .u8 0])))
  (c2:zab Tryz.prog 188 [bs seed] (.r (.tu [.ag s.v,bs B])))
  (c3:zab Tryz.prog 190 [bss [B,text]] (.r (bs L1)))
  (c4:zab Tryz.prog 189 [bs L1] (.r (.ag r.v)))
  (c6: ∀b:Pt,b=baseP->zab Tryz.prog 148 [.ag b.v, .ag r.v] (.r (.ag M.v)))
  (c7:zab Tryz.prog 150 [.ag M.v] (bch Q))
  (c8:zab Tryz.prog 190 [bss [Q,P,text]] (.r (bs L2)))
  (c9:zab Tryz.prog 189 [bs L2] (.r (.ag k.v)))
  (c10:zab Tryz.prog 192 [.ag k.v, .ag s.v] (.r (.ag m.v)))
  (c11:zab Tryz.prog 191 [.ag r.v, .ag m.v] (.r (.ag z.v)))
  (c12:zab Tryz.prog 193 [.ag z.v] (bch R1)):
  zab Tryz.prog 123 [bs seed,bs text] (.r (.tu [bs (Q++R1), .i .u8 0])):=by
 refine zaa (T:=Tab) mixed Tab_ok Tryz.func123 rfl (by kernel_rfl) ?_
 refine ze c1 ?_
 refine zu rfl (zq ?_)
 refine ze c2 ?_
 refine zw ?_
 refine ze c3 ?_
 refine ze c4 ?_
 refine Vdraw.mk' (by kernel_rfl) ?_
 obtain⟨b,hb⟩: ∃b,b=baseP:=⟨_,rfl⟩
 have c5:=zy0
 rw[<-hb]at c5
 refine ze c5 ?_
 refine za rfl rfl ?_
 refine ze (c6 b hb) ?_
 refine ze c7 ?_
 refine zw ?_
 refine ze c8 ?_
 refine ze c9 ?_
 refine Vdraw.mk' (by kernel_rfl) ?_
 refine za rfl rfl ?_
 refine za rfl rfl ?_
 refine za rfl rfl ?_
 refine ze c10 ?_
 refine ze c11 ?_
 refine ze c12 ?_
 refine zw ?_
 refine ze (zio [Q,R1] (by rw[z0h,List.length_append];omega)) ?_
 exact⟨_,rfl,zf (by rw[z0h];rfl)⟩
theorem zdtb(seed text:List UInt8)(hs:seed.length=32)(ht:text.length<=1000000000):zab Tryz.prog 123 [bs seed,bs text] (.r (.tu [bs (sigB seed text), .i .u8 0])):=by
 have h1:=z8q seed
 have h2:=zw7 seed text
 have h3:=zlj seed
 exact z4h seed text (pubS seed) (secB seed) (zd0 [secB seed,text]) (sigP seed text) (zd0 [sigP seed text,pubS seed,text]) _ (secS seed) (sigR seed text) (sigK seed text) ((sigK seed text).mul (secS seed)) _ (mulP baseP (sigR seed text) 253) hs ht h3 h1 h2 (S4.bytes_len _) (zcu _) (zcu _)
  (zs7 seed hs) (zvl seed (by omega)) (z30 [secB seed,text] (by rw[z0h,List.length_append];omega)) (zvp _ (by rw[zcu];omega)) (λb hb=>by rw[hb];exact z4c baseP (sigR seed text)) (zvm _)
  (z30 [sigP seed text,pubS seed,text] (by rw[zfdb,List.length_append,List.length_append];omega)) (zvp _ (by rw[zcu];omega)) (zbcb _ _) (zbab _ _) (z4f _)
theorem zua(seed:List UInt8)(hs:seed.length≠32):zab Tryz.prog 96 [bs seed] (.r (.tu [bs [], .i .u8 1])):=by
 refine zaa (T:=Tab) mixed Tab_ok Tryz.func96 rfl (by kernel_rfl) ?_
 refine zt (by simp only[zb];omega) (zp ?_)
 exact⟨_,rfl,Cv.tu (zk (Cv.nil 1) (zn _))⟩
theorem z01(seed text:List UInt8)(hs:seed.length≠32):zab Tryz.prog 123 [bs seed,bs text] (.r (.tu [bs [], .i .u8 1])):=by
 refine zaa (T:=Tab) mixed Tab_ok Tryz.func123 rfl (by kernel_rfl) ?_
 refine ze (zua seed hs) ?_
 refine zt rfl (zp ?_)
 exact⟨_,rfl,Cv.tu (zk (Cv.nil 1) (zn _))⟩
end
section
def exp1(s info:List UInt8)(n:Nat):List UInt8:=(macB s (info++[1])).take n
theorem zkw(s info:List UInt8){n:Nat}(hn:n<=32):(exp1 s info n).length=n:=by
 unfold exp1
 rw[List.length_take,zei]
 omega
def mlsB:List UInt8:=[77,76,83,32,49,46,48,32]
def labB(s label ctx:List UInt8)(n:Nat):List UInt8:=exp1 s (beB 2 n++vecB (mlsB++label)++vecB ctx) n
theorem Cv.sl{sz n:Nat}{cs ds:List RV}(h:Cvs cs ds):Cv (.sl sz n cs) (.sl sz n ds):=λw k v hv=>by
 simp only[RV.at_]at hv⊢
 obtain⟨a,c,e,h1,h2,h3,h4⟩:=hv
 exact⟨a,c,e,h1,h2,by rw[h.length];exact h3,λhn=>by obtain⟨b,o,ea,hb,hc⟩:=h4 hn;exact⟨b,o,ea,hb,h.cells hc⟩⟩
theorem zs3(s info:List UInt8)(n:Nat)(hn:1<=n/\n<=32)(hs:s.length<=1000000000)(hi:info.length<=1000000000):zab Tryz.prog 86 [bs s,bs info,I n] (.r (.tu [bs (exp1 s info n),Er 0])):=by
 refine zaa (T:=Tab) mixed Tab_ok Tryz.func86 rfl (by kernel_rfl) ?_
 have hm:=zei s (info++[1])
 refine Vcode.scope mixed Tab_ok 0 (λ_:Unit=>{F:=[(0, .r (bs s)),(1, .r (bs info)),(2, .r (I n)),(8, .own 0)],O:=[(0,some (.ch 5 1 32 ((macB s (info++[1])).map U8) true))],nx:=1}) (λ_=>True) (λ_=>0) rfl ?_ ?_
 ·refine zu (decide_eq_false (by omega)) ?_
  refine zu (decide_eq_false (by omega)) (zq ?_)
  refine zt (decide_eq_true (by omega)) (zp ?_)
  refine Vint.u8 1 rfl ?_
  refine zw ?_
  refine zw ?_
  refine Vcall.mk' (z9f s [[],info,[1]] hs (by simp;omega)) (zk (cr) (zk (Cv.sl (zk (Cv.nil _) (zn _))) Cvs.nil)) ?_
  refine Vapp.mk' (j:=32) (zs:=(macB s (info++[1])).map U8) (by simp[maxLen,zei]) (by simp[zei]) (by simp[zei]) (by simp) ?_
  exact⟨(),trivial,zac [(0,3)] rfl ⟨cr,cr,cr,rfl,trivial⟩ ⟨⟨rfl,rfl,rfl,rfl,zn _⟩,trivial⟩⟩
 ·intro _ _
  refine zu (decide_eq_false (by omega)) (zq ?_)
  refine⟨by omega,by omega,by omega,n,(exp1 s info n).map U8,by omega,?_,?_⟩
  ·unfold exp1;rw[List.map_take];simp
  ·refine⟨_,rfl,zf ?_⟩
   simp only[bs,zkw s info hn.2]
   rfl
theorem zo3(s:ByteArray):((⟨#[77,76,83,32,49,46,48,32]⟩:ByteArray)++s).data.toList=mlsB++s.data.toList:=by simp[mlsB]
theorem zrs(s t:ByteArray):(s++t).size=s.size+t.size:=by simp
theorem z60(s:List UInt8)(label:ByteArray)(ctx:List UInt8)(n:Nat)(hn:1<=n/\n<=32)(hs:s.length<=1000000000)(hl:label.size<=1048576)(hc:ctx.length<=1048576):
  zab Tryz.prog 35 [bs s,Str label,bs ctx,I n] (.r (.tu [bs (labB s (sB label) ctx n),Er 0])):=by
 refine zaa (T:=Tab) mixed Tab_ok Tryz.func35 rfl (by kernel_rfl) ?_
 refine zu (decide_eq_false (by omega)) ?_
 refine zu (decide_eq_false (by omega)) (zq ?_)
 refine zu (decide_eq_false (by omega)) ?_
 refine zu (decide_eq_false (by omega)) (zq ?_)
 refine Vint.u64 n rfl (by omega) ?_
 refine Vcall.mk' (ziq [] 2 n (by simp) (.inr (.inl rfl))) (zk (Cv.nil _) (zn _)) ?_
 have hd:=zo3 label
 have hsz:label.data.toList.length=label.size:=rfl
 have hml:mlsB.length=8:=rfl
 refine⟨by show 8+label.size<=_;omega,?_⟩
 refine⟨by rw[zrs];show 8+label.size<=_;omega,?_⟩
 have hb:(beB 2 n).length=2:=za0 2 n
 refine ze (zbk ([]++beB 2 n) ((⟨#[77,76,83,32,49,46,48,32]⟩:ByteArray)++label).data.toList (by simp[hb]) (by rw[hd,List.length_append];omega)) ?_
 rw[hd]
 have hv:=zal (mlsB++label.data.toList)
 have hv2:=zal ctx
 rw[List.length_append]at hv
 refine ze (zbk ([]++beB 2 n++vecB (mlsB++label.data.toList)) ctx (by simp only[List.length_append,List.length_nil,hb];omega) (by omega)) ?_
 refine ze (zs3 s ([]++beB 2 n++vecB (mlsB++label.data.toList)++vecB ctx) n hn hs (by simp only[List.length_append,List.length_nil,hb];omega)) ?_
 exact⟨_,rfl,cr⟩
theorem zk1(s:List UInt8)(label:ByteArray)(hs:s.length<=1000000000)(hl:label.size<=1048576):zab Tryz.prog 15 [bs s,Str label] (.r (bs (labB s (sB label) [] 32))):=by
 refine zaa (T:=Tab) mixed Tab_ok Tryz.func15 rfl (by kernel_rfl) ?_
 refine Vcall.mk' (z60 s label [] 32 (by omega) hs hl (by simp)) (zk (cr) (zk (cr) (zk (Cv.nil _) (zn _)))) ?_
 exact cr
end
section
def zl:Leaf:=⟨[],[],[],0,[],[]⟩
theorem z82{α:Type}{p:α->Prop}{l:List α}{j:Nat}(hj:j<l.length)(h: ∀x∈l.take j,p x)(hx:p l[j]): ∀x∈l.take (j+1),p x:=by
 intro x hm
 rw[List.take_add_one,List.getElem?_eq_getElem hj]at hm
 simp only[Option.toList,List.mem_append,List.mem_cons,List.not_mem_nil,or_false]at hm
 rcases hm with hm |rfl
 ·exact h x hm
 ·exact hx
end
section
theorem zrg:Tryz.prog.underlying 3=some (.int .i64):=by kernel_rfl
theorem znz:Tryz.prog.underlying 125=some (.map 3 84):=by kernel_rfl
theorem zxf:Tryz.prog.underlying 126=some (.map 3 22):=by kernel_rfl
def zdi(l:List Spot):List (Int×RV):=l.map λs=>(s.at_,RV.ag s.node.c)
def zeg(l:List Stub):List (Int×RV):=l.map λs=>(s.at_,bs s.hash)
end
section
def idxF(q:Int->Bool):Nat->List Int->Int
 |_,[]=> -1
 |j,x::r=>if q x then(j:Int)else idxF q (j+1) r
theorem zy6(q:Int->Bool): ∀(l:List Int) (j:Nat), -1<=idxF q j l/\idxF q j l< (j+l.length:Nat)/\(0<=idxF q j l↔l.any q=true)
 |[],j=>by simp[idxF];omega
 |x::r,j=>by
  have ih:=zy6 q r (j+1)
  rw[idxF,List.any_cons,List.length_cons]
  by_cases hq:q x=true
  ·rw[if_pos hq,hq]
   exact⟨by omega,by omega,by simp⟩
  ·rw[if_neg hq,Bool.eq_false_iff.2 hq,Bool.false_or]
   exact⟨ih.1,by omega,ih.2.2⟩
theorem zxy(l:List Int)(D:Int->Prop)(q:Int->Bool)(hl:l.length<=1000000000)(hD: ∀x∈l,D x):zab Tryz.prog 285 [is l, .s (cloS Tryz.prog I D q)] (.r (I (idxF q 0 l))):=by
 refine zaa (T:=Tab) mixed Tab_ok Tryz.func285 rfl (by kernel_rfl) ?_
 refine zx (λj:Nat=>{F:=[(0, .r (is l)),(1, .r (.s (cloS Tryz.prog I D q))),(7, .r (I l.length)),(8, .r (I j))],O:=[],nx:=0}) (λj=>j<=l.length/\idxF q 0 l=idxF q j (l.drop j)) (λj=>l.length-j) 0 ⟨by omega,by simp⟩ (zac [] rfl ⟨cr,cr,cr,cr,trivial⟩ trivial) ?_
 rintro j ⟨hj,he⟩
 refine zh (λh=>zp ?_) (λh=>zq ?_)
 ·simp only[zb]at h
  have hj':j<l.length:=by omega
  rw[List.drop_eq_getElem_cons hj']at he
  simp only[idxF]at he
  refine zm (by omega) (by omega) (zak rfl hj') (zg rfl ?_)
  refine Vstep.cloB l[j] rfl rfl rfl rfl (cr) (hD _ (List.getElem_mem hj')) (λhq=>zp ?_) (λhq=>zq ?_)
  ·rw[hq]at he
   exact zf (by rw[he];simp)
  ·rw[hq]at he
   refine zd (m:=((j+1:Nat):Int)) (by omega) (by omega) ?_
   exact⟨j+1,⟨hj',by rw[he];simp⟩,by omega,zac [] rfl ⟨cr,cr,cr,cr,trivial⟩ trivial⟩
 ·simp only[zb]at h
  rw[List.drop_eq_nil_of_le (by omega)]at he
  exact zf (by rw[he];rfl)
theorem zg4(l:List Int)(D:Int->Prop)(q:Int->Bool)(hl:l.length<=1000000000)(hD: ∀x∈l,D x):zab Tryz.prog 245 [is l, .s (cloS Tryz.prog I D q)] (.r (.b (l.any q))):=by
 refine zaa (T:=Tab) mixed Tab_ok Tryz.func245 rfl (by kernel_rfl) ?_
 refine ze (zxy l D q hl hD) ?_
 exact Vcmp.mk' rfl (zf (congrArg RV.b (by rw[Bool.eq_iff_iff,decide_eq_true_eq];exact(zy6 q l 0).2.2)))
def zb9(u:Int):Prop:=0<=u/\u<65536
def zgq(x:Int):Nat:=if x.tmod 2=1 then 1 else 2
def zes(x:Int)(n:Node):Bool:=n.right&&(decide (n.kind.toNat≠zgq x)&&n.par.late.all λu=>zbh (2*u) x)
theorem z98(l:List Int)(q:Int->Bool):(!l.any λu=> !q u)=l.all q:=by
 induction l with
 |nil=>rfl
 |cons x r ih=>simp[List.any_cons,List.all_cons,Bool.not_or,ih]
theorem Node.right_late{n:Node}(h:n.right=true): ∀u∈n.par.late,zb9 u:=by
 unfold Node.right at h
 split at h
 ·simp only[Bool.and_eq_true]at h
  have:=h.2
  simp only[Par.none,decide_eq_true_eq,List.length_eq_zero_iff]at this
  rw[this.2.2];simp
 ·split at h
  ·simp only[Bool.and_eq_true]at h
   have:=h.2
   simp only[Par.none,decide_eq_true_eq,List.length_eq_zero_iff]at this
   rw[this.2.2];simp
  ·split at h
   ·simp only[Bool.and_eq_true]at h
    exactλu hu=>Par.right_bd h.2 u hu
   ·cases h
end
section
theorem z6g:(Tryz.prog.info? 84).bind (·.zero)=some (.agg #[.int .u8 0, .slice none 0 0, .slice none 0 0, .slice none 0 0, .int .u8 0, .slice none 0 0, .slice none 0 0, .slice none 0 0, .slice none 0 0, .slice none 0 0]):=by kernel_rfl
theorem z90(w:World)(k:Kp):(RV.ag zc).at_ w k (.agg #[.int .u8 0, .slice none 0 0, .slice none 0 0, .slice none 0 0, .int .u8 0, .slice none 0 0, .slice none 0 0, .slice none 0 0, .slice none 0 0, .slice none 0 0]):=by
 simp only[RV.at_]
 refine⟨_,rfl,?_⟩
 exact zh8 [.int .u8 0, .slice none 0 0, .slice none 0 0, .slice none 0 0, .int .u8 0, .slice none 0 0, .slice none 0 0, .slice none 0 0, .slice none 0 0, .slice none 0 0] (by simp[Value.oneCell'])
theorem zgn: ∀(l:List Spot) (x:Int),zc8 (zdi l) x=(zay l x).map λn=> .ag n.c
 |[],x=>rfl
 |s::l,x=>by
  have ih:=zgn l x
  simp only[zdi,zay,List.map_cons,zc8,List.find?_cons]at*
  by_cases h:s.at_=x
  ·simp[h]
  ·simp[h,ih]
section
variable {S:St} {o:Oper}
theorem Vstep.node2{x y:Operand}{n:Int}{l:List Spot}{K:St->Prop}(hop:o.op= .lookup 125 x y true)(hx:opr S x=some (.r (.s (mapS (zdi l)))))(hy:opr S y=some (.r (.i .i64 n)))
  (h1: ∀m,zay l n=some m->newK S o.dst (.r (.tu [.ag m.c, .b true])) none K) (h0:zay l n=none->newK S o.dst (.r (.tu [.ag zc, .b false])) none K):Vstep Tryz.prog S o K:=by
 refine Vstep.look2 (.ag zc) hop hx hy znz zrg z6g z90 (λr hr=>?_) (λhr=>?_)
 ·rw[zgn,Option.map_eq_some_iff]at hr
  obtain⟨m,hm,rfl⟩:=hr
  exact h1 m hm
 ·rw[zgn,Option.map_eq_none_iff]at hr
  exact h0 hr
theorem Vstep.node1{x y:Operand}{n:Int}{l:List Spot}{K:St->Prop}(hop:o.op= .lookup 125 x y false)(hx:opr S x=some (.r (.s (mapS (zdi l)))))(hy:opr S y=some (.r (.i .i64 n)))
  (h1: ∀m,zay l n=some m->newK S o.dst (.r (.ag m.c)) none K) (h0:zay l n=none->newK S o.dst (.r (.ag zc)) none K):Vstep Tryz.prog S o K:=by
 refine Vstep.look1 (.ag zc) hop hx hy znz zrg z6g z90 (λr hr=>?_) (λhr=>?_)
 ·rw[zgn,Option.map_eq_some_iff]at hr
  obtain⟨m,hm,rfl⟩:=hr
  exact h1 m hm
 ·rw[zgn,Option.map_eq_none_iff]at hr
  exact h0 hr
end
theorem zge(k:Nat):(nd 0 k:Int).tmod 2=0:=by rw[zr9,Int.tmod_eq_emod_of_nonneg (by omega)];omega
theorem zhc(h k:Nat):(nd (h+1) k:Int).tmod 2=1:=by rw[zbub,Int.tmod_eq_emod_of_nonneg (by omega)];omega
theorem zf4{l:List Spot}{x:Int}{n:Node}(h:zay l x=some n): ∃s∈l,s.at_=x/\s.node=n:=by
 simp only[zay,Option.map_eq_some_iff]at h
 obtain⟨s,hs,rfl⟩:=h
 exact⟨s,List.mem_of_find?_eq_some hs,by simpa using List.find?_some hs,rfl⟩
end
end Go.Proofs.YtfjkblpnbgfkeaaGreat.Sx

namespace Go.Proofs.YtfjkblpnbgfkeaaGreat
set_option linter.unusedVariables false
section
theorem zt2: ∀(m h k:Nat),upT m h k=(List.range (m+1)).map λi=>trip (h+i) (k/2^i)
 |0,h,k=>by simp[upT]
 |m+1,h,k=>by
  rw[zpe,zt2 m h k,List.range_succ (n:=m+1),List.map_append]
  rfl
def sibN(k:Nat):Nat:=if k%2=0 then k+1 else k-1
theorem zb9b{d h k:Nat}(hd:d<=16)(hh:h<d)(hk:k<2^(d-h)):sibI (nd h k:Int) ((2^d:Nat):Int)=(nd h (sibN k):Int):=by
 rw[<-zm4,zih hd hh hk,if_neg (by omega),zif hd hh (zkc hh hk),zi3 hd hh (zkc hh hk)]
 unfold sibN
 by_cases he:k%2=0
 ·rw[if_pos he,show 2*(k/2)=k by omega,if_pos rfl]
 ·rw[if_neg he,if_neg (λe=>by
   have:=(ziy (h:=h) (h':=h) (by omega) (by omega) (by omega:nd h (2*(k/2))=nd h k)).2
   omega),show 2*(k/2)=k-1 by omega]
theorem zcab{m k:Nat}(hk:k<2^(m+1)):sibN k<2^(m+1):=by
 rw[Nat.pow_succ]at*
 unfold sibN
 split<;>omega
theorem zu7{d o:Nat}(hd:d<=16)(ho:o<2^d):zbz (nd 0 o:Int) ((2^d:Nat):Int)=(List.range d).map λh=>(nd h (sibN (o/2^h)):Int):=by
 unfold zbz
 rw[zku hd d 17 0 o (by omega) ho (by omega),zt2,List.range_succ,List.map_append,List.map_cons,List.map_nil,List.dropLast_concat,List.map_map]
 apply List.map_congr_left
 intro h hh
 rw[List.mem_range]at hh
 simp only[Function.comp_apply,trip,Nat.zero_add]
 refine zb9b hd hh ?_
 rw[Nat.div_lt_iff_lt_mul (zag h),<-Nat.pow_add]
 rwa[show d-h+h=d by omega]
theorem z0f{d o h:Nat}(ho:o<2^d)(hh:h<=d):o/2^h<2^(d-h):=by
 rw[Nat.div_lt_iff_lt_mul (zag h),<-Nat.pow_add]
 rwa[show d-h+h=d by omega]
end
end Go.Proofs.YtfjkblpnbgfkeaaGreat

namespace Go.Proofs.YtfjkblpnbgfkeaaGreat.Sx
open Go.RowKit
section
theorem Vsem.field{P:Program}{T:TT}{S:St}{o:Oper}(hT:TOk P T){t:TypeId}{x:Operand}{i off:Nat}{ft:TypeId}{ti tf:TI}{fs:List (Nat×TypeId)}{cells:List RV}{rv:RV}{K:TF->Option Ow->Prop}(hop:o.op= .field t x i)(hti:tget T t=some ti)(hk:ti.k= .struct fs)(hfs:lget fs i=some (off,ft))(htf:tget T ft=some tf)(hag:tf.agg=false)
  (hx:opr S x=some (.r (.ag cells))) (hc:lget cells off=some rv) (hK:K (.r rv) none):Vsem P S o K:=by
 refine⟨_,_,λB N a w k Q ⟨g,hs⟩ hd=>?_,hK⟩
 have hv:=(zaf hs hx).2
 simp only[TF.at_,RV.at_]at hv
 obtain⟨us,e,hl⟩:=hv
 rw[zan]at hc hfs
 have hul:=(RV.listAt_iff _ _).1 hl
 have hlt:off<us.toList.length:=by rw[hul.1];exact(List.getElem?_eq_some_iff.1 hc).1
 have hu:us.toList[off]?=some us.toList[off]:=List.getElem?_eq_getElem hlt
 have h1:=hul.2 off rv _ hc hu
 obtain⟨q,hq⟩:=hT.get hti
 obtain⟨d,hdd,hko,_⟩:=q.desc
 rw[hq]at hdd
 rw[hk]at hko
 obtain⟨fields,rfl,hfl⟩:=hko
 obtain⟨qf,hqf⟩:=hT.get htf
 obtain⟨df,hdf,_,hrow⟩:=qf.desc
 rw[hqf]at hdf
 rw[hag]at hrow
 have hagg:(isAgg ft).run P w= .ok false w:=by
  unfold isAgg
  rw[Sem.run_bind,run_underlying hdf w]
  cases df<;>simp_all [TypeDesc.isRow]
 rw[<-hfl,List.getElem?_map]at hfs
 cases hfi:fields.toList[i]? with
 |none=>simp[hfi]at hfs
 |some fd=>
  simp only[hfi,Option.map_some,Option.some.injEq,Prod.mk.injEq]at hfs
  obtain⟨rfl,rfl⟩:=hfs
  have hfa:fields[i]?=some fd:=by simpa using hfi
  have hua:us[fd.offset]?=some us.toList[fd.offset]:=by rw[<-Array.getElem?_toList];exact hu
  refine zas (v:=us.toList[fd.offset]) (w':=w) ?_ ⟨k,g,hs.put hd trivial h1.2⟩
  simp[execOp,hop,Instr.field,run_underlying hdd w,hfa,e,part,hagg,hua,asAgg]
theorem znm{x:Int}(hx:za6 x=true): ∃h k,h<=16/\k<2^(16-h)/\x=(nd h k:Int)/\lv x.toNat=h/\x.toNat/2^(lv x.toNat+1)=k:=by
 rw[zlf]at hx
 obtain⟨d,h,k,hd,hn,hh,hk,rfl⟩:=zga hx
 have:d=16:=by
  rcases Nat.lt_or_ge d 16 with hlt |hge
  ·have:=Nat.pow_le_pow_right (n:=2) (by omega) (show d<=15 by omega)
   omega
  ·omega
 subst this
 have hle:=zzi hd hh hk
 have:=z1i hle
 have h2:=ziy (h:=h) (h':=lv (nd h k)) (by omega) (zfc hle).1 this
 exact⟨h,k,hh,hk,rfl,by rw[Int.toNat_natCast];exact h2.1.symm,by rw[Int.toNat_natCast];exact h2.2.symm⟩
theorem z78{n o:Int}(hf:zbj n=true)(h0:0<=o)(h1:o<n): ∃d k:Nat,d<=16/\n=((2^d:Nat):Int)/\k<2^d/\o=(k:Int)/\2*o=(nd 0 k:Int):=by
 obtain⟨d,hd,rfl⟩:=zfy hf
 obtain⟨k,rfl⟩:=Int.eq_ofNat_of_zero_le h0
 exact⟨d,k,hd,rfl,by omega,rfl,by rw[zr9];omega⟩
theorem zjq{n o:Int}(hf:zbj n=true)(h0:0<=o)(h1:o<n): ∀c∈zbz (2*o) n,za6 c=true:=by
 obtain⟨d,k,hd,rfl,hk,rfl,e⟩:=z78 hf h0 h1
 rw[e,zu7 hd hk]
 intro c hc
 obtain⟨h,hh,rfl⟩:=List.mem_map.1 hc
 rw[List.mem_range]at hh
 refine zg8 (d:=d) hd (by omega) ?_
 rw[show d-h=d-h-1+1 by omega]
 exact zcab (by rw[show d-h-1+1=d-h by omega];exact z0f hk (by omega))
theorem zsr{α:Type}{p:α->Bool}{l:List α}{x:α}(hx:x∈l)(h:p x=false):l.all p=false:=by
 rw[List.all_eq_false];exact⟨x,hx,by simp[h]⟩
end
end Go.Proofs.YtfjkblpnbgfkeaaGreat.Sx
