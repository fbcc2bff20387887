import Derived.Test.YtoegdgbghdnnfaaGreatZSxB
import Derived.LoopN
namespace Go.Proofs.YtoegdgbghdnnfaaGreat.Sx
open Go.RowKit
def Sub(S S':St):Prop:=∀B N a w k,Sat B N S a w k->∃k',Sat B N S' a w k'
structure Vloop (vc:St->(Exit->St->Prop)->Prop) (S:St) (Q:Exit->St->Prop) (code:Prop):Prop where
 out:(∃(ι:Type) (inv:ι->St) (R:ι->Prop) (μ:ι->Nat),(∃i,R i/\Sub S (inv i))/\
  ((∀i,R i->vc (inv i) λe S'=>match e with
   | .normal=>∃i',R i'/\μ i'<μ i/\Sub S' (inv i')
   |e=>Q e S')\/
  (∀i,R i->vc (inv i) λe S'=>match e with
   | .normal=>∃i',R i'/\μ i'<μ i/\Sub S' (inv i')
   |e=>∃S'',Sub S' S''/\Q e S'')))\/code
def zcv:List (Nat×Nat)->Nat->Option Nat
 |[],_=>none
 |(u,f)::r,t=>match Nat.beq u t with
  |true=>some f
  |false=>zcv r t
def memB(n:Nat):List Nat->Bool
 |[]=>false
 |x::r=>match Nat.beq x n with
  |true=>true
  |false=>memB n r
def allB{α:Type}(p:α->Bool):List α->Bool
 |[]=>true
 |x::r=>match p x with
  |true=>allB p r
  |false=>false
def za1(o:Oper):List Nat:=o.after.toList.filterMap λe=>if Region.binds .any e then some e.on else none
def zap(acc:List (List Nat)):List Oper->List (List Nat)
 |[]=>acc
 |o::r=>zap (acc++[za1 o++(za1 o).flatMap λj=>(lget acc j).getD []]) r
def zed(o:Oper):List Nat:=o.op.operands.toList.filterMap λ | .tmp t=>some t |_=>none
def zca:List Oper->Nat
 |[]=>0
 |o::r=>match zc7 o.op with
  |true=>zca r+1
  |false=>0
def z7x(ops:List Oper)(w:List Nat)(i:Nat)(o:Oper):Bool:=
 (match o.op with | .store .. =>true |_=>false)&&((match o.dst with |none=>true |some _=>false)&&((match o.guard with |none=>true |some _=>false)&&
  allB (λj=>memB j w||(match lget ops j with
   |some p=>(match p.dst with |none=>true |some d=> !(memB d (zed o)))
   |none=>false)) (List.range i)))
def zju(ops:List Oper)(ws:List (List Nat))(m i:Nat)(o:Oper):Bool:=
 let w:=(lget ws i).getD []
 allB (λe=>Nat.blt e i) (za1 o)&&
 (if Nat.blt i m then
  zc7 o.op&&
  (match o.guard with |none=>true |some (g,_)=>memB g w&&Nat.blt g i)&&
  allB (λj=>match lget ops j with
   |none=>false
   |some p=>
    (match p.dst,o.dst with |some d,some e=> !(Nat.beq d e) |_,_=>true)&&
    (memB j w||((match p.dst with |none=>true |some d=> !(memB d (zed o)))&&(match o.dst with |none=>true |some d=> !(memB d (zed p)))))) (List.range i)
 else allB (λj=>memB j w) (List.range i)||(Nat.beq i m&&z7x ops w i o))
def zjh(m:Nat)(ops:List Oper):Bool:=
 let ws:=zap [] ops
 Nat.ble m ops.length&&allB (λi=>match lget ops i with |none=>false |some o=>zju ops ws m i o) (List.range ops.length)
def zjv(ops:List Oper):Bool:=zjh (zca ops) ops
def zam:TF->List Nat
 | .r _=>[]
 | .own id=>[id]
 | .adr id _=>[id]
 | .nm id _=>[id]
 | .cut id _ _=>[id]
def ids1(S:St)(o:Oper):List Nat:=o.op.operands.toList.flatMap λx=>match opr S x with |some f=>zam f |none=>[]
def ids2(S:St)(l:List Nat):List Nat:=l.flatMap λid=>match oget S.O id with |some (.box cells)=>cells.flatMap zam |_=>[]
def zbb(S:St)(o:Oper):List Nat:=ids1 S o++ids2 S (ids1 S o)
def ziq(f:TF)(ow:Option Ow):List Nat:=zam f++(match ow with |some (.box cells)=>cells.flatMap zam |_=>[])
def zbc(S:St)(o:Oper)(n0:Nat)(cr:List (Nat×Nat))(w:List Nat):Bool:=
 allB (λid=>match Nat.blt id n0 with
  |true=>true
  |false=>match zcv cr id with
   |some j=>memB j w
   |none=>false) (zbb S o)
def stId(S:St)(x:Operand):Option Nat:=
 match opr S x with
 |some (.own id)=>some id
 |some (.adr id _)=>some id
 |_=>none
theorem z9o{S:St}{x:Operand}(h:stId S x≠none):znc S x=false:=by
 unfold znc
 unfold stId at h
 split
 ·rename_i e
  rw[e]at h
  exact absurd rfl h
 ·rfl
def zt0(S:St)(o:Oper)(n0:Nat)(cr:List (Nat×Nat))(w:List Nat)(ia:List (Nat×List Nat)):Bool:=
 zbc S o n0 cr w&&(match o.op with
  | .store _ x _=>match stId S x with
   |some id=>allB (λq=>memB q.1 w|| !(memB id q.2)) ia
   |none=>false
  |_=>false)
def zgc(n i:Nat)(ow:Option Ow)(cr:List (Nat×Nat)):List (Nat×Nat):=
 match ow with
 |some _=>(n,i)::cr
 |none=>cr
def rund(P:Program)(T:TT)(ops:List Oper)(ws:List (List Nat))(n0:Nat):Nat->List Oper->St->List (Nat×Nat)->List (Nat×List Nat)->(St->Prop)->Prop
 |_,[],S,_,_,K=>K S
 |i,o::r,S,cr,ia,K=>match zc7 o.op with
  |false=>match allB (λj=>memB j ((lget ws i).getD [])) (List.range i)||zt0 S o n0 cr ((lget ws i).getD []) ia with
   |true=>runv P T ops (o::r) S K
   |false=>False
  |true=>
   let go:Prop:=match zbc S o n0 cr ((lget ws i).getD [])with
    |true=>valv P T S o λf ow=>match allB (λid=>memB id (S.nx::zbb S o)) (ziq f ow)with
     |true=>newK S o.dst f ow λS'=>rund P T ops ws n0 (i+1) r S' (zgc S.nx i ow cr) ((i,zbb S o)::ia) K
     |false=>False
    |false=>False
   let skip:Prop:=newK S o.dst (.r (.tu [])) none λS'=>rund P T ops ws n0 (i+1) r S' cr ((i,zbb S o)::ia) K
   match o.guard with
   |none=>go
   |some (j,want)=>match lget ops j with
    |some oj=>match oj.dst with
     |some d=>match fget S.F d with
      |some (.r (.b β))=>match β with
       |true=>match want with
        |true=>go
        |false=>skip
       |false=>match want with
        |false=>go
        |true=>skip
      |some (.r (.tu _))=>skip
      |_=>False
     |none=>False
    |none=>False
def zhh(P:Program)(T:TT)(ops:List Oper)(ws:List (List Nat))(n0:Nat):Nat->Nat->List Oper->St->List (Nat×Nat)->List (Nat×List Nat)->(St->Prop)->Prop
 |0,i,r,S,_,_,K=>match allB (λj=>memB j ((lget ws i).getD [])) (List.range i)with
  |true=>runv P T ops r S K
  |false=>False
 |_+1,_,[],_,_,_,_=>False
 |c+1,i,o::r,S,cr,ia,K=>match zc7 o.op with
  |false=>False
  |true=>
   let go:Prop:=match zbc S o n0 cr ((lget ws i).getD [])with
    |true=>valv P T S o λf ow=>match allB (λid=>memB id (S.nx::zbb S o)) (ziq f ow)with
     |true=>newK S o.dst f ow λS'=>zhh P T ops ws n0 c (i+1) r S' (zgc S.nx i ow cr) ((i,zbb S o)::ia) K
     |false=>False
    |false=>False
   let skip:Prop:=newK S o.dst (.r (.tu [])) none λS'=>zhh P T ops ws n0 c (i+1) r S' cr ((i,zbb S o)::ia) K
   match o.guard with
   |none=>go
   |some (j,want)=>match lget ops j with
    |some oj=>match oj.dst with
     |some d=>match fget S.F d with
      |some (.r (.b β))=>match β with
       |true=>match want with
        |true=>go
        |false=>skip
       |false=>match want with
        |false=>go
        |true=>skip
      |some (.r (.tu _))=>skip
      |_=>False
     |none=>False
    |none=>False
structure Vcut_ (P:Program) (T:TT) (ops:List Oper) (S:St) (K:St->Prop):Prop where
 out: ∃m,zjh m ops=true/\zhh P T ops (zap [] ops) S.nx m 0 ops S [] [] K
def zg2:List Oper->Option (List Oper×Oper)
 |[]=>none
 |x::r=>match zg2 r with
  |some (l,y)=>some (x::l,y)
  |none=>some ([],x)
def zcjb:Op->Bool
 | .select .. =>true
 |_=>false
def z3c(l:List Oper)(o:Oper):Option (Nat×Value):=
 match o.op,o.dst,o.guard,o.after.toList with
 | .move (.const v),some d,none,[]=>match allB (λp=> !(memB d (zed p))&&((match p.dst with |some e=> !(Nat.beq d e) |none=>true)&&(!(zcjb p.op)&&(match p.guard with |some (g,_)=>Nat.blt g l.length |none=>true)))) l with
  |true=>some (d,v)
  |false=>none
 |_,_,_,_=>none
def zqq(l:List Oper):Option (List Oper×Nat×Value):=
 match zg2 l with
 |some (l',o)=>match z3c l' o with
  |some (d,v)=>some (l',d,v)
  |none=>none
 |none=>none
def zbe(N:Nat):Code->Bool
 | .region _ ops _=>ops.toList.all λo=>match o.dst with |some d=>Nat.blt d N |none=>true
 | .seq a b=>zbe N a&&zbe N b
 | .cond _ a b=>zbe N a&&zbe N b
 | .block _ c=>zbe N c
 | .loop c=>zbe N c
 | .scope c=>zbe N c
 |_=>true
def z0t(P:Program)(c:Code)(S:St)(Q:Exit->St->Prop):Prop:=
 ∀B N a w k (Q':Exit->Act->World->Prop),Sat B N S a w k->zbe N c=true->(∀e S' a' w' k',Q e S'->Sat B N S' a' w' k'->Q' e a' w')->c.wp P Q' a w
structure Vcode (P:Program) (c:Code) (S:St) (Q:Exit->St->Prop):Prop where
 out:z0t P c S Q
structure Vrounds (P:Program) (c:Code) (n:Nat) (S:St) (Q:Exit->St->Prop):Prop where
 out: ∀B N a w k (Q':Exit->Act->World->Prop),Sat B N S a w k->zbe N c=true->(∀e S' a' w' k',Q e S'->Sat B N S' a' w' k'->Q' e a' w')->Code.rounds P c Q' n a w
theorem Vloop.rounds{vc:St->(Exit->St->Prop)->Prop}{P:Program}{c:Code}{S:St}{Q:Exit->St->Prop}(n:Nat)(h:Vrounds P c n S Q):Vloop vc S Q (Vcode P (.loop c) S Q):=
 ⟨.inr ⟨λB N a w k Q' hs hd hQ=>wp_loop_rounds n (h.out B N a w k Q' hs hd hQ)⟩⟩
def z4b:List Oper->Bool
 |[]=>false
 |o::r=>match o.op with
  | .makeMap .. =>true
  | .call c=>match c.callee with
   | .builtin .clear=>true
   |_=>z4b r
  |_=>z4b r
def zqi(S:St):List TF->Bool
 |[]=>false
 | .own id::r=>match oget S.O id with
  |some (.ch _ _ _ _ false)=>true
  |_=>zqi S r
 |_::r=>zqi S r
def zcib:List Value->Bool
 |[]=>false
 | .slice .. ::_=>true
 |_::r=>zcib r
def zinb(T:TT)(S:St):List Oper->Bool
 |[]=>false
 |o::_=>match o.op with
  | .load t x=>match tget T t with
   |some ti=>match zcib ti.zero with
    |true=>match opr S x with
     |some (.own id)=>match oget S.O id with
      |some (.box cells)=>zqi S cells
      |_=>false
     |_=>false
    |false=>false
   |none=>false
  |_=>false
def zh4b:TT->Bool
 |a::b::_=>Nat.beq a.id b.id
 |_=>false
def semB(T:TT)(S:St)(l:List Oper):Bool:=
 match z4b l with
 |true=>true
 |false=>match zh4b T with
  |false=>false
  |true=>zinb T S l
def seqK(F:St->(Exit->St->Prop)->Prop)(Q:Exit->St->Prop)(e:Exit)(S:St):Prop:=
 match e with
 | .normal=>F S Q
 |e=>Q e S
def z5m(id:Nat)(Q:Exit->St->Prop)(e:Exit)(S:St):Prop:=
 match e with
 | .exit id'=>match Nat.beq id' id with
  |true=>Q .normal S
  |false=>Q (.exit id') S
 |e=>Q e S
def vcg(P:Program)(T:TT):Code->St->(Exit->St->Prop)->Prop
 | .skip,S,Q=>Q .normal S
 | .region id ops false,S,Q=>match semB T S ops.toList with
  |false=>runv P T ops.toList ops.toList S (Q .normal)
  |true=>Vcode P (.region id ops false) S Q
 | .region id ops true,S,Q=>match zqq ops.toList with
  |none=>Vdraw (zjv ops.toList) (rund P T ops.toList (zap [] ops.toList) S.nx 0 ops.toList S [] [] (Q .normal)) (Vcut_ P T ops.toList S (Q .normal)\/Vcode P (.region id ops true) S Q)
  |some (l,d,v)=>Vdraw (zjv l) (rund P T l (zap [] l) S.nx 0 l (S.put (some d) (.r (ofC v))) [] [] (Q .normal)) (Vcode P (.region id ops true) S Q)
 | .seq a b,S,Q=>vcg P T a S (seqK (vcg P T b) Q)
 | .cond c a b,S,Q=>match opr S c with
  |some (.r (.b β))=>Vif β (vcg P T a S Q) (vcg P T b S Q)
  |_=>False
 | .block id c,S,Q=>vcg P T c S (z5m id Q)
 | .loop c,S,Q=>Vloop (vcg P T c) S Q (Vcode P (.loop c) S Q)
 | .exit id,S,Q=>Q (.exit id) S
 | .ret,S,Q=>Q .ret S
 | .label _,S,Q=>Q .normal S
 | .goto l,S,Q=>Q (.goto l) S
 | .scope c,S,Q=>Vcode P (.scope c) S Q
 | .rangeFunc f p c d,S,Q=>Vcode P (.rangeFunc f p c d) S Q
 | .refuse _,_,_=>False
def zrh:Nat->List RV->List (Nat×TF)
 |_,[]=>[]
 |n,v::r=>(n, .r v)::zrh (n+1) r
def St.args(l:List RV):St:={F:=zrh 0 l,O:=[],nx:=0}
def resv(T:TT)(S:St):ResultVar->(TF->Prop)->Prop
 | .tmp t,K=>match fget S.F t with
  |some f=>K f
  |none=>False
 | .cell t ty,K=>match fget S.F t,tget T ty with
  |some f,some ti=>ldv S ti f K
  |_,_=>False
def zpj(T:TT)(S:St):List ResultVar->(List RV->Prop)->Prop
 |[],K=>K []
 |x::r,K=>resv T S x λf=>match S.rv f with
  |some v=>zpj T S r λvs=>K (v::vs)
  |none=>False
def Vret(S:St)(f:TF)(res:Res):Prop:=
 match res with
 | .r v=>match S.rv f with
  |some v'=>Cv v' v
  |none=>False
 | .ch e sz n cells=>match f with
  | .own id=>oget S.O id=some (.ch e sz n cells true)
  |_=>False
 | .own e sz n cells=>match f with
  | .own id=>oget S.O id=some (.ch e sz n cells false)
  |_=>False
 | .bx cells=>match f with
  | .own id=>oget S.O id=some (.box (cells.map .r))
  |_=>False
def retv(T:TT)(results:List ResultVar)(S:St)(res:Res):Prop:=
 match results with
 |[x]=>resv T S x λf=>Vret S f res
 |xs=>zpj T S xs λvs=>∃v,res= .r v/\Cv (.tu vs) v
def finv(T:TT)(results:Array ResultVar)(res:Res)(e:Exit)(S:St):Prop:=
 match e with
 | .ret=>retv T results.toList S res
 | .normal=>retv T results.toList S res
 |_=>False
theorem wrap_i64{n:Int}(h: -9223372036854775808<=n/\n<=9223372036854775807):n=IntKind.i64.wrap n:=(IntWalk.i64_in n ⟨h.1,by omega⟩).symm
theorem Vint.i64{e m:Int}{K:Int->Prop}(he:m=e)(h: -9223372036854775808<=e/\e<=9223372036854775807)(hK:K m):Vint .i64 e K:=⟨m,he.trans (wrap_i64 h),hK⟩
abbrev zd:= @Vint.i64
theorem Vint.any{k:IntKind}{e:Int}{K:Int->Prop}(hK:K (k.wrap e)):Vint k e K:=⟨_,rfl,hK⟩
theorem Vint.n{k:IntKind}{e:Int}{K:Int->Prop}(m:Int)(h:m=k.wrap e)(hK:K m):Vint k e K:=⟨m,h,hK⟩
theorem Vcmp.mk'{e m:Bool}{K:Bool->Prop}(he:m=e)(hK:K m):Vcmp e K:=⟨m,he,hK⟩
theorem Vcmp.split{e:Bool}{K:Bool->Prop}(ht:e=true->K true)(hf:e=false->K false):Vcmp e K:=by
 cases e
 ·exact⟨false,rfl,hf rfl⟩
 ·exact⟨true,rfl,ht rfl⟩
abbrev zh:= @Vcmp.split
theorem Vcmp.t{e:Bool}{K:Bool->Prop}(h:e=true)(hK:K true):Vcmp e K:=⟨true,h.symm,hK⟩
abbrev zu:= @Vcmp.t
theorem Vcmp.f{e:Bool}{K:Bool->Prop}(h:e=false)(hK:K false):Vcmp e K:=⟨false,h.symm,hK⟩
abbrev zw:= @Vcmp.f
theorem Vif.mk'{b:Bool}{p q:Prop}(ht:b=true->p)(hf:b=false->q):Vif b p q:=⟨ht,hf⟩
theorem Vif.t{p q:Prop}(h:p):Vif true p q:=⟨λ_=>h,λh=>by cases h⟩
abbrev zq:= @Vif.t
theorem Vif.f{p q:Prop}(h:q):Vif false p q:=⟨λh=>(by cases h),λ_=>h⟩
abbrev zt:= @Vif.f
theorem Vidx.mk'{i:Int}{sz n:Nat}{cells cs:List RV}{K:List RV->Prop}(h0:0<=i)(h1:i<n)(hc:(cells.drop (i.toNat*sz)).take sz=cs)(hK:K cs):Vidx i sz n cells K:=⟨h0,h1,cs,hc,hK⟩
abbrev zm:= @Vidx.mk'
theorem Vload1.mk'{α:Type}{cells:List α}{off:Nat}{f:α}{K:α->Prop}(h:cells[off]?=some f)(hK:K f):Vload1 cells off K:=⟨f,h,hK⟩
abbrev zg:= @Vload1.mk'
theorem VloadN.mk'{α:Type}{cells l:List α}{off sz:Nat}{K:List α->Prop}(h:(cells.drop off).take sz=l)(hl:l.length=sz)(hK:K l):VloadN cells off sz K:=⟨l,h,hl,hK⟩
abbrev za:= @VloadN.mk'
theorem Vapp.mk'{n m bytes j:Nat}{xs ys zs:List RV}{K:Nat->List RV->Prop}(h1:n+m<=maxLen)(h2:(n+m)*bytes<=140737488355328)(hj:n+m=j)(hz:xs++ys=zs)(hK:K j zs):Vapp n m bytes xs ys K:=⟨h1,h2,j,zs,hj,hz,hK⟩
theorem Vpub.pub{K:Bool->Prop}(h:K true):Vpub K:=⟨true,h⟩
abbrev zy:= @Vpub.pub
theorem Vpub.own{K:Bool->Prop}(h:K false):Vpub K:=⟨false,h⟩
theorem Sub.refl(S:St):Sub S S:=λ_ _ _ _ k h=>⟨k,h⟩
abbrev zo:= @Sub.refl
theorem Vloop.mkx{vc:St->(Exit->St->Prop)->Prop}{S:St}{Q:Exit->St->Prop}{code:Prop}{ι:Type}(inv:ι->St)(R:ι->Prop)(μ:ι->Nat)(i:ι)(hR:R i)(h0:Sub S (inv i))
  (h: ∀i,R i->vc (inv i) λe S'=>match e with
   | .normal=>∃i',R i'/\μ i'<μ i/\Sub S' (inv i')
   |e=>∃S'',Sub S' S''/\Q e S''):Vloop vc S Q code:=⟨.inl ⟨ι,inv,R,μ,⟨i,hR,h0⟩, .inr h⟩⟩
theorem Vloop.mk'{vc:St->(Exit->St->Prop)->Prop}{S:St}{Q:Exit->St->Prop}{code:Prop}{ι:Type}(inv:ι->St)(R:ι->Prop)(μ:ι->Nat)(i:ι)(hR:R i)(h0:Sub S (inv i))
  (h: ∀i,R i->vc (inv i) λe S'=>match e with
   | .normal=>∃i',R i'/\μ i'<μ i/\Sub S' (inv i')
   |e=>Q e S'):Vloop vc S Q code:=⟨.inl ⟨ι,inv,R,μ,⟨i,hR,h0⟩, .inl h⟩⟩
theorem Vcall.mk'{P:Program}{f:FuncId}{vs ps:List RV}{K:Res->Prop}{res:Res}(hg:zab P f ps res)(hc:Cvs vs ps)(hK:K res):Vcall P f vs K:=⟨ps,hc,res, .inl hg,hK⟩
theorem Vcall.go{P:Program}{f:FuncId}{vs:List RV}{K:Res->Prop}{res:Res}(hg:zab P f vs res)(hK:K res):Vcall P f vs K:=⟨vs,zn _,res, .inl hg,hK⟩
abbrev ze:= @Vcall.go
theorem Vcall.ext{P:Program}{f:FuncId}{vs:List RV}{K:Res->Prop}{res:Res}(hg:Extn P f vs res)(hK:K res):Vcall P f vs K:=⟨vs,zn _,res, .inr hg,hK⟩
theorem Vdraw.mk'{b:Bool}{p c:Prop}(h:b=true)(hp:p):Vdraw b p c:=⟨.inl ⟨h,hp⟩⟩
theorem bV{b:Bool}{p c:Prop}(hp:p)(h:b=true:=by kernel_rfl):Vdraw b p c:=Vdraw.mk' h hp
theorem Vdraw.cut{P:Program}{T:TT}{ops:List Oper}{S:St}{K:St->Prop}{b:Bool}{p c:Prop}(m:Nat)(h:zjh m ops=true)(hp:zhh P T ops (zap [] ops) S.nx m 0 ops S [] [] K):Vdraw b p (Vcut_ P T ops S K\/c):=⟨.inr (.inl ⟨m,h,hp⟩)⟩
theorem Vdraw.code0{P:Program}{c:Code}{S:St}{Q:Exit->St->Prop}{b:Bool}{p:Prop}(h:Vcode P c S Q):Vdraw b p (Vcode P c S Q):=⟨.inr h⟩
theorem Vdraw.code{P:Program}{c:Code}{S:St}{Q:Exit->St->Prop}{b:Bool}{p q:Prop}(h:Vcode P c S Q):Vdraw b p (q\/Vcode P c S Q):=⟨.inr (.inr h)⟩
def cvTF(ρ:List (Nat×Nat))(S:St)(f f':TF):Prop:=
 match f' with
 | .r v=>match v with
  | .any=>True
  |v=>match S.rv f with
   |some v'=>Cv v' v
   |none=>False
 | .own id=>match zcv ρ id,f with
  |some j, .own i=>i=j
  |_,_=>False
 | .adr id off=>match zcv ρ id,f with
  |some j, .adr i o=>i=j/\o=off
  |_,_=>False
 | .nm id v=>match zcv ρ id,f with
  |some j, .nm i u=>i=j/\u=v
  |_,_=>False
 | .cut id off n=>match zcv ρ id,f with
  |some j, .cut i o m=>i=j/\o=off/\m=n
  |_,_=>False
def zky(ρ:List (Nat×Nat))(S:St):List (Nat×TF)->Prop
 |[]=>True
 |(t,f)::r=>(match fget S.F t with
  |some f'=>cvTF ρ S f' f
  |none=>False)/\zky ρ S r
def zgv(ρ:List (Nat×Nat))(S:St):List TF->List TF->Prop
 |[],fs=>fs=[]
 |f::r,fs=>∃g gs,fs=g::gs/\cvTF ρ S f g/\zgv ρ S r gs
theorem bA{ρ:List (Nat×Nat)}{S:St}{a:RV}{l m:List TF}(h:zgv ρ S l m):zgv ρ S (.r a::l) (.r a::m):=⟨_,_,rfl,by cases a<;>first|exact trivial|exact cr,h⟩
theorem bZ{ρ:List (Nat×Nat)}{S:St}:zgv ρ S [] []:=rfl
theorem bB{ρ:List (Nat×Nat)}{S:St}{x0 x1:RV}{l m:List TF}(h:zgv ρ S l m):zgv ρ S (.r x0::.r x1::l) (.r x0::.r x1::m):=bA (bA h)
theorem bC{ρ:List (Nat×Nat)}{S:St}{x0 x1 x2 x3:RV}{l m:List TF}(h:zgv ρ S l m):zgv ρ S (.r x0::.r x1::.r x2::.r x3::l) (.r x0::.r x1::.r x2::.r x3::m):=bB (bB h)
theorem bD{ρ:List (Nat×Nat)}{S:St}{x0 x1 x2 x3 x4 x5 x6 x7:RV}{l m:List TF}(h:zgv ρ S l m):zgv ρ S (.r x0::.r x1::.r x2::.r x3::.r x4::.r x5::.r x6::.r x7::l) (.r x0::.r x1::.r x2::.r x3::.r x4::.r x5::.r x6::.r x7::m):=bC (bC h)
theorem bE{ρ:List (Nat×Nat)}{S:St}{x0 x1 x2 x3 x4 x5 x6 x7 x8 x9 x10 x11 x12 x13 x14 x15:RV}{l m:List TF}(h:zgv ρ S l m):zgv ρ S (.r x0::.r x1::.r x2::.r x3::.r x4::.r x5::.r x6::.r x7::.r x8::.r x9::.r x10::.r x11::.r x12::.r x13::.r x14::.r x15::l) (.r x0::.r x1::.r x2::.r x3::.r x4::.r x5::.r x6::.r x7::.r x8::.r x9::.r x10::.r x11::.r x12::.r x13::.r x14::.r x15::m):=bD (bD h)
def cvOw(ρ:List (Nat×Nat))(S:St)(o o':Ow):Prop:=
 match o,o' with
 | .box cs, .box ds=>zgv ρ S cs ds
 | .ch e sz n cs pub, .ch e' sz' n' ds pub'=>e=e'/\sz=sz'/\n=n'/\pub=pub'/\Cvs cs ds
 | .gen p, .gen q=>∀w k vb,p.at_ w k vb->q.at_ w k vb
 |_,_=>False
def ltB(n:Nat):TF->Bool
 | .r _=>true
 | .own id=>Nat.blt id n
 | .adr id _=>Nat.blt id n
 | .nm id _=>Nat.blt id n
 | .cut id _ _=>Nat.blt id n
def zeo(n:Nat):Ow->Bool
 | .box cells=>cells.all (ltB n)
 | .ch .. =>true
 | .gen _=>true
def zgi:List Nat->Bool
 |[]=>true
 |x::r=> !(r.any (Nat.beq x))&&zgi r
def stOk(ρ:List (Nat×Nat))(S:St):Bool:=
 S.F.all (λx=>ltB S.nx x.2)&&S.O.all (λx=>Nat.blt x.1 S.nx&&(match x.2 with |some o=>zeo S.nx o |none=>true))&&zgi (ρ.map (·.2))&&zgi (ρ.map (·.1))
def zld(ρ:List (Nat×Nat))(S:St):List (Nat×Option Ow)->Prop
 |[]=>True
 |(id,o)::r=>(match o,zcv ρ id with
  |some o,some j=>match oget S.O j with
   |some o'=>cvOw ρ S o' o
   |none=>False
  |_,_=>False)/\zld ρ S r
theorem Cv.of_eq{f g:RV}(h:f=g):Cv f g:=h▸Cv.refl f
abbrev zf:= @Cv.of_eq
def KOk(k:TK)(d:TypeDesc):Prop:=
 match k with
 | .int kd=>d= .int kd
 | .bool=>d= .bool
 | .str=>d= .string
 | .slice e=>d= .slice e
 | .array n e=>d= .array n e
 | .struct fs=>∃fields,d= .struct fields/\fields.toList.map (λf=>(f.offset,f.type))=fs
 | .other=>True
structure TIOk (P:Program) (ti:TI):Prop where
 info: ∃i,P.info? ti.id=some i/\i.size=ti.sz/\i.bytes=ti.bytes/\∃z,i.zero=some z/\z.cells.toList=ti.zero
 desc: ∃d,P.underlying ti.id=some d/\KOk ti.k d/\d.isRow=ti.agg
 one: ∀v∈ti.zero,v.oneCell'=true
 zsz:ti.zero.length=ti.sz
 flds: ∀fs,ti.k= .struct fs->∀x∈fs,∃i,P.info? x.2=some i
def TOk(P:Program)(T:TT):Prop:=∀ti∈T,TIOk P ti
theorem zra: ∀{T:TT} {t:TypeId} {ti:TI},tget T t=some ti->ti∈T/\ti.id=t
 |[],_,_,h=>by simp[tget]at h
 |x::r,t,ti,h=>by
  simp only[tget]at h
  split at h
  ·rename_i hb
   cases h
   exact⟨List.mem_cons_self ..,Nat.eq_of_beq_eq_true hb⟩
  ·have:=zra h
   exact⟨List.mem_cons_of_mem _ this.1,this.2⟩
section
variable {P:Program} {T:TT}
theorem TOk.get(hT:TOk P T){t:TypeId}{ti:TI}(h:tget T t=some ti):TIOk P ti/\ti.id=t:=⟨hT ti (zra h).1,(zra h).2⟩
end
section
variable {B:Bs} {N:Nat} {S:St} {a:Act} {w:World} {k:Kp} {g:Env}
theorem TF.mono{w':World}{k':Kp}(h:Le w k w' k'): ∀{f:TF} {v:Value},f.at_ w k g v->f.at_ w' k' g v
 | .r q,v,hv=>RV.mono h q v hv
 | .own _,_,hv=>hv
 | .adr _ _,_,hv=>hv
 | .nm _ _,_,hv=>hv
 | .cut _ _ _,_,hv=>hv
theorem TF.env{g':Env}{n:Nat}(hg: ∀i,i<n->g' i=g i): ∀{f:TF} {v:Value},f.lt n->f.at_ w k g v->f.at_ w k g' v
 | .r _,v,_,hv=>hv
 | .own i,v,hl,hv=>by simp only[TF.at_,TF.lt]at*;rw[hg i hl];exact hv
 | .adr i o,v,hl,hv=>by simp only[TF.at_,TF.lt]at*;rw[hg i hl];exact hv
 | .nm i o,v,hl,hv=>by simp only[TF.at_,TF.lt]at*;rw[hg i hl];exact hv
 | .cut i _ _,v,hl,hv=>by simp only[TF.at_,TF.lt]at*;rw[hg i hl];exact hv
theorem TF.lt_mono{n m:Nat}(h:n<=m): ∀{f:TF},f.lt n->f.lt m
 | .r _,_=>trivial
 | .own _,hl=>Nat.lt_of_lt_of_le hl h
 | .adr _ _,hl=>Nat.lt_of_lt_of_le hl h
 | .nm _ _,hl=>Nat.lt_of_lt_of_le hl h
 | .cut _ _ _,hl=>Nat.lt_of_lt_of_le hl h
theorem Ow.lt_mono{n m:Nat}(h:n<=m): ∀{o:Ow},o.lt n->o.lt m
 | .box _,hl=>λf hf=>TF.lt_mono h (hl f hf)
 | .ch ..,_=>trivial
 | .gen _,_=>trivial
theorem chAt.mono{w':World}{k':Kp}(h:Le w k w' k'){e:TypeId}{sz n:Nat}{cells:List RV}{pub:Bool}{u:Value}{ob:Option Nat}
  (hb: ∀b,ob=some b->w'.heap[b]?=w.heap[b]?/\k' b=k b) (hc:chAt w k e sz n cells pub u ob):chAt w' k' e sz n cells pub u ob:=by
 obtain⟨hl,hc⟩:=hc
 refine⟨hl,?_⟩
 rcases hc with⟨h0,hc |⟨hn,hp,b,o,hu,hm,hb',hcell⟩⟩ |⟨b,cap,cur,hob,hu,hh,h1,h2,h3,h4,h5⟩
 ·exact .inl ⟨h0, .inl hc⟩
 ·exact .inl ⟨h0, .inr ⟨hn,hp,b,o,hu,hm,Nat.lt_of_lt_of_le hb' h.size,RV.cells_mono h hb' _ _ hcell⟩⟩
 ·have:=hb b hob
  exact .inr ⟨b,cap,cur,hob,hu,this.1.trans hh,h1,h2,h3,this.2.trans h4,RV.list_mono h _ _ h5⟩
theorem Ow.mono{w':World}{k':Kp}(h:Le w k w' k'){vb:Value×Option Nat}: ∀{o:Ow},(∀b,vb.2=some b->w'.heap[b]?=w.heap[b]?/\k' b=k b)->o.at_ w k g vb->o.at_ w' k' g vb
 | .box cells,hb,ho=>by
  simp only[Ow.at_]at ho⊢
  obtain⟨b,cur,t,e,hh,hk,hs,hc⟩:=ho
  have:=hb b (by rw[e])
  exact⟨b,cur,t,e,this.1.trans hh,this.2.trans hk,hs,λj f u hf hu=>⟨(hc j f u hf hu).1,TF.mono h (hc j f u hf hu).2⟩⟩
 | .ch e sz n cells pub,hb,ho=>chAt.mono h hb ho
 | .gen p,hb,ho=>p.mono h hb ho
theorem Ow.env{g':Env}{n:Nat}(hg: ∀i,i<n->g' i=g i){vb:Value×Option Nat}: ∀{o:Ow},o.lt n->o.at_ w k g vb->o.at_ w k g' vb
 | .box cells,hl,ho=>by
  simp only[Ow.at_]at ho⊢
  obtain⟨b,cur,t,e,hh,hk,hs,hc⟩:=ho
  exact⟨b,cur,t,e,hh,hk,hs,λj f u hf hu=>⟨(hc j f u hf hu).1,TF.env hg (hl f (List.mem_of_getElem? hf)) (hc j f u hf hu).2⟩⟩
 | .ch ..,_,ho=>ho
 | .gen _,_,ho=>ho
theorem Keep.ext{X:List Nat}{a b c:World}(h:Keep X a b)(e:Ext b c):Keep X a c:=
 ⟨e.os.trans h.os,e.tape.trans h.tape,e.output.trans h.output,Nat.le_trans h.size e.size,λx hx hn=>(e.block x (Nat.lt_of_lt_of_le hx h.size)).trans (h.block x hx hn)⟩
theorem SatE.ext(hs:SatE B N S a w k g){w':World}{k':Kp}(he:Ext w w')(hk: ∀b,b<w.heap.size->k' b=k b):SatE B N S a w' k' g:=by
 have hle:=Ext.le he hk
 refine⟨hs.size,hs.defers,hs.keep.ext he,λb hb hn=>(hk b (Nat.lt_of_lt_of_le hb hs.keep.size)).trans (hs.kk b hb hn),λt f hf=>?_,λid o ho=>?_,hs.apart⟩
 ·exact⟨(hs.facts t f hf).1,TF.mono hle (hs.facts t f hf).2⟩
 ·obtain⟨h1,h2,h3,h4⟩:=hs.owns id o ho
  refine⟨h1,h2,Ow.mono hle (λb hb=>⟨he.block b (h4 b hb).2,hk b (h4 b hb).2⟩) h3,λb hb=>⟨(h4 b hb).1,Nat.lt_of_lt_of_le (h4 b hb).2 he.size⟩⟩
theorem ziv{xs:Array Value}{d:Nat}{v:Value}(h:d<xs.size):(xs.setIfInBounds d v).getD d undef=v:=by simp[h]
theorem zgg{xs:Array Value}{d t:Nat}{v:Value}(h:d≠t):(xs.setIfInBounds d v).getD t undef=xs.getD t undef:=by
 simp[Array.getElem?_setIfInBounds_ne h]
theorem zbd{F:List (Nat×TF)}{d t:Nat}{f f':TF}(h:fget ((d,f)::F) t=some f'):(d=t/\f'=f)\/(d≠t/\fget F t=some f'):=by
 simp only[fget]at h
 split at h
 ·rename_i hb;cases h;exact .inl ⟨Nat.eq_of_beq_eq_true hb,rfl⟩
 ·rename_i hb;exact .inr ⟨Nat.ne_of_beq_eq_false hb,h⟩
theorem zav{O:List (Nat×Option Ow)}{d t:Nat}{f:Option Ow}{f':Ow}(h:oget ((d,f)::O) t=some f'):(d=t/\f=some f')\/(d≠t/\oget O t=some f'):=by
 simp only[oget]at h
 split at h
 ·rename_i hb;exact .inl ⟨Nat.eq_of_beq_eq_true hb,h⟩
 ·rename_i hb;exact .inr ⟨Nat.ne_of_beq_eq_false hb,h⟩
theorem SatE.put(hs:SatE B N S a w k g){dst:Option Nat}(hd: ∀d,dst=some d->d<N){f:TF}{v:Value}(hl:f.lt S.nx)(hf:f.at_ w k g v):SatE B N (S.put dst f) (a.put dst v) w k g:=by
 cases dst with
 |none=>exact hs
 |some d=>
  refine⟨by simp[Act.put,hs.size],hs.defers,hs.keep,hs.kk,λt f' h=>?_,hs.owns,hs.apart⟩
  rcases zbd h with⟨rfl,rfl⟩ |⟨hne,h⟩
  ·exact⟨hl,by simp only[Act.put];rw[ziv (by rw[hs.size];exact hd d rfl)];exact hf⟩
  ·have:=hs.facts t f' h
   exact⟨this.1,by simp only[Act.put];rw[zgg hne];exact this.2⟩
theorem SatE.drop(hs:SatE B N S a w k g){dst:Option Nat}{v:Value}:SatE B N (S.put dst (.r .any)) (a.put dst v) w k g:=by
 cases dst with
 |none=>exact hs
 |some d=>
  refine⟨by simp[Act.put,hs.size],hs.defers,hs.keep,hs.kk,λt f' h=>?_,hs.owns,hs.apart⟩
  rcases zbd h with⟨rfl,rfl⟩ |⟨hne,h⟩
  ·exact⟨trivial,by simp[TF.at_,RV.at_]⟩
  ·have:=hs.facts t f' h
   exact⟨this.1,by simp only[Act.put];rw[zgg hne];exact this.2⟩
theorem zzr(t:Array Value)(d:Nat):(t.setIfInBounds d undef).getD d undef=undef:=by
 rw[Array.getD_eq_getD_getElem?]
 by_cases h:d<t.size
 ·simp[h]
 ·simp[Array.getElem?_eq_none (show(t.setIfInBounds d undef).size<=d by simp;omega)]
theorem zzs(w:World)(k:Kp)(g:Env):(TF.r (.tu [])).at_ w k g undef:=by simp[TF.at_,RV.at_,RV.partsAt,undef]
theorem SatE.skipped(hs:SatE B N S a w k g){dst:Option Nat}:SatE B N (S.put dst (.r (.tu []))) (a.put dst undef) w k g:=by
 cases dst with
 |none=>exact hs
 |some d=>
  refine⟨by simp[Act.put,hs.size],hs.defers,hs.keep,hs.kk,λt f' h=>?_,hs.owns,hs.apart⟩
  rcases zbd h with⟨rfl,rfl⟩ |⟨hne,h⟩
  ·refine⟨trivial,?_⟩
   simp only[Act.put,zzr]
   exact zzs w k g
  ·have:=hs.facts t f' h
   exact⟨this.1,by simp only[Act.put];rw[zgg hne];exact this.2⟩
def Env.set(g:Env)(n:Nat)(vb:Value×Option Nat):Env:=λi=>if i=n then vb else g i
theorem Env.set_lt{n:Nat}{vb:Value×Option Nat}: ∀i,i<n->g.set n vb i=g i:=λi hi=>by simp[Env.set,Nat.ne_of_lt hi]
theorem Env.set_eq{n:Nat}{vb:Value×Option Nat}:g.set n vb n=vb:=by simp[Env.set]
theorem SatE.make(hs:SatE B N S a w k g){dst:Option Nat}(hd: ∀d,dst=some d->d<N){w':World}{k':Kp}(he:Ext w w')(hk: ∀b,b<w.heap.size->k' b=k b){o:Ow}{vb:Value×Option Nat}
  (hl:o.lt S.nx) (ho:o.at_ w' k' g vb) (hb: ∀b,vb.2=some b->w.heap.size<=b/\b<w'.heap.size):
  SatE B N (S.mk_ dst o) (a.put dst vb.1) w' k' (g.set S.nx vb):=by
 have h1:=hs.ext he hk
 have hlt:S.nx<=S.nx+1:=Nat.le_succ _
 have hset: ∀i,i<S.nx->g.set S.nx vb i=g i:=Env.set_lt
 have h2:SatE B N {F:=S.F,O:=(S.nx,some o)::S.O,nx:=S.nx+1} a w' k' (g.set S.nx vb):=by
  refine⟨h1.size,h1.defers,h1.keep,h1.kk,λt f hf=>?_,λid o' ho'=>?_,λi j oi oj b hi hj hne hbi=>?_⟩
  ·have:=h1.facts t f hf
   exact⟨TF.lt_mono hlt this.1,TF.env hset this.1 this.2⟩
  ·rcases zav ho' with⟨rfl,e⟩ |⟨hne,h⟩
   ·cases e
    refine⟨Nat.lt_succ_self _,Ow.lt_mono hlt hl,by rw[Env.set_eq];exact Ow.env hset hl ho,λb hbb=>?_⟩
    rw[Env.set_eq]at hbb
    exact⟨.inl (Nat.le_trans hs.keep.size (hb b hbb).1),(hb b hbb).2⟩
   ·obtain⟨q1,q2,q3,q4⟩:=h1.owns id o' h
    refine⟨Nat.lt_succ_of_lt q1,Ow.lt_mono hlt q2,?_,?_⟩
    ·rw[hset id q1];exact Ow.env hset q2 q3
    ·rw[hset id q1];exact q4
  ·rcases zav hi with⟨rfl,e⟩ |⟨hni,hi⟩
   ·rw[Env.set_eq]at hbi
    rcases zav hj with⟨rfl,_⟩ |⟨hnj,hj⟩
    ·exact absurd rfl hne
    ·have q:=h1.owns j oj hj
     have q':=hs.owns j oj hj
     rw[hset j q.1]
     intro hbj
     have:=(q'.2.2.2 b hbj).2
     have:=(hb b hbi).1
     omega
   ·have qi:=h1.owns i oi hi
    rw[hset i qi.1]at hbi
    rcases zav hj with⟨rfl,_⟩ |⟨hnj,hj⟩
    ·rw[Env.set_eq]
     intro hbj
     have:=((hs.owns i oi hi).2.2.2 b hbi).2
     have:=(hb b hbj).1
     omega
    ·have qj:=h1.owns j oj hj
     rw[hset j qj.1]
     exact h1.apart i j oi oj b hi hj hne hbi
 cases dst with
 |none=>exact h2
 |some d=>
  have:=h2.put (dst:=some d) hd (f:= .own S.nx) (v:=vb.1) (Nat.lt_succ_self _) (by simp[TF.at_,Env.set_eq])
  exact this
theorem zyr(v:Value):(ofC v).at_ w k v:=by cases v<;>simp[ofC,RV.at_]
theorem zah(hs:SatE B N S a w k g): ∀{x:Operand} {f:TF},opr S x=some f->f.lt S.nx/\f.at_ w k g (a.eval x)
 | .tmp t,f,h=>hs.facts t f h
 | .const v,f,h=>by simp only[opr]at h;cases h;exact⟨trivial,zyr v⟩
 | .func _,f,h=>by simp only[opr]at h;cases h;exact⟨trivial,by simp[TF.at_,RV.at_,Act.eval]⟩
 | .global _,f,h=>by simp only[opr]at h;cases h;exact⟨trivial,by simp[TF.at_,RV.at_,Act.eval]⟩
theorem chAt.sl{e:TypeId}{sz n:Nat}{cells:List RV}{u:Value}{ob:Option Nat}(h:chAt w k e sz n cells true u ob):(RV.sl sz n cells).at_ w k u:=by
 obtain⟨hl,h⟩:=h
 simp only[RV.at_]
 rcases h with⟨_,⟨rfl,a,rfl⟩ |⟨_,_,b,o,rfl,hm,hb,hc⟩⟩ |⟨b,cap,cur,_,rfl,hh,h1,h2,h3,h4,h5⟩
 ·exact⟨a,0,rfl,Nat.le_refl _,by simp,hl,λh=>absurd h (by omega)⟩
 ·exact⟨_,n,rfl,Nat.le_refl _,hm,hl,λ_=>⟨b,o,rfl,hb,hc⟩⟩
 ·refine⟨some ⟨b,0,none⟩,cap,rfl,h1,h2,hl,λhn=>⟨b,0,rfl,(Array.getElem?_eq_some_iff.1 hh).1,?_⟩⟩
  rw[RV.cellsAt_iff]
  rw[RV.listAt_iff]at h5
  obtain⟨q1,q2⟩:=h5
  intro j f hj
  have hlt:j<cells.length:=(List.getElem?_eq_some_iff.1 hj).1
  have hlu:j< (cur.toList.take (n*sz)).length:=by rw[q1];exact hlt
  have:=q2 j f _ hj (List.getElem?_eq_getElem hlu)
  have hcur:cur[j]?=some (cur.toList.take (n*sz))[j]:=by
   have e1:=List.getElem?_eq_getElem hlu
   rw[List.getElem?_take]at e1
   split at e1
   ·simp
   ·cases e1
  refine⟨?_,_,?_,this.1,this.2⟩
  ·have:k b=n*sz:=by simpa using h4
   omega
  ·rw[Nat.zero_add,cell_of_row w b j cur e (0,0) hh]
   exact hcur
theorem zgm(hs:SatE B N S a w k g): ∀{f:TF} {v:RV} {u:Value},S.rv f=some v->f.at_ w k g u->v.at_ w k u
 | .r _,v,u,h,hf=>by simp only[St.rv]at h;cases h;exact hf
 | .own id,v,u,h,hf=>by
  simp only[St.rv]at h
  split at h
  ·rename_i e sz n cells ho
   cases h
   simp only[TF.at_]at hf
   have:=(hs.owns _ _ ho).2.2.1
   simp only[Ow.at_]at this
   subst hf
   exact chAt.sl this
  ·cases h
 | .adr _ _,v,u,h,_=>by simp[St.rv]at h
 | .nm _ _,v,u,h,_=>by simp[St.rv]at h
 | .cut _ _ _,v,u,h,_=>by simp[St.rv]at h
theorem zzk(hs:SatE B N S a w k g): ∀{fs:List TF} {vs:List RV} {us:List Value},S.rvs fs=some vs->us.length=fs.length->
  (∀(j:Nat) (f:TF) (u:Value),fs[j]?=some f->us[j]?=some u->u.oneCell'=true/\f.at_ w k g u)->RV.listAt w k vs us
 |[],vs,us,h,hl,_=>by simp only[St.rvs]at h;cases h;simp only[RV.listAt];exact List.eq_nil_of_length_eq_zero hl
 |f::fs,vs,us,h,hl,hc=>by
  simp only[St.rvs]at h
  split at h
  ·rename_i v vs' hv hvs
   cases h
   cases us with
   |nil=>simp at hl
   |cons u r=>
    have h0:=hc 0 f u (by simp) (by simp)
    simp only[RV.listAt]
    exact⟨u,r,rfl,h0.1,zgm hs hv h0.2,zzk hs hvs (by simpa using hl) λj f u hf hu=>hc (j+1) f u (by simpa using hf) (by simpa using hu)⟩
  ·cases h
theorem zpe(hs:SatE B N S a w k g): ∀{xs:List Operand} {vs:List RV},oprs S xs=some vs->RV.partsAt w k vs (xs.map a.eval)
 |[],vs,h=>by simp only[oprs]at h;cases h;simp[RV.partsAt]
 |x::xs,vs,h=>by
  simp only[oprs]at h
  split at h
  ·rename_i f hf
   split at h
   ·rename_i v vs' hv hvs
    cases h
    simp only[RV.partsAt,List.map_cons]
    exact⟨_,_,rfl,zgm hs hv (zah hs hf).2,zpe hs hvs⟩
   ·cases h
  ·cases h
theorem Cvs.at_: ∀{fs gs:List RV} {us:List Value},Cvs fs gs->RV.partsAt w k fs us->RV.partsAt w k gs us
 |[],gs,us,h,hu=>by simp only[Cvs]at h;subst h;exact hu
 |f::fs,gs,us,h,hu=>by
  simp only[Cvs]at h
  obtain⟨g,r,rfl,h1,h2⟩:=h
  simp only[RV.partsAt]at hu⊢
  obtain⟨u,us',rfl,q1,q2⟩:=hu
  exact⟨u,us',rfl,h1 w k u q1,Cvs.at_ h2 q2⟩
theorem Cvs.list: ∀{fs gs:List RV} {us:List Value},Cvs fs gs->RV.listAt w k fs us->RV.listAt w k gs us
 |[],gs,us,h,hu=>by simp only[Cvs]at h;subst h;exact hu
 |f::fs,gs,us,h,hu=>by
  simp only[Cvs]at h
  obtain⟨g,r,rfl,h1,h2⟩:=h
  simp only[RV.listAt]at hu⊢
  obtain⟨u,us',rfl,q0,q1,q2⟩:=hu
  exact⟨u,us',rfl,q0,h1 w k u q1,Cvs.list h2 q2⟩
theorem Cvs.cells: ∀{fs gs:List RV} {b o:Nat},Cvs fs gs->RV.cellsAt w k b o fs->RV.cellsAt w k b o gs
 |[],gs,b,o,h,hu=>by simp only[Cvs]at h;subst h;exact hu
 |f::fs,gs,b,o,h,hu=>by
  simp only[Cvs]at h
  obtain⟨g,r,rfl,h1,h2⟩:=h
  simp only[RV.cellsAt]at hu⊢
  obtain⟨⟨q0,u,q1,q2,q3⟩,q4⟩:=hu
  exact⟨⟨q0,u,q1,q2,h1 w k u q3⟩,Cvs.cells h2 q4⟩
end
def tkOf:TypeDesc->TK
 | .int k=> .int k
 | .bool=> .bool
 | .string=> .str
 | .slice e=> .slice e
 | .array n e=> .array n e
 | .struct fields=> .struct (fields.toList.map λf=>(f.offset,f.type))
 |_=> .other
def mkTI(P:Program)(t:TypeId):Option TI:=
 match P.info? t,P.underlying t with
 |some i,some d=>match i.zero with
  |some z=>
   let ti:TI:=⟨t,tkOf d,i.size,i.bytes,d.isRow,z.cells.toList⟩
   match ti.zero.all (λv=>v.oneCell')&&(Nat.beq ti.zero.length ti.sz&&(match ti.k with | .struct fs=>fs.all λx=>(P.info? x.2).isSome |_=>true))with
   |true=>some ti
   |false=>none
  |none=>none
 |_,_=>none
def mkT(P:Program):List TypeId->TT
 |[]=>[]
 |t::r=>match mkTI P t with
  |some ti=>ti::mkT P r
  |none=>mkT P r
theorem zeub{P:Program}{t:TypeId}{ti:TI}(h:mkTI P t=some ti):TIOk P ti:=by
 unfold mkTI at h
 split at h
 ·rename_i i d hi hd
  split at h
  ·rename_i z hz
   simp only at h
   split at h
   ·rename_i hb
    cases h
    simp only[Bool.and_eq_true,List.all_eq_true]at hb
    obtain⟨h1,h2,h3⟩:=hb
    refine⟨⟨i,hi,rfl,rfl,z,hz,rfl⟩,⟨d,hd,?_,rfl⟩,h1,Nat.eq_of_beq_eq_true h2,λfs hfs x hx=>?_⟩
    ·cases d<;>simp[tkOf,KOk]
    ·simp only at hfs
     rw[hfs]at h3
     simp only[List.all_eq_true]at h3
     exact Option.isSome_iff_exists.1 (h3 x hx)
   ·cases h
  ·cases h
 ·cases h
theorem zym{P:Program}: ∀l:List TypeId,TOk P (mkT P l)
 |[]=>λ_ h=>by cases h
 |t::r=>λti h=>by
  simp only[mkT]at h
  split at h
  ·rename_i ti' hti
   rcases List.mem_cons.1 h with rfl |h
   ·exact zeub hti
   ·exact zym r ti h
  ·exact zym r ti h
end Go.Proofs.YtoegdgbghdnnfaaGreat.Sx
