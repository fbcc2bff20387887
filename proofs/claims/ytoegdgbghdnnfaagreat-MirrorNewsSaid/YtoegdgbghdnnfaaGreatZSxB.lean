import Derived.Test.YtoegdgbghdnnfaaGreatZSxA
namespace Go.Proofs.YtoegdgbghdnnfaaGreat.Sx
open Go.RowKit
inductive TK where
 |int (k:IntKind) |bool |str
 |slice (e:TypeId) |struct (fs:List (Nat×TypeId)) |array (n:Nat) (e:TypeId)
 |other
structure TI where
 id:TypeId
 k:TK
 sz:Nat
 bytes:Nat
 agg:Bool
 zero:List Value
abbrev TT:=List TI
def tget:TT->TypeId->Option TI
 |[],_=>none
 |x::r,t=>match Nat.beq x.id t with
  |true=>some x
  |false=>tget r t
inductive TF where
 |r (v:RV)
 |own (id:Nat)
 |adr (id off:Nat)
 |nm (id:Nat) (v:Value)
 |cut (id off n:Nat)
structure GOw where
 at_:World->Kp->Value×Option Nat->Prop
 len:Option Nat:=none
 lenOk: ∀{w k vb n},len=some n->at_ w k vb->∃b es c,vb.1= .map (some b)/\w.heap[b]?=some (.map es c)/\es.size=n:=by intro _ _ _ _ h;cases h
 mono: ∀{w k w' k' vb},Le w k w' k'->(∀b,vb.2=some b->w'.heap[b]?=w.heap[b]?/\k' b=k b)->at_ w k vb->at_ w' k' vb
 one: ∀{w k vb},at_ w k vb->vb.1.oneCell'=true
inductive Ow where
 |box (cells:List TF)
 |ch (e:TypeId) (sz n:Nat) (cells:List RV) (pub:Bool)
 |gen (p:GOw)
structure St where
 F:List (Nat×TF)
 O:List (Nat×Option Ow)
 nx:Nat
def fget:List (Nat×TF)->Nat->Option TF
 |[],_=>none
 |(u,f)::r,t=>match Nat.beq u t with
  |true=>some f
  |false=>fget r t
def oget:List (Nat×Option Ow)->Nat->Option Ow
 |[],_=>none
 |(u,f)::r,t=>match Nat.beq u t with
  |true=>f
  |false=>oget r t
def ofC:Value->RV
 | .int k n=> .i k n
 | .bool b=> .b b
 |v=> .x v
def opr(S:St):Operand->Option TF
 | .tmp t=>fget S.F t
 | .const v=>some (.r (ofC v))
 | .func f=>some (.r (.x (.func (.func f) #[] #[])))
 | .global g=>some (.r (.x (.pointer (some ⟨g,0,none⟩))))
def optv(S:St)(x:Option Operand)(d:TF):Option TF:=
 match x with
 |some x=>opr S x
 |none=>some d
def St.rv(S:St):TF->Option RV
 | .r v=>some v
 | .own id=>match oget S.O id with
  |some (.ch _ sz n cells true)=>some (.sl sz n cells)
  |_=>none
 | .adr _ _=>none
 | .nm _ _=>none
 | .cut _ _ _=>none
def St.rvs(S:St):List TF->Option (List RV)
 |[]=>some []
 |f::fs=>match S.rv f,S.rvs fs with
  |some v,some vs=>some (v::vs)
  |_,_=>none
def oprs(S:St):List Operand->Option (List RV)
 |[]=>some []
 |x::xs=>match opr S x with
  |some f=>match S.rv f,oprs S xs with
   |some v,some vs=>some (v::vs)
   |_,_=>none
  |none=>none
def St.put(S:St)(dst:Option Nat)(f:TF):St:=
 match dst with
 |some d=>{S with F:=(d,f)::S.F}
 |none=>S
def St.mk_(S:St)(dst:Option Nat)(o:Ow):St:=
 {F:=(match dst with |some d=>(d, .own S.nx)::S.F |none=>S.F),O:=(S.nx,some o)::S.O,nx:=S.nx+1}
def St.set(S:St)(id:Nat)(o:Option Ow):St:={S with O:=(id,o)::S.O}
def St.strike(S:St):Option Nat->St
 |some j=>S.set j none
 |none=>S
def St.new(S:St)(dst:Option Nat)(f:TF):Option Ow->St
 |none=>S.put dst f
 |some o=>S.mk_ dst o
def newK(S:St)(dst:Option Nat)(f:TF)(ow:Option Ow)(K:St->Prop):Prop:=
 match S with
 |⟨F,O,nx⟩=>match ow with
  |none=>match dst with
   |some d=>K ⟨(d,f)::F,O,nx⟩
   |none=>K ⟨F,O,nx⟩
  |some o=>match dst with
   |some d=>K ⟨(d, .own nx)::F,(nx,some o)::O,nx+1⟩
   |none=>K ⟨F,(nx,some o)::O,nx+1⟩
theorem za4{S:St}{dst:Option Nat}{f:TF}{ow:Option Ow}{K:St->Prop}:newK S dst f ow K=K (S.new dst f ow):=by
 cases S;cases ow<;>cases dst<;>rfl
def setK(S:St)(id:Nat)(o:Option Ow)(dst:Option Nat)(K:St->Prop):Prop:=
 match S with
 |⟨F,O,nx⟩=>match dst with
  |some d=>K ⟨(d, .r .any)::F,(id,o)::O,nx⟩
  |none=>K ⟨F,(id,o)::O,nx⟩
theorem zd6{S:St}{id:Nat}{o:Option Ow}{dst:Option Nat}{K:St->Prop}:setK S id o dst K=K ((S.set id o).put dst (.r .any)):=by
 cases S;cases dst<;>rfl
structure Vint (k:IntKind) (e:Int) (K:Int->Prop):Prop where
 out: ∃m,m=k.wrap e/\K m
structure Vquo (k:IntKind) (a b:Int) (K:Int->Prop):Prop where
 out:b≠0/\∃m,m=k.wrap (a.tdiv b)/\K m
structure Vrem (a b:Int) (K:Int->Prop):Prop where
 out:b≠0/\∃m,m=a.tmod b/\K m
structure Vbits (k:IntKind) (op:BinOp) (a b:Int) (K:Int->Prop):Prop where
 out: ∃m,m=k.wrap (match op with
  | .and=>(BitVec.ofInt k.bits a&&&BitVec.ofInt k.bits b).toNat
  | .or=>(BitVec.ofInt k.bits a|||BitVec.ofInt k.bits b).toNat
  | .xor=>(BitVec.ofInt k.bits a^^^BitVec.ofInt k.bits b).toNat
  |_=>(BitVec.ofInt k.bits a&&& ~~~(BitVec.ofInt k.bits b)).toNat:Nat)/\K m
structure Vshl (k:IntKind) (a b:Int) (K:Int->Prop):Prop where
 out:0<=b/\∃m,m=k.wrap (a*2^(min b.toNat k.bits))/\K m
structure Vshr (k:IntKind) (a b:Int) (K:Int->Prop):Prop where
 out:0<=b/\∃m,m=a.fdiv (2^(min b.toNat k.bits))/\K m
structure Vcmp (e:Bool) (K:Bool->Prop):Prop where
 out: ∃m,m=e/\K m
structure Vidx (i:Int) (sz n:Nat) (cells:List RV) (K:List RV->Prop):Prop where
 out:0<=i/\i<n/\∃cs,(cells.drop (i.toNat*sz)).take sz=cs/\K cs
structure Vadr (i:Int) (n:Nat) (K:Nat->Prop):Prop where
 out:0<=i/\i<n/\K i.toNat
structure Vload1 {α:Type} (cells:List α) (off:Nat) (K:α->Prop):Prop where
 out: ∃f,cells[off]?=some f/\K f
structure VloadN {α:Type} (cells:List α) (off sz:Nat) (K:List α->Prop):Prop where
 out: ∃l,(cells.drop off).take sz=l/\l.length=sz/\K l
structure Vcut (lo hi:Int) (sz n:Nat) (cells:List RV) (K:Nat->List RV->Prop):Prop where
 out:0<=lo/\lo<=hi/\hi<=n/\∃m cs,m=hi.toNat-lo.toNat/\(cells.drop (lo.toNat*sz)).take (m*sz)=cs/\K m cs
structure Vapp (n m bytes:Nat) (xs ys:List RV) (K:Nat->List RV->Prop):Prop where
 out:n+m<=maxLen/\(n+m)*bytes<=140737488355328/\∃j zs,n+m=j/\xs++ys=zs/\K j zs
structure Vpub (K:Bool->Prop):Prop where
 out: ∃b,K b
structure Vif (b:Bool) (p q:Prop):Prop where
 out:(b=true->p)/\(b=false->q)
structure Vmake (n n':Int) (bytes:Nat) (zero:List Value) (K:Nat->List RV->Prop):Prop where
 out:n=n'/\0<=n/\n.toNat*bytes<=140737488355328/\n.toNat<=maxLen/\∃j zs,n.toNat=j/\(List.replicate n.toNat (zero.map ofC)).flatten=zs/\K j zs
structure Vnil (P:Program) (t:TypeId) (p:Prop):Prop where
 out:(∃e,P.underlying t=some (.pointer e))/\p
structure Vmlen (P:Program) (t:TypeId) (p:Prop):Prop where
 out:(∃kt et,P.underlying t=some (.map kt et))/\p
structure Vst (off sz len:Nat) (p:Prop):Prop where
 out:off+sz<=len/\p
structure Vdraw (b:Bool) (p c:Prop):Prop where
 out:(b=true/\p)\/c
def Cv(f g:RV):Prop:=∀w k v,f.at_ w k v->g.at_ w k v
theorem Cv.refl(f:RV):Cv f f:=λ_ _ _ h=>h
theorem cr{f:RV}:Cv f f:=Cv.refl f
def Cvs:List RV->List RV->Prop
 |[],gs=>gs=[]
 |f::fs,gs=>∃g r,gs=g::r/\Cv f g/\Cvs fs r
theorem Cvs.refl: ∀fs:List RV,Cvs fs fs
 |[]=>rfl
 |f::fs=>⟨f,fs,rfl,Cv.refl f,Cvs.refl fs⟩
abbrev zn:= @Cvs.refl
theorem Cvs.cons{f g:RV}{fs gs:List RV}(h:Cv f g)(hs:Cvs fs gs):Cvs (f::fs) (g::gs):=⟨g,gs,rfl,h,hs⟩
abbrev zk:= @Cvs.cons
theorem Cvs.nil:Cvs [] []:=rfl
theorem Cv.nil(sz:Nat):Cv (.x (.slice none 0 0)) (.sl sz 0 []):=λw k v h=>by
 simp only[RV.at_]at h⊢
 subst h
 exact⟨none,0,rfl,Nat.le_refl _,by simp,by simp,λh=>absurd h (by omega)⟩
inductive Res where
 |r (v:RV)
 |ch (e:TypeId) (sz n:Nat) (cells:List RV)
 |own (e:TypeId) (sz n:Nat) (cells:List RV)
 |bx (cells:List RV)
def chAt(w:World)(k:Kp)(e:TypeId)(sz n:Nat)(cells:List RV)(pub:Bool)(u:Value)(ob:Option Nat):Prop:=
 cells.length=n*sz/\
 ((ob=none/\((n=0/\∃a,u= .slice a 0 0)\/(0<n/\pub=true/\∃b o,u= .slice (some ⟨b,o,none⟩) n n/\n<=maxLen/\b<w.heap.size/\RV.cellsAt w k b o cells)))\/
 (∃b cap cur,ob=some b/\u= .slice (some ⟨b,0,none⟩) n cap/\w.heap[b]?=some (.cells cur e (0,0))/\n<=cap/\cap<=maxLen/\cap*sz<=cur.size/\
   k b=(if pub then n*sz else 0)/\RV.listAt w k cells (cur.toList.take (n*sz))))
def Res.at_(b0:Nat)(w:World)(k:Kp):Res->Value->Prop
 | .r v,u=>v.at_ w k u
 | .ch e sz n cells,u=>∃ob,chAt w k e sz n cells true u ob/\∀b,ob=some b->b0<=b
 | .own e sz n cells,u=>∃ob,chAt w k e sz n cells false u ob/\∀b,ob=some b->b0<=b
 | .bx cells,u=>∃b cur t,u= .pointer (some ⟨b,0,none⟩)/\b0<=b/\w.heap[b]?=some (.cells cur t (0,0))/\k b=0/\cur.size=cells.length/\
   ∀(j:Nat) (f:RV) (v:Value),cells[j]?=some f->cur[j]?=some v->v.oneCell'=true/\f.at_ w k v
def zlj(P:Program)(f:FuncId):Prop:=∃fn c,P.funcs[f]?=some fn/\fn.body=some c/\fn.name≠ "runtime.NumGoroutine"
def zab(P:Program)(f:FuncId)(args:List RV)(res:Res):Prop:=
 zlj P f/\∀w k vs,RV.partsAt w k args vs->Calls P f vs.toArray w λe w'=>∃v,e= .returned v/\Ext w w'/\∃k':Kp,(∀b,b<w.heap.size->k' b=k b)/\res.at_ w.heap.size w' k' v
abbrev Env:=Nat->Value×Option Nat
def TF.at_(w:World)(k:Kp)(g:Env):TF->Value->Prop
 | .r v,u=>v.at_ w k u
 | .own id,u=>u=(g id).1
 | .adr id off,u=>∃b,(g id).2=some b/\u= .pointer (some ⟨b,off,none⟩)
 | .nm id v,_=>(g id).1=v
 | .cut id off n,u=>∃b c,(g id).2=some b/\u= .slice (some ⟨b,off,none⟩) n c/\n<=c/\c<=maxLen
def TF.lt(n:Nat):TF->Prop
 | .r _=>True
 | .own id=>id<n
 | .adr id _=>id<n
 | .nm id _=>id<n
 | .cut id _ _=>id<n
def Ow.at_(w:World)(k:Kp)(g:Env)(vb:Value×Option Nat):Ow->Prop
 | .box cells=>∃b cur t,vb=(.pointer (some ⟨b,0,none⟩),some b)/\w.heap[b]?=some (.cells cur t (0,0))/\k b=0/\cur.size=cells.length/\
   ∀(j:Nat) (f:TF) (u:Value),cells[j]?=some f->cur[j]?=some u->u.oneCell'=true/\f.at_ w k g u
 | .ch e sz n cells pub=>chAt w k e sz n cells pub vb.1 vb.2
 | .gen p=>p.at_ w k vb
def Ow.lt(n:Nat):Ow->Prop
 | .box cells=>∀f∈cells,f.lt n
 | .ch .. =>True
 | .gen _=>True
structure Bs where
 w:World
 k:Kp
 X:List Nat
 d:List Deferred
structure Keep (X:List Nat) (w w':World):Prop where
 os:w'.os=w.os
 tape:w'.tape=w.tape
 output:w'.output=w.output
 size:w.heap.size<=w'.heap.size
 block: ∀b,b<w.heap.size->b∉X->w'.heap[b]?=w.heap[b]?
structure SatE (B:Bs) (N:Nat) (S:St) (a:Act) (w:World) (k:Kp) (g:Env):Prop where
 size:a.tmps.size=N
 defers:a.defers=B.d
 keep:Keep B.X B.w w
 kk: ∀b,b<B.w.heap.size->b∉B.X->k b=B.k b
 facts: ∀t f,fget S.F t=some f->f.lt S.nx/\f.at_ w k g (a.tmps.getD t undef)
 owns: ∀id o,oget S.O id=some o->id<S.nx/\o.lt S.nx/\o.at_ w k g (g id)/\∀b,(g id).2=some b->(B.w.heap.size<=b\/b∈B.X)/\b<w.heap.size
 apart: ∀i j o o' b,oget S.O i=some o->oget S.O j=some o'->i≠j->(g i).2=some b->(g j).2≠some b
def Sat(B:Bs)(N:Nat)(S:St)(a:Act)(w:World)(k:Kp):Prop:=∃g,SatE B N S a w k g
def Yld(P:Program)(S:St)(o:Oper)(S':St):Prop:=
 ∀B N a w k (Q:Exit->Act->World->Prop),Sat B N S a w k->(∀d,o.dst=some d->d<N)->o.wp P a w (λa' w'=>∃k',Sat B N S' a' w' k') Q
def YldF(P:Program)(S:St)(o:Oper){ι:Type}(S':ι->St):Prop:=
 ∀B N a w k (Q:Exit->Act->World->Prop),Sat B N S a w k->(∀d,o.dst=some d->d<N)->o.wp P a w (λa' w'=>∃i k',Sat B N (S' i) a' w' k') Q
def zbl(cells:List RV)(off:Nat)(new:List RV):List RV:=cells.take off++new++cells.drop (off+new.length)
def cellsOf:RV->List RV
 | .ag l=>l
 |v=>[v]
def zbi:RV->Bool
 | .x v=>v.oneCell'
 | .tu _=>false
 | .any=>false
 |_=>true
def putK{α:Type}:List α->Nat->List α->(List α->Prop)->Prop
 |[],_,_,K=>K []
 |c::r,o+1,ns,K=>putK r o ns λl=>K (c::l)
 |c::r,0,[],K=>K (c::r)
 |_::r,0,n::ns,K=>putK r 0 ns λl=>K (n::l)
theorem zfq{α:Type}: ∀(cells:List α) (off:Nat) (new:List α) (K:List α->Prop),off+new.length<=cells.length->putK cells off new K=K (cells.take off++new++cells.drop (off+new.length))
 |[],off,new,K,h=>by
  have h0:off+new.length<=0:=h
  have h1:off=0:=by omega
  have h2:new=[]:=List.eq_nil_of_length_eq_zero (by omega)
  subst h1;subst h2;simp[putK]
 |c::r,o+1,ns,K,h=>by
  rw[putK,zfq r o ns _ (by simp at h⊢;omega)]
  simp[Nat.add_right_comm]
 |c::r,0,[],K,h=>by simp[putK]
 |c::r,0,n::ns,K,h=>by
  rw[putK,zfq r 0 ns _ (by simp at h⊢;omega)]
  simp
def putM(m:Bool)(cells:List RV)(off:Nat)(new:List RV)(K:List RV->Prop):Prop:=
 match m with
 |true=>putK cells off new K
 |false=>K (zbl cells off new)
theorem zue(m:Bool)(cells:List RV)(off:Nat)(new:List RV)(K:List RV->Prop)(h:off+new.length<=cells.length):putM m cells off new K=K (zbl cells off new):=by
 cases m
 ·rfl
 ·exact zfq cells off new K h
def few(l:List (Nat×Operand)):Bool:=Nat.ble l.length 24
def ziy(m:Bool)(S:St)(place:Nat->Option (Nat×Nat)):List RV->List (Nat×Operand)->(List RV->Prop)->Prop
 |cells,[],K=>K cells
 |cells,(i,x)::r,K=>
  match place i,opr S x with
  |some (off,sz),some f=>match S.rv f with
   |some v=>match zbi v&&(Nat.beq (cellsOf v).length sz&&Nat.ble (off+sz) cells.length)with
    |true=>putM m cells off (cellsOf v) λc=>ziy m S place c r K
    |false=>False
   |none=>False
  |_,_=>False
def lget{α:Type}:List α->Nat->Option α
 |[],_=>none
 |x::_,0=>some x
 |_::r,n+1=>lget r n
def zfr(T:TT)(fs:List (Nat×TypeId))(i:Nat):Option (Nat×Nat):=
 match lget fs i with
 |some (off,t)=>match tget T t with
  |some ti=>some (off,ti.sz)
  |none=>none
 |none=>none
def ldOw(S:St)(ow:Option Ow)(off:Nat)(ti:TI)(K:TF->Prop):Prop:=
 match ow with
 |some (.box cells)=>match ti.agg with
  |true=>VloadN cells off ti.sz λl=>match S.rvs l with
   |some vs=>K (.r (.ag vs))
   |none=>False
  |false=>match lget cells off with
   |some f=>K f
   |none=>False
 |some (.ch _ _ _ cells _)=>match ti.agg with
  |true=>VloadN cells off ti.sz λl=>K (.r (.ag l))
  |false=>Vload1 cells off λf=>K (.r f)
 |some (.gen _)=>False
 |none=>False
def ldv(S:St)(ti:TI)(f:TF)(K:TF->Prop):Prop:=
 match f with
 | .own id=>match oget S.O id with
  |some (.box cells)=>ldOw S (some (.box cells)) 0 ti K
  |_=>False
 | .adr id off=>ldOw S (oget S.O id) off ti K
 | .r (.ptr cells)=>match ti.agg with
  |true=>VloadN cells 0 ti.sz λl=>K (.r (.ag l))
  |false=>Vload1 cells 0 λf=>K (.r f)
 |_=>False
def ikEq:IntKind->IntKind->Bool
 | .i8, .i8 | .i16, .i16 | .i32, .i32 | .i64, .i64 | .u8, .u8 | .u16, .u16 | .u32, .u32 | .u64, .u64=>true
 |_,_=>false
theorem zejb{a b:IntKind}(h:ikEq a b=true):a=b:=by cases a<;>cases b<;>first|rfl|(simp[ikEq]at h)
def binv(op:BinOp)(k:IntKind)(a b:Int)(K:RV->Prop):Prop:=
 match op with
 | .add=>Vint k (a+b) λm=>K (.i k m)
 | .sub=>Vint k (a-b) λm=>K (.i k m)
 | .mul=>Vint k (a*b) λm=>K (.i k m)
 | .quo=>Vquo k a b λm=>K (.i k m)
 | .rem=>Vrem a b λm=>K (.i k m)
 | .and | .or | .xor | .andNot=>Vbits k op a b λm=>K (.i k m)
 | .eql=>Vcmp (a==b) λm=>K (.b m)
 | .neq=>Vcmp (a != b) λm=>K (.b m)
 | .lss=>Vcmp (decide (a<b)) λm=>K (.b m)
 | .leq=>Vcmp (decide (a<=b)) λm=>K (.b m)
 | .gtr=>Vcmp (decide (a>b)) λm=>K (.b m)
 | .geq=>Vcmp (decide (a≥b)) λm=>K (.b m)
 |_=>False
def idxv(S:St)(T:TT)(t:TypeId)(f:TF)(i:Int)(K:TF->Prop):Prop:=
 match tget T t with
 |some ti=>match ti.k with
  | .slice e=>match tget T e with
   |some te=>match f with
    | .r (.sl _ n cells)=>Vidx i te.sz n cells λcs=>K (.r (.ptr cs))
    | .own id=>match oget S.O id with
     |some (.ch _ _ n cells pub)=>match pub with
      |true=>Vidx i te.sz n cells λcs=>K (.r (.ptr cs))
      |false=>Vadr i n λj=>K (.adr id (j*te.sz))
     |_=>False
    | .cut id off n=>Vadr i n λj=>K (.adr id (off+j*te.sz))
    |_=>False
   |none=>False
  | .array n e=>match tget T e with
   |some te=>match f with
    | .own id=>match oget S.O id with
     |some (.box _)=>Vadr i n λj=>K (.adr id (j*te.sz))
     |_=>False
    | .adr id off=>Vadr i n λj=>K (.adr id (off+j*te.sz))
    | .r (.ptr cells)=>Vidx i te.sz n cells λcs=>K (.r (.ptr cs))
    |_=>False
   |none=>False
  |_=>False
 |none=>False
def Extn(P:Program)(f:FuncId)(args:List RV)(res:Res):Prop:=
 ∀w k vs,RV.partsAt w k args vs->∃v w',(callFunc f vs.toArray).run P w= .ok (.value v) w'/\Ext w w'/\∃k':Kp,(∀b,b<w.heap.size->k' b=k b)/\res.at_ w.heap.size w' k' v
structure Vcall (P:Program) (f:FuncId) (vs:List RV) (K:Res->Prop):Prop where
 out: ∃ps,Cvs vs ps/\∃res,(zab P f ps res\/Extn P f ps res)/\K res
structure Vsem (P:Program) (S:St) (o:Oper) (K:TF->Option Ow->Prop):Prop where
 out: ∃f ow,Yld P S o (S.new o.dst f ow)/\K f ow
structure Vfun (P:Program) (S:St) (o:Oper) (xs:List Operand) (K:RV->Prop):Prop where
 out: ∃rs,oprs S xs=some rs/\∃r,(∀(a:Act) w k,RV.partsAt w k rs (xs.map a.eval)->∃v,(execOp a.eval o).run P w= .ok (.value v) w/\r.at_ w k v)/\K r
structure Vstep (P:Program) (S:St) (o:Oper) (K:St->Prop):Prop where
 out: ∃(ι:Type) (S':ι->St),YldF P S o S'/\∀i,K (S' i)
theorem Vstep.one{P:Program}{S S':St}{o:Oper}{K:St->Prop}(hy:Yld P S o S')(hK:K S'):Vstep P S o K:=
 ⟨Unit,λ_=>S',λB N a w k Q hs hd=>Oper.wp_mono (λa' w' ⟨k',h⟩=>⟨(),k',h⟩) (hy B N a w k Q hs hd),λ_=>hK⟩
structure Vcutn (lo hi:Int) (n:Nat) (K:Nat->Nat->Prop):Prop where
 out:0<=lo/\lo<=hi/\hi<=n/\lo<n/\n<=maxLen/\∃l m,l=lo.toNat/\m=hi.toNat-lo.toNat/\K l m
def cutv(T:TT)(S:St)(ti:TI)(f:TF)(lo hi:Option Operand)(K:TF->Option Ow->Prop):Prop:=
 match ti.k with
 | .slice e=>match tget T e with
  |some te=>match f with
   | .own id=>match oget S.O id with
    |some (.ch _ _ n _ false)=>match optv S lo (.r (.i .i64 0)),optv S hi (.r (.i .i64 n))with
     |some (.r (.i _ l)),some (.r (.i _ h))=>Vcutn l h n λl m=>K (.cut id (l*te.sz) m) none
     |_,_=>False
    |_=>False
   | .cut id off n=>match optv S lo (.r (.i .i64 0)),optv S hi (.r (.i .i64 n))with
    |some (.r (.i _ l)),some (.r (.i _ h))=>Vcutn l h n λl m=>K (.cut id (off+l*te.sz) m) none
    |_,_=>False
   |_=>False
  |none=>False
 | .array n e=>match tget T e with
  |some te=>match f with
   | .own id=>match oget S.O id with
    |some (.box _)=>match optv S lo (.r (.i .i64 0)),optv S hi (.r (.i .i64 n))with
     |some (.r (.i _ l)),some (.r (.i _ h))=>Vcutn l h n λl m=>K (.cut id (l*te.sz) m) none
     |_,_=>False
    |_=>False
   |_=>False
  |none=>False
 |_=>False
def lenv(P:Program)(T:TT)(S:St)(xs:List Operand)(ts:List TypeId)(K:TF->Prop):Prop:=
 match xs,ts with
 |[x],[t]=>match tget T t,opr S x with
  |some ti,some f=>match ti.k with
   | .slice _=>match f with
    | .r (.sl _ n _)=>K (.r (.i .i64 n))
    | .r (.x (.slice none 0 0))=>K (.r (.i .i64 0))
    | .own id=>match oget S.O id with
     |some (.ch _ _ n _ _)=>K (.r (.i .i64 n))
     |_=>False
    | .cut _ _ n=>K (.r (.i .i64 n))
    |_=>False
   | .str=>match f with
    | .r (.x (.string s))=>K (.r (.i .i64 s.size))
    |_=>False
   | .other=>match f with
    | .own id=>match oget S.O id with
     |some (.gen p)=>match p.len with
      |some n=>Vmlen P t (K (.r (.i .i64 n)))
      |none=>False
     |_=>False
    |_=>False
   |_=>False
  |_,_=>False
 |_,_=>False
def resK(S:St)(K:TF->Option Ow->Prop):Res->Prop
 | .r v=>K (.r v) none
 | .ch e sz n cells=>K (.own S.nx) (some (.ch e sz n cells true))
 | .own e sz n cells=>K (.own S.nx) (some (.ch e sz n cells false))
 | .bx cells=>K (.own S.nx) (some (.box (cells.map .r)))
def z2v(P:Program)(S:St)(f:FuncId)(xs:List Operand)(K:TF->Option Ow->Prop):Prop:=
 match oprs S xs with
 |some vs=>Vcall P f vs (resK S K)
 |none=>False
def zw1(P:Program)(T:TT)(S:St)(o:Oper)(K:TF->Option Ow->Prop)(op:Op):Prop:=
 match op with
 | .move x | .assign x=>match opr S x with
  |some f=>K f none
  |none=>False
 | .pick c a b=>match opr S c with
  |some (.r (.b β))=>match β with
   |true=>match opr S a with |some f=>K f none |none=>False
   |false=>match opr S b with |some f=>K f none |none=>False
  |_=>False
 | .nilCheck x=>match opr S x with
  |some (.own id)=>match oget S.O id with
   |some (.box _)=>K (.own id) none
   |_=>False
  |some (.adr id off)=>K (.adr id off) none
  |some (.r (.ptr c))=>K (.r (.ptr c)) none
  |some (.r (.x (.pointer (some q))))=>K (.r (.x (.pointer (some q)))) none
  |_=>False
 | .alloc t=>match tget T t with
  |some ti=>K (.own S.nx) (some (.box (ti.zero.map λv=> .r (ofC v))))
  |none=>False
 | .box _ x=>match opr S x with
  |some (.r (.ag l))=>K (.own S.nx) (some (.box (l.map .r)))
  |some (.r v)=>match zbi v with
   |true=>K (.own S.nx) (some (.box [.r v]))
   |false=>False
  |some (.own id)=>match oget S.O id with
   |some _=>K (.own S.nx) (some (.box [.own id]))
   |none=>False
  |some (.adr id off)=>K (.own S.nx) (some (.box [.adr id off]))
  |some (.nm _ _)=>False
  |some (.cut _ _ _)=>False
  |none=>False
 | .load t x=>match tget T t,opr S x with
  |some ti,some f=>ldv S ti f λf=>K f none
  |_,_=>False
 | .fieldAddr t x i=>match tget T t,opr S x with
  |some ti,some f=>match ti.k with
   | .struct fs=>match zfr T fs i with
    |some (off,sz)=>match sz with
     |0=>False
     |_=>match f with
      | .own id=>match oget S.O id with
       |some (.box _)=>K (.adr id off) none
       |_=>False
      | .adr id o=>K (.adr id (o+off)) none
      | .r (.ptr cells)=>K (.r (.ptr (cells.drop off))) none
      | .r (.x (.pointer (some ⟨b,o,none⟩)))=>K (.r (.x (.pointer (some ⟨b,o+off,none⟩)))) none
      |_=>False
    |none=>False
   |_=>False
  |_,_=>False
 | .indexAddr t x i=>match opr S x,opr S i with
  |some f,some (.r (.i _ n))=>idxv S T t f n λf=>K f none
  |_,_=>False
 | .index t x i=>match opr S x,opr S i with
  |some (.r (.ag cells)),some (.r (.i _ n))=>match tget T t with
   |some ti=>match ti.k with
    | .array m e=>match tget T e with
     |some te=>Vidx n te.sz m cells λcs=>match te.agg with
      |true=>K (.r (.ag cs)) none
      |false=>match cs with
       |c::_=>K (.r c) none
       |[]=>False
     |none=>False
    |_=>False
   |none=>False
  |_,_=>False
 | .binOp op t x y _=>match opr S x,opr S y with
  |some (.r (.i k a)),some (.r (.i k' b))=>match op with
   | .shl=>Vshl k a b λm=>K (.r (.i k m)) none
   | .shr=>Vshr k a b λm=>K (.r (.i k m)) none
   |op=>match ikEq k k' with
    |true=>binv op k a b λv=>K (.r v) none
    |false=>False
  |some (.r (.x (.string s))),some (.r (.x (.string t)))=>match op with
   | .add=>s.size+t.size<=9223372036854775807/\K (.r (.x (.string (s++t)))) none
   | .eql=>Vcmp (s.toList==t.toList) λm=>K (.r (.b m)) none
   | .neq=>Vcmp (!(s.toList==t.toList)) λm=>K (.r (.b m)) none
   |_=>False
  |some (.r (.b a)),some (.r (.b b))=>match tget T t with
   |some ti=>match ti.k with
    | .bool=>match op with
     | .eql=>Vcmp (a==b) λm=>K (.r (.b m)) none
     | .neq=>Vcmp (!(a==b)) λm=>K (.r (.b m)) none
     |_=>False
    |_=>False
   |none=>False
  |some (.own id),some (.r (.x (.pointer none)))=>match oget S.O id with
   |some (.box _)=>match op with
    | .eql=>Vnil P t (K (.r (.b false)) none)
    | .neq=>Vnil P t (K (.r (.b true)) none)
    |_=>False
   |_=>False
  |_,_=>Vfun P S o [x,y] λr=>K (.r r) none
 | .unOp op _ x=>match opr S x with
  |some (.r (.b a))=>match op with
   | .not=>Vcmp (!a) λm=>K (.r (.b m)) none
   |_=>False
  |some (.r (.i k a))=>match op with
   | .neg=>Vint k (0-a) λm=>K (.r (.i k m)) none
   | .xor=>Vbits k .xor (if k.signed then-1 else k.max) a λm=>K (.r (.i k m)) none
   |_=>False
  |_=>Vfun P S o [x] λr=>K (.r r) none
 | .convert t0 t x=>match tget T t0,tget T t,opr S x with
  |some _,some ti,some (.r (.i _ n))=>match ti.k with
   | .int k=>Vint k n λm=>K (.r (.i k m)) none
   |_=>Vfun P S o [x] λr=>K (.r r) none
  |some t0,some ti,some (.r (.x (.string s)))=>match t0.k,ti.k with
   | .str, .slice e=>match tget T e with
    |some te=>match te.k with
     | .int .u8=>s.size<=9223372036854775807/\K (.r (.sl 1 s.size (s.data.toList.map λc=> .i .u8 (c.toNat:Int)))) none
     |_=>Vfun P S o [x] λr=>K (.r r) none
    |none=>Vfun P S o [x] λr=>K (.r r) none
   |_,_=>Vfun P S o [x] λr=>K (.r r) none
  |_,_,_=>Vfun P S o [x] λr=>K (.r r) none
 | .extract x i=>match opr S x with
  |some (.r (.tu l))=>match lget l i with
   |some v=>K (.r v) none
   |none=>False
  |_=>False
 | .build t parts=>match tget T t with
  |some ti=>match ti.k with
   | .struct fs=>ziy (few parts.toList) S (zfr T fs) (ti.zero.map ofC) parts.toList λcells=>K (.r (.ag cells)) none
   | .array _ e=>match tget T e with
    |some te=>ziy (few parts.toList) S (λi=>some (i*te.sz,te.sz)) (ti.zero.map ofC) parts.toList λcells=>K (.r (.ag cells)) none
    |none=>False
   |_=>False
  |none=>False
 | .buildSlice t n parts=>match tget T t with
  |some ti=>match ti.k with
   | .slice e=>match tget T e with
    |some te=>match Nat.ble (n*te.sz) 16777216&&Nat.ble n 16777216 with
     |true=>ziy (few parts.toList) S (λi=>some (i*te.sz,te.sz)) (List.replicate n (te.zero.map ofC)).flatten parts.toList λcells=>Vpub λpub=>K (.own S.nx) (some (.ch e te.sz n cells pub))
     |false=>False
    |none=>False
   |_=>False
  |none=>False
 | .slice t x lo hi mx=>match tget T t,opr S x with
  |some ti,some f=>match ti.k,S.rv f,mx with
   | .slice e,some (.sl sz n cells),none=>match(match tget T e with |some te=>Nat.beq te.sz sz |none=>false)with
    |false=>False
    |true=>match optv S lo (.r (.i .i64 0)),optv S hi (.r (.i .i64 n))with
    |some (.r (.i _ l)),some (.r (.i _ h))=>Vcut l h sz n cells λm cs=>K (.r (.sl sz m cs)) none
    |_,_=>False
   |_,_,none=>cutv T S ti f lo hi K
   |_,_,_=>False
  |_,_=>False
 | .makeSlice t l c=>match tget T t,opr S l,opr S c with
  |some ti,some (.r (.i _ n)),some (.r (.i _ m))=>match ti.k with
   | .slice e=>match tget T e with
    |some te=>Vmake n m te.bytes te.zero λj zs=>Vpub λpub=>K (.own S.nx) (some (.ch e te.sz j zs pub))
    |none=>False
   |_=>False
  |_,_,_=>False
 | .call c=>match c.callee with
  | .builtin b=>match b with
   | .len=>lenv P T S c.args.toList c.argTypes.toList λf=>K f none
   | .real=>Vfun P S o c.args.toList λr=>K (.r r) none
   | .imag=>Vfun P S o c.args.toList λr=>K (.r r) none
   | .complex=>Vfun P S o c.args.toList λr=>K (.r r) none
   |_=>Vsem P S o K
  | .value f=>match f with
   | .func f=>z2v P S f c.args.toList K
   |_=>Vsem P S o K
  | .invoke _ _=>False
 |_=>Vsem P S o K
def valv(P:Program)(T:TT)(S:St)(o:Oper)(K:TF->Option Ow->Prop):Prop:=zw1 P T S o K o.op
def lhsv(S:St)(e:TypeId)(sz:Nat)(f:TF):Option (Option Nat×TypeId×Nat×Nat×List RV×Bool):=
 match f with
 | .own id=>match oget S.O id with
  |some (.ch e' sz n cells pub)=>some (some id,e',sz,n,cells,pub)
  |_=>none
 | .r (.x (.slice none 0 0))=>some (none,e,sz,0,[],true)
 |_=>none
def rhsv(S:St)(sz:Nat)(g:TF):Option (Nat×Nat×List RV):=
 match g with
 | .own j=>match oget S.O j with
  |some (.ch _ sz' m ys _)=>some (sz',m,ys)
  |_=>none
 | .r (.sl sz' m ys)=>some (sz',m,ys)
 | .r (.x (.slice none 0 0))=>some (sz,0,[])
 | .cut j off m=>match oget S.O j with
  |some (.ch _ sz' n ys _)=>match Nat.ble (off+m*sz') ys.length with
   |true=>some (sz',m,(ys.drop off).take (m*sz'))
   |false=>none
  |_=>none
 |_=>none
def appv(S:St)(T:TT)(t:TypeId)(f g:TF)(K:Option Nat->Ow->Prop):Prop:=
 match tget T t with
 |some ti=>match ti.k with
  | .slice e=>match tget T e with
   |some te=>match lhsv S e te.sz f with
    |some (id,e',sz,n,cells,pub)=>match Nat.beq e' e&&(Nat.beq sz te.sz&&Nat.blt 0 te.sz)with
     |false=>False
     |true=>match rhsv S te.sz g with
      |some (sz',m,ys)=>match Nat.beq sz' te.sz with
       |true=>Vapp n m te.bytes cells ys λj zs=>K id (.ch e te.sz j zs pub)
       |false=>False
      |none=>False
    |none=>False
   |none=>False
  |_=>False
 |none=>False
def stAt(S:St)(ti:TI)(v:RV)(K:St->Prop)(id off:Nat):Prop:=
 match oget S.O id with
 |some (.box cells)=>match zbi v&&(Nat.beq (cellsOf v).length ti.sz&&Nat.ble (off+ti.sz) cells.length)with
  |false=>False
  |true=>putK cells off ((cellsOf v).map .r) λl=>setK S id (some (.box l)) none K
 |some (.ch e sz n cells false)=>match zbi v&&Nat.beq (cellsOf v).length ti.sz with
  |false=>False
  |true=>Vst off ti.sz cells.length (∃zs,zbl cells off (cellsOf v)=zs/\setK S id (some (.ch e sz n zs false)) none K)
 |_=>False
def stv(S:St)(T:TT)(t:TypeId)(f:TF)(v:RV)(K:St->Prop):Prop:=
 match tget T t with
 |some ti=>match f with
  | .own id=>match oget S.O id with
   |some (.box _)=>stAt S ti v K id 0
   |_=>False
  | .adr id off=>stAt S ti v K id off
  |_=>False
 |none=>False
def zc7:Op->Bool
 | .move _ | .assign _ | .pick .. | .nilCheck _ | .alloc _ | .box .. | .load .. | .fieldAddr .. | .indexAddr .. | .index .. | .binOp .. | .unOp .. | .convert .. | .extract .. | .build .. | .buildSlice .. | .slice .. | .makeSlice .. =>true
 | .call c=>match c.callee with
  | .builtin b=>match b with
   | .len=>true
   | .real=>true
   | .imag=>true
   | .complex=>true
   |_=>false
  | .value (.func _)=>true
  |_=>false
 |_=>false
def appo(T:TT)(S:St)(dst:Option Nat)(xs:List Operand)(ts:List TypeId)(K:St->Prop):Prop:=
 match xs,ts with
 |[x,y],[t,t']=>match Nat.beq t' t with
  |true=>match opr S x,opr S y with
   |some f,some g=>appv S T t f g λid ow=>newK (S.strike id) dst (.r .any) (some ow) K
   |_,_=>False
  |false=>False
 |_,_=>False
def sto(T:TT)(S:St)(dst:Option Nat)(t:TypeId)(x y:Operand)(K:St->Prop):Prop:=
 match opr S x,opr S y with
 |some f,some g=>match g with
  | .own id=>match oget S.O id,f with
   |some _, .adr j off=>match oget S.O j with
    |some (.box cells)=>match Nat.ble (off+1) cells.length with
     |false=>False
     |true=>match tget T t with
      |some ti=>match Nat.beq ti.sz 1 with
       |true=>setK S j (some (.box (cells.take off++[.own id]++cells.drop (off+1)))) dst K
       |false=>False
      |none=>False
    |_=>False
   |some _, .own j=>match oget S.O j with
    |some (.box cells)=>match Nat.ble 1 cells.length with
     |false=>False
     |true=>match tget T t with
      |some ti=>match Nat.beq ti.sz 1 with
       |true=>setK S j (some (.box (cells.take 0++[.own id]++cells.drop 1))) dst K
       |false=>False
      |none=>False
    |_=>False
   |_,_=>False
  | .r v=>stv S T t f v λS'=>newK S' dst (.r .any) none K
  |_=>False
 |_,_=>False
def zlg(S:St):List Operand->Bool
 |[]=>false
 |x::r=>match opr S x with
  |some (.own id)=>match oget S.O id with
   |some (.ch _ _ _ _ true)=>zlg S r
   |some _=>true
   |none=>zlg S r
  |some (.adr _ _)=>true
  |some (.cut _ _ _)=>true
  |some (.r (.x (.func _ _ cap)))=>match cap.toList with
   |[]=>zlg S r
   |_::_=>true
  |some (.r (.x (.pointer (some _))))=>true
  |_=>zlg S r
def zjab:List TypeId->Bool
 |[t,t']=>Nat.beq t' t
 |_=>true
def znc(S:St)(x:Operand):Bool:=
 match opr S x with
 |some (.r (.x _))=>true
 |_=>false
def adrB(S:St):List (Nat×Operand)->Bool
 |[]=>false
 |x::r=>match opr S x.2 with
  |some (.adr _ _)=>true
  |_=>adrB S r
def z4v(S:St):List (Nat×Operand)->Bool
 |[]=>false
 |x::r=>match opr S x.2 with
  |some (.own id)=>match oget S.O id with
   |some (.box _)=>true
   |some (.ch _ _ _ _ false)=>true
   |_=>z4v S r
  |_=>z4v S r
def nilB(S:St)(op:BinOp)(x y:Operand):Bool:=
 match op with
 | .eql=>match opr S x,opr S y with
  |some (.r (.sl _ _ _)),some (.r (.x (.slice none 0 0)))=>true
  |_,_=>false
 |_=>false
def zic(P:Program)(T:TT)(S:St)(o:Oper)(K:St->Prop)(op:Op):Prop:=
 match op with
 | .call c=>match c.callee with
  | .builtin b=>match b with
   | .append=>match zjab c.argTypes.toList with
    |true=>appo T S o.dst c.args.toList c.argTypes.toList K
    |false=>Vstep P S o K
   | .len=>valv P T S o λf ow=>newK S o.dst f ow K
   | .real=>valv P T S o λf ow=>newK S o.dst f ow K
   | .imag=>valv P T S o λf ow=>newK S o.dst f ow K
   | .complex=>valv P T S o λf ow=>newK S o.dst f ow K
   |_=>Vstep P S o K
  | .value f=>match f with
   | .func _=>match zlg S c.args.toList with
    |false=>valv P T S o λf ow=>newK S o.dst f ow K
    |true=>Vstep P S o K
   |_=>Vstep P S o K
  |_=>valv P T S o λf ow=>newK S o.dst f ow K
 | .makeFunc _ _ _=>Vstep P S o K
 | .slice _ x _ _ mx=>match mx with
  |some _=>Vstep P S o K
  |none=>match zlg S [x]with
   |false=>valv P T S o λf ow=>newK S o.dst f ow K
   |true=>Vstep P S o K
 | .convert t0 t x=>match Nat.beq t0 t with
  |true=>match opr S x with
   |some (.own _)=>Vstep P S o K
   |_=>valv P T S o λf ow=>newK S o.dst f ow K
  |false=>valv P T S o λf ow=>newK S o.dst f ow K
 | .makeMap _ _=>Vstep P S o K
 | .mapUpdate _ _ _ _=>Vstep P S o K
 | .lookup _ _ _ _=>Vstep P S o K
 | .range _ _=>Vstep P S o K
 | .next _ _=>Vstep P S o K
 | .entry _=>Vstep P S o K
 | .store t x y=>match znc S x with
  |false=>sto T S o.dst t x y K
  |true=>Vstep P S o K
 | .load _ x=>match znc S x with
  |false=>valv P T S o λf ow=>newK S o.dst f ow K
  |true=>Vstep P S o K
 | .buildSlice _ _ parts=>match adrB S parts.toList with
  |false=>valv P T S o λf ow=>newK S o.dst f ow K
  |true=>Vstep P S o K
 | .build _ parts=>match z4v S parts.toList with
  |false=>valv P T S o λf ow=>newK S o.dst f ow K
  |true=>Vstep P S o K
 | .binOp op _ x y _=>match nilB S op x y with
  |false=>valv P T S o λf ow=>newK S o.dst f ow K
  |true=>Vstep P S o K
 |_=>valv P T S o λf ow=>newK S o.dst f ow K
def zgo(P:Program)(T:TT)(S:St)(o:Oper)(K:St->Prop):Prop:=zic P T S o K o.op
def runv(P:Program)(T:TT)(ops:List Oper):List Oper->St->(St->Prop)->Prop
 |[],S,K=>K S
 |o::r,S,K=>match o.guard with
  |none=>zgo P T S o λS'=>runv P T ops r S' K
  |some (j,want)=>match lget ops j with
   |some oj=>match oj.dst with
    |some d=>match fget S.F d with
     |some (.r (.b β))=>match β with
      |true=>match want with
       |true=>zgo P T S o λS'=>runv P T ops r S' K
       |false=>newK S o.dst (.r (.tu [])) none λS'=>runv P T ops r S' K
      |false=>match want with
       |false=>zgo P T S o λS'=>runv P T ops r S' K
       |true=>newK S o.dst (.r (.tu [])) none λS'=>runv P T ops r S' K
     |some (.r (.tu _))=>newK S o.dst (.r (.tu [])) none λS'=>runv P T ops r S' K
     |_=>False
    |none=>False
   |none=>False
end Go.Proofs.YtoegdgbghdnnfaaGreat.Sx
