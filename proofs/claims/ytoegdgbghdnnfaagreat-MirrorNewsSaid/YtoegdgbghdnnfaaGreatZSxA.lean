import Derived.WalkKit
import Derived.Lib.Hide
import Derived.Deep.Draws
import Derived.Deep.AppendLies
import Derived.Deep.MidRow
namespace Go.Proofs.YtoegdgbghdnnfaaGreat.Sx
open Go.RowKit
theorem zb:(∀{α:Type} [BEq α] [LawfulBEq α] {a b:α},(a==b)=true↔a=b)/\(∀{α:Type} [BEq α] [LawfulBEq α] {a b:α},(a != b)=true↔a≠b)/\(∀{α:Type} [BEq α] [LawfulBEq α] {a b:α},(a==b)=false↔a≠b)/\(∀{α:Type} [BEq α] [LawfulBEq α] {a b:α},(a != b)=false↔a=b)/\(∀{p:Prop} [Decidable p],(decide p=true)=p)/\(∀{p:Prop} [Decidable p],decide p=false↔¬p)/\(∀{b:Bool},((!b)=true)=(b=false))/\(∀{b:Bool},((!b)=false)=(b=true))/\(∀{α:Sort 1} {a b:α},(a≠b)= ¬a=b):=⟨beq_iff_eq,bne_iff_ne,beq_eq_false_iff_ne,bne_eq_false_iff_eq,decide_eq_true_eq,decide_eq_false_iff_not,Bool.not_eq_true' _,Bool.not_eq_false' _,ne_eq _ _⟩
theorem bL{α:Type}{as bs:List α}:(as++bs).length=as.length+bs.length:=List.length_append
abbrev Kp:=Nat->Nat
structure Le (w:World) (k:Kp) (w':World) (k':Kp):Prop where
 size:w.heap.size<=w'.heap.size
 keep: ∀b,b<w.heap.size->k b<=k' b
 cell: ∀b o,b<w.heap.size->o<k b->w'.cell? ⟨b,o,none⟩=w.cell? ⟨b,o,none⟩
 map: ∀b,b<w.heap.size->0<k b->∀es c,w.heap[b]?=some (.map es c)->w'.heap[b]?=some (.map es c)
structure Stable where
 at_:World->Kp->Value->Prop
 mono: ∀{w k w' k' v},Le w k w' k'->at_ w k v->at_ w' k' v
 one: ∀{w k v},at_ w k v->v.oneCell'=true
inductive RV where
 |i (k:IntKind) (n:Int)
 |b (b:Bool)
 |x (v:Value)
 |sl (sz n:Nat) (cells:List RV)
 |ptr (cells:List RV)
 |ag (cells:List RV)
 |tu (parts:List RV)
 |s (p:Stable)
 |any
mutual
def RV.at_(w:World)(k:Kp):RV->Value->Prop
 | .i kd n,v=>v= .int kd n
 | .b c,v=>v= .bool c
 | .x u,v=>v=u
 | .sl sz n cells,v=>∃a c,v= .slice a n c/\n<=c/\c<=maxLen/\cells.length=n*sz/\(0<n->∃b o,a=some ⟨b,o,none⟩/\b<w.heap.size/\RV.cellsAt w k b o cells)
 | .ptr cells,v=>∃b o,v= .pointer (some ⟨b,o,none⟩)/\b<w.heap.size/\RV.cellsAt w k b o cells
 | .ag cells,v=>∃us,v= .agg us/\RV.listAt w k cells us.toList
 | .tu cells,v=>∃us,v= .tuple us/\RV.partsAt w k cells us.toList
 | .s p,v=>p.at_ w k v
 | .any,_=>True
def RV.cellsAt(w:World)(k:Kp)(b o:Nat):List RV->Prop
 |[]=>True
 |f::fs=>(o<k b/\∃u,w.cell? ⟨b,o,none⟩=some u/\u.oneCell'=true/\RV.at_ w k f u)/\RV.cellsAt w k b (o+1) fs
def RV.listAt(w:World)(k:Kp):List RV->List Value->Prop
 |[],us=>us=[]
 |f::fs,us=>∃u r,us=u::r/\u.oneCell'=true/\RV.at_ w k f u/\RV.listAt w k fs r
def RV.partsAt(w:World)(k:Kp):List RV->List Value->Prop
 |[],us=>us=[]
 |f::fs,us=>∃u r,us=u::r/\RV.at_ w k f u/\RV.partsAt w k fs r
end
mutual
theorem RV.mono{w w':World}{k k':Kp}(h:Le w k w' k'): ∀(f:RV) (v:Value),RV.at_ w k f v->RV.at_ w' k' f v
 | .i _ _,_,hv=>by simpa[RV.at_]using hv
 | .b _,_,hv=>by simpa[RV.at_]using hv
 | .x _,_,hv=>by simpa[RV.at_]using hv
 | .sl sz n cells,v,hv=>by
  simp only[RV.at_]at hv⊢
  obtain⟨a,c,e,h1,h2,h3,h4⟩:=hv
  refine⟨a,c,e,h1,h2,h3,λhn=>?_⟩
  obtain⟨b,o,ea,hb,hc⟩:=h4 hn
  exact⟨b,o,ea,Nat.lt_of_lt_of_le hb h.size,RV.cells_mono h hb cells o hc⟩
 | .ptr cells,v,hv=>by
  simp only[RV.at_]at hv⊢
  obtain⟨b,o,e,hb,hc⟩:=hv
  exact⟨b,o,e,Nat.lt_of_lt_of_le hb h.size,RV.cells_mono h hb cells o hc⟩
 | .ag cells,v,hv=>by
  simp only[RV.at_]at hv⊢
  obtain⟨us,e,hl⟩:=hv
  exact⟨us,e,RV.list_mono h cells _ hl⟩
 | .tu cells,v,hv=>by
  simp only[RV.at_]at hv⊢
  obtain⟨us,e,hl⟩:=hv
  exact⟨us,e,RV.parts_mono h cells _ hl⟩
 | .s p,_,hv=>by
  simp only[RV.at_]at hv⊢
  exact p.mono h hv
 | .any,_,_=>by simp[RV.at_]
theorem RV.cells_mono{w w':World}{k k':Kp}(h:Le w k w' k'){b:Nat}(hb:b<w.heap.size): ∀(fs:List RV) (o:Nat),RV.cellsAt w k b o fs->RV.cellsAt w' k' b o fs
 |[],_,_=>by simp[RV.cellsAt]
 |f::fs,o,hc=>by
  simp only[RV.cellsAt]at hc⊢
  obtain⟨⟨ho,u,hu,h1,hf⟩,hr⟩:=hc
  exact⟨⟨Nat.lt_of_lt_of_le ho (h.keep b hb),u,(h.cell b o hb ho).trans hu,h1,RV.mono h f u hf⟩,RV.cells_mono h hb fs (o+1) hr⟩
theorem RV.list_mono{w w':World}{k k':Kp}(h:Le w k w' k'): ∀(fs:List RV) (us:List Value),RV.listAt w k fs us->RV.listAt w' k' fs us
 |[],_,hl=>by simpa[RV.listAt]using hl
 |f::fs,us,hl=>by
  simp only[RV.listAt]at hl⊢
  obtain⟨u,r,e,h1,hf,hr⟩:=hl
  exact⟨u,r,e,h1,RV.mono h f u hf,RV.list_mono h fs r hr⟩
theorem RV.parts_mono{w w':World}{k k':Kp}(h:Le w k w' k'): ∀(fs:List RV) (us:List Value),RV.partsAt w k fs us->RV.partsAt w' k' fs us
 |[],_,hl=>by simpa[RV.partsAt]using hl
 |f::fs,us,hl=>by
  simp only[RV.partsAt]at hl⊢
  obtain⟨u,r,e,hf,hr⟩:=hl
  exact⟨u,r,e,RV.mono h f u hf,RV.parts_mono h fs r hr⟩
end
theorem RV.cellsAt_iff{w:World}{k:Kp}{b:Nat}: ∀(fs:List RV) (o:Nat),RV.cellsAt w k b o fs↔∀j f,fs[j]?=some f->o+j<k b/\∃u,w.cell? ⟨b,o+j,none⟩=some u/\u.oneCell'=true/\f.at_ w k u
 |[],o=>by simp[RV.cellsAt]
 |g::fs,o=>by
  simp only[RV.cellsAt]
  rw[RV.cellsAt_iff fs (o+1)]
  constructor
  ·rintro⟨h0,h⟩ j f hj
   cases j with
   |zero=>simp at hj;subst hj;simpa using h0
   |succ j=>have:=h j f (by simpa using hj);rwa[show o+1+j=o+(j+1)by omega]at this
  ·intro h
   refine⟨by simpa using h 0 g (by simp),λj f hj=>?_⟩
   have:=h (j+1) f (by simpa using hj)
   rwa[show o+(j+1)=o+1+j by omega]at this
theorem RV.listAt_iff{w:World}{k:Kp}: ∀(fs:List RV) (us:List Value),RV.listAt w k fs us↔us.length=fs.length/\∀(j:Nat) (f:RV) (u:Value),fs[j]?=some f->us[j]?=some u->u.oneCell'=true/\f.at_ w k u
 |[],us=>by simp[RV.listAt]
 |g::fs,us=>by
  simp only[RV.listAt]
  constructor
  ·rintro⟨u,r,rfl,h1,hf,hr⟩
   obtain⟨hl,hr⟩:=(RV.listAt_iff fs r).1 hr
   refine⟨by simp[hl],λj f v hj hu=>?_⟩
   cases j with
   |zero=>simp at hj hu;subst hj;subst hu;exact⟨h1,hf⟩
   |succ j=>exact hr j f v (by simpa using hj) (by simpa using hu)
  ·rintro⟨hl,h⟩
   cases us with
   |nil=>simp at hl
   |cons u r=>
    have h0:=h 0 g u (by simp) (by simp)
    exact⟨u,r,rfl,h0.1,h0.2,(RV.listAt_iff fs r).2 ⟨by simpa using hl,λj f v hj hu=>h (j+1) f v (by simpa using hj) (by simpa using hu)⟩⟩
theorem RV.cellsAt_drop{w:World}{k:Kp}{b o:Nat}{fs:List RV}(h:RV.cellsAt w k b o fs)(n:Nat):RV.cellsAt w k b (o+n) (fs.drop n):=by
 rw[RV.cellsAt_iff]at h⊢
 intro j f hj
 rw[List.getElem?_drop]at hj
 have:=h (n+j) f hj
 rwa[<-Nat.add_assoc]at this
theorem RV.cellsAt_take{w:World}{k:Kp}{b o:Nat}{fs:List RV}(h:RV.cellsAt w k b o fs)(n:Nat):RV.cellsAt w k b o (fs.take n):=by
 rw[RV.cellsAt_iff]at h⊢
 intro j f hj
 rw[List.getElem?_take]at hj
 split at hj
 ·exact h j f hj
 ·cases hj
theorem RV.cells_list{w:World}{k:Kp}{b:Nat}: ∀(fs:List RV) (o:Nat),RV.cellsAt w k b o fs->∃us:List Value,RV.listAt w k fs us/\us.length=fs.length/\∀j u,us[j]?=some u->w.cell? ⟨b,o+j,none⟩=some u
 |[],_,_=>⟨[],by simp[RV.listAt],rfl,by simp⟩
 |f::fs,o,h=>by
  simp only[RV.cellsAt]at h
  obtain⟨⟨_,u,hu,h1,hf⟩,hr⟩:=h
  obtain⟨us,hl,hn,hc⟩:=RV.cells_list fs (o+1) hr
  refine⟨u::us,by simp only[RV.listAt];exact⟨u,us,rfl,h1,hf,hl⟩,by simp[hn],λj v hj=>?_⟩
  cases j with
  |zero=>simp at hj;subst hj;simpa using hu
  |succ j=>have:=hc j v (by simpa using hj);rwa[show o+1+j=o+(j+1)by omega]at this
def Ext(w w':World):Prop:=Below w.heap.size w w'
theorem Ext.refl(w:World):Ext w w:=Below.refl _ _
theorem Ext.le{w w':World}{k k':Kp}(h:Ext w w')(hk: ∀b,b<w.heap.size->k' b=k b):Le w k w' k':=
 ⟨h.size,λb hb=>Nat.le_of_eq (hk b hb).symm,λb o hb _=>World.cell?_of_block (a:=⟨b,o,none⟩) (h.block b hb),λb hb _ es c e=>(h.block b hb).trans e⟩
end Go.Proofs.YtoegdgbghdnnfaaGreat.Sx
