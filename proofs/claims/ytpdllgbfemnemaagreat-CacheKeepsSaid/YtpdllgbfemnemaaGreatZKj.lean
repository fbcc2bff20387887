import Derived.Test.YtpdllgbfemnemaaGreatZKi
namespace Go.Proofs.YtpdllgbfemnemaaGreat.Sx
open Go.RowKit

theorem Vcall.boolc {P : Program} {f : FuncId} {vs ps : List RV} {K : Res → Prop} {β : Bool} (hg : Gives P f ps (.r (.b β))) (hc : Cvs vs ps) (ht : β = true → K (.r (.b true))) (hf : β = false → K (.r (.b false))) : Vcall P f vs K := by
  cases β
  · exact Vcall.mk' hg hc (hf rfl)
  · exact Vcall.mk' hg hc (ht rfl)

def Node.small (n : Node) : Bool := decide (n.leaf.box.length ≤ 200 ∧ n.leaf.sign.length ≤ 200 ∧ n.leaf.ident.length ≤ 200 ∧ n.leaf.parent.length ≤ 200 ∧ n.leaf.sig.length ≤ 200 ∧ n.par.box.length ≤ 200 ∧ n.par.hash.length ≤ 200 ∧ n.par.late.length ≤ 60)
theorem g_small16 (n : Node) : Gives Tryz.prog 42 [.ag n.c] (.r (.b n.small)) := by
  refine gives_of_vcg (T := Tab) mixed Tab_ok Tryz.func42 rfl (by kernel_rfl) ?_
  refine Vdraw.mk' (by kernel_rfl) ?_
  refine VloadN.mk' rfl rfl ?_
  refine VloadN.mk' rfl rfl ?_
  (repeat' (first | refine Vcmp.split (fun h => ?_) (fun h => ?_) | refine Cv.of_eq ?_ | refine Vif.t ?_ | refine Vif.f ?_))
  all_goals refine congrArg RV.b (Eq.symm ?_)
  all_goals simp only [Node.small, beq_iff_eq, bne_iff_ne, beq_eq_false_iff_ne, bne_eq_false_iff_eq, decide_eq_true_eq, decide_eq_false_iff_not, Bool.not_eq_true', Bool.not_eq_false', ne_eq] at *
  all_goals omega

def zl : Leaf := ⟨[], [], [], 0, [], []⟩
def zp : Par := ⟨[], [], []⟩
theorem leaf_none (l : Leaf) : l.none = decide (l = zl) := by
  obtain ⟨a, b, c, d, e, f⟩ := l
  rw [Bool.eq_iff_iff]
  simp only [Leaf.none, zl, decide_eq_true_eq, Leaf.mk.injEq, List.length_eq_zero_iff]
  have : d.toNat = 0 ↔ d = 0 := ⟨fun h => UInt8.toNat_inj.1 (by simpa using h), fun h => by simp [h]⟩
  rw [this]
  constructor
  · rintro ⟨h1, h2, h3, h4, h5, h6⟩; exact ⟨h2, h3, h4, h1, h5, h6⟩
  · rintro ⟨h1, h2, h3, h4, h5, h6⟩; exact ⟨h4, h1, h2, h3, h5, h6⟩
theorem par_none (p : Par) : p.none = decide (p = zp) := by
  obtain ⟨a, b, c⟩ := p
  rw [Bool.eq_iff_iff]
  simp only [Par.none, zp, decide_eq_true_eq, Par.mk.injEq, List.length_eq_zero_iff]
def onlyLeaf (n : Node) : Node := ⟨0, n.leaf, zp⟩
def onlyPar (n : Node) : Node := ⟨0, zl, n.par⟩
theorem cv_leaf (n : Node) : Cv (.ag [.i .u8 0, bs n.leaf.box, bs n.leaf.sign, bs n.leaf.ident, U8 n.leaf.src, bs n.leaf.parent, bs n.leaf.sig, .x (.slice none 0 0), .x (.slice none 0 0), .x (.slice none 0 0)]) (.ag (onlyLeaf n).c) :=
  Cv.ag (Cvs.cons (Cv.refl _) (Cvs.cons (Cv.refl _) (Cvs.cons (Cv.refl _) (Cvs.cons (Cv.refl _) (Cvs.cons (Cv.refl _) (Cvs.cons (Cv.refl _) (Cvs.cons (Cv.refl _) (Cvs.cons (Cv.nil 1) (Cvs.cons (Cv.nil 1) (Cvs.cons (Cv.nil 1) Cvs.nil))))))))))
theorem cv_par (n : Node) : Cv (.ag [.i .u8 0, .x (.slice none 0 0), .x (.slice none 0 0), .x (.slice none 0 0), .i .u8 0, .x (.slice none 0 0), .x (.slice none 0 0), bs n.par.box, bs n.par.hash, is n.par.late]) (.ag (onlyPar n).c) :=
  Cv.ag (Cvs.cons (Cv.refl _) (Cvs.cons (Cv.nil 1) (Cvs.cons (Cv.nil 1) (Cvs.cons (Cv.nil 1) (Cvs.cons (Cv.refl _) (Cvs.cons (Cv.nil 1) (Cvs.cons (Cv.nil 1) (Cvs.cons (Cv.refl _) (Cvs.cons (Cv.refl _) (Cvs.cons (Cv.refl _) Cvs.nil))))))))))
theorem only_leaf (n : Node) : onlyLeaf n = Node.zero ↔ n.leaf.none = true := by
  rw [leaf_none, decide_eq_true_eq]
  simp [onlyLeaf, Node.zero, zl, zp]
theorem only_par (n : Node) : onlyPar n = Node.zero ↔ n.par.none = true := by
  rw [par_none, decide_eq_true_eq]
  simp [onlyPar, Node.zero, zl, zp]
theorem g_right16 (n : Node) (hn : n.fit) : Gives Tryz.prog 44 [.ag n.c] (.r (.b n.right)) := by
  refine gives_of_vcg (T := Tab) mixed Tab_ok Tryz.func44 rfl (by kernel_rfl) ?_
  have sl := g_same16 (onlyLeaf n) Node.zero (by simp [onlyLeaf, zp]) (by simp [Node.zero])
  have sp := g_same16 (onlyPar n) Node.zero hn.2.2.2.2 (by simp [Node.zero])
  have cl := Cvs.cons (cv_leaf n) (Cvs.cons zc_zero Cvs.nil)
  have cp := Cvs.cons (cv_par n) (Cvs.cons zc_zero Cvs.nil)
  refine Vdraw.mk' (by kernel_rfl) ?_
  refine VloadN.mk' rfl rfl ?_
  refine VloadN.mk' rfl rfl ?_
  refine Vcmp.split (fun h => Vif.t ?_) (fun h => Vif.f ?_)
  · simp only [beq_iff_eq, bne_iff_ne, beq_eq_false_iff_ne, bne_eq_false_iff_eq, decide_eq_true_eq, decide_eq_false_iff_not, Bool.not_eq_true', Bool.not_eq_false', ne_eq] at h
    have h0 : n.kind.toNat = 0 := by omega
    refine VloadN.mk' rfl rfl ?_
    refine Vcall.boolc sl cl (fun h2 => ?_) (fun h2 => ?_)
    · refine VloadN.mk' rfl rfl ?_
      refine Vcall.boolc sp cp (fun h3 => ?_) (fun h3 => ?_)
      all_goals refine Cv.of_eq (congrArg RV.b (Eq.symm ?_))
      all_goals simp only [beq_iff_eq, bne_iff_ne, beq_eq_false_iff_ne, bne_eq_false_iff_eq, decide_eq_true_eq, decide_eq_false_iff_not, Bool.not_eq_true', Bool.not_eq_false', ne_eq, only_leaf, only_par] at h2 h3
      all_goals simp [Node.right, h0, h2, h3]
    · refine Cv.of_eq (congrArg RV.b (Eq.symm ?_))
      simp only [beq_iff_eq, bne_iff_ne, beq_eq_false_iff_ne, bne_eq_false_iff_eq, decide_eq_true_eq, decide_eq_false_iff_not, Bool.not_eq_true', Bool.not_eq_false', ne_eq, only_leaf, only_par] at h2
      simp [Node.right, h0, h2]
  · refine Vcmp.split (fun h2 => Vif.t ?_) (fun h2 => Vif.f ?_)
    · simp only [beq_iff_eq, bne_iff_ne, beq_eq_false_iff_ne, bne_eq_false_iff_eq, decide_eq_true_eq, decide_eq_false_iff_not, Bool.not_eq_true', Bool.not_eq_false', ne_eq] at h2
      have h0 : n.kind.toNat = 1 := by omega
      refine VloadN.mk' rfl rfl ?_
      refine Vcall.bool (g_rleaf16 n.leaf) (fun h3 => ?_) (fun h3 => ?_)
      · refine VloadN.mk' rfl rfl ?_
        refine Vcall.boolc sp cp (fun h4 => ?_) (fun h4 => ?_)
        all_goals refine Cv.of_eq (congrArg RV.b (Eq.symm ?_))
        all_goals simp only [beq_iff_eq, bne_iff_ne, beq_eq_false_iff_ne, bne_eq_false_iff_eq, decide_eq_true_eq, decide_eq_false_iff_not, Bool.not_eq_true', Bool.not_eq_false', ne_eq, only_leaf, only_par] at h4
        all_goals simp [Node.right, h0, h3, h4]
      · refine Cv.of_eq (congrArg RV.b (Eq.symm ?_))
        simp [Node.right, h0, h3]
    · refine Vcmp.split (fun h3 => Vif.t ?_) (fun h3 => Vif.f ?_)
      · simp only [beq_iff_eq, bne_iff_ne, beq_eq_false_iff_ne, bne_eq_false_iff_eq, decide_eq_true_eq, decide_eq_false_iff_not, Bool.not_eq_true', Bool.not_eq_false', ne_eq] at h3
        have h0 : n.kind.toNat = 2 := by omega
        refine VloadN.mk' rfl rfl ?_
        refine Vcall.bool (g_rpar16 n.par hn.2) (fun h4 => ?_) (fun h4 => ?_)
        · refine VloadN.mk' rfl rfl ?_
          refine Vcall.boolc sl cl (fun h5 => ?_) (fun h5 => ?_)
          all_goals refine Cv.of_eq (congrArg RV.b (Eq.symm ?_))
          all_goals simp only [beq_iff_eq, bne_iff_ne, beq_eq_false_iff_ne, bne_eq_false_iff_eq, decide_eq_true_eq, decide_eq_false_iff_not, Bool.not_eq_true', Bool.not_eq_false', ne_eq, only_leaf, only_par] at h5
          all_goals simp [Node.right, h0, h4, h5]
        · refine Cv.of_eq (congrArg RV.b (Eq.symm ?_))
          simp [Node.right, h0, h4]
      · simp only [beq_iff_eq, bne_iff_ne, beq_eq_false_iff_ne, bne_eq_false_iff_eq, decide_eq_true_eq, decide_eq_false_iff_not, Bool.not_eq_true', Bool.not_eq_false', ne_eq] at h h2 h3
        refine Cv.of_eq (congrArg RV.b (Eq.symm ?_))
        have a0 : ¬ n.kind.toNat = 0 := by omega
        have a1 : ¬ n.kind.toNat = 1 := by omega
        have a2 : ¬ n.kind.toNat = 2 := by omega
        simp [Node.right, a0, a1, a2]

/-! ### Sparse trees that are looked at -/
def Lean_.small (s : Lean_) : Bool := decide (s.opn.length ≤ 60 ∧ s.shut.length ≤ 60 ∧ (∀ x ∈ s.opn, x.node.small = true) ∧ ∀ x ∈ s.shut, x.hash.length ≤ 100)
theorem take_all {α : Type} {p : α → Prop} {l : List α} {j : Nat} (hj : j < l.length) (h : ∀ x ∈ l.take j, p x) (hx : p l[j]) : ∀ x ∈ l.take (j + 1), p x := by
  intro x hm
  rw [List.take_add_one, List.getElem?_eq_getElem hj] at hm
  simp only [Option.toList, List.mem_append, List.mem_cons, List.not_mem_nil, or_false] at hm
  rcases hm with hm | rfl
  · exact h x hm
  · exact hx
def stubB (l : List Stub) (x : Int) : List UInt8 := ((l.find? fun s => decide (s.at_ = x)).map (·.hash)).getD []
end Go.Proofs.YtpdllgbfemnemaaGreat.Sx
