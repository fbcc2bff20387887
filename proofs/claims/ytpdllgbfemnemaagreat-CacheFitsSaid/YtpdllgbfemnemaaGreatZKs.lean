import Derived.Test.YtpdllgbfemnemaaGreatZKr
namespace Go.Proofs.YtpdllgbfemnemaaGreat.Sx
open Go.RowKit

def okR (n : Int) (x : Spot) : Bool := decide (0 ≤ x.at_) && (decide (x.at_ ≤ 2 * n - 2) && (x.node.right && (!(decide (x.at_.tmod 2 = 0) && decide (x.node.kind.toNat = 2)) && (!(decide (x.at_.tmod 2 = 1) && decide (x.node.kind.toNat = 1)) && x.node.par.late.all fun u => underI (2 * u) x.at_))))
def wholeI (O : List Spot) (n c : Int) : List Int × Bool := wholeW O n (lv c.toNat) (c.toNat / 2 ^ (lv c.toNat + 1))
def addK (all acc : List Int) (c : Int) : List Int := if 0 ≤ c ∧ c ∉ all then acc ++ [c] else acc
def kidsS (all : List Int) (acc : List Int) (x : Int) : List Int := addK all (addK all acc (leftI x)) (rightI x)
def ownL (s : Lean_) : List Int := 2 * s.own :: pathI (2 * s.own) s.leaves
def allL (s : Lean_) : List Int := ownL s ++ (openedF s true).flatMap fun c => (wholeI s.opn s.leaves c).1
def shutL (s : Lean_) : List Int := (allL s).foldl (kidsS (allL s)) []
def rightR (s : Lean_) : Bool :=
  fitsI s.leaves && (decide (0 ≤ s.own) && (decide (s.own < s.leaves) && (s.opn.all (okR s.leaves) && (s.shut.all (fun x => decide (x.hash.length = 32)) && ((ownL s).all (fun x => decide (x ∈ s.opn.map (·.at_))) && ((openedF s true).all (fun c => (wholeI s.opn s.leaves c).2) &&
    (leafK s && (decide (s.opn.map (·.at_) = rise (allL s)) && decide (s.shut.map (·.at_) = rise (shutL s))))))))))

theorem g_wholeI (O : List Spot) (hO : O.length ≤ 1000000) (hOl : lateOk_ O) (n x : Int) (hx : nodeI x = true) : Gives Tryz.prog 48 [spots O, I x, I n] (.r (.tu [is (wholeI O n x).1, .b (wholeI O n x).2])) := by
  obtain ⟨h, k, hh, hk, e, e1, e2⟩ := node_nd hx
  unfold wholeI
  rw [e1] at e2 ⊢
  rw [e2]
  have := g_whole O hO hOl n h k hh hk
  rw [← e] at this
  exact this
theorem wholeI_len (O : List Spot) (hOl : lateOk_ O) (n x : Int) (hx : nodeI x = true) : (wholeI O n x).1.length ≤ 2700000000 := by
  obtain ⟨h, k, hh, hk, e, e1, e2⟩ := node_nd hx
  unfold wholeI
  have := wholeW_len O hOl n (lv x.toNat) (x.toNat / 2 ^ (lv x.toNat + 1))
  have := pow17 (h := lv x.toNat) (by omega)
  omega
theorem wstep_node {O : List Spot} {x : Int} : ∀ (l : List Int) (a : List Int × Bool), (∀ z ∈ a.1, nodeI z = true) → ∀ z ∈ (l.foldl (wstep O x) a).1, nodeI z = true := by
  intro l
  induction l with
  | nil => intro a h; exact h
  | cons y l ih =>
    intro a h
    refine ih _ ?_
    unfold wstep
    split
    · rename_i hc
      intro z hz
      rcases List.mem_append.1 hz with hz | hz
      · exact h z hz
      · simp at hz; subst hz
        have := hc.2.1
        rw [underI_iff] at this
        exact this.1.1
    · exact h
theorem wfold_node {O : List Spot} {x n : Int} : ∀ (late : List Int) (a : List Int × Bool), (∀ z ∈ a.1, nodeI z = true) → ∀ z ∈ (wfold O x n late a).1, nodeI z = true := by
  intro late
  induction late with
  | nil => intro a h; exact h
  | cons u late ih =>
    intro a h
    exact ih _ (wstep_node _ _ h)
theorem wholeW_node (O : List Spot) (n : Int) : ∀ (h k : Nat), h ≤ 16 → k < 2 ^ (16 - h) → ∀ z ∈ (wholeW O n h k).1, nodeI z = true
  | 0, k, hh, hk => by
    unfold wholeW
    split
    · simp
    · exact wfold_node _ _ (by intro z hz; simp at hz; subst hz; exact nd_nodeI (d := 16) (by omega) hh hk)
  | h + 1, k, hh, hk => by
    have hk2 : 2 ^ (16 - h) = 2 * 2 ^ (16 - (h + 1)) := by rw [show 16 - h = (16 - (h + 1)) + 1 by omega, Nat.pow_succ]; omega
    have i1 := wholeW_node O n h (2 * k) (by omega) (by omega)
    have i2 := wholeW_node O n h (2 * k + 1) (by omega) (by omega)
    have i0 := nd_nodeI (d := 16) (by omega) hh hk
    unfold wholeW
    split
    · simp
    · split
      · intro z hz
        simp only [List.mem_append, List.mem_cons, List.not_mem_nil, or_false] at hz
        rcases hz with (rfl | hz) | hz
        · exact i0
        · exact i1 z hz
        · exact i2 z hz
      · exact wfold_node _ _ (by intro z hz; simp at hz; subst hz; exact i0)
theorem wholeI_node (O : List Spot) (n x : Int) (hx : nodeI x = true) : ∀ z ∈ (wholeI O n x).1, nodeI z = true := by
  obtain ⟨h, k, hh, hk, e, e1, e2⟩ := node_nd hx
  unfold wholeI
  rw [e1] at e2 ⊢
  rw [e2]
  exact wholeW_node O n h k hh hk
theorem opened_node {s : Lean_} (hf : fitsI s.leaves = true) (h0 : 0 ≤ s.own) (h1 : s.own < s.leaves) (b : Bool) : ∀ c ∈ openedF s b, nodeI c = true := fun c hc =>
  copath_node hf h0 h1 c (List.mem_filter.1 hc).1
theorem ownL_node {s : Lean_} (hf : fitsI s.leaves = true) (h0 : 0 ≤ s.own) (h1 : s.own < s.leaves) : ∀ x ∈ ownL s, nodeI x = true := by
  have hb := fits_bd hf
  intro x hx
  rcases List.mem_cons.1 hx with rfl | hx
  · rw [nodeI_iff]; omega
  · have := pathI_wf hx
    rw [nodeI_iff]; omega
theorem allL_node {s : Lean_} (hf : fitsI s.leaves = true) (h0 : 0 ≤ s.own) (h1 : s.own < s.leaves) : ∀ x ∈ allL s, nodeI x = true := by
  intro x hx
  rcases List.mem_append.1 hx with hx | hx
  · exact ownL_node hf h0 h1 x hx
  · obtain ⟨c, hc, hx⟩ := List.mem_flatMap.1 hx
    exact wholeI_node _ _ c (opened_node hf h0 h1 true c hc) x hx
theorem addK_len (all acc : List Int) (c : Int) : (addK all acc c).length ≤ acc.length + 1 := by unfold addK; split <;> simp
theorem addK_nn {all acc : List Int} {c : Int} (h : ∀ x ∈ acc, 0 ≤ x) : ∀ x ∈ addK all acc c, 0 ≤ x := by
  unfold addK
  split
  · rename_i hc
    intro x hx
    rcases List.mem_append.1 hx with hx | hx
    · exact h x hx
    · simp at hx; subst hx; exact hc.1
  · exact h
theorem kids_inv {all : List Int} : ∀ (l acc : List Int), (∀ x ∈ acc, 0 ≤ x) → (∀ x ∈ l.foldl (kidsS all) acc, 0 ≤ x) ∧ (l.foldl (kidsS all) acc).length ≤ acc.length + 2 * l.length := by
  intro l
  induction l with
  | nil => intro acc h; exact ⟨h, by simp⟩
  | cons y l ih =>
    intro acc h
    have h1 := ih (kidsS all acc y) (addK_nn (addK_nn h))
    have h2 := addK_len all (addK all acc (leftI y)) (rightI y)
    have h3 := addK_len all acc (leftI y)
    refine ⟨h1.1, ?_⟩
    have := h1.2
    simp only [List.foldl_cons, List.length_cons, kidsS] at *
    omega
theorem flat_len {f : Int → List Int} {b : Nat} : ∀ (l : List Int), (∀ x ∈ l, (f x).length ≤ b) → (l.flatMap f).length ≤ b * l.length
  | [], _ => by simp
  | x :: l, h => by
    have h1 := h x (by simp)
    have h2 := flat_len l fun y hy => h y (by simp [hy])
    simp only [List.flatMap_cons, List.length_append, List.length_cons, Nat.mul_add]
    omega
theorem flat_snoc {f : Int → List Int} {l : List Int} {j : Nat} (hj : j < l.length) : (l.take (j + 1)).flatMap f = (l.take j).flatMap f ++ f l[j] := by
  rw [List.take_add_one, List.getElem?_eq_getElem hj, List.flatMap_append]; simp
theorem opened_len (s : Lean_) (b : Bool) : (openedF s b).length ≤ 17 := by
  have h1 := List.length_filter_le (fun c => (findS s.opn c).isSome == b) (copathI (2 * s.own) s.leaves)
  have h2 := copathI_len (2 * s.own) s.leaves
  have h3 := pathI_len (2 * s.own) s.leaves
  unfold openedF
  omega
theorem kids_bd {all : List Int} : ∀ (l acc : List Int), (∀ x ∈ acc, -1 ≤ x ∧ x ≤ 1000000) → (∀ x ∈ l, nodeI x = true) → ∀ x ∈ l.foldl (kidsS all) acc, -1 ≤ x ∧ x ≤ 1000000 := by
  have one : ∀ (acc : List Int) (c : Int), (∀ x ∈ acc, -1 ≤ x ∧ x ≤ 1000000) → c ≤ 1000000 → ∀ x ∈ addK all acc c, -1 ≤ x ∧ x ≤ 1000000 := by
    intro acc c h hc
    unfold addK
    split
    · intro x hx
      rcases List.mem_append.1 hx with hx | hx
      · exact h x hx
      · simp at hx; subst hx; omega
    · exact h
  intro l
  induction l with
  | nil => intro acc h _; exact h
  | cons y l ih =>
    intro acc h hn
    have hy := hn y (by simp)
    have hb := halfI_bd y
    rw [nodeI_iff] at hy
    refine ih _ (one _ _ (one _ _ h ?_) ?_) fun x hx => hn x (by simp [hx])
    · unfold leftI; split <;> omega
    · unfold rightI; split <;> omega
theorem kidI_bd (x : Int) : i64 (leftI x) ∧ i64 (rightI x) ∨ nodeI x = false := by
  rcases hn : nodeI x with _ | _
  · exact .inr rfl
  · left
    have hb := halfI_bd x
    rw [nodeI_iff] at hn
    unfold leftI rightI i64
    constructor <;> split <;> omega

theorem g_right29 (s : Lean_) (hs : s.fitN) (hOl : ∀ x ∈ s.opn, x.node.par.late.length ≤ 1000) (hst : ∀ x ∈ s.shut, i64 x.at_) : Gives Tryz.prog 11 [.ag s.c] (.r (.b (rightR s))) := by
  refine gives_of_vcg (T := Tab) mixed Tab_ok Tryz.func11 rfl (by kernel_rfl) ?_
  obtain ⟨hs1, hs2, hs3, hs4⟩ := id hs
  refine Vcall.bool (g_fits14 s.leaves) (fun hf => Vcmp.f rfl ?_) (fun hf => Vcmp.t rfl (Vif.t ?_))
  rotate_left
  · exact Cv.of_eq (by simp [rightR, hf, ofC])
  have hn := fits_bd hf
  refine Vcmp.split (fun h0 => Vif.t ?_) (fun h0 => ?_)
  · simp only [beq_iff_eq, bne_iff_ne, beq_eq_false_iff_ne, bne_eq_false_iff_eq, decide_eq_true_eq, decide_eq_false_iff_not, Bool.not_eq_true', Bool.not_eq_false', ne_eq] at h0
    refine Cv.of_eq (congrArg RV.b (Eq.symm ?_))
    have : ¬ 0 ≤ s.own := by omega
    simp [rightR, this]
  simp only [beq_iff_eq, bne_iff_ne, beq_eq_false_iff_ne, bne_eq_false_iff_eq, decide_eq_true_eq, decide_eq_false_iff_not, Bool.not_eq_true', Bool.not_eq_false', ne_eq] at h0
  have h0' : 0 ≤ s.own := by omega
  refine Vcmp.split (fun h1 => Vif.t ?_) (fun h1 => Vif.f ?_)
  · simp only [beq_iff_eq, bne_iff_ne, beq_eq_false_iff_ne, bne_eq_false_iff_eq, decide_eq_true_eq, decide_eq_false_iff_not, Bool.not_eq_true', Bool.not_eq_false', ne_eq] at h1
    refine Cv.of_eq (congrArg RV.b (Eq.symm ?_))
    have : ¬ s.own < s.leaves := by omega
    simp [rightR, this]
  simp only [beq_iff_eq, bne_iff_ne, beq_eq_false_iff_ne, bne_eq_false_iff_eq, decide_eq_true_eq, decide_eq_false_iff_not, Bool.not_eq_true', Bool.not_eq_false', ne_eq] at h1
  have h1' : s.own < s.leaves := by omega
  have hR : rightR s = (s.opn.all (okR s.leaves) && (s.shut.all (fun x => decide (x.hash.length = 32)) && ((ownL s).all (fun x => decide (x ∈ s.opn.map (·.at_))) && ((openedF s true).all (fun c => (wholeI s.opn s.leaves c).2) &&
    (leafK s && (decide (s.opn.map (·.at_) = rise (allL s)) && decide (s.shut.map (·.at_) = rise (shutL s)))))))) := by simp [rightR, hf, h0', h1']
  refine Vloop.mk' (fun i : Nat => { F := [(1, .own 0), (3, .own 1), (4, .r (I i))], O := [(0, some (.box (s.c.map .r))), (1, some (.ch 3 1 ((s.opn.take i).map (·.at_)).length (((s.opn.take i).map (·.at_)).map I) true))], nx := 2 })
    (fun i => i ≤ s.opn.length ∧ ∀ x ∈ s.opn.take i, okR s.leaves x = true) (fun i => s.opn.length - i) 0 ⟨by omega, by simp⟩
    ((sub_adopt 3 3 1 rfl).trans (sub_of [(0, 0), (1, 1)] rfl ⟨rfl, rfl, Cv.refl _, trivial⟩ ⟨cvCells_refl _, ⟨rfl, rfl, rfl, rfl, Cvs.refl _⟩, trivial⟩)) ?_
  rintro i ⟨hi, hok⟩
  refine Vcmp.split (fun h2 => Vif.t ?_) (fun h2 => Vif.f ?_)
  · simp only [beq_iff_eq, bne_iff_ne, beq_eq_false_iff_ne, bne_eq_false_iff_eq, decide_eq_true_eq, decide_eq_false_iff_not, Bool.not_eq_true', Bool.not_eq_false', ne_eq] at h2
    have hi' : i < s.opn.length := by omega
    obtain ⟨sp, hsp⟩ : ∃ sp, sp = s.opn[i] := ⟨_, rfl⟩
    have hmem : sp ∈ s.opn := hsp ▸ List.getElem_mem hi'
    have bad : okR s.leaves sp = false → rightR s = false := fun h => by rw [hR, all_false hmem h]; rfl
    refine Vdraw.mk' (by kernel_rfl) ?_
    refine Vidx.mk' (by omega) (by omega) (idx_spot rfl hi') (Vload1.mk' rfl ?_)
    refine Vidx.mk' (by omega) (by omega) (idx_spot rfl hi') ?_
    refine VloadN.mk' rfl rfl ?_
    rw [← hsp]
    refine Vcmp.split (fun h3 => Vif.t ?_) (fun h3 => ?_)
    · simp only [beq_iff_eq, bne_iff_ne, beq_eq_false_iff_ne, bne_eq_false_iff_eq, decide_eq_true_eq, decide_eq_false_iff_not, Bool.not_eq_true', Bool.not_eq_false', ne_eq] at h3
      refine Cv.of_eq (congrArg RV.b (Eq.symm (bad ?_)))
      have : ¬ 0 ≤ sp.at_ := by omega
      simp [okR, this]
    simp only [beq_iff_eq, bne_iff_ne, beq_eq_false_iff_ne, bne_eq_false_iff_eq, decide_eq_true_eq, decide_eq_false_iff_not, Bool.not_eq_true', Bool.not_eq_false', ne_eq] at h3
    have h3' : 0 ≤ sp.at_ := by omega
    refine Vint.i64 rfl (by omega) ?_
    refine Vint.i64 rfl (by omega) ?_
    refine Vcmp.split (fun h4 => Vif.t ?_) (fun h4 => ?_)
    · simp only [beq_iff_eq, bne_iff_ne, beq_eq_false_iff_ne, bne_eq_false_iff_eq, decide_eq_true_eq, decide_eq_false_iff_not, Bool.not_eq_true', Bool.not_eq_false', ne_eq] at h4
      refine Cv.of_eq (congrArg RV.b (Eq.symm (bad ?_)))
      have : ¬ sp.at_ ≤ 2 * s.leaves - 2 := by omega
      simp [okR, this]
    simp only [beq_iff_eq, bne_iff_ne, beq_eq_false_iff_ne, bne_eq_false_iff_eq, decide_eq_true_eq, decide_eq_false_iff_not, Bool.not_eq_true', Bool.not_eq_false', ne_eq] at h4
    have h4' : sp.at_ ≤ 2 * s.leaves - 2 := by omega
    refine VloadN.mk' rfl rfl ?_
    refine Vcall.bool (g_right16 sp.node (hs3 sp hmem)) (fun hr16 => Vcmp.f rfl ?_) (fun hr16 => Vcmp.t rfl (Vif.t ?_))
    rotate_left
    · refine Cv.of_eq (congrArg RV.b (Eq.symm (bad ?_)))
      simp [okR, hr16]
    have hlateD := Node.right_late hr16
    have hll := hOl sp hmem
    have hmod : sp.at_.tmod 2 = 0 ∨ sp.at_.tmod 2 = 1 := by rw [Int.tmod_eq_emod_of_nonneg h3']; omega
    refine ⟨by decide, _, rfl, ?_⟩
    refine Vcmp.split (fun h5 => ?_) (fun h5 => ?_)
    · simp only [beq_iff_eq, bne_iff_ne, beq_eq_false_iff_ne, bne_eq_false_iff_eq, decide_eq_true_eq, decide_eq_false_iff_not, Bool.not_eq_true', Bool.not_eq_false', ne_eq] at h5
      refine Vcmp.split (fun h6 => Vif.t ?_) (fun h6 => ?_)
      · simp only [beq_iff_eq, bne_iff_ne, beq_eq_false_iff_ne, bne_eq_false_iff_eq, decide_eq_true_eq, decide_eq_false_iff_not, Bool.not_eq_true', Bool.not_eq_false', ne_eq] at h6
        refine Cv.of_eq (congrArg RV.b (Eq.symm (bad ?_)))
        have : sp.node.kind.toNat = 2 := by omega
        simp [okR, h5, this]
      simp only [beq_iff_eq, bne_iff_ne, beq_eq_false_iff_ne, bne_eq_false_iff_eq, decide_eq_true_eq, decide_eq_false_iff_not, Bool.not_eq_true', Bool.not_eq_false', ne_eq] at h6
      refine ⟨by decide, _, rfl, ?_⟩
      refine Vcmp.f (by simp only [beq_iff_eq, bne_iff_ne, beq_eq_false_iff_ne, bne_eq_false_iff_eq, decide_eq_true_eq, decide_eq_false_iff_not, Bool.not_eq_true', Bool.not_eq_false', ne_eq]; omega) (Vif.f ?_)
      refine Vloop.mk' (fun k : Nat => { F := [(1, .own 0), (3, .own 1), (4, .r (I i)), (5, .r (I sp.at_)), (6, .own 2), (7, .r (I k))], O := [(0, some (.box (s.c.map .r))), (1, some (.ch 3 1 ((s.opn.take i).map (·.at_)).length (((s.opn.take i).map (·.at_)).map I) true)), (2, some (.box (sp.node.c.map .r)))], nx := 3 })
        (fun k => k ≤ sp.node.par.late.length ∧ ∀ u ∈ sp.node.par.late.take k, underI (2 * u) sp.at_ = true) (fun k => sp.node.par.late.length - k) 0 ⟨by omega, by simp⟩
        (sub_of [(0, 0), (1, 1), (2, 2)] rfl ⟨rfl, rfl, Cv.refl _, Cv.of_eq (by rw [hsp]), rfl, Cv.refl _, trivial⟩ ⟨cvCells_refl _, cvChI rfl, (by rw [hsp]; exact cvCells_refl s.opn[i].node.c), trivial⟩) ?_
      rintro k ⟨hk, hun⟩
      refine Vcmp.split (fun h8 => Vif.t ?_) (fun h8 => Vif.f ?_)
      · simp only [beq_iff_eq, bne_iff_ne, beq_eq_false_iff_ne, bne_eq_false_iff_eq, decide_eq_true_eq, decide_eq_false_iff_not, Bool.not_eq_true', Bool.not_eq_false', ne_eq] at h8
        have hk' : k < sp.node.par.late.length := by omega
        have hu := hlateD _ (List.getElem_mem hk')
        unfold lateD at hu
        refine Vidx.mk' (by omega) (by omega) (idx_map rfl hk') (Vload1.mk' rfl ?_)
        refine Vint.i64 rfl (by omega) ?_
        refine Vcall.bool (g_under14 _ _) (fun h9 => Vcmp.f rfl (Vif.f ?_)) (fun h9 => Vcmp.t rfl (Vif.t ?_))
        · refine Vint.i64 (m := ((k + 1 : Nat) : Int)) (by omega) (by omega) ?_
          exact ⟨k + 1, ⟨hk', take_all (p := fun u => underI (2 * u) sp.at_ = true) hk' hun h9⟩, by omega, sub_of [(0, 0), (1, 1), (2, 2)] rfl ⟨rfl, rfl, Cv.refl _, Cv.refl _, rfl, Cv.refl _, trivial⟩ ⟨cvCells_refl _, cvChI rfl, cvCells_refl sp.node.c, trivial⟩⟩
        · refine Cv.of_eq (congrArg RV.b (Eq.symm (bad ?_)))
          have : sp.node.par.late.all (fun u => underI (2 * u) sp.at_) = false := all_false (List.getElem_mem hk') h9
          simp [okR, this]
      simp only [beq_iff_eq, bne_iff_ne, beq_eq_false_iff_ne, bne_eq_false_iff_eq, decide_eq_true_eq, decide_eq_false_iff_not, Bool.not_eq_true', Bool.not_eq_false', ne_eq] at h8
      rw [List.take_of_length_le (by omega)] at hun
      have hall : sp.node.par.late.all (fun u => underI (2 * u) sp.at_) = true := by rw [List.all_eq_true]; exact hun
      have hok2 : okR s.leaves sp = true := by
        simp only [okR, hall, hr16, beq_iff_eq, bne_iff_ne, beq_eq_false_iff_ne, bne_eq_false_iff_eq, decide_eq_true_eq, decide_eq_false_iff_not, Bool.not_eq_true', Bool.not_eq_false', ne_eq, Bool.and_eq_true, Bool.and_true, Bool.true_and, Bool.and_eq_false_iff]
        exact ⟨h3', h4', by omega, by omega⟩
      refine Vpub.pub ?_
      refine Vapp.mk' (j := ((s.opn.take (i + 1)).map (·.at_)).length) (zs := ((s.opn.take (i + 1)).map (·.at_)).map I) (by simp [maxLen]; omega) (by simp; omega) (by simp; omega) (by rw [List.take_add_one, List.getElem?_eq_getElem hi', ← hsp]; simp [fillR, cellsOf]) ?_
      refine Vint.i64 (m := ((i + 1 : Nat) : Int)) (by omega) (by omega) ?_
      exact ⟨i + 1, ⟨hi', take_all (p := fun x => okR s.leaves x = true) hi' hok (by rw [← hsp]; exact hok2)⟩, by omega, sub_of [(0, 0), (1, _)] rfl ⟨rfl, rfl, Cv.refl _, trivial⟩ ⟨cvCells_refl _, cvChI rfl, trivial⟩⟩
    · simp only [beq_iff_eq, bne_iff_ne, beq_eq_false_iff_ne, bne_eq_false_iff_eq, decide_eq_true_eq, decide_eq_false_iff_not, Bool.not_eq_true', Bool.not_eq_false', ne_eq] at h5
      refine ⟨by decide, _, rfl, ?_⟩
      have h5' : sp.at_.tmod 2 = 1 := by omega
      refine Vcmp.t (by simp only [beq_iff_eq, bne_iff_ne, beq_eq_false_iff_ne, bne_eq_false_iff_eq, decide_eq_true_eq, decide_eq_false_iff_not, Bool.not_eq_true', Bool.not_eq_false', ne_eq]; omega) ?_
      refine Vcmp.split (fun h6 => Vif.t ?_) (fun h6 => Vif.f ?_)
      · simp only [beq_iff_eq, bne_iff_ne, beq_eq_false_iff_ne, bne_eq_false_iff_eq, decide_eq_true_eq, decide_eq_false_iff_not, Bool.not_eq_true', Bool.not_eq_false', ne_eq] at h6
        refine Cv.of_eq (congrArg RV.b (Eq.symm (bad ?_)))
        have : sp.node.kind.toNat = 1 := by omega
        simp [okR, h5', this]
      simp only [beq_iff_eq, bne_iff_ne, beq_eq_false_iff_ne, bne_eq_false_iff_eq, decide_eq_true_eq, decide_eq_false_iff_not, Bool.not_eq_true', Bool.not_eq_false', ne_eq] at h6
      refine Vloop.mk' (fun k : Nat => { F := [(1, .own 0), (3, .own 1), (4, .r (I i)), (5, .r (I sp.at_)), (6, .own 2), (7, .r (I k))], O := [(0, some (.box (s.c.map .r))), (1, some (.ch 3 1 ((s.opn.take i).map (·.at_)).length (((s.opn.take i).map (·.at_)).map I) true)), (2, some (.box (sp.node.c.map .r)))], nx := 3 })
        (fun k => k ≤ sp.node.par.late.length ∧ ∀ u ∈ sp.node.par.late.take k, underI (2 * u) sp.at_ = true) (fun k => sp.node.par.late.length - k) 0 ⟨by omega, by simp⟩
        (sub_of [(0, 0), (1, 1), (2, 2)] rfl ⟨rfl, rfl, Cv.refl _, Cv.of_eq (by rw [hsp]), rfl, Cv.refl _, trivial⟩ ⟨cvCells_refl _, cvChI rfl, (by rw [hsp]; exact cvCells_refl s.opn[i].node.c), trivial⟩) ?_
      rintro k ⟨hk, hun⟩
      refine Vcmp.split (fun h8 => Vif.t ?_) (fun h8 => Vif.f ?_)
      · simp only [beq_iff_eq, bne_iff_ne, beq_eq_false_iff_ne, bne_eq_false_iff_eq, decide_eq_true_eq, decide_eq_false_iff_not, Bool.not_eq_true', Bool.not_eq_false', ne_eq] at h8
        have hk' : k < sp.node.par.late.length := by omega
        have hu := hlateD _ (List.getElem_mem hk')
        unfold lateD at hu
        refine Vidx.mk' (by omega) (by omega) (idx_map rfl hk') (Vload1.mk' rfl ?_)
        refine Vint.i64 rfl (by omega) ?_
        refine Vcall.bool (g_under14 _ _) (fun h9 => Vcmp.f rfl (Vif.f ?_)) (fun h9 => Vcmp.t rfl (Vif.t ?_))
        · refine Vint.i64 (m := ((k + 1 : Nat) : Int)) (by omega) (by omega) ?_
          exact ⟨k + 1, ⟨hk', take_all (p := fun u => underI (2 * u) sp.at_ = true) hk' hun h9⟩, by omega, sub_of [(0, 0), (1, 1), (2, 2)] rfl ⟨rfl, rfl, Cv.refl _, Cv.refl _, rfl, Cv.refl _, trivial⟩ ⟨cvCells_refl _, cvChI rfl, cvCells_refl sp.node.c, trivial⟩⟩
        · refine Cv.of_eq (congrArg RV.b (Eq.symm (bad ?_)))
          have : sp.node.par.late.all (fun u => underI (2 * u) sp.at_) = false := all_false (List.getElem_mem hk') h9
          simp [okR, this]
      simp only [beq_iff_eq, bne_iff_ne, beq_eq_false_iff_ne, bne_eq_false_iff_eq, decide_eq_true_eq, decide_eq_false_iff_not, Bool.not_eq_true', Bool.not_eq_false', ne_eq] at h8
      rw [List.take_of_length_le (by omega)] at hun
      have hall : sp.node.par.late.all (fun u => underI (2 * u) sp.at_) = true := by rw [List.all_eq_true]; exact hun
      have hok2 : okR s.leaves sp = true := by
        simp only [okR, hall, hr16, beq_iff_eq, bne_iff_ne, beq_eq_false_iff_ne, bne_eq_false_iff_eq, decide_eq_true_eq, decide_eq_false_iff_not, Bool.not_eq_true', Bool.not_eq_false', ne_eq, Bool.and_eq_true, Bool.and_true, Bool.true_and, Bool.and_eq_false_iff]
        exact ⟨h3', h4', by omega, by omega⟩
      refine Vpub.pub ?_
      refine Vapp.mk' (j := ((s.opn.take (i + 1)).map (·.at_)).length) (zs := ((s.opn.take (i + 1)).map (·.at_)).map I) (by simp [maxLen]; omega) (by simp; omega) (by simp; omega) (by rw [List.take_add_one, List.getElem?_eq_getElem hi', ← hsp]; simp [fillR, cellsOf]) ?_
      refine Vint.i64 (m := ((i + 1 : Nat) : Int)) (by omega) (by omega) ?_
      exact ⟨i + 1, ⟨hi', take_all (p := fun x => okR s.leaves x = true) hi' hok (by rw [← hsp]; exact hok2)⟩, by omega, sub_of [(0, 0), (1, _)] rfl ⟨rfl, rfl, Cv.refl _, trivial⟩ ⟨cvCells_refl _, cvChI rfl, trivial⟩⟩
  simp only [beq_iff_eq, bne_iff_ne, beq_eq_false_iff_ne, bne_eq_false_iff_eq, decide_eq_true_eq, decide_eq_false_iff_not, Bool.not_eq_true', Bool.not_eq_false', ne_eq] at h2
  rw [List.take_of_length_le (by omega)] at hok
  rw [List.take_of_length_le (by omega)]
  have hallO : s.opn.all (okR s.leaves) = true := by rw [List.all_eq_true]; exact hok
  have hlateOk : lateOk_ s.opn := fun x hx => ⟨hOl x hx, by
    have := hok x hx
    simp only [okR, Bool.and_eq_true] at this
    exact Node.right_late this.2.2.1⟩
  have hA64 : ∀ x ∈ s.opn.map (·.at_), i64 x := fun x hx => by
    obtain ⟨y, hy, rfl⟩ := List.mem_map.1 hx
    have := hok y hy
    simp only [okR, Bool.and_eq_true, decide_eq_true_eq] at this
    unfold i64
    omega
  obtain ⟨A, hA⟩ : ∃ A, A = s.opn.map (·.at_) := ⟨_, rfl⟩
  have hAl : A.length = s.opn.length := by rw [hA, List.length_map]
  rw [← hA] at hR hA64 ⊢
  rw [hallO, Bool.true_and] at hR
  refine Vloop.mk' (fun i : Nat => { F := [(1, .own 0), (3, .r (is A)), (8, .own 1), (9, .r (I i))], O := [(0, some (.box (s.c.map .r))), (1, some (.ch 3 1 ((s.shut.take i).map (·.at_)).length (((s.shut.take i).map (·.at_)).map I) true))], nx := 2 })
    (fun i => i ≤ s.shut.length ∧ ∀ x ∈ s.shut.take i, x.hash.length = 32) (fun i => s.shut.length - i) 0 ⟨by omega, by simp⟩
    ((sub_adopt 8 3 1 rfl).trans (sub_of [(0, 0), (1, 2)] rfl ⟨rfl, Cv.refl _, rfl, Cv.refl _, trivial⟩ ⟨cvCells_refl _, ⟨rfl, rfl, rfl, rfl, Cvs.refl _⟩, trivial⟩)) ?_
  rintro i2 ⟨hi2, hok2⟩
  refine Vcmp.split (fun h3 => Vif.t ?_) (fun h3 => Vif.f ?_)
  · simp only [beq_iff_eq, bne_iff_ne, beq_eq_false_iff_ne, bne_eq_false_iff_eq, decide_eq_true_eq, decide_eq_false_iff_not, Bool.not_eq_true', Bool.not_eq_false', ne_eq] at h3
    have hi' : i2 < s.shut.length := by omega
    refine Vidx.mk' (by omega) (by omega) (idx_stub rfl hi') (Vload1.mk' rfl ?_)
    refine Vcmp.split (fun h4 => Vif.t ?_) (fun h4 => Vif.f ?_)
    · simp only [beq_iff_eq, bne_iff_ne, beq_eq_false_iff_ne, bne_eq_false_iff_eq, decide_eq_true_eq, decide_eq_false_iff_not, Bool.not_eq_true', Bool.not_eq_false', ne_eq] at h4
      refine Cv.of_eq (congrArg RV.b (Eq.symm ?_))
      rw [hR, all_false (List.getElem_mem hi') (by simp only [decide_eq_false_iff_not]; omega)]
      rfl
    · simp only [beq_iff_eq, bne_iff_ne, beq_eq_false_iff_ne, bne_eq_false_iff_eq, decide_eq_true_eq, decide_eq_false_iff_not, Bool.not_eq_true', Bool.not_eq_false', ne_eq] at h4
      refine Vidx.mk' (by omega) (by omega) (idx_stub rfl hi') (Vload1.mk' rfl ?_)
      refine Vpub.pub ?_
      refine Vapp.mk' (j := ((s.shut.take (i2 + 1)).map (·.at_)).length) (zs := ((s.shut.take (i2 + 1)).map (·.at_)).map I) (by simp [maxLen]; omega) (by simp; omega) (by simp; omega) (by rw [List.take_add_one, List.getElem?_eq_getElem hi', List.map_append, List.map_append]; rfl) ?_
      refine Vint.i64 (m := ((i2 + 1 : Nat) : Int)) (by omega) (by omega) ?_
      exact ⟨i2 + 1, ⟨hi', take_all (p := fun x => x.hash.length = 32) hi' hok2 (by omega)⟩, by omega, sub_of [(0, 0), (1, _)] rfl ⟨rfl, Cv.refl _, rfl, Cv.refl _, trivial⟩ ⟨cvCells_refl _, cvChI rfl, trivial⟩⟩
  simp only [beq_iff_eq, bne_iff_ne, beq_eq_false_iff_ne, bne_eq_false_iff_eq, decide_eq_true_eq, decide_eq_false_iff_not, Bool.not_eq_true', Bool.not_eq_false', ne_eq] at h3
  rw [List.take_of_length_le (by omega)] at hok2
  rw [List.take_of_length_le (by omega)]
  have hallS : s.shut.all (fun x => decide (x.hash.length = 32)) = true := by rw [List.all_eq_true]; intro x hx; exact decide_eq_true (hok2 x hx)
  obtain ⟨ST, hST⟩ : ∃ ST, ST = s.shut.map (·.at_) := ⟨_, rfl⟩
  have hST64 : ∀ x ∈ ST, i64 x := fun x hx => by
    rw [hST] at hx
    obtain ⟨y, hy, rfl⟩ := List.mem_map.1 hx
    exact hst y hy
  rw [← hST] at hR ⊢
  rw [hallS, Bool.true_and] at hR
  refine Vdraw.mk' (by kernel_rfl) ?_
  refine Vint.i64 rfl (by omega) ?_
  refine Vpub.pub ?_
  refine Vint.i64 rfl (by omega) ?_
  refine Vcall.go (g_path14 _ _) ?_
  have hpl := pathI_len (2 * s.own) s.leaves
  obtain ⟨P, hP⟩ : ∃ P, P = ownL s := ⟨_, rfl⟩
  have hPl : P.length ≤ 18 := by rw [hP]; simp only [ownL, List.length_cons]; omega
  have hPn : ∀ x ∈ P, nodeI x = true := by rw [hP]; exact ownL_node hf h0' h1'
  rw [← hP] at hR
  refine Vapp.mk' (j := P.length) (zs := P.map I) (by simp [maxLen]; omega) (by simp; omega) (by rw [hP]; simp [ownL]; omega) (by rw [hP]; rfl) ?_
  refine Vpub.pub ?_
  refine Vapp.mk' (j := P.length) (zs := P.map I) (by simp [maxLen]; omega) (by simp; omega) (by simp) (by rfl) ?_
  refine Vloop.mk' (fun i : Nat => { F := [(1, .own 0), (3, .r (is A)), (8, .r (is ST)), (10, .r (is P)), (11, .own 1), (12, .r (I i))], O := [(0, some (.box (s.c.map .r))), (1, some (.ch 3 1 P.length (P.map I) true))], nx := 2 })
    (fun i => i ≤ P.length ∧ ∀ x ∈ P.take i, x ∈ A) (fun i => P.length - i) 0 ⟨by omega, by simp⟩
    (sub_of [(0, 0), (1, _)] rfl ⟨rfl, Cv.refl _, Cv.refl _, Cv.refl _, rfl, Cv.refl _, trivial⟩ ⟨cvCells_refl _, cvChI rfl, trivial⟩) ?_
  rintro i3 ⟨hi3, hok3⟩
  refine Vcmp.split (fun h4 => Vif.t ?_) (fun h4 => Vif.f ?_)
  · simp only [beq_iff_eq, bne_iff_ne, beq_eq_false_iff_ne, bne_eq_false_iff_eq, decide_eq_true_eq, decide_eq_false_iff_not, Bool.not_eq_true', Bool.not_eq_false', ne_eq] at h4
    have hi' : i3 < P.length := by omega
    refine Vidx.mk' (by omega) (by omega) (idx_map rfl hi') (Vload1.mk' rfl ?_)
    refine Vcall.bool (g_has29 A _ (by omega)) (fun h5 => Vcmp.f rfl (Vif.f ?_)) (fun h5 => Vcmp.t rfl (Vif.t ?_))
    · simp only [beq_iff_eq, bne_iff_ne, beq_eq_false_iff_ne, bne_eq_false_iff_eq, decide_eq_true_eq, decide_eq_false_iff_not, Bool.not_eq_true', Bool.not_eq_false', ne_eq] at h5
      refine Vint.i64 (m := ((i3 + 1 : Nat) : Int)) (by omega) (by omega) ?_
      exact ⟨i3 + 1, ⟨hi', take_all (p := fun x => x ∈ A) hi' hok3 h5⟩, by omega, sub_of [(0, 0), (1, 1)] rfl ⟨rfl, Cv.refl _, Cv.refl _, Cv.refl _, rfl, Cv.refl _, trivial⟩ ⟨cvCells_refl _, cvChI rfl, trivial⟩⟩
    · refine Cv.of_eq (congrArg RV.b (Eq.symm ?_))
      rw [hR, all_false (List.getElem_mem hi') h5]
      rfl
  simp only [beq_iff_eq, bne_iff_ne, beq_eq_false_iff_ne, bne_eq_false_iff_eq, decide_eq_true_eq, decide_eq_false_iff_not, Bool.not_eq_true', Bool.not_eq_false', ne_eq] at h4
  rw [List.take_of_length_le (by omega)] at hok3
  have hallP : P.all (fun x => decide (x ∈ A)) = true := by rw [List.all_eq_true]; intro x hx; exact decide_eq_true (hok3 x hx)
  rw [hallP, Bool.true_and] at hR
  refine VloadN.mk' rfl rfl ?_
  refine Vcall.go (g_opened29 s true (by omega) (by omega)) ?_
  obtain ⟨C, hC⟩ : ∃ C, C = openedF s true := ⟨_, rfl⟩
  have hCl : C.length ≤ 17 := hC ▸ opened_len s true
  have hCn : ∀ c ∈ C, nodeI c = true := hC ▸ opened_node hf h0' h1' true
  rw [← hC] at hR ⊢
  have hWl : ∀ c ∈ C, (wholeI s.opn s.leaves c).1.length ≤ 2700000000 := fun c hc => wholeI_len _ hlateOk _ _ (hCn c hc)
  refine Vloop.mk' (fun i : Nat => { F := [(1, .own 0), (3, .r (is A)), (8, .r (is ST)), (11, .own 1), (13, .r (is C)), (14, .r (I i))], O := [(0, some (.box (s.c.map .r))), (1, some (.ch 3 1 (P ++ (C.take i).flatMap fun c => (wholeI s.opn s.leaves c).1).length ((P ++ (C.take i).flatMap fun c => (wholeI s.opn s.leaves c).1).map I) true))], nx := 2 })
    (fun i => i ≤ C.length ∧ ∀ c ∈ C.take i, (wholeI s.opn s.leaves c).2 = true) (fun i => C.length - i) 0 ⟨by omega, by simp⟩
    (sub_of [(0, 0), (1, 1)] rfl ⟨rfl, Cv.refl _, Cv.refl _, rfl, Cv.refl _, Cv.refl _, trivial⟩ ⟨cvCells_refl _, cvChI (by simp), trivial⟩) ?_
  rintro i4 ⟨hi4, hok4⟩
  have hfl4 := flat_len (f := fun c => (wholeI s.opn s.leaves c).1) (b := 2700000000) (C.take i4) fun c hc => hWl c (List.mem_of_mem_take hc)
  have htl4 : (C.take i4).length ≤ 17 := by rw [List.length_take]; omega
  refine Vcmp.split (fun h5 => Vif.t ?_) (fun h5 => Vif.f ?_)
  · simp only [beq_iff_eq, bne_iff_ne, beq_eq_false_iff_ne, bne_eq_false_iff_eq, decide_eq_true_eq, decide_eq_false_iff_not, Bool.not_eq_true', Bool.not_eq_false', ne_eq] at h5
    have hi' : i4 < C.length := by omega
    have hcn := hCn _ (List.getElem_mem hi')
    have hw := hWl _ (List.getElem_mem hi')
    have hsn := flat_snoc (f := fun c => (wholeI s.opn s.leaves c).1) hi'
    refine Vdraw.mk' (by kernel_rfl) ?_
    refine Vidx.mk' (by omega) (by omega) (idx_map rfl hi') (Vload1.mk' rfl ?_)
    refine Vcall.go (g_wholeI s.opn hs1 hlateOk s.leaves _ hcn) ?_
    cases hb : (wholeI s.opn s.leaves C[i4]).2 with
    | false =>
      refine Vcmp.t rfl (Vif.t ?_)
      refine Cv.of_eq (congrArg RV.b (Eq.symm ?_))
      rw [hR, all_false (List.getElem_mem hi') hb]
      rfl
    | true =>
      refine Vcmp.f rfl (Vif.f ?_)
      refine Vapp.mk' (j := (P ++ (C.take (i4 + 1)).flatMap fun c => (wholeI s.opn s.leaves c).1).length) (zs := (P ++ (C.take (i4 + 1)).flatMap fun c => (wholeI s.opn s.leaves c).1).map I) (by simp only [maxLen, List.length_append]; omega) (by simp only [List.length_append]; omega) (by rw [hsn]; simp only [List.length_append]; omega) (by rw [hsn, List.map_append, List.map_append, List.map_append, List.append_assoc]) ?_
      refine Vint.i64 (m := ((i4 + 1 : Nat) : Int)) (by omega) (by omega) ?_
      exact ⟨i4 + 1, ⟨hi', take_all (p := fun c => (wholeI s.opn s.leaves c).2 = true) hi' hok4 hb⟩, by omega, sub_of [(0, 0), (1, _)] rfl ⟨rfl, Cv.refl _, Cv.refl _, rfl, Cv.refl _, Cv.refl _, trivial⟩ ⟨cvCells_refl _, cvChI rfl, trivial⟩⟩
  simp only [beq_iff_eq, bne_iff_ne, beq_eq_false_iff_ne, bne_eq_false_iff_eq, decide_eq_true_eq, decide_eq_false_iff_not, Bool.not_eq_true', Bool.not_eq_false', ne_eq] at h5
  rw [List.take_of_length_le (by omega)] at hok4 hfl4
  rw [List.take_of_length_le (by omega)]
  have hallC : C.all (fun c => (wholeI s.opn s.leaves c).2) = true := by rw [List.all_eq_true]; exact hok4
  rw [hallC, Bool.true_and] at hR
  obtain ⟨L, hL⟩ : ∃ L, L = allL s := ⟨_, rfl⟩
  have hLe : P ++ (C.flatMap fun c => (wholeI s.opn s.leaves c).1) = L := by rw [hL, hP, hC]; rfl
  have hLn : ∀ x ∈ L, nodeI x = true := hL ▸ allL_node hf h0' h1'
  have hLl : L.length ≤ 46000000000 := by rw [← hLe, List.length_append]; omega
  obtain ⟨SH, hSH⟩ : ∃ SH, SH = shutL s := ⟨_, rfl⟩
  have hSHe : L.foldl (kidsS L) [] = SH := by rw [hSH, hL]; rfl
  rw [hLe]
  rw [← hL, ← hSH] at hR
  refine Vloop.mk' (fun i : Nat × List Int => { F := [(1, .own 0), (3, .r (is A)), (8, .r (is ST)), (11, .r (is L)), (17, .own 1), (18, .r (I i.1))], O := [(0, some (.box (s.c.map .r))), (1, some (.ch 3 1 i.2.length (i.2.map I) true))], nx := 2 })
    (fun i => i.1 ≤ L.length ∧ (L.take i.1).foldl (kidsS L) [] = i.2) (fun i => L.length - i.1) (0, []) ⟨by simp, rfl⟩
    ((sub_adopt 17 3 1 rfl).trans (sub_of [(0, 0), (1, 2)] rfl ⟨rfl, Cv.refl _, Cv.refl _, Cv.refl _, rfl, Cv.refl _, trivial⟩ ⟨cvCells_refl _, ⟨rfl, rfl, rfl, rfl, Cvs.refl _⟩, trivial⟩)) ?_
  rintro ⟨i5, acc⟩ ⟨hi5, hacc⟩
  simp only at hi5 hacc
  refine Vcmp.split (fun h6 => Vif.t ?_) (fun h6 => Vif.f ?_)
  · simp only [beq_iff_eq, bne_iff_ne, beq_eq_false_iff_ne, bne_eq_false_iff_eq, decide_eq_true_eq, decide_eq_false_iff_not, Bool.not_eq_true', Bool.not_eq_false', ne_eq] at h6
    have hi' : i5 < L.length := by omega
    have hinv := kids_inv (all := L) (L.take i5) [] (by simp)
    rw [hacc] at hinv
    have htl : (L.take i5).length ≤ L.length := by rw [List.length_take]; omega
    have hal : acc.length ≤ 92000000000 := by have := hinv.2; simp at this; omega
    have hsn := foldl_snoc (f := kidsS L) (b := []) hi'
    rw [hacc] at hsn
    obtain ⟨x, hx⟩ : ∃ x, x = L[i5] := ⟨_, rfl⟩
    rw [← hx] at hsn
    refine Vidx.mk' (by omega) (by omega) (idx_map rfl hi') (Vload1.mk' rfl ?_)
    rw [← hx]
    refine Vcall.go (g_children14 x) ?_
    obtain ⟨a, ha⟩ : ∃ a, a = leftI x := ⟨_, rfl⟩
    obtain ⟨b, hb⟩ : ∃ b, b = rightI x := ⟨_, rfl⟩
    have hsn2 : (L.take (i5 + 1)).foldl (kidsS L) [] = addK L (addK L acc a) b := by rw [hsn, ha, hb]; rfl
    rw [← ha, ← hb]
    refine Vcmp.split (fun h7 => ?_) (fun h7 => Vif.f ?_)
    · simp only [beq_iff_eq, bne_iff_ne, beq_eq_false_iff_ne, bne_eq_false_iff_eq, decide_eq_true_eq, decide_eq_false_iff_not, Bool.not_eq_true', Bool.not_eq_false', ne_eq] at h7
      refine Vcall.bool (g_has29 L a (by omega)) (fun h8 => Vcmp.f rfl (Vif.f ?_)) (fun h8 => Vcmp.t rfl (Vif.t ?_))
      · simp only [beq_iff_eq, bne_iff_ne, beq_eq_false_iff_ne, bne_eq_false_iff_eq, decide_eq_true_eq, decide_eq_false_iff_not, Bool.not_eq_true', Bool.not_eq_false', ne_eq] at h8
        have e1 : addK L acc a = acc := by unfold addK; rw [if_neg (fun h => h.2 h8)]
        rw [e1] at hsn2
        refine Vcmp.split (fun h9 => ?_) (fun h9 => Vif.f ?_)
        · simp only [beq_iff_eq, bne_iff_ne, beq_eq_false_iff_ne, bne_eq_false_iff_eq, decide_eq_true_eq, decide_eq_false_iff_not, Bool.not_eq_true', Bool.not_eq_false', ne_eq] at h9
          refine Vcall.bool (g_has29 L b (by omega)) (fun h10 => Vcmp.f rfl (Vif.f ?_)) (fun h10 => Vcmp.t rfl (Vif.t ?_))
          · simp only [beq_iff_eq, bne_iff_ne, beq_eq_false_iff_ne, bne_eq_false_iff_eq, decide_eq_true_eq, decide_eq_false_iff_not, Bool.not_eq_true', Bool.not_eq_false', ne_eq] at h10
            have e2 : addK L (acc) b = acc := by unfold addK; rw [if_neg (fun h => h.2 h10)]
            rw [e2] at hsn2
            refine Vint.i64 (m := ((i5 + 1 : Nat) : Int)) (by omega) (by omega) ?_
            exact ⟨(i5 + 1, acc), ⟨hi', hsn2⟩, by simp only; omega, sub_of [(0, 0), (1, _)] rfl ⟨rfl, Cv.refl _, Cv.refl _, Cv.refl _, rfl, Cv.refl _, trivial⟩ ⟨cvCells_refl _, cvChI rfl, trivial⟩⟩
          · simp only [beq_iff_eq, bne_iff_ne, beq_eq_false_iff_ne, bne_eq_false_iff_eq, decide_eq_true_eq, decide_eq_false_iff_not, Bool.not_eq_true', Bool.not_eq_false', ne_eq] at h10
            have e2 : addK L (acc) b = acc ++ [b] := by unfold addK; rw [if_pos ⟨by omega, h10⟩]
            rw [e2] at hsn2
            refine Vpub.pub ?_
            refine Vapp.mk' (j := (acc ++ [b]).length) (zs := (acc ++ [b]).map I) (by simp [maxLen]; omega) (by simp; omega) (by simp) (by simp [fillR, cellsOf]) ?_
            refine Vint.i64 (m := ((i5 + 1 : Nat) : Int)) (by omega) (by omega) ?_
            exact ⟨(i5 + 1, acc ++ [b]), ⟨hi', hsn2⟩, by simp only; omega, sub_of [(0, 0), (1, _)] rfl ⟨rfl, Cv.refl _, Cv.refl _, Cv.refl _, rfl, Cv.refl _, trivial⟩ ⟨cvCells_refl _, cvChI rfl, trivial⟩⟩
        · simp only [beq_iff_eq, bne_iff_ne, beq_eq_false_iff_ne, bne_eq_false_iff_eq, decide_eq_true_eq, decide_eq_false_iff_not, Bool.not_eq_true', Bool.not_eq_false', ne_eq] at h9
          have e2 : addK L (acc) b = acc := by unfold addK; rw [if_neg (fun h => by omega)]
          rw [e2] at hsn2
          refine Vint.i64 (m := ((i5 + 1 : Nat) : Int)) (by omega) (by omega) ?_
          exact ⟨(i5 + 1, acc), ⟨hi', hsn2⟩, by simp only; omega, sub_of [(0, 0), (1, _)] rfl ⟨rfl, Cv.refl _, Cv.refl _, Cv.refl _, rfl, Cv.refl _, trivial⟩ ⟨cvCells_refl _, cvChI rfl, trivial⟩⟩
      · simp only [beq_iff_eq, bne_iff_ne, beq_eq_false_iff_ne, bne_eq_false_iff_eq, decide_eq_true_eq, decide_eq_false_iff_not, Bool.not_eq_true', Bool.not_eq_false', ne_eq] at h8
        have e1 : addK L acc a = acc ++ [a] := by unfold addK; rw [if_pos ⟨by omega, h8⟩]
        rw [e1] at hsn2
        refine Vpub.pub ?_
        refine Vapp.mk' (j := (acc ++ [a]).length) (zs := (acc ++ [a]).map I) (by simp only [maxLen]; omega) (by simp; omega) (by simp) (by simp [fillR, cellsOf]) ?_
        refine Vcmp.split (fun h9 => ?_) (fun h9 => Vif.f ?_)
        · simp only [beq_iff_eq, bne_iff_ne, beq_eq_false_iff_ne, bne_eq_false_iff_eq, decide_eq_true_eq, decide_eq_false_iff_not, Bool.not_eq_true', Bool.not_eq_false', ne_eq] at h9
          refine Vcall.bool (g_has29 L b (by omega)) (fun h10 => Vcmp.f rfl (Vif.f ?_)) (fun h10 => Vcmp.t rfl (Vif.t ?_))
          · simp only [beq_iff_eq, bne_iff_ne, beq_eq_false_iff_ne, bne_eq_false_iff_eq, decide_eq_true_eq, decide_eq_false_iff_not, Bool.not_eq_true', Bool.not_eq_false', ne_eq] at h10
            have e2 : addK L (acc ++ [a]) b = acc ++ [a] := by unfold addK; rw [if_neg (fun h => h.2 h10)]
            rw [e2] at hsn2
            refine Vint.i64 (m := ((i5 + 1 : Nat) : Int)) (by omega) (by omega) ?_
            exact ⟨(i5 + 1, acc ++ [a]), ⟨hi', hsn2⟩, by simp only; omega, sub_of [(0, 0), (1, _)] rfl ⟨rfl, Cv.refl _, Cv.refl _, Cv.refl _, rfl, Cv.refl _, trivial⟩ ⟨cvCells_refl _, cvChI rfl, trivial⟩⟩
          · simp only [beq_iff_eq, bne_iff_ne, beq_eq_false_iff_ne, bne_eq_false_iff_eq, decide_eq_true_eq, decide_eq_false_iff_not, Bool.not_eq_true', Bool.not_eq_false', ne_eq] at h10
            have e2 : addK L (acc ++ [a]) b = acc ++ [a] ++ [b] := by unfold addK; rw [if_pos ⟨by omega, h10⟩]
            rw [e2] at hsn2
            refine Vpub.pub ?_
            refine Vapp.mk' (j := (acc ++ [a] ++ [b]).length) (zs := (acc ++ [a] ++ [b]).map I) (by simp [maxLen]; omega) (by simp; omega) (by simp) (by simp [fillR, cellsOf]) ?_
            refine Vint.i64 (m := ((i5 + 1 : Nat) : Int)) (by omega) (by omega) ?_
            exact ⟨(i5 + 1, acc ++ [a] ++ [b]), ⟨hi', hsn2⟩, by simp only; omega, sub_of [(0, 0), (1, _)] rfl ⟨rfl, Cv.refl _, Cv.refl _, Cv.refl _, rfl, Cv.refl _, trivial⟩ ⟨cvCells_refl _, cvChI rfl, trivial⟩⟩
        · simp only [beq_iff_eq, bne_iff_ne, beq_eq_false_iff_ne, bne_eq_false_iff_eq, decide_eq_true_eq, decide_eq_false_iff_not, Bool.not_eq_true', Bool.not_eq_false', ne_eq] at h9
          have e2 : addK L (acc ++ [a]) b = acc ++ [a] := by unfold addK; rw [if_neg (fun h => by omega)]
          rw [e2] at hsn2
          refine Vint.i64 (m := ((i5 + 1 : Nat) : Int)) (by omega) (by omega) ?_
          exact ⟨(i5 + 1, acc ++ [a]), ⟨hi', hsn2⟩, by simp only; omega, sub_of [(0, 0), (1, _)] rfl ⟨rfl, Cv.refl _, Cv.refl _, Cv.refl _, rfl, Cv.refl _, trivial⟩ ⟨cvCells_refl _, cvChI rfl, trivial⟩⟩
    · simp only [beq_iff_eq, bne_iff_ne, beq_eq_false_iff_ne, bne_eq_false_iff_eq, decide_eq_true_eq, decide_eq_false_iff_not, Bool.not_eq_true', Bool.not_eq_false', ne_eq] at h7
      have e1 : addK L acc a = acc := by unfold addK; rw [if_neg (fun h => by omega)]
      rw [e1] at hsn2
      refine Vcmp.split (fun h9 => ?_) (fun h9 => Vif.f ?_)
      · simp only [beq_iff_eq, bne_iff_ne, beq_eq_false_iff_ne, bne_eq_false_iff_eq, decide_eq_true_eq, decide_eq_false_iff_not, Bool.not_eq_true', Bool.not_eq_false', ne_eq] at h9
        refine Vcall.bool (g_has29 L b (by omega)) (fun h10 => Vcmp.f rfl (Vif.f ?_)) (fun h10 => Vcmp.t rfl (Vif.t ?_))
        · simp only [beq_iff_eq, bne_iff_ne, beq_eq_false_iff_ne, bne_eq_false_iff_eq, decide_eq_true_eq, decide_eq_false_iff_not, Bool.not_eq_true', Bool.not_eq_false', ne_eq] at h10
          have e2 : addK L (acc) b = acc := by unfold addK; rw [if_neg (fun h => h.2 h10)]
          rw [e2] at hsn2
          refine Vint.i64 (m := ((i5 + 1 : Nat) : Int)) (by omega) (by omega) ?_
          exact ⟨(i5 + 1, acc), ⟨hi', hsn2⟩, by simp only; omega, sub_of [(0, 0), (1, _)] rfl ⟨rfl, Cv.refl _, Cv.refl _, Cv.refl _, rfl, Cv.refl _, trivial⟩ ⟨cvCells_refl _, cvChI rfl, trivial⟩⟩
        · simp only [beq_iff_eq, bne_iff_ne, beq_eq_false_iff_ne, bne_eq_false_iff_eq, decide_eq_true_eq, decide_eq_false_iff_not, Bool.not_eq_true', Bool.not_eq_false', ne_eq] at h10
          have e2 : addK L (acc) b = acc ++ [b] := by unfold addK; rw [if_pos ⟨by omega, h10⟩]
          rw [e2] at hsn2
          refine Vpub.pub ?_
          refine Vapp.mk' (j := (acc ++ [b]).length) (zs := (acc ++ [b]).map I) (by simp [maxLen]; omega) (by simp; omega) (by simp) (by simp [fillR, cellsOf]) ?_
          refine Vint.i64 (m := ((i5 + 1 : Nat) : Int)) (by omega) (by omega) ?_
          exact ⟨(i5 + 1, acc ++ [b]), ⟨hi', hsn2⟩, by simp only; omega, sub_of [(0, 0), (1, _)] rfl ⟨rfl, Cv.refl _, Cv.refl _, Cv.refl _, rfl, Cv.refl _, trivial⟩ ⟨cvCells_refl _, cvChI rfl, trivial⟩⟩
      · simp only [beq_iff_eq, bne_iff_ne, beq_eq_false_iff_ne, bne_eq_false_iff_eq, decide_eq_true_eq, decide_eq_false_iff_not, Bool.not_eq_true', Bool.not_eq_false', ne_eq] at h9
        have e2 : addK L (acc) b = acc := by unfold addK; rw [if_neg (fun h => by omega)]
        rw [e2] at hsn2
        refine Vint.i64 (m := ((i5 + 1 : Nat) : Int)) (by omega) (by omega) ?_
        exact ⟨(i5 + 1, acc), ⟨hi', hsn2⟩, by simp only; omega, sub_of [(0, 0), (1, _)] rfl ⟨rfl, Cv.refl _, Cv.refl _, Cv.refl _, rfl, Cv.refl _, trivial⟩ ⟨cvCells_refl _, cvChI rfl, trivial⟩⟩
  simp only [beq_iff_eq, bne_iff_ne, beq_eq_false_iff_ne, bne_eq_false_iff_eq, decide_eq_true_eq, decide_eq_false_iff_not, Bool.not_eq_true', Bool.not_eq_false', ne_eq] at h6
  rw [List.take_of_length_le (by omega), hSHe] at hacc
  subst hacc
  have hinv := kids_inv (all := L) L [] (by simp)
  rw [hSHe] at hinv
  refine Vint.i64 rfl (by omega) ?_
  refine Vcall.go (g_find s.opn _ (by omega)) ?_
  have hrl := rise_len L
  have hrs := rise_len SH
  have hshb : ∀ x ∈ SH, -1 ≤ x ∧ x ≤ 1000000 := fun x hx => by
    rw [← hSHe] at hx
    exact kids_bd L [] (by simp) hLn x hx
  have hSHl : SH.length ≤ 92000000000 := by have := hinv.2; simp at this; omega
  have hL0 : ∀ x ∈ L, 0 ≤ x := fun x hx => by have := hLn x hx; rw [nodeI_iff] at this; omega
  have hrise64 : ∀ x ∈ rise L, i64 x := fun x hx => by
    have := hLn x (mem_rise.1 hx)
    rw [nodeI_iff] at this
    unfold i64; omega
  have hsh64 : ∀ x ∈ rise SH, i64 x := fun x hx => by
    have := hshb x (mem_rise.1 hx)
    unfold i64; omega
  cases hfd : findS s.opn (2 * s.own) with
  | none =>
    refine Vcmp.f rfl ?_
    refine Cv.of_eq (congrArg RV.b (Eq.symm ?_))
    rw [hR]
    simp [leafK, hfd]
  | some m =>
    refine Vcmp.split (fun h7 => ?_) (fun h7 => ?_)
    · simp only [beq_iff_eq, bne_iff_ne, beq_eq_false_iff_ne, bne_eq_false_iff_eq, decide_eq_true_eq, decide_eq_false_iff_not, Bool.not_eq_true', Bool.not_eq_false', ne_eq] at h7
      have hlk : leafK s = true := by simp only [leafK, hfd, decide_eq_true_eq]; omega
      rw [hlk, Bool.true_and] at hR
      refine Vcall.go (g_sorted29 L (by omega) hL0) ?_
      refine Vcall.bool (g_same14 A (rise L) hA64 hrise64) (fun h8 => ?_) (fun h8 => ?_)
      · rw [h8, Bool.true_and] at hR
        refine Vcall.go (g_sorted29 SH (by omega) hinv.1) ?_
        refine Vcall.go (g_same14 ST (rise SH) hST64 hsh64) ?_
        exact Cv.of_eq (congrArg RV.b hR.symm)
      · rw [h8, Bool.false_and] at hR
        exact Cv.of_eq (congrArg RV.b hR.symm)
    · simp only [beq_iff_eq, bne_iff_ne, beq_eq_false_iff_ne, bne_eq_false_iff_eq, decide_eq_true_eq, decide_eq_false_iff_not, Bool.not_eq_true', Bool.not_eq_false', ne_eq] at h7
      have hlk : leafK s = false := by simp only [leafK, hfd, decide_eq_false_iff_not]; omega
      rw [hlk, Bool.false_and] at hR
      exact Cv.of_eq (congrArg RV.b hR.symm)
end Go.Proofs.YtpdllgbfemnemaaGreat.Sx
