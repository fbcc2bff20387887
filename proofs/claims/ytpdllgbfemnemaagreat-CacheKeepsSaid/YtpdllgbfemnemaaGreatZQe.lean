import Derived.Test.YtpdllgbfemnemaaGreatZPj
section
namespace Go.Proofs.YtpdllgbfemnemaaGreat.Sx
open Go.RowKit
set_option linter.unusedVariables false

def nods (l : List Node) : RV := .sl 10 l.length (l.flatMap Node.c)
theorem idx_nod {l : List Node} {i : Int} {j : Nat} (h : i = j) (hj : j < l.length) : ((l.flatMap Node.c).drop (i.toNat * 10)).take 10 = l[j].c := idx_flat (f := Node.c) (sz := 10) (fun _ => rfl) h hj
def nT (t : List Node) (j : Nat) : Node := t.getD j Node.zero
theorem nT_at {t : List Node} {j : Nat} (hj : j < t.length) : t[j] = nT t j := by simp [nT, hj]
theorem nT_mem {t : List Node} {j : Nat} (hj : j < t.length) : nT t j ∈ t := nT_at hj ▸ List.getElem_mem hj
theorem idx_nT {l : List Node} {i : Int} {j : Nat} (h : i = j) (hj : j < l.length) : ((l.flatMap Node.c).drop (i.toNat * 10)).take 10 = (nT l j).c := by rw [← nT_at hj]; exact idx_nod h hj

def smallT (t : List Node) : Bool := decide (t.length ≤ 40 ∧ ∀ x ∈ t, x.small = true)
theorem g_small17 (t : List Node) (h1 : t.length ≤ maxL) : Gives Tryz.prog 29 [nods t] (.r (.b (smallT t))) := by
  refine gives_of_vcg (T := Tab) mixed Tab_ok Tryz.func29 rfl (by kernel_rfl) ?_
  have no : (t.length ≤ 40 → (∀ x ∈ t, x.small = true) → False) → smallT t = false := fun h => by
    simp only [smallT, decide_eq_false_iff_not]
    rintro ⟨a, b⟩
    exact h a b
  simp only [maxL] at h1
  refine Vcmp.split (fun h => ?_) (fun h => ?_)
  · refine Vif.t (Cv.of_eq (congrArg RV.b (Eq.symm (no fun a b => ?_))))
    simp only [beq_iff_eq, bne_iff_ne, beq_eq_false_iff_ne, bne_eq_false_iff_eq, decide_eq_true_eq, decide_eq_false_iff_not, Bool.not_eq_true', Bool.not_eq_false', ne_eq] at h; omega
  simp only [beq_iff_eq, bne_iff_ne, beq_eq_false_iff_ne, bne_eq_false_iff_eq, decide_eq_true_eq, decide_eq_false_iff_not, Bool.not_eq_true', Bool.not_eq_false', ne_eq] at h
  refine Vif.f ?_
  refine Vloop.mk' (fun j : Nat => { F := [(0, .r (nods t)), (3, .r (I j))], O := [], nx := 0 }) (fun j => j ≤ t.length ∧ ∀ x ∈ t.take j, x.small = true) (fun j => t.length - j) 0 ⟨by omega, by simp⟩ (sub_of [] rfl ⟨Cv.refl _, Cv.refl _, trivial⟩ trivial) ?_
  rintro j ⟨hj, hn⟩
  refine Vcmp.split (fun h4 => Vif.t ?_) (fun h4 => Vif.f ?_)
  · simp only [beq_iff_eq, bne_iff_ne, beq_eq_false_iff_ne, bne_eq_false_iff_eq, decide_eq_true_eq, decide_eq_false_iff_not, Bool.not_eq_true', Bool.not_eq_false', ne_eq] at h4
    have hj' : j < t.length := by omega
    refine Vidx.mk' (by omega) (by omega) (idx_nod rfl hj') ?_
    refine VloadN.mk' rfl rfl ?_
    refine Vcall.bool (g_small16 _) (fun h5 => Vcmp.f rfl (Vif.f ?_)) (fun h5 => Vcmp.t rfl (Vif.t ?_))
    · refine Vint.i64 (m := ((j + 1 : Nat) : Int)) (by omega) (by omega) ?_
      exact ⟨j + 1, ⟨hj', take_all hj' hn h5⟩, by omega, sub_of [] rfl ⟨Cv.refl _, Cv.refl _, trivial⟩ trivial⟩
    · refine Cv.of_eq (congrArg RV.b (Eq.symm (no fun a b => ?_)))
      have := b _ (List.getElem_mem hj')
      rw [h5] at this; cases this
  simp only [beq_iff_eq, bne_iff_ne, beq_eq_false_iff_ne, bne_eq_false_iff_eq, decide_eq_true_eq, decide_eq_false_iff_not, Bool.not_eq_true', Bool.not_eq_false', ne_eq] at h4
  rw [List.take_of_length_le (by omega)] at hn
  refine Cv.of_eq (congrArg RV.b (Eq.symm ?_))
  simp only [smallT, decide_eq_true_eq]
  exact ⟨by omega, hn⟩

theorem g_has17 (l : List Int) (x : Int) (hl : l.length ≤ 1000000000000) : Gives Tryz.prog 112 [is l, I x] (.r (.b (decide (x ∈ l)))) := by
  refine gives_of_vcg (T := Tab) mixed Tab_ok Tryz.func112 rfl (by kernel_rfl) ?_
  refine Vloop.mk' (fun j : Nat => { F := [(0, .r (is l)), (1, .r (I x)), (5, .r (I j))], O := [], nx := 0 }) (fun j => j ≤ l.length ∧ x ∉ l.take j) (fun j => l.length - j) 0 ⟨by omega, by simp⟩ (sub_of [] rfl ⟨Cv.refl _, Cv.refl _, Cv.refl _, trivial⟩ trivial) ?_
  rintro j ⟨hj, hn⟩
  refine Vcmp.split (fun h => Vif.t ?_) (fun h => Vif.f ?_)
  · simp only [beq_iff_eq, bne_iff_ne, beq_eq_false_iff_ne, bne_eq_false_iff_eq, decide_eq_true_eq, decide_eq_false_iff_not, Bool.not_eq_true', Bool.not_eq_false', ne_eq] at h
    have hj' : j < l.length := by omega
    refine Vidx.mk' (by omega) (by omega) (idx_map rfl hj') (Vload1.mk' rfl ?_)
    refine Vcmp.split (fun h2 => Vif.t ?_) (fun h2 => Vif.f ?_)
    · simp only [beq_iff_eq, bne_iff_ne, beq_eq_false_iff_ne, bne_eq_false_iff_eq, decide_eq_true_eq, decide_eq_false_iff_not, Bool.not_eq_true', Bool.not_eq_false', ne_eq] at h2
      exact Cv.of_eq (by simp [ofC, ← h2])
    · simp only [beq_iff_eq, bne_iff_ne, beq_eq_false_iff_ne, bne_eq_false_iff_eq, decide_eq_true_eq, decide_eq_false_iff_not, Bool.not_eq_true', Bool.not_eq_false', ne_eq] at h2
      refine Vint.i64 (m := ((j + 1 : Nat) : Int)) (by omega) (by omega) ?_
      exact ⟨j + 1, ⟨hj', take_snoc_mem hj' hn h2⟩, by omega, sub_of [] rfl ⟨Cv.refl _, Cv.refl _, Cv.refl _, trivial⟩ trivial⟩
  · simp only [beq_iff_eq, bne_iff_ne, beq_eq_false_iff_ne, bne_eq_false_iff_eq, decide_eq_true_eq, decide_eq_false_iff_not, Bool.not_eq_true', Bool.not_eq_false', ne_eq] at h
    rw [List.take_of_length_le (by omega)] at hn
    exact Cv.of_eq (by simp [ofC, hn])
/-- How many leaves a row of nodes has. -/
def leavesT (t : List Node) : Int := if fitsI (((t.length + 1) / 2 : Nat) : Int) = true ∧ t.length % 2 = 1 then (((t.length + 1) / 2 : Nat) : Int) else 0
theorem g_leaves17 (t : List Node) (h1 : t.length ≤ 1000000) : Gives Tryz.prog 111 [nods t] (.r (I (leavesT t))) := by
  refine gives_of_vcg (T := Tab) mixed Tab_ok Tryz.func111 rfl (by kernel_rfl) ?_
  refine Vloop.mk' (fun j : Nat => { F := [(0, .r (nods t)), (3, .r (I ((2 ^ j : Nat) : Int)))], O := [], nx := 0 }) (fun j => j ≤ 17 ∧ ∀ i, i < j → 2 * 2 ^ i - 1 ≠ t.length) (fun j => 17 - j) 0 ⟨by omega, by omega⟩ (sub_of [] rfl ⟨Cv.refl _, Cv.refl _, trivial⟩ trivial) ?_
  rintro j ⟨hj, hn⟩
  have hp := pow_pos' j
  have e2 : 2 ^ (j + 1) = 2 * 2 ^ j := by rw [Nat.pow_succ]; omega
  refine Vcmp.split (fun h => Vif.t ?_) (fun h => Vif.f ?_)
  · simp only [beq_iff_eq, bne_iff_ne, beq_eq_false_iff_ne, bne_eq_false_iff_eq, decide_eq_true_eq, decide_eq_false_iff_not, Bool.not_eq_true', Bool.not_eq_false', ne_eq] at h
    have hj' : j < 17 := by
      rcases Nat.lt_or_ge j 17 with h' | h'
      · exact h'
      · have : j = 17 := by omega
        subst this
        have : (2 : Nat) ^ 17 = 131072 := by decide
        omega
    refine Vint.i64 rfl (by omega) ?_
    refine Vint.i64 rfl (by omega) ?_
    refine Vcmp.split (fun h2 => Vif.t ?_) (fun h2 => Vif.f ?_)
    · simp only [beq_iff_eq, bne_iff_ne, beq_eq_false_iff_ne, bne_eq_false_iff_eq, decide_eq_true_eq, decide_eq_false_iff_not, Bool.not_eq_true', Bool.not_eq_false', ne_eq] at h2
      refine Cv.of_eq (congrArg I ?_)
      have e : (t.length + 1) / 2 = 2 ^ j := by omega
      have hf := pow_fits j (by omega)
      unfold leavesT
      rw [e, if_pos ⟨hf, by omega⟩]
    · simp only [beq_iff_eq, bne_iff_ne, beq_eq_false_iff_ne, bne_eq_false_iff_eq, decide_eq_true_eq, decide_eq_false_iff_not, Bool.not_eq_true', Bool.not_eq_false', ne_eq] at h2
      refine Vint.i64 (m := ((2 ^ (j + 1) : Nat) : Int)) (by omega) (by omega) ?_
      refine ⟨j + 1, ⟨by omega, fun i hi => ?_⟩, by omega, sub_of [] rfl ⟨Cv.refl _, Cv.refl _, trivial⟩ trivial⟩
      rcases Nat.lt_or_ge i j with h3 | h3
      · exact hn i h3
      · have : i = j := by omega
        subst this; omega
  · simp only [beq_iff_eq, bne_iff_ne, beq_eq_false_iff_ne, bne_eq_false_iff_eq, decide_eq_true_eq, decide_eq_false_iff_not, Bool.not_eq_true', Bool.not_eq_false', ne_eq] at h
    refine Cv.of_eq (congrArg I (Eq.symm ?_))
    unfold leavesT
    rw [if_neg]
    rintro ⟨hf, ho⟩
    obtain ⟨d, hd, e⟩ := fits_pow hf
    refine hn d ?_ (by omega)
    rcases Nat.lt_or_ge d j with h3 | h3
    · exact h3
    · have := Nat.pow_le_pow_right (n := 2) (by omega) (show j ≤ d from h3)
      have := pow_le16 hd
      omega

/-- Where members lie. -/
def membersN (t : List Node) (n : Nat) : List Int := ((List.range n).filter fun i => decide ((nT t (2 * i)).kind.toNat = 1)).map fun i : Nat => (i : Int)
def membersT (t : List Node) : List Int := membersN t ((t.length + 1) / 2)
theorem members_snoc (t : List Node) (n : Nat) : membersN t (n + 1) = if (nT t (2 * n)).kind.toNat = 1 then membersN t n ++ [(n : Int)] else membersN t n := by
  unfold membersN
  rw [List.range_succ, List.filter_append]
  by_cases h : (nT t (2 * n)).kind.toNat = 1
  · simp [h]
  · simp [h]
theorem membersN_len (t : List Node) (n : Nat) : (membersN t n).length ≤ n := by
  unfold membersN
  rw [List.length_map]
  exact Nat.le_trans (List.length_filter_le _ _) (by simp)
theorem g_members17 (t : List Node) (h1 : t.length ≤ 1000000) : Gives Tryz.prog 113 [nods t] (.r (is (membersT t))) := by
  refine gives_of_vcg (T := Tab) mixed Tab_ok Tryz.func113 rfl (by kernel_rfl) ?_
  refine Vloop.mk' (fun j : Nat => { F := [(0, .r (nods t)), (3, .own 0), (4, .r (I j))], O := [(0, some (.ch 3 1 (membersN t j).length ((membersN t j).map I) true))], nx := 1 }) (fun j => j ≤ (t.length + 1) / 2) (fun j => (t.length + 1) / 2 - j) 0 (by omega)
    ((sub_adopt 3 3 1 rfl).trans (sub_of [(0, 0)] rfl ⟨Cv.refl _, rfl, Cv.refl _, trivial⟩ ⟨⟨rfl, rfl, rfl, rfl, Cvs.refl _⟩, trivial⟩)) ?_
  intro j hj
  have hml := membersN_len t j
  refine Vint.i64 rfl (by omega) ?_
  refine Vcmp.split (fun h => Vif.t ?_) (fun h => Vif.f ?_)
  · simp only [beq_iff_eq, bne_iff_ne, beq_eq_false_iff_ne, bne_eq_false_iff_eq, decide_eq_true_eq, decide_eq_false_iff_not, Bool.not_eq_true', Bool.not_eq_false', ne_eq] at h
    have hj' : 2 * j < t.length := by omega
    refine Vint.i64 rfl (by omega) ?_
    refine Vidx.mk' (by omega) (by omega) (idx_nT (j := 2 * j) (by omega) hj') (Vload1.mk' rfl ?_)
    refine Vcmp.split (fun h2 => Vif.t ?_) (fun h2 => Vif.f ?_)
    · simp only [beq_iff_eq, bne_iff_ne, beq_eq_false_iff_ne, bne_eq_false_iff_eq, decide_eq_true_eq, decide_eq_false_iff_not, Bool.not_eq_true', Bool.not_eq_false', ne_eq] at h2
      have e : membersN t (j + 1) = membersN t j ++ [(j : Int)] := by rw [members_snoc, if_pos (by omega)]
      refine Vpub.pub ?_
      refine Vapp.mk' (j := (membersN t (j + 1)).length) (zs := (membersN t (j + 1)).map I) (by simp [maxLen]; omega) (by simp; omega) (by rw [e]; simp) (by rw [e]; simp [fillR, cellsOf]) ?_
      refine Vint.i64 (m := ((j + 1 : Nat) : Int)) (by omega) (by omega) ?_
      exact ⟨j + 1, by omega, by omega, sub_of [(0, _)] rfl ⟨Cv.refl _, rfl, Cv.refl _, trivial⟩ ⟨cvChI rfl, trivial⟩⟩
    · simp only [beq_iff_eq, bne_iff_ne, beq_eq_false_iff_ne, bne_eq_false_iff_eq, decide_eq_true_eq, decide_eq_false_iff_not, Bool.not_eq_true', Bool.not_eq_false', ne_eq] at h2
      have e : membersN t (j + 1) = membersN t j := by rw [members_snoc, if_neg (by omega)]
      refine Vint.i64 (m := ((j + 1 : Nat) : Int)) (by omega) (by omega) ?_
      exact ⟨j + 1, by omega, by omega, sub_of [(0, 0)] rfl ⟨Cv.refl _, rfl, Cv.refl _, trivial⟩ ⟨cvChI e.symm, trivial⟩⟩
  · simp only [beq_iff_eq, bne_iff_ne, beq_eq_false_iff_ne, bne_eq_false_iff_eq, decide_eq_true_eq, decide_eq_false_iff_not, Bool.not_eq_true', Bool.not_eq_false', ne_eq] at h
    have : j = (t.length + 1) / 2 := by omega
    subst this
    exact Cv.refl _
theorem g_is17 (t : List Node) (i : Int) (h1 : t.length ≤ 1000000) : Gives Tryz.prog 68 [nods t, I i] (.r (.b (decide (i ∈ membersT t)))) := by
  refine gives_of_vcg (T := Tab) mixed Tab_ok Tryz.func68 rfl (by kernel_rfl) ?_
  refine Vcall.go (g_members17 t h1) ?_
  refine Vcall.go (g_has17 _ _ (by have := membersN_len t ((t.length + 1) / 2); unfold membersT; omega)) ?_
  exact Cv.refl _
theorem mem_members {t : List Node} {i : Int} (h : i ∈ membersT t) : ∃ o : Nat, i = (o : Int) ∧ o < (t.length + 1) / 2 ∧ (nT t (2 * o)).kind.toNat = 1 := by
  simp only [membersT, membersN, List.mem_map, List.mem_filter, List.mem_range, decide_eq_true_eq] at h
  obtain ⟨o, ⟨h2, h3⟩, rfl⟩ := h
  exact ⟨o, rfl, h2, h3⟩
end Go.Proofs.YtpdllgbfemnemaaGreat.Sx
end

section
namespace Go.Proofs.YtpdllgbfemnemaaGreat.Sx
open Go.RowKit
set_option linter.unusedVariables false

def okT (t : List Node) (j : Nat) : Prop := (nT t j).right = true ∧ ¬ (j % 2 = 0 ∧ (nT t j).kind.toNat = 2) ∧ ¬ (j % 2 = 1 ∧ (nT t j).kind.toNat = 1)
def someT (t : List Node) (n : Int) (j : Nat) : Bool := (List.range j).any fun i => decide ((nT t i).kind.toNat = 1 ∧ (n = 1 ∨ n ≤ (i : Int)))
theorem some_snoc (t : List Node) (n : Int) (j : Nat) : someT t n (j + 1) = (someT t n j || decide ((nT t j).kind.toNat = 1 ∧ (n = 1 ∨ n ≤ (j : Int)))) := by
  unfold someT
  rw [List.range_succ, List.any_append]
  simp
/-- What a late leaf at a node must be. -/
def overT (t : List Node) (j : Nat) (u : Int) (y : Nat) : Prop := ¬ ((nT t y).kind.toNat = 2 ∧ underI (2 * u) (y : Int) = true ∧ underI (y : Int) (j : Int) = true ∧ u ∉ (nT t y).par.late)
def lateT (t : List Node) (n : Int) (j : Nat) (u : Int) : Prop := u < n ∧ (nT t (2 * u).toNat).kind.toNat = 1 ∧ underI (2 * u) (j : Int) = true ∧ ∀ y, y < t.length → overT t j u y
structure RightT (t : List Node) : Prop where
  n : leavesT t ≠ 0
  ok : ∀ j, j < t.length → okT t j
  some : someT t (leavesT t) t.length = true
  late : ∀ j, j < t.length → ∀ u ∈ (nT t j).par.late, lateT t (leavesT t) j u
open Classical in
noncomputable def rightT (t : List Node) : Bool := decide (RightT t)
theorem rightT_iff {t : List Node} : rightT t = true ↔ RightT t := by simp [rightT]
theorem rightT_no {t : List Node} (h : ¬ RightT t) : rightT t = false := by simp [rightT, h]
theorem leaves_len {t : List Node} (h : leavesT t ≠ 0) : ((t.length : Nat) : Int) = 2 * leavesT t - 1 ∧ fitsI (leavesT t) = true ∧ 0 < t.length := by
  unfold leavesT at h ⊢
  split at h
  · rename_i h2
    obtain ⟨h3, h4⟩ := h2
    have := fits_bd h3
    rw [if_pos ⟨h3, h4⟩]
    exact ⟨by omega, h3, by omega⟩
  · exact absurd rfl h

set_option maxHeartbeats 1000000 in
theorem g_right17 (t : List Node) (h1 : t.length ≤ 1000000) (hfit : ∀ x ∈ t, x.fit) : Gives Tryz.prog 67 [nods t] (.r (.b (rightT t))) := by
  refine gives_of_vcg (T := Tab) mixed Tab_ok Tryz.func67 rfl (by kernel_rfl) ?_
  have no : ¬ RightT t → RV.b false = RV.b (rightT t) := fun h => by rw [rightT_no h]
  refine Vcall.go (g_leaves17 t h1) ?_
  refine Vcmp.split (fun h => Vif.t ?_) (fun h => Vif.f ?_)
  · simp only [beq_iff_eq, bne_iff_ne, beq_eq_false_iff_ne, bne_eq_false_iff_eq, decide_eq_true_eq, decide_eq_false_iff_not, Bool.not_eq_true', Bool.not_eq_false', ne_eq] at h
    exact Cv.of_eq (no fun r => r.n h)
  simp only [beq_iff_eq, bne_iff_ne, beq_eq_false_iff_ne, bne_eq_false_iff_eq, decide_eq_true_eq, decide_eq_false_iff_not, Bool.not_eq_true', Bool.not_eq_false', ne_eq] at h
  obtain ⟨hl, hf, hpos⟩ := leaves_len h
  have hb := fits_bd hf
  obtain ⟨n, hn⟩ : ∃ n, n = leavesT t := ⟨_, rfl⟩
  rw [← hn] at hl hf hb h ⊢
  refine Vloop.mk' (fun j : Nat => { F := [(0, .r (nods t)), (3, .r (I n)), (4, .r (.b (someT t n j))), (5, .r (I j))], O := [], nx := 0 }) (fun j => j ≤ t.length ∧ ∀ i, i < j → okT t i) (fun j => t.length - j) 0 ⟨by omega, by omega⟩ (sub_of [] rfl ⟨Cv.refl _, Cv.refl _, Cv.refl _, Cv.refl _, trivial⟩ trivial) ?_
  rintro j ⟨hj, hok⟩
  refine Vcmp.split (fun h2 => Vif.t ?_) (fun h2 => Vif.f ?_)
  · simp only [beq_iff_eq, bne_iff_ne, beq_eq_false_iff_ne, bne_eq_false_iff_eq, decide_eq_true_eq, decide_eq_false_iff_not, Bool.not_eq_true', Bool.not_eq_false', ne_eq] at h2
    have hj' : j < t.length := by omega
    have hmod : (j : Int).tmod 2 = ((j % 2 : Nat) : Int) := by rw [Int.tmod_eq_emod_of_nonneg (by omega)]; omega
    have bad : ¬ okT t j → RV.b false = RV.b (rightT t) := fun hh => no fun r => hh (r.ok j hj')
    have g16 := g_right16 (nT t j) (hfit _ (nT_mem hj'))
    refine Vidx.mk' (by omega) (by omega) (idx_nT rfl hj') (Vload1.mk' rfl ?_)
    refine Vidx.mk' (by omega) (by omega) (idx_nT rfl hj') ?_
    refine VloadN.mk' rfl rfl ?_
    refine Vcall.bool g16 (fun hr => Vcmp.f rfl ?_) (fun hr => Vcmp.t rfl (Vif.t ?_))
    rotate_left
    · exact Cv.of_eq (bad fun k => by rw [k.1] at hr; cases hr)
    refine ⟨by decide, _, rfl, ?_⟩
    have next : okT t j → ∀ i, i < j + 1 → okT t i := fun hk i hi => by
      rcases Nat.lt_or_ge i j with h3 | h3
      · exact hok i h3
      · have : i = j := by omega
        subst this; exact hk
    refine Vcmp.split (fun h3 => ?_) (fun h3 => ?_)
    · simp only [beq_iff_eq, bne_iff_ne, beq_eq_false_iff_ne, bne_eq_false_iff_eq, decide_eq_true_eq, decide_eq_false_iff_not, Bool.not_eq_true', Bool.not_eq_false', ne_eq] at h3
      rw [hmod] at h3
      refine Vcmp.split (fun h4 => Vif.t ?_) (fun h4 => ?_)
      · simp only [beq_iff_eq, bne_iff_ne, beq_eq_false_iff_ne, bne_eq_false_iff_eq, decide_eq_true_eq, decide_eq_false_iff_not, Bool.not_eq_true', Bool.not_eq_false', ne_eq] at h4
        exact Cv.of_eq (bad fun k => k.2.1 ⟨by omega, by omega⟩)
      simp only [beq_iff_eq, bne_iff_ne, beq_eq_false_iff_ne, bne_eq_false_iff_eq, decide_eq_true_eq, decide_eq_false_iff_not, Bool.not_eq_true', Bool.not_eq_false', ne_eq] at h4
      refine ⟨by decide, _, rfl, ?_⟩
      refine Vcmp.f (by simp only [beq_iff_eq, bne_iff_ne, beq_eq_false_iff_ne, bne_eq_false_iff_eq, decide_eq_true_eq, decide_eq_false_iff_not, Bool.not_eq_true', Bool.not_eq_false', ne_eq]; rw [hmod]; omega) (Vif.f ?_)
      have hk : okT t j := ⟨hr, by omega, by omega⟩
      cases hs : someT t n j with
      | true =>
        refine Vint.i64 (m := ((j + 1 : Nat) : Int)) (by omega) (by omega) ?_
        exact ⟨j + 1, ⟨hj', next hk⟩, by omega, sub_of [] rfl ⟨Cv.refl _, Cv.refl _, Cv.of_eq (congrArg RV.b (by rw [some_snoc, hs]; simp [])), Cv.refl _, trivial⟩ trivial⟩
      | false =>
        refine Vcmp.split (fun k1 => ?_) (fun k1 => ?_)
        · simp only [beq_iff_eq, bne_iff_ne, beq_eq_false_iff_ne, bne_eq_false_iff_eq, decide_eq_true_eq, decide_eq_false_iff_not, Bool.not_eq_true', Bool.not_eq_false', ne_eq] at k1
          have k1' : (nT t j).kind.toNat = 1 := by omega
          refine Vcmp.split (fun k2 => ?_) (fun k2 => ?_)
          · simp only [beq_iff_eq, bne_iff_ne, beq_eq_false_iff_ne, bne_eq_false_iff_eq, decide_eq_true_eq, decide_eq_false_iff_not, Bool.not_eq_true', Bool.not_eq_false', ne_eq] at k2
            refine Vint.i64 (m := ((j + 1 : Nat) : Int)) (by omega) (by omega) ?_
            exact ⟨j + 1, ⟨hj', next hk⟩, by omega, sub_of [] rfl ⟨Cv.refl _, Cv.refl _, Cv.of_eq (congrArg RV.b (by rw [some_snoc, hs]; simp [k1', k2])), Cv.refl _, trivial⟩ trivial⟩
          · simp only [beq_iff_eq, bne_iff_ne, beq_eq_false_iff_ne, bne_eq_false_iff_eq, decide_eq_true_eq, decide_eq_false_iff_not, Bool.not_eq_true', Bool.not_eq_false', ne_eq] at k2
            refine Vcmp.split (fun k3 => ?_) (fun k3 => ?_)
            · simp only [beq_iff_eq, bne_iff_ne, beq_eq_false_iff_ne, bne_eq_false_iff_eq, decide_eq_true_eq, decide_eq_false_iff_not, Bool.not_eq_true', Bool.not_eq_false', ne_eq] at k3
              have k3' : n ≤ (j : Int) := by omega
              refine Vint.i64 (m := ((j + 1 : Nat) : Int)) (by omega) (by omega) ?_
              exact ⟨j + 1, ⟨hj', next hk⟩, by omega, sub_of [] rfl ⟨Cv.refl _, Cv.refl _, Cv.of_eq (congrArg RV.b (by rw [some_snoc, hs]; simp [k1', k3'])), Cv.refl _, trivial⟩ trivial⟩
            · simp only [beq_iff_eq, bne_iff_ne, beq_eq_false_iff_ne, bne_eq_false_iff_eq, decide_eq_true_eq, decide_eq_false_iff_not, Bool.not_eq_true', Bool.not_eq_false', ne_eq] at k3
              have k3' : ¬ n ≤ (j : Int) := by omega
              refine Vint.i64 (m := ((j + 1 : Nat) : Int)) (by omega) (by omega) ?_
              exact ⟨j + 1, ⟨hj', next hk⟩, by omega, sub_of [] rfl ⟨Cv.refl _, Cv.refl _, Cv.of_eq (congrArg RV.b (by rw [some_snoc, hs]; simp [k2, k3'])), Cv.refl _, trivial⟩ trivial⟩
        · simp only [beq_iff_eq, bne_iff_ne, beq_eq_false_iff_ne, bne_eq_false_iff_eq, decide_eq_true_eq, decide_eq_false_iff_not, Bool.not_eq_true', Bool.not_eq_false', ne_eq] at k1
          have k1' : ¬ (nT t j).kind.toNat = 1 := by omega
          refine Vint.i64 (m := ((j + 1 : Nat) : Int)) (by omega) (by omega) ?_
          exact ⟨j + 1, ⟨hj', next hk⟩, by omega, sub_of [] rfl ⟨Cv.refl _, Cv.refl _, Cv.of_eq (congrArg RV.b (by rw [some_snoc, hs]; simp [k1'])), Cv.refl _, trivial⟩ trivial⟩
    · simp only [beq_iff_eq, bne_iff_ne, beq_eq_false_iff_ne, bne_eq_false_iff_eq, decide_eq_true_eq, decide_eq_false_iff_not, Bool.not_eq_true', Bool.not_eq_false', ne_eq] at h3
      rw [hmod] at h3
      refine ⟨by decide, _, rfl, ?_⟩
      refine Vcmp.t (by simp only [beq_iff_eq, bne_iff_ne, beq_eq_false_iff_ne, bne_eq_false_iff_eq, decide_eq_true_eq, decide_eq_false_iff_not, Bool.not_eq_true', Bool.not_eq_false', ne_eq]; rw [hmod]; omega) ?_
      refine Vcmp.split (fun h4 => Vif.t ?_) (fun h4 => Vif.f ?_)
      · simp only [beq_iff_eq, bne_iff_ne, beq_eq_false_iff_ne, bne_eq_false_iff_eq, decide_eq_true_eq, decide_eq_false_iff_not, Bool.not_eq_true', Bool.not_eq_false', ne_eq] at h4
        exact Cv.of_eq (bad fun k => k.2.2 ⟨by omega, by omega⟩)
      simp only [beq_iff_eq, bne_iff_ne, beq_eq_false_iff_ne, bne_eq_false_iff_eq, decide_eq_true_eq, decide_eq_false_iff_not, Bool.not_eq_true', Bool.not_eq_false', ne_eq] at h4
      have hk : okT t j := ⟨hr, by omega, by omega⟩
      cases hs : someT t n j with
      | true =>
        refine Vint.i64 (m := ((j + 1 : Nat) : Int)) (by omega) (by omega) ?_
        exact ⟨j + 1, ⟨hj', next hk⟩, by omega, sub_of [] rfl ⟨Cv.refl _, Cv.refl _, Cv.of_eq (congrArg RV.b (by rw [some_snoc, hs]; simp [])), Cv.refl _, trivial⟩ trivial⟩
      | false =>
        refine Vcmp.split (fun k1 => ?_) (fun k1 => ?_)
        · simp only [beq_iff_eq, bne_iff_ne, beq_eq_false_iff_ne, bne_eq_false_iff_eq, decide_eq_true_eq, decide_eq_false_iff_not, Bool.not_eq_true', Bool.not_eq_false', ne_eq] at k1
          have k1' : (nT t j).kind.toNat = 1 := by omega
          refine Vcmp.split (fun k2 => ?_) (fun k2 => ?_)
          · simp only [beq_iff_eq, bne_iff_ne, beq_eq_false_iff_ne, bne_eq_false_iff_eq, decide_eq_true_eq, decide_eq_false_iff_not, Bool.not_eq_true', Bool.not_eq_false', ne_eq] at k2
            refine Vint.i64 (m := ((j + 1 : Nat) : Int)) (by omega) (by omega) ?_
            exact ⟨j + 1, ⟨hj', next hk⟩, by omega, sub_of [] rfl ⟨Cv.refl _, Cv.refl _, Cv.of_eq (congrArg RV.b (by rw [some_snoc, hs]; simp [k1', k2])), Cv.refl _, trivial⟩ trivial⟩
          · simp only [beq_iff_eq, bne_iff_ne, beq_eq_false_iff_ne, bne_eq_false_iff_eq, decide_eq_true_eq, decide_eq_false_iff_not, Bool.not_eq_true', Bool.not_eq_false', ne_eq] at k2
            refine Vcmp.split (fun k3 => ?_) (fun k3 => ?_)
            · simp only [beq_iff_eq, bne_iff_ne, beq_eq_false_iff_ne, bne_eq_false_iff_eq, decide_eq_true_eq, decide_eq_false_iff_not, Bool.not_eq_true', Bool.not_eq_false', ne_eq] at k3
              have k3' : n ≤ (j : Int) := by omega
              refine Vint.i64 (m := ((j + 1 : Nat) : Int)) (by omega) (by omega) ?_
              exact ⟨j + 1, ⟨hj', next hk⟩, by omega, sub_of [] rfl ⟨Cv.refl _, Cv.refl _, Cv.of_eq (congrArg RV.b (by rw [some_snoc, hs]; simp [k1', k3'])), Cv.refl _, trivial⟩ trivial⟩
            · simp only [beq_iff_eq, bne_iff_ne, beq_eq_false_iff_ne, bne_eq_false_iff_eq, decide_eq_true_eq, decide_eq_false_iff_not, Bool.not_eq_true', Bool.not_eq_false', ne_eq] at k3
              have k3' : ¬ n ≤ (j : Int) := by omega
              refine Vint.i64 (m := ((j + 1 : Nat) : Int)) (by omega) (by omega) ?_
              exact ⟨j + 1, ⟨hj', next hk⟩, by omega, sub_of [] rfl ⟨Cv.refl _, Cv.refl _, Cv.of_eq (congrArg RV.b (by rw [some_snoc, hs]; simp [k2, k3'])), Cv.refl _, trivial⟩ trivial⟩
        · simp only [beq_iff_eq, bne_iff_ne, beq_eq_false_iff_ne, bne_eq_false_iff_eq, decide_eq_true_eq, decide_eq_false_iff_not, Bool.not_eq_true', Bool.not_eq_false', ne_eq] at k1
          have k1' : ¬ (nT t j).kind.toNat = 1 := by omega
          refine Vint.i64 (m := ((j + 1 : Nat) : Int)) (by omega) (by omega) ?_
          exact ⟨j + 1, ⟨hj', next hk⟩, by omega, sub_of [] rfl ⟨Cv.refl _, Cv.refl _, Cv.of_eq (congrArg RV.b (by rw [some_snoc, hs]; simp [k1'])), Cv.refl _, trivial⟩ trivial⟩
  simp only [beq_iff_eq, bne_iff_ne, beq_eq_false_iff_ne, bne_eq_false_iff_eq, decide_eq_true_eq, decide_eq_false_iff_not, Bool.not_eq_true', Bool.not_eq_false', ne_eq] at h2
  have hjl : j = t.length := by omega
  subst hjl
  cases hs : someT t n t.length with
  | false =>
    refine Vcmp.t rfl (Vif.t ?_)
    exact Cv.of_eq (no fun r => by have := r.some; rw [← hn, hs] at this; cases this)
  | true =>
  refine Vcmp.f rfl (Vif.f ?_)
  have hR : (∀ j, j < t.length → ∀ u ∈ (nT t j).par.late, lateT t n j u) ↔ RightT t := ⟨fun hh => ⟨by rw [← hn]; exact h, hok, by rw [← hn]; exact hs, by rw [← hn]; exact hh⟩, fun r => by rw [hn]; exact r.late⟩
  refine Vloop.mk' (fun j : Nat => { F := [(0, .r (nods t)), (3, .r (I n)), (7, .r (I j))], O := [], nx := 0 }) (fun j => j ≤ t.length ∧ ∀ i, i < j → ∀ u ∈ (nT t i).par.late, lateT t n i u) (fun j => t.length - j) 0 ⟨by omega, by omega⟩ (sub_of [] rfl ⟨Cv.refl _, Cv.refl _, Cv.refl _, trivial⟩ trivial) ?_
  rintro j ⟨hj, hlt⟩
  refine Vcmp.split (fun h2 => Vif.t ?_) (fun h2 => Vif.f ?_)
  rotate_left
  · simp only [beq_iff_eq, bne_iff_ne, beq_eq_false_iff_ne, bne_eq_false_iff_eq, decide_eq_true_eq, decide_eq_false_iff_not, Bool.not_eq_true', Bool.not_eq_false', ne_eq] at h2
    refine Cv.of_eq (congrArg RV.b (Eq.symm (rightT_iff.2 (hR.1 fun i hi => hlt i (by omega)))))
  simp only [beq_iff_eq, bne_iff_ne, beq_eq_false_iff_ne, bne_eq_false_iff_eq, decide_eq_true_eq, decide_eq_false_iff_not, Bool.not_eq_true', Bool.not_eq_false', ne_eq] at h2
  have hj' : j < t.length := by omega
  obtain ⟨L, hL⟩ : ∃ L, L = (nT t j).par.late := ⟨_, rfl⟩
  have hfl := (hfit _ (nT_mem hj')).2
  have hLl : L.length ≤ 100000000 := hL ▸ hfl.2.2.1
  have hLd : ∀ u ∈ L, lateD u := hL ▸ Node.right_late (hok j hj').1
  have badj : ∀ u ∈ L, ¬ lateT t n j u → RV.b false = RV.b (rightT t) := fun u hu hh => no fun r => hh (hR.2 r j hj' u (hL ▸ hu))
  refine Vidx.mk' (by omega) (by omega) (idx_nT rfl hj') (Vload1.mk' rfl ?_)
  refine Vloop.mk' (fun i : Nat => { F := [(0, .r (nods t)), (3, .r (I n)), (7, .r (I j)), (8, .r (is L)), (9, .r (I i))], O := [], nx := 0 }) (fun i => i ≤ L.length ∧ ∀ u ∈ L.take i, lateT t n j u) (fun i => L.length - i) 0 ⟨by omega, by simp⟩ (sub_of [] rfl ⟨Cv.refl _, Cv.refl _, Cv.refl _, Cv.of_eq (by rw [hL]), Cv.refl _, trivial⟩ trivial) ?_
  rintro i ⟨hi, hli⟩
  refine Vcmp.split (fun h3 => Vif.t ?_) (fun h3 => Vif.f ?_)
  rotate_left
  · simp only [beq_iff_eq, bne_iff_ne, beq_eq_false_iff_ne, bne_eq_false_iff_eq, decide_eq_true_eq, decide_eq_false_iff_not, Bool.not_eq_true', Bool.not_eq_false', ne_eq] at h3
    rw [List.take_of_length_le (by omega)] at hli
    refine Vint.i64 (m := ((j + 1 : Nat) : Int)) (by omega) (by omega) ?_
    refine ⟨j + 1, ⟨hj', fun k hk => ?_⟩, by omega, sub_of [] rfl ⟨Cv.refl _, Cv.refl _, Cv.refl _, trivial⟩ trivial⟩
    rcases Nat.lt_or_ge k j with h4 | h4
    · exact hlt k h4
    · have : k = j := by omega
      subst this
      rw [← hL]; exact hli
  simp only [beq_iff_eq, bne_iff_ne, beq_eq_false_iff_ne, bne_eq_false_iff_eq, decide_eq_true_eq, decide_eq_false_iff_not, Bool.not_eq_true', Bool.not_eq_false', ne_eq] at h3
  have hi' : i < L.length := by omega
  obtain ⟨u, hu⟩ : ∃ u, u = L[i] := ⟨_, rfl⟩
  have hum : u ∈ L := hu ▸ List.getElem_mem hi'
  have hud := hLd u hum
  unfold lateD at hud
  have bad := badj u hum
  refine Vidx.mk' (by omega) (by omega) (idx_map rfl hi') (Vload1.mk' rfl ?_)
  rw [← hu]
  refine Vcmp.split (fun h4 => Vif.t ?_) (fun h4 => ?_)
  · simp only [beq_iff_eq, bne_iff_ne, beq_eq_false_iff_ne, bne_eq_false_iff_eq, decide_eq_true_eq, decide_eq_false_iff_not, Bool.not_eq_true', Bool.not_eq_false', ne_eq] at h4
    exact Cv.of_eq (bad fun k => by have := k.1; omega)
  simp only [beq_iff_eq, bne_iff_ne, beq_eq_false_iff_ne, bne_eq_false_iff_eq, decide_eq_true_eq, decide_eq_false_iff_not, Bool.not_eq_true', Bool.not_eq_false', ne_eq] at h4
  refine Vidx.mk' (by omega) (by omega) (idx_map rfl hi') (Vload1.mk' rfl ?_)
  rw [← hu]
  refine Vint.i64 rfl (by omega) ?_
  refine Vidx.mk' (by omega) (by omega) (idx_nT (j := (2 * u).toNat) (by omega) (by omega)) (Vload1.mk' rfl ?_)
  refine Vcmp.split (fun h5 => Vif.t ?_) (fun h5 => ?_)
  · simp only [beq_iff_eq, bne_iff_ne, beq_eq_false_iff_ne, bne_eq_false_iff_eq, decide_eq_true_eq, decide_eq_false_iff_not, Bool.not_eq_true', Bool.not_eq_false', ne_eq] at h5
    exact Cv.of_eq (bad fun k => by have := k.2.1; omega)
  simp only [beq_iff_eq, bne_iff_ne, beq_eq_false_iff_ne, bne_eq_false_iff_eq, decide_eq_true_eq, decide_eq_false_iff_not, Bool.not_eq_true', Bool.not_eq_false', ne_eq] at h5
  refine Vidx.mk' (by omega) (by omega) (idx_map rfl hi') (Vload1.mk' rfl ?_)
  rw [← hu]
  refine Vint.i64 rfl (by omega) ?_
  refine Vcall.bool (g_under14 _ _) (fun h6 => Vcmp.f rfl (Vif.f ?_)) (fun h6 => Vcmp.t rfl (Vif.t ?_))
  rotate_left
  · exact Cv.of_eq (bad fun k => by have := k.2.2.1; rw [h6] at this; cases this)
  refine Vloop.mk' (fun y : Nat => { F := [(0, .r (nods t)), (3, .r (I n)), (7, .r (I j)), (8, .r (is L)), (9, .r (I i)), (10, .r (I y))], O := [], nx := 0 }) (fun y => y ≤ t.length ∧ ∀ z, z < y → overT t j u z) (fun y => t.length - y) 0 ⟨by omega, by omega⟩ (sub_of [] rfl ⟨Cv.refl _, Cv.refl _, Cv.refl _, Cv.refl _, Cv.refl _, Cv.refl _, trivial⟩ trivial) ?_
  rintro y ⟨hy, hov⟩
  refine Vcmp.split (fun h7 => Vif.t ?_) (fun h7 => Vif.f ?_)
  rotate_left
  · simp only [beq_iff_eq, bne_iff_ne, beq_eq_false_iff_ne, bne_eq_false_iff_eq, decide_eq_true_eq, decide_eq_false_iff_not, Bool.not_eq_true', Bool.not_eq_false', ne_eq] at h7
    refine Vint.i64 (m := ((i + 1 : Nat) : Int)) (by omega) (by omega) ?_
    exact ⟨i + 1, ⟨hi', take_all (p := fun u => lateT t n j u) hi' hli (hu ▸ ⟨by omega, by omega, h6, fun z hz => hov z (by omega)⟩)⟩, by omega, sub_of [] rfl ⟨Cv.refl _, Cv.refl _, Cv.refl _, Cv.refl _, Cv.refl _, trivial⟩ trivial⟩
  simp only [beq_iff_eq, bne_iff_ne, beq_eq_false_iff_ne, bne_eq_false_iff_eq, decide_eq_true_eq, decide_eq_false_iff_not, Bool.not_eq_true', Bool.not_eq_false', ne_eq] at h7
  have hy' : y < t.length := by omega
  have step : overT t j u y → ∀ z, z < y + 1 → overT t j u z := fun hh z hz => by
    rcases Nat.lt_or_ge z y with h8 | h8
    · exact hov z h8
    · have : z = y := by omega
      subst this; exact hh
  have hyl := (hfit _ (nT_mem hy')).2.2.2.1
  refine Vdraw.mk' (by kernel_rfl) ?_
  refine Vidx.mk' (by omega) (by omega) (idx_nT rfl hy') (Vload1.mk' rfl ?_)
  refine Vcmp.split (fun k1 => ?_) (fun k1 => Vif.f ?_)
  rotate_left
  · simp only [beq_iff_eq, bne_iff_ne, beq_eq_false_iff_ne, bne_eq_false_iff_eq, decide_eq_true_eq, decide_eq_false_iff_not, Bool.not_eq_true', Bool.not_eq_false', ne_eq] at k1
    refine Vint.i64 (m := ((y + 1 : Nat) : Int)) (by omega) (by omega) ?_
    exact ⟨y + 1, ⟨hy', step (fun k => absurd k.1 (by omega))⟩, by omega, sub_of [] rfl ⟨Cv.refl _, Cv.refl _, Cv.refl _, Cv.refl _, Cv.refl _, Cv.refl _, trivial⟩ trivial⟩
  simp only [beq_iff_eq, bne_iff_ne, beq_eq_false_iff_ne, bne_eq_false_iff_eq, decide_eq_true_eq, decide_eq_false_iff_not, Bool.not_eq_true', Bool.not_eq_false', ne_eq] at k1
  refine Vidx.mk' (by omega) (by omega) (idx_map rfl hi') (Vload1.mk' rfl ?_)
  rw [← hu]
  refine Vint.i64 rfl (by omega) ?_
  refine Vcall.bool (g_under14 _ _) (fun k2 => ?_) (fun k2 => Vif.f ?_)
  rotate_left
  · refine Vint.i64 (m := ((y + 1 : Nat) : Int)) (by omega) (by omega) ?_
    exact ⟨y + 1, ⟨hy', step (fun k => absurd k.2.1 (by rw [k2]; decide))⟩, by omega, sub_of [] rfl ⟨Cv.refl _, Cv.refl _, Cv.refl _, Cv.refl _, Cv.refl _, Cv.refl _, trivial⟩ trivial⟩
  refine Vcall.bool (g_under14 _ _) (fun k3 => ?_) (fun k3 => Vif.f ?_)
  rotate_left
  · refine Vint.i64 (m := ((y + 1 : Nat) : Int)) (by omega) (by omega) ?_
    exact ⟨y + 1, ⟨hy', step (fun k => absurd k.2.2.1 (by rw [k3]; decide))⟩, by omega, sub_of [] rfl ⟨Cv.refl _, Cv.refl _, Cv.refl _, Cv.refl _, Cv.refl _, Cv.refl _, trivial⟩ trivial⟩
  refine Vidx.mk' (by omega) (by omega) (idx_nT rfl hy') (Vload1.mk' rfl ?_)
  refine Vidx.mk' (by omega) (by omega) (idx_map rfl hi') (Vload1.mk' rfl ?_)
  rw [← hu]
  refine Vcall.bool (g_has17 _ _ (by omega)) (fun k4 => Vcmp.f rfl (Vif.f ?_)) (fun k4 => Vcmp.t rfl (Vif.t ?_))
  · simp only [beq_iff_eq, bne_iff_ne, beq_eq_false_iff_ne, bne_eq_false_iff_eq, decide_eq_true_eq, decide_eq_false_iff_not, Bool.not_eq_true', Bool.not_eq_false', ne_eq] at k4
    refine Vint.i64 (m := ((y + 1 : Nat) : Int)) (by omega) (by omega) ?_
    exact ⟨y + 1, ⟨hy', step (fun k => absurd k4 k.2.2.2)⟩, by omega, sub_of [] rfl ⟨Cv.refl _, Cv.refl _, Cv.refl _, Cv.refl _, Cv.refl _, Cv.refl _, trivial⟩ trivial⟩
  · simp only [beq_iff_eq, bne_iff_ne, beq_eq_false_iff_ne, bne_eq_false_iff_eq, decide_eq_true_eq, decide_eq_false_iff_not, Bool.not_eq_true', Bool.not_eq_false', ne_eq] at k4
    exact Cv.of_eq (bad fun k => k.2.2.2 y hy' ⟨by omega, k2, k3, k4⟩)

theorem g_member19 (t : List Node) (i : Int) (h1 : t.length ≤ 1000000) (hfit : ∀ x ∈ t, x.fit) : Gives Tryz.prog 30 [nods t, I i] (.r (I (if rightT t = false then 12 else if i ∈ membersT t then 0 else 7))) := by
  refine gives_of_vcg (T := Tab) mixed Tab_ok Tryz.func30 rfl (by kernel_rfl) ?_
  refine Vcall.bool (g_right17 t h1 hfit) (fun hr => Vcmp.f rfl (Vif.f ?_)) (fun hr => Vcmp.t rfl (Vif.t ?_))
  rotate_left
  · exact Cv.of_eq (by simp [hr, ofC])
  refine Vcall.bool (g_is17 t i h1) (fun hi => Vcmp.f rfl (Vif.f ?_)) (fun hi => Vcmp.t rfl (Vif.t ?_))
  · simp only [beq_iff_eq, bne_iff_ne, beq_eq_false_iff_ne, bne_eq_false_iff_eq, decide_eq_true_eq, decide_eq_false_iff_not, Bool.not_eq_true', Bool.not_eq_false', ne_eq] at hi
    exact Cv.of_eq (by simp [hr, hi, ofC])
  · simp only [beq_iff_eq, bne_iff_ne, beq_eq_false_iff_ne, bne_eq_false_iff_eq, decide_eq_true_eq, decide_eq_false_iff_not, Bool.not_eq_true', Bool.not_eq_false', ne_eq] at hi
    exact Cv.of_eq (by simp [hr, hi, ofC])
end Go.Proofs.YtpdllgbfemnemaaGreat.Sx
end

section
namespace Go.Proofs.YtpdllgbfemnemaaGreat.Sx
open Go.RowKit
set_option linter.unusedVariables false

def spotsN (t : List Node) (j : Nat) : List Spot := (List.range j).map fun i : Nat => ⟨(i : Int), nT t i⟩
theorem spots_snoc (t : List Node) (j : Nat) : spotsN t (j + 1) = spotsN t j ++ [⟨(j : Int), nT t j⟩] := by
  unfold spotsN
  rw [List.range_succ, List.map_append]
  rfl
theorem spots_len (t : List Node) (j : Nat) : (spotsN t j).length = j := by simp [spotsN]
theorem find_spots (t : List Node) : ∀ (j : Nat) (z : Int), findS (spotsN t j) z = if 0 ≤ z ∧ z < (j : Int) then some (nT t z.toNat) else none
  | 0, z => by
    have : ¬ (0 ≤ z ∧ z < ((0 : Nat) : Int)) := by omega
    rw [if_neg this]
    rfl
  | j + 1, z => by
    have ih := find_spots t j z
    rw [spots_snoc]
    simp only [findS, List.find?_append] at ih ⊢
    by_cases h : 0 ≤ z ∧ z < (j : Int)
    · rw [if_pos h] at ih
      rw [if_pos (by omega)]
      cases h2 : (spotsN t j).find? (fun s => decide (s.at_ = z)) with
      | none => rw [h2] at ih; cases ih
      | some s => rw [h2] at ih; simpa using ih
    · rw [if_neg h] at ih
      simp only [Option.map_eq_none_iff] at ih
      rw [ih]
      by_cases h3 : z = (j : Int)
      · subst h3
        rw [if_pos (by omega)]
        simp
      · rw [if_neg (by omega)]
        have : ¬ ((j : Int) = z) := by omega
        simp [this]
theorem g_spots (t : List Node) (h1 : t.length ≤ 1000000) : Gives Tryz.prog 70 [nods t] (.r (spots (spotsN t t.length))) := by
  refine gives_of_vcg (T := Tab) mixed Tab_ok Tryz.func70 rfl (by kernel_rfl) ?_
  refine Vloop.mk' (fun j : Nat => { F := [(0, .r (nods t)), (3, .own 0), (4, .r (I j))], O := [(0, some (spotCh (spotsN t j)))], nx := 1 }) (fun j => j ≤ t.length) (fun j => t.length - j) 0 (by omega)
    ((sub_adopt 3 77 11 rfl).trans (sub_of [(0, 0)] rfl ⟨Cv.refl _, rfl, Cv.refl _, trivial⟩ ⟨⟨rfl, rfl, rfl, rfl, Cvs.refl _⟩, trivial⟩)) ?_
  intro j hj
  have hsl := spots_len t j
  have hsn := spots_snoc t j
  refine Vcmp.split (fun h => Vif.t ?_) (fun h => Vif.f ?_)
  · simp only [beq_iff_eq, bne_iff_ne, beq_eq_false_iff_ne, bne_eq_false_iff_eq, decide_eq_true_eq, decide_eq_false_iff_not, Bool.not_eq_true', Bool.not_eq_false', ne_eq] at h
    have hj' : j < t.length := by omega
    refine Vidx.mk' (by omega) (by omega) (idx_nT rfl hj') ?_
    refine VloadN.mk' rfl rfl ?_
    refine Vpub.pub ?_
    refine Vapp.mk' (j := (spotsN t (j + 1)).length) (zs := (spotsN t (j + 1)).flatMap Spot.c) (by simp only [maxLen]; omega) (by simp; omega) (by rw [hsn, List.length_append]; rfl) (by rw [hsn, List.flatMap_append]; exact congrArg (List.flatMap Spot.c (spotsN t j) ++ ·) (by simp [fillR, cellsOf])) ?_
    refine Vint.i64 (m := ((j + 1 : Nat) : Int)) (by omega) (by omega) ?_
    exact ⟨j + 1, hj', by omega, sub_of [(0, _)] rfl ⟨Cv.refl _, rfl, Cv.refl _, trivial⟩ ⟨⟨rfl, rfl, rfl, rfl, Cvs.refl _⟩, trivial⟩⟩
  · simp only [beq_iff_eq, bne_iff_ne, beq_eq_false_iff_ne, bne_eq_false_iff_eq, decide_eq_true_eq, decide_eq_false_iff_not, Bool.not_eq_true', Bool.not_eq_false', ne_eq] at h
    have : j = t.length := by omega
    subst this
    exact Cv.refl _

def insD (x : Int) : List Int → List Int
  | [] => [x]
  | y :: l => if y < x then y :: insD x l else x :: y :: l
theorem insD_at {x : Int} : ∀ {l : List Int} {k : Nat}, k ≤ l.length → (∀ y ∈ l.take k, y < x) → (∀ h : k < l.length, x ≤ l[k]) → l.take k ++ [x] ++ l.drop k = insD x l
  | [], k, hk, _, _ => by
    have : k = 0 := by simpa using hk
    subst this; rfl
  | y :: l, 0, _, _, h2 => by
    have h3 := h2 (by simp)
    simp only [List.getElem_cons_zero] at h3
    simp only [List.take_zero, List.nil_append, List.drop_zero, insD]
    rw [if_neg (by omega)]
    rfl
  | y :: l, k + 1, hk, h1, h2 => by
    have h3 := h1 y (by simp)
    simp only [insD]
    rw [if_pos h3, ← insD_at (k := k) (by simpa using hk) (fun z hz => h1 z (by simp [hz])) (fun h => h2 (by simpa using h))]
    rfl
theorem insD_len {x : Int} : ∀ {l : List Int}, (insD x l).length = l.length + 1
  | [] => rfl
  | y :: l => by
    unfold insD
    split
    · rw [List.length_cons, insD_len]; rfl
    · rfl
theorem mem_insD {x z : Int} : ∀ {l : List Int}, z ∈ insD x l ↔ z = x ∨ z ∈ l
  | [] => by simp [insD]
  | y :: l => by
    unfold insD
    split
    · simp only [List.mem_cons, mem_insD]
      exact ⟨fun h => by rcases h with h | h | h <;> simp [h], fun h => by rcases h with h | h | h <;> simp [h]⟩
    · simp
theorem insD_pw {x : Int} : ∀ {l : List Int}, l.Pairwise (· < ·) → x ∉ l → (insD x l).Pairwise (· < ·)
  | [], _, _ => by simp [insD]
  | y :: l, h, hx => by
    rw [List.pairwise_cons] at h
    simp only [List.mem_cons, not_or] at hx
    unfold insD
    split
    · rename_i hlt
      rw [List.pairwise_cons]
      refine ⟨fun z hz => ?_, insD_pw h.2 hx.2⟩
      rcases mem_insD.1 hz with rfl | hz
      · exact hlt
      · exact h.1 z hz
    · rename_i hlt
      rw [List.pairwise_cons, List.pairwise_cons]
      refine ⟨fun z hz => ?_, h⟩
      rcases List.mem_cons.1 hz with rfl | hz
      · omega
      · have := h.1 z hz; omega
def riseD (l : List Int) : List Int := l.foldl (fun a x => insD x a) []
theorem riseD_step {l : List Int} {j : Nat} (hj : j < l.length) : riseD (l.take (j + 1)) = insD l[j] (riseD (l.take j)) := by
  unfold riseD
  exact foldl_snoc (f := fun a x => insD x a) hj
theorem riseD_len : ∀ {l a : List Int}, (l.foldl (fun a x => insD x a) a).length = a.length + l.length
  | [], a => rfl
  | x :: l, a => by rw [List.foldl_cons, riseD_len, insD_len, List.length_cons]; omega
theorem riseD_pw : ∀ {l a : List Int}, l.Nodup → a.Pairwise (· < ·) → (∀ x ∈ l, x ∉ a) → (l.foldl (fun a x => insD x a) a).Pairwise (· < ·) ∧ ∀ z, z ∈ l.foldl (fun a x => insD x a) a ↔ z ∈ a ∨ z ∈ l
  | [], a, _, h, _ => ⟨h, by simp⟩
  | x :: l, a, hn, h, hd => by
    rw [List.nodup_cons] at hn
    rw [List.foldl_cons]
    obtain ⟨r1, r2⟩ := riseD_pw (l := l) (a := insD x a) hn.2 (insD_pw h (hd x (by simp))) fun y hy hm => by
      rcases mem_insD.1 hm with rfl | hm
      · exact hn.1 hy
      · exact hd y (by simp [hy]) hm
    refine ⟨r1, fun z => ?_⟩
    rw [r2 z, mem_insD]
    simp only [List.mem_cons]
    exact ⟨fun h => by rcases h with (h | h) | h <;> simp [h], fun h => by rcases h with h | h | h <;> simp [h]⟩
theorem riseD_rise {l : List Int} (hn : l.Nodup) : riseD l = rise l := by
  obtain ⟨r1, r2⟩ := riseD_pw (a := []) hn (by simp) (by simp)
  exact rise_ext r1 (rise_pw l) fun z => by
    rw [mem_rise]
    have := r2 z
    simp only [List.not_mem_nil, false_or] at this
    exact this
theorem g_sorted19 (l : List Int) (hl : l.length ≤ 1000000000000) : Gives Tryz.prog 114 [is l] (.r (is (riseD l))) := by
  refine gives_of_vcg (T := Tab) mixed Tab_ok Tryz.func114 rfl (by kernel_rfl) ?_
  refine Vloop.mk' (fun i : Nat => { F := [(0, .r (is l)), (3, .r (is (riseD (l.take i)))), (4, .r (I i))], O := [], nx := 0 }) (fun i => i ≤ l.length) (fun i => l.length - i) 0 (by omega)
    (sub_of [] rfl ⟨Cv.refl _, Cv.nil 1, Cv.refl _, trivial⟩ trivial) ?_
  intro i hi
  refine Vcmp.split (fun h => Vif.t ?_) (fun h => Vif.f ?_)
  rotate_left
  · simp only [beq_iff_eq, bne_iff_ne, beq_eq_false_iff_ne, bne_eq_false_iff_eq, decide_eq_true_eq, decide_eq_false_iff_not, Bool.not_eq_true', Bool.not_eq_false', ne_eq] at h
    rw [List.take_of_length_le (by omega)]
    exact Cv.refl _
  simp only [beq_iff_eq, bne_iff_ne, beq_eq_false_iff_ne, bne_eq_false_iff_eq, decide_eq_true_eq, decide_eq_false_iff_not, Bool.not_eq_true', Bool.not_eq_false', ne_eq] at h
  have hi' : i < l.length := by omega
  have hst := riseD_step hi'
  obtain ⟨R, hR⟩ : ∃ R, R = riseD (l.take i) := ⟨_, rfl⟩
  have hRl : R.length = i := by rw [hR]; unfold riseD; rw [riseD_len, List.length_take]; simp; omega
  rw [← hR] at hst ⊢
  refine Vloop.mk' (fun k : Nat => { F := [(0, .r (is l)), (3, .r (is R)), (4, .r (I i)), (5, .own 0), (6, .r (I k))], O := [(0, some (.ch 3 1 (R.take k).length ((R.take k).map I) true))], nx := 1 }) (fun k => k ≤ R.length ∧ ∀ y ∈ R.take k, y < l[i]) (fun k => R.length - k) 0 ⟨by omega, by simp⟩
    ((sub_adopt 5 3 1 rfl).trans (sub_of [(0, 0)] rfl ⟨Cv.refl _, Cv.refl _, Cv.refl _, rfl, Cv.refl _, trivial⟩ ⟨⟨rfl, rfl, rfl, rfl, Cvs.refl _⟩, trivial⟩)) ?_
  rintro k ⟨hk, hlt⟩
  have hend : (∀ h : k < R.length, l[i] ≤ R[k]) → R.take k ++ [l[i]] ++ R.drop k = riseD (l.take (i + 1)) := fun hh => by rw [hst]; exact insD_at hk hlt hh
  have htl : (R.take k).length = k := by rw [List.length_take]; omega
  refine Vdraw.mk' (by kernel_rfl) ?_
  refine Vcmp.split (fun h2 => ?_) (fun h2 => Vif.f ?_)
  · simp only [beq_iff_eq, bne_iff_ne, beq_eq_false_iff_ne, bne_eq_false_iff_eq, decide_eq_true_eq, decide_eq_false_iff_not, Bool.not_eq_true', Bool.not_eq_false', ne_eq] at h2
    have hk' : k < R.length := by omega
    refine Vidx.mk' (by omega) (by omega) (idx_map rfl hk') (Vload1.mk' rfl ?_)
    refine Vidx.mk' (by omega) (by omega) (idx_map rfl hi') (Vload1.mk' rfl ?_)
    refine Vcmp.split (fun h3 => Vif.t ?_) (fun h3 => Vif.f ?_)
    · simp only [beq_iff_eq, bne_iff_ne, beq_eq_false_iff_ne, bne_eq_false_iff_eq, decide_eq_true_eq, decide_eq_false_iff_not, Bool.not_eq_true', Bool.not_eq_false', ne_eq] at h3
      refine Vidx.mk' (by omega) (by omega) (idx_map rfl hk') (Vload1.mk' rfl ?_)
      refine Vpub.pub ?_
      have e := take_snoc hk'
      refine Vapp.mk' (j := (R.take (k + 1)).length) (zs := (R.take (k + 1)).map I) (by simp [maxLen]; omega) (by simp; omega) (by rw [e, List.length_append]; rfl) (by rw [e, List.map_append]; rfl) ?_
      refine Vint.i64 (m := ((k + 1 : Nat) : Int)) (by omega) (by omega) ?_
      exact ⟨k + 1, ⟨hk', take_all (p := fun y => y < l[i]) hk' hlt (by omega)⟩, by omega, sub_of [(0, _)] rfl ⟨Cv.refl _, Cv.refl _, Cv.refl _, rfl, Cv.refl _, trivial⟩ ⟨cvChI rfl, trivial⟩⟩
    · simp only [beq_iff_eq, bne_iff_ne, beq_eq_false_iff_ne, bne_eq_false_iff_eq, decide_eq_true_eq, decide_eq_false_iff_not, Bool.not_eq_true', Bool.not_eq_false', ne_eq] at h3
      have he := hend fun hh => by omega
      refine Vidx.mk' (by omega) (by omega) (idx_map rfl hi') (Vload1.mk' rfl ?_)
      refine Vpub.pub ?_
      refine Vapp.mk' (j := (R.take k ++ [l[i]]).length) (zs := (R.take k ++ [l[i]]).map I) (by simp [maxLen]; omega) (by simp; omega) (by simp) (by simp [fillR, cellsOf]) ?_
      refine ⟨by omega, by omega, by omega, (R.drop k).length, (R.drop k).map I, ?_, ?_, ?_⟩
      · rw [List.length_drop]; omega
      · rw [Int.toNat_natCast, ← List.map_drop, List.take_of_length_le (by simp), Nat.mul_one]
      refine Vapp.mk' (j := (riseD (l.take (i + 1))).length) (zs := (riseD (l.take (i + 1))).map I) (by simp [maxLen]; omega) (by simp; omega) (by rw [← he]; simp; omega) (by rw [← he]; simp) ?_
      refine Vint.i64 (m := ((i + 1 : Nat) : Int)) (by omega) (by omega) ?_
      exact ⟨i + 1, hi', by omega, sub_of [] rfl ⟨Cv.refl _, Cv.refl _, Cv.refl _, trivial⟩ trivial⟩
  · simp only [beq_iff_eq, bne_iff_ne, beq_eq_false_iff_ne, bne_eq_false_iff_eq, decide_eq_true_eq, decide_eq_false_iff_not, Bool.not_eq_true', Bool.not_eq_false', ne_eq] at h2
    have he := hend fun hh => by omega
    refine Vidx.mk' (by omega) (by omega) (idx_map rfl hi') (Vload1.mk' rfl ?_)
    refine Vpub.pub ?_
    refine Vapp.mk' (j := (R.take k ++ [l[i]]).length) (zs := (R.take k ++ [l[i]]).map I) (by simp [maxLen]; omega) (by simp; omega) (by simp) (by simp [fillR, cellsOf]) ?_
    refine ⟨by omega, by omega, by omega, (R.drop k).length, (R.drop k).map I, ?_, ?_, ?_⟩
    · rw [List.length_drop]; omega
    · rw [Int.toNat_natCast, ← List.map_drop, List.take_of_length_le (by simp), Nat.mul_one]
    refine Vapp.mk' (j := (riseD (l.take (i + 1))).length) (zs := (riseD (l.take (i + 1))).map I) (by simp [maxLen]; omega) (by simp; omega) (by rw [← he]; simp; omega) (by rw [← he]; simp) ?_
    refine Vint.i64 (m := ((i + 1 : Nat) : Int)) (by omega) (by omega) ?_
    exact ⟨i + 1, hi', by omega, sub_of [] rfl ⟨Cv.refl _, Cv.refl _, Cv.refl _, trivial⟩ trivial⟩
end Go.Proofs.YtpdllgbfemnemaaGreat.Sx
end

section
namespace Go.Proofs.YtpdllgbfemnemaaGreat.Sx
open Go.RowKit
set_option linter.unusedVariables false

theorem g_has18 (x : Int) : Gives Tryz.prog 126 [is [], I x] (.r (.b false)) := by
  refine gives_of_vcg (T := Tab) mixed Tab_ok Tryz.func126 rfl (by kernel_rfl) ?_
  refine Vloop.mk' (fun j : Nat => { F := [(0, .r (is [])), (1, .r (I x)), (5, .r (I j))], O := [], nx := 0 }) (fun j => j ≤ 0) (fun j => 0 - j) 0 (by omega) (sub_of [] rfl ⟨Cv.refl _, Cv.refl _, Cv.refl _, trivial⟩ trivial) ?_
  intro j hj
  refine Vcmp.f (by simp only [beq_iff_eq, bne_iff_ne, beq_eq_false_iff_ne, bne_eq_false_iff_eq, decide_eq_true_eq, decide_eq_false_iff_not, Bool.not_eq_true', Bool.not_eq_false', ne_eq, List.length_nil]; omega) (Vif.f ?_)
  exact Cv.refl _

theorem g_jn18 (l m : List UInt8) (hl : l.length ≤ 100000000000) (hm : m.length ≤ 100000000000) : Gives Tryz.prog 127 [bs l, bs m] (.r (bs (l ++ m))) := by
  refine gives_of_vcg (T := Tab) mixed Tab_ok Tryz.func127 rfl (by kernel_rfl) ?_
  refine Vpub.pub ?_
  refine Vapp.mk' (j := l.length) (zs := l.map U8) (by simp [maxLen]; omega) (by simp; omega) (by simp) (by simp) ?_
  refine Vapp.mk' (j := (l ++ m).length) (zs := (l ++ m).map U8) (by simp [maxLen]; omega) (by simp; omega) (by simp) (by simp) ?_
  exact Cv.refl _

def hash18 (t : List Node) : Nat → Nat → List UInt8
  | 0, k => shaB ([1] ++ beB 4 k ++ nodeB (nT t (nd 0 k)))
  | h + 1, k => shaB ([2] ++ nodeB (nT t (nd (h + 1) k)) ++ (vecB (hash18 t h (2 * k)) ++ vecB (hash18 t h (2 * k + 1))))
theorem hash18_len (t : List Node) : ∀ h k, (hash18 t h k).length = 32
  | 0, k => shaB_len _
  | h + 1, k => shaB_len _
theorem g_text18_leaf (t : List Node) (hfit : ∀ x ∈ t, x.fit) (hr : ∀ x ∈ t, x.right = true) (k : Nat) (hk : k < 65536) (hx : nd 0 k < t.length) : Gives Tryz.prog 81 [nods t, I (nd 0 k), is []] (.r (bs ([1] ++ beB 4 k ++ nodeB (nT t (nd 0 k))))) := by
  refine gives_of_vcg (T := Tab) mixed Tab_ok Tryz.func81 rfl (by kernel_rfl) ?_
  have hm := nT_mem hx
  have hle := nodeB_le _ (hfit _ hm)
  have hq : (k : Int) = IntKind.i64.wrap ((nd 0 k : Int).tdiv 2) := by
    rw [nd_zero, Int.tdiv_eq_ediv_of_nonneg (by omega), show (((2 * k : Nat) : Int)) / 2 = k by omega]
    exact wrap_i64 (by omega)
  refine Vidx.mk' (by omega) (by omega) (idx_nT rfl hx) ?_
  refine VloadN.mk' rfl rfl ?_
  refine ⟨by decide, _, rfl, ?_⟩
  refine Vcmp.t (by rw [tmod_even]; rfl) (Vif.t ?_)
  refine ⟨by decide, (k : Int), hq, ?_⟩
  refine Vcall.go (g_has18 _) ?_
  refine Vif.f ?_
  refine Vdraw.mk' (by kernel_rfl) ?_
  refine Vpub.pub ?_
  refine ⟨by decide, (k : Int), hq, ?_⟩
  refine ⟨((k : Nat) : Int), by have := beB4_wrap (k : Int) (by omega); rw [this]; simp, ?_⟩
  refine Vcall.go (g_num01 4 k (by omega) (by omega)) ?_
  refine Vcall.go (g_jn18 [1] (beB 4 k) (by simp) (by simp [beB_len])) ?_
  refine VloadN.mk' rfl rfl ?_
  refine Vcall.go (g_bytes16 _ (hfit _ hm) (fun _ => Node.right_late (hr _ hm))) ?_
  refine Vcall.go (g_jn18 ([1] ++ beB 4 k) (nodeB (nT t (nd 0 k))) (by simp [beB_len]) (by omega)) ?_
  exact Cv.refl _
theorem g_text18_up (t : List Node) (hfit : ∀ x ∈ t, x.fit) (hr : ∀ x ∈ t, x.right = true) (h : Nat) (hh : h + 1 ≤ 16)
    (ih : ∀ k, k < 2 ^ (16 - h) → inR h k (nd h k) → ((k + 1) * 2 ^ (h + 1) ≤ t.length + 1) → Gives Tryz.prog 71 [nods t, I (nd h k), is []] (.r (bs (hash18 t h k))))
    (k : Nat) (hk : k < 2 ^ (16 - (h + 1))) (hx : (k + 1) * 2 ^ (h + 1 + 1) ≤ t.length + 1) : Gives Tryz.prog 81 [nods t, I (nd (h + 1) k), is []] (.r (bs ([2] ++ nodeB (nT t (nd (h + 1) k)) ++ (vecB (hash18 t h (2 * k)) ++ vecB (hash18 t h (2 * k + 1)))))) := by
  refine gives_of_vcg (T := Tab) mixed Tab_ok Tryz.func81 rfl (by kernel_rfl) ?_
  have hleft := left_nd (d := 16) (by omega) (show h + 1 ≤ 16 by omega) hk
  have hright := right_nd (d := 16) (by omega) (show h + 1 ≤ 16 by omega) hk
  have hk2 : 2 ^ (16 - h) = 2 * 2 ^ (16 - (h + 1)) := by rw [show 16 - h = (16 - (h + 1)) + 1 by omega, Nat.pow_succ]; omega
  have hin := inR_self (h + 1) k
  have e2 : (k + 1) * 2 ^ (h + 1 + 1) = k * 2 ^ (h + 1 + 1) + 2 ^ (h + 1 + 1) := by rw [Nat.add_mul, Nat.one_mul]
  have e3 : 2 ^ (h + 1 + 1) = 2 * 2 ^ (h + 1) := by rw [Nat.pow_succ 2 (h + 1)]; omega
  have e4 := mul_two k h
  have e5 := mul_two1 k h
  have e6 : (2 * k + 1) * 2 ^ (h + 1) = 2 * k * 2 ^ (h + 1) + 2 ^ (h + 1) := by rw [Nat.add_mul, Nat.one_mul]
  have e7 : (2 * k + 1 + 1) * 2 ^ (h + 1) = (2 * k + 1) * 2 ^ (h + 1) + 2 ^ (h + 1) := by rw [Nat.add_mul, Nat.one_mul]
  have hlt : nd (h + 1) k < t.length := by unfold inR at hin; omega
  have hm := nT_mem hlt
  obtain ⟨n, hn⟩ : ∃ n, n = nT t (nd (h + 1) k) := ⟨_, rfl⟩
  have hnf : n.fit := hn ▸ hfit _ hm
  have hnr : n.right = true := hn ▸ hr _ hm
  have hle := nodeB_le n hnf
  have hll := hnf.2.2.2.1
  have l1 := hash18_len t h (2 * k)
  have l2 := hash18_len t h (2 * k + 1)
  have v1 := vecB_le (hash18 t h (2 * k))
  have v2 := vecB_le (hash18 t h (2 * k + 1))
  refine Vidx.mk' (by omega) (by omega) (idx_nT rfl hlt) ?_
  rw [← hn]
  refine VloadN.mk' rfl rfl ?_
  refine ⟨by decide, _, rfl, ?_⟩
  refine Vcmp.f (by rw [tmod_odd]; rfl) (Vif.f ?_)
  refine Vloop.mk' (fun j : Nat => { F := [(0, .r (nods t)), (1, .r (I (nd (h + 1) k))), (2, .r (is [])), (7, .own 0), (8, .own 1), (9, .r (I j))], O := [(0, some (.box (n.c.map .r))), (1, some (.ch 3 1 (n.par.late.take j).length ((n.par.late.take j).map I) true))], nx := 2 })
    (fun j => j ≤ n.par.late.length) (fun j => n.par.late.length - j) 0 (by omega)
    ((sub_adopt 8 3 1 rfl).trans (sub_of [(0, 0), (1, 1)] rfl ⟨Cv.refl _, Cv.refl _, Cv.refl _, rfl, rfl, Cv.refl _, trivial⟩ ⟨cvCells_refl n.c, ⟨rfl, rfl, rfl, rfl, Cvs.refl _⟩, trivial⟩)) ?_
  intro j hj
  refine Vcmp.split (fun h1 => Vif.t ?_) (fun h1 => Vif.f ?_)
  · simp only [beq_iff_eq, bne_iff_ne, beq_eq_false_iff_ne, bne_eq_false_iff_eq, decide_eq_true_eq, decide_eq_false_iff_not, Bool.not_eq_true', Bool.not_eq_false', ne_eq] at h1
    have hj' : j < n.par.late.length := by omega
    have e := take_snoc hj'
    have htl : (n.par.late.take j).length = j := by rw [List.length_take]; omega
    refine Vidx.mk' (by omega) (by omega) (idx_map rfl hj') (Vload1.mk' rfl ?_)
    refine Vcall.go (g_has18 _) ?_
    refine Vcmp.t rfl (Vif.t ?_)
    refine Vidx.mk' (by omega) (by omega) (idx_map rfl hj') (Vload1.mk' rfl ?_)
    refine Vpub.pub ?_
    refine Vapp.mk' (j := (n.par.late.take (j + 1)).length) (zs := (n.par.late.take (j + 1)).map I) (by simp [maxLen]; omega) (by simp; omega) (by rw [e, List.length_append]; rfl) (by rw [e, List.map_append]; rfl) ?_
    refine Vint.i64 (m := ((j + 1 : Nat) : Int)) (by omega) (by omega) ?_
    exact ⟨j + 1, hj', by omega, sub_of [(0, 0), (1, _)] rfl ⟨Cv.refl _, Cv.refl _, Cv.refl _, rfl, rfl, Cv.refl _, trivial⟩ ⟨cvCells_refl n.c, cvChI rfl, trivial⟩⟩
  simp only [beq_iff_eq, bne_iff_ne, beq_eq_false_iff_ne, bne_eq_false_iff_eq, decide_eq_true_eq, decide_eq_false_iff_not, Bool.not_eq_true', Bool.not_eq_false', ne_eq] at h1
  rw [List.take_of_length_le (by omega)]
  refine Vcall.go (g_children14 _) ?_
  rw [hleft, hright]
  refine Vpub.pub ?_
  refine VloadN.mk' rfl rfl ?_
  refine Vcall.mk' (g_bytes16 n hnf (fun _ => Node.right_late hnr)) (Cvs.refl _) ?_
  refine Vcall.go (g_jn18 [2] (nodeB n) (by simp) (by omega)) ?_
  refine Vcall.go (ih (2 * k) (by omega) (inR_self _ _) (by omega)) ?_
  refine Vcall.go (g_vec01 _ (by omega)) ?_
  refine Vcall.go (ih (2 * k + 1) (by omega) (inR_self _ _) (by omega)) ?_
  refine Vcall.go (g_vec01 _ (by omega)) ?_
  refine Vcall.go (g_jn18 _ _ (by omega) (by omega)) ?_
  refine Vcall.go (g_jn18 ([2] ++ nodeB n) _ (by simp; omega) (by simp; omega)) ?_
  exact Cv.refl _
theorem g_hash18 (t : List Node) (hfit : ∀ x ∈ t, x.fit) (hr : ∀ x ∈ t, x.right = true) : ∀ (h k : Nat), h ≤ 16 → k < 2 ^ (16 - h) → (k + 1) * 2 ^ (h + 1) ≤ t.length + 1 → Gives Tryz.prog 71 [nods t, I (nd h k), is []] (.r (bs (hash18 t h k))) := by
  have key : ∀ (x : Int) (b : List UInt8), b.length ≤ 100000000000 → Gives Tryz.prog 81 [nods t, I x, is []] (.r (bs b)) → Gives Tryz.prog 71 [nods t, I x, is []] (.r (bs (shaB b))) := fun x b hb hg => by
    refine gives_of_vcg (T := Tab) mixed Tab_ok Tryz.func71 rfl (by kernel_rfl) ?_
    refine Vcall.go hg ?_
    refine Vcall.go (g_digest b hb) ?_
    exact Cv.refl _
  intro h
  induction h with
  | zero =>
    intro k _ hk hx
    have hin := inR_self 0 k
    have hlt : nd 0 k < t.length := by unfold inR at hin; rw [Nat.add_mul] at hx; omega
    have := nodeB_le _ (hfit _ (nT_mem hlt))
    exact key _ _ (by simp [beB_len]; omega) (g_text18_leaf t hfit hr k (by simpa using hk) hlt)
  | succ h ih =>
    intro k hh hk hx
    have hin := inR_self (h + 1) k
    have hlt : nd (h + 1) k < t.length := by unfold inR at hin; rw [Nat.add_mul] at hx; omega
    have := nodeB_le _ (hfit _ (nT_mem hlt))
    have l1 := hash18_len t h (2 * k)
    have l2 := hash18_len t h (2 * k + 1)
    have v1 := vecB_le (hash18 t h (2 * k))
    have v2 := vecB_le (hash18 t h (2 * k + 1))
    exact key _ _ (by simp; omega) (g_text18_up t hfit hr h hh (fun k hk _ hx => ih k (by omega) hk hx) k hk hx)
theorem g_tree18 (t : List Node) (hfit : ∀ x ∈ t, x.fit) (hr : ∀ x ∈ t, x.right = true) (d : Nat) (hd : d ≤ 16) (hl : t.length + 1 = 2 ^ (d + 1)) : Gives Tryz.prog 32 [nods t] (.r (bs (hash18 t d 0))) := by
  refine gives_of_vcg (T := Tab) mixed Tab_ok Tryz.func32 rfl (by kernel_rfl) ?_
  have hp := pow_le16 hd
  have h0 := pow_pos' d
  have e2 : 2 ^ (d + 1) = 2 * 2 ^ d := by rw [Nat.pow_succ]; omega
  have hroot := nd_root d
  refine Vint.i64 (m := ((t.length - 1 : Nat) : Int)) (by omega) (by omega) ?_
  refine ⟨by decide, (nd d 0 : Int), ?_, ?_⟩
  · rw [Int.tdiv_eq_ediv_of_nonneg (by omega), show (((t.length - 1 : Nat) : Int)) / 2 = (nd d 0 : Int) by omega]
    exact wrap_i64 (by omega)
  refine Vcall.mk' (g_hash18 t hfit hr d 0 hd (pow_pos' _) (by omega)) (Cvs.cons (Cv.refl _) (Cvs.cons (Cv.refl _) (Cvs.cons (Cv.nil 1) Cvs.nil))) ?_
  exact Cv.refl _
end Go.Proofs.YtpdllgbfemnemaaGreat.Sx
end

section
namespace Go.Proofs.YtpdllgbfemnemaaGreat.Sx
open Go.RowKit
set_option linter.unusedVariables false

def opensL (O : List Spot) (n own : Int) : List Int := 2 * own :: pathI (2 * own) n ++ (copathI (2 * own) n).flatMap fun c => (wholeI O n c).1
def opensB (O : List Spot) (n own : Int) : Bool := (2 * own :: pathI (2 * own) n).all (found O) && (copathI (2 * own) n).all fun c => (wholeI O n c).2
def shutsL (O : List Spot) (n own : Int) : List Int := (opensL O n own).foldl (kidsS (opensL O n own)) []
theorem all_snoc {α : Type} {p : α → Bool} {l : List α} {j : Nat} (hj : j < l.length) : (l.take (j + 1)).all p = ((l.take j).all p && p l[j]) := by
  rw [take_snoc hj, List.all_append]; simp
theorem opensL_node {O : List Spot} {n own : Int} (hf : fitsI n = true) (h0 : 0 ≤ own) (h1 : own < n) : ∀ x ∈ opensL O n own, nodeI x = true := fun x hx => by
  rcases List.mem_append.1 hx with h | h
  · exact ownL_node (s := ⟨n, own, [], []⟩) hf h0 h1 x h
  · obtain ⟨c, hc, hx⟩ := List.mem_flatMap.1 h
    exact wholeI_node O n c (copath_node hf h0 h1 c hc) x hx
theorem opensL_len {O : List Spot} (hOl : lateOk_ O) {n own : Int} (hf : fitsI n = true) (h0 : 0 ≤ own) (h1 : own < n) : (opensL O n own).length ≤ 46000000000 := by
  have hpl := pathI_len (2 * own) n
  have hcl := copathI_len (2 * own) n
  have := flat_len (f := fun c => (wholeI O n c).1) (b := 2700000000) (copathI (2 * own) n) fun c hc => wholeI_len _ hOl _ _ (copath_node hf h0 h1 c hc)
  simp only [opensL, List.length_append, List.length_cons]
  omega
set_option maxHeartbeats 1000000 in
theorem g_opens (O : List Spot) (n own : Int) (hO : O.length ≤ 1000000) (hOl : lateOk_ O) (hf : fitsI n = true) (h0 : 0 ≤ own) (h1 : own < n) :
    Gives Tryz.prog 69 [spots O, I n, I own, .b false] (.r (.tu [is (riseD (opensL O n own)), is (riseD (shutsL O n own)), .b (opensB O n own)])) := by
  refine gives_of_vcg (T := Tab) mixed Tab_ok Tryz.func69 rfl (by kernel_rfl) ?_
  have hn := fits_bd hf
  have hpl := pathI_len (2 * own) n
  have hcl := copathI_len (2 * own) n
  have hcn := copath_node hf h0 h1
  have hLn := opensL_node (O := O) hf h0 h1
  have hLl := opensL_len hOl hf h0 h1
  obtain ⟨P, hP⟩ : ∃ P, P = 2 * own :: pathI (2 * own) n := ⟨_, rfl⟩
  obtain ⟨C, hC⟩ : ∃ C, C = copathI (2 * own) n := ⟨_, rfl⟩
  have hPl : P.length ≤ 18 := by rw [hP, List.length_cons]; omega
  have hB : opensB O n own = (P.all (found O) && C.all fun c => (wholeI O n c).2) := by rw [hP, hC]; rfl
  have hOL : opensL O n own = P ++ C.flatMap fun c => (wholeI O n c).1 := by rw [hP, hC]; rfl
  refine Vint.i64 rfl (by omega) ?_
  refine Vpub.pub ?_
  refine Vint.i64 rfl (by omega) ?_
  refine Vcall.go (g_path14 _ _) ?_
  refine Vapp.mk' (j := P.length) (zs := P.map I) (by simp [maxLen]; omega) (by simp; omega) (by rw [hP]; simp; omega) (by rw [hP]; rfl) ?_
  refine Vint.i64 rfl (by omega) ?_
  refine Vcall.go (g_copath14 _ _) ?_
  rw [← hC] at hcl hcn ⊢
  have hCl : C.length ≤ 17 := by omega
  refine Vloop.mk' (fun i : Nat × Bool => { F := [(0, .r (spots O)), (1, .r (I n)), (2, .r (I own)), (3, .r (.b false)), (11, .own 0), (12, .r (is C)), (13, .r (.b i.2)), (14, .r (I i.1))], O := [(0, some (.ch 3 1 P.length (P.map I) true))], nx := 1 })
    (fun i => i.1 ≤ P.length ∧ i.2 = (P.take i.1).all (found O)) (fun i => P.length - i.1) (0, true) ⟨by simp, rfl⟩
    (sub_of [(0, _)] rfl ⟨Cv.refl _, Cv.refl _, Cv.refl _, Cv.refl _, rfl, Cv.refl _, Cv.refl _, Cv.refl _, trivial⟩ ⟨cvChI rfl, trivial⟩) ?_
  rintro ⟨j, β⟩ ⟨hj, hβ⟩
  simp only at hj hβ
  refine Vcmp.split (fun h2 => Vif.t ?_) (fun h2 => Vif.f ?_)
  · simp only [beq_iff_eq, bne_iff_ne, beq_eq_false_iff_ne, bne_eq_false_iff_eq, decide_eq_true_eq, decide_eq_false_iff_not, Bool.not_eq_true', Bool.not_eq_false', ne_eq] at h2
    have hj' : j < P.length := by omega
    have hsn := all_snoc (p := found O) hj'
    rw [← hβ] at hsn
    refine Vidx.mk' (by omega) (by omega) (idx_map rfl hj') (Vload1.mk' rfl ?_)
    have gf := g_find O P[j] (by omega)
    cases hfd : findS O P[j] with
    | none =>
      rw [hfd] at gf
      refine Vcall.go gf ?_
      have hfo : found O P[j] = false := by simp [found, hfd]
      rw [hfo] at hsn
      cases β with
      | true =>
        refine Vint.i64 (m := ((j + 1 : Nat) : Int)) (by omega) (by omega) ?_
        exact ⟨(j + 1, false), ⟨hj', by rw [hsn]; rfl⟩, by simp only; omega, sub_of [(0, _)] rfl ⟨Cv.refl _, Cv.refl _, Cv.refl _, Cv.refl _, rfl, Cv.refl _, Cv.refl _, Cv.refl _, trivial⟩ ⟨cvChI rfl, trivial⟩⟩
      | false =>
        refine Vint.i64 (m := ((j + 1 : Nat) : Int)) (by omega) (by omega) ?_
        exact ⟨(j + 1, false), ⟨hj', by rw [hsn]; rfl⟩, by simp only; omega, sub_of [(0, _)] rfl ⟨Cv.refl _, Cv.refl _, Cv.refl _, Cv.refl _, rfl, Cv.refl _, Cv.refl _, Cv.refl _, trivial⟩ ⟨cvChI rfl, trivial⟩⟩
    | some y =>
      rw [hfd] at gf
      refine Vcall.go gf ?_
      have hfo : found O P[j] = true := by simp [found, hfd]
      rw [hfo] at hsn
      cases β with
      | true =>
        refine Vint.i64 (m := ((j + 1 : Nat) : Int)) (by omega) (by omega) ?_
        exact ⟨(j + 1, true), ⟨hj', by rw [hsn]; rfl⟩, by simp only; omega, sub_of [(0, _)] rfl ⟨Cv.refl _, Cv.refl _, Cv.refl _, Cv.refl _, rfl, Cv.refl _, Cv.refl _, Cv.refl _, trivial⟩ ⟨cvChI rfl, trivial⟩⟩
      | false =>
        refine Vint.i64 (m := ((j + 1 : Nat) : Int)) (by omega) (by omega) ?_
        exact ⟨(j + 1, false), ⟨hj', by rw [hsn]; rfl⟩, by simp only; omega, sub_of [(0, _)] rfl ⟨Cv.refl _, Cv.refl _, Cv.refl _, Cv.refl _, rfl, Cv.refl _, Cv.refl _, Cv.refl _, trivial⟩ ⟨cvChI rfl, trivial⟩⟩
  simp only [beq_iff_eq, bne_iff_ne, beq_eq_false_iff_ne, bne_eq_false_iff_eq, decide_eq_true_eq, decide_eq_false_iff_not, Bool.not_eq_true', Bool.not_eq_false', ne_eq] at h2
  rw [List.take_of_length_le (by omega)] at hβ
  have hWl : ∀ c ∈ C, (wholeI O n c).1.length ≤ 2700000000 := fun c hc => wholeI_len _ hOl _ _ (hcn c hc)
  refine Vloop.mk' (fun i : Nat × Bool => { F := [(0, .r (spots O)), (1, .r (I n)), (2, .r (I own)), (3, .r (.b false)), (11, .own 0), (12, .r (is C)), (13, .r (.b i.2)), (17, .r (I i.1))], O := [(0, some (.ch 3 1 (P ++ (C.take i.1).flatMap fun c => (wholeI O n c).1).length ((P ++ (C.take i.1).flatMap fun c => (wholeI O n c).1).map I) true))], nx := 1 })
    (fun i => i.1 ≤ C.length ∧ i.2 = (β && (C.take i.1).all fun c => (wholeI O n c).2)) (fun i => C.length - i.1) (0, β) ⟨by simp, by simp⟩
    (sub_of [(0, 0)] rfl ⟨Cv.refl _, Cv.refl _, Cv.refl _, Cv.refl _, rfl, Cv.refl _, Cv.refl _, Cv.refl _, trivial⟩ ⟨cvChI (by simp), trivial⟩) ?_
  rintro ⟨i, γ⟩ ⟨hi, hγ⟩
  simp only at hi hγ
  have hfl4 := flat_len (f := fun c => (wholeI O n c).1) (b := 2700000000) (C.take i) fun c hc => hWl c (List.mem_of_mem_take hc)
  have htl4 : (C.take i).length ≤ 17 := by rw [List.length_take]; omega
  refine Vcmp.split (fun h5 => ?_) (fun h5 => Vif.f ?_)
  · simp only [beq_iff_eq, bne_iff_ne, beq_eq_false_iff_ne, bne_eq_false_iff_eq, decide_eq_true_eq, decide_eq_false_iff_not, Bool.not_eq_true', Bool.not_eq_false', ne_eq] at h5
    refine Vcmp.t rfl (Vif.t ?_)
    have hi' : i < C.length := by omega
    have hw := hWl _ (List.getElem_mem hi')
    have hsn := flat_snoc (f := fun c => (wholeI O n c).1) hi'
    have hsa := all_snoc (p := fun c => (wholeI O n c).2) hi'
    refine Vidx.mk' (by omega) (by omega) (idx_map rfl hi') (Vload1.mk' rfl ?_)
    refine Vcall.go (g_wholeI O hO hOl n _ (hcn _ (List.getElem_mem hi'))) ?_
    obtain ⟨W, hW⟩ : ∃ W, W = P ++ (C.take (i + 1)).flatMap fun c => (wholeI O n c).1 := ⟨_, rfl⟩
    have hWe : W = (P ++ (C.take i).flatMap fun c => (wholeI O n c).1) ++ (wholeI O n C[i]).1 := by rw [hW, hsn, List.append_assoc]
    refine Vapp.mk' (j := W.length) (zs := W.map I) (by simp only [maxLen, List.length_append]; omega) (by simp only [List.length_append]; omega) (by rw [hWe]; simp only [List.length_append]) (by rw [hWe]; simp only [List.map_append]) ?_
    cases hb : (wholeI O n C[i]).2 with
    | false =>
      simp only [hb] at hsa
      cases γ with
      | true =>
        refine Vint.i64 (m := ((i + 1 : Nat) : Int)) (by omega) (by omega) ?_
        exact ⟨(i + 1, false), ⟨hi', by rw [hsa]; simp⟩, by simp only; omega, sub_of [(0, _)] rfl ⟨Cv.refl _, Cv.refl _, Cv.refl _, Cv.refl _, rfl, Cv.refl _, Cv.of_eq (by first | rfl | simp), Cv.refl _, trivial⟩ ⟨cvChI hW, trivial⟩⟩
      | false =>
        refine Vint.i64 (m := ((i + 1 : Nat) : Int)) (by omega) (by omega) ?_
        exact ⟨(i + 1, false), ⟨hi', by rw [hsa]; simp⟩, by simp only; omega, sub_of [(0, _)] rfl ⟨Cv.refl _, Cv.refl _, Cv.refl _, Cv.refl _, rfl, Cv.refl _, Cv.of_eq (by first | rfl | simp), Cv.refl _, trivial⟩ ⟨cvChI hW, trivial⟩⟩
    | true =>
      simp only [hb, Bool.and_true] at hsa
      rw [← hsa] at hγ
      cases γ with
      | true =>
        refine Vint.i64 (m := ((i + 1 : Nat) : Int)) (by omega) (by omega) ?_
        exact ⟨(i + 1, true), ⟨hi', hγ⟩, by simp only; omega, sub_of [(0, _)] rfl ⟨Cv.refl _, Cv.refl _, Cv.refl _, Cv.refl _, rfl, Cv.refl _, Cv.of_eq (by first | rfl | simp), Cv.refl _, trivial⟩ ⟨cvChI hW, trivial⟩⟩
      | false =>
        refine Vint.i64 (m := ((i + 1 : Nat) : Int)) (by omega) (by omega) ?_
        exact ⟨(i + 1, false), ⟨hi', hγ⟩, by simp only; omega, sub_of [(0, _)] rfl ⟨Cv.refl _, Cv.refl _, Cv.refl _, Cv.refl _, rfl, Cv.refl _, Cv.of_eq (by first | rfl | simp), Cv.refl _, trivial⟩ ⟨cvChI hW, trivial⟩⟩
  simp only [beq_iff_eq, bne_iff_ne, beq_eq_false_iff_ne, bne_eq_false_iff_eq, decide_eq_true_eq, decide_eq_false_iff_not, Bool.not_eq_true', Bool.not_eq_false', ne_eq] at h5
  rw [List.take_of_length_le (by omega)] at hγ
  rw [List.take_of_length_le (by omega)]
  rw [hβ, ← hB] at hγ
  rw [← hOL]
  have hSe : shutsL O n own = (opensL O n own).foldl (kidsS (opensL O n own)) [] := rfl
  obtain ⟨L, hL⟩ : ∃ L, L = opensL O n own := ⟨_, rfl⟩
  rw [← hL] at hLn hLl hSe ⊢
  obtain ⟨SH, hSH⟩ : ∃ SH, SH = shutsL O n own := ⟨_, rfl⟩
  rw [← hSH] at hSe ⊢
  refine Vloop.mk' (fun i : Nat × List Int => { F := [(0, .r (spots O)), (1, .r (I n)), (2, .r (I own)), (3, .r (.b false)), (11, .r (is L)), (13, .r (.b γ)), (20, .own 0), (21, .r (I i.1))], O := [(0, some (.ch 3 1 i.2.length (i.2.map I) true))], nx := 1 })
    (fun i => i.1 ≤ L.length ∧ (L.take i.1).foldl (kidsS L) [] = i.2) (fun i => L.length - i.1) (0, []) ⟨by simp, rfl⟩
    ((sub_adopt 20 3 1 rfl).trans (sub_of [(0, 1)] rfl ⟨Cv.refl _, Cv.refl _, Cv.refl _, Cv.refl _, Cv.refl _, Cv.refl _, rfl, Cv.refl _, trivial⟩ ⟨⟨rfl, rfl, rfl, rfl, Cvs.refl _⟩, trivial⟩)) ?_
  rintro ⟨i5, acc⟩ ⟨hi5, hacc⟩
  simp only at hi5 hacc
  have hinv := kids_inv (all := L) (L.take i5) [] (by simp)
  rw [hacc] at hinv
  have htl : (L.take i5).length ≤ L.length := by rw [List.length_take]; omega
  have hal : acc.length ≤ 92000000000 := by have := hinv.2; simp at this; omega
  refine Vcmp.split (fun h6 => Vif.t ?_) (fun h6 => Vif.f ?_)
  · simp only [beq_iff_eq, bne_iff_ne, beq_eq_false_iff_ne, bne_eq_false_iff_eq, decide_eq_true_eq, decide_eq_false_iff_not, Bool.not_eq_true', Bool.not_eq_false', ne_eq] at h6
    have hi' : i5 < L.length := by omega
    have hsn := foldl_snoc (f := kidsS L) (b := []) hi'
    rw [hacc] at hsn
    obtain ⟨x, hx⟩ : ∃ x, x = L[i5] := ⟨_, rfl⟩
    rw [← hx] at hsn
    refine Vidx.mk' (by omega) (by omega) (idx_map rfl hi') (Vload1.mk' rfl ?_)
    rw [← hx]
    refine Vcall.go (g_children14 x) ?_
    obtain ⟨a, ha⟩ : ∃ a, a = leftI x := ⟨_, rfl⟩
    obtain ⟨b, hb⟩ : ∃ b, b = rightI x := ⟨_, rfl⟩
    have hsn2 : (L.take (i5 + 1)).foldl (kidsS L) [] = addK L (addK L acc a) b := by rw [hsn, ha, hb]; rfl
    rw [← ha, ← hb]
    refine Vcmp.split (fun h7 => ?_) (fun h7 => Vif.f ?_)
    · simp only [beq_iff_eq, bne_iff_ne, beq_eq_false_iff_ne, bne_eq_false_iff_eq, decide_eq_true_eq, decide_eq_false_iff_not, Bool.not_eq_true', Bool.not_eq_false', ne_eq] at h7
      refine Vcall.bool (g_has19 L a (by omega)) (fun h8 => Vcmp.f rfl (Vif.f ?_)) (fun h8 => Vcmp.t rfl (Vif.t ?_))
      · simp only [beq_iff_eq, bne_iff_ne, beq_eq_false_iff_ne, bne_eq_false_iff_eq, decide_eq_true_eq, decide_eq_false_iff_not, Bool.not_eq_true', Bool.not_eq_false', ne_eq] at h8
        have e1 : addK L acc a = acc := by unfold addK; rw [if_neg (fun h => h.2 h8)]
        rw [e1] at hsn2
        refine Vcmp.split (fun h9 => ?_) (fun h9 => Vif.f ?_)
        · simp only [beq_iff_eq, bne_iff_ne, beq_eq_false_iff_ne, bne_eq_false_iff_eq, decide_eq_true_eq, decide_eq_false_iff_not, Bool.not_eq_true', Bool.not_eq_false', ne_eq] at h9
          refine Vcall.bool (g_has19 L b (by omega)) (fun h10 => Vcmp.f rfl (Vif.f ?_)) (fun h10 => Vcmp.t rfl (Vif.t ?_))
          · simp only [beq_iff_eq, bne_iff_ne, beq_eq_false_iff_ne, bne_eq_false_iff_eq, decide_eq_true_eq, decide_eq_false_iff_not, Bool.not_eq_true', Bool.not_eq_false', ne_eq] at h10
            have e2 : addK L (acc) b = acc := by unfold addK; rw [if_neg (fun h => h.2 h10)]
            rw [e2] at hsn2
            refine Vint.i64 (m := ((i5 + 1 : Nat) : Int)) (by omega) (by omega) ?_
            exact ⟨(i5 + 1, acc), ⟨hi', hsn2⟩, by simp only; omega, sub_of [(0, _)] rfl ⟨Cv.refl _, Cv.refl _, Cv.refl _, Cv.refl _, Cv.refl _, Cv.refl _, rfl, Cv.refl _, trivial⟩ ⟨cvChI rfl, trivial⟩⟩
          · simp only [beq_iff_eq, bne_iff_ne, beq_eq_false_iff_ne, bne_eq_false_iff_eq, decide_eq_true_eq, decide_eq_false_iff_not, Bool.not_eq_true', Bool.not_eq_false', ne_eq] at h10
            have e2 : addK L (acc) b = acc ++ [b] := by unfold addK; rw [if_pos ⟨by omega, h10⟩]
            rw [e2] at hsn2
            refine Vpub.pub ?_
            refine Vapp.mk' (j := (acc ++ [b]).length) (zs := (acc ++ [b]).map I) (by simp only [maxLen, List.length_append, List.length_cons, List.length_nil]; omega) (by simp; omega) (by simp) (by simp [fillR, cellsOf]) ?_
            refine Vint.i64 (m := ((i5 + 1 : Nat) : Int)) (by omega) (by omega) ?_
            exact ⟨(i5 + 1, acc ++ [b]), ⟨hi', hsn2⟩, by simp only; omega, sub_of [(0, _)] rfl ⟨Cv.refl _, Cv.refl _, Cv.refl _, Cv.refl _, Cv.refl _, Cv.refl _, rfl, Cv.refl _, trivial⟩ ⟨cvChI rfl, trivial⟩⟩
        · simp only [beq_iff_eq, bne_iff_ne, beq_eq_false_iff_ne, bne_eq_false_iff_eq, decide_eq_true_eq, decide_eq_false_iff_not, Bool.not_eq_true', Bool.not_eq_false', ne_eq] at h9
          have e2 : addK L (acc) b = acc := by unfold addK; rw [if_neg (fun h => by omega)]
          rw [e2] at hsn2
          refine Vint.i64 (m := ((i5 + 1 : Nat) : Int)) (by omega) (by omega) ?_
          exact ⟨(i5 + 1, acc), ⟨hi', hsn2⟩, by simp only; omega, sub_of [(0, _)] rfl ⟨Cv.refl _, Cv.refl _, Cv.refl _, Cv.refl _, Cv.refl _, Cv.refl _, rfl, Cv.refl _, trivial⟩ ⟨cvChI rfl, trivial⟩⟩
      · simp only [beq_iff_eq, bne_iff_ne, beq_eq_false_iff_ne, bne_eq_false_iff_eq, decide_eq_true_eq, decide_eq_false_iff_not, Bool.not_eq_true', Bool.not_eq_false', ne_eq] at h8
        have e1 : addK L acc a = acc ++ [a] := by unfold addK; rw [if_pos ⟨by omega, h8⟩]
        rw [e1] at hsn2
        refine Vpub.pub ?_
        refine Vapp.mk' (j := (acc ++ [a]).length) (zs := (acc ++ [a]).map I) (by simp only [maxLen, List.length_append, List.length_cons, List.length_nil]; omega) (by simp; omega) (by simp) (by simp [fillR, cellsOf]) ?_
        refine Vcmp.split (fun h9 => ?_) (fun h9 => Vif.f ?_)
        · simp only [beq_iff_eq, bne_iff_ne, beq_eq_false_iff_ne, bne_eq_false_iff_eq, decide_eq_true_eq, decide_eq_false_iff_not, Bool.not_eq_true', Bool.not_eq_false', ne_eq] at h9
          refine Vcall.bool (g_has19 L b (by omega)) (fun h10 => Vcmp.f rfl (Vif.f ?_)) (fun h10 => Vcmp.t rfl (Vif.t ?_))
          · simp only [beq_iff_eq, bne_iff_ne, beq_eq_false_iff_ne, bne_eq_false_iff_eq, decide_eq_true_eq, decide_eq_false_iff_not, Bool.not_eq_true', Bool.not_eq_false', ne_eq] at h10
            have e2 : addK L (acc ++ [a]) b = acc ++ [a] := by unfold addK; rw [if_neg (fun h => h.2 h10)]
            rw [e2] at hsn2
            refine Vint.i64 (m := ((i5 + 1 : Nat) : Int)) (by omega) (by omega) ?_
            exact ⟨(i5 + 1, acc ++ [a]), ⟨hi', hsn2⟩, by simp only; omega, sub_of [(0, _)] rfl ⟨Cv.refl _, Cv.refl _, Cv.refl _, Cv.refl _, Cv.refl _, Cv.refl _, rfl, Cv.refl _, trivial⟩ ⟨cvChI rfl, trivial⟩⟩
          · simp only [beq_iff_eq, bne_iff_ne, beq_eq_false_iff_ne, bne_eq_false_iff_eq, decide_eq_true_eq, decide_eq_false_iff_not, Bool.not_eq_true', Bool.not_eq_false', ne_eq] at h10
            have e2 : addK L (acc ++ [a]) b = acc ++ [a] ++ [b] := by unfold addK; rw [if_pos ⟨by omega, h10⟩]
            rw [e2] at hsn2
            refine Vpub.pub ?_
            refine Vapp.mk' (j := (acc ++ [a] ++ [b]).length) (zs := (acc ++ [a] ++ [b]).map I) (by simp only [maxLen, List.length_append, List.length_cons, List.length_nil]; omega) (by simp; omega) (by simp) (by simp [fillR, cellsOf]) ?_
            refine Vint.i64 (m := ((i5 + 1 : Nat) : Int)) (by omega) (by omega) ?_
            exact ⟨(i5 + 1, acc ++ [a] ++ [b]), ⟨hi', hsn2⟩, by simp only; omega, sub_of [(0, _)] rfl ⟨Cv.refl _, Cv.refl _, Cv.refl _, Cv.refl _, Cv.refl _, Cv.refl _, rfl, Cv.refl _, trivial⟩ ⟨cvChI rfl, trivial⟩⟩
        · simp only [beq_iff_eq, bne_iff_ne, beq_eq_false_iff_ne, bne_eq_false_iff_eq, decide_eq_true_eq, decide_eq_false_iff_not, Bool.not_eq_true', Bool.not_eq_false', ne_eq] at h9
          have e2 : addK L (acc ++ [a]) b = acc ++ [a] := by unfold addK; rw [if_neg (fun h => by omega)]
          rw [e2] at hsn2
          refine Vint.i64 (m := ((i5 + 1 : Nat) : Int)) (by omega) (by omega) ?_
          exact ⟨(i5 + 1, acc ++ [a]), ⟨hi', hsn2⟩, by simp only; omega, sub_of [(0, _)] rfl ⟨Cv.refl _, Cv.refl _, Cv.refl _, Cv.refl _, Cv.refl _, Cv.refl _, rfl, Cv.refl _, trivial⟩ ⟨cvChI rfl, trivial⟩⟩
    · simp only [beq_iff_eq, bne_iff_ne, beq_eq_false_iff_ne, bne_eq_false_iff_eq, decide_eq_true_eq, decide_eq_false_iff_not, Bool.not_eq_true', Bool.not_eq_false', ne_eq] at h7
      have e1 : addK L acc a = acc := by unfold addK; rw [if_neg (fun h => by omega)]
      rw [e1] at hsn2
      refine Vcmp.split (fun h9 => ?_) (fun h9 => Vif.f ?_)
      · simp only [beq_iff_eq, bne_iff_ne, beq_eq_false_iff_ne, bne_eq_false_iff_eq, decide_eq_true_eq, decide_eq_false_iff_not, Bool.not_eq_true', Bool.not_eq_false', ne_eq] at h9
        refine Vcall.bool (g_has19 L b (by omega)) (fun h10 => Vcmp.f rfl (Vif.f ?_)) (fun h10 => Vcmp.t rfl (Vif.t ?_))
        · simp only [beq_iff_eq, bne_iff_ne, beq_eq_false_iff_ne, bne_eq_false_iff_eq, decide_eq_true_eq, decide_eq_false_iff_not, Bool.not_eq_true', Bool.not_eq_false', ne_eq] at h10
          have e2 : addK L (acc) b = acc := by unfold addK; rw [if_neg (fun h => h.2 h10)]
          rw [e2] at hsn2
          refine Vint.i64 (m := ((i5 + 1 : Nat) : Int)) (by omega) (by omega) ?_
          exact ⟨(i5 + 1, acc), ⟨hi', hsn2⟩, by simp only; omega, sub_of [(0, _)] rfl ⟨Cv.refl _, Cv.refl _, Cv.refl _, Cv.refl _, Cv.refl _, Cv.refl _, rfl, Cv.refl _, trivial⟩ ⟨cvChI rfl, trivial⟩⟩
        · simp only [beq_iff_eq, bne_iff_ne, beq_eq_false_iff_ne, bne_eq_false_iff_eq, decide_eq_true_eq, decide_eq_false_iff_not, Bool.not_eq_true', Bool.not_eq_false', ne_eq] at h10
          have e2 : addK L (acc) b = acc ++ [b] := by unfold addK; rw [if_pos ⟨by omega, h10⟩]
          rw [e2] at hsn2
          refine Vpub.pub ?_
          refine Vapp.mk' (j := (acc ++ [b]).length) (zs := (acc ++ [b]).map I) (by simp only [maxLen, List.length_append, List.length_cons, List.length_nil]; omega) (by simp; omega) (by simp) (by simp [fillR, cellsOf]) ?_
          refine Vint.i64 (m := ((i5 + 1 : Nat) : Int)) (by omega) (by omega) ?_
          exact ⟨(i5 + 1, acc ++ [b]), ⟨hi', hsn2⟩, by simp only; omega, sub_of [(0, _)] rfl ⟨Cv.refl _, Cv.refl _, Cv.refl _, Cv.refl _, Cv.refl _, Cv.refl _, rfl, Cv.refl _, trivial⟩ ⟨cvChI rfl, trivial⟩⟩
      · simp only [beq_iff_eq, bne_iff_ne, beq_eq_false_iff_ne, bne_eq_false_iff_eq, decide_eq_true_eq, decide_eq_false_iff_not, Bool.not_eq_true', Bool.not_eq_false', ne_eq] at h9
        have e2 : addK L (acc) b = acc := by unfold addK; rw [if_neg (fun h => by omega)]
        rw [e2] at hsn2
        refine Vint.i64 (m := ((i5 + 1 : Nat) : Int)) (by omega) (by omega) ?_
        exact ⟨(i5 + 1, acc), ⟨hi', hsn2⟩, by simp only; omega, sub_of [(0, _)] rfl ⟨Cv.refl _, Cv.refl _, Cv.refl _, Cv.refl _, Cv.refl _, Cv.refl _, rfl, Cv.refl _, trivial⟩ ⟨cvChI rfl, trivial⟩⟩
  simp only [beq_iff_eq, bne_iff_ne, beq_eq_false_iff_ne, bne_eq_false_iff_eq, decide_eq_true_eq, decide_eq_false_iff_not, Bool.not_eq_true', Bool.not_eq_false', ne_eq] at h6
  rw [List.take_of_length_le (by omega)] at hacc
  have hse : acc = SH := by rw [hSe, ← hacc]
  subst hse
  refine Vcall.go (g_sorted19 L (by omega)) ?_
  refine Vcall.go (g_sorted19 acc (by omega)) ?_
  rw [← hγ]
  exact ⟨_, rfl, Cv.refl _⟩
end Go.Proofs.YtpdllgbfemnemaaGreat.Sx
end
