import Derived.Test.YtpdllgbfemnemaaGreatZKr
namespace Go.Proofs.YtpdllgbfemnemaaGreat.Sx
open Go.RowKit

def wholeI (O : List Spot) (n c : Int) : List Int × Bool := wholeW O n (lv c.toNat) (c.toNat / 2 ^ (lv c.toNat + 1))
def addK (all acc : List Int) (c : Int) : List Int := if 0 ≤ c ∧ c ∉ all then acc ++ [c] else acc
def kidsS (all : List Int) (acc : List Int) (x : Int) : List Int := addK all (addK all acc (leftI x)) (rightI x)
def ownL (s : Lean_) : List Int := 2 * s.own :: pathI (2 * s.own) s.leaves
def allL (s : Lean_) : List Int := ownL s ++ (openedF s true).flatMap fun c => (wholeI s.opn s.leaves c).1
def shutL (s : Lean_) : List Int := (allL s).foldl (kidsS (allL s)) []
theorem g_wholeI (O : List Spot) (hO : O.length ≤ 1000000) (hOl : lateOk_ O) (n x : Int) (hx : nodeI x = true) : Gives Tryz.prog 48 [spots O, I x, I n] (.r (.tu [is (wholeI O n x).1, .b (wholeI O n x).2])) := by
  obtain ⟨h, k, hh, hk, e, e1, e2⟩ := node_nd hx
  unfold wholeI
  rw [e1] at e2 ⊢
  rw [e2]
  have := g_whole O hO hOl n h k hh hk
  rw [← e] at this
  exact this
theorem wholeI_len (O : List Spot) (hOl : lateOk_ O) (n x : Int) (hx : nodeI x = true) : (wholeI O n x).1.length ≤ 2700000000 := by
  obtain ⟨h, k, hh, hk, e, e1, e2⟩ := node_nd hx
  unfold wholeI
  have := wholeW_len O hOl n (lv x.toNat) (x.toNat / 2 ^ (lv x.toNat + 1))
  have := pow17 (h := lv x.toNat) (by omega)
  omega
theorem wstep_node {O : List Spot} {x : Int} : ∀ (l : List Int) (a : List Int × Bool), (∀ z ∈ a.1, nodeI z = true) → ∀ z ∈ (l.foldl (wstep O x) a).1, nodeI z = true := by
  intro l
  induction l with
  | nil => intro a h; exact h
  | cons y l ih =>
    intro a h
    refine ih _ ?_
    unfold wstep
    split
    · rename_i hc
      intro z hz
      rcases List.mem_append.1 hz with hz | hz
      · exact h z hz
      · simp at hz; subst hz
        have := hc.2.1
        rw [underI_iff] at this
        exact this.1.1
    · exact h
theorem wfold_node {O : List Spot} {x n : Int} : ∀ (late : List Int) (a : List Int × Bool), (∀ z ∈ a.1, nodeI z = true) → ∀ z ∈ (wfold O x n late a).1, nodeI z = true := by
  intro late
  induction late with
  | nil => intro a h; exact h
  | cons u late ih =>
    intro a h
    exact ih _ (wstep_node _ _ h)
theorem wholeW_node (O : List Spot) (n : Int) : ∀ (h k : Nat), h ≤ 16 → k < 2 ^ (16 - h) → ∀ z ∈ (wholeW O n h k).1, nodeI z = true
  | 0, k, hh, hk => by
    unfold wholeW
    split
    · simp
    · exact wfold_node _ _ (by intro z hz; simp at hz; subst hz; exact nd_nodeI (d := 16) (by omega) hh hk)
  | h + 1, k, hh, hk => by
    have hk2 : 2 ^ (16 - h) = 2 * 2 ^ (16 - (h + 1)) := by rw [show 16 - h = (16 - (h + 1)) + 1 by omega, Nat.pow_succ]; omega
    have i1 := wholeW_node O n h (2 * k) (by omega) (by omega)
    have i2 := wholeW_node O n h (2 * k + 1) (by omega) (by omega)
    have i0 := nd_nodeI (d := 16) (by omega) hh hk
    unfold wholeW
    split
    · simp
    · split
      · intro z hz
        simp only [List.mem_append, List.mem_cons, List.not_mem_nil, or_false] at hz
        rcases hz with (rfl | hz) | hz
        · exact i0
        · exact i1 z hz
        · exact i2 z hz
      · exact wfold_node _ _ (by intro z hz; simp at hz; subst hz; exact i0)
theorem wholeI_node (O : List Spot) (n x : Int) (hx : nodeI x = true) : ∀ z ∈ (wholeI O n x).1, nodeI z = true := by
  obtain ⟨h, k, hh, hk, e, e1, e2⟩ := node_nd hx
  unfold wholeI
  rw [e1] at e2 ⊢
  rw [e2]
  exact wholeW_node O n h k hh hk
theorem ownL_node {s : Lean_} (hf : fitsI s.leaves = true) (h0 : 0 ≤ s.own) (h1 : s.own < s.leaves) : ∀ x ∈ ownL s, nodeI x = true := by
  have hb := fits_bd hf
  intro x hx
  rcases List.mem_cons.1 hx with rfl | hx
  · rw [nodeI_iff]; omega
  · have := pathI_wf hx
    rw [nodeI_iff]; omega
theorem addK_len (all acc : List Int) (c : Int) : (addK all acc c).length ≤ acc.length + 1 := by unfold addK; split <;> simp
theorem addK_nn {all acc : List Int} {c : Int} (h : ∀ x ∈ acc, 0 ≤ x) : ∀ x ∈ addK all acc c, 0 ≤ x := by
  unfold addK
  split
  · rename_i hc
    intro x hx
    rcases List.mem_append.1 hx with hx | hx
    · exact h x hx
    · simp at hx; subst hx; exact hc.1
  · exact h
theorem kids_inv {all : List Int} : ∀ (l acc : List Int), (∀ x ∈ acc, 0 ≤ x) → (∀ x ∈ l.foldl (kidsS all) acc, 0 ≤ x) ∧ (l.foldl (kidsS all) acc).length ≤ acc.length + 2 * l.length := by
  intro l
  induction l with
  | nil => intro acc h; exact ⟨h, by simp⟩
  | cons y l ih =>
    intro acc h
    have h1 := ih (kidsS all acc y) (addK_nn (addK_nn h))
    have h2 := addK_len all (addK all acc (leftI y)) (rightI y)
    have h3 := addK_len all acc (leftI y)
    refine ⟨h1.1, ?_⟩
    have := h1.2
    simp only [List.foldl_cons, List.length_cons, kidsS] at *
    omega
theorem flat_len {f : Int → List Int} {b : Nat} : ∀ (l : List Int), (∀ x ∈ l, (f x).length ≤ b) → (l.flatMap f).length ≤ b * l.length
  | [], _ => by simp
  | x :: l, h => by
    have h1 := h x (by simp)
    have h2 := flat_len l fun y hy => h y (by simp [hy])
    simp only [List.flatMap_cons, List.length_append, List.length_cons, Nat.mul_add]
    omega
theorem flat_snoc {f : Int → List Int} {l : List Int} {j : Nat} (hj : j < l.length) : (l.take (j + 1)).flatMap f = (l.take j).flatMap f ++ f l[j] := by
  rw [List.take_add_one, List.getElem?_eq_getElem hj, List.flatMap_append]; simp
end Go.Proofs.YtpdllgbfemnemaaGreat.Sx
