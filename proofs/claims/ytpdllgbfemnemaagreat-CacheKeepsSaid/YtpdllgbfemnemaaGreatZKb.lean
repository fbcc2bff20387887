import Derived.Test.YtpdllgbfemnemaaGreatZSxW
import Derived.Test.YtpdllgbfemnemaaGreatZWireC
import Derived.Test.YtpdllgbfemnemaaGreatZWalkR14C
import Derived.Test.YtpdllgbfemnemaaGreatZShaC
section
namespace Go.Proofs.YtpdllgbfemnemaaGreat.Sx
open Go.RowKit
theorem g_fits (n : Int) : Gives Tryz.prog 54 [I n] (.r (.b (fitsI n))) :=
  gives_eq (us := [.int .i64 n]) (u := .bool (fitsI n)) (known_of Tryz.func54 rfl (by kernel_rfl)) (fun _ _ _ h => ints1 h) (fun _ _ => by simp [RV.at_]) fun w => fits_any n w
theorem g_level (x : Int) : Gives Tryz.prog 137 [I x] (.r (I (lvI x))) :=
  gives_eq (us := [.int .i64 x]) (u := .int .i64 (lvI x)) (known_of Tryz.func137 rfl (by kernel_rfl)) (fun _ _ _ h => ints1 h) (fun _ _ => by simp [RV.at_]) fun w => level_any x w
theorem g_left (x : Int) : Gives Tryz.prog 90 [I x] (.r (I (leftI x))) :=
  gives_eq (us := [.int .i64 x]) (u := .int .i64 (leftI x)) (known_of Tryz.func90 rfl (by kernel_rfl)) (fun _ _ _ h => ints1 h) (fun _ _ => by simp [RV.at_]) fun w => left_any x w
theorem g_right (x : Int) : Gives Tryz.prog 91 [I x] (.r (I (rightI x))) :=
  gives_eq (us := [.int .i64 x]) (u := .int .i64 (rightI x)) (known_of Tryz.func91 rfl (by kernel_rfl)) (fun _ _ _ h => ints1 h) (fun _ _ => by simp [RV.at_]) fun w => right_any x w
theorem g_root (n : Int) : Gives Tryz.prog 53 [I n] (.r (I (rootI n))) :=
  gives_eq (us := [.int .i64 n]) (u := .int .i64 (rootI n)) (known_of Tryz.func53 rfl (by kernel_rfl)) (fun _ _ _ h => ints1 h) (fun _ _ => by simp [RV.at_]) fun w => root_any n w
theorem g_under (x y : Int) : Gives Tryz.prog 98 [I x, I y] (.r (.b (underI x y))) :=
  gives_eq (us := [.int .i64 x, .int .i64 y]) (u := .bool (underI x y)) (known_of Tryz.func98 rfl (by kernel_rfl)) (fun _ _ _ h => ints2 h) (fun _ _ => by simp [RV.at_]) fun w => under_any x y w
theorem g_sibling (x n : Int) : Gives Tryz.prog 99 [I x, I n] (.r (I (sibI x n))) :=
  gives_ret (us := [.int .i64 x, .int .i64 n]) (u := .int .i64 (sibI x n)) (known_of Tryz.func99 rfl (by kernel_rfl)) (fun _ _ _ h => ints2 h) (fun _ _ => by simp [RV.at_]) fun w => (sibling_any x n w).mono fun _ _ ⟨he, hx⟩ => ⟨_, he, hx, rfl⟩
theorem g_under14 (x y : Int) : Gives Tryz.prog 45 [I x, I y] (.r (.b (underI x y))) :=
  gives_ret (us := [.int .i64 x, .int .i64 y]) (u := .bool (underI x y)) (known_of Tryz.func45 rfl (by kernel_rfl)) (fun _ _ _ h => ints2 h) (fun _ _ => by simp [RV.at_]) fun w => r14under_any x y w
theorem g_children14 (x : Int) : Gives Tryz.prog 49 [I x] (.r (.tu [I (leftI x), I (rightI x)])) :=
  gives_ret (us := [.int .i64 x]) (u := .tuple #[.int .i64 (leftI x), .int .i64 (rightI x)]) (known_of Tryz.func49 rfl (by kernel_rfl)) (fun _ _ _ h => ints1 h) (fun _ _ => by simp [RV.at_, RV.partsAt]) fun w => children_any x w
theorem g_path (x n : Int) : Gives Tryz.prog 55 [I x, I n] (ich (pathI x n)) :=
  gives_old (known_of Tryz.func55 rfl (by kernel_rfl)) fun w k vs hp => by
    rw [ints2 hp]
    exact (path_any x n w).mono fun _ _ ⟨v, he, hx, _, hv⟩ => ⟨v, he, hx, is_out hv⟩
theorem g_copath (x n : Int) : Gives Tryz.prog 57 [I x, I n] (ich (copathI x n)) :=
  gives_old (known_of Tryz.func57 rfl (by kernel_rfl)) fun w k vs hp => by
    rw [ints2 hp]
    exact (copath_any x n w).mono fun _ _ ⟨v, he, hx, _, hv⟩ => ⟨v, he, hx, is_out hv⟩
theorem g_path14 (x n : Int) : Gives Tryz.prog 46 [I x, I n] (ich (pathI x n)) :=
  gives_old (known_of Tryz.func46 rfl (by kernel_rfl)) fun w k vs hp => by
    rw [ints2 hp]
    exact (r14path_any x n w).mono fun _ _ ⟨v, he, hx, _, hv⟩ => ⟨v, he, hx, is_out hv⟩
theorem g_copath14 (x n : Int) : Gives Tryz.prog 33 [I x, I n] (ich (copathI x n)) :=
  gives_old (known_of Tryz.func33 rfl (by kernel_rfl)) fun w k vs hp => by
    rw [ints2 hp]
    exact (r14copath_any x n w).mono fun _ _ ⟨v, he, hx, _, hv⟩ => ⟨v, he, hx, is_out hv⟩
theorem g_same14 (l m : List Int) (hl : ∀ x ∈ l, i64 x) (hm : ∀ x ∈ m, i64 x) : Gives Tryz.prog 21 [is l, is m] (.r (.b (decide (l = m)))) :=
  gives_old (known_of Tryz.func21 rfl (by kernel_rfl)) fun w k vs hp => by
    obtain ⟨a, b, rfl, h1, h2⟩ := parts2 hp
    obtain ⟨p, rfl, hp1⟩ := is_in hl h1
    obtain ⟨q, rfl, hq1⟩ := is_in hm h2
    exact (r14same_any p q l m w hp1 hq1).mono fun _ _ ⟨v, he, hx, hv⟩ => ⟨v, he, hx, k, fun _ _ => rfl, by simp only [Res.at_, RV.at_]; exact hv⟩
theorem g_same01 (l m : List UInt8) : Gives Tryz.prog 19 [bs l, bs m] (.r (.b (decide (l = m)))) :=
  gives_old (known_of Tryz.func19 rfl (by kernel_rfl)) fun w k vs hp => by
    obtain ⟨a, b, rfl, h1, h2⟩ := parts2 hp
    obtain ⟨p, rfl, hp1⟩ := by_in h1
    obtain ⟨q, rfl, hq1⟩ := by_in h2
    exact (r01same_any p q l m w hp1 hq1).mono fun _ _ ⟨v, he, hx, hv⟩ => ⟨v, he, hx, k, fun _ _ => rfl, by simp only [Res.at_, RV.at_]; exact hv⟩
theorem g_bclone (l : List UInt8) (hl : l.length ≤ 8000000000000) : Gives Tryz.prog 87 [bs l] (bch l) :=
  gives_old (known_of Tryz.func87 rfl (by kernel_rfl)) fun w k vs hp => by
    obtain ⟨a, rfl, h1⟩ := parts1 hp
    obtain ⟨p, rfl, hp1⟩ := by_in h1
    exact (bclone_any p l w hp1 hl).mono fun _ _ ⟨v, he, hx, _, hv⟩ => ⟨v, he, hx, by_out hv⟩
theorem g_join16 (l m : List UInt8) (hl : l.length ≤ 1000000000000) (hm : m.length ≤ 1000000000000) : Gives Tryz.prog 160 [bs l, bs m] (bch (l ++ m)) :=
  gives_old (known_of Tryz.func160 rfl (by kernel_rfl)) fun w k vs hp => by
    obtain ⟨a, b, rfl, h1, h2⟩ := parts2 hp
    obtain ⟨p, rfl, hp1⟩ := by_in h1
    obtain ⟨q, rfl, hq1⟩ := by_in h2
    exact (j16_any p q l m w hp1 hq1 hl hm).mono fun _ _ ⟨v, he, hx, _, hv⟩ => ⟨v, he, hx, by_out hv⟩
theorem g_putnum (l : List UInt8) (size m : Nat) (hl : l.length ≤ 1000000000000) (hs : size = 1 ∨ size = 2 ∨ size = 4 ∨ size = 8) : Gives Tryz.prog 129 [bs l, I size, .i .u64 m] (bch (l ++ beB size m)) :=
  gives_old (known_of Tryz.func129 rfl (by kernel_rfl)) fun w k vs hp => by
    obtain ⟨a, b, c, rfl, h1, h2, h3⟩ := parts3 hp
    obtain ⟨p, rfl, hp1⟩ := by_in h1
    simp only [RV.at_] at h2 h3
    subst h2; subst h3
    exact (putnum_any p l size m w hp1 hl hs).mono fun _ _ ⟨v, he, hx, _, hv⟩ => ⟨v, he, hx, by_out hv⟩
theorem g_putvec (l m : List UInt8) (hl : l.length ≤ 1000000000000) (hm : m.length ≤ 1073741823) : Gives Tryz.prog 130 [bs l, bs m] (bch (l ++ vecB m)) :=
  gives_old (known_of Tryz.func130 rfl (by kernel_rfl)) fun w k vs hp => by
    obtain ⟨a, b, rfl, h1, h2⟩ := parts2 hp
    obtain ⟨p, rfl, hp1⟩ := by_in h1
    obtain ⟨q, rfl, hq1⟩ := by_in h2
    exact (putvec_any p q l m w hp1 hq1 hl hm).mono fun _ _ ⟨v, he, hx, _, hv⟩ => ⟨v, he, hx, by_out hv⟩
theorem g_vec01 (m : List UInt8) (hm : m.length ≤ 1073741823) : Gives Tryz.prog 128 [bs m] (bch (vecB m)) :=
  gives_old (known_of Tryz.func128 rfl (by kernel_rfl)) fun w k vs hp => by
    obtain ⟨b, rfl, h2⟩ := parts1 hp
    obtain ⟨q, rfl, hq1⟩ := by_in h2
    exact (r01vec_any q m w hq1 hm).mono fun _ _ ⟨v, he, hx, _, hv⟩ => ⟨v, he, hx, by_out hv⟩
theorem g_num01 (size m : Nat) (hs : size ≤ 8) (hm : m < 18446744073709551616) : Gives Tryz.prog 78 [I size, .i .u64 m] (bch (beB size m)) :=
  gives_old (known_of Tryz.func78 rfl (by kernel_rfl)) fun w k vs hp => by
    obtain ⟨b, c, rfl, h2, h3⟩ := parts2 hp
    simp only [RV.at_] at h2 h3
    subst h2; subst h3
    exact (r01num_any size m w hs hm).mono fun _ _ ⟨v, he, hx, _, hv⟩ => ⟨v, he, hx, by_out hv⟩
end Go.Proofs.YtpdllgbfemnemaaGreat.Sx
end

section
namespace Go.Proofs.YtpdllgbfemnemaaGreat.Sx
open Go.RowKit

theorem Vcall.bool {P : Program} {f : FuncId} {vs : List RV} {K : Res → Prop} {β : Bool} (hg : Gives P f vs (.r (.b β))) (ht : β = true → K (.r (.b true))) (hf : β = false → K (.r (.b false))) : Vcall P f vs K := by
  cases β
  · exact Vcall.go hg (hf rfl)
  · exact Vcall.go hg (ht rfl)

def Leaf.right (l : Leaf) : Bool := decide (l.box.length = 32 ∧ l.sign.length = 32 ∧ 0 < l.ident.length ∧ l.ident.length ≤ 64 ∧ 0 < l.src.toNat ∧ l.src.toNat < 4 ∧ (l.parent.length = 0 ∨ l.src.toNat = 3 ∧ l.parent.length = 32) ∧ l.sig.length = 64)
theorem g_rleaf16 (l : Leaf) : Gives Tryz.prog 83 [.ag l.c] (.r (.b l.right)) := by
  refine gives_of_vcg (T := Tab) mixed Tab_ok Tryz.func83 rfl (by kernel_rfl) ?_
  (repeat' (first | refine Vcmp.split (fun h => ?_) (fun h => ?_) | refine Cv.of_eq ?_ | refine Vif.t ?_ | refine Vif.f ?_))
  all_goals refine congrArg RV.b (Eq.symm ?_)
  all_goals simp only [Leaf.right, beq_iff_eq, bne_iff_ne, beq_eq_false_iff_ne, bne_eq_false_iff_eq, decide_eq_true_eq, decide_eq_false_iff_not, Bool.not_eq_true', Bool.not_eq_false', ne_eq] at *
  all_goals omega

theorem g_sameleaf (a b : Leaf) : Gives Tryz.prog 109 [.ag a.c, .ag b.c] (.r (.b (decide (a = b)))) := by
  refine gives_of_vcg (T := Tab) mixed Tab_ok Tryz.func109 rfl (by kernel_rfl) ?_
  obtain ⟨a1, a2, a3, a4, a5, a6⟩ := a
  obtain ⟨b1, b2, b3, b4, b5, b6⟩ := b
  repeat' (first | refine Vcall.bool (g_same01 _ _) (fun h => ?_) (fun h => ?_) | refine Vcmp.split (fun h => ?_) (fun h => ?_) | refine Cv.of_eq ?_)
  all_goals simp only [beq_iff_eq, bne_iff_ne, beq_eq_false_iff_ne, bne_eq_false_iff_eq, decide_eq_true_eq, decide_eq_false_iff_not, Bool.not_eq_true', Bool.not_eq_false', ne_eq, Int.natCast_inj, UInt8.toNat_inj] at *
  all_goals simp_all [ofC]

theorem g_same16 (a b : Node) (ha : ∀ x ∈ a.par.late, i64 x) (hb : ∀ x ∈ b.par.late, i64 x) : Gives Tryz.prog 64 [.ag a.c, .ag b.c] (.r (.b (decide (a = b)))) := by
  refine gives_of_vcg (T := Tab) mixed Tab_ok Tryz.func64 rfl (by kernel_rfl) ?_
  obtain ⟨a1, a2, a3⟩ := a
  obtain ⟨b1, b2, b3⟩ := b
  refine Vcmp.split (fun h1 => ?_) (fun h1 => ?_)
  · refine VloadN.mk' rfl rfl ?_
    refine VloadN.mk' rfl rfl ?_
    refine Vcall.bool (g_sameleaf a2 b2) (fun h2 => ?_) (fun h2 => ?_)
    · refine Vcall.bool (g_same01 _ _) (fun h3 => ?_) (fun h3 => ?_)
      · refine Vcall.bool (g_same01 _ _) (fun h4 => ?_) (fun h4 => ?_)
        · refine Vcall.bool (g_same14 _ _ ha hb) (fun h5 => ?_) (fun h5 => ?_)
          · refine Cv.of_eq ?_
            simp only [beq_iff_eq, bne_iff_ne, beq_eq_false_iff_ne, bne_eq_false_iff_eq, decide_eq_true_eq, decide_eq_false_iff_not, Bool.not_eq_true', Bool.not_eq_false', ne_eq, Int.natCast_inj, UInt8.toNat_inj] at *
            obtain ⟨_, _, _⟩ := a3
            obtain ⟨_, _, _⟩ := b3
            simp_all [ofC]
          · refine Cv.of_eq ?_
            simp only [beq_iff_eq, bne_iff_ne, beq_eq_false_iff_ne, bne_eq_false_iff_eq, decide_eq_true_eq, decide_eq_false_iff_not, Bool.not_eq_true', Bool.not_eq_false', ne_eq, Int.natCast_inj, UInt8.toNat_inj] at *
            simp [ofC]
            intro _ _ e; exact h5 (by rw [e])
        · refine Cv.of_eq ?_
          simp only [beq_iff_eq, bne_iff_ne, beq_eq_false_iff_ne, bne_eq_false_iff_eq, decide_eq_true_eq, decide_eq_false_iff_not, Bool.not_eq_true', Bool.not_eq_false', ne_eq, Int.natCast_inj, UInt8.toNat_inj] at *
          simp [ofC]
          intro _ _ e; exact h4 (by rw [e])
      · refine Cv.of_eq ?_
        simp only [beq_iff_eq, bne_iff_ne, beq_eq_false_iff_ne, bne_eq_false_iff_eq, decide_eq_true_eq, decide_eq_false_iff_not, Bool.not_eq_true', Bool.not_eq_false', ne_eq, Int.natCast_inj, UInt8.toNat_inj] at *
        simp [ofC]
        intro _ _ e; exact h3 (by rw [e])
    · refine Cv.of_eq ?_
      simp only [beq_iff_eq, bne_iff_ne, beq_eq_false_iff_ne, bne_eq_false_iff_eq, decide_eq_true_eq, decide_eq_false_iff_not, Bool.not_eq_true', Bool.not_eq_false', ne_eq, Int.natCast_inj, UInt8.toNat_inj] at *
      simp [ofC, h2]
  · refine Cv.of_eq ?_
    simp only [beq_iff_eq, bne_iff_ne, beq_eq_false_iff_ne, bne_eq_false_iff_eq, decide_eq_true_eq, decide_eq_false_iff_not, Bool.not_eq_true', Bool.not_eq_false', ne_eq, Int.natCast_inj, UInt8.toNat_inj] at *
    simp [ofC, h1]
end Go.Proofs.YtpdllgbfemnemaaGreat.Sx
end

section
namespace Go.Proofs.YtpdllgbfemnemaaGreat.Sx
open Go.RowKit

theorem cvTF_refl {ρ : List (Nat × Nat)} {S : St} (v : RV) : cvTF ρ S (.r v) (.r v) := by
  cases v <;> first | trivial | exact Cv.refl _
theorem cvCells_refl {ρ : List (Nat × Nat)} {S : St} : ∀ l : List RV, cvCells ρ S (l.map .r) (l.map .r)
  | [] => rfl
  | v :: r => ⟨_, _, rfl, cvTF_refl v, cvCells_refl r⟩

def Leaf.fit (l : Leaf) : Prop := l.box.length ≤ 1000000000 ∧ l.sign.length ≤ 1000000000 ∧ l.ident.length ≤ 1000000000 ∧ l.parent.length ≤ 1000000000 ∧ l.sig.length ≤ 1000000000
def Par.fit (p : Par) : Prop := p.box.length ≤ 1000000000 ∧ p.hash.length ≤ 1000000000 ∧ p.late.length ≤ 100000000 ∧ ∀ x ∈ p.late, i64 x
def lateF : Int → List Int → Bool
  | _, [] => true
  | last, x :: r => decide (last < x ∧ x < 65536) && lateF x r
def Par.right (p : Par) : Bool := lateF (-1) p.late && decide (p.box.length = 32 ∧ (p.hash.length = 0 ∨ p.hash.length = 32))
def Leaf.none (l : Leaf) : Bool := decide (l.src.toNat = 0 ∧ l.box.length = 0 ∧ l.sign.length = 0 ∧ l.ident.length = 0 ∧ l.parent.length = 0 ∧ l.sig.length = 0)
def Par.none (p : Par) : Bool := decide (p.box.length = 0 ∧ p.hash.length = 0 ∧ p.late.length = 0)

theorem g_noleaf (l : Leaf) (hl : l.fit) : Gives Tryz.prog 172 [.ag l.c] (.r (.b l.none)) := by
  refine gives_of_vcg (T := Tab) mixed Tab_ok Tryz.func172 rfl (by kernel_rfl) ?_
  obtain ⟨h1, h2, h3, h4, h5⟩ := hl
  refine Vcmp.split (fun h => ?_) (fun h => ?_)
  · refine Vint.i64 rfl (by omega) ?_
    refine Vint.i64 rfl (by omega) ?_
    refine Vint.i64 rfl (by omega) ?_
    refine Vint.i64 rfl (by omega) ?_
    refine Vcmp.mk' rfl (Cv.of_eq (congrArg RV.b ?_))
    simp only [Leaf.none, beq_iff_eq, bne_iff_ne, beq_eq_false_iff_ne, bne_eq_false_iff_eq, decide_eq_true_eq, decide_eq_false_iff_not, Bool.not_eq_true', Bool.not_eq_false', ne_eq] at *
    rw [Bool.eq_iff_iff]
    simp only [beq_iff_eq, bne_iff_ne, beq_eq_false_iff_ne, bne_eq_false_iff_eq, decide_eq_true_eq, decide_eq_false_iff_not, Bool.not_eq_true', Bool.not_eq_false', ne_eq] at *
    omega
  · refine Cv.of_eq (congrArg RV.b ?_)
    simp only [Leaf.none, beq_iff_eq, bne_iff_ne, beq_eq_false_iff_ne, bne_eq_false_iff_eq, decide_eq_true_eq, decide_eq_false_iff_not, Bool.not_eq_true', Bool.not_eq_false', ne_eq] at *
    rw [eq_comm]
    simp only [beq_iff_eq, bne_iff_ne, beq_eq_false_iff_ne, bne_eq_false_iff_eq, decide_eq_true_eq, decide_eq_false_iff_not, Bool.not_eq_true', Bool.not_eq_false', ne_eq] at *
    omega
theorem g_nopar (p : Par) (hp : p.fit) : Gives Tryz.prog 173 [.ag p.c] (.r (.b p.none)) := by
  refine gives_of_vcg (T := Tab) mixed Tab_ok Tryz.func173 rfl (by kernel_rfl) ?_
  obtain ⟨h1, h2, h3, _⟩ := hp
  refine Vint.i64 rfl (by omega) ?_
  refine Vint.i64 rfl (by omega) ?_
  refine Vcmp.mk' rfl (Cv.of_eq (congrArg RV.b ?_))
  simp only [Par.none, beq_iff_eq, bne_iff_ne, beq_eq_false_iff_ne, bne_eq_false_iff_eq, decide_eq_true_eq, decide_eq_false_iff_not, Bool.not_eq_true', Bool.not_eq_false', ne_eq] at *
  rw [Bool.eq_iff_iff]
  simp only [beq_iff_eq, bne_iff_ne, beq_eq_false_iff_ne, bne_eq_false_iff_eq, decide_eq_true_eq, decide_eq_false_iff_not, Bool.not_eq_true', Bool.not_eq_false', ne_eq] at *
  omega
theorem g_rleaf (l : Leaf) : Gives Tryz.prog 174 [.ag l.c] (.r (.b l.right)) := by
  refine gives_of_vcg (T := Tab) mixed Tab_ok Tryz.func174 rfl (by kernel_rfl) ?_
  (repeat' (first | refine Vcmp.split (fun h => ?_) (fun h => ?_) | refine Cv.of_eq ?_ | refine Vif.t ?_ | refine Vif.f ?_))
  all_goals refine congrArg RV.b (Eq.symm ?_)
  all_goals simp only [Leaf.right, beq_iff_eq, bne_iff_ne, beq_eq_false_iff_ne, bne_eq_false_iff_eq, decide_eq_true_eq, decide_eq_false_iff_not, Bool.not_eq_true', Bool.not_eq_false', ne_eq] at *
  all_goals omega
theorem g_rpar (p : Par) (hp : p.fit) : Gives Tryz.prog 175 [.ag p.c] (.r (.b p.right)) := by
  refine gives_of_vcg (T := Tab) mixed Tab_ok Tryz.func175 rfl (by kernel_rfl) ?_
  obtain ⟨hp1, hp2, hp3, hp4⟩ := hp
  refine Vloop.mk' (fun i : Nat × Int => { F := [(1, .own 0), (2, .r (.b false)), (3, .r (I i.2)), (7, .r (is p.late)), (8, .r (I p.late.length)), (9, .r (I i.1))], O := [(0, some (.box (p.c.map .r)))], nx := 1 })
    (fun i => i.1 ≤ p.late.length ∧ lateF (-1) p.late = lateF i.2 (p.late.drop i.1)) (fun i => p.late.length - i.1) (0, -1) ⟨by simp, by simp⟩ (sub_of [(0, 0)] rfl ⟨rfl, Cv.refl _, Cv.refl _, Cv.refl _, Cv.refl _, Cv.refl _, trivial⟩ ⟨cvCells_refl _, trivial⟩) ?_
  rintro ⟨j, last⟩ ⟨hj, hlate⟩
  simp only at hj hlate
  refine Vcmp.split (fun h => Vif.t ?_) (fun h => Vif.f ?_)
  · simp only [beq_iff_eq, bne_iff_ne, beq_eq_false_iff_ne, bne_eq_false_iff_eq, decide_eq_true_eq, decide_eq_false_iff_not, Bool.not_eq_true', Bool.not_eq_false', ne_eq] at h
    have hj' : j < p.late.length := by omega
    have hx := hp4 _ (List.getElem_mem hj')
    rw [List.drop_eq_getElem_cons hj'] at hlate
    simp only [lateF] at hlate
    refine Vidx.mk' (by omega) (by omega) (idx_map rfl hj') (Vload1.mk' rfl ?_)
    refine Vcmp.split (fun h1 => ?_) (fun h1 => ?_)
    · simp only [beq_iff_eq, bne_iff_ne, beq_eq_false_iff_ne, bne_eq_false_iff_eq, decide_eq_true_eq, decide_eq_false_iff_not, Bool.not_eq_true', Bool.not_eq_false', ne_eq] at h1
      refine Vif.t (Cv.of_eq (congrArg RV.b (Eq.symm ?_)))
      have : ¬ (last < p.late[j] ∧ p.late[j] < 65536) := by omega
      simp [Par.right, hlate, this]
    · refine Vcmp.split (fun h2 => ?_) (fun h2 => ?_)
      · simp only [beq_iff_eq, bne_iff_ne, beq_eq_false_iff_ne, bne_eq_false_iff_eq, decide_eq_true_eq, decide_eq_false_iff_not, Bool.not_eq_true', Bool.not_eq_false', ne_eq] at h2
        refine Vif.t (Cv.of_eq (congrArg RV.b (Eq.symm ?_)))
        have : ¬ (last < p.late[j] ∧ p.late[j] < 65536) := by omega
        simp [Par.right, hlate, this]
      · simp only [beq_iff_eq, bne_iff_ne, beq_eq_false_iff_ne, bne_eq_false_iff_eq, decide_eq_true_eq, decide_eq_false_iff_not, Bool.not_eq_true', Bool.not_eq_false', ne_eq] at h1 h2
        refine Vif.f ?_
        refine Vint.i64 (m := ((j + 1 : Nat) : Int)) (by omega) (by omega) ?_
        have : last < p.late[j] ∧ p.late[j] < 65536 := by omega
        rw [decide_eq_true this, Bool.true_and] at hlate
        exact ⟨(j + 1, p.late[j]), ⟨by simp only; omega, hlate⟩, by simp only; omega, sub_of [(0, 0)] rfl ⟨rfl, Cv.refl _, Cv.refl _, Cv.refl _, Cv.refl _, Cv.refl _, trivial⟩ ⟨cvCells_refl _, trivial⟩⟩
  · simp only [beq_iff_eq, bne_iff_ne, beq_eq_false_iff_ne, bne_eq_false_iff_eq, decide_eq_true_eq, decide_eq_false_iff_not, Bool.not_eq_true', Bool.not_eq_false', ne_eq] at h
    have : p.late.drop j = [] := List.drop_eq_nil_of_le (by omega)
    rw [this] at hlate
    simp only [lateF] at hlate
    (repeat' (first | refine Vcmp.split (fun h => ?_) (fun h => ?_) | refine Cv.of_eq ?_ | refine Vif.t ?_ | refine Vif.f ?_))
    all_goals refine congrArg RV.b (Eq.symm ?_)
    all_goals simp only [Par.right, hlate, Bool.true_and, beq_iff_eq, bne_iff_ne, beq_eq_false_iff_ne, bne_eq_false_iff_eq, decide_eq_true_eq, decide_eq_false_iff_not, Bool.not_eq_true', Bool.not_eq_false', ne_eq] at *
    all_goals omega
end Go.Proofs.YtpdllgbfemnemaaGreat.Sx
end
