import Derived.Test.YtpdllgbfemnemaaGreatZMd
section
namespace Go.Proofs.YtpdllgbfemnemaaGreat.Sx
open Go.RowKit

theorem g_iclone (l : List Int) (hl : l.length ≤ 1000000000) (h64 : ∀ x ∈ l, i64 x) : Gives Tryz.prog 144 [is l] (ich l) :=
  gives_old (known_of Tryz.func144 rfl (by kernel_rfl)) fun w k vs hp => by
    obtain ⟨a, rfl, h1⟩ := parts1 hp
    obtain ⟨p, rfl, hp1⟩ := is_in h64 h1
    exact (cloneI_any p l w hp1 (by omega)).mono fun _ _ ⟨v, he, hx, _, hv⟩ => ⟨v, he, hx, is_out hv⟩

theorem g_copyC (n : Node) (hn : n.fit) (hcl : Gives Tryz.prog 143 [.ag n.leaf.c] (.r (.ag n.leaf.c))) : Gives Tryz.prog 105 [.ag n.c] (.r (.ag n.c)) := by
  refine gives_of_vcg (T := Tab) mixed Tab_ok Tryz.func105 rfl (by kernel_rfl) ?_
  obtain ⟨h1, h2⟩ := hn
  refine VloadN.mk' rfl rfl ?_
  refine Vcall.go hcl ?_
  refine Vdraw.mk' (by kernel_rfl) ?_
  refine Vcall.go (g_bclone n.par.box (by have := h2.1; omega)) ?_
  refine Vcall.go (g_bclone n.par.hash (by have := h2.2.1; omega)) ?_
  refine Vcall.go (g_iclone n.par.late (by have := h2.2.2.1; omega) h2.2.2.2) ?_
  refine VloadN.mk' rfl rfl ?_
  refine VloadN.mk' rfl rfl ?_
  exact Cv.refl _
end Go.Proofs.YtpdllgbfemnemaaGreat.Sx
end

section
namespace Go.Proofs.YtpdllgbfemnemaaGreat.Sx
open Go.RowKit

theorem g_index (l : List Int) (x : Int) (hl : l.length ≤ 1000000000) : Gives Tryz.prog 104 [is l, I x] (.r (I (idxF (fun y => decide (x = y)) 0 l))) := by
  refine gives_of_vcg (T := Tab) mixed Tab_ok Tryz.func104 rfl (by kernel_rfl) ?_
  obtain ⟨q, hq⟩ : ∃ q : Int → Bool, q = fun y => decide (x = y) := ⟨_, rfl⟩
  rw [← hq]
  refine Vloop.mk' (fun j : Nat => { F := [(0, .r (is l)), (1, .r (I x)), (7, .r (I l.length)), (8, .r (I j))], O := [], nx := 0 }) (fun j => j ≤ l.length ∧ idxF q 0 l = idxF q j (l.drop j)) (fun j => l.length - j) 0 ⟨by omega, by simp⟩ (sub_of [] rfl ⟨Cv.refl _, Cv.refl _, Cv.refl _, Cv.refl _, trivial⟩ trivial) ?_
  rintro j ⟨hj, he⟩
  refine Vcmp.split (fun h => Vif.t ?_) (fun h => Vif.f ?_)
  · simp only [beq_iff_eq, bne_iff_ne, beq_eq_false_iff_ne, bne_eq_false_iff_eq, decide_eq_true_eq, decide_eq_false_iff_not, Bool.not_eq_true', Bool.not_eq_false', ne_eq] at h
    have hj' : j < l.length := by omega
    rw [List.drop_eq_getElem_cons hj'] at he
    simp only [idxF] at he
    refine Vidx.mk' (by omega) (by omega) (idx_map rfl hj') (Vload1.mk' rfl ?_)
    refine Vcmp.split (fun h2 => Vif.t ?_) (fun h2 => Vif.f ?_)
    · simp only [beq_iff_eq, bne_iff_ne, beq_eq_false_iff_ne, bne_eq_false_iff_eq, decide_eq_true_eq, decide_eq_false_iff_not, Bool.not_eq_true', Bool.not_eq_false', ne_eq] at h2
      exact Cv.of_eq (by rw [he, hq]; simp [h2])
    · simp only [beq_iff_eq, bne_iff_ne, beq_eq_false_iff_ne, bne_eq_false_iff_eq, decide_eq_true_eq, decide_eq_false_iff_not, Bool.not_eq_true', Bool.not_eq_false', ne_eq] at h2
      refine Vint.i64 (m := ((j + 1 : Nat) : Int)) (by omega) (by omega) ?_
      exact ⟨j + 1, ⟨hj', by rw [he, hq]; simp [h2]⟩, by omega, sub_of [] rfl ⟨Cv.refl _, Cv.refl _, Cv.refl _, Cv.refl _, trivial⟩ trivial⟩
  · simp only [beq_iff_eq, bne_iff_ne, beq_eq_false_iff_ne, bne_eq_false_iff_eq, decide_eq_true_eq, decide_eq_false_iff_not, Bool.not_eq_true', Bool.not_eq_false', ne_eq] at h
    rw [List.drop_eq_nil_of_le (by omega)] at he
    exact Cv.of_eq (by rw [he]; rfl)
theorem g_contains (l : List Int) (x : Int) (hl : l.length ≤ 1000000000) : Gives Tryz.prog 62 [is l, I x] (.r (.b (l.any fun y => decide (x = y)))) := by
  refine gives_of_vcg (T := Tab) mixed Tab_ok Tryz.func62 rfl (by kernel_rfl) ?_
  refine Vcall.go (g_index l x hl) ?_
  exact Vcmp.mk' rfl (Cv.of_eq (congrArg RV.b (by rw [Bool.eq_iff_iff, decide_eq_true_eq]; exact (idxF_bd _ l 0).2.2)))
end Go.Proofs.YtpdllgbfemnemaaGreat.Sx
end

section
namespace Go.Proofs.YtpdllgbfemnemaaGreat.Sx
open Go.RowKit

def shutE (s : Lean_) (x : Int) (T : Lean_) : Lean_ × Int := if rightP s = false then (empty_, 3) else if (openedF s true).any (fun y => decide (x = y)) = false then (empty_, 7) else (T, 0)
theorem empty_c : Cv (.ag [I 0, I 0, .x (.slice none 0 0), .x (.slice none 0 0)]) (.ag empty_.c) := Cv.ag (Cvs.cons (Cv.refl _) (Cvs.cons (Cv.refl _) (Cvs.cons (Cv.nil 11) (Cvs.cons (Cv.nil 2) Cvs.nil))))
theorem g_cshutC (s : Lean_) (hs : s.fitN) (x : Int) (T : Lean_) (hsh : rightP s = true → (openedF s true).any (fun y => decide (x = y)) = true → Gives Tryz.prog 63 [.ag s.c, I x] (.r (.ag T.c))) :
    Gives Tryz.prog 23 [.ag s.c, I x] (.r (.tu [.ag (shutE s x T).1.c, .i .u8 (shutE s x T).2])) := by
  refine gives_of_vcg (T := Tab) mixed Tab_ok Tryz.func23 rfl (by kernel_rfl) ?_
  have gr := g_cright s hs
  refine VloadN.mk' rfl rfl ?_
  cases hr : rightP s with
  | false =>
    rw [hr] at gr
    refine Vcall.go gr ?_
    refine Vcmp.t rfl (Vif.t ?_)
    refine VloadN.mk' rfl rfl ?_
    have : shutE s x T = (empty_, 3) := by simp [shutE, hr]
    rw [this]
    exact ⟨_, rfl, Cv.tu (Cvs.cons empty_c (Cvs.refl _))⟩
  | true =>
    rw [hr] at gr
    refine Vcall.go gr ?_
    refine Vcmp.f rfl (Vif.f ?_)
    refine VloadN.mk' rfl rfl ?_
    have hp := hr
    simp only [rightP, Bool.and_eq_true, decide_eq_true_eq] at hp
    have hb := fits_bd hp.2.1
    refine Vcall.go (g_opened s hs hp.1 (by have := hp.2.2.1; have := hp.2.2.2.1; omega) true) ?_
    have hlen : (openedF s true).length ≤ 1000000000 := by
      have h1 := List.length_filter_le (fun c => (findS s.opn c).isSome == true) (copathI (2 * s.own) s.leaves)
      have h2 : (copathI (2 * s.own) s.leaves).length ≤ 17 := by rw [copathI_len]; exact pathI_len _ _
      unfold openedF
      omega
    have gc := g_contains (openedF s true) x hlen
    cases hc : (openedF s true).any (fun y => decide (x = y)) with
    | false =>
      rw [hc] at gc
      refine Vcall.go gc ?_
      refine Vcmp.t rfl (Vif.t ?_)
      refine VloadN.mk' rfl rfl ?_
      have : shutE s x T = (empty_, 7) := by simp [shutE, hr, hc]
      rw [this]
      exact ⟨_, rfl, Cv.tu (Cvs.cons empty_c (Cvs.refl _))⟩
    | true =>
      rw [hc] at gc
      refine Vcall.go gc ?_
      refine Vcmp.f rfl (Vif.f ?_)
      refine VloadN.mk' rfl rfl ?_
      refine Vcall.go (hsh hr hc) ?_
      refine VloadN.mk' rfl rfl ?_
      have : shutE s x T = (T, 0) := by simp [shutE, hr, hc]
      rw [this]
      exact ⟨_, rfl, Cv.refl _⟩
end Go.Proofs.YtpdllgbfemnemaaGreat.Sx
end
