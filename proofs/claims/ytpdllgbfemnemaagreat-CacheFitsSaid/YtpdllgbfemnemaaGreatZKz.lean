import Derived.Test.YtpdllgbfemnemaaGreatZKx
import Derived.Test.YtpdllgbfemnemaaGreatZKv
import Derived.Test.YtpdllgbfemnemaaGreatZLd
namespace Go.Proofs.YtpdllgbfemnemaaGreat.Sx
open Go.RowKit

structure Lean_.input (s : Lean_) : Prop where
  opn : s.opn.length ≤ maxL
  shut : s.shut.length ≤ maxL
  late : ∀ x ∈ s.opn, ∀ u ∈ x.node.par.late, i64 u
  at_ : ∀ x ∈ s.shut, i64 x.at_
theorem Lean_.small_fit {s : Lean_} (hi : s.input) (h : s.small = true) : s.fitN ∧ ∀ x ∈ s.opn, x.node.par.late.length ≤ 1000 := by
  simp only [Lean_.small, decide_eq_true_eq] at h
  obtain ⟨h1, h2, h3, h4⟩ := h
  refine ⟨⟨by omega, by omega, fun x hx => ?_, fun x hx => by have := h4 x hx; omega⟩, fun x hx => ?_⟩
  · have h5 := h3 x hx
    simp only [Node.small, decide_eq_true_eq] at h5
    exact ⟨⟨by omega, by omega, by omega, by omega, by omega⟩, by omega, by omega, by omega, hi.late x hx⟩
  · have h5 := h3 x hx
    simp only [Node.small, decide_eq_true_eq] at h5
    omega
theorem openedF_i64 {s : Lean_} (hf : fitsI s.leaves = true) (h0 : 0 ≤ s.own) (h1 : s.own < s.leaves) (b : Bool) : ∀ x ∈ openedF s b, i64 x := fun x hx => by
  have := opened_node hf h0 h1 b x hx
  rw [nodeI_iff] at this
  unfold i64; omega
theorem g_counts (n : Int) (s : Lean_) (hi : s.input) : Gives Tryz.prog 3 [I n, .ag s.c] (.r (.b true)) := by
  refine gives_of_vcg (T := Tab) mixed Tab_ok Tryz.func3 rfl (by kernel_rfl) ?_
  refine Vcall.go g_alive ?_
  refine Vcmp.f rfl (Vif.f ?_)
  refine VloadN.mk' rfl rfl ?_
  refine Vcall.bool (g_small19 s hi.opn hi.shut) (fun hsm => Vcmp.f rfl (Vif.f ?_)) (fun hsm => Vcmp.t rfl (Vif.t (Cv.refl _)))
  obtain ⟨hs, hlate⟩ := s.small_fit hi hsm
  have hcf : s.fit := ⟨hs.1, hs.2.1⟩
  have ghash := g_chash s hs
  have glacks := g_lacks s hs
  have gr29 := g_right29 s hs hlate hi.at_
  have gr := g_cright s hs
  rw [right_eq s] at ghash glacks gr
  refine VloadN.mk' rfl rfl ?_
  refine Vcall.go gr29 ?_
  refine VloadN.mk' rfl rfl ?_
  refine Vcall.go ghash ?_
  refine Vdraw.mk' (by kernel_rfl) ?_
  refine Vcall.go (g_least n) ?_
  refine Vcall.go (g_least29 n) ?_
  refine Vcmp.f (by simp) ?_
  refine VloadN.mk' rfl rfl ?_
  refine Vcall.go (g_count s hcf) ?_
  refine VloadN.mk' rfl rfl ?_
  refine Vcall.go (g_count29 s hcf) ?_
  refine Vcmp.f (by simp) ?_
  refine VloadN.mk' rfl rfl ?_
  refine Vcall.go gr ?_
  refine Vcmp.f (by simp) (Vif.f ?_)
  cases hr : rightR s with
  | false =>
    rw [hr] at glacks
    refine Vcmp.t rfl (Vif.t ?_)
    refine Vint.i64 rfl (by simp) ?_
    refine Vcmp.t rfl ?_
    refine VloadN.mk' rfl rfl ?_
    refine Vcall.go glacks ?_
    refine Vint.i64 rfl (by simp) ?_
    refine Vcmp.t rfl ?_
    exact Cv.refl _
  | true =>
    rw [hr] at glacks
    have hp : rightP s = true := by rw [right_eq]; exact hr
    have hp' := hp
    simp only [rightP, Bool.and_eq_true, decide_eq_true_eq] at hp'
    obtain ⟨d, o, hd, hn, ho, he, _⟩ := own_form hp'.2.1 hp'.2.2.1 hp'.2.2.2.1
    have hlv : lv (s.leaves - 1).toNat = d := by rw [hn, ← nd_root, Int.toNat_natCast, lv_nd hd]
    obtain ⟨hh, _⟩ := hash_law hd ho hn he hp
    have hO := (rightR_iff hd ho hn he).1 hr
    have hright : ∀ x ∈ s.opn, x.node.right = true := fun x hx => by
      have := hO.1 x hx
      simp only [okR, Bool.and_eq_true] at this
      exact this.2.2.1
    have h64 := openedF_i64 hp'.2.1 hp'.2.2.1 hp'.2.2.2.1 false
    have hb := fits_bd hp'.2.1
    refine Vcmp.f rfl (Vif.f ?_)
    refine Vdraw.mk' (by kernel_rfl) ?_
    refine Vint.i64 rfl (by simp) ?_
    refine Vcmp.t rfl ?_
    refine VloadN.mk' rfl rfl ?_
    refine Vcall.go (g_hash19 g_digest s hs hright d hd hn) ?_
    refine Vcall.go (g_same01 _ _) ?_
    rw [hlv, hh]
    simp only [if_true, decide_true]
    refine VloadN.mk' rfl rfl ?_
    refine Vcall.go glacks ?_
    refine VloadN.mk' rfl rfl ?_
    refine Vcall.go (g_opened29 s false (by have := hs.1; omega) (by omega)) ?_
    refine Vcall.go (g_same14 _ _ h64 h64) ?_
    exact Cv.of_eq (by simp)
end Go.Proofs.YtpdllgbfemnemaaGreat.Sx
