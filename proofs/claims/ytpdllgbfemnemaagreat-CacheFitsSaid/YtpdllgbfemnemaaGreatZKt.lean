import Derived.Test.YtpdllgbfemnemaaGreatZKs
namespace Go.Proofs.YtpdllgbfemnemaaGreat.Sx
open Go.RowKit

def DigestIs : Prop := ∀ l : List UInt8, l.length ≤ 100000000000 → Gives Tryz.prog 80 [bs l] (bch (shaB l))
def hashR (s : Lean_) : Nat → Nat → List UInt8
  | 0, k => match findS s.opn (nd 0 k) with
    | some n => shaB ([1] ++ beB 4 k ++ nodeB n)
    | none => stubB s.shut (nd 0 k)
  | h + 1, k => match findS s.opn (nd (h + 1) k) with
    | some n => shaB ([2] ++ nodeB n ++ (vecB (hashR s h (2 * k)) ++ vecB (hashR s h (2 * k + 1))))
    | none => stubB s.shut (nd (h + 1) k)
theorem stubB_len (s : Lean_) (hs : s.fitN) (x : Int) : (stubB s.shut x).length ≤ 1000000000 := by
  cases h : shutF s.shut x with
  | none => rw [shutF_none h]; simp
  | some m =>
    obtain ⟨e, sp, hsp, _, rfl⟩ := shutF_mem h
    rw [e]
    exact hs.2.2.2 sp hsp
theorem hashR_len (s : Lean_) (hs : s.fitN) : ∀ h k, (hashR s h k).length ≤ 1000000000
  | 0, k => by
    unfold hashR
    split
    · rw [shaB_len]; omega
    · exact stubB_len s hs _
  | h + 1, k => by
    unfold hashR
    split
    · rw [shaB_len]; omega
    · exact stubB_len s hs _
theorem g_text19_leaf (s : Lean_) (hs : s.fitN) (hr : ∀ x ∈ s.opn, x.node.right = true) (k : Nat) (hk : k < 65536) (n : Node) (hn : findS s.opn (nd 0 k) = some n) : Gives Tryz.prog 82 [.ag s.c, I (nd 0 k)] (.r (bs ([1] ++ beB 4 k ++ nodeB n))) := by
  refine gives_of_vcg (T := Tab) mixed Tab_ok Tryz.func82 rfl (by kernel_rfl) ?_
  obtain ⟨hs1, hs2, hs3, hs4⟩ := id hs
  obtain ⟨sp, hsp, _, rfl⟩ := findS_mem hn
  have hfit := hs3 sp hsp
  have hle := nodeB_le sp.node hfit
  have hfind := g_find s.opn (nd 0 k) (by omega)
  rw [hn] at hfind
  refine Vcall.go hfind ?_
  refine ⟨by decide, _, rfl, ?_⟩
  refine Vcmp.t (by rw [tmod_even]; rfl) (Vif.t ?_)
  refine Vdraw.mk' (by kernel_rfl) ?_
  refine Vpub.pub ?_
  refine ⟨by decide, (k : Int), ?_, ?_⟩
  · rw [nd_zero, Int.tdiv_eq_ediv_of_nonneg (by omega), show (((2 * k : Nat) : Int)) / 2 = k by omega]
    exact wrap_i64 (by omega)
  refine ⟨((k : Nat) : Int), by have := beB4_wrap (k : Int) (by omega); rw [this]; simp, ?_⟩
  refine Vcall.go (g_num01 4 k (by omega) (by omega)) ?_
  refine Vcall.go (g_join19 [1] (beB 4 k) (by simp) (by simp [beB_len])) ?_
  refine VloadN.mk' rfl rfl ?_
  refine Vcall.go (g_bytes16 sp.node hfit (fun _ => Node.right_late (hr sp hsp))) ?_
  refine Vcall.go (g_join19 ([1] ++ beB 4 k) (nodeB sp.node) (by simp [beB_len]) (by omega)) ?_
  exact Cv.refl _
theorem g_text19_up (s : Lean_) (hs : s.fitN) (hr : ∀ x ∈ s.opn, x.node.right = true) (h : Nat) (hh : h + 1 ≤ 16) (ih : ∀ k, k < 2 ^ (16 - h) → Gives Tryz.prog 61 [.ag s.c, I (nd h k)] (.r (bs (hashR s h k))))
    (k : Nat) (hk : k < 2 ^ (16 - (h + 1))) (n : Node) (hn : findS s.opn (nd (h + 1) k) = some n) : Gives Tryz.prog 82 [.ag s.c, I (nd (h + 1) k)] (.r (bs ([2] ++ nodeB n ++ (vecB (hashR s h (2 * k)) ++ vecB (hashR s h (2 * k + 1)))))) := by
  refine gives_of_vcg (T := Tab) mixed Tab_ok Tryz.func82 rfl (by kernel_rfl) ?_
  have hleft := left_nd (d := 16) (by omega) (show h + 1 ≤ 16 by omega) hk
  have hright := right_nd (d := 16) (by omega) (show h + 1 ≤ 16 by omega) hk
  have hk2 : 2 ^ (16 - h) = 2 * 2 ^ (16 - (h + 1)) := by rw [show 16 - h = (16 - (h + 1)) + 1 by omega, Nat.pow_succ]; omega
  obtain ⟨hs1, hs2, hs3, hs4⟩ := id hs
  obtain ⟨sp, hsp, _, rfl⟩ := findS_mem hn
  have hfit := hs3 sp hsp
  have hle := nodeB_le sp.node hfit
  have l1 := hashR_len s hs h (2 * k)
  have l2 := hashR_len s hs h (2 * k + 1)
  have v1 := vecB_le (hashR s h (2 * k))
  have v2 := vecB_le (hashR s h (2 * k + 1))
  have hfind := g_find s.opn (nd (h + 1) k) (by omega)
  rw [hn] at hfind
  refine Vcall.go hfind ?_
  refine ⟨by decide, _, rfl, ?_⟩
  refine Vcmp.f (by rw [tmod_odd]; rfl) (Vif.f ?_)
  refine Vcall.go (g_children14 _) ?_
  rw [hleft, hright]
  refine Vdraw.mk' (by kernel_rfl) ?_
  refine Vpub.pub ?_
  refine VloadN.mk' rfl rfl ?_
  refine Vcall.go (g_bytes16 sp.node hfit (fun _ => Node.right_late (hr sp hsp))) ?_
  refine Vcall.go (g_join19 [2] (nodeB sp.node) (by simp) (by omega)) ?_
  refine VloadN.mk' rfl rfl ?_
  refine Vcall.go (ih (2 * k) (by omega)) ?_
  refine Vcall.go (g_vec01 _ (by omega)) ?_
  refine VloadN.mk' rfl rfl ?_
  refine Vcall.go (ih (2 * k + 1) (by omega)) ?_
  refine Vcall.go (g_vec01 _ (by omega)) ?_
  refine Vcall.go (g_join19 _ _ (by omega) (by omega)) ?_
  refine Vcall.go (g_join19 ([2] ++ nodeB sp.node) _ (by simp; omega) (by simp; omega)) ?_
  exact Cv.refl _
theorem g_hashof19 (hD : DigestIs) (s : Lean_) (hs : s.fitN) (hr : ∀ x ∈ s.opn, x.node.right = true) : ∀ (h k : Nat), h ≤ 16 → k < 2 ^ (16 - h) → Gives Tryz.prog 61 [.ag s.c, I (nd h k)] (.r (bs (hashR s h k))) := by
  obtain ⟨hs1, hs2, hs3, hs4⟩ := id hs
  have none_case : ∀ (x : Int), findS s.opn x = none → Gives Tryz.prog 61 [.ag s.c, I x] (.r (bs (stubB s.shut x))) := fun x hx => by
    refine gives_of_vcg (T := Tab) mixed Tab_ok Tryz.func61 rfl (by kernel_rfl) ?_
    have hfind := g_find s.opn x (by omega)
    rw [hx] at hfind
    refine Vcall.go hfind ?_
    refine Vcmp.t rfl (Vif.t ?_)
    refine VloadN.mk' rfl rfl ?_
    refine Vcall.go (g_stub19 s x (by omega)) ?_
    exact Cv.refl _
  have some_case : ∀ (x : Int) (n : Node) (t : List UInt8), findS s.opn x = some n → t.length ≤ 100000000000 → Gives Tryz.prog 82 [.ag s.c, I x] (.r (bs t)) → Gives Tryz.prog 61 [.ag s.c, I x] (.r (bs (shaB t))) := fun x n t hx ht hg => by
    refine gives_of_vcg (T := Tab) mixed Tab_ok Tryz.func61 rfl (by kernel_rfl) ?_
    have hfind := g_find s.opn x (by omega)
    rw [hx] at hfind
    refine Vcall.go hfind ?_
    refine Vcmp.f rfl (Vif.f ?_)
    refine VloadN.mk' rfl rfl ?_
    refine Vcall.go hg ?_
    refine Vcall.go (hD t ht) ?_
    exact Cv.refl _
  intro h
  induction h with
  | zero =>
    intro k _ hk
    cases hy : findS s.opn (nd 0 k) with
    | none =>
      have e : hashR s 0 k = stubB s.shut (nd 0 k) := by simp [hashR, hy]
      rw [e]; exact none_case _ hy
    | some n =>
      have e : hashR s 0 k = shaB ([1] ++ beB 4 k ++ nodeB n) := by simp [hashR, hy]
      rw [e]
      obtain ⟨sp, hsp, _, e2⟩ := findS_mem hy
      have := nodeB_le n (e2 ▸ hs3 sp hsp)
      exact some_case _ n _ hy (by simp [beB_len]; omega) (g_text19_leaf s hs hr k (by simpa using hk) n hy)
  | succ h ih =>
    intro k hh hk
    cases hy : findS s.opn (nd (h + 1) k) with
    | none =>
      have e : hashR s (h + 1) k = stubB s.shut (nd (h + 1) k) := by simp [hashR, hy]
      rw [e]; exact none_case _ hy
    | some n =>
      have e : hashR s (h + 1) k = shaB ([2] ++ nodeB n ++ (vecB (hashR s h (2 * k)) ++ vecB (hashR s h (2 * k + 1)))) := by simp [hashR, hy]
      rw [e]
      obtain ⟨sp, hsp, _, e2⟩ := findS_mem hy
      have := nodeB_le n (e2 ▸ hs3 sp hsp)
      have v1 := vecB_le (hashR s h (2 * k))
      have v2 := vecB_le (hashR s h (2 * k + 1))
      have l1 := hashR_len s hs h (2 * k)
      have l2 := hashR_len s hs h (2 * k + 1)
      exact some_case _ n _ hy (by simp; omega) (g_text19_up s hs hr h hh (fun k hk => ih k (by omega) hk) k hk n hy)
theorem g_hash19 (hD : DigestIs) (s : Lean_) (hs : s.fitN) (hr : ∀ x ∈ s.opn, x.node.right = true) (d : Nat) (hd : d ≤ 16) (hn : s.leaves = ((2 ^ d : Nat) : Int)) : Gives Tryz.prog 20 [.ag s.c] (.r (bs (hashR s d 0))) := by
  refine gives_of_vcg (T := Tab) mixed Tab_ok Tryz.func20 rfl (by kernel_rfl) ?_
  have hb := fits_bd (pow_fits d hd)
  refine VloadN.mk' rfl rfl ?_
  refine Vint.i64 (m := ((nd d 0 : Nat) : Int)) (by rw [nd_root, hn]) (by omega) ?_
  refine Vcall.go (g_hashof19 hD s hs hr d 0 hd (pow_pos' _)) ?_
  exact Cv.refl _
end Go.Proofs.YtpdllgbfemnemaaGreat.Sx
