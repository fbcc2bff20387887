import Derived.Test.YtpdllgbfemnemaaGreatZKs
namespace Go.Proofs.YtpdllgbfemnemaaGreat.Sx
open Go.RowKit
def zvo : Prop := ∀ l : List UInt8, l.length <= 100000000000 -> zae Tryz.prog 80 [bs l] (bch (shaB l))
def za3 (s : Lean_) : Nat -> Nat -> List UInt8
 | 0, k => match zaj s.opn (nd 0 k) with
  | some n => shaB ([1] ++ beB 4 k ++ zbv n)
  | none => zcg s.shut (nd 0 k)
 | h + 1, k => match zaj s.opn (nd (h + 1) k) with
  | some n => shaB ([2] ++ zbv n ++ (vecB (za3 s h (2 * k)) ++ vecB (za3 s h (2 * k + 1))))
  | none => zcg s.shut (nd (h + 1) k)
theorem zur (s : Lean_) (hs : s.fitN) (x : Int) : (zcg s.shut x).length <= 1000000000 := by
 cases h : zdl s.shut x with
 | none => rw [zlv h]; simp
 | some m =>
  obtain ⟨e, sp, hsp, _, rfl⟩ := zer h
  rw [e]
  exact hs.2.2.2 sp hsp
theorem zj4 (s : Lean_) (hs : s.fitN) : ∀ h k, (za3 s h k).length <= 1000000000
 | 0, k => by
  unfold za3
  split
  ·rw [zfw]; omega
  ·exact zur s hs _
 | h + 1, k => by
  unfold za3
  split
  ·rw [zfw]; omega
  ·exact zur s hs _
theorem zu8 (s : Lean_) (hs : s.fitN) (hr : ∀ x ∈ s.opn, x.node.right = true) (k : Nat) (hk : k < 65536) (n : Node) (hn : zaj s.opn (nd 0 k) = some n) : zae Tryz.prog 82 [.ag s.c, I (nd 0 k)] (.r (bs ([1] ++ beB 4 k ++ zbv n))) := by
 refine zad (T := Tab) zaf Tab_ok Tryz.func82 rfl (by kernel_rfl) ?_
 obtain ⟨hs1, hs2, hs3, hs4⟩ := id hs
 obtain ⟨sp, hsp, _, rfl⟩ := zbf hn
 have hfit := hs3 sp hsp
 have hle := zfz sp.node hfit
 have hfind := ze2 s.opn (nd 0 k) (by omega)
 rw [hn] at hfind
 refine ze hfind ?_
 refine ⟨by decide, _, rfl, ?_⟩
 refine zu (by rw [zb4]; rfl) (zq ?_)
 refine Vdraw.mk' (by kernel_rfl) ?_
 refine zx ?_
 refine ⟨by decide, (k : Int), ?_, ?_⟩
 ·rw [zen, Int.tdiv_eq_ediv_of_nonneg (by omega), show (((2 * k : Nat) : Int)) / 2 = k by omega]
  exact wrap_i64 (by omega)
 refine ⟨((k : Nat) : Int), by have := zg1 (k : Int) (by omega); rw [this]; simp, ?_⟩
 refine ze (zsx 4 k (by omega) (by omega)) ?_
 refine ze (zjr [1] (beB 4 k) (by simp) (by simp [zbj])) ?_
 refine za rfl rfl ?_
 refine ze (zt5 sp.node hfit (λ _ => Node.right_late (hr sp hsp))) ?_
 refine ze (zjr ([1] ++ beB 4 k) (zbv sp.node) (by simp [zbj]) (by omega)) ?_
 exact cr
theorem zya (s : Lean_) (hs : s.fitN) (hr : ∀ x ∈ s.opn, x.node.right = true) (h : Nat) (hh : h + 1 <= 16) (ih : ∀ k, k < 2 ^ (16 - h) -> zae Tryz.prog 61 [.ag s.c, I (nd h k)] (.r (bs (za3 s h k))))
  (k : Nat) (hk : k < 2 ^ (16 - (h + 1))) (n : Node) (hn : zaj s.opn (nd (h + 1) k) = some n) : zae Tryz.prog 82 [.ag s.c, I (nd (h + 1) k)] (.r (bs ([2] ++ zbv n ++ (vecB (za3 s h (2 * k)) ++ vecB (za3 s h (2 * k + 1)))))) := by
 refine zad (T := Tab) zaf Tab_ok Tryz.func82 rfl (by kernel_rfl) ?_
 have hleft := zdr (d := 16) (by omega) (show h + 1 <= 16 by omega) hk
 have hright := zda (d := 16) (by omega) (show h + 1 <= 16 by omega) hk
 have hk2 : 2 ^ (16 - h) = 2 * 2 ^ (16 - (h + 1)) := by rw [show 16 - h = (16 - (h + 1)) + 1 by omega, Nat.pow_succ]; omega
 obtain ⟨hs1, hs2, hs3, hs4⟩ := id hs
 obtain ⟨sp, hsp, _, rfl⟩ := zbf hn
 have hfit := hs3 sp hsp
 have hle := zfz sp.node hfit
 have l1 := zj4 s hs h (2 * k)
 have l2 := zj4 s hs h (2 * k + 1)
 have v1 := za9 (za3 s h (2 * k))
 have v2 := za9 (za3 s h (2 * k + 1))
 have hfind := ze2 s.opn (nd (h + 1) k) (by omega)
 rw [hn] at hfind
 refine ze hfind ?_
 refine ⟨by decide, _, rfl, ?_⟩
 refine zw (by rw [zcr]; rfl) (zt ?_)
 refine ze (zf2 _) ?_
 rw [hleft, hright]
 refine Vdraw.mk' (by kernel_rfl) ?_
 refine zx ?_
 refine za rfl rfl ?_
 refine ze (zt5 sp.node hfit (λ _ => Node.right_late (hr sp hsp))) ?_
 refine ze (zjr [2] (zbv sp.node) (by simp) (by omega)) ?_
 refine za rfl rfl ?_
 refine ze (ih (2 * k) (by omega)) ?_
 refine ze (zef _ (by omega)) ?_
 refine za rfl rfl ?_
 refine ze (ih (2 * k + 1) (by omega)) ?_
 refine ze (zef _ (by omega)) ?_
 refine ze (zjr _ _ (by omega) (by omega)) ?_
 refine ze (zjr ([2] ++ zbv sp.node) _ (by simp; omega) (by simp; omega)) ?_
 exact cr
theorem z1h (hD : zvo) (s : Lean_) (hs : s.fitN) (hr : ∀ x ∈ s.opn, x.node.right = true) : ∀ (h k : Nat), h <= 16 -> k < 2 ^ (16 - h) -> zae Tryz.prog 61 [.ag s.c, I (nd h k)] (.r (bs (za3 s h k))) := by
 obtain ⟨hs1, hs2, hs3, hs4⟩ := id hs
 have none_case : ∀ (x : Int), zaj s.opn x = none -> zae Tryz.prog 61 [.ag s.c, I x] (.r (bs (zcg s.shut x))) := λ x hx => by
  refine zad (T := Tab) zaf Tab_ok Tryz.func61 rfl (by kernel_rfl) ?_
  have hfind := ze2 s.opn x (by omega)
  rw [hx] at hfind
  refine ze hfind ?_
  refine zu rfl (zq ?_)
  refine za rfl rfl ?_
  refine ze (z6u s x (by omega)) ?_
  exact cr
 have some_case : ∀ (x : Int) (n : Node) (t : List UInt8), zaj s.opn x = some n -> t.length <= 100000000000 -> zae Tryz.prog 82 [.ag s.c, I x] (.r (bs t)) -> zae Tryz.prog 61 [.ag s.c, I x] (.r (bs (shaB t))) := λ x n t hx ht hg => by
  refine zad (T := Tab) zaf Tab_ok Tryz.func61 rfl (by kernel_rfl) ?_
  have hfind := ze2 s.opn x (by omega)
  rw [hx] at hfind
  refine ze hfind ?_
  refine zw rfl (zt ?_)
  refine za rfl rfl ?_
  refine ze hg ?_
  refine ze (hD t ht) ?_
  exact cr
 intro h
 induction h with
 | zero =>
  intro k _ hk
  cases hy : zaj s.opn (nd 0 k) with
  | none =>
   have e : za3 s 0 k = zcg s.shut (nd 0 k) := by simp [za3, hy]
   rw [e]; exact none_case _ hy
  | some n =>
   have e : za3 s 0 k = shaB ([1] ++ beB 4 k ++ zbv n) := by simp [za3, hy]
   rw [e]
   obtain ⟨sp, hsp, _, e2⟩ := zbf hy
   have := zfz n (e2 ▸ hs3 sp hsp)
   exact some_case _ n _ hy (by simp [zbj]; omega) (zu8 s hs hr k (by simpa using hk) n hy)
 | succ h ih =>
  intro k hh hk
  cases hy : zaj s.opn (nd (h + 1) k) with
  | none =>
   have e : za3 s (h + 1) k = zcg s.shut (nd (h + 1) k) := by simp [za3, hy]
   rw [e]; exact none_case _ hy
  | some n =>
   have e : za3 s (h + 1) k = shaB ([2] ++ zbv n ++ (vecB (za3 s h (2 * k)) ++ vecB (za3 s h (2 * k + 1)))) := by simp [za3, hy]
   rw [e]
   obtain ⟨sp, hsp, _, e2⟩ := zbf hy
   have := zfz n (e2 ▸ hs3 sp hsp)
   have v1 := za9 (za3 s h (2 * k))
   have v2 := za9 (za3 s h (2 * k + 1))
   have l1 := zj4 s hs h (2 * k)
   have l2 := zj4 s hs h (2 * k + 1)
   exact some_case _ n _ hy (by simp; omega) (zya s hs hr h hh (λ k hk => ih k (by omega) hk) k hk n hy)
theorem zwq (hD : zvo) (s : Lean_) (hs : s.fitN) (hr : ∀ x ∈ s.opn, x.node.right = true) (d : Nat) (hd : d <= 16) (hn : s.leaves = ((2 ^ d : Nat) : Int)) : zae Tryz.prog 20 [.ag s.c] (.r (bs (za3 s d 0))) := by
 refine zad (T := Tab) zaf Tab_ok Tryz.func20 rfl (by kernel_rfl) ?_
 have hb := zd5 (zex d hd)
 refine za rfl rfl ?_
 refine zd (m := ((nd d 0 : Nat) : Int)) (by rw [zfo, hn]) (by omega) ?_
 refine ze (z1h hD s hs hr d 0 hd (zag _)) ?_
 exact cr
end Go.Proofs.YtpdllgbfemnemaaGreat.Sx
