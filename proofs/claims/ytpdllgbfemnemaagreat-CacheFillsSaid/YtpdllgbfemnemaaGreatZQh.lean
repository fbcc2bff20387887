import Derived.Test.YtpdllgbfemnemaaGreatZQf
import Derived.Test.YtpdllgbfemnemaaGreatZQe
namespace Go.Proofs.YtpdllgbfemnemaaGreat.Sx
open Go.RowKit
set_option linter.unusedVariables false
section
theorem zyb {O : List Spot} {x z : Int} {a : List Int × Bool} (h : a.1.Nodup) : (zbm O x a z).1.Nodup := by
 unfold zbm
 split
 ·rename_i hz
  rw [List.nodup_append]
  refine ⟨h, by simp, λ p hp q hq e => ?_⟩
  rw [mem1 hq] at e
  exact hz.2.2 (e ▸ hp)
 ·exact h
theorem zod {O : List Spot} {x : Int} : ∀ (l : List Int) (a : List Int × Bool), a.1.Nodup -> (l.foldl (zbm O x) a).1.Nodup
 | [], _, h => h
 | z :: l, a, h => by rw [List.foldl_cons]; exact zod l _ (zyb h)
theorem zkz {O : List Spot} {x n : Int} : ∀ (late : List Int) (a : List Int × Bool), a.1.Nodup -> (zdp O x n late a).1.Nodup
 | [], _, h => h
 | u :: late, a, h => by
  unfold zdp
  rw [List.foldl_cons]
  exact zkz late _ (zod _ _ h)
theorem zku {O : List Spot} {d : Nat} (hd : d <= 16) (hF : ∀ x n, zaj O x = some n -> za8 x n = true) : ∀ (h k : Nat), h <= d -> k < 2 ^ (d - h) -> (zas O ((2 ^ d : Nat) : Int) h k).2 = true ->
  (zas O ((2 ^ d : Nat) : Int) h k).1.Nodup /\ ∀ z ∈ (zas O ((2 ^ d : Nat) : Int) h k).1, inR h k z
 | h, k, hh, hk, hw => by
  have hin : ∀ z ∈ (zas O ((2 ^ d : Nat) : Int) h k).1, inR h k z := λ z hz =>
   (zr4 O h k true [] (by omega) (lt16 hd hk)).ra z (((zfu hd hF h k hh hk).2 hw z).1 hz)
  refine ⟨?_, hin⟩
  match h, hh, hk, hw with
  | 0, hh, hk, hw =>
   unfold zas
   cases hf : zaj O (nd 0 k) with
   | none => simp
   | some n => exact zkz _ _ (by simp)
  | h + 1, hh, hk, hw =>
   have hk2 : 2 ^ (d - h) = 2 * 2 ^ (d - (h + 1)) := by rw [show d - h = (d - (h + 1)) + 1 by omega, Nat.pow_succ]; omega
   unfold zas at hw ⊢
   cases hf : zaj O (nd (h + 1) k) with
   | none => simp
   | some n =>
    simp only [hf] at hw ⊢
    split
    ·rename_i h0
     rw [if_pos h0] at hw
     simp only [Bool.and_eq_true] at hw
     obtain ⟨n1, i1⟩ := zku hd hF h (2 * k) (by omega) (by omega) hw.1
     obtain ⟨n2, i2⟩ := zku hd hF h (2 * k + 1) (by omega) (by omega) hw.2
     simp only
     rw [List.nodup_append, List.nodup_append]
     refine ⟨⟨by simp, n1, λ p hp q hq e => ?_⟩, n2, λ p hp q hq e => ?_⟩
     ·rw [mem1 hp] at e
      have := (zbu (i1 q hq)).2
      omega
     ·have h2 := (zbx (i2 q hq)).2
      rcases List.mem_append.1 hp with hp | hp
      ·rw [mem1 hp] at e; omega
      ·have h1 := (zbu (i1 p hp)).2; omega
    ·exact zkz _ _ (by simp)
theorem zrp {f : Int -> List Int} : ∀ {l : List Int}, (∀ x ∈ l, (f x).Nodup) -> l.Pairwise (λ x y => ∀ z ∈ f x, z ∉ f y) -> (l.flatMap f).Nodup
 | [], _, _ => by simp
 | x :: l, h1, h2 => by
  rw [List.pairwise_cons] at h2
  rw [List.flatMap_cons, List.nodup_append]
  refine ⟨h1 x (by simp), zrp (λ y hy => h1 y (by simp [hy])) h2.2, λ p hp q hq e => ?_⟩
  obtain ⟨y, hy, hq⟩ := List.mem_flatMap.1 hq
  exact h2.1 y hy p hp (e ▸ hq)
theorem zye {O : List Spot} {d o : Nat} (hd : d <= 16) (ho : o < 2 ^ d) (hF : ∀ x n, zaj O x = some n -> za8 x n = true) (hw : ∀ c ∈ zbb (2 * (o : Int)) ((2 ^ d : Nat) : Int), (zat O ((2 ^ d : Nat) : Int) c).2 = true) : (zcu O ((2 ^ d : Nat) : Int) (o : Int)).Nodup := by
 have e0 : 2 * (o : Int) = (nd 0 o : Int) := by rw [zen]; omega
 have hwh : ∀ i, i < d -> (zat O ((2 ^ d : Nat) : Int) (nd i (sibN (o / 2 ^ i)))).1.Nodup /\ ∀ z ∈ (zat O ((2 ^ d : Nat) : Int) (nd i (sibN (o / 2 ^ i)))).1, inR i (sibN (o / 2 ^ i)) z := λ i hi => by
  have hs := ze5 ho hi
  have h1 := hw (nd i (sibN (o / 2 ^ i))) (by rw [e0, zhe hd ho]; exact List.mem_map.2 ⟨i, List.mem_range.2 hi, rfl⟩)
  rw [zg4 _ _ (by omega) (lt16 hd hs)] at h1 ⊢
  exact zku hd hF i _ (by omega) hs h1
 unfold zcu
 rw [e0, zl2 hd ho, zhe hd ho, List.nodup_append]
 refine ⟨?_, ?_, ?_⟩
 ·rw [List.nodup_cons]
  refine ⟨λ hm => ?_, ?_⟩
  ·obtain ⟨i, hi, e⟩ := List.mem_map.1 hm
   have e' : nd (i + 1) (o / 2 ^ (i + 1)) = nd 0 o := Int.ofNat.inj e
   have := (zgk (by have := List.mem_range.1 hi; omega) (by omega) e').1
   omega
  ·have : ∀ (l : List Nat), l.Nodup -> (∀ i ∈ l, i < d) -> (l.map λ h => (nd (h + 1) (o / 2 ^ (h + 1)) : Int)).Nodup := by
    intro l
    induction l with
    | nil => intro _ _; simp
    | cons i l ih =>
     intro hn hl
     rw [List.nodup_cons] at hn
     rw [List.map_cons, List.nodup_cons]
     refine ⟨λ hm => ?_, ih hn.2 λ j hj => hl j (by simp [hj])⟩
     obtain ⟨j, hj, e⟩ := List.mem_map.1 hm
     have hi := hl i (by simp)
     have hj2 := hl j (by simp [hj])
     have e' : nd (j + 1) (o / 2 ^ (j + 1)) = nd (i + 1) (o / 2 ^ (i + 1)) := Int.ofNat.inj e
     have := (zgk (by omega) (by omega) e').1
     exact hn.1 ((show j = i by omega) ▸ hj)
   exact this _ List.nodup_range λ i hi => List.mem_range.1 hi
 ·refine zrp (λ c hc => ?_) ?_
  ·obtain ⟨i, hi, rfl⟩ := List.mem_map.1 hc
   exact (hwh i (List.mem_range.1 hi)).1
  ·rw [List.pairwise_map]
   have : ∀ (l : List Nat), l.Nodup -> (∀ i ∈ l, i < d) -> l.Pairwise λ i j => ∀ z ∈ (zat O ((2 ^ d : Nat) : Int) (nd i (sibN (o / 2 ^ i)))).1, z ∉ (zat O ((2 ^ d : Nat) : Int) (nd j (sibN (o / 2 ^ j)))).1 := by
    intro l
    induction l with
    | nil => intro _ _; simp
    | cons i l ih =>
     intro hn hl
     rw [List.nodup_cons] at hn
     rw [List.pairwise_cons]
     refine ⟨λ j hj z hz hz2 => ?_, ih hn.2 λ j hj => hl j (by simp [hj])⟩
     have := z3f ((hwh i (hl i (by simp))).2 z hz) ((hwh j (hl j (by simp [hj]))).2 z hz2)
     exact hn.1 (this ▸ hj)
   exact this _ List.nodup_range λ i hi => List.mem_range.1 hi
 ·intro p hp q hq e
  obtain ⟨c, hc, hq⟩ := List.mem_flatMap.1 hq
  obtain ⟨i, hi, rfl⟩ := List.mem_map.1 hc
  have hin := (hwh i (List.mem_range.1 hi)).2 q hq
  have : ∃ j, p = (nd j (o / 2 ^ j) : Int) := by
   rcases List.mem_cons.1 hp with rfl | hp
   ·exact ⟨0, by simp⟩
   ·obtain ⟨j, _, rfl⟩ := List.mem_map.1 hp
    exact ⟨j + 1, rfl⟩
  obtain ⟨j, rfl⟩ := this
  exact z0y (e ▸ hin)
theorem zsl {x y : Int} (hx : za5 x = true) (hy : za5 y = true) : (0 <= zba x -> zba x = zba y -> x = y) /\ (0 <= zba x -> zba x ≠ za6 y) /\ (0 <= za6 x -> za6 x = za6 y -> x = y) /\ (0 <= za6 x -> za6 x ≠ zba y) := by
 obtain ⟨h, k, hh, hk, rfl, _⟩ := zg2 hx
 obtain ⟨h', k', hh', hk', rfl, _⟩ := zg2 hy
 match h, h', hh, hh', hk, hk' with
 | 0, _, _, _, hk, _ =>
  have := zll (d := 16) (k := k) (by omega) (by simpa using hk)
  rw [this.1, this.2]
  exact ⟨by omega, by omega, by omega, by omega⟩
 | h + 1, 0, hh, _, hk, hk' =>
  have := zll (d := 16) (k := k') (by omega) (by simpa using hk')
  rw [this.1, this.2]
  exact ⟨by omega, by omega, by omega, by omega⟩
 | h + 1, h' + 1, hh, hh', hk, hk' =>
  rw [zdr (d := 16) (by omega) hh hk, zda (d := 16) (by omega) hh hk, zdr (d := 16) (by omega) hh' hk', zda (d := 16) (by omega) hh' hk']
  have key : ∀ a b : Nat, (nd h a : Int) = (nd h' b : Int) -> h = h' /\ a = b := λ a b e => zgk (by omega) (by omega) (by omega)
  refine ⟨λ _ e => ?_, λ _ e => ?_, λ _ e => ?_, λ _ e => ?_⟩
  ·obtain ⟨rfl, e2⟩ := key _ _ e
   rw [show k = k' by omega]
  ·have := (key _ _ e).2; omega
  ·obtain ⟨rfl, e2⟩ := key _ _ e
   rw [show k = k' by omega]
  ·have := (key _ _ e).2; omega
theorem zrn {all acc : List Int} {c : Int} (h : acc.Nodup) (hc : 0 <= c -> c ∉ acc) : (addK all acc c).Nodup /\ ∀ z, z ∈ addK all acc c -> z ∈ acc \/ (z = c /\ 0 <= c) := by
 unfold addK
 split
 ·rename_i h1
  refine ⟨?_, λ z hz => ?_⟩
  ·rw [List.nodup_append]
   refine ⟨h, by simp, λ p hp q hq e => ?_⟩
   rw [mem1 hq] at e
   exact hc h1.1 (e ▸ hp)
  ·rcases List.mem_append.1 hz with hz | hz
   ·exact .inl hz
   ·exact .inr ⟨mem1 hz, h1.1⟩
 ·exact ⟨h, λ z hz => .inl hz⟩
theorem zqx {all : List Int} : ∀ (l acc : List Int), l.Nodup -> (∀ x ∈ l, za5 x = true) -> acc.Nodup -> (∀ z ∈ acc, 0 <= z /\ ∀ x ∈ l, z ≠ zba x /\ z ≠ za6 x) -> (l.foldl (zem all) acc).Nodup
 | [], _, _, _, h, _ => h
 | x :: l, acc, hn, hl, h, hz => by
  rw [List.nodup_cons] at hn
  rw [List.foldl_cons]
  have hx := hl x (by simp)
  obtain ⟨a1, a2⟩ := zrn (all := all) (c := zba x) h λ h0 hm => ((hz _ hm).2 x (by simp)).1 rfl
  obtain ⟨b1, b2⟩ := zrn (all := all) (c := za6 x) a1 λ h0 hm => by
   rcases a2 _ hm with hm | ⟨e, h1⟩
   ·exact ((hz _ hm).2 x (by simp)).2 rfl
   ·exact (zsl hx hx).2.2.2 h0 e
  refine zqx l _ hn.2 (λ y hy => hl y (by simp [hy])) b1 λ z hz2 => ?_
  have fresh : ∀ y ∈ l, x ≠ y := λ y hy e => hn.1 (e ▸ hy)
  rcases b2 z hz2 with hz2 | ⟨rfl, h0⟩
  ·rcases a2 z hz2 with hz2 | ⟨rfl, h0⟩
   ·exact ⟨(hz z hz2).1, λ y hy => (hz z hz2).2 y (by simp [hy])⟩
   ·refine ⟨h0, λ y hy => ?_⟩
    have k := zsl hx (hl y (by simp [hy]))
    exact ⟨λ e => fresh y hy (k.1 h0 e), k.2.1 h0⟩
  ·refine ⟨h0, λ y hy => ?_⟩
   have k := zsl hx (hl y (by simp [hy]))
   exact ⟨k.2.2.2 h0, λ e => fresh y hy (k.2.2.1 h0 e)⟩
end
section
theorem z6p (O : List Spot) : ∀ (h k : Nat) (w : Bool) (l : List Int), (nd h k : Int) ∈ (shP O h k w l).1
 | 0, _, _, _ => by simp [shP]
 | h + 1, k, w, l => by
  unfold shP
  cases zaj O (nd (h + 1) k) <;> simp
end
end Go.Proofs.YtpdllgbfemnemaaGreat.Sx
