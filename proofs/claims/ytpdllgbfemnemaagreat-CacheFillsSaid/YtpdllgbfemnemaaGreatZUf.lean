import Derived.Test.YtpdllgbfemnemaaGreatZUc
import Derived.Test.YtpdllgbfemnemaaGreatZQh
import Derived.Test.YtpdllgbfemnemaaGreatZTk
import Derived.Test.YtpdllgbfemnemaaGreatZTu
namespace Go.Proofs.YtpdllgbfemnemaaGreat.Sx
open Go.RowKit
set_option linter.unusedVariables false
section
theorem zyl {O : List Spot} {n : Int} {h k : Nat} (hw : (zas O n h k).2 = true) : found O (nd h k) = true := by
 cases h with
 | zero =>
  unfold zas at hw
  split at hw
  ·cases hw
  ·rename_i y hy; simp [found, hy]
 | succ h =>
  unfold zas at hw
  split at hw
  ·cases hw
  ·rename_i y hy; simp [found, hy]
section
variable {s : Lean_} {d o : Nat}
theorem ztm (hd : d <= 16) (ho : o < 2 ^ d) (hn : s.leaves = ((2 ^ d : Nat) : Int)) (he : s.own = (o : Int)) (c : Int) : c ∈ zbb (2 * s.own) s.leaves ↔ ∃ i, i < d /\ c = (nd i (sibN (o / 2 ^ i)) : Int) := by
 rw [zkw hd ho hn he, List.mem_map]
 simp only [List.mem_range]
 constructor
 ·rintro ⟨i, hi, rfl⟩; exact ⟨i, hi, rfl⟩
 ·rintro ⟨i, hi, rfl⟩; exact ⟨i, hi, rfl⟩
theorem zrl (hd : d <= 16) (ho : o < 2 ^ d) (hn : s.leaves = ((2 ^ d : Nat) : Int)) (he : s.own = (o : Int)) (hc : ∀ i, i < d -> found s.opn (nd i (sibN (o / 2 ^ i))) = true) : zdh s true = zbb (2 * s.own) s.leaves := by
 unfold zdh
 rw [List.filter_eq_self]
 intro c hm
 obtain ⟨i, hi, rfl⟩ := (ztm hd ho hn he c).1 hm
 simpa [found] using hc i hi
theorem zr6 (hd : d <= 16) (ho : o < 2 ^ d) (hn : s.leaves = ((2 ^ d : Nat) : Int)) (he : s.own = (o : Int)) (hF : ∀ x n, zaj s.opn x = some n -> za8 x n = true) :
  zjy s.opn s.leaves s.own = true ↔ (∀ z ∈ (topS s.opn o d).1, found s.opn z = true) /\ ∀ i, i < d -> found s.opn (nd i (sibN (o / 2 ^ i))) = true := by
 unfold zjy
 rw [Bool.and_eq_true, List.all_eq_true, List.all_eq_true]
 constructor
 ·rintro ⟨a, b⟩
  refine ⟨(zg0 hd ho hn he hF).2 ⟨a, λ c hc => b c (List.mem_filter.1 hc).1⟩, λ i hi => ?_⟩
  have h1 := b _ ((ztm hd ho hn he _).2 ⟨i, hi, rfl⟩)
  rw [zg4 _ _ (by omega) (lt16 hd (ze5 ho hi))] at h1
  exact zyl h1
 ·rintro ⟨a, b⟩
  obtain ⟨f1, f2⟩ := (zg0 hd ho hn he hF).1 a
  rw [zrl hd ho hn he b] at f2
  exact ⟨f1, f2⟩
theorem zk0 (hd : d <= 16) (ho : o < 2 ^ d) (hn : s.leaves = ((2 ^ d : Nat) : Int)) (he : s.own = (o : Int)) (hF : ∀ x n, zaj s.opn x = some n -> za8 x n = true)
  (ha : ∀ z ∈ (topS s.opn o d).1, found s.opn z = true) (hc : ∀ i, i < d -> found s.opn (nd i (sibN (o / 2 ^ i))) = true) :
  (zci (zcu s.opn s.leaves s.own) = (topS s.opn o d).1 /\ zci (zfj s.opn s.leaves s.own) = (topS s.opn o d).2) /\ rise (allL s) = (topS s.opn o d).1 /\ rise (zii s) = (topS s.opn o d).2 := by
 have sh := zja s.opn hd ho d (Nat.le_refl _)
 have h0 : o / 2 ^ d = 0 := Nat.div_eq_of_lt ho
 rw [h0] at sh
 obtain ⟨f1, f2⟩ := (zg0 hd ho hn he hF).1 ha
 have hop := zrl hd ho hn he hc
 have hall : allL s = zcu s.opn s.leaves s.own := by
  unfold allL ownL zcu
  rw [hop]
 have hsl : zii s = zfj s.opn s.leaves s.own := by unfold zii zfj; rw [hall]
 have hm := zs7 hd ho hn he hF f2
 have hs := zp8 hd ho ha hm
 have hw : ∀ c ∈ zbb (2 * (o : Int)) ((2 ^ d : Nat) : Int), (zat s.opn ((2 ^ d : Nat) : Int) c).2 = true := λ c hc => by
  have := f2 c (by rw [hop, hn, he]; exact hc)
  rwa [hn] at this
 have n1 : (zcu s.opn s.leaves s.own).Nodup := by rw [hn, he]; exact zye hd ho hF hw
 have hnode : ∀ x ∈ zcu s.opn s.leaves s.own, za5 x = true := by
  rw [hn, he]
  exact zim (O := s.opn) (n := ((2 ^ d : Nat) : Int)) (own := (o : Int)) (zex d hd) (by omega) (by omega)
 have n2 : (zfj s.opn s.leaves s.own).Nodup := zqx _ _ n1 hnode (by simp) (by simp)
 have r1 : rise (allL s) = (topS s.opn o d).1 := zfb (zf9 _) sh.pa λ z => by rw [zeh, hm]
 have r2 : rise (zii s) = (topS s.opn o d).2 := zfb (zf9 _) sh.pb λ z => by rw [zeh, hs]
 refine ⟨⟨?_, ?_⟩, r1, r2⟩
 ·rw [zsd n1, <- hall, r1]
 ·rw [zsd n2, <- hsl, r2]
structure Part_ (s : Lean_) (d o : Nat) : Prop where
 okO : ∀ x ∈ s.opn, okR s.leaves x = true
 okH : ∀ x ∈ s.shut, x.hash.length = 32
 leaf : zc2 s = true
 found : ∀ z ∈ (topS s.opn o d).1, found s.opn z = true
 sib : ∀ i, i < d -> Sx.found s.opn (nd i (sibN (o / 2 ^ i))) = true
 ea : s.opn.map (λ x => x.at_) = (topS s.opn o d).1
 eb : s.shut.map (λ x => x.at_) = (topS s.opn o d).2
theorem zp9 (h : ∀ x ∈ s.opn, okR s.leaves x = true) : ∀ x n, zaj s.opn x = some n -> za8 x n = true := λ x n hx => by
 obtain ⟨sp, hsp, rfl, rfl⟩ := zbf hx
 exact ((zop (zxi (h sp hsp))).1 (h sp hsp)).2
theorem zz7 (hd : d <= 16) (ho : o < 2 ^ d) (hn : s.leaves = ((2 ^ d : Nat) : Int)) (he : s.own = (o : Int)) : asR s = true ↔ Part_ s d o := by
 have hf : zau s.leaves = true := by rw [hn]; exact zex d hd
 have h0 : 0 <= s.own /\ s.own < s.leaves := by rw [hn, he]; omega
 simp only [asR, hf, h0.1, h0.2, decide_true, Bool.true_and, Bool.and_eq_true, List.all_eq_true, decide_eq_true_eq]
 constructor
 ·rintro ⟨a, b, c, e, f, g⟩
  have hF := zp9 a
  obtain ⟨p, q⟩ := (zr6 hd ho hn he hF).1 e
  obtain ⟨⟨r1, r2⟩, _, _⟩ := zk0 hd ho hn he hF p q
  exact ⟨a, b, c, p, q, by rw [<- r1]; exact f, by rw [<- r2]; exact g⟩
 ·rintro ⟨a, b, c, p, q, f, g⟩
  have hF := zp9 a
  obtain ⟨⟨r1, r2⟩, _, _⟩ := zk0 hd ho hn he hF p q
  exact ⟨a, b, c, (zr6 hd ho hn he hF).2 ⟨p, q⟩, by rw [r1]; exact f, by rw [r2]; exact g⟩
theorem z0a (hd : d <= 16) (ho : o < 2 ^ d) (hn : s.leaves = ((2 ^ d : Nat) : Int)) (he : s.own = (o : Int)) (h : Part_ s d o) : zbq s = true := by
 have hF := zp9 h.okO
 obtain ⟨_, r1, r2⟩ := zk0 hd ho hn he hF h.found h.sib
 obtain ⟨f1, f2⟩ := (zg0 hd ho hn he hF).1 h.found
 rw [zmo, zl5 hd ho hn he]
 exact ⟨h.okO, h.okH, λ z hz => zep.1 (f1 z hz), f2, h.leaf, by rw [r1]; exact h.ea, by rw [r2]; exact h.eb⟩
end
end
section
def RelV (O : List Spot) (v : V3) (s : List Int × List Int) : Prop := (v.2.2 = true ↔ s.1.all (found O) = true) /\ (v.2.2 = true -> v.1 = s.1 /\ v.2.1 = s.2)
theorem RelV.join {O : List Spot} {a b : V3} {A B : List Int × List Int} {z : Int} (hz : found O z = true) (ha : RelV O a A) (hb : RelV O b B) : RelV O (a.1 ++ [z] ++ b.1, a.2.1 ++ b.2.1, a.2.2 && b.2.2) (A.1 ++ [z] ++ B.1, A.2 ++ B.2) := by
 constructor
 ·simp only [Bool.and_eq_true, ha.1, hb.1, List.all_append, List.all_cons, List.all_nil, hz, Bool.and_true]
 ·intro h
  simp only [Bool.and_eq_true] at h
  obtain ⟨a1, a2⟩ := ha.2 h.1
  obtain ⟨b1, b2⟩ := hb.2 h.2
  simp only [a1, a2, b1, b2, and_self]
theorem RelV.kid {O : List Spot} {i : Int} {h how : Nat} {n : Node} {late : List Int} {j : Nat} (hw : how = 1 \/ how = 2) (ih : ∀ (j how : Nat) (late : List Int), how = 1 \/ how = 2 -> RelV O (visV O i false h j how late) (shP O h j (decide (how = 1)) late)) :
  RelV O (kidV (λ j w l => visV O i false h j w l) i false h how n late j) (kidS (λ j w l => shP O h j w l) h (decide (how = 1) && decide (n.kind.toNat = 0)) late j) := by
 unfold kidV kidS
 rw [if_neg (λ h => by omega), if_neg (λ h => by cases h.2)]
 by_cases h1 : how = 1 /\ n.kind.toNat = 0
 ·rw [if_pos (.inr h1), if_pos (by simp [h1])]
  exact ih j 1 [] (.inl rfl)
 ·rw [if_neg (show ¬ (how = 0 \/ (how = 1 /\ n.kind.toNat = 0)) from λ h => by rcases h with h | h; omega; exact h1 h), if_neg (show ¬ ((decide (how = 1) && decide (n.kind.toNat = 0)) = true) from by simpa using h1)]
  by_cases h2 : (late.any λ u => zar (2 * u) (nd h j)) = true
  ·rw [if_pos h2, if_pos h2]
   exact ih j 2 late (.inr rfl)
  ·rw [if_neg h2, if_neg h2]
   exact ⟨by simp, λ _ => ⟨rfl, rfl⟩⟩
theorem zsm (O : List Spot) (i : Int) : ∀ (h k how : Nat) (late : List Int), how = 1 \/ how = 2 -> RelV O (visV O i false h k how late) (shP O h k (decide (how = 1)) late)
 | 0, k, how, late, hw => by
  unfold visV shP
  cases hf : zaj O (nd 0 k) with
  | none => exact ⟨by simp [found, hf], λ h => by cases h⟩
  | some n => exact ⟨by simp [found, hf], λ _ => ⟨rfl, rfl⟩⟩
 | h + 1, k, how, late, hw => by
  unfold visV shP
  cases hf : zaj O (nd (h + 1) k) with
  | none => exact ⟨by simp [found, hf], λ h => by cases h⟩
  | some n =>
   simp only [decide_eq_true_eq]
   exact RelV.join (by simp [found, hf]) (RelV.kid hw λ j w l hw => zsm O i h j w l hw) (RelV.kid hw λ j w l hw => zsm O i h j w l hw)
def RelT (O : List Spot) (o : Nat) (h : Nat) (v : V3) : Prop := (v.2.2 = true ↔ (∀ z ∈ (topS O o h).1, found O z = true) /\ ∀ i, i < h -> found O (nd i (sibN (o / 2 ^ i))) = true) /\ (v.2.2 = true -> v.1 = (topS O o h).1 /\ v.2.1 = (topS O o h).2)
theorem z8q {O : List Spot} {o h : Nat} {v : V3} (hv : RelV O v (shP O h (sibN (o / 2 ^ h)) true [])) : (v.2.2 = true ↔ (∀ z ∈ (kidT O o h).1, found O z = true) /\ found O (nd h (sibN (o / 2 ^ h))) = true) /\ (v.2.2 = true -> v.1 = (kidT O o h).1 /\ v.2.1 = (kidT O o h).2) := by
 cases hf : found O (nd h (sibN (o / 2 ^ h))) with
 | true =>
  have e : kidT O o h = shP O h (sibN (o / 2 ^ h)) true [] := by unfold kidT; rw [if_pos hf]
  rw [e]
  refine ⟨?_, hv.2⟩
  rw [hv.1, List.all_eq_true]
  simp
 | false =>
  have hn : ¬ v.2.2 = true := λ h1 => by
   have := List.all_eq_true.1 (hv.1.1 h1) _ (z6p O h (sibN (o / 2 ^ h)) true [])
   rw [hf] at this
   cases this
  exact ⟨⟨λ h => absurd h hn, λ h => by cases h.2⟩, λ h => absurd h hn⟩
theorem zvt (O : List Spot) {o d : Nat} (hd : d <= 16) (ho : o < 2 ^ d) : ∀ h, h <= d -> ∀ late, RelT O o h (visV O (o : Int) false h (o / 2 ^ h) 0 late)
 | 0, _, late => by
  rw [Nat.pow_zero, Nat.div_one]
  unfold visV
  cases hf : zaj O (nd 0 o) with
  | none => exact ⟨by simp [found, hf, topS], λ h => by cases h⟩
  | some n => exact ⟨by simp [found, hf, topS], λ _ => ⟨rfl, rfl⟩⟩
 | h + 1, hh, late => by
  have ho16 : o < 65536 := by have := zw3 hd; omega
  have ih := λ late => zvt O hd ho h (by omega) late
  have hk : o / 2 ^ (h + 1) = o / 2 ^ h / 2 := zp4 o h
  have hlt : o / 2 ^ h < 2 ^ (16 - h) := lt16 hd (zf4 ho (by omega))
  have hslt := lt16 hd (ze5 ho (show h < d by omega))
  unfold visV
  cases hf : zaj O (nd (h + 1) (o / 2 ^ (h + 1))) with
  | none =>
   refine ⟨⟨(λ h => by cases h), λ h1 => ?_⟩, λ h => by cases h⟩
   have := h1.1 _ (((zd8 O o (h + 1) _).1).2 (.inl ⟨h + 1, Nat.le_refl _, rfl⟩))
   simp [found, hf] at this
  | some n =>
   simp only [if_neg (show ¬ (0 : Nat) = 1 by decide)]
   have hfd : found O (nd (h + 1) (o / 2 ^ (h + 1))) = true := by simp [found, hf]
   have path : ∀ j, j = o / 2 ^ h -> kidV (λ j w l => visV O (o : Int) false h j w l) (o : Int) false h 0 n late j = visV O (o : Int) false h (o / 2 ^ h) 0 [] := λ j hj => by
    unfold kidV
    rw [if_pos ⟨rfl, (zhj (by omega) (by rw [hj]; exact hlt) ho16).2 hj.symm⟩, hj]
   have sib : ∀ j, j ≠ o / 2 ^ h -> j < 2 ^ (16 - h) -> kidV (λ j w l => visV O (o : Int) false h j w l) (o : Int) false h 0 n late j = visV O (o : Int) false h j 1 [] := λ j hj hj2 => by
    unfold kidV
    rw [if_neg (λ h1 => hj ((zhj (by omega) hj2 ho16).1 h1.2).symm), if_neg (λ h => by cases h.2), if_pos (.inl rfl)]
   have ihp := ih []
   have hsr := z8q (o := o) (zsm O (o : Int) h (sibN (o / 2 ^ h)) 1 [] (.inl rfl))
   have hlast : (∀ i, i < h + 1 -> found O (nd i (sibN (o / 2 ^ i))) = true) ↔ (∀ i, i < h -> found O (nd i (sibN (o / 2 ^ i))) = true) /\ found O (nd h (sibN (o / 2 ^ h))) = true := by
    constructor
    ·intro g; exact ⟨λ i hi => g i (by omega), g h (by omega)⟩
    ·rintro ⟨g1, g2⟩ i hi
     rcases Nat.lt_or_ge i h with h1 | h1
     ·exact g1 i h1
     ·rw [show i = h by omega]; exact g2
   unfold RelT topS
   rw [hlast]
   by_cases hp : (o / 2 ^ h) % 2 = 0
   ·have e1 : 2 * (o / 2 ^ (h + 1)) = o / 2 ^ h := by omega
    have e2 : sibN (o / 2 ^ h) = 2 * (o / 2 ^ (h + 1)) + 1 := by unfold sibN; rw [if_pos hp]; omega
    rw [path _ e1, sib _ (by omega) (by rw [<- e2]; exact hslt), <- e2, if_pos hp]
    constructor
    ·simp only [Bool.and_eq_true, ihp.1, hsr.1, List.mem_append, List.mem_singleton]
     constructor
     ·rintro ⟨⟨a, b⟩, c, e⟩
      refine ⟨λ z hz => ?_, b, e⟩
      rcases hz with (hz | rfl) | hz
      ·exact a z hz
      ·exact hfd
      ·exact c z hz
     ·rintro ⟨a, b, e⟩
      exact ⟨⟨λ z hz => a z (.inl (.inl hz)), b⟩, λ z hz => a z (.inr hz), e⟩
    ·intro hv
     simp only [Bool.and_eq_true] at hv
     obtain ⟨a1, a2⟩ := ihp.2 hv.1
     obtain ⟨b1, b2⟩ := hsr.2 hv.2
     simp only [a1, a2, b1, b2, and_self]
   ·have e1 : 2 * (o / 2 ^ (h + 1)) + 1 = o / 2 ^ h := by omega
    have e2 : sibN (o / 2 ^ h) = 2 * (o / 2 ^ (h + 1)) := by unfold sibN; rw [if_neg hp]; omega
    rw [path _ e1, sib _ (by omega) (by rw [<- e2]; exact hslt), <- e2, if_neg hp]
    constructor
    ·simp only [Bool.and_eq_true, ihp.1, hsr.1, List.mem_append, List.mem_singleton]
     constructor
     ·rintro ⟨⟨c, e⟩, a, b⟩
      refine ⟨λ z hz => ?_, b, e⟩
      rcases hz with (hz | rfl) | hz
      ·exact c z hz
      ·exact hfd
      ·exact a z hz
     ·rintro ⟨a, b, e⟩
      exact ⟨⟨λ z hz => a z (.inl (.inl hz)), e⟩, λ z hz => a z (.inr hz), b⟩
    ·intro hv
     simp only [Bool.and_eq_true] at hv
     obtain ⟨b1, b2⟩ := hsr.2 hv.1
     obtain ⟨a1, a2⟩ := ihp.2 hv.2
     simp only [a1, a2, b1, b2, and_self]
theorem zrf {O O' : List Spot} (hO : ∀ z, zaj O z = zaj O' z) (i : Int) (only : Bool) : ∀ (h k how : Nat) (late : List Int), visV O i only h k how late = visV O' i only h k how late
 | 0, k, how, late => by
  unfold visV
  rw [hO]
 | h + 1, k, how, late => by
  unfold visV
  rw [hO]
  have e : (λ j w l => visV O i only h j w l) = (λ j w l => visV O' i only h j w l) := by
   funext j w l
   exact zrf hO i only h j w l
  rw [e]
end
section
theorem z0x : ∀ (h k : Nat) {l r : List UInt8} {x : List Spot × List Stub}, l.length <= 100000000 -> zav h k l = .ok x r -> (x.1.map λ s => s.at_).Pairwise (· < ·) /\ (x.2.map λ s => s.at_).Pairwise (· < ·) := by
 intro h
 induction h with
 | zero =>
  intro k l r x hl hq
  cases l with
  | nil => cases hq
  | cons c q =>
   simp only [zav] at hq
   split at hq
   ·cases hq
   split at hq
   ·split at hq
    ·cases hq
    ·injection hq with h1 h2; subst h1; simp
   cases hn : za4 q with
   | err e' => rw [hn] at hq; cases hq
   | ok n s =>
    rw [hn] at hq
    simp only at hq
    split at hq
    ·cases hq
    ·injection hq with h1 h2; subst h1; simp
 | succ h ih =>
  intro k l r x hl hq
  cases l with
  | nil => cases hq
  | cons c q =>
   simp only [List.length_cons] at hl
   simp only [zav] at hq
   split at hq
   ·cases hq
   split at hq
   ·split at hq
    ·cases hq
    ·injection hq with h1 h2; subst h1; simp
   cases hn : za4 q with
   | err e' => rw [hn] at hq; cases hq
   | ok n s =>
    rw [hn] at hq
    simp only at hq
    split at hq
    ·cases hq
    obtain ⟨j, hs, hj⟩ := zdz hn
    have hls : s.length <= 100000000 := by rw [hs, List.length_drop]; omega
    cases ha : zav h (2 * k) s with
    | err e' => rw [ha] at hq; cases hq
    | ok a t =>
     rw [ha] at hq
     simp only at hq
     have hlt := zj3 h (2 * k) ha
     cases hb : zav h (2 * k + 1) t with
     | err e' => rw [hb] at hq; cases hq
     | ok b u =>
      rw [hb] at hq
      injection hq with h1 h2
      subst h1
      obtain ⟨a1, a2⟩ := ih _ hls ha
      obtain ⟨b1, b2⟩ := ih _ (by omega) hb
      obtain ⟨_, _, ai, aj, _⟩ := zio hls ha
      obtain ⟨_, _, bi, bj, _⟩ := zio (by omega) hb
      constructor
      ·simp only [List.map_append, List.map_cons, List.map_nil]
       rw [List.pairwise_append, List.pairwise_append]
       refine ⟨⟨a1, by simp, λ z hz y hy => ?_⟩, b1, λ z hz y hy => ?_⟩
       ·obtain ⟨s, hs, rfl⟩ := List.mem_map.1 hz
        rw [List.mem_singleton.1 hy]
        exact (zbu (ai s hs)).2
       ·obtain ⟨s', hs', rfl⟩ := List.mem_map.1 hy
        have h2 := (zbx (bi s' hs')).2
        rcases List.mem_append.1 hz with hz | hz
        ·obtain ⟨s, hs, rfl⟩ := List.mem_map.1 hz
         have := (zbu (ai s hs)).2
         omega
        ·rw [List.mem_singleton.1 hz]
         exact h2
      ·simp only [List.map_append]
       rw [List.pairwise_append]
       refine ⟨a2, b2, λ z hz y hy => ?_⟩
       obtain ⟨s, hs, rfl⟩ := List.mem_map.1 hz
       obtain ⟨s', hs', rfl⟩ := List.mem_map.1 hy
       have h1 := (zbu (aj s hs)).2
       have h2 := (zbx (bj s' hs')).2
       omega
theorem zre {l m : List Int} (hm : m.Pairwise (· < ·)) (hp : l.Perm m) : zby l = m := by
 have h1 : (zby l).Pairwise (λ a b => leI a b = true) := List.pairwise_mergeSort (λ a b c h1 h2 => by simp only [leI, decide_eq_true_eq] at *; omega) (λ a b => by simp only [leI, Bool.or_eq_true, decide_eq_true_eq]; omega) l
 have hp2 : (zby l).Perm m := (List.mergeSort_perm l _).trans hp
 have hn : (zby l).Nodup := hp2.nodup_iff.2 (hm.imp λ h => by omega)
 have h2 : (zby l).Pairwise (· < ·) := (List.Pairwise.and h1 hn).imp λ {a b} h => by
  have h3 := h.1
  have h4 := h.2
  simp only [leI, decide_eq_true_eq] at h3
  omega
 exact zfb h2 hm λ z => hp2.mem_iff
theorem z09 {l m : List Spot} (hm : (m.map λ s => s.at_).Pairwise (· < ·)) (hp : l.Perm m) (z : Int) : zaj l z = zaj m z := by
 cases hf : zaj l z with
 | none =>
  simp only [zaj, Option.map_eq_none_iff, List.find?_eq_none, decide_eq_true_eq] at hf
  exact (ztx λ s hs => hf s (hp.mem_iff.2 hs)).symm
 | some n =>
  obtain ⟨s, hs, rfl, rfl⟩ := zbf hf
  exact (znb hm (hp.mem_iff.1 hs)).symm
theorem zk5 {s t : Lean_} (h1 : ∀ z, zaj s.opn z = zaj t.opn z) (h2 : s.shut = t.shut) : ∀ h k, zap s h k = zap t h k
 | 0, k => by unfold zap; rw [h1, h2]
 | h + 1, k => by
  unfold zap
  rw [h1, h2, zk5 h1 h2 h (2 * k), zk5 h1 h2 h (2 * k + 1)]
section
variable {d n i : Nat} {l : List UInt8} {x : List Spot × List Stub} {y : List Spot}
theorem z3k (hd : d <= 16) (hn : n = 2 ^ d) (hi : i < n) (hl : l.length <= 100000000) {r : List UInt8} (hx : zav d 0 l = .ok x r) (hp : y.Perm x.1) :
  zdx n i y x.2 false = asR ⟨n, i, x.1, x.2⟩ /\ (asR ⟨n, i, x.1, x.2⟩ = true -> ze0 n i y x.2 = ⟨n, i, x.1, x.2⟩ /\ zap ⟨n, i, y, x.2⟩ d 0 = za3 ⟨n, i, x.1, x.2⟩ d 0) := by
 obtain ⟨s, hs⟩ : ∃ s : Lean_, s = ⟨n, i, x.1, x.2⟩ := ⟨_, rfl⟩
 have ho : i < 2 ^ d := by omega
 have hsn : s.leaves = ((2 ^ d : Nat) : Int) := by rw [hs, hn]
 have hse : s.own = (i : Int) := by rw [hs]
 obtain ⟨p1, p2⟩ := z0x d 0 hl hx
 obtain ⟨f1, f2, f3, f4, f5⟩ := zio hl hx
 have hf : zau (n : Int) = true := by rw [hn]; exact zex d hd
 have hfind := λ z => z09 p1 hp z
 have hlog : ((n : Int)).toNat.log2 = d := by rw [Int.toNat_natCast, hn, Nat.log2_two_pow]
 have hi2 : (i : Int) < (n : Int) := by omega
 have sK : zby (y.map λ s => s.at_) = x.1.map λ s => s.at_ := zre p1 (hp.map _)
 have sH : zby (x.2.map λ s => s.at_) = x.2.map λ s => s.at_ := zre p2 (List.Perm.refl _)
 have hleaf : zjq y (2 * (i : Int)) = zc2 s := by
  unfold zjq zc2
  rw [hfind, hs]
  dsimp only
  cases zaj x.1 (2 * (i : Int)) <;> rfl
 have hvt := zvt x.1 hd ho d (Nat.le_refl _) []
 rw [Nat.div_eq_of_lt ho] at hvt
 have hvis : visV y (i : Int) false d 0 0 [] = visV x.1 (i : Int) false d 0 0 [] := zrf hfind _ _ _ _ _ _
 have hfine : ∀ z ∈ x.1, (okR s.leaves z = true ↔ za8 z.at_ z.node = true) := λ z hz => by
  have hin := f3 z hz
  have h0 := ztc hin
  rw [zop h0]
  constructor
  ·exact λ h => h.2
  ·intro h
   refine ⟨?_, h⟩
   unfold inR at hin
   rw [hsn]
   rw [Nat.pow_succ] at hin
   omega
 have law : zdx n i y x.2 false = true ↔ asR s = true := by
  rw [zz7 hd ho hsn hse]
  simp only [zdx, hf, hlog, hvis, sK, sH, hleaf, Bool.true_and, Bool.and_eq_true, decide_eq_true_eq, List.all_eq_true]
  constructor
  ·rintro ⟨_, _, c, e, f, g, a, b⟩
   obtain ⟨q1, q2⟩ := hvt.1.1 g
   obtain ⟨q3, q4⟩ := hvt.2 g
   have eO : s.opn = x.1 := by rw [hs]
   have eH : s.shut = x.2 := by rw [hs]
   exact ⟨by rw [eO]; exact λ z hz => (hfine z hz).2 (e z (hp.mem_iff.2 hz)), by rw [eH]; exact f, c, by rw [eO]; exact q1, by rw [eO]; exact q2, by rw [eO, <- q3]; exact a.symm, by rw [eO, eH, <- q4]; exact b.symm⟩
  ·intro h
   have eO : s.opn = x.1 := by rw [hs]
   have eH : s.shut = x.2 := by rw [hs]
   have h1 := h.okO
   have h2 := h.okH
   have h3 := h.found
   have h4 := h.sib
   have h5 := h.ea
   have h6 := h.eb
   rw [eO] at h1 h3 h4 h5 h6
   rw [eH] at h2 h6
   have g := hvt.1.2 ⟨h3, h4⟩
   obtain ⟨q3, q4⟩ := hvt.2 g
   exact ⟨by omega, hi2, h.leaf, λ z hz => (hfine z (hp.mem_iff.1 hz)).1 (h1 z (hp.mem_iff.1 hz)), h2, g, by rw [q3]; exact h5.symm, by rw [q4]; exact h6.symm⟩
 have lawB : zdx n i y x.2 false = asR s := by rw [Bool.eq_iff_iff]; exact law
 rw [<- hs]
 refine ⟨lawB, λ ha => ⟨?_, ?_⟩⟩
 ·have m1 : (x.1.map λ s => s.at_).map (putN y) = x.1 := by
   rw [List.map_map]
   conv => rhs; rw [<- List.map_id x.1]
   refine List.map_congr_left λ z hz => ?_
   simp only [Function.comp, putN, id]
   rw [hfind, znb p1 hz]
   rfl
  have m2 : (x.2.map λ s => s.at_).map (putH x.2) = x.2 := by
   rw [List.map_map]
   conv => rhs; rw [<- List.map_id x.2]
   refine List.map_congr_left λ z hz => ?_
   simp only [Function.comp, putH, id]
   rw [(zer (znd p2 hz)).1]
  unfold ze0
  rw [sK, sH, m1, m2, hs]
 ·have hpt := (zz7 hd ho hsn hse).1 ha
  have hr := z0a hd ho hsn hse hpt
  rw [<- (zwz hd ho hsn hse hr).1]
  exact zk5 (by rw [hs]; exact hfind) (by rw [hs]) d 0
end
def z7c (q : PR Piece) (t : PR Lean_) : Prop := match q with
 | .err e => t = .err e
 | .ok p _ => t = .ok p.sparse [] /\ zap p.lean p.leaves.log2 0 = za3 p.sparse (lvS p.sparse) 0
theorem z6e (b : List UInt8) : z7c (zbs 1 b) (refP b) := by
 unfold zbs refP
 by_cases hb : 1048576 < b.length
 ·rw [if_pos hb, if_pos hb]; rfl
 rw [if_neg hb, if_neg hb]
 cases h0 : numP 1 (λ n => decide ((n : Int) = 1)) b with
 | err e' => rfl
 | ok m r0 =>
  obtain ⟨_, hr0⟩ := zeo h0
  simp only [ziv, ref0]
  cases h1 : numP 4 (λ n => zau n) r0 with
  | err e' => rfl
  | ok n r1 =>
   obtain ⟨hf, hr1⟩ := zeo h1
   simp only [zji, ref1]
   cases h2 : numP 4 (λ i => decide ((i : Int) < n)) r1 with
   | err e' => rfl
   | ok i r2 =>
    obtain ⟨hi, hr2⟩ := zeo h2
    simp only [decide_eq_true_eq] at hi
    simp only [zlh, ref2]
    obtain ⟨d, hd, hnd⟩ := zdu hf
    have hn2 : n = 2 ^ d := by omega
    have hdl : n.log2 = d := by rw [hn2, Nat.log2_two_pow]
    have hl2 : r2.length <= 100000000 := by rw [hr2, hr1, hr0, List.length_drop, List.length_drop, List.length_drop]; omega
    rw [hdl]
    have hQ := zsw d 0 r2
    cases h3 : zav d 0 r2 with
    | err e' =>
     rw [h3] at hQ
     simp only [zrv] at hQ
     rw [hQ]
     rfl
    | ok x r3 =>
     rw [h3] at hQ
     obtain ⟨y, hy, hp⟩ := hQ
     rw [hy]
     simp only [endP, endR]
     by_cases h5 : r3.length = 0
     ·rw [if_pos h5, if_pos h5]
      obtain ⟨k1, k2⟩ := z3k hd hn2 (Int.ofNat_lt.1 hi) hl2 h3 hp
      rw [show decide ((1 : Int) = 2) = false by decide, k1]
      cases ha : asR ⟨n, i, x.1, x.2⟩ with
      | false => rfl
      | true =>
       obtain ⟨k3, k4⟩ := k2 ha
       refine ⟨?_, ?_⟩
       ·show PR.ok _ _ = PR.ok (ze0 n i y x.2) []
        rw [k3]
       ·show zap ⟨n, i, y, x.2⟩ n.log2 0 = za3 (ze0 n i y x.2) (lvS (ze0 n i y x.2)) 0
        rw [k3, hdl, k4]
        have : lvS ⟨n, i, x.1, x.2⟩ = d := by unfold lvS; rw [Int.toNat_natCast, hdl]
        rw [this]
     ·rw [if_neg h5, if_neg h5]
      rfl
theorem z4i (b h : List UInt8) (i : Int) : (∃ e, chkP 1 b h i = .err e /\ ziu b h i = .err e) \/ ∃ p r r', chkP 1 b h i = .ok p r /\ ziu b h i = .ok p.sparse r' := by
 have hl := z6e b
 unfold chkP ziu
 cases hp : zbs 1 b with
 | err e =>
  rw [hp] at hl
  simp only [z7c] at hl
  rw [hl]
  exact .inl ⟨e, rfl, rfl⟩
 | ok p r =>
  rw [hp] at hl
  obtain ⟨h1, h2⟩ := hl
  rw [h1]
  simp only
  have ho : p.sparse.own = (p.own : Int) := rfl
  rw [ho, h2]
  by_cases e1 : (p.own : Int) = i
  ·rw [if_pos e1, if_pos e1]
   by_cases e2 : za3 p.sparse (lvS p.sparse) 0 = h
   ·rw [if_pos e2, if_pos e2]; exact .inr ⟨p, r, [], rfl, rfl⟩
   ·rw [if_neg e2, if_neg e2]; exact .inl ⟨17, rfl, rfl⟩
  ·rw [if_neg e1, if_neg e1]; exact .inl ⟨7, rfl, rfl⟩
end
end Go.Proofs.YtpdllgbfemnemaaGreat.Sx
