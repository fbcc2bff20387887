import Derived.Test.YtpdllgbfemnemaaGreatZPg
namespace Go.Proofs.YtpdllgbfemnemaaGreat.Sx
open Go.RowKit
set_option linter.unusedVariables false
section
def nods (l : List Node) : RV := .sl 10 l.length (l.flatMap Node.c)
def nT (t : List Node) (j : Nat) : Node := t.getD j Node.zero
theorem z8j {l : List Node} {i : Int} {j : Nat} (h : i = j) (hj : j < l.length) : ((l.flatMap Node.c).drop (i.toNat * 10)).take 10 = l[j].c := zqi (f := Node.c) (sz := 10) (λ _ => rfl) h hj
theorem zalb {t : List Node} {j : Nat} (hj : j < t.length) : t[j] = nT t j := by simp [nT, hj]
theorem z9r {l : List Node} {i : Int} {j : Nat} (h : i = j) (hj : j < l.length) : ((l.flatMap Node.c).drop (i.toNat * 10)).take 10 = (nT l j).c := by rw [<- zalb hj]; exact z8j h hj
end
section
def zgr (t : List Node) (j : Nat) : List Spot := (List.range j).map λ i : Nat => ⟨(i : Int), nT t i⟩
theorem z0b (t : List Node) (j : Nat) : zgr t (j + 1) = zgr t j ++ [⟨(j : Int), nT t j⟩] := by
 unfold zgr
 rw [List.range_succ, List.map_append]
 rfl
theorem z2g (t : List Node) (j : Nat) : (zgr t j).length = j := by simp [zgr]
theorem zamb (t : List Node) (h1 : t.length <= 1000000) : zae Tryz.prog 70 [nods t] (.r (spots (zgr t t.length))) := by
 refine zad (T := Tab) zaf Tab_ok Tryz.func70 rfl (by kernel_rfl) ?_
 refine zy (λ j : Nat => { F := [(0, .r (nods t)), (3, .own 0), (4, .r (I j))], O := [(0, some (zd0 (zgr t j)))], nx := 1 }) (λ j => j <= t.length) (λ j => t.length - j) 0 (by omega)
  ((zc1 3 77 11 rfl).trans (zac [(0, 0)] rfl ⟨cr, rfl, cr, trivial⟩ ⟨⟨rfl, rfl, rfl, rfl, zn _⟩, trivial⟩)) ?_
 intro j hj
 have hsl := z2g t j
 have hsn := z0b t j
 refine zh (λ h => zq ?_) (λ h => zt ?_)
 ·simp only [zb] at h
  have hj' : j < t.length := by omega
  refine zm (by omega) (by omega) (z9r rfl hj') ?_
  refine za rfl rfl ?_
  refine zx ?_
  refine Vapp.mk' (j := (zgr t (j + 1)).length) (zs := (zgr t (j + 1)).flatMap Spot.c) (by simp only [maxLen]; omega) (by simp; omega) (by rw [hsn, List.length_append]; rfl) (by rw [hsn, List.flatMap_append]; exact congrArg (List.flatMap Spot.c (zgr t j) ++ ·) (by simp [zbh, cellsOf])) ?_
  refine zd (m := ((j + 1 : Nat) : Int)) (by omega) (by omega) ?_
  exact ⟨j + 1, hj', by omega, zac [(0, _)] rfl ⟨cr, rfl, cr, trivial⟩ ⟨⟨rfl, rfl, rfl, rfl, zn _⟩, trivial⟩⟩
 ·simp only [zb] at h
  have : j = t.length := by omega
  subst this
  exact cr
def insD (x : Int) : List Int -> List Int
 | [] => [x]
 | y :: l => if y < x then y :: insD x l else x :: y :: l
theorem zz1 {x : Int} : ∀ {l : List Int} {k : Nat}, k <= l.length -> (∀ y ∈ l.take k, y < x) -> (∀ h : k < l.length, x <= l[k]) -> l.take k ++ [x] ++ l.drop k = insD x l
 | [], k, hk, _, _ => by
  have : k = 0 := by simpa using hk
  subst this; rfl
 | y :: l, 0, _, _, h2 => by
  have h3 := h2 (by simp)
  simp only [List.getElem_cons_zero] at h3
  simp only [List.take_zero, List.nil_append, List.drop_zero, insD]
  rw [if_neg (by omega)]
  rfl
 | y :: l, k + 1, hk, h1, h2 => by
  have h3 := h1 y (by simp)
  simp only [insD]
  rw [if_pos h3, <- zz1 (k := k) (by simpa using hk) (λ z hz => h1 z (by simp [hz])) (λ h => h2 (by simpa using h))]
  rfl
theorem zwv {x : Int} : ∀ {l : List Int}, (insD x l).length = l.length + 1
 | [] => rfl
 | y :: l => by
  unfold insD
  split
  ·rw [List.length_cons, zwv]; rfl
  ·rfl
theorem zh9 {x z : Int} : ∀ {l : List Int}, z ∈ insD x l ↔ z = x \/ z ∈ l
 | [] => by simp [insD]
 | y :: l => by
  unfold insD
  split
  ·simp only [List.mem_cons, zh9]
   exact ⟨λ h => by rcases h with h | h | h <;> simp [h], λ h => by rcases h with h | h | h <;> simp [h]⟩
  ·simp
theorem zy9 {x : Int} : ∀ {l : List Int}, l.Pairwise (· < ·) -> x ∉ l -> (insD x l).Pairwise (· < ·)
 | [], _, _ => by simp [insD]
 | y :: l, h, hx => by
  rw [List.pairwise_cons] at h
  simp only [List.mem_cons, not_or] at hx
  unfold insD
  split
  ·rename_i hlt
   rw [List.pairwise_cons]
   refine ⟨λ z hz => ?_, zy9 h.2 hx.2⟩
   rcases zh9.1 hz with rfl | hz
   ·exact hlt
   ·exact h.1 z hz
  ·rename_i hlt
   rw [List.pairwise_cons, List.pairwise_cons]
   refine ⟨λ z hz => ?_, h⟩
   rcases List.mem_cons.1 hz with rfl | hz
   ·omega
   ·have := h.1 z hz; omega
def zci (l : List Int) : List Int := l.foldl (λ a x => insD x a) []
theorem z0n {l : List Int} {j : Nat} (hj : j < l.length) : zci (l.take (j + 1)) = insD l[j] (zci (l.take j)) := by
 unfold zci
 exact zet (f := λ a x => insD x a) hj
theorem zui : ∀ {l a : List Int}, (l.foldl (λ a x => insD x a) a).length = a.length + l.length
 | [], a => rfl
 | x :: l, a => by rw [List.foldl_cons, zui, zwv, List.length_cons]; omega
theorem zx5 : ∀ {l a : List Int}, l.Nodup -> a.Pairwise (· < ·) -> (∀ x ∈ l, x ∉ a) -> (l.foldl (λ a x => insD x a) a).Pairwise (· < ·) /\ ∀ z, z ∈ l.foldl (λ a x => insD x a) a ↔ z ∈ a \/ z ∈ l
 | [], a, _, h, _ => ⟨h, by simp⟩
 | x :: l, a, hn, h, hd => by
  rw [List.nodup_cons] at hn
  rw [List.foldl_cons]
  obtain ⟨r1, r2⟩ := zx5 (l := l) (a := insD x a) hn.2 (zy9 h (hd x (by simp))) λ y hy hm => by
   rcases zh9.1 hm with rfl | hm
   ·exact hn.1 hy
   ·exact hd y (by simp [hy]) hm
  refine ⟨r1, λ z => ?_⟩
  rw [r2 z, zh9]
  simp only [List.mem_cons]
  exact ⟨λ h => by rcases h with (h | h) | h <;> simp [h], λ h => by rcases h with h | h | h <;> simp [h]⟩
theorem zsd {l : List Int} (hn : l.Nodup) : zci l = rise l := by
 obtain ⟨r1, r2⟩ := zx5 (a := []) hn (by simp) (by simp)
 exact zfb r1 (zf9 l) λ z => by
  rw [zeh]
  have := r2 z
  simp only [List.not_mem_nil, false_or] at this
  exact this
theorem zqn (l : List Int) (hl : l.length <= 10000000000000) : zae Tryz.prog 114 [is l] (.r (is (zci l))) := by
 refine zad (T := Tab) zaf Tab_ok Tryz.func114 rfl (by kernel_rfl) ?_
 refine zy (λ i : Nat => { F := [(0, .r (is l)), (3, .r (is (zci (l.take i)))), (4, .r (I i))], O := [], nx := 0 }) (λ i => i <= l.length) (λ i => l.length - i) 0 (by omega)
  (zac [] rfl ⟨cr, Cv.nil 1, cr, trivial⟩ trivial) ?_
 intro i hi
 refine zh (λ h => zq ?_) (λ h => zt ?_)
 rotate_left
 ·simp only [zb] at h
  rw [List.take_of_length_le (by omega)]
  exact cr
 simp only [zb] at h
 have hi' : i < l.length := by omega
 have hst := z0n hi'
 obtain ⟨R, hR⟩ : ∃ R, R = zci (l.take i) := ⟨_, rfl⟩
 have hRl : R.length = i := by rw [hR]; unfold zci; rw [zui, List.length_take]; simp; omega
 rw [<- hR] at hst ⊢
 refine zy (λ k : Nat => { F := [(0, .r (is l)), (3, .r (is R)), (4, .r (I i)), (5, .own 0), (6, .r (I k))], O := [(0, some (.ch 3 1 (R.take k).length ((R.take k).map I) true))], nx := 1 }) (λ k => k <= R.length /\ ∀ y ∈ R.take k, y < l[i]) (λ k => R.length - k) 0 ⟨by omega, by simp⟩
  ((zc1 5 3 1 rfl).trans (zac [(0, 0)] rfl ⟨cr, cr, cr, rfl, cr, trivial⟩ ⟨⟨rfl, rfl, rfl, rfl, zn _⟩, trivial⟩)) ?_
 rintro k ⟨hk, hlt⟩
 have hend : (∀ h : k < R.length, l[i] <= R[k]) -> R.take k ++ [l[i]] ++ R.drop k = zci (l.take (i + 1)) := λ hh => by rw [hst]; exact zz1 hk hlt hh
 have htl : (R.take k).length = k := by rw [List.length_take]; omega
 refine Vdraw.mk' (by kernel_rfl) ?_
 refine zh (λ h2 => ?_) (λ h2 => zt ?_)
 ·simp only [zb] at h2
  have hk' : k < R.length := by omega
  refine zm (by omega) (by omega) (zah rfl hk') (zg rfl ?_)
  refine zm (by omega) (by omega) (zah rfl hi') (zg rfl ?_)
  refine zh (λ h3 => zq ?_) (λ h3 => zt ?_)
  ·simp only [zb] at h3
   refine zm (by omega) (by omega) (zah rfl hk') (zg rfl ?_)
   refine zx ?_
   have e := zt6 hk'
   refine Vapp.mk' (j := (R.take (k + 1)).length) (zs := (R.take (k + 1)).map I) (by simp [maxLen]; omega) (by simp; omega) (by rw [e, List.length_append]; rfl) (by rw [e, List.map_append]; rfl) ?_
   refine zd (m := ((k + 1 : Nat) : Int)) (by omega) (by omega) ?_
   exact ⟨k + 1, ⟨hk', zbr (p := λ y => y < l[i]) hk' hlt (by omega)⟩, by omega, zac [(0, _)] rfl ⟨cr, cr, cr, rfl, cr, trivial⟩ ⟨zao rfl, trivial⟩⟩
  ·simp only [zb] at h3
   have he := hend λ hh => by omega
   refine zm (by omega) (by omega) (zah rfl hi') (zg rfl ?_)
   refine zx ?_
   refine Vapp.mk' (j := (R.take k ++ [l[i]]).length) (zs := (R.take k ++ [l[i]]).map I) (by simp [maxLen]; omega) (by simp; omega) (by simp) (by simp [zbh, cellsOf]) ?_
   refine ⟨by omega, by omega, by omega, (R.drop k).length, (R.drop k).map I, ?_, ?_, ?_⟩
   ·rw [List.length_drop]; omega
   ·rw [Int.toNat_natCast, <- List.map_drop, List.take_of_length_le (by simp), Nat.mul_one]
   refine Vapp.mk' (j := (zci (l.take (i + 1))).length) (zs := (zci (l.take (i + 1))).map I) (by simp [maxLen]; omega) (by simp; omega) (by rw [<- he]; simp; omega) (by rw [<- he]; simp) ?_
   refine zd (m := ((i + 1 : Nat) : Int)) (by omega) (by omega) ?_
   exact ⟨i + 1, hi', by omega, zac [] rfl ⟨cr, cr, cr, trivial⟩ trivial⟩
 ·simp only [zb] at h2
  have he := hend λ hh => by omega
  refine zm (by omega) (by omega) (zah rfl hi') (zg rfl ?_)
  refine zx ?_
  refine Vapp.mk' (j := (R.take k ++ [l[i]]).length) (zs := (R.take k ++ [l[i]]).map I) (by simp [maxLen]; omega) (by simp; omega) (by simp) (by simp [zbh, cellsOf]) ?_
  refine ⟨by omega, by omega, by omega, (R.drop k).length, (R.drop k).map I, ?_, ?_, ?_⟩
  ·rw [List.length_drop]; omega
  ·rw [Int.toNat_natCast, <- List.map_drop, List.take_of_length_le (by simp), Nat.mul_one]
  refine Vapp.mk' (j := (zci (l.take (i + 1))).length) (zs := (zci (l.take (i + 1))).map I) (by simp [maxLen]; omega) (by simp; omega) (by rw [<- he]; simp; omega) (by rw [<- he]; simp) ?_
  refine zd (m := ((i + 1 : Nat) : Int)) (by omega) (by omega) ?_
  exact ⟨i + 1, hi', by omega, zac [] rfl ⟨cr, cr, cr, trivial⟩ trivial⟩
end
section
def zcu (O : List Spot) (n own : Int) : List Int := 2 * own :: zbw (2 * own) n ++ (zbb (2 * own) n).flatMap λ c => (zat O n c).1
def zjy (O : List Spot) (n own : Int) : Bool := (2 * own :: zbw (2 * own) n).all (found O) && (zbb (2 * own) n).all λ c => (zat O n c).2
def zfj (O : List Spot) (n own : Int) : List Int := (zcu O n own).foldl (zem (zcu O n own)) []
theorem zxl {α : Type} {p : α -> Bool} {l : List α} {j : Nat} (hj : j < l.length) : (l.take (j + 1)).all p = ((l.take j).all p && p l[j]) := by
 rw [zt6 hj, List.all_append]; simp
theorem zim {O : List Spot} {n own : Int} (hf : zau n = true) (h0 : 0 <= own) (h1 : own < n) : ∀ x ∈ zcu O n own, za5 x = true := λ x hx => by
 rcases List.mem_append.1 hx with h | h
 ·exact znx (s := ⟨n, own, [], []⟩) hf h0 h1 x h
 ·obtain ⟨c, hc, hx⟩ := List.mem_flatMap.1 h
  exact zo6 O n c (zgj hf h0 h1 c hc) x hx
theorem z05 {O : List Spot} (hOl : zf3 O) {n own : Int} (hf : zau n = true) (h0 : 0 <= own) (h1 : own < n) : (zcu O n own).length <= 3300000000000 := by
 have hpl := zeq (2 * own) n
 have hcl := zgn (2 * own) n
 have := zmx (f := λ c => (zat O n c).1) (b := 190000000000) (zbb (2 * own) n) λ c hc => zme _ hOl _ _ (zgj hf h0 h1 c hc)
 simp only [zcu, List.length_append, List.length_cons]
 omega
set_option maxHeartbeats 1000000 in
theorem z8s (O : List Spot) (n own : Int) (hO : O.length <= 1000000) (hOl : zf3 O) (hf : zau n = true) (h0 : 0 <= own) (h1 : own < n) :
  zae Tryz.prog 69 [spots O, I n, I own, .b false] (.r (.tu [is (zci (zcu O n own)), is (zci (zfj O n own)), .b (zjy O n own)])) := by
 refine zad (T := Tab) zaf Tab_ok Tryz.func69 rfl (by kernel_rfl) ?_
 have hn := zd5 hf
 have hpl := zeq (2 * own) n
 have hcl := zgn (2 * own) n
 have hcn := zgj hf h0 h1
 have hLn := zim (O := O) hf h0 h1
 have hLl := z05 hOl hf h0 h1
 obtain ⟨P, hP⟩ : ∃ P, P = 2 * own :: zbw (2 * own) n := ⟨_, rfl⟩
 obtain ⟨C, hC⟩ : ∃ C, C = zbb (2 * own) n := ⟨_, rfl⟩
 have hPl : P.length <= 18 := by rw [hP, List.length_cons]; omega
 have hB : zjy O n own = (P.all (found O) && C.all λ c => (zat O n c).2) := by rw [hP, hC]; rfl
 have hOL : zcu O n own = P ++ C.flatMap λ c => (zat O n c).1 := by rw [hP, hC]; rfl
 refine zd rfl (by omega) ?_
 refine zx ?_
 refine zd rfl (by omega) ?_
 refine ze (zmp _ _) ?_
 refine Vapp.mk' (j := P.length) (zs := P.map I) (by simp [maxLen]; omega) (by simp; omega) (by rw [hP]; simp; omega) (by rw [hP]; rfl) ?_
 refine zd rfl (by omega) ?_
 refine ze (zqw _ _) ?_
 rw [<- hC] at hcl hcn ⊢
 have hCl : C.length <= 17 := by omega
 refine zy (λ i : Nat × Bool => { F := [(0, .r (spots O)), (1, .r (I n)), (2, .r (I own)), (3, .r (.b false)), (11, .own 0), (12, .r (is C)), (13, .r (.b i.2)), (14, .r (I i.1))], O := [(0, some (.ch 3 1 P.length (P.map I) true))], nx := 1 })
  (λ i => i.1 <= P.length /\ i.2 = (P.take i.1).all (found O)) (λ i => P.length - i.1) (0, true) ⟨by simp, rfl⟩
  (zac [(0, _)] rfl ⟨cr, cr, cr, cr, rfl, cr, cr, cr, trivial⟩ ⟨zao rfl, trivial⟩) ?_
 rintro ⟨j, β⟩ ⟨hj, hβ⟩
 simp only at hj hβ
 refine zh (λ h2 => zq ?_) (λ h2 => zt ?_)
 ·simp only [zb] at h2
  have hj' : j < P.length := by omega
  have hsn := zxl (p := found O) hj'
  rw [<- hβ] at hsn
  refine zm (by omega) (by omega) (zah rfl hj') (zg rfl ?_)
  have gf := ze2 O P[j] (by omega)
  cases hfd : zaj O P[j] with
  | none =>
   rw [hfd] at gf
   refine ze gf ?_
   have hfo : found O P[j] = false := by simp [found, hfd]
   rw [hfo] at hsn
   cases β with
   | true =>
    refine zd (m := ((j + 1 : Nat) : Int)) (by omega) (by omega) ?_
    exact ⟨(j + 1, false), ⟨hj', by rw [hsn]; rfl⟩, by simp only; omega, zac [(0, _)] rfl ⟨cr, cr, cr, cr, rfl, cr, cr, cr, trivial⟩ ⟨zao rfl, trivial⟩⟩
   | false =>
    refine zd (m := ((j + 1 : Nat) : Int)) (by omega) (by omega) ?_
    exact ⟨(j + 1, false), ⟨hj', by rw [hsn]; rfl⟩, by simp only; omega, zac [(0, _)] rfl ⟨cr, cr, cr, cr, rfl, cr, cr, cr, trivial⟩ ⟨zao rfl, trivial⟩⟩
  | some y =>
   rw [hfd] at gf
   refine ze gf ?_
   have hfo : found O P[j] = true := by simp [found, hfd]
   rw [hfo] at hsn
   cases β with
   | true =>
    refine zd (m := ((j + 1 : Nat) : Int)) (by omega) (by omega) ?_
    exact ⟨(j + 1, true), ⟨hj', by rw [hsn]; rfl⟩, by simp only; omega, zac [(0, _)] rfl ⟨cr, cr, cr, cr, rfl, cr, cr, cr, trivial⟩ ⟨zao rfl, trivial⟩⟩
   | false =>
    refine zd (m := ((j + 1 : Nat) : Int)) (by omega) (by omega) ?_
    exact ⟨(j + 1, false), ⟨hj', by rw [hsn]; rfl⟩, by simp only; omega, zac [(0, _)] rfl ⟨cr, cr, cr, cr, rfl, cr, cr, cr, trivial⟩ ⟨zao rfl, trivial⟩⟩
 simp only [zb] at h2
 rw [List.take_of_length_le (by omega)] at hβ
 have hWl : ∀ c ∈ C, (zat O n c).1.length <= 190000000000 := λ c hc => zme _ hOl _ _ (hcn c hc)
 refine zy (λ i : Nat × Bool => { F := [(0, .r (spots O)), (1, .r (I n)), (2, .r (I own)), (3, .r (.b false)), (11, .own 0), (12, .r (is C)), (13, .r (.b i.2)), (17, .r (I i.1))], O := [(0, some (.ch 3 1 (P ++ (C.take i.1).flatMap λ c => (zat O n c).1).length ((P ++ (C.take i.1).flatMap λ c => (zat O n c).1).map I) true))], nx := 1 })
  (λ i => i.1 <= C.length /\ i.2 = (β && (C.take i.1).all λ c => (zat O n c).2)) (λ i => C.length - i.1) (0, β) ⟨by simp, by simp⟩
  (zac [(0, 0)] rfl ⟨cr, cr, cr, cr, rfl, cr, cr, cr, trivial⟩ ⟨zao (by simp), trivial⟩) ?_
 rintro ⟨i, γ⟩ ⟨hi, hγ⟩
 simp only at hi hγ
 have hfl4 := zmx (f := λ c => (zat O n c).1) (b := 190000000000) (C.take i) λ c hc => hWl c (List.mem_of_mem_take hc)
 have htl4 : (C.take i).length <= 17 := by rw [List.length_take]; omega
 refine zh (λ h5 => ?_) (λ h5 => zt ?_)
 ·simp only [zb] at h5
  refine zu rfl (zq ?_)
  have hi' : i < C.length := by omega
  have hw := hWl _ (List.getElem_mem hi')
  have hsn := zuv (f := λ c => (zat O n c).1) hi'
  have hsa := zxl (p := λ c => (zat O n c).2) hi'
  refine zm (by omega) (by omega) (zah rfl hi') (zg rfl ?_)
  refine ze (zxw O hO hOl n _ (hcn _ (List.getElem_mem hi'))) ?_
  obtain ⟨W, hW⟩ : ∃ W, W = P ++ (C.take (i + 1)).flatMap λ c => (zat O n c).1 := ⟨_, rfl⟩
  have hWe : W = (P ++ (C.take i).flatMap λ c => (zat O n c).1) ++ (zat O n C[i]).1 := by rw [hW, hsn, List.append_assoc]
  refine Vapp.mk' (j := W.length) (zs := W.map I) (by simp only [maxLen, List.length_append]; omega) (by simp only [List.length_append]; omega) (by rw [hWe]; simp only [List.length_append]) (by rw [hWe]; simp only [List.map_append]) ?_
  cases hb : (zat O n C[i]).2 with
  | false =>
   simp only [hb] at hsa
   cases γ with
   | true =>
    refine zd (m := ((i + 1 : Nat) : Int)) (by omega) (by omega) ?_
    exact ⟨(i + 1, false), ⟨hi', by rw [hsa]; simp⟩, by simp only; omega, zac [(0, _)] rfl ⟨cr, cr, cr, cr, rfl, cr, zf (by first | rfl | simp), cr, trivial⟩ ⟨zao hW, trivial⟩⟩
   | false =>
    refine zd (m := ((i + 1 : Nat) : Int)) (by omega) (by omega) ?_
    exact ⟨(i + 1, false), ⟨hi', by rw [hsa]; simp⟩, by simp only; omega, zac [(0, _)] rfl ⟨cr, cr, cr, cr, rfl, cr, zf (by first | rfl | simp), cr, trivial⟩ ⟨zao hW, trivial⟩⟩
  | true =>
   simp only [hb, Bool.and_true] at hsa
   rw [<- hsa] at hγ
   cases γ with
   | true =>
    refine zd (m := ((i + 1 : Nat) : Int)) (by omega) (by omega) ?_
    exact ⟨(i + 1, true), ⟨hi', hγ⟩, by simp only; omega, zac [(0, _)] rfl ⟨cr, cr, cr, cr, rfl, cr, zf (by first | rfl | simp), cr, trivial⟩ ⟨zao hW, trivial⟩⟩
   | false =>
    refine zd (m := ((i + 1 : Nat) : Int)) (by omega) (by omega) ?_
    exact ⟨(i + 1, false), ⟨hi', hγ⟩, by simp only; omega, zac [(0, _)] rfl ⟨cr, cr, cr, cr, rfl, cr, zf (by first | rfl | simp), cr, trivial⟩ ⟨zao hW, trivial⟩⟩
 simp only [zb] at h5
 rw [List.take_of_length_le (by omega)] at hγ
 rw [List.take_of_length_le (by omega)]
 rw [hβ, <- hB] at hγ
 rw [<- hOL]
 have hSe : zfj O n own = (zcu O n own).foldl (zem (zcu O n own)) [] := rfl
 obtain ⟨L, hL⟩ : ∃ L, L = zcu O n own := ⟨_, rfl⟩
 rw [<- hL] at hLn hLl hSe ⊢
 obtain ⟨SH, hSH⟩ : ∃ SH, SH = zfj O n own := ⟨_, rfl⟩
 rw [<- hSH] at hSe ⊢
 refine zy (λ i : Nat × List Int => { F := [(0, .r (spots O)), (1, .r (I n)), (2, .r (I own)), (3, .r (.b false)), (11, .r (is L)), (13, .r (.b γ)), (20, .own 0), (21, .r (I i.1))], O := [(0, some (.ch 3 1 i.2.length (i.2.map I) true))], nx := 1 })
  (λ i => i.1 <= L.length /\ (L.take i.1).foldl (zem L) [] = i.2) (λ i => L.length - i.1) (0, []) ⟨by simp, rfl⟩
  ((zc1 20 3 1 rfl).trans (zac [(0, 1)] rfl ⟨cr, cr, cr, cr, cr, cr, rfl, cr, trivial⟩ ⟨⟨rfl, rfl, rfl, rfl, zn _⟩, trivial⟩)) ?_
 rintro ⟨i5, acc⟩ ⟨hi5, hacc⟩
 simp only at hi5 hacc
 have hinv := zpv (all := L) (L.take i5) [] (by simp)
 rw [hacc] at hinv
 have htl : (L.take i5).length <= L.length := by rw [List.length_take]; omega
 have hal : acc.length <= 6600000000000 := by have := hinv.2; simp at this; omega
 refine zh (λ h6 => zq ?_) (λ h6 => zt ?_)
 ·simp only [zb] at h6
  have hi' : i5 < L.length := by omega
  have hsn := zet (f := zem L) (b := []) hi'
  rw [hacc] at hsn
  obtain ⟨x, hx⟩ : ∃ x, x = L[i5] := ⟨_, rfl⟩
  rw [<- hx] at hsn
  refine zm (by omega) (by omega) (zah rfl hi') (zg rfl ?_)
  rw [<- hx]
  refine ze (zf2 x) ?_
  obtain ⟨a, ha⟩ : ∃ a, a = zba x := ⟨_, rfl⟩
  obtain ⟨b, hb⟩ : ∃ b, b = za6 x := ⟨_, rfl⟩
  have hsn2 : (L.take (i5 + 1)).foldl (zem L) [] = addK L (addK L acc a) b := by rw [hsn, ha, hb]; rfl
  rw [<- ha, <- hb]
  refine zh (λ h7 => ?_) (λ h7 => zt ?_)
  ·simp only [zb] at h7
   refine Vcall.bool (zje L a (by omega)) (λ h8 => zw rfl (zt ?_)) (λ h8 => zu rfl (zq ?_))
   ·simp only [zb] at h8
    have e1 : addK L acc a = acc := by unfold addK; rw [if_neg (λ h => h.2 h8)]
    rw [e1] at hsn2
    refine zh (λ h9 => ?_) (λ h9 => zt ?_)
    ·simp only [zb] at h9
     refine Vcall.bool (zje L b (by omega)) (λ h10 => zw rfl (zt ?_)) (λ h10 => zu rfl (zq ?_))
     ·simp only [zb] at h10
      have e2 : addK L (acc) b = acc := by unfold addK; rw [if_neg (λ h => h.2 h10)]
      rw [e2] at hsn2
      refine zd (m := ((i5 + 1 : Nat) : Int)) (by omega) (by omega) ?_
      exact ⟨(i5 + 1, acc), ⟨hi', hsn2⟩, by simp only; omega, zac [(0, _)] rfl ⟨cr, cr, cr, cr, cr, cr, rfl, cr, trivial⟩ ⟨zao rfl, trivial⟩⟩
     ·simp only [zb] at h10
      have e2 : addK L (acc) b = acc ++ [b] := by unfold addK; rw [if_pos ⟨by omega, h10⟩]
      rw [e2] at hsn2
      refine zx ?_
      refine Vapp.mk' (j := (acc ++ [b]).length) (zs := (acc ++ [b]).map I) (by simp only [maxLen, List.length_append, List.length_cons, List.length_nil]; omega) (by simp; omega) (by simp) (by simp [zbh, cellsOf]) ?_
      refine zd (m := ((i5 + 1 : Nat) : Int)) (by omega) (by omega) ?_
      exact ⟨(i5 + 1, acc ++ [b]), ⟨hi', hsn2⟩, by simp only; omega, zac [(0, _)] rfl ⟨cr, cr, cr, cr, cr, cr, rfl, cr, trivial⟩ ⟨zao rfl, trivial⟩⟩
    ·simp only [zb] at h9
     have e2 : addK L (acc) b = acc := by unfold addK; rw [if_neg (λ h => by omega)]
     rw [e2] at hsn2
     refine zd (m := ((i5 + 1 : Nat) : Int)) (by omega) (by omega) ?_
     exact ⟨(i5 + 1, acc), ⟨hi', hsn2⟩, by simp only; omega, zac [(0, _)] rfl ⟨cr, cr, cr, cr, cr, cr, rfl, cr, trivial⟩ ⟨zao rfl, trivial⟩⟩
   ·simp only [zb] at h8
    have e1 : addK L acc a = acc ++ [a] := by unfold addK; rw [if_pos ⟨by omega, h8⟩]
    rw [e1] at hsn2
    refine zx ?_
    refine Vapp.mk' (j := (acc ++ [a]).length) (zs := (acc ++ [a]).map I) (by simp only [maxLen, List.length_append, List.length_cons, List.length_nil]; omega) (by simp; omega) (by simp) (by simp [zbh, cellsOf]) ?_
    refine zh (λ h9 => ?_) (λ h9 => zt ?_)
    ·simp only [zb] at h9
     refine Vcall.bool (zje L b (by omega)) (λ h10 => zw rfl (zt ?_)) (λ h10 => zu rfl (zq ?_))
     ·simp only [zb] at h10
      have e2 : addK L (acc ++ [a]) b = acc ++ [a] := by unfold addK; rw [if_neg (λ h => h.2 h10)]
      rw [e2] at hsn2
      refine zd (m := ((i5 + 1 : Nat) : Int)) (by omega) (by omega) ?_
      exact ⟨(i5 + 1, acc ++ [a]), ⟨hi', hsn2⟩, by simp only; omega, zac [(0, _)] rfl ⟨cr, cr, cr, cr, cr, cr, rfl, cr, trivial⟩ ⟨zao rfl, trivial⟩⟩
     ·simp only [zb] at h10
      have e2 : addK L (acc ++ [a]) b = acc ++ [a] ++ [b] := by unfold addK; rw [if_pos ⟨by omega, h10⟩]
      rw [e2] at hsn2
      refine zx ?_
      refine Vapp.mk' (j := (acc ++ [a] ++ [b]).length) (zs := (acc ++ [a] ++ [b]).map I) (by simp only [maxLen, List.length_append, List.length_cons, List.length_nil]; omega) (by simp; omega) (by simp) (by simp [zbh, cellsOf]) ?_
      refine zd (m := ((i5 + 1 : Nat) : Int)) (by omega) (by omega) ?_
      exact ⟨(i5 + 1, acc ++ [a] ++ [b]), ⟨hi', hsn2⟩, by simp only; omega, zac [(0, _)] rfl ⟨cr, cr, cr, cr, cr, cr, rfl, cr, trivial⟩ ⟨zao rfl, trivial⟩⟩
    ·simp only [zb] at h9
     have e2 : addK L (acc ++ [a]) b = acc ++ [a] := by unfold addK; rw [if_neg (λ h => by omega)]
     rw [e2] at hsn2
     refine zd (m := ((i5 + 1 : Nat) : Int)) (by omega) (by omega) ?_
     exact ⟨(i5 + 1, acc ++ [a]), ⟨hi', hsn2⟩, by simp only; omega, zac [(0, _)] rfl ⟨cr, cr, cr, cr, cr, cr, rfl, cr, trivial⟩ ⟨zao rfl, trivial⟩⟩
  ·simp only [zb] at h7
   have e1 : addK L acc a = acc := by unfold addK; rw [if_neg (λ h => by omega)]
   rw [e1] at hsn2
   refine zh (λ h9 => ?_) (λ h9 => zt ?_)
   ·simp only [zb] at h9
    refine Vcall.bool (zje L b (by omega)) (λ h10 => zw rfl (zt ?_)) (λ h10 => zu rfl (zq ?_))
    ·simp only [zb] at h10
     have e2 : addK L (acc) b = acc := by unfold addK; rw [if_neg (λ h => h.2 h10)]
     rw [e2] at hsn2
     refine zd (m := ((i5 + 1 : Nat) : Int)) (by omega) (by omega) ?_
     exact ⟨(i5 + 1, acc), ⟨hi', hsn2⟩, by simp only; omega, zac [(0, _)] rfl ⟨cr, cr, cr, cr, cr, cr, rfl, cr, trivial⟩ ⟨zao rfl, trivial⟩⟩
    ·simp only [zb] at h10
     have e2 : addK L (acc) b = acc ++ [b] := by unfold addK; rw [if_pos ⟨by omega, h10⟩]
     rw [e2] at hsn2
     refine zx ?_
     refine Vapp.mk' (j := (acc ++ [b]).length) (zs := (acc ++ [b]).map I) (by simp only [maxLen, List.length_append, List.length_cons, List.length_nil]; omega) (by simp; omega) (by simp) (by simp [zbh, cellsOf]) ?_
     refine zd (m := ((i5 + 1 : Nat) : Int)) (by omega) (by omega) ?_
     exact ⟨(i5 + 1, acc ++ [b]), ⟨hi', hsn2⟩, by simp only; omega, zac [(0, _)] rfl ⟨cr, cr, cr, cr, cr, cr, rfl, cr, trivial⟩ ⟨zao rfl, trivial⟩⟩
   ·simp only [zb] at h9
    have e2 : addK L (acc) b = acc := by unfold addK; rw [if_neg (λ h => by omega)]
    rw [e2] at hsn2
    refine zd (m := ((i5 + 1 : Nat) : Int)) (by omega) (by omega) ?_
    exact ⟨(i5 + 1, acc), ⟨hi', hsn2⟩, by simp only; omega, zac [(0, _)] rfl ⟨cr, cr, cr, cr, cr, cr, rfl, cr, trivial⟩ ⟨zao rfl, trivial⟩⟩
 simp only [zb] at h6
 rw [List.take_of_length_le (by omega)] at hacc
 have hse : acc = SH := by rw [hSe, <- hacc]
 subst hse
 refine ze (zqn L (by omega)) ?_
 refine ze (zqn acc (by omega)) ?_
 rw [<- hγ]
 exact ⟨_, rfl, cr⟩
end
end Go.Proofs.YtpdllgbfemnemaaGreat.Sx
