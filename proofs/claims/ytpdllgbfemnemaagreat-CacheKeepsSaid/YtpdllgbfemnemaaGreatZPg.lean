import Derived.Test.YtpdllgbfemnemaaGreatZNd
import Derived.Test.YtpdllgbfemnemaaGreatZPc
section
namespace Go.Proofs.YtpdllgbfemnemaaGreat.Sx
open Go.RowKit
set_option linter.unusedVariables false

/-! ### Lookups in what is left -/
theorem findS_filter (q : Int → Bool) : ∀ (l : List Spot) (z : Int), findS (l.filter fun y => q y.at_) z = if q z then findS l z else none
  | [], z => by simp [findS]
  | y :: l, z => by
    have ih := findS_filter q l z
    by_cases hq : q y.at_ = true
    · rw [List.filter_cons_of_pos (by simpa using hq)]
      by_cases hz : y.at_ = z
      · subst hz; simp [findS, hq]
      · have e1 : ∀ m : List Spot, findS (y :: m) z = findS m z := fun m => by simp [findS, hz]
        rw [e1, e1, ih]
    · rw [List.filter_cons_of_neg (by simpa using hq)]
      by_cases hz : y.at_ = z
      · subst hz; rw [ih]; simp [hq]
      · have e1 : findS (y :: l) z = findS l z := by simp [findS, hz]
        rw [ih, e1]
theorem stubF_filter (q : Int → Bool) : ∀ (l : List Stub) (z : Int), q z = true → (l.filter fun y => q y.at_).find? (fun s => decide (s.at_ = z)) = l.find? fun s => decide (s.at_ = z)
  | [], z, _ => rfl
  | y :: l, z, h => by
    have ih := stubF_filter q l z h
    by_cases hq : q y.at_ = true
    · rw [List.filter_cons_of_pos (by simpa using hq), List.find?_cons, List.find?_cons, ih]
    · rw [List.filter_cons_of_neg (by simpa using hq), List.find?_cons, ih]
      have hz : y.at_ ≠ z := fun e => hq (by rw [e]; exact h)
      simp [hz]
/-- The stub goes where it belongs. -/
theorem insL_form (own : Stub) (F : List Stub) (hp : (F.map (·.at_)).Pairwise (· < ·)) (hne : ∀ y ∈ F, y.at_ ≠ own.at_) :
    ((insL own F).map (·.at_)).Pairwise (· < ·) ∧ (∀ y, y ∈ insL own F ↔ y = own ∨ y ∈ F) ∧ (insL own F).length = F.length + 1 := by
  unfold insL
  rcases idxG_spec (fun y => decide (own.at_ < y.at_)) F 0 with ⟨h1, h2⟩ | ⟨a, y, b, rfl, h1, h2, h3⟩
  · have : insR own F = (false, F) := by
      have := insR_none own F [] fun y hy => by have := h2 y hy; simpa using this
      simpa [insR] using this
    rw [this]
    simp only [Bool.false_eq_true, if_false, List.map_append, List.map_cons, List.map_nil]
    refine ⟨?_, fun z => ?_, by simp⟩
    · rw [List.pairwise_append]
      refine ⟨hp, by simp, fun u hu v hv => ?_⟩
      obtain ⟨w, hw, rfl⟩ := List.mem_map.1 hu
      rw [mem1 hv]
      have := h2 w hw
      have h4 := hne w hw
      simp at this
      omega
    · rw [List.mem_append, List.mem_singleton]; exact Or.comm
  · have h4 := insR_some own y a b (fun z hz => by have := h3 z hz; simpa using this) (by simpa using h2)
    rw [h4]
    simp only [if_true, List.map_append, List.map_cons]
    rw [List.map_append, List.map_cons, List.pairwise_append, List.pairwise_cons] at hp
    obtain ⟨pa, ⟨py, pb⟩, pab⟩ := hp
    have hy : own.at_ < y.at_ := by simpa using h2
    have ha : ∀ u ∈ a.map (·.at_), u < own.at_ := fun u hu => by
      obtain ⟨w, hw, rfl⟩ := List.mem_map.1 hu
      have := h3 w hw
      have h5 := hne w (by simp [hw])
      simp at this
      omega
    refine ⟨?_, fun z => ?_, by simp; omega⟩
    · rw [List.pairwise_append, List.pairwise_cons, List.pairwise_cons]
      refine ⟨pa, ⟨fun v hv => ?_, py, pb⟩, fun u hu v hv => ?_⟩
      · rcases List.mem_cons.1 hv with rfl | hv
        · exact hy
        · have := py v hv; omega
      · rcases List.mem_cons.1 hv with rfl | hv
        · exact ha u hu
        · exact pab u hu v hv
    · simp only [List.mem_append, List.mem_cons]
      constructor
      · rintro (h | h | h | h)
        · exact .inr (.inl h)
        · exact .inl h
        · exact .inr (.inr (.inl h))
        · exact .inr (.inr (.inr h))
      · rintro (h | h | h | h)
        · exact .inr (.inl h)
        · exact .inl h
        · exact .inr (.inr (.inl h))
        · exact .inr (.inr (.inr h))
theorem find_stub {l : List Stub} (hp : (l.map (·.at_)).Pairwise (· < ·)) {x : Stub} (hx : x ∈ l) : l.find? (fun s => decide (s.at_ = x.at_)) = some x := by
  obtain ⟨y, hy⟩ := Option.isSome_iff_exists.1 (show (l.find? fun s => decide (s.at_ = x.at_)).isSome = true by
    rw [List.find?_isSome]; exact ⟨x, hx, by simp⟩)
  have h1 := List.mem_of_find?_eq_some hy
  have h2 := List.find?_some hy
  simp only [decide_eq_true_eq] at h2
  rw [hy, map_inj_of_pw hp h1 hx h2]
theorem find_insL {own : Stub} {F : List Stub} (hp : (F.map (·.at_)).Pairwise (· < ·)) (hne : ∀ y ∈ F, y.at_ ≠ own.at_) (z : Int) (hz : z ≠ own.at_) :
    (insL own F).find? (fun s => decide (s.at_ = z)) = F.find? fun s => decide (s.at_ = z) := by
  obtain ⟨p1, p2, _⟩ := insL_form own F hp hne
  cases hf : F.find? (fun s => decide (s.at_ = z)) with
  | none =>
    rw [List.find?_eq_none] at hf ⊢
    intro y hy
    rcases (p2 y).1 hy with rfl | hy
    · simpa using fun e => hz e.symm
    · exact hf y hy
  | some y =>
    have h1 := List.mem_of_find?_eq_some hf
    have h2 := List.find?_some hf
    simp only [decide_eq_true_eq] at h2
    subst h2
    exact find_stub p1 ((p2 y).2 (.inr h1))

/-! ### Ranges -/
instance {h k : Nat} {x : Int} : Decidable (inR h k x) := by unfold inR; infer_instance
theorem inR_up {h k : Nat} {x : Int} (hx : inR h k x) : inR (h + 1) (k / 2) x := by
  rcases Nat.mod_two_eq_zero_or_one k with he | he
  · exact (inR_left (k := k / 2) (by rwa [show 2 * (k / 2) = k by omega])).1
  · exact (inR_right (k := k / 2) (by rwa [show 2 * (k / 2) + 1 = k by omega])).1
theorem inR_climb {h k : Nat} {x : Int} (hx : inR h k x) : ∀ e, inR (h + e) (k / 2 ^ e) x
  | 0 => by simpa using hx
  | e + 1 => by
    have := inR_up (inR_climb hx e)
    rwa [Nat.div_div_eq_div_mul, ← Nat.pow_succ] at this
theorem inR_uniq {h k k' : Nat} {x : Int} (h1 : inR h k x) (h2 : inR h k' x) : k = k' := by
  unfold inR at *
  have hp := pow_pos' (h + 1)
  generalize 2 ^ (h + 1) = q at *
  rcases Nat.lt_trichotomy k k' with hlt | rfl | hgt
  · have := Nat.mul_le_mul_right q (show k + 1 ≤ k' from hlt)
    rw [Nat.add_mul, Nat.one_mul] at this
    omega
  · rfl
  · have := Nat.mul_le_mul_right q (show k' + 1 ≤ k from hgt)
    rw [Nat.add_mul, Nat.one_mul] at this
    omega
theorem sib_half (k : Nat) : sibN k / 2 = k / 2 ∧ sibN k ≠ k := by
  unfold sibN
  split <;> omega
/-- Nodes of the copath have nothing in common. -/
theorem sib_apart {o i j : Nat} {x : Int} (h1 : inR i (sibN (o / 2 ^ i)) x) (h2 : inR j (sibN (o / 2 ^ j)) x) : i = j := by
  have key : ∀ {i j : Nat}, i < j → inR i (sibN (o / 2 ^ i)) x → inR j (sibN (o / 2 ^ j)) x → False := fun {i j} hij h1 h2 => by
    have h3 := inR_climb (inR_up h1) (j - i - 1)
    rw [(sib_half _).1, ← half_pow, Nat.div_div_eq_div_mul, ← Nat.pow_add, show i + 1 + (j - i - 1) = j by omega] at h3
    exact (sib_half (o / 2 ^ j)).2 (inR_uniq h2 h3)
  rcases Nat.lt_trichotomy i j with h | h | h
  · exact (key h h1 h2).elim
  · exact h
  · exact (key h h2 h1).elim
theorem path_apart {o i j : Nat} (h1 : inR i (sibN (o / 2 ^ i)) (nd j (o / 2 ^ j))) : False := by
  obtain ⟨h2, h3⟩ := inR_nd.1 h1
  rw [Nat.div_div_eq_div_mul, ← Nat.pow_add, show j + (i - j) = i by omega] at h3
  exact (sib_half (o / 2 ^ i)).2 h3.symm
theorem inR_node {d : Nat} (hd : d ≤ 16) {x : Int} (h : inR d 0 x) : nodeI x = true := by
  have := Nat.pow_le_pow_right (n := 2) (by omega) (show d + 1 ≤ 17 by omega)
  unfold inR at h
  rw [nodeI_iff]
  simp only [Nat.zero_mul, Nat.zero_add] at h
  omega
theorem shP_congr {O O' : List Spot} : ∀ (h k : Nat) (w : Bool) (l : List Int), h ≤ 16 → k < 2 ^ (16 - h) → (∀ z, inR h k z → findS O z = findS O' z) → shP O h k w l = shP O' h k w l
  | 0, _, _, _, _, _, _ => rfl
  | h + 1, k, w, l, hh, hk, hz => by
    have hk2 := kid_lt hh hk
    have kid : ∀ all late j, j < 2 ^ (16 - h) → (∀ z, inR h j z → findS O z = findS O' z) → kidS (fun j w l => shP O h j w l) h all late j = kidS (fun j w l => shP O' h j w l) h all late j := fun all late j hj hzj => by
      unfold kidS
      split
      · exact shP_congr h j true [] (by omega) hj hzj
      · split
        · exact shP_congr h j false late (by omega) hj hzj
        · rfl
    unfold shP
    rw [hz _ (inR_self _ _)]
    cases findS O' (nd (h + 1) k) with
    | none => rfl
    | some n =>
      simp only
      rw [kid _ _ (2 * k) (by omega) fun z h1 => hz z (inR_left h1).1, kid _ _ (2 * k + 1) hk2 fun z h1 => hz z (inR_right h1).1]

/-! ### Shutting -/
/-- What is known of a right tree. -/
structure RightIs (s : Lean_) (d o : Nat) : Prop where
  look : s.lookOk = true
  leaf : leafK s = true
  po : (s.opn.map (·.at_)).Pairwise (· < ·)
  ps : (s.shut.map (·.at_)).Pairwise (· < ·)
  ea : (topS s.opn o d).1 = s.opn.map (·.at_)
  eb : (topS s.opn o d).2 = s.shut.map (·.at_)
  okA : ∀ z ∈ (topS s.opn o d).1, okO s.opn z = true
  okB : ∀ z ∈ (topS s.opn o d).2, stubOk s.shut z = true
  sh : Sh s.opn d 0 (topS s.opn o d).1 (topS s.opn o d).2
theorem right_is {s : Lean_} {d o : Nat} (hd : d ≤ 16) (ho : o < 2 ^ d) (hn : s.leaves = ((2 ^ d : Nat) : Int)) (he : s.own = (o : Int)) : rightP s = true ↔ RightIs s d o := by
  have sh := topS_sh s.opn hd ho d (Nat.le_refl _)
  have h0 : o / 2 ^ d = 0 := Nat.div_eq_of_lt ho
  rw [h0] at sh
  rw [rightP_iff s hd ho hn he]
  constructor
  · rintro ⟨hl, hk, hA, hB, hc⟩
    have hl' := hl
    simp only [Lean_.lookOk, Bool.and_eq_true, riseF_iff] at hl'
    obtain ⟨⟨po, no⟩, ps, ns⟩ := hl'
    obtain ⟨la, ea⟩ := rise_sub sh.pa po fun z hz => findS_iff.1 (okO_found (hA z hz))
    obtain ⟨lb, eb⟩ := rise_sub sh.pb ps fun z hz => shutF_iff.1 (by
      have := hB z hz
      unfold stubOk at this
      split at this
      · rename_i h hh; simp [hh]
      · cases this)
    rw [List.length_map] at la ea lb eb
    exact ⟨hl, hk, po, ps, ea (by omega), eb (by omega), hA, hB, sh⟩
  · intro r
    exact ⟨r.look, r.leaf, r.okA, r.okB, by rw [r.ea, r.eb, List.length_map, List.length_map]⟩

section
variable {s : Lean_} {d o i : Nat} {h0 : List UInt8}
theorem shut_look (hd : d ≤ 16) (ho : o < 2 ^ d) (hi : i < d) (z : Int) (hz : nodeI z = true) :
    findS (shutR s (nd i (sibN (o / 2 ^ i))) h0).opn z = if inR i (sibN (o / 2 ^ i)) z then none else findS s.opn z := by
  have hk : sibN (o / 2 ^ i) < 2 ^ (d - i) := sib_lt ho hi
  have := findS_filter (fun y => !underI y (nd i (sibN (o / 2 ^ i)))) s.opn z
  unfold shutR
  simp only
  rw [this]
  have hu := under_inR hd (by omega) hk hz
  by_cases h : inR i (sibN (o / 2 ^ i)) z
  · rw [if_pos h, hu.2 h]; simp
  · have : underI z (nd i (sibN (o / 2 ^ i))) = false := by
      cases hh : underI z (nd i (sibN (o / 2 ^ i))) with
      | false => rfl
      | true => exact absurd (hu.1 hh) h
    rw [if_neg h, this]; simp
theorem kid_node (hd : d ≤ 16) (ho : o < 2 ^ d) {j : Nat} (hj : j < d) {z : Int} (h : inR j (sibN (o / 2 ^ j)) z) : nodeI z = true := by
  have h1 := inR_climb h (d - j)
  rw [show j + (d - j) = d by omega] at h1
  have hs := sib_lt ho hj
  have : sibN (o / 2 ^ j) / 2 ^ (d - j) = 0 := Nat.div_eq_of_lt hs
  rw [this] at h1
  exact inR_node hd h1
theorem shut_kid (hd : d ≤ 16) (ho : o < 2 ^ d) (hi : i < d) {j : Nat} (hj : j < d) : kidT (shutR s (nd i (sibN (o / 2 ^ i))) h0).opn o j = if j = i then ([], [(nd i (sibN (o / 2 ^ i)) : Int)]) else kidT s.opn o j := by
  have hl := fun z hz => shut_look (s := s) (h0 := h0) hd ho hi z hz
  have hs := sib_lt ho hj
  by_cases hji : j = i
  · subst hji
    rw [if_pos rfl]
    unfold kidT
    rw [if_neg]
    rw [found, hl _ (nd_nodeI hd (by omega) hs), if_pos (inR_self _ _)]
    simp
  · rw [if_neg hji]
    have hno : ∀ z, inR j (sibN (o / 2 ^ j)) z → findS (shutR s (nd i (sibN (o / 2 ^ i))) h0).opn z = findS s.opn z := fun z hz => by
      rw [hl z (kid_node hd ho hj hz), if_neg fun h => hji (sib_apart hz h)]
    unfold kidT found
    rw [hno _ (inR_self _ _), shP_congr j _ true [] (by omega) (lt16 hd hs) hno]
theorem shut_mem (hd : d ≤ 16) (ho : o < 2 ^ d) (hi : i < d) (z : Int) :
    (z ∈ (topS (shutR s (nd i (sibN (o / 2 ^ i))) h0).opn o d).1 ↔ z ∈ (topS s.opn o d).1 ∧ ¬ inR i (sibN (o / 2 ^ i)) z) ∧
    (z ∈ (topS (shutR s (nd i (sibN (o / 2 ^ i))) h0).opn o d).2 ↔ z = (nd i (sibN (o / 2 ^ i)) : Int) ∨ (z ∈ (topS s.opn o d).2 ∧ ¬ inR i (sibN (o / 2 ^ i)) z)) := by
  obtain ⟨a1, a2⟩ := topS_mem (shutR s (nd i (sibN (o / 2 ^ i))) h0).opn o d z
  obtain ⟨b1, b2⟩ := topS_mem s.opn o d z
  rw [a1, a2, b1, b2]
  have hk := fun {j : Nat} (hj : j < d) => shut_kid (s := s) (h0 := h0) hd ho hi hj
  constructor
  · constructor
    · rintro (⟨j, hj, rfl⟩ | ⟨j, hj, hz⟩)
      · exact ⟨.inl ⟨j, hj, rfl⟩, path_apart⟩
      · rw [hk hj] at hz
        split at hz
        · simp at hz
        · rename_i hji
          exact ⟨.inr ⟨j, hj, hz⟩, fun h => hji (sib_apart ((kidT_sh s.opn hd ho hj).ra z hz) h)⟩
    · rintro ⟨⟨j, hj, rfl⟩ | ⟨j, hj, hz⟩, hno⟩
      · exact .inl ⟨j, hj, rfl⟩
      · refine .inr ⟨j, hj, ?_⟩
        rw [hk hj, if_neg]
        · exact hz
        · rintro rfl
          exact hno ((kidT_sh s.opn hd ho hj).ra z hz)
  · constructor
    · rintro ⟨j, hj, hz⟩
      rw [hk hj] at hz
      split at hz
      · exact .inl (mem1 hz)
      · rename_i hji
        exact .inr ⟨⟨j, hj, hz⟩, fun h => hji (sib_apart ((kidT_sh s.opn hd ho hj).rb z hz) h)⟩
    · rintro (rfl | ⟨⟨j, hj, hz⟩, hno⟩)
      · exact ⟨i, hi, by rw [hk hi, if_pos rfl]; simp⟩
      · refine ⟨j, hj, ?_⟩
        rw [hk hj, if_neg]
        · exact hz
        · rintro rfl
          exact hno ((kidT_sh s.opn hd ho hj).rb z hz)

/-- A right tree with a node of the copath shut is right. -/
theorem shut_is (hd : d ≤ 16) (ho : o < 2 ^ d) (hn : s.leaves = ((2 ^ d : Nat) : Int)) (he : s.own = (o : Int)) (hi : i < d) (hf : found s.opn (nd i (sibN (o / 2 ^ i))) = true) (hh : h0.length = 32) (r : RightIs s d o) :
    RightIs (shutR s (nd i (sibN (o / 2 ^ i))) h0) d o ∧ ((shutR s (nd i (sibN (o / 2 ^ i))) h0).shut.map (·.at_)).Pairwise (· < ·) ∧ (s.shut.filter fun y => !underI y.at_ (nd i (sibN (o / 2 ^ i)))).length + 1 = (shutR s (nd i (sibN (o / 2 ^ i))) h0).shut.length := by
  have hk : sibN (o / 2 ^ i) < 2 ^ (d - i) := sib_lt ho hi
  obtain ⟨x, hx⟩ : ∃ x : Int, x = (nd i (sibN (o / 2 ^ i)) : Int) := ⟨_, rfl⟩
  have hxn : nodeI x = true := by rw [hx]; exact nd_nodeI hd (by omega) hk
  have hxr : inR i (sibN (o / 2 ^ i)) x := by rw [hx]; exact inR_self _ _
  have hmem := fun z => shut_mem (s := s) (h0 := h0) hd ho hi z
  have hlk := fun z hz => shut_look (s := s) (h0 := h0) hd ho hi z hz
  have hund : ∀ z, nodeI z = true → (underI z x = true ↔ inR i (sibN (o / 2 ^ i)) z) := fun z hz => by rw [hx]; exact under_inR hd (by omega) hk hz
  rw [← hx] at hmem hlk ⊢
  obtain ⟨T, hT⟩ : ∃ T, T = shutR s x h0 := ⟨_, rfl⟩
  have hTo : T.opn = s.opn.filter fun y => !underI y.at_ x := by rw [hT]; rfl
  obtain ⟨F, hF⟩ : ∃ F, F = s.shut.filter fun y => !underI y.at_ x := ⟨_, rfl⟩
  have hTs : T.shut = insL ⟨x, h0⟩ F := by rw [hT, hF]; rfl
  rw [← hT] at hmem hlk ⊢
  rw [← hF]
  have nodeA : ∀ z ∈ (topS s.opn o d).1, nodeI z = true := fun z hz => inR_node hd (r.sh.ra z hz)
  have nodeB : ∀ z ∈ (topS s.opn o d).2, nodeI z = true := fun z hz => inR_node hd (r.sh.rb z hz)
  have pF : (F.map (·.at_)).Pairwise (· < ·) := by
    rw [hF]
    exact r.ps.sublist (List.filter_sublist.map _)
  have hFm : ∀ z, z ∈ F.map (·.at_) ↔ z ∈ (topS s.opn o d).2 ∧ ¬ inR i (sibN (o / 2 ^ i)) z := fun z => by
    rw [hF, r.eb, List.mem_map]
    constructor
    · rintro ⟨y, hy, rfl⟩
      obtain ⟨h1, h2⟩ := List.mem_filter.1 hy
      have hyB : y.at_ ∈ s.shut.map (·.at_) := List.mem_map_of_mem h1
      refine ⟨hyB, fun h => ?_⟩
      rw [(hund _ (nodeB _ (by rw [r.eb]; exact hyB))).2 h] at h2
      cases h2
    · rintro ⟨h1, h2⟩
      obtain ⟨y, hy, rfl⟩ := List.mem_map.1 h1
      refine ⟨y, List.mem_filter.2 ⟨hy, ?_⟩, rfl⟩
      cases hu : underI y.at_ x with
      | false => rfl
      | true => exact absurd ((hund _ (nodeB _ (by rw [r.eb]; exact h1))).1 hu) h2
  have hne : ∀ y ∈ F, y.at_ ≠ x := fun y hy e => ((hFm y.at_).1 (List.mem_map_of_mem hy)).2 (by rw [e]; exact hxr)
  obtain ⟨p1, p2, p3⟩ := insL_form ⟨x, h0⟩ F pF hne
  rw [← hTs] at p1 p2 p3
  have pT : (T.opn.map (·.at_)).Pairwise (· < ·) := by
    rw [hTo]
    exact r.po.sublist (List.filter_sublist.map _)
  have hTm : ∀ z, z ∈ T.opn.map (·.at_) ↔ z ∈ (topS s.opn o d).1 ∧ ¬ inR i (sibN (o / 2 ^ i)) z := fun z => by
    rw [hTo, r.ea, List.mem_map]
    constructor
    · rintro ⟨y, hy, rfl⟩
      obtain ⟨h1, h2⟩ := List.mem_filter.1 hy
      have hyB : y.at_ ∈ s.opn.map (·.at_) := List.mem_map_of_mem h1
      refine ⟨hyB, fun h => ?_⟩
      rw [(hund _ (nodeA _ (by rw [r.ea]; exact hyB))).2 h] at h2
      cases h2
    · rintro ⟨h1, h2⟩
      obtain ⟨y, hy, rfl⟩ := List.mem_map.1 h1
      refine ⟨y, List.mem_filter.2 ⟨hy, ?_⟩, rfl⟩
      cases hu : underI y.at_ x with
      | false => rfl
      | true => exact absurd ((hund _ (nodeA _ (by rw [r.ea]; exact h1))).1 hu) h2
  have shT := topS_sh T.opn hd ho d (Nat.le_refl _)
  have hd0 : o / 2 ^ d = 0 := Nat.div_eq_of_lt ho
  rw [hd0] at shT
  have ea : (topS T.opn o d).1 = T.opn.map (·.at_) := rise_ext shT.pa pT fun z => by rw [(hmem z).1, hTm]
  have eb : (topS T.opn o d).2 = T.shut.map (·.at_) := rise_ext shT.pb p1 fun z => by
    rw [(hmem z).2, List.mem_map]
    constructor
    · rintro (hzx | h)
      · exact ⟨⟨x, h0⟩, (p2 _).2 (.inl rfl), hzx.symm⟩
      · obtain ⟨y, hy, rfl⟩ := List.mem_map.1 ((hFm z).2 h)
        exact ⟨y, (p2 y).2 (.inr hy), rfl⟩
    · rintro ⟨y, hy, rfl⟩
      rcases (p2 y).1 hy with rfl | hy
      · exact .inl rfl
      · exact .inr ((hFm _).1 (List.mem_map_of_mem hy))
  refine ⟨⟨?_, ?_, pT, p1, ea, eb, fun z hz => ?_, fun z hz => ?_, shT⟩, p1, p3.symm⟩
  · simp only [Lean_.lookOk, Bool.and_eq_true, riseF_iff]
    refine ⟨⟨pT, fun z hz => ?_⟩, p1, fun z hz => ?_⟩
    · rw [← ea] at hz; have := inR_pos (shT.ra z hz); omega
    · rw [← eb] at hz; have := inR_pos (shT.rb z hz); omega
  · have hl := r.leaf
    unfold leafK at hl ⊢
    have e2 : T.own = s.own := by rw [hT]; rfl
    have e3 : 2 * s.own = (nd 0 (o / 2 ^ 0) : Int) := by rw [he, Nat.pow_zero, Nat.div_one, nd_zero]; omega
    rw [e2, hlk _ (by rw [e3]; exact nd_nodeI hd (by omega) (by simpa using ho)), if_neg (by rw [e3]; exact path_apart)]
    exact hl
  · obtain ⟨h1, h2⟩ := (hmem z).1.1 hz
    have := r.okA z h1
    unfold okO at this ⊢
    rw [hlk z (nodeA z h1), if_neg h2]
    exact this
  · rcases (hmem z).2.1 hz with hzx | ⟨h1, h2⟩
    · have : shutF T.shut x = some h0 := shutF_own p1 ((p2 ⟨x, h0⟩).2 (.inl rfl))
      unfold stubOk
      rw [hzx, this]
      simpa using hh
    · have := r.okB z h1
      have hzx : z ≠ x := fun e => h2 (by rw [e]; exact hxr)
      have e1 : shutF T.shut z = shutF s.shut z := by
        unfold shutF
        rw [hTs, find_insL pF hne z hzx, hF, stubF_filter (fun y => !underI y x) s.shut z (by
          cases hu : underI z x with
          | false => rfl
          | true => exact absurd ((hund z (nodeB z h1)).1 hu) h2)]
      unfold stubOk at this ⊢
      rw [e1]
      exact this
/-- Its hash is what it was. -/
theorem shut_hash (hd : d ≤ 16) (ho : o < 2 ^ d) (hn : s.leaves = ((2 ^ d : Nat) : Int)) (he : s.own = (o : Int)) (hi : i < d) (hf : found s.opn (nd i (sibN (o / 2 ^ i))) = true) (hh : h0.length = 32) (r : RightIs s d o)
    (hq : h0 = hashP s i (sibN (o / 2 ^ i))) : ∀ h k, h ≤ d → k < 2 ^ (d - h) → (inR i (sibN (o / 2 ^ i)) (nd h k) → (nd h k : Int) = (nd i (sibN (o / 2 ^ i)) : Int)) → hashP (shutR s (nd i (sibN (o / 2 ^ i))) h0) h k = hashP s h k := by
  obtain ⟨rT, p1, p3⟩ := shut_is hd ho hn he hi hf hh r
  have hk : sibN (o / 2 ^ i) < 2 ^ (d - i) := sib_lt ho hi
  have hlk := fun z hz => shut_look (s := s) (h0 := h0) hd ho hi z hz
  have hund : ∀ z, nodeI z = true → (underI z (nd i (sibN (o / 2 ^ i))) = true ↔ inR i (sibN (o / 2 ^ i)) z) := fun z hz => under_inR hd (by omega) hk hz
  have nodeB : ∀ z ∈ (topS s.opn o d).2, nodeI z = true := fun z hz => inR_node hd (r.sh.rb z hz)
  have pF : ((s.shut.filter fun y => !underI y.at_ (nd i (sibN (o / 2 ^ i)))).map (·.at_)).Pairwise (· < ·) := r.ps.sublist (List.filter_sublist.map _)
  have hne : ∀ y ∈ s.shut.filter (fun y => !underI y.at_ (nd i (sibN (o / 2 ^ i)))), y.at_ ≠ (nd i (sibN (o / 2 ^ i)) : Int) := fun y hy e => by
    have h2 := (List.mem_filter.1 hy).2
    rw [e, (hund _ (nd_nodeI hd (by omega) hk)).2 (inR_self _ _)] at h2
    cases h2
  obtain ⟨_, p2, _⟩ := insL_form ⟨(nd i (sibN (o / 2 ^ i)) : Int), h0⟩ _ pF hne
  have stub_self : stubB (shutR s (nd i (sibN (o / 2 ^ i))) h0).shut (nd i (sibN (o / 2 ^ i))) = h0 := by
    have : shutF (shutR s (nd i (sibN (o / 2 ^ i))) h0).shut (nd i (sibN (o / 2 ^ i))) = some h0 := shutF_own p1 ((p2 ⟨(nd i (sibN (o / 2 ^ i)) : Int), h0⟩).2 (.inl rfl))
    exact (shutF_mem this).1
  have stub_else : ∀ z : Int, nodeI z = true → ¬ inR i (sibN (o / 2 ^ i)) z → stubB (shutR s (nd i (sibN (o / 2 ^ i))) h0).shut z = stubB s.shut z := fun z hz hno => by
    have hzx : z ≠ (nd i (sibN (o / 2 ^ i)) : Int) := fun e => hno (by rw [e]; exact inR_self _ _)
    have e1 : (shutR s (nd i (sibN (o / 2 ^ i))) h0).shut.find? (fun t => decide (t.at_ = z)) = s.shut.find? fun t => decide (t.at_ = z) := by
      show (insL _ _).find? _ = _
      rw [find_insL pF hne z hzx, stubF_filter (fun y => !underI y (nd i (sibN (o / 2 ^ i)))) s.shut z (by
        cases hu : underI z (nd i (sibN (o / 2 ^ i))) with
        | false => rfl
        | true => exact absurd ((hund z hz).1 hu) hno)]
    unfold stubB
    rw [e1]
  have at_x : ∀ h k, h ≤ d → (nd h k : Int) = (nd i (sibN (o / 2 ^ i)) : Int) → hashP (shutR s (nd i (sibN (o / 2 ^ i))) h0) h k = hashP s h k := fun h k hhd e => by
    obtain ⟨rfl, rfl⟩ := nd_inj (by omega) (by omega) (Int.ofNat.inj e)
    have hnone : findS (shutR s (nd h (sibN (o / 2 ^ h))) h0).opn (nd h (sibN (o / 2 ^ h))) = none := by
      rw [hlk _ (nd_nodeI hd (by omega) hk), if_pos (inR_self _ _)]
    rw [← hq]
    cases h with
    | zero => simp only [hashP, hnone]; exact stub_self
    | succ h => simp only [hashP, hnone]; exact stub_self
  intro h
  induction h with
  | zero =>
    intro k hhd hkk hz
    by_cases hin : inR i (sibN (o / 2 ^ i)) (nd 0 k)
    · exact at_x 0 k hhd (hz hin)
    · have hnn := nd_nodeI hd hhd hkk
      have e1 := hlk _ hnn
      rw [if_neg hin] at e1
      simp only [hashP, e1]
      cases findS s.opn (nd 0 k) with
      | none => exact stub_else _ hnn hin
      | some n => rfl
  | succ h ih =>
    intro k hhd hkk hz
    by_cases hin : inR i (sibN (o / 2 ^ i)) (nd (h + 1) k)
    · exact at_x (h + 1) k hhd (hz hin)
    · have hnn := nd_nodeI hd hhd hkk
      have hk2 : 2 ^ (d - h) = 2 * 2 ^ (d - (h + 1)) := by rw [show d - h = (d - (h + 1)) + 1 by omega, Nat.pow_succ]; omega
      have e1 := hlk _ hnn
      rw [if_neg hin] at e1
      have kid : ∀ j, j / 2 = k → inR i (sibN (o / 2 ^ i)) (nd h j) → (nd h j : Int) = (nd i (sibN (o / 2 ^ i)) : Int) := fun j hj hr => by
        obtain ⟨h1, h2⟩ := inR_nd.1 hr
        rcases Nat.eq_or_lt_of_le h1 with rfl | hlt
        · rw [Nat.sub_self, Nat.pow_zero, Nat.div_one] at h2
          rw [h2]
        · exfalso
          refine hin (inR_nd.2 ⟨hlt, ?_⟩)
          rw [← hj, Nat.div_div_eq_div_mul, ← h2, show i - h = (i - (h + 1)) + 1 by omega, Nat.pow_succ, Nat.mul_comm]
      have a1 := ih (2 * k) (by omega) (by omega) (kid _ (by omega))
      have a2 := ih (2 * k + 1) (by omega) (by omega) (kid _ (by omega))
      simp only [hashP, e1, a1, a2]
      cases findS s.opn (nd (h + 1) k) with
      | none => exact stub_else _ hnn hin
      | some n => rfl
theorem shut_hash_root (hd : d ≤ 16) (ho : o < 2 ^ d) (hn : s.leaves = ((2 ^ d : Nat) : Int)) (he : s.own = (o : Int)) (hi : i < d) (hf : found s.opn (nd i (sibN (o / 2 ^ i))) = true) (hh : h0.length = 32) (r : RightIs s d o)
    (hq : h0 = hashP s i (sibN (o / 2 ^ i))) : hashP (shutR s (nd i (sibN (o / 2 ^ i))) h0) d 0 = hashP s d 0 :=
  shut_hash hd ho hn he hi hf hh r hq d 0 (Nat.le_refl _) (pow_pos' _) fun h => absurd (inR_nd.1 h).1 (by omega)
end
end Go.Proofs.YtpdllgbfemnemaaGreat.Sx
end

section
namespace Go.Proofs.YtpdllgbfemnemaaGreat.Sx
open Go.RowKit
set_option linter.unusedVariables false

/-- The stride of a level. -/
def strI (l : Int) : Int × Int := if l % 2 = 0 then (0, 2 ^ ((l - 1) / 2).toNat) else (2 ^ ((l - 1) / 2).toNat, 0)
theorem strI_bd {l : Int} (h : 1 ≤ l ∧ l ≤ 16) : 0 ≤ (strI l).1 ∧ (strI l).1 ≤ 128 ∧ 0 ≤ (strI l).2 ∧ (strI l).2 ≤ 128 := by
  have : l = 1 ∨ l = 2 ∨ l = 3 ∨ l = 4 ∨ l = 5 ∨ l = 6 ∨ l = 7 ∨ l = 8 ∨ l = 9 ∨ l = 10 ∨ l = 11 ∨ l = 12 ∨ l = 13 ∨ l = 14 ∨ l = 15 ∨ l = 16 := by omega
  rcases this with rfl | rfl | rfl | rfl | rfl | rfl | rfl | rfl | rfl | rfl | rfl | rfl | rfl | rfl | rfl | rfl <;> decide
/-- What one node of the path does. -/
def dX (x p : Int) : Int := if x < p then -(strI (lvI p)).1 else (strI (lvI p)).1
def dY (x p : Int) : Int := if x < p then -(strI (lvI p)).2 else (strI (lvI p)).2
theorem dX_bd {x p : Int} (h : 1 ≤ lvI p ∧ lvI p ≤ 16) : -128 ≤ dX x p ∧ dX x p ≤ 128 := by
  have := strI_bd h; unfold dX; split <;> omega
theorem dY_bd {x p : Int} (h : 1 ≤ lvI p ∧ lvI p ≤ 16) : -128 ≤ dY x p ∧ dY x p ≤ 128 := by
  have := strI_bd h; unfold dY; split <;> omega
theorem sumD_bd {f : Int → Int} : ∀ {l : List Int}, (∀ x ∈ l, -128 ≤ f x ∧ f x ≤ 128) → -(128 * (l.length : Int)) ≤ sumI f l ∧ sumI f l ≤ 128 * (l.length : Int)
  | [], _ => by simp [sumI]
  | x :: l, h => by
    have h1 := h x (by simp)
    have h2 := sumD_bd (l := l) fun y hy => h y (by simp [hy])
    simp only [sumI, List.length_cons]
    omega
theorem sumI_snoc {f : Int → Int} {l : List Int} {j : Nat} (hj : j < l.length) : sumI f (l.take (j + 1)) = sumI f (l.take j) + f l[j] := by
  rw [List.take_add_one, List.getElem?_eq_getElem hj, sumI_append]
  simp [sumI]
def posX (x n : Int) : Int := sumI (dX x) (pathI x n)
def posY (x n : Int) : Int := sumI (dY x) (pathI x n)

theorem path_level {d h k : Nat} (hd : d ≤ 16) (hh : h ≤ d) (hk : k < 2 ^ (d - h)) : ∀ p ∈ pathI (nd h k : Int) ((2 ^ d : Nat) : Int), 1 ≤ lvI p ∧ lvI p ≤ 16 := by
  rw [pathI_nd hd hh hk, upT_range, List.range_succ_eq_map, List.map_cons, List.tail_cons, List.map_map, List.map_map]
  intro p hp
  obtain ⟨i, hi, rfl⟩ := List.mem_map.1 hp
  rw [List.mem_range] at hi
  have hki : k / 2 ^ (i + 1) < 2 ^ (d - (h + (i + 1))) := by
    rw [Nat.div_lt_iff_lt_mul (pow_pos' (i + 1)), ← Nat.pow_add, show d - (h + (i + 1)) + (i + 1) = d - h by omega]
    exact hk
  have := lvI_nd hd (show h + (i + 1) ≤ d by omega) hki
  show 1 ≤ lvI (nd (h + (i + 1)) (k / 2 ^ (i + 1)) : Int) ∧ lvI (nd (h + (i + 1)) (k / 2 ^ (i + 1)) : Int) ≤ 16
  rw [this]
  omega
theorem path_level' {x n : Int} (h : ofI x n = true) : ∀ p ∈ pathI x n, 1 ≤ lvI p ∧ lvI p ≤ 16 := by
  obtain ⟨d, h, k, hd, rfl, hh, hk, rfl⟩ := of_form h
  exact path_level hd hh hk
theorem pos_bd {x n : Int} (h : ofI x n = true) : (-2048 ≤ posX x n ∧ posX x n ≤ 2048) ∧ (-2048 ≤ posY x n ∧ posY x n ≤ 2048) := by
  have hl := path_level' h
  have hlen : (pathI x n).length ≤ 16 := by
    obtain ⟨d, h, k, hd, rfl, hh, hk, rfl⟩ := of_form h
    rw [pathI_nd hd hh hk, List.length_map, List.length_tail, upT_len]; omega
  have h1 := sumD_bd (f := dX x) (l := pathI x n) fun p hp => dX_bd (hl p hp)
  have h2 := sumD_bd (f := dY x) (l := pathI x n) fun p hp => dY_bd (hl p hp)
  unfold posX posY
  omega
/-- A part of a path's sum. -/
theorem part_bd {x n : Int} (h : ofI x n = true) (j : Nat) : (-2048 ≤ sumI (dX x) ((pathI x n).take j) ∧ sumI (dX x) ((pathI x n).take j) ≤ 2048) ∧ (-2048 ≤ sumI (dY x) ((pathI x n).take j) ∧ sumI (dY x) ((pathI x n).take j) ≤ 2048) := by
  have hl := path_level' h
  have hlen : (pathI x n).length ≤ 16 := by
    obtain ⟨d, h, k, hd, rfl, hh, hk, rfl⟩ := of_form h
    rw [pathI_nd hd hh hk, List.length_map, List.length_tail, upT_len]; omega
  have ht : ((pathI x n).take j).length ≤ 16 := by rw [List.length_take]; omega
  have h1 := sumD_bd (f := dX x) (l := (pathI x n).take j) fun p hp => dX_bd (hl p (List.mem_of_mem_take hp))
  have h2 := sumD_bd (f := dY x) (l := (pathI x n).take j) fun p hp => dY_bd (hl p (List.mem_of_mem_take hp))
  omega

/-! ### The farthest -/
def gapI (x y n : Int) : Int := (posX x n - posX y n) * (posX x n - posX y n) + (posY x n - posY y n) * (posY x n - posY y n)
theorem sq_bd {a : Int} (h : -4096 ≤ a ∧ a ≤ 4096) : 0 ≤ a * a ∧ a * a ≤ 16777216 := by
  have h1 : a * a = ((a.natAbs * a.natAbs : Nat) : Int) := (Int.natAbs_mul_self' a).symm ▸ by simp
  have h2 : a.natAbs * a.natAbs ≤ 4096 * 4096 := Nat.mul_le_mul (by omega) (by omega)
  rw [h1]
  omega
theorem gap_bd {x y n : Int} (hx : ofI x n = true) (hy : ofI y n = true) : 0 ≤ gapI x y n ∧ gapI x y n ≤ 33554432 := by
  have h1 := pos_bd hx
  have h2 := pos_bd hy
  have h3 := sq_bd (a := posX x n - posX y n) (by omega)
  have h4 := sq_bd (a := posY x n - posY y n) (by omega)
  unfold gapI
  omega
def farS (g : Int → Int) (a : Int × Int) (x : Int) : Int × Int := if g x > a.2 then (x, g x) else a
def farL (g : Int → Int) (l : List Int) : Int × Int := l.foldl (farS g) (0, -1)
/-- What the fold has found. -/
def FarI (g : Int → Int) (l : List Int) (i : Nat) : Prop := ∃ hi : i < l.length, (∀ k (hk : k < l.length), g l[k] ≤ g l[i]) ∧ ∀ k (hk : k < i), g (l[k]'(by omega)) < g l[i]
theorem far_snoc (g : Int → Int) (l : List Int) (x : Int) : farL g (l ++ [x]) = farS g (farL g l) x := by simp [farL]
theorem far_found (g : Int → Int) : ∀ (n : Nat) (l : List Int), l.length = n → (∀ x ∈ l, 0 ≤ g x) → (l = [] ∧ farL g l = (0, -1)) ∨ ∃ i, ∃ hi : i < l.length, FarI g l i ∧ farL g l = (l[i], g l[i])
  | 0, l, hl, _ => .inl ⟨List.eq_nil_of_length_eq_zero hl, by rw [List.eq_nil_of_length_eq_zero hl]; rfl⟩
  | n + 1, l, hl, h0 => by
    right
    obtain ⟨m, x, rfl⟩ : ∃ m x, l = m ++ [x] := ⟨l.dropLast, l.getLast (by intro e; rw [e] at hl; simp at hl), (List.dropLast_concat_getLast _).symm⟩
    have hm : m.length = n := by simpa using hl
    have hx0 := h0 x (by simp)
    rw [far_snoc]
    rcases far_found g n m hm fun y hy => h0 y (by simp [hy]) with ⟨rfl, he⟩ | ⟨i, hi, ⟨_, h1, h2⟩, he⟩
    · refine ⟨0, by simp, ⟨by simp, fun k hk => ?_, fun k hk => by omega⟩, ?_⟩
      · have : k = 0 := by simp at hk; omega
        subst this; exact Int.le_refl _
      · rw [he]; unfold farS; rw [if_pos (by simp only; omega)]; simp
    · by_cases hgt : g x > g m[i]
      · refine ⟨m.length, by simp, ⟨by simp, fun k hk => ?_, fun k hk => ?_⟩, ?_⟩
        · rw [List.getElem_append_right (Nat.le_refl _)]
          simp only [Nat.sub_self, List.getElem_cons_zero]
          rcases Nat.lt_or_ge k m.length with hkm | hkm
          · rw [List.getElem_append_left hkm]; have := h1 k hkm; omega
          · have : k = m.length := by simp at hk; omega
            subst this
            rw [List.getElem_append_right (Nat.le_refl _)]
            simp
        · rw [List.getElem_append_right (Nat.le_refl _), List.getElem_append_left hk]
          simp only [Nat.sub_self, List.getElem_cons_zero]
          have := h1 k hk; omega
        · rw [he]; unfold farS; rw [if_pos hgt]
          rw [List.getElem_append_right (Nat.le_refl _)]
          simp
      · refine ⟨i, by simp; omega, ⟨by simp; omega, fun k hk => ?_, fun k hk => ?_⟩, ?_⟩
        · rw [List.getElem_append_left hi]
          rcases Nat.lt_or_ge k m.length with hkm | hkm
          · rw [List.getElem_append_left hkm]; exact h1 k hkm
          · have : k = m.length := by simp at hk; omega
            subst this
            rw [List.getElem_append_right (Nat.le_refl _)]
            simp
            omega
        · rw [List.getElem_append_left hi, List.getElem_append_left (by omega)]
          exact h2 k hk
        · rw [he]; unfold farS; rw [if_neg hgt]
          rw [List.getElem_append_left hi]
end Go.Proofs.YtpdllgbfemnemaaGreat.Sx
end

section
namespace Go.Proofs.YtpdllgbfemnemaaGreat.Sx
open Go.RowKit
set_option linter.unusedVariables false

theorem g_planof (x n : Int) : Gives Tryz.prog 147 [I x, I n] (.r (.b (ofI x n))) := by
  refine gives_of_vcg (T := Tab) mixed Tab_ok Tryz.func147 rfl (by kernel_rfl) ?_
  refine Vcall.bool (g_fits n) (fun h => ?_) (fun h => ?_)
  · have hb := fits_bd h
    refine Vcmp.split (fun h2 => ?_) (fun h2 => ?_)
    · simp only [beq_iff_eq, bne_iff_ne, beq_eq_false_iff_ne, bne_eq_false_iff_eq, decide_eq_true_eq, decide_eq_false_iff_not, Bool.not_eq_true', Bool.not_eq_false', ne_eq] at h2
      refine Vint.i64 rfl (by omega) ?_
      refine Vint.i64 rfl (by omega) ?_
      refine Vcmp.mk' rfl (Cv.of_eq (congrArg RV.b ?_))
      rw [Bool.eq_iff_iff, ofI_iff, decide_eq_true_eq]
      exact ⟨fun h3 => ⟨h, by omega, h3⟩, fun h3 => h3.2.2⟩
    · simp only [beq_iff_eq, bne_iff_ne, beq_eq_false_iff_ne, bne_eq_false_iff_eq, decide_eq_true_eq, decide_eq_false_iff_not, Bool.not_eq_true', Bool.not_eq_false', ne_eq] at h2
      refine Cv.of_eq (congrArg RV.b ?_)
      cases ho : ofI x n with
      | false => rfl
      | true => rw [ofI_iff] at ho; omega
  · refine Cv.of_eq (congrArg RV.b ?_)
    cases ho : ofI x n with
    | false => rfl
    | true => rw [ofI_iff, h] at ho; cases ho.1
theorem und_f64 : Tryz.prog.underlying 193 = some (.float .f64) := Tryz.underlying193
theorem g_stride (l : Int) (h : 1 ≤ l ∧ l ≤ 16) : Gives Tryz.prog 197 [I l] (.r (C2 (strI l).1 (strI l).2)) := by
  refine gives_of_vcg (T := Tab) mixed Tab_ok Tryz.func197 rfl (by kernel_rfl) ?_
  have hb := strI_bd h
  obtain ⟨m, hm⟩ : ∃ m : Nat, (l - 1) / 2 = (m : Int) := ⟨((l - 1) / 2).toNat, by omega⟩
  have hm7 : m ≤ 7 := by omega
  have hp : (2 : Int) ^ m ≤ 128 ∧ 0 ≤ (2 : Int) ^ m := by
    have : m = 0 ∨ m = 1 ∨ m = 2 ∨ m = 3 ∨ m = 4 ∨ m = 5 ∨ m = 6 ∨ m = 7 := by omega
    rcases this with rfl | rfl | rfl | rfl | rfl | rfl | rfl | rfl <;> decide
  refine Vcmp.f (by simp; omega) ?_
  refine Vcmp.f (by simp; omega) (Vif.f ?_)
  refine Vint.i64 rfl (by omega) ?_
  refine ⟨by decide, (m : Int), ?_, ?_⟩
  · rw [Int.tdiv_eq_ediv_of_nonneg (by omega), hm]; exact wrap_i64 (by omega)
  refine ⟨by omega, 2 ^ m, ?_, ?_⟩
  · have : min (m : Int).toNat IntKind.i64.bits = m := by simp [IntKind.bits]; omega
    rw [this, Int.one_mul]; exact wrap_i64 (by omega)
  refine Vfun.i2f rfl ⟨_, Tryz.underlying3⟩ und_f64 rfl ?_
  refine Vfun.complex rfl rfl rfl ?_
  refine ⟨by decide, l % 2, by rw [Int.tmod_eq_emod_of_nonneg (by omega)], ?_⟩
  have e1 : (strI l) = if l % 2 = 0 then (0, 2 ^ m) else (2 ^ m, 0) := by
    unfold strI; rw [hm, Int.toNat_natCast]
  refine Vcmp.split (fun h2 => Vif.t ?_) (fun h2 => Vif.f ?_)
  · simp only [beq_iff_eq, bne_iff_ne, beq_eq_false_iff_ne, bne_eq_false_iff_eq, decide_eq_true_eq, decide_eq_false_iff_not, Bool.not_eq_true', Bool.not_eq_false', ne_eq] at h2
    refine Vfun.ctimes (re := fl 0) (im := fl (2 ^ m)) rfl rfl rfl ?_ ?_
    · have := times_i (a := 2 ^ m) hp.2 (by omega)
      rw [fl_zero, fl_one] at this
      exact this
    · refine Cv.of_eq ?_
      rw [e1, if_pos h2]
  · simp only [beq_iff_eq, bne_iff_ne, beq_eq_false_iff_ne, bne_eq_false_iff_eq, decide_eq_true_eq, decide_eq_false_iff_not, Bool.not_eq_true', Bool.not_eq_false', ne_eq] at h2
    refine Cv.of_eq ?_
    rw [e1, if_neg h2]
    show RV.x (.complex .f64 _ 0) = RV.x (.complex .f64 _ (fl 0))
    rw [fl_zero]
theorem c2_zero : RV.x (.complex .f64 0 0) = C2 0 0 := by
  show _ = RV.x (.complex .f64 (fl 0) (fl 0))
  rw [fl_zero]
theorem g_place (x n : Int) (ho : ofI x n = true) : Gives Tryz.prog 177 [I x, I n] (.r (.tu [C2 (posX x n) (posY x n), .b true])) := by
  refine gives_of_vcg (T := Tab) mixed Tab_ok Tryz.func177 rfl (by kernel_rfl) ?_
  have hof := g_planof x n
  rw [ho] at hof
  refine Vcall.go hof ?_
  refine Vcmp.f rfl (Vif.f ?_)
  refine Vcall.go (g_path x n) ?_
  have hlv := path_level' ho
  have hlen : (pathI x n).length ≤ 16 := by
    obtain ⟨d, h, k, hd, rfl, hh, hk, rfl⟩ := of_form ho
    rw [pathI_nd hd hh hk, List.length_map, List.length_tail, upT_len]; omega
  have hpart := part_bd ho
  unfold posX posY
  obtain ⟨L, hL⟩ : ∃ L, L = pathI x n := ⟨_, rfl⟩
  rw [← hL] at hlv hlen hpart ⊢
  refine Vloop.mk' (fun j : Nat => { F := [(0, .r (I x)), (6, .r (C2 (sumI (dX x) (L.take j)) (sumI (dY x) (L.take j)))), (15, .r (is L)), (16, .r (I L.length)), (17, .r (I j))], O := [], nx := 0 }) (fun j => j ≤ L.length) (fun j => L.length - j) 0 (by omega)
    (sub_of [] rfl ⟨Cv.refl _, Cv.of_eq c2_zero, Cv.refl _, Cv.refl _, Cv.refl _, trivial⟩ trivial) ?_
  intro j hj
  have hb := hpart j
  refine Vcmp.split (fun h => Vif.t ?_) (fun h => Vif.f ?_)
  · simp only [beq_iff_eq, bne_iff_ne, beq_eq_false_iff_ne, bne_eq_false_iff_eq, decide_eq_true_eq, decide_eq_false_iff_not, Bool.not_eq_true', Bool.not_eq_false', ne_eq] at h
    have hj' : j < L.length := by omega
    have hl := hlv _ (List.getElem_mem hj')
    have hs := strI_bd hl
    have hx := sumI_snoc (f := dX x) hj'
    have hy := sumI_snoc (f := dY x) hj'
    refine Vidx.mk' (by omega) (by omega) (idx_map rfl hj') (Vload1.mk' rfl ?_)
    refine Vcmp.split (fun h2 => Vif.t ?_) (fun h2 => Vif.f ?_)
    · simp only [beq_iff_eq, bne_iff_ne, beq_eq_false_iff_ne, bne_eq_false_iff_eq, decide_eq_true_eq, decide_eq_false_iff_not, Bool.not_eq_true', Bool.not_eq_false', ne_eq] at h2
      refine Vcall.go (g_level _) ?_
      refine Vcall.go (g_stride _ hl) ?_
      refine Vfun.csub rfl rfl rfl (by omega) (by omega) (by omega) (by omega) ?_
      refine Vint.i64 (m := ((j + 1 : Nat) : Int)) (by omega) (by omega) ?_
      refine ⟨j + 1, hj', by omega, sub_of [] rfl ⟨Cv.refl _, Cv.of_eq ?_, Cv.refl _, Cv.refl _, Cv.refl _, trivial⟩ trivial⟩
      have e1 : dX x L[j] = -(strI (lvI L[j])).1 := by unfold dX; rw [if_pos h2]
      have e2 : dY x L[j] = -(strI (lvI L[j])).2 := by unfold dY; rw [if_pos h2]
      rw [hx, hy, e1, e2, ← Int.sub_eq_add_neg, ← Int.sub_eq_add_neg]
    · simp only [beq_iff_eq, bne_iff_ne, beq_eq_false_iff_ne, bne_eq_false_iff_eq, decide_eq_true_eq, decide_eq_false_iff_not, Bool.not_eq_true', Bool.not_eq_false', ne_eq] at h2
      refine Vcall.go (g_level _) ?_
      refine Vcall.go (g_stride _ hl) ?_
      refine Vfun.cadd rfl rfl rfl (by omega) (by omega) (by omega) (by omega) ?_
      refine Vint.i64 (m := ((j + 1 : Nat) : Int)) (by omega) (by omega) ?_
      refine ⟨j + 1, hj', by omega, sub_of [] rfl ⟨Cv.refl _, Cv.of_eq ?_, Cv.refl _, Cv.refl _, Cv.refl _, trivial⟩ trivial⟩
      have e1 : dX x L[j] = (strI (lvI L[j])).1 := by unfold dX; rw [if_neg h2]
      have e2 : dY x L[j] = (strI (lvI L[j])).2 := by unfold dY; rw [if_neg h2]
      rw [hx, hy, e1, e2]
  · simp only [beq_iff_eq, bne_iff_ne, beq_eq_false_iff_ne, bne_eq_false_iff_eq, decide_eq_true_eq, decide_eq_false_iff_not, Bool.not_eq_true', Bool.not_eq_false', ne_eq] at h
    rw [List.take_of_length_le (by omega)]
    exact ⟨_, rfl, Cv.refl _⟩
theorem g_gap (x y n : Int) (hx : ofI x n = true) (hy : ofI y n = true) : Gives Tryz.prog 149 [I x, I y, I n] (.r (.tu [I (gapI x y n), .b true])) := by
  refine gives_of_vcg (T := Tab) mixed Tab_ok Tryz.func149 rfl (by kernel_rfl) ?_
  have bx := pos_bd hx
  have by_ := pos_bd hy
  have hg := gap_bd hx hy
  obtain ⟨z, hz⟩ := conj_fl (a := posX x n - posX y n) (b := posY x n - posY y n) (by omega) (by omega)
  refine Vcall.go (g_place x n hx) ?_
  refine Vcall.go (g_place y n hy) ?_
  refine Vcmp.f rfl ?_
  refine Vcmp.f rfl (Vif.f ?_)
  refine Vfun.csub rfl rfl rfl (by omega) (by omega) (by omega) (by omega) ?_
  refine Vfun.real rfl rfl ?_
  refine Vfun.imag rfl rfl ?_
  refine Vfun.neg rfl rfl ?_
  refine Vfun.complex rfl rfl rfl ?_
  refine Vfun.ctimes rfl rfl rfl hz ?_
  refine Vfun.real rfl rfl ?_
  refine Vfun.f2i (n := gapI x y n) rfl und_f64 Tryz.underlying3 rfl hg.1 (by omega) ?_
  exact ⟨_, rfl, Cv.refl _⟩
theorem g_far1 (x n : Int) : Gives Tryz.prog 148 [I x, .ptr [I n]] (.r (.b (!ofI x n))) := by
  refine gives_of_vcg (T := Tab) mixed Tab_ok Tryz.func148 rfl (by kernel_rfl) ?_
  refine Vload1.mk' rfl ?_
  refine Vcall.go (g_planof x n) ?_
  exact Vcmp.mk' rfl (Cv.refl _)
theorem g_far (x n : Int) (l : List Int) (hl : l.length ≤ 1000000) (hne : l ≠ []) (hx : ofI x n = true) (hall : ∀ y ∈ l, ofI y n = true) :
    Gives Tryz.prog 110 [I x, is l, I n] (.r (.tu [I (farL (fun y => gapI x y n) l).1, .b true])) := by
  refine gives_of_vcg (T := Tab) mixed Tab_ok Tryz.func110 rfl (by kernel_rfl) ?_
  have hof := g_planof x n
  rw [hx] at hof
  refine Vcall.go hof ?_
  refine Vcmp.f rfl ?_
  have hlp : 0 < l.length := List.length_pos_iff.2 hne
  refine Vcmp.f (by simp; omega) ?_
  refine Vstep.sub (sub_pub (t := 5) [I n] rfl rfl) (Vstep.mkfun I (fun _ => True) (fun y => !ofI y n) rfl rfl (fun y _ => g_far1 y n) ?_)
  have hany : l.any (fun y => !ofI y n) = false := by
    rw [List.any_eq_false]
    intro y hy; simp [hall y hy]
  have hcf := g_containsfunc l (fun _ => True) (fun y => !ofI y n) (by omega) fun _ _ => trivial
  rw [hany] at hcf
  refine Vcall.go hcf ?_
  refine Vif.f ?_
  obtain ⟨g, hgd⟩ : ∃ g : Int → Int, g = fun y => gapI x y n := ⟨_, rfl⟩
  rw [← hgd]
  refine Vloop.mk' (fun j : Nat => { F := [(0, .r (I x)), (5, .r (.ptr [I n])), (8, .r (I (farL g (l.take j)).1)), (9, .r (I (farL g (l.take j)).2)), (28, .r (is l)), (29, .r (I l.length)), (30, .r (I j))], O := [], nx := 0 }) (fun j => j ≤ l.length) (fun j => l.length - j) 0 (by omega)
    (sub_of [] rfl ⟨Cv.refl _, Cv.refl _, Cv.refl _, Cv.refl _, Cv.refl _, Cv.refl _, Cv.refl _, trivial⟩ trivial) ?_
  intro j hj
  refine Vcmp.split (fun h => Vif.t ?_) (fun h => Vif.f ?_)
  · simp only [beq_iff_eq, bne_iff_ne, beq_eq_false_iff_ne, bne_eq_false_iff_eq, decide_eq_true_eq, decide_eq_false_iff_not, Bool.not_eq_true', Bool.not_eq_false', ne_eq] at h
    have hj' : j < l.length := by omega
    have hsn : farL g (l.take (j + 1)) = farS g (farL g (l.take j)) l[j] := by
      rw [List.take_add_one, List.getElem?_eq_getElem hj']
      exact far_snoc g _ _
    refine Vidx.mk' (by omega) (by omega) (idx_map rfl hj') (Vload1.mk' rfl ?_)
    refine Vload1.mk' rfl ?_
    refine Vcall.go (g_gap x l[j] n hx (hall _ (List.getElem_mem hj'))) ?_
    refine Vcmp.split (fun h2 => Vif.t ?_) (fun h2 => Vif.f ?_)
    · simp only [beq_iff_eq, bne_iff_ne, beq_eq_false_iff_ne, bne_eq_false_iff_eq, decide_eq_true_eq, decide_eq_false_iff_not, Bool.not_eq_true', Bool.not_eq_false', ne_eq] at h2
      refine Vint.i64 (m := ((j + 1 : Nat) : Int)) (by omega) (by omega) ?_
      have e : farL g (l.take (j + 1)) = (l[j], g l[j]) := by rw [hsn]; unfold farS; rw [if_pos (by subst hgd; exact h2)]
      refine ⟨j + 1, hj', by omega, sub_of [] rfl ⟨Cv.refl _, Cv.refl _, Cv.of_eq (by rw [e]), Cv.of_eq (by rw [e, hgd]), Cv.refl _, Cv.refl _, Cv.refl _, trivial⟩ trivial⟩
    · simp only [beq_iff_eq, bne_iff_ne, beq_eq_false_iff_ne, bne_eq_false_iff_eq, decide_eq_true_eq, decide_eq_false_iff_not, Bool.not_eq_true', Bool.not_eq_false', ne_eq] at h2
      refine Vint.i64 (m := ((j + 1 : Nat) : Int)) (by omega) (by omega) ?_
      have e : farL g (l.take (j + 1)) = farL g (l.take j) := by rw [hsn]; unfold farS; rw [if_neg (by subst hgd; exact h2)]
      refine ⟨j + 1, hj', by omega, sub_of [] rfl ⟨Cv.refl _, Cv.refl _, Cv.of_eq (by rw [e]), Cv.of_eq (by rw [e]), Cv.refl _, Cv.refl _, Cv.refl _, trivial⟩ trivial⟩
  · simp only [beq_iff_eq, bne_iff_ne, beq_eq_false_iff_ne, bne_eq_false_iff_eq, decide_eq_true_eq, decide_eq_false_iff_not, Bool.not_eq_true', Bool.not_eq_false', ne_eq] at h
    rw [List.take_of_length_le (by omega)]
    exact ⟨_, rfl, Cv.refl _⟩
end Go.Proofs.YtpdllgbfemnemaaGreat.Sx
end

section
namespace Go.Proofs.YtpdllgbfemnemaaGreat.Sx
open Go.RowKit
set_option linter.unusedVariables false

abbrev d3r (t : D3) : List RV := [I t.at_, I t.lo, I t.hi]
def ds (l : List D3) : RV := .sl 3 l.length (l.flatMap d3r)
end Go.Proofs.YtpdllgbfemnemaaGreat.Sx
end

section
namespace Go.Proofs.YtpdllgbfemnemaaGreat.Sx
open Go.RowKit
set_option linter.unusedVariables false

def whichL (s : Lean_) (pick : Int) : Int :=
  if openedF s true = [] then -1
  else if 0 ≤ pick then (openedF s true).getD (pick % (openedF s true).length).toNat 0
  else (farL (fun y => gapI (2 * s.own) y s.leaves) (openedF s true)).1
theorem opened_of {s : Lean_} (hf : fitsI s.leaves = true) (h0 : 0 ≤ s.own) (h1 : s.own < s.leaves) : ofI (2 * s.own) s.leaves = true ∧ ∀ y ∈ openedF s true, ofI y s.leaves = true := by
  obtain ⟨d, o, hd, hn, ho, he, _⟩ := own_form hf h0 h1
  refine ⟨?_, fun y hy => ?_⟩
  · rw [ofI_iff]; exact ⟨hf, by omega, by omega⟩
  · obtain ⟨i, hi, rfl, _⟩ := (mem_opened hd ho hn he y).1 hy
    rw [hn]
    exact of_nd hd (by omega) (sib_lt ho hi)
theorem which_mem {s : Lean_} (hf : fitsI s.leaves = true) (h0 : 0 ≤ s.own) (h1 : s.own < s.leaves) (hne : openedF s true ≠ []) (pick : Int) : whichL s pick ∈ openedF s true := by
  obtain ⟨hx, hall⟩ := opened_of hf h0 h1
  have hlp : 0 < (openedF s true).length := List.length_pos_iff.2 hne
  unfold whichL
  rw [if_neg hne]
  split
  · have hlt : (pick % (openedF s true).length).toNat < (openedF s true).length := by
      have := Int.emod_lt_of_pos pick (show (0 : Int) < (openedF s true).length by omega)
      have := Int.emod_nonneg pick (show ((openedF s true).length : Int) ≠ 0 by omega)
      omega
    rw [List.getD_eq_getElem?_getD, List.getElem?_eq_getElem hlt]
    exact List.getElem_mem hlt
  · rcases far_found (fun y => gapI (2 * s.own) y s.leaves) _ (openedF s true) rfl fun y hy => (gap_bd hx (hall y hy)).1 with ⟨h, _⟩ | ⟨i, hi, _, he⟩
    · exact absurd h hne
    · rw [he]; exact List.getElem_mem hi
theorem opened_len17 (s : Lean_) (b : Bool) : (openedF s b).length ≤ 17 := by
  have h1 := List.length_filter_le (fun c => (findS s.opn c).isSome == b) (copathI (2 * s.own) s.leaves)
  have h2 : (copathI (2 * s.own) s.leaves).length ≤ 17 := by rw [copathI_len]; exact pathI_len _ _
  unfold openedF
  omega
theorem g_which (s : Lean_) (hs : s.fitN) (hl : s.lookOk = true) (hf : fitsI s.leaves = true) (h0 : 0 ≤ s.own) (h1 : s.own < s.leaves) (pick : Int) (hp : i64 pick) : Gives Tryz.prog 66 [.ag s.c, I pick] (.r (I (whichL s pick))) := by
  refine gives_of_vcg (T := Tab) mixed Tab_ok Tryz.func66 rfl (by kernel_rfl) ?_
  have hb := fits_bd hf
  have gop := g_opened s hs hl ⟨h0, by omega⟩ true
  obtain ⟨hx, hall⟩ := opened_of hf h0 h1
  have hlen := opened_len17 s true
  unfold whichL
  obtain ⟨L, hL⟩ : ∃ L, L = openedF s true := ⟨_, rfl⟩
  rw [← hL] at gop hall hlen ⊢
  refine VloadN.mk' rfl rfl ?_
  refine Vcall.go gop ?_
  by_cases hne : L = []
  · rw [if_pos hne]
    refine Vcmp.t (by rw [hne]; simp) (Vif.t ?_)
    exact Cv.refl _
  rw [if_neg hne]
  have hlp : 0 < L.length := List.length_pos_iff.2 hne
  refine Vcmp.f (by simp only [beq_iff_eq, bne_iff_ne, beq_eq_false_iff_ne, bne_eq_false_iff_eq, decide_eq_true_eq, decide_eq_false_iff_not, Bool.not_eq_true', Bool.not_eq_false', ne_eq]; omega) (Vif.f ?_)
  refine Vcmp.split (fun h => Vif.t ?_) (fun h => Vif.f ?_)
  · simp only [beq_iff_eq, bne_iff_ne, beq_eq_false_iff_ne, bne_eq_false_iff_eq, decide_eq_true_eq, decide_eq_false_iff_not, Bool.not_eq_true', Bool.not_eq_false', ne_eq] at h
    rw [if_pos h]
    have hm1 := Int.emod_lt_of_pos pick (show (0 : Int) < L.length by omega)
    have hm0 := Int.emod_nonneg pick (show (L.length : Int) ≠ 0 by omega)
    refine ⟨by omega, pick % L.length, by rw [Int.tmod_eq_emod_of_nonneg h], ?_⟩
    refine Vidx.mk' (by omega) (by omega) (idx_map (j := (pick % L.length).toNat) (by omega) (by omega)) (Vload1.mk' rfl ?_)
    refine Cv.of_eq ?_
    rw [List.getD_eq_getElem?_getD, List.getElem?_eq_getElem (show (pick % L.length).toNat < L.length by omega)]
    rfl
  · simp only [beq_iff_eq, bne_iff_ne, beq_eq_false_iff_ne, bne_eq_false_iff_eq, decide_eq_true_eq, decide_eq_false_iff_not, Bool.not_eq_true', Bool.not_eq_false', ne_eq] at h
    rw [if_neg (by omega)]
    refine Vint.i64 rfl (by omega) ?_
    refine Vcall.go (g_far (2 * s.own) s.leaves L (by omega) hne hx hall) ?_
    exact Cv.refl _
theorem take_snoc {α : Type} {l : List α} {j : Nat} (hj : j < l.length) : l.take (j + 1) = l.take j ++ [l[j]] := by
  rw [List.take_add_one, List.getElem?_eq_getElem hj]; rfl
theorem g_copied (s : Lean_) (hs : s.fitN) : Gives Tryz.prog 65 [.ag s.c] (.r (.ag s.c)) := by
  refine gives_of_vcg (T := Tab) mixed Tab_ok Tryz.func65 rfl (by kernel_rfl) ?_
  obtain ⟨hs1, hs2, hs3, hs4⟩ := id hs
  refine Vloop.mk' (fun j : Nat => { F := [(1, .own 0), (2, .own 1), (3, .own 2), (14, .r (spots s.opn)), (15, .r (I s.opn.length)), (16, .r (I j))], O := [(0, some (.box (s.c.map .r))), (1, some (.box (zero4.map .r))), (2, some (.box [.r (I s.leaves), .r (I s.own), .own 3, .own 4])), (3, some (spotCh (s.opn.take j))), (4, some (stubCh []))], nx := 5 })
    (fun j => j ≤ s.opn.length) (fun j => s.opn.length - j) 0 (by omega)
    ((sub_adopt_cellP true 2 2 77 11 (cells := [.r (I s.leaves), .r (I s.own), .r (.x (.slice none 0 0)), .r (.x (.slice none 0 0))]) rfl rfl).trans ((sub_adopt_cellP true 2 3 79 2 (cells := [.r (I s.leaves), .r (I s.own), .own 3, .r (.x (.slice none 0 0))]) rfl rfl).trans (sub_of [(0, 0), (1, 1), (2, 2), (3, 3), (4, 4)] rfl ⟨rfl, rfl, rfl, Cv.refl _, Cv.refl _, Cv.refl _, trivial⟩ ⟨cvCells_refl _, cvCells_refl zero4, cvc (cvTF_refl _) (cvc (cvTF_refl _) (cvc rfl (cvc rfl rfl))), ⟨rfl, rfl, rfl, rfl, Cvs.refl _⟩, ⟨rfl, rfl, rfl, rfl, Cvs.refl _⟩, trivial⟩))) ?_
  intro j hj
  refine Vcmp.split (fun h => Vif.t ?_) (fun h => Vif.f ?_)
  · simp only [beq_iff_eq, bne_iff_ne, beq_eq_false_iff_ne, bne_eq_false_iff_eq, decide_eq_true_eq, decide_eq_false_iff_not, Bool.not_eq_true', Bool.not_eq_false', ne_eq] at h
    have hj' : j < s.opn.length := by omega
    have htk : (s.opn.take j).length = j := by rw [List.length_take]; omega
    refine Vidx.mk' (by omega) (by omega) (idx_spot rfl hj') ?_
    refine VloadN.mk' rfl rfl ?_
    refine Vdraw.mk' (by kernel_rfl) ?_
    refine VloadN.mk' rfl rfl ?_
    refine Vcall.go (g_copyC s.opn[j].node (hs3 _ (List.getElem_mem hj')) (g_copyleaf _ (hs3 _ (List.getElem_mem hj')).1)) ?_
    refine Vpub.pub ?_
    refine Vapp.mk' (j := (s.opn.take (j + 1)).length) (zs := (s.opn.take (j + 1)).flatMap Spot.c) (by simp only [maxLen]; omega) (by simp; omega) (by rw [take_snoc hj', List.length_append]; rfl) (by rw [take_snoc hj', List.flatMap_append]; exact congrArg (List.flatMap Spot.c (s.opn.take j) ++ ·) (by simp [fillR, cellsOf])) ?_
    refine Vint.i64 (m := ((j + 1 : Nat) : Int)) (by omega) (by omega) ?_
    exact ⟨j + 1, hj', by omega, sub_of [(0, 0), (1, 1), (2, 2), (3, _), (4, 4)] rfl ⟨rfl, rfl, rfl, Cv.refl _, Cv.refl _, Cv.refl _, trivial⟩ ⟨cvCells_refl _, cvCells_refl zero4, cvc (cvTF_refl _) (cvc (cvTF_refl _) (cvc rfl (cvc rfl rfl))), ⟨rfl, rfl, rfl, rfl, Cvs.refl _⟩, ⟨rfl, rfl, rfl, rfl, Cvs.refl _⟩, trivial⟩⟩
  simp only [beq_iff_eq, bne_iff_ne, beq_eq_false_iff_ne, bne_eq_false_iff_eq, decide_eq_true_eq, decide_eq_false_iff_not, Bool.not_eq_true', Bool.not_eq_false', ne_eq] at h
  rw [List.take_of_length_le (by omega)]
  clear h hj
  refine Vloop.mk' (fun j : Nat => { F := [(1, .own 0), (2, .own 1), (3, .own 2), (33, .r (stubs s.shut)), (34, .r (I s.shut.length)), (35, .r (I j))], O := [(0, some (.box (s.c.map .r))), (1, some (.box (zero4.map .r))), (2, some (.box [.r (I s.leaves), .r (I s.own), .own 3, .own 4])), (3, some (spotCh s.opn)), (4, some (stubCh (s.shut.take j)))], nx := 5 })
    (fun j => j ≤ s.shut.length) (fun j => s.shut.length - j) 0 (by omega) (sub_of [(0, 0), (1, 1), (2, 2), (3, 3), (4, 4)] rfl ⟨rfl, rfl, rfl, Cv.refl _, Cv.refl _, Cv.refl _, trivial⟩ ⟨cvCells_refl _, cvCells_refl zero4, cvc (cvTF_refl _) (cvc (cvTF_refl _) (cvc rfl (cvc rfl rfl))), ⟨rfl, rfl, rfl, rfl, Cvs.refl _⟩, ⟨rfl, rfl, rfl, rfl, Cvs.refl _⟩, trivial⟩) ?_
  intro j hj
  refine Vcmp.split (fun h => Vif.t ?_) (fun h => Vif.f ?_)
  · simp only [beq_iff_eq, bne_iff_ne, beq_eq_false_iff_ne, bne_eq_false_iff_eq, decide_eq_true_eq, decide_eq_false_iff_not, Bool.not_eq_true', Bool.not_eq_false', ne_eq] at h
    have hj' : j < s.shut.length := by omega
    have htk : (s.shut.take j).length = j := by rw [List.length_take]; omega
    refine Vidx.mk' (by omega) (by omega) (idx_stub rfl hj') ?_
    refine VloadN.mk' rfl rfl ?_
    refine Vdraw.mk' (by kernel_rfl) ?_
    refine Vcall.go (g_bclone s.shut[j].hash (by have := hs4 _ (List.getElem_mem hj'); omega)) ?_
    refine Vpub.pub ?_
    refine Vapp.mk' (j := (s.shut.take (j + 1)).length) (zs := (s.shut.take (j + 1)).flatMap Stub.c) (by simp only [maxLen]; omega) (by simp; omega) (by rw [take_snoc hj', List.length_append]; rfl) (by rw [take_snoc hj', List.flatMap_append]; exact congrArg (List.flatMap Stub.c (s.shut.take j) ++ ·) (by simp [fillR, cellsOf, bs])) ?_
    refine Vint.i64 (m := ((j + 1 : Nat) : Int)) (by omega) (by omega) ?_
    exact ⟨j + 1, hj', by omega, sub_of [(0, 0), (1, 1), (2, 2), (3, 3), (4, _)] rfl ⟨rfl, rfl, rfl, Cv.refl _, Cv.refl _, Cv.refl _, trivial⟩ ⟨cvCells_refl _, cvCells_refl zero4, cvc (cvTF_refl _) (cvc (cvTF_refl _) (cvc rfl (cvc rfl rfl))), ⟨rfl, rfl, rfl, rfl, Cvs.refl _⟩, ⟨rfl, rfl, rfl, rfl, Cvs.refl _⟩, trivial⟩⟩
  simp only [beq_iff_eq, bne_iff_ne, beq_eq_false_iff_ne, bne_eq_false_iff_eq, decide_eq_true_eq, decide_eq_false_iff_not, Bool.not_eq_true', Bool.not_eq_false', ne_eq] at h
  rw [List.take_of_length_le (by omega)]
  refine VloadN.mk' rfl rfl ?_
  refine VloadN.mk' rfl rfl ?_
  exact Cv.refl _
end Go.Proofs.YtpdllgbfemnemaaGreat.Sx
end
