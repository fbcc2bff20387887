import Derived.Test.YtpdllgbfemnemaaGreatZLb
section
namespace Go.Proofs.YtpdllgbfemnemaaGreat.Sx
open Go.RowKit

theorem nd_uniq {h k : Nat} (hh : h ≤ 16) (hk : k < 2 ^ (16 - h)) : lv ((nd h k : Int)).toNat = h ∧ ((nd h k : Int)).toNat / 2 ^ (lv ((nd h k : Int)).toNat + 1) = k := by
  have hn := nd_nodeI (d := 16) (by omega) hh hk
  obtain ⟨h', k', hh', hk', e, e1, e2⟩ := node_nd hn
  obtain ⟨rfl, rfl⟩ := nd_inj hh hh' (Int.ofNat.inj e)
  exact ⟨e1, e2⟩
theorem partI_nd (O : List Spot) (H : List Stub) {h k : Nat} (hh : h ≤ 16) (hk : k < 2 ^ (16 - h)) : partI O H (nd h k) = partP O H h k true [] := by
  obtain ⟨e1, e2⟩ := nd_uniq hh hk
  unfold partI
  rw [e2, e1]
theorem wholeI_nd (O : List Spot) (n : Int) {h k : Nat} (hh : h ≤ 16) (hk : k < 2 ^ (16 - h)) : wholeI O n (nd h k) = wholeW O n h k := by
  obtain ⟨e1, e2⟩ := nd_uniq hh hk
  unfold wholeI
  rw [e2, e1]

def kidT (O : List Spot) (o h : Nat) : List Int × List Int := if found O (nd h (sibN (o / 2 ^ h))) then shP O h (sibN (o / 2 ^ h)) true [] else ([], [(nd h (sibN (o / 2 ^ h)) : Int)])
def topS (O : List Spot) (o : Nat) : Nat → List Int × List Int
  | 0 => ([(nd 0 o : Int)], [])
  | h + 1 => if (o / 2 ^ h) % 2 = 0 then ((topS O o h).1 ++ [(nd (h + 1) (o / 2 ^ (h + 1)) : Int)] ++ (kidT O o h).1, (topS O o h).2 ++ (kidT O o h).2)
    else ((kidT O o h).1 ++ [(nd (h + 1) (o / 2 ^ (h + 1)) : Int)] ++ (topS O o h).1, (kidT O o h).2 ++ (topS O o h).2)
theorem sib_lt {d o h : Nat} (ho : o < 2 ^ d) (hh : h < d) : sibN (o / 2 ^ h) < 2 ^ (d - h) := by
  rw [show d - h = d - h - 1 + 1 by omega]
  exact sibN_lt (by rw [show d - h - 1 + 1 = d - h by omega]; exact div_lt_pow ho (by omega))
theorem half_pow (o h : Nat) : o / 2 ^ (h + 1) = o / 2 ^ h / 2 := by rw [Nat.pow_succ, Nat.div_div_eq_div_mul]
theorem kidT_sh (O : List Spot) {d o h : Nat} (hd : d ≤ 16) (ho : o < 2 ^ d) (hh : h < d) : Sh O h (sibN (o / 2 ^ h)) (kidT O o h).1 (kidT O o h).2 := by
  have hs := lt16 hd (sib_lt ho hh)
  unfold kidT
  split
  · exact shP_sh O h _ true [] (by omega) hs
  · exact Sh.stub O h _
theorem topS_sh (O : List Spot) {d o : Nat} (hd : d ≤ 16) (ho : o < 2 ^ d) : ∀ h, h ≤ d → Sh O h (o / 2 ^ h) (topS O o h).1 (topS O o h).2
  | 0, _ => by
    have := pow_le16 hd
    simpa [topS] using Sh.leaf O (k := o) (by omega)
  | h + 1, hh => by
    have ih := topS_sh O hd ho h (by omega)
    have kd := kidT_sh O hd ho (show h < d by omega)
    have hk := lt16 hd (div_lt_pow ho hh)
    have hp := half_pow o h
    unfold topS
    split
    · rename_i he
      have e1 : 2 * (o / 2 ^ (h + 1)) = o / 2 ^ h := by omega
      have e2 : 2 * (o / 2 ^ (h + 1)) + 1 = sibN (o / 2 ^ h) := by unfold sibN; rw [if_pos he]; omega
      exact Sh.join (by omega) hk (by rw [e1]; exact ih) (by rw [e2]; exact kd)
    · rename_i he
      have e1 : 2 * (o / 2 ^ (h + 1)) = sibN (o / 2 ^ h) := by unfold sibN; rw [if_neg he]; omega
      have e2 : 2 * (o / 2 ^ (h + 1)) + 1 = o / 2 ^ h := by omega
      exact Sh.join (by omega) hk (by rw [e1]; exact kd) (by rw [e2]; exact ih)
theorem topS_mem (O : List Spot) (o : Nat) : ∀ h (z : Int), (z ∈ (topS O o h).1 ↔ (∃ i, i ≤ h ∧ z = (nd i (o / 2 ^ i) : Int)) ∨ ∃ i, i < h ∧ z ∈ (kidT O o i).1) ∧ (z ∈ (topS O o h).2 ↔ ∃ i, i < h ∧ z ∈ (kidT O o i).2)
  | 0, z => by
    unfold topS
    constructor
    · constructor
      · intro hz; exact .inl ⟨0, Nat.le_refl _, by rw [mem1 hz]; simp⟩
      · rintro (⟨i, hi, rfl⟩ | ⟨i, hi, _⟩)
        · have : i = 0 := by omega
          subst this; simp
        · omega
    · constructor
      · intro hz; simp at hz
      · rintro ⟨i, hi, _⟩; omega
  | h + 1, z => by
    obtain ⟨i1, i2⟩ := topS_mem O o h z
    have hA : z ∈ (topS O o (h + 1)).1 ↔ z ∈ (topS O o h).1 ∨ z = (nd (h + 1) (o / 2 ^ (h + 1)) : Int) ∨ z ∈ (kidT O o h).1 := by
      simp only [topS]
      split
      · simp only [List.mem_append, List.mem_cons, List.not_mem_nil, or_false, or_assoc]
      · simp only [List.mem_append, List.mem_cons, List.not_mem_nil, or_false]
        constructor
        · rintro ((g | g) | g)
          · exact .inr (.inr g)
          · exact .inr (.inl g)
          · exact .inl g
        · rintro (g | g | g)
          · exact .inr g
          · exact .inl (.inr g)
          · exact .inl (.inl g)
    have hB : z ∈ (topS O o (h + 1)).2 ↔ z ∈ (topS O o h).2 ∨ z ∈ (kidT O o h).2 := by
      simp only [topS]
      split
      · simp only [List.mem_append]
      · simp only [List.mem_append]; exact Or.comm
    rw [hA, hB, i1, i2]
    constructor
    · constructor
      · rintro ((⟨i, hi, g⟩ | ⟨i, hi, g⟩) | g | g)
        · exact .inl ⟨i, by omega, g⟩
        · exact .inr ⟨i, by omega, g⟩
        · exact .inl ⟨h + 1, Nat.le_refl _, g⟩
        · exact .inr ⟨h, by omega, g⟩
      · rintro (⟨i, hi, g⟩ | ⟨i, hi, g⟩)
        · rcases Nat.eq_or_lt_of_le hi with rfl | hlt
          · exact .inr (.inl g)
          · exact .inl (.inl ⟨i, by omega, g⟩)
        · rcases Nat.eq_or_lt_of_le (Nat.le_of_lt_succ hi) with rfl | hlt
          · exact .inr (.inr g)
          · exact .inl (.inr ⟨i, hlt, g⟩)
    · constructor
      · rintro (⟨i, hi, g⟩ | g)
        · exact ⟨i, by omega, g⟩
        · exact ⟨h, by omega, g⟩
      · rintro ⟨i, hi, g⟩
        rcases Nat.eq_or_lt_of_le (Nat.le_of_lt_succ hi) with rfl | hlt
        · exact .inr g
        · exact .inl ⟨i, hlt, g⟩

/-! ### Rising lists -/
theorem rise_sub : ∀ {l m : List Int}, l.Pairwise (· < ·) → m.Pairwise (· < ·) → (∀ x ∈ l, x ∈ m) → l.length ≤ m.length ∧ (l.length = m.length → l = m)
  | [], [], _, _, _ => ⟨Nat.le_refl _, fun _ => rfl⟩
  | [], y :: m, _, _, _ => ⟨by simp, fun h => by simp at h⟩
  | x :: l, [], _, _, h => by have := h x (by simp); cases this
  | x :: l, y :: m, hl, hm, h => by
    rw [List.pairwise_cons] at hl hm
    by_cases hxy : x = y
    · subst hxy
      obtain ⟨a, b⟩ := rise_sub hl.2 hm.2 fun z hz => by
        rcases List.mem_cons.1 (h z (List.mem_cons_of_mem _ hz)) with e | hz'
        · have := hl.1 z hz; omega
        · exact hz'
      exact ⟨by simpa using a, fun e => by rw [b (by simpa using e)]⟩
    · have hxm : x ∈ m := by
        rcases List.mem_cons.1 (h x (by simp)) with e | hx
        · exact absurd e hxy
        · exact hx
      have hyx := hm.1 x hxm
      obtain ⟨a, b⟩ := rise_sub (l := x :: l) (m := m) (List.pairwise_cons.2 hl) hm.2 fun z hz => by
        rcases List.mem_cons.1 (h z hz) with e | hz'
        · rcases List.mem_cons.1 hz with e' | hz2
          · omega
          · have := hl.1 z hz2; omega
        · exact hz'
      exact ⟨by simp only [List.length_cons] at *; omega, fun e => by simp only [List.length_cons] at *; omega⟩
theorem riseF_iff : ∀ {l : List Int} {a : Int}, riseF a l = true ↔ l.Pairwise (· < ·) ∧ ∀ x ∈ l, a < x
  | [], a => by simp [riseF]
  | x :: r, a => by
    rw [riseF, Bool.and_eq_true, decide_eq_true_eq, riseF_iff, List.pairwise_cons]
    constructor
    · rintro ⟨h1, h2, h3⟩
      refine ⟨⟨h3, h2⟩, fun y hy => ?_⟩
      rcases List.mem_cons.1 hy with rfl | hy
      · exact h1
      · have := h3 y hy; omega
    · rintro ⟨⟨h1, h2⟩, h3⟩
      exact ⟨h3 x (by simp), h2, h1⟩
theorem findS_iff {l : List Spot} {x : Int} : found l x = true ↔ x ∈ l.map (·.at_) := by
  constructor
  · intro h
    obtain ⟨n, hn⟩ := Option.isSome_iff_exists.1 h
    obtain ⟨sp, hsp, e, _⟩ := findS_mem hn
    exact List.mem_map.2 ⟨sp, hsp, e⟩
  · intro h
    obtain ⟨sp, hsp, e⟩ := List.mem_map.1 h
    simp only [found, findS, Option.isSome_map, List.find?_isSome, decide_eq_true_eq]
    exact ⟨sp, hsp, e⟩
theorem map_inj_of_pw {α : Type} {f : α → Int} : ∀ {l : List α}, (l.map f).Pairwise (· < ·) → ∀ {x y : α}, x ∈ l → y ∈ l → f x = f y → x = y
  | [], _, _, _, hx, _, _ => by cases hx
  | a :: l, h, x, y, hx, hy, e => by
    rw [List.map_cons, List.pairwise_cons] at h
    rcases List.mem_cons.1 hx with ex | hx1
    · rcases List.mem_cons.1 hy with ey | hy1
      · rw [ex, ey]
      · have := h.1 _ (List.mem_map_of_mem hy1); rw [ex] at e; omega
    · rcases List.mem_cons.1 hy with ey | hy1
      · have := h.1 _ (List.mem_map_of_mem hx1); rw [ey] at e; omega
      · exact map_inj_of_pw h.2 hx1 hy1 e
theorem findS_own {l : List Spot} (h : (l.map (·.at_)).Pairwise (· < ·)) {x : Spot} (hx : x ∈ l) : findS l x.at_ = some x.node := by
  obtain ⟨n, hn⟩ := Option.isSome_iff_exists.1 (findS_iff.2 (List.mem_map_of_mem (f := (·.at_)) hx))
  obtain ⟨sp, hsp, e, e2⟩ := findS_mem hn
  have := map_inj_of_pw h hsp hx e
  rw [hn, ← e2, this]
theorem shutF_iff {l : List Stub} {x : Int} : (shutF l x).isSome = true ↔ x ∈ l.map (·.at_) := by
  constructor
  · intro h
    obtain ⟨n, hn⟩ := Option.isSome_iff_exists.1 h
    obtain ⟨_, sp, hsp, e, _⟩ := shutF_mem hn
    exact List.mem_map.2 ⟨sp, hsp, e⟩
  · intro h
    obtain ⟨sp, hsp, e⟩ := List.mem_map.1 h
    simp only [shutF, Option.isSome_map, List.find?_isSome, decide_eq_true_eq]
    exact ⟨sp, hsp, e⟩
theorem shutF_own {l : List Stub} (h : (l.map (·.at_)).Pairwise (· < ·)) {x : Stub} (hx : x ∈ l) : shutF l x.at_ = some x.hash := by
  obtain ⟨n, hn⟩ := Option.isSome_iff_exists.1 (shutF_iff.2 (List.mem_map_of_mem (f := (·.at_)) hx))
  obtain ⟨_, sp, hsp, e, e2⟩ := shutF_mem hn
  have := map_inj_of_pw h hsp hx e
  rw [hn, ← e2, this]
theorem mem_kids {all : List Int} : ∀ (l acc : List Int) (z : Int), z ∈ l.foldl (kidsS all) acc ↔ z ∈ acc ∨ ((∃ x ∈ l, leftI x = z ∨ rightI x = z) ∧ 0 ≤ z ∧ z ∉ all) := by
  have one : ∀ (acc : List Int) (c z : Int), z ∈ addK all acc c ↔ z ∈ acc ∨ (c = z ∧ 0 ≤ z ∧ z ∉ all) := by
    intro acc c z
    unfold addK
    split
    · rename_i hc
      rw [List.mem_append]
      constructor
      · rintro (g | g)
        · exact .inl g
        · rw [mem1 g]; exact .inr ⟨rfl, hc⟩
      · rintro (g | ⟨rfl, _⟩)
        · exact .inl g
        · exact .inr (by simp)
    · rename_i hc
      constructor
      · exact .inl
      · rintro (g | ⟨rfl, g⟩)
        · exact g
        · exact absurd g hc
  intro l
  induction l with
  | nil => intro acc z; simp
  | cons y l ih =>
    intro acc z
    rw [List.foldl_cons, ih, kidsS, one, one]
    constructor
    · rintro (((g | ⟨g, h⟩) | ⟨g, h⟩) | ⟨⟨x, hx, g⟩, h⟩)
      · exact .inl g
      · exact .inr ⟨⟨y, by simp, .inl g⟩, h⟩
      · exact .inr ⟨⟨y, by simp, .inr g⟩, h⟩
      · exact .inr ⟨⟨x, by simp [hx], g⟩, h⟩
    · rintro (g | ⟨⟨x, hx, g⟩, h⟩)
      · exact .inl (.inl (.inl g))
      · rcases List.mem_cons.1 hx with rfl | hx
        · rcases g with g | g
          · exact .inl (.inl (.inr ⟨g, h⟩))
          · exact .inl (.inr ⟨g, h⟩)
        · exact .inr ⟨⟨x, hx, g⟩, h⟩

/-! ### Counts -/
def goodT (s : Lean_) (o h : Nat) : Bool := (kidT s.opn o h).1.all (okO s.opn) && (kidT s.opn o h).2.all (stubOk s.shut)
theorem valP_kid (s : Lean_) {d o h : Nat} (hd : d ≤ 16) (ho : o < 2 ^ d) (hh : h < d) : if goodT s o h then valP s (nd h (sibN (o / 2 ^ h))) = ((kidT s.opn o h).1.length + (kidT s.opn o h).2.length : Nat) else valP s (nd h (sibN (o / 2 ^ h))) < 0 := by
  have hs := lt16 hd (sib_lt ho hh)
  unfold goodT kidT valP
  cases hf : findS s.opn (nd h (sibN (o / 2 ^ h))) with
  | none =>
    simp only [found, hf, Option.isSome_none, Bool.false_eq_true, if_false, List.all_nil, List.all_cons, Bool.and_true, Bool.true_and, stubP_ok]
    split
    · simp
    · simp [none_]
  | some n =>
    simp only [found, hf, Option.isSome_some, if_true]
    rw [partI_nd _ _ (by omega) hs]
    have h1 := (partP_sh s.opn s.shut h (sibN (o / 2 ^ h)) true []).2
    have e' : (2 : Int) ^ (h + 1) = ((2 ^ (h + 1) : Nat) : Int) := by simp
    have h2 := pow17 (h := h) (by omega)
    split
    · rename_i hg
      rw [if_pos hg] at h1
      exact h1
    · rename_i hg
      rw [if_neg hg] at h1
      simp only [none_] at h1
      omega
theorem sumI_append {f : Int → Int} : ∀ {l m : List Int}, sumI f (l ++ m) = sumI f l + sumI f m
  | [], m => by simp [sumI]
  | x :: l, m => by simp only [List.cons_append, sumI, sumI_append]; omega
theorem topS_count (s : Lean_) {d o : Nat} (hd : d ≤ 16) (ho : o < 2 ^ d) : ∀ h, h ≤ d → (∀ i, i < h → goodT s o i = true) → 1 + (h : Int) + sumI (valP s) ((List.range h).map fun i => (nd i (sibN (o / 2 ^ i)) : Int)) = ((topS s.opn o h).1.length + (topS s.opn o h).2.length : Nat)
  | 0, _, _ => by simp [topS, sumI]
  | h + 1, hh, hg => by
    have ih := topS_count s hd ho h (by omega) fun i hi => hg i (by omega)
    have hv := valP_kid s hd ho (show h < d by omega)
    rw [if_pos (hg h (by omega))] at hv
    have hl : (topS s.opn o (h + 1)).1.length + (topS s.opn o (h + 1)).2.length = ((topS s.opn o h).1.length + (topS s.opn o h).2.length) + 1 + ((kidT s.opn o h).1.length + (kidT s.opn o h).2.length) := by
      simp only [topS]
      split <;> simp <;> omega
    rw [hl, List.range_succ, List.map_append, sumI_append]
    simp only [List.map_cons, List.map_nil, sumI]
    omega

theorem own_list {s : Lean_} {d o : Nat} (hd : d ≤ 16) (ho : o < 2 ^ d) (hn : s.leaves = ((2 ^ d : Nat) : Int)) (he : s.own = (o : Int)) (z : Int) : z ∈ ownL s ↔ ∃ i, i ≤ d ∧ z = (nd i (o / 2 ^ i) : Int) := by
  have := mem_upL hd ho z
  unfold ownL
  rw [hn, he]
  exact this
theorem copath_list {s : Lean_} {d o : Nat} (hd : d ≤ 16) (ho : o < 2 ^ d) (hn : s.leaves = ((2 ^ d : Nat) : Int)) (he : s.own = (o : Int)) : copathI (2 * s.own) s.leaves = (List.range d).map fun i => (nd i (sibN (o / 2 ^ i)) : Int) := by
  rw [hn, he, show 2 * (o : Int) = (nd 0 o : Int) by rw [nd_zero]; omega, copath_range hd ho]
theorem path_len {s : Lean_} {d o : Nat} (hd : d ≤ 16) (ho : o < 2 ^ d) (hn : s.leaves = ((2 ^ d : Nat) : Int)) (he : s.own = (o : Int)) : (pathI (2 * s.own) s.leaves).length = d := by
  rw [hn, he, show 2 * (o : Int) = (nd 0 o : Int) by rw [nd_zero]; omega, path_range hd ho]; simp

/-- What the program asks, in these words. -/
theorem rightP_iff (s : Lean_) {d o : Nat} (hd : d ≤ 16) (ho : o < 2 ^ d) (hn : s.leaves = ((2 ^ d : Nat) : Int)) (he : s.own = (o : Int)) :
    rightP s = true ↔ s.lookOk = true ∧ leafK s = true ∧ (∀ z ∈ (topS s.opn o d).1, okO s.opn z = true) ∧ (∀ z ∈ (topS s.opn o d).2, stubOk s.shut z = true) ∧ (topS s.opn o d).1.length + (topS s.opn o d).2.length = s.opn.length + s.shut.length := by
  have hf : fitsI s.leaves = true := by rw [hn]; exact pow_fits d hd
  have h0 : 0 ≤ s.own ∧ s.own < s.leaves := by rw [hn, he]; omega
  have hown := own_list hd ho hn he
  have hcop := copath_list hd ho hn he
  have hpl := path_len hd ho hn he
  have hgood : ∀ i, i < d → (goodT s o i = true ↔ 0 ≤ valP s (nd i (sibN (o / 2 ^ i)))) := fun i hi => by
    have hv := valP_kid s hd ho hi
    constructor
    · intro g; rw [if_pos g] at hv; omega
    · intro g
      cases hg : goodT s o i with
      | true => rfl
      | false => rw [hg, if_neg (by simp)] at hv; omega
  have hall : ((∀ z ∈ (topS s.opn o d).1, okO s.opn z = true) ∧ (∀ z ∈ (topS s.opn o d).2, stubOk s.shut z = true)) ↔ (∀ z ∈ ownL s, okN s z = true) ∧ ∀ i, i < d → goodT s o i = true := by
    have eok : okN s = okO s.opn := rfl
    rw [eok]
    constructor
    · rintro ⟨a, b⟩
      refine ⟨fun z hz => a z (((topS_mem s.opn o d z).1).2 (.inl ((hown z).1 hz))), fun i hi => ?_⟩
      simp only [goodT, Bool.and_eq_true, List.all_eq_true]
      exact ⟨fun z hz => a z (((topS_mem s.opn o d z).1).2 (.inr ⟨i, hi, hz⟩)), fun z hz => b z (((topS_mem s.opn o d z).2).2 ⟨i, hi, hz⟩)⟩
    · rintro ⟨a, b⟩
      refine ⟨fun z hz => ?_, fun z hz => ?_⟩
      · rcases ((topS_mem s.opn o d z).1).1 hz with g | ⟨i, hi, g⟩
        · exact a z ((hown z).2 g)
        · have := b i hi
          simp only [goodT, Bool.and_eq_true, List.all_eq_true] at this
          exact this.1 z g
      · obtain ⟨i, hi, g⟩ := ((topS_mem s.opn o d z).2).1 hz
        have := b i hi
        simp only [goodT, Bool.and_eq_true, List.all_eq_true] at this
        exact this.2 z g
  have hdef : rightP s = (s.lookOk && (leafK s && ((ownL s).all (okN s) && ((copathI (2 * s.own) s.leaves).all (fun c => decide (0 ≤ valP s c)) && decide (1 + (pathI (2 * s.own) s.leaves).length + sumI (valP s) (copathI (2 * s.own) s.leaves) = s.opn.length + s.shut.length))))) := by
    simp only [rightP, hf, h0.1, h0.2, decide_true, Bool.true_and]; rfl
  rw [hdef]
  simp only [Bool.and_eq_true, List.all_eq_true, decide_eq_true_eq]
  rw [hcop, hpl]
  constructor
  · rintro ⟨a, b, c, e, f⟩
    have g : ∀ i, i < d → goodT s o i = true := fun i hi => (hgood i hi).2 (e _ (List.mem_map.2 ⟨i, List.mem_range.2 hi, rfl⟩))
    obtain ⟨p, q⟩ := hall.2 ⟨c, g⟩
    refine ⟨a, b, p, q, ?_⟩
    have := topS_count s hd ho d (Nat.le_refl _) g
    omega
  · rintro ⟨a, b, p, q, f⟩
    obtain ⟨c, g⟩ := hall.1 ⟨p, q⟩
    have := topS_count s hd ho d (Nat.le_refl _) g
    refine ⟨a, b, c, fun x hx => ?_, by omega⟩
    obtain ⟨i, hi, rfl⟩ := List.mem_map.1 hx
    exact (hgood i (List.mem_range.1 hi)).1 (g i (List.mem_range.1 hi))
end Go.Proofs.YtpdllgbfemnemaaGreat.Sx
end

section
namespace Go.Proofs.YtpdllgbfemnemaaGreat.Sx
open Go.RowKit

theorem okO_found {O : List Spot} {z : Int} (h : okO O z = true) : found O z = true := by
  unfold okO at h
  split at h
  · rename_i n hn; simp [found, hn]
  · cases h
theorem okO_fine {O : List Spot} {z : Int} {n : Node} (h : okO O z = true) (hn : findS O z = some n) : fineP z n = true := by
  unfold okO at h
  rw [hn] at h
  exact h
theorem okR_iff {n : Int} {x : Spot} (h0 : 0 ≤ x.at_) : okR n x = true ↔ x.at_ ≤ 2 * n - 2 ∧ fineP x.at_ x.node = true := by
  have hm : x.at_.tmod 2 = 0 ∨ x.at_.tmod 2 = 1 := by rw [Int.tmod_eq_emod_of_nonneg h0]; omega
  rcases hm with hm | hm
  · have e : otherK x.at_ = 2 := by simp [otherK, hm]
    simp only [okR, fineP, e, Bool.and_eq_true, Bool.not_eq_true', Bool.and_eq_false_iff, decide_eq_true_eq, decide_eq_false_iff_not]
    constructor
    · rintro ⟨_, b, c, q1, q2, q3⟩; exact ⟨b, c, by omega, q3⟩
    · rintro ⟨b, c, q1, q3⟩; exact ⟨h0, b, c, by omega, by omega, q3⟩
  · have e : otherK x.at_ = 1 := by simp [otherK, hm]
    simp only [okR, fineP, e, Bool.and_eq_true, Bool.not_eq_true', Bool.and_eq_false_iff, decide_eq_true_eq, decide_eq_false_iff_not]
    constructor
    · rintro ⟨_, b, c, q1, q2, q3⟩; exact ⟨b, c, by omega, q3⟩
    · rintro ⟨b, c, q1, q3⟩; exact ⟨h0, b, c, by omega, by omega, q3⟩
theorem okR_nn {n : Int} {x : Spot} (h : okR n x = true) : 0 ≤ x.at_ := by
  simp only [okR, Bool.and_eq_true, decide_eq_true_eq] at h
  exact h.1

theorem mem_opened {s : Lean_} {d o : Nat} (hd : d ≤ 16) (ho : o < 2 ^ d) (hn : s.leaves = ((2 ^ d : Nat) : Int)) (he : s.own = (o : Int)) (c : Int) : c ∈ openedF s true ↔ ∃ i, i < d ∧ c = (nd i (sibN (o / 2 ^ i)) : Int) ∧ found s.opn c = true := by
  unfold openedF
  rw [copath_list hd ho hn he, List.mem_filter, List.mem_map]
  simp only [beq_iff_eq, List.mem_range]
  constructor
  · rintro ⟨⟨i, hi, rfl⟩, h⟩; exact ⟨i, hi, rfl, h⟩
  · rintro ⟨i, hi, rfl, h⟩; exact ⟨⟨i, hi, rfl⟩, h⟩
/-- All that is opened is found, by the reference's words. -/
theorem found_iff {s : Lean_} {d o : Nat} (hd : d ≤ 16) (ho : o < 2 ^ d) (hn : s.leaves = ((2 ^ d : Nat) : Int)) (he : s.own = (o : Int)) (hF : ∀ x n, findS s.opn x = some n → fineP x n = true) :
    (∀ z ∈ (topS s.opn o d).1, found s.opn z = true) ↔ (∀ z ∈ ownL s, found s.opn z = true) ∧ ∀ c ∈ openedF s true, (wholeI s.opn s.leaves c).2 = true := by
  have hown := own_list hd ho hn he
  constructor
  · intro h
    refine ⟨fun z hz => h z (((topS_mem s.opn o d z).1).2 (.inl ((hown z).1 hz))), fun c hc => ?_⟩
    obtain ⟨i, hi, rfl, hf⟩ := (mem_opened hd ho hn he c).1 hc
    rw [wholeI_nd _ _ (by omega) (lt16 hd (sib_lt ho hi)), hn]
    refine ((whole_law hd hF i _ (by omega) (sib_lt ho hi)).1).2 ?_
    rw [List.all_eq_true]
    intro z hz
    refine h z (((topS_mem s.opn o d z).1).2 (.inr ⟨i, hi, ?_⟩))
    unfold kidT
    rw [if_pos hf]
    exact hz
  · rintro ⟨a, b⟩ z hz
    rcases ((topS_mem s.opn o d z).1).1 hz with g | ⟨i, hi, g⟩
    · exact a z ((hown z).2 g)
    · unfold kidT at g
      split at g
      · rename_i hf
        have h1 := b _ ((mem_opened hd ho hn he _).2 ⟨i, hi, rfl, hf⟩)
        rw [wholeI_nd _ _ (by omega) (lt16 hd (sib_lt ho hi)), hn] at h1
        have h2 := ((whole_law hd hF i _ (by omega) (sib_lt ho hi)).1).1 h1
        rw [List.all_eq_true] at h2
        exact h2 z g
      · simp at g
theorem mem_all {s : Lean_} {d o : Nat} (hd : d ≤ 16) (ho : o < 2 ^ d) (hn : s.leaves = ((2 ^ d : Nat) : Int)) (he : s.own = (o : Int)) (hF : ∀ x n, findS s.opn x = some n → fineP x n = true) (hw : ∀ c ∈ openedF s true, (wholeI s.opn s.leaves c).2 = true) (z : Int) : z ∈ allL s ↔ z ∈ (topS s.opn o d).1 := by
  have hown := own_list hd ho hn he
  rw [(topS_mem s.opn o d z).1]
  unfold allL
  rw [List.mem_append, hown, List.mem_flatMap]
  refine or_congr Iff.rfl ?_
  constructor
  · rintro ⟨c, hc, hz⟩
    obtain ⟨i, hi, rfl, hf⟩ := (mem_opened hd ho hn he c).1 hc
    have h1 := hw _ hc
    rw [wholeI_nd _ _ (by omega) (lt16 hd (sib_lt ho hi)), hn] at h1 hz
    have h2 := (whole_law hd hF i _ (by omega) (sib_lt ho hi)).2 h1 z
    refine ⟨i, hi, ?_⟩
    unfold kidT
    rw [if_pos hf]
    exact h2.1 hz
  · rintro ⟨i, hi, g⟩
    unfold kidT at g
    split at g
    · rename_i hf
      have hc := (mem_opened hd ho hn he _).2 ⟨i, hi, rfl, hf⟩
      have h1 := hw _ hc
      refine ⟨_, hc, ?_⟩
      rw [wholeI_nd _ _ (by omega) (lt16 hd (sib_lt ho hi)), hn] at h1 ⊢
      exact ((whole_law hd hF i _ (by omega) (sib_lt ho hi)).2 h1 z).2 g
    · simp at g
theorem mem_shut {s : Lean_} {d o : Nat} (hd : d ≤ 16) (ho : o < 2 ^ d) (hf : ∀ z ∈ (topS s.opn o d).1, found s.opn z = true) (hm : ∀ z, z ∈ allL s ↔ z ∈ (topS s.opn o d).1) (z : Int) : z ∈ shutL s ↔ z ∈ (topS s.opn o d).2 := by
  have sh := topS_sh s.opn hd ho d (Nat.le_refl _)
  unfold shutL
  rw [mem_kids]
  have h0 : o / 2 ^ d = 0 := Nat.div_eq_of_lt ho
  rw [h0] at sh
  constructor
  · rintro (g | ⟨⟨x, hx, g⟩, hz, hna⟩)
    · cases g
    · rw [hm] at hx hna
      have hk := sh.kids x hx (hf x hx)
      rcases g with rfl | rfl
      · exact (hk.1 hz).resolve_left hna
      · exact (hk.2 hz).resolve_left hna
  · intro hz
    right
    have hna : z ∉ allL s := fun h => sh.dj z ((hm z).1 h) hz
    refine ⟨?_, inR_pos (sh.rb z hz), hna⟩
    rcases sh.back z hz with rfl | ⟨x, hx, g⟩
    · exfalso
      refine sh.dj _ (((topS_mem s.opn o d _).1).2 (.inl ⟨d, Nat.le_refl _, by rw [h0]⟩)) hz
    · exact ⟨x, (hm x).2 hx, g⟩
theorem rightR_iff {s : Lean_} {d o : Nat} (hd : d ≤ 16) (ho : o < 2 ^ d) (hn : s.leaves = ((2 ^ d : Nat) : Int)) (he : s.own = (o : Int)) : rightR s = true ↔ (∀ x ∈ s.opn, okR s.leaves x = true) ∧ (∀ x ∈ s.shut, x.hash.length = 32) ∧ (∀ z ∈ ownL s, z ∈ s.opn.map (·.at_)) ∧ (∀ c ∈ openedF s true, (wholeI s.opn s.leaves c).2 = true) ∧ leafK s = true ∧ s.opn.map (·.at_) = rise (allL s) ∧ s.shut.map (·.at_) = rise (shutL s) := by
  have hf : fitsI s.leaves = true := by rw [hn]; exact pow_fits d hd
  have h0 : 0 ≤ s.own ∧ s.own < s.leaves := by rw [hn, he]; omega
  simp only [rightR, hf, h0.1, h0.2, decide_true, Bool.true_and, Bool.and_eq_true, List.all_eq_true, decide_eq_true_eq]
theorem right_law {s : Lean_} {d o : Nat} (hd : d ≤ 16) (ho : o < 2 ^ d) (hn : s.leaves = ((2 ^ d : Nat) : Int)) (he : s.own = (o : Int)) : rightP s = true ↔ rightR s = true := by
  have sh := topS_sh s.opn hd ho d (Nat.le_refl _)
  have h0 : o / 2 ^ d = 0 := Nat.div_eq_of_lt ho
  rw [h0] at sh
  have hown := own_list hd ho hn he
  rw [rightP_iff s hd ho hn he, rightR_iff hd ho hn he]
  constructor
  · rintro ⟨hl, hk, hA, hB, hc⟩
    simp only [Lean_.lookOk, Bool.and_eq_true, riseF_iff] at hl
    obtain ⟨⟨po, no⟩, ps, ns⟩ := hl
    obtain ⟨la, ea⟩ := rise_sub sh.pa po fun z hz => findS_iff.1 (okO_found (hA z hz))
    obtain ⟨lb, eb⟩ := rise_sub sh.pb ps fun z hz => shutF_iff.1 (by
      have := hB z hz
      unfold stubOk at this
      split at this
      · rename_i h hh; simp [hh]
      · cases this)
    rw [List.length_map] at la ea lb eb
    have ea := ea (by omega)
    have eb := eb (by omega)
    have hF : ∀ x n, findS s.opn x = some n → fineP x n = true := fun x n hx => okO_fine (hA x (by rw [ea]; exact findS_iff.1 (by simp [found, hx]))) hx
    have hfd : ∀ z ∈ (topS s.opn o d).1, found s.opn z = true := fun z hz => okO_found (hA z hz)
    obtain ⟨f1, f2⟩ := (found_iff hd ho hn he hF).1 hfd
    have hm := mem_all hd ho hn he hF f2
    have hs := mem_shut hd ho hfd hm
    refine ⟨fun x hx => ?_, fun x hx => ?_, fun z hz => findS_iff.1 (f1 z hz), f2, hk, ?_, ?_⟩
    · have hxa : x.at_ ∈ (topS s.opn o d).1 := by rw [ea]; exact List.mem_map_of_mem hx
      have hnn := no x.at_ (List.mem_map_of_mem hx)
      rw [okR_iff (by omega)]
      refine ⟨?_, okO_fine (hA _ hxa) (findS_own po hx)⟩
      have := sh.ra _ hxa
      unfold inR at this
      rw [hn]
      rw [Nat.pow_succ] at this
      omega
    · have hxb : x.at_ ∈ (topS s.opn o d).2 := by rw [eb]; exact List.mem_map_of_mem hx
      have := hB _ hxb
      unfold stubOk at this
      rw [shutF_own ps hx] at this
      simpa using this
    · exact rise_ext po (rise_pw _) fun z => by rw [mem_rise, hm, ea]
    · exact rise_ext ps (rise_pw _) fun z => by rw [mem_rise, hs, eb]
  · rintro ⟨hO, hH, hP, hW, hk, eO, eS⟩
    have po : (s.opn.map (·.at_)).Pairwise (· < ·) := by rw [eO]; exact rise_pw _
    have ps : (s.shut.map (·.at_)).Pairwise (· < ·) := by rw [eS]; exact rise_pw _
    have hF : ∀ x n, findS s.opn x = some n → fineP x n = true := fun x n hx => by
      obtain ⟨sp, hsp, rfl, rfl⟩ := findS_mem hx
      exact ((okR_iff (okR_nn (hO sp hsp))).1 (hO sp hsp)).2
    have hfd := (found_iff hd ho hn he hF).2 ⟨fun z hz => findS_iff.2 (hP z hz), hW⟩
    have hm := mem_all hd ho hn he hF hW
    have hs := mem_shut hd ho hfd hm
    have ea : s.opn.map (·.at_) = (topS s.opn o d).1 := rise_ext po sh.pa fun z => by rw [eO, mem_rise, hm]
    have eb : s.shut.map (·.at_) = (topS s.opn o d).2 := rise_ext ps sh.pb fun z => by rw [eS, mem_rise, hs]
    refine ⟨?_, hk, fun z hz => ?_, fun z hz => ?_, ?_⟩
    · simp only [Lean_.lookOk, Bool.and_eq_true, riseF_iff]
      refine ⟨⟨po, fun z hz => ?_⟩, ps, fun z hz => ?_⟩
      · obtain ⟨x, hx, rfl⟩ := List.mem_map.1 hz
        have := okR_nn (hO x hx)
        omega
      · rw [eb] at hz
        have := inR_pos (sh.rb z hz)
        omega
    · obtain ⟨n, hnn⟩ := Option.isSome_iff_exists.1 (hfd z hz)
      unfold okO
      rw [hnn]
      exact hF z n hnn
    · rw [← eb] at hz
      obtain ⟨x, hx, rfl⟩ := List.mem_map.1 hz
      unfold stubOk
      rw [shutF_own ps hx]
      simpa using hH x hx
    · rw [← ea, ← eb, List.length_map, List.length_map]
theorem hash_key {s : Lean_} {d o : Nat} (hd : d ≤ 16) (ho : o < 2 ^ d) (hn : s.leaves = ((2 ^ d : Nat) : Int)) (he : s.own = (o : Int)) (hr : rightP s = true) :
    (∀ h k, h ≤ d → k < 2 ^ (d - h) → ((nd h k : Int) ∈ (topS s.opn o d).1 ∨ (nd h k : Int) ∈ (topS s.opn o d).2) → hashP s h k = hashR s h k ∧ (hashP s h k).length = 32) ∧ ∀ z : Int, found s.opn z = true → z ∈ (topS s.opn o d).1 := by
  have sh := topS_sh s.opn hd ho d (Nat.le_refl _)
  have h0 : o / 2 ^ d = 0 := Nat.div_eq_of_lt ho
  rw [h0] at sh
  obtain ⟨hl, hk, hA, hB, hc⟩ := (rightP_iff s hd ho hn he).1 hr
  simp only [Lean_.lookOk, Bool.and_eq_true, riseF_iff] at hl
  obtain ⟨⟨po, no⟩, ps, ns⟩ := hl
  obtain ⟨la, ea⟩ := rise_sub sh.pa po fun z hz => findS_iff.1 (okO_found (hA z hz))
  obtain ⟨lb, eb⟩ := rise_sub sh.pb ps fun z hz => shutF_iff.1 (by
    have := hB z hz
    unfold stubOk at this
    split at this
    · rename_i h hh; simp [hh]
    · cases this)
  rw [List.length_map] at la ea lb eb
  have ea := ea (by omega)
  have key : ∀ h k, h ≤ d → k < 2 ^ (d - h) → ((nd h k : Int) ∈ (topS s.opn o d).1 ∨ (nd h k : Int) ∈ (topS s.opn o d).2) → hashP s h k = hashR s h k ∧ (hashP s h k).length = 32 := by
    have none_case : ∀ z : Int, findS s.opn z = none → (z ∈ (topS s.opn o d).1 ∨ z ∈ (topS s.opn o d).2) → (stubB s.shut z).length = 32 := fun z hz hm => by
      rcases hm with hm | hm
      · have := okO_found (hA z hm)
        simp [found, hz] at this
      · have := hB z hm
        unfold stubOk at this
        split at this
        · rename_i h hh
          rw [(shutF_mem hh).1]
          simpa using this
        · cases this
    have inA : ∀ (z : Int) (n : Node), findS s.opn z = some n → z ∈ (topS s.opn o d).1 := fun z n hz => by rw [ea]; exact findS_iff.1 (by simp [found, hz])
    intro h
    induction h with
    | zero =>
      intro k _ hkk hm
      have hk16 := lt16 hd hkk
      cases hf : findS s.opn (nd 0 k) with
      | none =>
        have e1 : hashP s 0 k = stubB s.shut (nd 0 k) := by simp [hashP, hf]
        have e2 : hashR s 0 k = stubB s.shut (nd 0 k) := by simp [hashR, hf]
        rw [e1, e2]
        exact ⟨rfl, none_case _ hf hm⟩
      | some n =>
        have hfp := okO_fine (hA _ (inA _ _ hf)) hf
        simp only [fineP, Bool.and_eq_true, decide_eq_true_eq] at hfp
        have e1 : hashP s 0 k = shaB (ltextR k n) := by simp [hashP, hf]
        have e2 : hashR s 0 k = shaB ([1] ++ beB 4 k ++ nodeB n) := by simp [hashR, hf]
        have hne : n.kind.toNat ≠ 2 := by have := hfp.2.1; simp only [otherK, tmod_even] at this; simpa using this
        have e3 : ltextR k n = [1] ++ beB 4 k ++ nodeB n := by
          unfold ltextR
          rw [if_neg (by simp at hk16; omega), if_neg (by simp [hfp.1, hne])]
          simp [leafTextB]
        rw [e1, e2, e3]
        exact ⟨rfl, shaB_len _⟩
    | succ h ih =>
      intro k hh hkk hm
      have hk16 := lt16 hd hkk
      have hk2 : 2 ^ (d - h) = 2 * 2 ^ (d - (h + 1)) := by rw [show d - h = (d - (h + 1)) + 1 by omega, Nat.pow_succ]; omega
      cases hf : findS s.opn (nd (h + 1) k) with
      | none =>
        have e1 : hashP s (h + 1) k = stubB s.shut (nd (h + 1) k) := by simp [hashP, hf]
        have e2 : hashR s (h + 1) k = stubB s.shut (nd (h + 1) k) := by simp [hashR, hf]
        rw [e1, e2]
        exact ⟨rfl, none_case _ hf hm⟩
      | some n =>
        have hzA := inA _ _ hf
        have hfp := okO_fine (hA _ hzA) hf
        simp only [fineP, Bool.and_eq_true, decide_eq_true_eq] at hfp
        have hne : n.kind.toNat ≠ 1 := by have := hfp.2.1; simp only [otherK, tmod_odd] at this; simpa using this
        have hkids := sh.kids _ hzA (by simp [hf])
        rw [left_nd hd (by omega) hkk, right_nd hd (by omega) hkk] at hkids
        obtain ⟨a1, a2⟩ := ih (2 * k) (by omega) (by omega) (hkids.1 (by omega))
        obtain ⟨b1, b2⟩ := ih (2 * k + 1) (by omega) (by omega) (hkids.2 (by omega))
        have e1 : hashP s (h + 1) k = shaB (ptextR n (hashP s h (2 * k)) (hashP s h (2 * k + 1))) := by simp [hashP, hf]
        have e2 : hashR s (h + 1) k = shaB ([2] ++ nodeB n ++ (vecB (hashR s h (2 * k)) ++ vecB (hashR s h (2 * k + 1)))) := by simp [hashR, hf]
        have e3 : ptextR n (hashP s h (2 * k)) (hashP s h (2 * k + 1)) = [2] ++ nodeB n ++ (vecB (hashR s h (2 * k)) ++ vecB (hashR s h (2 * k + 1))) := by
          unfold ptextR
          rw [if_neg (by simp [hfp.1, hne]), if_neg (by simp [a2, b2]), a1, b1]
          simp [parTextB]
        rw [e1, e2, e3]
        exact ⟨rfl, shaB_len _⟩
  exact ⟨key, fun z hz => by rw [ea]; exact findS_iff.1 hz⟩
theorem hash_law {s : Lean_} {d o : Nat} (hd : d ≤ 16) (ho : o < 2 ^ d) (hn : s.leaves = ((2 ^ d : Nat) : Int)) (he : s.own = (o : Int)) (hr : rightP s = true) : hashP s d 0 = hashR s d 0 ∧ (hashP s d 0).length = 32 := by
  have sh := topS_sh s.opn hd ho d (Nat.le_refl _)
  have h0 : o / 2 ^ d = 0 := Nat.div_eq_of_lt ho
  rw [h0] at sh
  exact (hash_key hd ho hn he hr).1 d 0 (Nat.le_refl _) (pow_pos' _) sh.root
/-- At an opened node of the copath. -/
theorem hash_opened {s : Lean_} (hr : rightP s = true) {x : Int} (hx : x ∈ openedF s true) : ∃ h k, h ≤ 16 ∧ k < 2 ^ (16 - h) ∧ x = (nd h k : Int) ∧ hashP s h k = hashR s h k := by
  have hp := hr
  simp only [rightP, Bool.and_eq_true, decide_eq_true_eq] at hp
  obtain ⟨d, o, hd, hn, ho, he, _⟩ := own_form hp.2.1 hp.2.2.1 hp.2.2.2.1
  obtain ⟨i, hi, rfl, hf⟩ := (mem_opened hd ho hn he x).1 hx
  obtain ⟨k1, k2⟩ := hash_key hd ho hn he hr
  have hk : sibN (o / 2 ^ i) < 2 ^ (d - i) := sib_lt ho hi
  exact ⟨i, _, by omega, lt16 hd hk, rfl, (k1 i _ (by omega) hk (.inl (k2 _ hf))).1⟩
theorem right_eq (s : Lean_) : rightP s = rightR s := by
  cases hf : fitsI s.leaves with
  | false => simp [rightP, rightR, hf]
  | true =>
    by_cases h0 : 0 ≤ s.own
    · by_cases h1 : s.own < s.leaves
      · obtain ⟨d, o, hd, hn, ho, he, _⟩ := own_form hf h0 h1
        rw [Bool.eq_iff_iff]
        exact right_law hd ho hn he
      · simp [rightP, rightR, h1]
    · simp [rightP, rightR, h0]
end Go.Proofs.YtpdllgbfemnemaaGreat.Sx
end
