import Derived.Test.YtpdllgbfemnemaaGreatZKt
section
namespace Go.Proofs.YtpdllgbfemnemaaGreat.Sx
open Go.RowKit

/-! ### Parts of the row -/
def inR (h k : Nat) (x : Int) : Prop := ((k * 2 ^ (h + 1) : Nat) : Int) ≤ x ∧ x + 2 ≤ ((k * 2 ^ (h + 1) + 2 ^ (h + 1) : Nat) : Int)
theorem mul_two (k h : Nat) : 2 * k * 2 ^ (h + 1) = k * 2 ^ (h + 1 + 1) := by rw [Nat.pow_succ 2 (h + 1), Nat.mul_comm 2 k, Nat.mul_assoc, Nat.mul_comm 2]
theorem mul_two1 (k h : Nat) : (2 * k + 1) * 2 ^ (h + 1) = k * 2 ^ (h + 1 + 1) + 2 ^ (h + 1) := by rw [Nat.add_mul, mul_two, Nat.one_mul]
theorem inR_self (h k : Nat) : inR h k (nd h k) := by
  have hp := pow_pos' h
  unfold inR nd
  rw [Nat.pow_succ 2 h]
  generalize k * (2 ^ h * 2) = q
  omega
theorem inR_left {h k : Nat} {x : Int} (hx : inR h (2 * k) x) : inR (h + 1) k x ∧ x < (nd (h + 1) k : Int) := by
  unfold inR nd at *
  rw [mul_two] at hx
  have hp := pow_pos' (h + 1)
  rw [Nat.pow_succ 2 (h + 1)] at *
  generalize k * (2 ^ (h + 1) * 2) = q at *
  omega
theorem inR_right {h k : Nat} {x : Int} (hx : inR h (2 * k + 1) x) : inR (h + 1) k x ∧ (nd (h + 1) k : Int) < x := by
  unfold inR nd at *
  rw [mul_two1] at hx
  have hp := pow_pos' (h + 1)
  rw [Nat.pow_succ 2 (h + 1)] at *
  generalize k * (2 ^ (h + 1) * 2) = q at *
  omega
theorem inR_pos {h k : Nat} {x : Int} (hx : inR h k x) : 0 ≤ x := by unfold inR at hx; omega

/-! ### What is opened and shut beneath a node -/
structure Sh (O : List Spot) (h k : Nat) (A B : List Int) : Prop where
  ra : ∀ x ∈ A, inR h k x
  rb : ∀ x ∈ B, inR h k x
  pa : A.Pairwise (· < ·)
  pb : B.Pairwise (· < ·)
  dj : ∀ x ∈ A, x ∉ B
  kids : ∀ x ∈ A, (findS O x).isSome = true → (0 ≤ leftI x → leftI x ∈ A ∨ leftI x ∈ B) ∧ (0 ≤ rightI x → rightI x ∈ A ∨ rightI x ∈ B)
  back : ∀ y ∈ B, y = (nd h k : Int) ∨ ∃ x ∈ A, leftI x = y ∨ rightI x = y
  root : (nd h k : Int) ∈ A ∨ (nd h k : Int) ∈ B
theorem Sh.join {O : List Spot} {h k : Nat} {A1 B1 A2 B2 : List Int} (hh : h + 1 ≤ 16) (hk : k < 2 ^ (16 - (h + 1))) (h1 : Sh O h (2 * k) A1 B1) (h2 : Sh O h (2 * k + 1) A2 B2) :
    Sh O (h + 1) k (A1 ++ [(nd (h + 1) k : Int)] ++ A2) (B1 ++ B2) := by
  have hl := left_nd (d := 16) (by omega) hh hk
  have hr := right_nd (d := 16) (by omega) hh hk
  have mA : ∀ x, x ∈ A1 ++ [(nd (h + 1) k : Int)] ++ A2 ↔ (x ∈ A1 ∨ x = (nd (h + 1) k : Int)) ∨ x ∈ A2 := fun x => by simp only [List.mem_append, List.mem_cons, List.not_mem_nil, or_false]
  have mB : ∀ x, x ∈ B1 ++ B2 ↔ x ∈ B1 ∨ x ∈ B2 := fun x => by simp
  refine ⟨fun x hx => ?_, fun x hx => ?_, ?_, ?_, fun x hx hb => ?_, fun x hx hf => ?_, fun y hy => ?_, .inl ((mA _).2 (.inl (.inr rfl)))⟩
  · rcases (mA x).1 hx with (hx | rfl) | hx
    · exact (inR_left (h1.ra x hx)).1
    · exact inR_self _ _
    · exact (inR_right (h2.ra x hx)).1
  · rcases (mB x).1 hx with hx | hx
    · exact (inR_left (h1.rb x hx)).1
    · exact (inR_right (h2.rb x hx)).1
  · rw [List.pairwise_append, List.pairwise_append]
    refine ⟨⟨h1.pa, by simp, fun x hx y hy => ?_⟩, h2.pa, fun x hx y hy => ?_⟩
    · simp at hy; subst hy; exact (inR_left (h1.ra x hx)).2
    · have hy2 := (inR_right (h2.ra y hy)).2
      rcases List.mem_append.1 hx with hx | hx
      · have := (inR_left (h1.ra x hx)).2; omega
      · simp at hx; subst hx; exact hy2
  · rw [List.pairwise_append]
    exact ⟨h1.pb, h2.pb, fun x hx y hy => by
      have := (inR_left (h1.rb x hx)).2
      have := (inR_right (h2.rb y hy)).2
      omega⟩
  · rcases (mA x).1 hx with (hx | rfl) | hx <;> rcases (mB _).1 hb with hb | hb
    · exact h1.dj x hx hb
    · have := (inR_left (h1.ra x hx)).2; have := (inR_right (h2.rb x hb)).2; omega
    · have := (inR_left (h1.rb _ hb)).2; omega
    · have := (inR_right (h2.rb _ hb)).2; omega
    · have := (inR_right (h2.ra x hx)).2; have := (inR_left (h1.rb x hb)).2; omega
    · exact h2.dj x hx hb
  · have up : ∀ {c : Int} {A B : List Int}, (∀ z ∈ A, z ∈ A1 ++ [(nd (h + 1) k : Int)] ++ A2) → (∀ z ∈ B, z ∈ B1 ++ B2) → (c ∈ A ∨ c ∈ B) → c ∈ A1 ++ [(nd (h + 1) k : Int)] ++ A2 ∨ c ∈ B1 ++ B2 := fun ha hb hc => hc.imp (ha _) (hb _)
    have u1a : ∀ z ∈ A1, z ∈ A1 ++ [(nd (h + 1) k : Int)] ++ A2 := fun z hz => (mA z).2 (.inl (.inl hz))
    have u2a : ∀ z ∈ A2, z ∈ A1 ++ [(nd (h + 1) k : Int)] ++ A2 := fun z hz => (mA z).2 (.inr hz)
    have u1b : ∀ z ∈ B1, z ∈ B1 ++ B2 := fun z hz => (mB z).2 (.inl hz)
    have u2b : ∀ z ∈ B2, z ∈ B1 ++ B2 := fun z hz => (mB z).2 (.inr hz)
    rcases (mA x).1 hx with (hx | rfl) | hx
    · exact ⟨fun h0 => up u1a u1b ((h1.kids x hx hf).1 h0), fun h0 => up u1a u1b ((h1.kids x hx hf).2 h0)⟩
    · rw [hl, hr]
      exact ⟨fun _ => up u1a u1b h1.root, fun _ => up u2a u2b h2.root⟩
    · exact ⟨fun h0 => up u2a u2b ((h2.kids x hx hf).1 h0), fun h0 => up u2a u2b ((h2.kids x hx hf).2 h0)⟩
  · right
    rcases (mB y).1 hy with hy | hy
    · rcases h1.back y hy with rfl | ⟨x, hx, e⟩
      · exact ⟨_, (mA _).2 (.inl (.inr rfl)), .inl hl⟩
      · exact ⟨x, (mA x).2 (.inl (.inl hx)), e⟩
    · rcases h2.back y hy with rfl | ⟨x, hx, e⟩
      · exact ⟨_, (mA _).2 (.inl (.inr rfl)), .inr hr⟩
      · exact ⟨x, (mA x).2 (.inr hx), e⟩
theorem mem1 {x y : Int} (h : x ∈ [y]) : x = y := by simpa using h
theorem Sh.stub (O : List Spot) (h k : Nat) : Sh O h k [] [(nd h k : Int)] where
  ra := by simp
  rb := fun x hx => by rw [mem1 hx]; exact inR_self h k
  pa := by simp
  pb := by simp
  dj := by simp
  kids := by simp
  back := fun y hy => .inl (mem1 hy)
  root := .inr (by simp)
theorem Sh.miss {O : List Spot} {h k : Nat} (hx : findS O (nd h k) = none) : Sh O h k [(nd h k : Int)] [] where
  ra := fun x hx => by rw [mem1 hx]; exact inR_self h k
  rb := by simp
  pa := by simp
  pb := by simp
  dj := by simp
  kids := fun x hm hf => by rw [mem1 hm, hx] at hf; cases hf
  back := by simp
  root := .inl (by simp)
theorem Sh.leaf (O : List Spot) {k : Nat} (hk : k < 65536) : Sh O 0 k [(nd 0 k : Int)] [] where
  ra := fun x hx => by rw [mem1 hx]; exact inR_self 0 k
  rb := by simp
  pa := by simp
  pb := by simp
  dj := by simp
  kids := fun x hm _ => by
    have h1 := leaf_nd (d := 16) (by omega) (show k < 2 ^ 16 from hk)
    rw [mem1 hm, h1.1, h1.2]
    exact ⟨fun h => by omega, fun h => by omega⟩
  back := by simp
  root := .inl (by simp)

def kidS (p : Nat → Bool → List Int → List Int × List Int) (h : Nat) (all : Bool) (late : List Int) (j : Nat) : List Int × List Int :=
  if all then p j true [] else if late.any (fun u => underI (2 * u) (nd h j)) then p j false late else ([], [(nd h j : Int)])
def shP (O : List Spot) : Nat → Nat → Bool → List Int → List Int × List Int
  | 0, k, _, _ => ([(nd 0 k : Int)], [])
  | h + 1, k, whole, late => match findS O (nd (h + 1) k) with
    | none => ([(nd (h + 1) k : Int)], [])
    | some n =>
      let a := kidS (fun j w l => shP O h j w l) h (whole && decide (n.kind.toNat = 0)) (if whole then n.par.late else late) (2 * k)
      let b := kidS (fun j w l => shP O h j w l) h (whole && decide (n.kind.toNat = 0)) (if whole then n.par.late else late) (2 * k + 1)
      (a.1 ++ [(nd (h + 1) k : Int)] ++ b.1, a.2 ++ b.2)
theorem kid_lt {h k : Nat} (hh : h + 1 ≤ 16) (hk : k < 2 ^ (16 - (h + 1))) : 2 * k + 1 < 2 ^ (16 - h) := by
  have : 2 ^ (16 - h) = 2 * 2 ^ (16 - (h + 1)) := by rw [show 16 - h = (16 - (h + 1)) + 1 by omega, Nat.pow_succ]; omega
  omega
theorem shP_sh (O : List Spot) : ∀ (h k : Nat) (w : Bool) (l : List Int), h ≤ 16 → k < 2 ^ (16 - h) → Sh O h k (shP O h k w l).1 (shP O h k w l).2
  | 0, k, w, l, _, hk => Sh.leaf O (by simpa using hk)
  | h + 1, k, w, l, hh, hk => by
    have hk2 := kid_lt hh hk
    have kid : ∀ all late j, j < 2 ^ (16 - h) → Sh O h j (kidS (fun j w l => shP O h j w l) h all late j).1 (kidS (fun j w l => shP O h j w l) h all late j).2 := fun all late j hj => by
      unfold kidS
      split
      · exact shP_sh O h j true [] (by omega) hj
      · split
        · exact shP_sh O h j false late (by omega) hj
        · exact Sh.stub O h j
    unfold shP
    cases hf : findS O (nd (h + 1) k) with
    | none => exact Sh.miss hf
    | some n => exact Sh.join hh hk (kid _ _ (2 * k) (by omega)) (kid _ _ (2 * k + 1) hk2)

/-! ### Counts, by the program -/
def stubOk (H : List Stub) (x : Int) : Bool := match shutF H x with
  | some h => decide (h.length = 32)
  | none => false
theorem stubP_ok (H : List Stub) (x : Int) : stubP H x = if stubOk H x then 1 else none_ := by
  unfold stubP stubOk
  cases shutF H x with
  | none => simp
  | some h => by_cases e : h.length = 32 <;> simp [e]
def okO (O : List Spot) (x : Int) : Bool := match findS O x with
  | some n => fineP x n
  | none => false
theorem partP_sh (O : List Spot) (H : List Stub) : ∀ (h k : Nat) (w : Bool) (l : List Int),
    ((shP O h k w l).1.length + (shP O h k w l).2.length ≤ 2 ^ (h + 1) - 1) ∧
    (if (shP O h k w l).1.all (okO O) && (shP O h k w l).2.all (stubOk H) then partP O H h k w l = ((shP O h k w l).1.length + (shP O h k w l).2.length : Nat) else partP O H h k w l ≤ none_ + 2 ^ (h + 1) - 1)
  | 0, k, w, l => by
    unfold shP partP
    simp only [List.all_cons, List.all_nil, Bool.and_true, okO]
    cases findS O (nd 0 k) with
    | none => simp [none_]
    | some n => cases hfp : fineP (nd 0 k) n <;> simp [none_, hfp]
  | h + 1, k, w, l => by
    have hp := pow_pos' h
    have e1 : 2 ^ (h + 1 + 1) = 4 * 2 ^ h := by rw [Nat.pow_succ, Nat.pow_succ]; omega
    have e2 : 2 ^ (h + 1) = 2 * 2 ^ h := by rw [Nat.pow_succ]; omega
    have e1' : (2 : Int) ^ (h + 1 + 1) = ((2 ^ (h + 1 + 1) : Nat) : Int) := by simp
    have e2' : (2 : Int) ^ (h + 1) = ((2 ^ (h + 1) : Nat) : Int) := by simp
    unfold shP partP
    cases hf : findS O (nd (h + 1) k) with
    | none => simp only [List.all_cons, List.all_nil, Bool.and_true, okO, hf]; simp [none_]; omega
    | some n =>
      have kid : ∀ all late j, ((kidS (fun j w l => shP O h j w l) h all late j).1.length + (kidS (fun j w l => shP O h j w l) h all late j).2.length ≤ 2 ^ (h + 1) - 1) ∧
          (if (kidS (fun j w l => shP O h j w l) h all late j).1.all (okO O) && (kidS (fun j w l => shP O h j w l) h all late j).2.all (stubOk H) then kidP H (fun j w l => partP O H h j w l) h all late j = ((kidS (fun j w l => shP O h j w l) h all late j).1.length + (kidS (fun j w l => shP O h j w l) h all late j).2.length : Nat) else kidP H (fun j w l => partP O H h j w l) h all late j ≤ none_ + 2 ^ (h + 1) - 1) := fun all late j => by
        unfold kidS kidP
        split
        · exact partP_sh O H h j true []
        · split
          · exact partP_sh O H h j false late
          · refine ⟨by simp; omega, ?_⟩
            rw [stubP_ok]
            simp only [List.all_nil, List.all_cons, Bool.and_true, Bool.true_and]
            split
            · simp
            · rw [e2']; simp only [none_]; omega
      have k1 := kid (w && decide (n.kind.toNat = 0)) (if w then n.par.late else l) (2 * k)
      have k2 := kid (w && decide (n.kind.toNat = 0)) (if w then n.par.late else l) (2 * k + 1)
      have b1 := kidP_bd (partP_bd O H h) (w && decide (n.kind.toNat = 0)) (if w then n.par.late else l) (2 * k)
      have b2 := kidP_bd (partP_bd O H h) (w && decide (n.kind.toNat = 0)) (if w then n.par.late else l) (2 * k + 1)
      simp only
      generalize kidS (fun j w l => shP O h j w l) h (w && decide (n.kind.toNat = 0)) (if w then n.par.late else l) (2 * k) = s1 at *
      generalize kidS (fun j w l => shP O h j w l) h (w && decide (n.kind.toNat = 0)) (if w then n.par.late else l) (2 * k + 1) = s2 at *
      generalize kidP H (fun j w l => partP O H h j w l) h (w && decide (n.kind.toNat = 0)) (if w then n.par.late else l) (2 * k) = p1 at *
      generalize kidP H (fun j w l => partP O H h j w l) h (w && decide (n.kind.toNat = 0)) (if w then n.par.late else l) (2 * k + 1) = p2 at *
      have hall : ((s1.1 ++ [(nd (h + 1) k : Int)] ++ s2.1).all (okO O) && (s1.2 ++ s2.2).all (stubOk H)) = (fineP (nd (h + 1) k) n && ((s1.1.all (okO O) && s1.2.all (stubOk H)) && (s2.1.all (okO O) && s2.2.all (stubOk H)))) := by
        simp only [List.all_append, List.all_cons, List.all_nil, Bool.and_true, okO, hf]
        cases s1.1.all (okO O) <;> cases s1.2.all (stubOk H) <;> cases s2.1.all (okO O) <;> cases s2.2.all (stubOk H) <;> cases fineP (nd (h + 1) k) n <;> rfl
      rw [hall]
      have hlen : (s1.1 ++ [(nd (h + 1) k : Int)] ++ s2.1).length + (s1.2 ++ s2.2).length = 1 + (s1.1.length + s1.2.length) + (s2.1.length + s2.2.length) := by simp; omega
      rw [hlen]
      refine ⟨by omega, ?_⟩
      cases hfp : fineP (nd (h + 1) k) n with
      | false => simp only [Bool.false_and, Bool.false_eq_true, if_false, none_]; omega
      | true =>
        simp only [Bool.true_and, if_true]
        cases hb1 : (s1.1.all (okO O) && s1.2.all (stubOk H)) <;> cases hb2 : (s2.1.all (okO O) && s2.2.all (stubOk H)) <;> simp only [hb1, hb2, Bool.false_eq_true, if_false, if_true, Bool.and_true, Bool.and_false, Bool.true_and, Bool.false_and] at * <;> simp only [none_] at * <;> omega
end Go.Proofs.YtpdllgbfemnemaaGreat.Sx
end

section
namespace Go.Proofs.YtpdllgbfemnemaaGreat.Sx
open Go.RowKit

theorem inR_nd {i j h k : Nat} : inR h k (nd i j) ↔ i ≤ h ∧ j / 2 ^ (h - i) = k := by
  constructor
  · intro hr
    have hih : i ≤ h := by
      rcases Nat.lt_or_ge h i with hlt | hge
      · exfalso
        obtain ⟨e, rfl⟩ : ∃ e, i = h + 1 + e := ⟨i - (h + 1), by omega⟩
        unfold inR nd at hr
        have e1 : 2 ^ (h + 1 + e) = 2 ^ (h + 1) * 2 ^ e := Nat.pow_add ..
        have e2 : j * 2 ^ (h + 1 + e + 1) = 2 ^ (h + 1) * (j * (2 ^ e * 2)) := by rw [Nat.pow_succ 2 (h + 1 + e), e1, Nat.mul_assoc, Nat.mul_left_comm]
        have e3 : k * 2 ^ (h + 1) = 2 ^ (h + 1) * k := Nat.mul_comm ..
        rw [e1, e2, e3] at hr
        have hp := pow_pos' (h + 1)
        have hq := pow_pos' e
        generalize 2 ^ (h + 1) = q at *
        generalize j * (2 ^ e * 2) = r at *
        generalize 2 ^ e = t at *
        have hle1 : q * k ≤ q * r + q * t - 1 := by
          have : 0 < q * t := Nat.mul_pos hp hq
          omega
        have h1 : q * k + 1 ≤ q * (r + t) := by rw [Nat.mul_add]; have : 0 < q * t := Nat.mul_pos hp hq; omega
        have h2 : q * (r + t) + 1 ≤ q * k + q := by rw [Nat.mul_add]; omega
        have h3 : k < r + t := by
          rcases Nat.lt_or_ge k (r + t) with h | h
          · exact h
          · have := Nat.mul_le_mul_left q h; omega
        have h4 : r + t < k + 1 := by
          rcases Nat.lt_or_ge (r + t) (k + 1) with h | h
          · exact h
          · have := Nat.mul_le_mul_left q h; rw [Nat.mul_add q k 1, Nat.mul_one] at this; omega
        omega
      · exact hge
    refine ⟨hih, ?_⟩
    have hn := nd_in i j (h - i)
    rw [show i + (h - i) + 1 = h + 1 by omega] at hn
    unfold inR at hr
    have hp := pow_pos' (h + 1)
    generalize j / 2 ^ (h - i) = k' at *
    have e : ∀ a b : Nat, a * 2 ^ (h + 1) + 1 ≤ b * 2 ^ (h + 1) + 2 ^ (h + 1) → a ≤ b := fun a b hab => by
      rcases Nat.lt_or_ge b a with hba | hba
      · have := Nat.mul_le_mul_right (2 ^ (h + 1)) (show b + 1 ≤ a from hba)
        rw [Nat.add_mul, Nat.one_mul] at this
        omega
      · exact hba
    have a1 := e k' k (by omega)
    have a2 := e k k' (by omega)
    omega
  · rintro ⟨hih, rfl⟩
    have hn := nd_in i j (h - i)
    rw [show i + (h - i) + 1 = h + 1 by omega] at hn
    unfold inR
    omega
theorem under_inR {x : Int} {d h k : Nat} (hd : d ≤ 16) (hh : h ≤ d) (hk : k < 2 ^ (d - h)) (hx : nodeI x = true) : underI x (nd h k) = true ↔ inR h k x := by
  rw [under_down hd hh hk hx]
  unfold inR trip
  simp only [Bool.and_eq_true, decide_eq_true_eq]
  have hp := pow_pos' h
  rw [Nat.pow_succ 2 h]
  omega
theorem lateD_nat {u : Int} (h : lateD u) : ∃ m : Nat, u = m ∧ m < 65536 ∧ 2 * u = (nd 0 m : Int) := by
  unfold lateD at h
  obtain ⟨m, rfl⟩ := Int.eq_ofNat_of_zero_le h.1
  exact ⟨m, rfl, by omega, by rw [nd_zero]; omega⟩
theorem under_late {h k m : Nat} (hh : h ≤ 16) (hk : k < 2 ^ (16 - h)) (hm : m < 65536) : underI (2 * (m : Int)) (nd h k) = true ↔ m / 2 ^ h = k := by
  rw [show 2 * (m : Int) = (nd 0 m : Int) by rw [nd_zero]; omega, under_inR (d := 16) (by omega) hh hk (nd_nodeI (d := 16) (by omega) (by omega) (by simpa using hm)), inR_nd]
  simp

abbrev found (O : List Spot) (z : Int) : Bool := (findS O z).isSome
/-- Above late leaves, beneath a node. -/
def Lset (late : List Int) (h k : Nat) (z : Int) : Prop := ∃ m : Nat, (m : Int) ∈ late ∧ m / 2 ^ h = k ∧ ∃ i, i ≤ h ∧ z = (nd i (m / 2 ^ i) : Int)
theorem Lset_up {late : List Int} {h k : Nat} {z : Int} : Lset late (h + 1) k z ↔ (z = (nd (h + 1) k : Int) ∧ ∃ m : Nat, (m : Int) ∈ late ∧ m / 2 ^ (h + 1) = k) ∨ Lset late h (2 * k) z ∨ Lset late h (2 * k + 1) z := by
  have key : ∀ m : Nat, m / 2 ^ (h + 1) = m / 2 ^ h / 2 := fun m => by rw [Nat.pow_succ, Nat.div_div_eq_div_mul]
  constructor
  · rintro ⟨m, hm, hk, i, hi, rfl⟩
    rcases Nat.eq_or_lt_of_le hi with rfl | hlt
    · exact .inl ⟨by rw [hk], m, hm, hk⟩
    · right
      rw [key] at hk
      rcases Nat.mod_two_eq_zero_or_one (m / 2 ^ h) with h0 | h0
      · exact .inl ⟨m, hm, by omega, i, by omega, rfl⟩
      · exact .inr ⟨m, hm, by omega, i, by omega, rfl⟩
  · rintro (⟨rfl, m, hm, hk⟩ | ⟨m, hm, hk, i, hi, rfl⟩ | ⟨m, hm, hk, i, hi, rfl⟩)
    · exact ⟨m, hm, hk, h + 1, Nat.le_refl _, by rw [hk]⟩
    · exact ⟨m, hm, by rw [key]; omega, i, by omega, rfl⟩
    · exact ⟨m, hm, by rw [key]; omega, i, by omega, rfl⟩
theorem any_iff {late : List Int} (hl : ∀ u ∈ late, lateD u) {h k : Nat} (hh : h ≤ 16) (hk : k < 2 ^ (16 - h)) : late.any (fun u => underI (2 * u) (nd h k)) = true ↔ ∃ m : Nat, (m : Int) ∈ late ∧ m / 2 ^ h = k := by
  rw [List.any_eq_true]
  constructor
  · rintro ⟨u, hu, h1⟩
    obtain ⟨m, rfl, hm, _⟩ := lateD_nat (hl u hu)
    exact ⟨m, hu, (under_late hh hk hm).1 h1⟩
  · rintro ⟨m, hm, h1⟩
    have := hl _ hm
    unfold lateD at this
    exact ⟨m, hm, (under_late hh hk (by omega)).2 h1⟩
/-- Above late leaves, by the program. -/
theorem late_mode (O : List Spot) {late : List Int} (hl : ∀ u ∈ late, lateD u) : ∀ (h k : Nat), h ≤ 16 → k < 2 ^ (16 - h) → late.any (fun u => underI (2 * u) (nd h k)) = true →
    ((shP O h k false late).1.all (found O) = true ↔ ∀ z, Lset late h k z → found O z = true) ∧ ((shP O h k false late).1.all (found O) = true → ∀ z, z ∈ (shP O h k false late).1 ↔ Lset late h k z)
  | 0, k, hh, hk, ha => by
    obtain ⟨m, hm, hmk⟩ := (any_iff hl hh hk).1 ha
    have hL : ∀ z, Lset late 0 k z ↔ z = (nd 0 k : Int) := fun z => by
      constructor
      · rintro ⟨m', _, e, i, hi, rfl⟩
        have : i = 0 := by omega
        subst this
        rw [e]
      · rintro rfl
        exact ⟨m, hm, hmk, 0, Nat.le_refl _, by rw [hmk]⟩
    simp only [hL, shP]
    simp
  | h + 1, k, hh, hk, ha => by
    obtain ⟨m, hm, hmk⟩ := (any_iff hl hh hk).1 ha
    have hk2 := kid_lt hh hk
    have hx : Lset late (h + 1) k (nd (h + 1) k) := Lset_up.2 (.inl ⟨rfl, m, hm, hmk⟩)
    unfold shP
    cases hf : findS O (nd (h + 1) k) with
    | none =>
      simp only [List.all_cons, List.all_nil, Bool.and_true, found, hf]
      refine ⟨⟨fun g => (by cases g), fun g => ?_⟩, fun g => (by cases g)⟩
      have := g _ hx
      simp [found, hf] at this
    | some n =>
      simp only [Bool.false_and, Bool.false_eq_true, if_false]
      have kid : ∀ j, j < 2 ^ (16 - h) → ((kidS (fun j w l => shP O h j w l) h false late j).1.all (found O) = true ↔ ∀ z, Lset late h j z → found O z = true) ∧ ((kidS (fun j w l => shP O h j w l) h false late j).1.all (found O) = true → ∀ z, z ∈ (kidS (fun j w l => shP O h j w l) h false late j).1 ↔ Lset late h j z) := fun j hj => by
        unfold kidS
        simp only [Bool.false_eq_true, if_false]
        split
        · rename_i hany
          exact late_mode O hl h j (by omega) hj hany
        · rename_i hany
          have hno : ∀ z, ¬ Lset late h j z := by
            rintro z ⟨m', hm', e, _⟩
            exact hany ((any_iff hl (by omega) hj).2 ⟨m', hm', e⟩)
          simp [hno]
      obtain ⟨a1, a2⟩ := kid (2 * k) (by omega)
      obtain ⟨b1, b2⟩ := kid (2 * k + 1) hk2
      generalize kidS (fun j w l => shP O h j w l) h false late (2 * k) = s1 at *
      generalize kidS (fun j w l => shP O h j w l) h false late (2 * k + 1) = s2 at *
      have hall : (s1.1 ++ [(nd (h + 1) k : Int)] ++ s2.1).all (found O) = true ↔ s1.1.all (found O) = true ∧ s2.1.all (found O) = true := by
        simp only [List.all_append, List.all_cons, List.all_nil, Bool.and_true, Bool.and_eq_true, found, hf, Option.isSome_some, and_true]
      rw [hall, a1, b1]
      refine ⟨⟨fun ⟨u, v⟩ z hz => ?_, fun hz => ⟨fun z h => hz z (Lset_up.2 (.inr (.inl h))), fun z h => hz z (Lset_up.2 (.inr (.inr h)))⟩⟩, fun ⟨u, v⟩ z => ?_⟩
      · rcases Lset_up.1 hz with ⟨rfl, _⟩ | hz | hz
        · simp [found, hf]
        · exact u z hz
        · exact v z hz
      · have m1 := a2 (a1.2 u) z
        have m2 := b2 (b1.2 v) z
        rw [List.mem_append, List.mem_append, m1, m2, Lset_up]
        constructor
        · rintro ((h | h) | h)
          · exact .inr (.inl h)
          · exact .inl ⟨by simpa using h, m, hm, hmk⟩
          · exact .inr (.inr h)
        · rintro (⟨rfl, _⟩ | h | h)
          · exact .inl (.inr (by simp))
          · exact .inl (.inl h)
          · exact .inr h

/-! ### The reference's list -/
def Winv (O : List Spot) (x : Int) (a : List Int × Bool) : Prop := a.2 = true ↔ ∀ z ∈ a.1, z ≠ x → found O z = true
theorem wstep_inv {O : List Spot} {x z : Int} {a : List Int × Bool} (h : Winv O x a) : Winv O x (wstep O x a z) := by
  unfold wstep Winv at *
  split
  · rename_i hc
    simp only [Bool.and_eq_true]
    rw [h]
    constructor
    · rintro ⟨h1, h2⟩ y hy hne
      rcases List.mem_append.1 hy with hy | hy
      · exact h1 y hy hne
      · rw [mem1 hy]; exact h2
    · intro h1
      exact ⟨fun y hy hne => h1 y (List.mem_append_left _ hy) hne, h1 z (by simp) hc.1⟩
  · exact h
theorem wstep_mem {O : List Spot} {x z y : Int} {a : List Int × Bool} : y ∈ (wstep O x a z).1 ↔ y ∈ a.1 ∨ (y = z ∧ z ≠ x ∧ underI z x = true) := by
  unfold wstep
  split
  · rename_i hc
    rw [List.mem_append]
    constructor
    · rintro (h | h)
      · exact .inl h
      · exact .inr ⟨mem1 h, hc.1, hc.2.1⟩
    · rintro (h | ⟨rfl, _⟩)
      · exact .inl h
      · exact .inr (by simp)
  · rename_i hc
    constructor
    · exact .inl
    · rintro (h | ⟨rfl, h1, h2⟩)
      · exact h
      · by_cases hm : y ∈ a.1
        · exact hm
        · exact absurd ⟨h1, h2, hm⟩ hc
theorem wsteps {O : List Spot} {x : Int} : ∀ (l : List Int) (a : List Int × Bool), Winv O x a → Winv O x (l.foldl (wstep O x) a) ∧ ∀ y, y ∈ (l.foldl (wstep O x) a).1 ↔ y ∈ a.1 ∨ (y ∈ l ∧ y ≠ x ∧ underI y x = true) := by
  intro l
  induction l with
  | nil => intro a h; exact ⟨h, fun y => by simp⟩
  | cons z l ih =>
    intro a h
    obtain ⟨h1, h2⟩ := ih (wstep O x a z) (wstep_inv h)
    refine ⟨h1, fun y => ?_⟩
    rw [List.foldl_cons, h2, wstep_mem, List.mem_cons]
    constructor
    · rintro ((h | ⟨rfl, h3⟩) | ⟨h3, h4⟩)
      · exact .inl h
      · exact .inr ⟨.inl rfl, h3⟩
      · exact .inr ⟨.inr h3, h4⟩
    · rintro (h | ⟨rfl | h3, h4⟩)
      · exact .inl (.inl h)
      · exact .inl (.inr ⟨rfl, h4⟩)
      · exact .inr ⟨h3, h4⟩
theorem wfold_law {O : List Spot} {x n : Int} : ∀ (late : List Int) (a : List Int × Bool), Winv O x a → Winv O x (wfold O x n late a) ∧ ∀ y, y ∈ (wfold O x n late a).1 ↔ y ∈ a.1 ∨ ((∃ u ∈ late, y ∈ upL n u) ∧ y ≠ x ∧ underI y x = true) := by
  intro late
  induction late with
  | nil => intro a h; exact ⟨h, fun y => by simp [wfold]⟩
  | cons u late ih =>
    intro a h
    obtain ⟨h1, h2⟩ := wsteps (upL n u) a h
    obtain ⟨h3, h4⟩ := ih _ h1
    refine ⟨h3, fun y => ?_⟩
    have : wfold O x n (u :: late) a = wfold O x n late ((upL n u).foldl (wstep O x) a) := rfl
    rw [this, h4, h2]
    constructor
    · rintro ((h | ⟨h5, h6⟩) | ⟨⟨u', hu', h5⟩, h6⟩)
      · exact .inl h
      · exact .inr ⟨⟨u, by simp, h5⟩, h6⟩
      · exact .inr ⟨⟨u', by simp [hu'], h5⟩, h6⟩
    · rintro (h | ⟨⟨u', hu', h5⟩, h6⟩)
      · exact .inl (.inl h)
      · rcases List.mem_cons.1 hu' with rfl | hu'
        · exact .inl (.inr ⟨h5, h6⟩)
        · exact .inr ⟨⟨u', hu', h5⟩, h6⟩
theorem mem_upL {d m : Nat} (hd : d ≤ 16) (hm : m < 2 ^ d) (z : Int) : z ∈ upL ((2 ^ d : Nat) : Int) m ↔ ∃ i, i ≤ d ∧ z = (nd i (m / 2 ^ i) : Int) := by
  have e : 2 * (m : Int) = (nd 0 m : Int) := by rw [nd_zero]; omega
  unfold upL
  rw [e, path_range hd hm, List.mem_cons, List.mem_map]
  constructor
  · rintro (rfl | ⟨i, hi, rfl⟩)
    · exact ⟨0, by omega, by simp⟩
    · rw [List.mem_range] at hi
      exact ⟨i + 1, by omega, rfl⟩
  · rintro ⟨i, hi, rfl⟩
    cases i with
    | zero => left; simp
    | succ i => exact .inr ⟨i, List.mem_range.2 (by omega), rfl⟩

theorem pow_le16 {d : Nat} (hd : d ≤ 16) : 2 ^ d ≤ 65536 := Nat.pow_le_pow_right (n := 2) (by omega) (show d ≤ 16 from hd)
theorem lt16 {d h k : Nat} (hd : d ≤ 16) (hk : k < 2 ^ (d - h)) : k < 2 ^ (16 - h) := Nat.lt_of_lt_of_le hk (Nat.pow_le_pow_right (by omega) (by omega))
/-- What a node that has late leaves opens. -/
theorem whole_late {d h k : Nat} (hd : d ≤ 16) (hh : h ≤ d) (hk : k < 2 ^ (d - h)) {late : List Int} (hl : ∀ u ∈ late, lateD u) (hu : ∀ u ∈ late, underI (2 * u) (nd h k) = true) (y : Int) :
    ((∃ u ∈ late, y ∈ upL ((2 ^ d : Nat) : Int) u) ∧ y ≠ (nd h k : Int) ∧ underI y (nd h k) = true) ↔ Lset late h k y ∧ y ≠ (nd h k : Int) := by
  have hm : ∀ m : Nat, (m : Int) ∈ late → m < 65536 ∧ m / 2 ^ h = k := fun m hm => by
    have h1 := hl _ hm
    unfold lateD at h1
    exact ⟨by omega, (under_late (by omega) (lt16 hd hk) (by omega)).1 (hu _ hm)⟩
  have hmd : ∀ m : Nat, (m : Int) ∈ late → m < 2 ^ d := fun m hml => by
    have h1 := (hm m hml).2
    have h2 : m < (k + 1) * 2 ^ h := by
      have := Nat.lt_div_mul_add (a := m) (pow_pos' h)
      rw [h1] at this
      rw [Nat.add_mul]; omega
    have h3 : (k + 1) * 2 ^ h ≤ 2 ^ (d - h) * 2 ^ h := Nat.mul_le_mul_right _ hk
    rw [← Nat.pow_add, show d - h + h = d by omega] at h3
    omega
  constructor
  · rintro ⟨⟨u, hul, hy⟩, hne, hun⟩
    obtain ⟨m, rfl, _, _⟩ := lateD_nat (hl u hul)
    obtain ⟨i, hi, rfl⟩ := (mem_upL hd (hmd m hul) y).1 hy
    have hr := (under_inR hd hh hk (nd_nodeI hd hi (div_lt_pow (hmd m hul) hi))).1 hun
    obtain ⟨hih, _⟩ := inR_nd.1 hr
    exact ⟨⟨m, hul, (hm m hul).2, i, hih, rfl⟩, hne⟩
  · rintro ⟨⟨m, hml, e, i, hi, rfl⟩, hne⟩
    refine ⟨⟨m, hml, (mem_upL hd (hmd m hml) _).2 ⟨i, by omega, rfl⟩⟩, hne, ?_⟩
    refine (under_inR hd hh hk (nd_nodeI hd (by omega) (div_lt_pow (hmd m hml) (by omega)))).2 (inR_nd.2 ⟨hi, ?_⟩)
    rw [Nat.div_div_eq_div_mul, ← Nat.pow_add, show i + (h - i) = h by omega]
    exact e
theorem no_late {n : Node} (hr : n.right = true) (hk : n.kind.toNat ≠ 2) : n.par.late = [] := by
  unfold Node.right at hr
  split at hr
  · simp only [Bool.and_eq_true, Par.none, decide_eq_true_eq, List.length_eq_zero_iff] at hr
    exact hr.2.2.2
  · split at hr
    · simp only [Bool.and_eq_true, Par.none, decide_eq_true_eq, List.length_eq_zero_iff] at hr
      exact hr.2.2.2
    · cases hr
theorem whole_law {O : List Spot} {d : Nat} (hd : d ≤ 16) (hF : ∀ x n, findS O x = some n → fineP x n = true) : ∀ (h k : Nat), h ≤ d → k < 2 ^ (d - h) →
    ((wholeW O ((2 ^ d : Nat) : Int) h k).2 = true ↔ (shP O h k true []).1.all (found O) = true) ∧ ((wholeW O ((2 ^ d : Nat) : Int) h k).2 = true → ∀ z, z ∈ (wholeW O ((2 ^ d : Nat) : Int) h k).1 ↔ z ∈ (shP O h k true []).1)
  | 0, k, hh, hk => by
    unfold wholeW shP
    cases hf : findS O (nd 0 k) with
    | none => simp [found, hf]
    | some n =>
      have hfp := hF _ _ hf
      simp only [fineP, Bool.and_eq_true, decide_eq_true_eq] at hfp
      have hl := no_late hfp.1 (by have := hfp.2.1; simp only [otherK, tmod_even] at this; simpa using this)
      simp only [hl, wfold, List.foldl_nil]
      simp [found, hf]
  | h + 1, k, hh, hk => by
    have hk16 := lt16 hd hk
    have hk2 : 2 ^ (d - h) = 2 * 2 ^ (d - (h + 1)) := by rw [show d - h = (d - (h + 1)) + 1 by omega, Nat.pow_succ]; omega
    unfold wholeW shP
    cases hf : findS O (nd (h + 1) k) with
    | none => simp [found, hf]
    | some n =>
      have hfp := hF _ _ hf
      simp only [fineP, Bool.and_eq_true, decide_eq_true_eq, List.all_eq_true] at hfp
      have hl := Node.right_late hfp.1
      by_cases h0 : n.kind.toNat = 0
      · obtain ⟨a1, a2⟩ := whole_law hd hF h (2 * k) (by omega) (by omega)
        obtain ⟨b1, b2⟩ := whole_law hd hF h (2 * k + 1) (by omega) (by omega)
        simp only [h0, if_true, decide_true, Bool.and_true, kidS]
        generalize wholeW O ((2 ^ d : Nat) : Int) h (2 * k) = s1 at *
        generalize wholeW O ((2 ^ d : Nat) : Int) h (2 * k + 1) = s2 at *
        simp only [Bool.and_eq_true, List.all_append, List.all_cons, List.all_nil, Bool.and_true, found, hf, Option.isSome_some, and_true]
        refine ⟨by rw [a1, b1], fun ⟨u, v⟩ z => ?_⟩
        simp only [List.mem_append, a2 u z, b2 v z]
        constructor
        · rintro ((h | h) | h)
          · exact .inl (.inr h)
          · exact .inl (.inl h)
          · exact .inr h
        · rintro ((h | h) | h)
          · exact .inl (.inr h)
          · exact .inl (.inl h)
          · exact .inr h
      · obtain ⟨w1, w2⟩ := wfold_law (O := O) (x := (nd (h + 1) k : Int)) (n := ((2 ^ d : Nat) : Int)) n.par.late ([(nd (h + 1) k : Int)], true) (by unfold Winv; simp)
        simp only [h0, if_false, decide_false, Bool.and_false, if_true]
        unfold Winv at w1
        have w2' : ∀ y, y ∈ (wfold O (nd (h + 1) k) ((2 ^ d : Nat) : Int) n.par.late ([(nd (h + 1) k : Int)], true)).1 ↔ y = (nd (h + 1) k : Int) ∨ (Lset n.par.late h (2 * k) y ∨ Lset n.par.late h (2 * k + 1) y) := fun y => by
          rw [w2, whole_late hd hh hk hl hfp.2.2 y, Lset_up]
          simp only [List.mem_cons, List.not_mem_nil, or_false]
          constructor
          · rintro (g | ⟨⟨g, _⟩ | g, _⟩)
            · exact .inl g
            · exact .inl g
            · exact .inr g
          · rintro (g | g)
            · exact .inl g
            · by_cases hy : y = (nd (h + 1) k : Int)
              · exact .inl hy
              · exact .inr ⟨.inr g, hy⟩
        have kid : ∀ j, j < 2 ^ (16 - h) → ((kidS (fun j w l => shP O h j w l) h false n.par.late j).1.all (found O) = true ↔ ∀ z, Lset n.par.late h j z → found O z = true) ∧ ((kidS (fun j w l => shP O h j w l) h false n.par.late j).1.all (found O) = true → ∀ z, z ∈ (kidS (fun j w l => shP O h j w l) h false n.par.late j).1 ↔ Lset n.par.late h j z) := fun j hj => by
          unfold kidS
          simp only [Bool.false_eq_true, if_false]
          split
          · rename_i hany
            exact late_mode O hl h j (by omega) hj hany
          · rename_i hany
            have hno : ∀ z, ¬ Lset n.par.late h j z := by
              rintro z ⟨m', hm', e, _⟩
              exact hany ((any_iff hl (by omega) hj).2 ⟨m', hm', e⟩)
            simp [hno]
        obtain ⟨a1, a2⟩ := kid (2 * k) (by have := kid_lt (by omega) hk16; omega)
        obtain ⟨b1, b2⟩ := kid (2 * k + 1) (kid_lt (by omega) hk16)
        generalize kidS (fun j w l => shP O h j w l) h false n.par.late (2 * k) = s1 at *
        generalize kidS (fun j w l => shP O h j w l) h false n.par.late (2 * k + 1) = s2 at *
        generalize wfold O (nd (h + 1) k) ((2 ^ d : Nat) : Int) n.par.late ([(nd (h + 1) k : Int)], true) = r at *
        have hall : (s1.1 ++ [(nd (h + 1) k : Int)] ++ s2.1).all (found O) = true ↔ s1.1.all (found O) = true ∧ s2.1.all (found O) = true := by
          simp only [List.all_append, List.all_cons, List.all_nil, Bool.and_true, Bool.and_eq_true, found, hf, Option.isSome_some, and_true]
        have hx : found O (nd (h + 1) k) = true := by simp [found, hf]
        have e1 : r.2 = true ↔ s1.1.all (found O) = true ∧ s2.1.all (found O) = true := by
          rw [w1, a1, b1]
          constructor
          · intro g
            refine ⟨fun z hz => ?_, fun z hz => ?_⟩
            · by_cases hzx : z = (nd (h + 1) k : Int)
              · rw [hzx]; exact hx
              · exact g z ((w2' z).2 (.inr (.inl hz))) hzx
            · by_cases hzx : z = (nd (h + 1) k : Int)
              · rw [hzx]; exact hx
              · exact g z ((w2' z).2 (.inr (.inr hz))) hzx
          · rintro ⟨u, v⟩ z hz hne
            rcases (w2' z).1 hz with g | g | g
            · exact absurd g hne
            · exact u z g
            · exact v z g
        rw [hall]
        refine ⟨e1, fun g z => ?_⟩
        obtain ⟨u, v⟩ := e1.1 g
        rw [w2', List.mem_append, List.mem_append, a2 u z, b2 v z]
        simp only [List.mem_cons, List.not_mem_nil, or_false]
        constructor
        · rintro (h | h | h)
          · exact .inl (.inr h)
          · exact .inl (.inl h)
          · exact .inr h
        · rintro ((h | h) | h)
          · exact .inr (.inl h)
          · exact .inl h
          · exact .inr (.inr h)
end Go.Proofs.YtpdllgbfemnemaaGreat.Sx
end

section
namespace Go.Proofs.YtpdllgbfemnemaaGreat.Sx
open Go.RowKit

theorem nd_uniq {h k : Nat} (hh : h ≤ 16) (hk : k < 2 ^ (16 - h)) : lv ((nd h k : Int)).toNat = h ∧ ((nd h k : Int)).toNat / 2 ^ (lv ((nd h k : Int)).toNat + 1) = k := by
  have hn := nd_nodeI (d := 16) (by omega) hh hk
  obtain ⟨h', k', hh', hk', e, e1, e2⟩ := node_nd hn
  obtain ⟨rfl, rfl⟩ := nd_inj hh hh' (Int.ofNat.inj e)
  exact ⟨e1, e2⟩
theorem partI_nd (O : List Spot) (H : List Stub) {h k : Nat} (hh : h ≤ 16) (hk : k < 2 ^ (16 - h)) : partI O H (nd h k) = partP O H h k true [] := by
  obtain ⟨e1, e2⟩ := nd_uniq hh hk
  unfold partI
  rw [e2, e1]
theorem wholeI_nd (O : List Spot) (n : Int) {h k : Nat} (hh : h ≤ 16) (hk : k < 2 ^ (16 - h)) : wholeI O n (nd h k) = wholeW O n h k := by
  obtain ⟨e1, e2⟩ := nd_uniq hh hk
  unfold wholeI
  rw [e2, e1]

def kidT (O : List Spot) (o h : Nat) : List Int × List Int := if found O (nd h (sibN (o / 2 ^ h))) then shP O h (sibN (o / 2 ^ h)) true [] else ([], [(nd h (sibN (o / 2 ^ h)) : Int)])
def topS (O : List Spot) (o : Nat) : Nat → List Int × List Int
  | 0 => ([(nd 0 o : Int)], [])
  | h + 1 => if (o / 2 ^ h) % 2 = 0 then ((topS O o h).1 ++ [(nd (h + 1) (o / 2 ^ (h + 1)) : Int)] ++ (kidT O o h).1, (topS O o h).2 ++ (kidT O o h).2)
    else ((kidT O o h).1 ++ [(nd (h + 1) (o / 2 ^ (h + 1)) : Int)] ++ (topS O o h).1, (kidT O o h).2 ++ (topS O o h).2)
theorem sib_lt {d o h : Nat} (ho : o < 2 ^ d) (hh : h < d) : sibN (o / 2 ^ h) < 2 ^ (d - h) := by
  rw [show d - h = d - h - 1 + 1 by omega]
  exact sibN_lt (by rw [show d - h - 1 + 1 = d - h by omega]; exact div_lt_pow ho (by omega))
theorem half_pow (o h : Nat) : o / 2 ^ (h + 1) = o / 2 ^ h / 2 := by rw [Nat.pow_succ, Nat.div_div_eq_div_mul]
theorem kidT_sh (O : List Spot) {d o h : Nat} (hd : d ≤ 16) (ho : o < 2 ^ d) (hh : h < d) : Sh O h (sibN (o / 2 ^ h)) (kidT O o h).1 (kidT O o h).2 := by
  have hs := lt16 hd (sib_lt ho hh)
  unfold kidT
  split
  · exact shP_sh O h _ true [] (by omega) hs
  · exact Sh.stub O h _
theorem topS_sh (O : List Spot) {d o : Nat} (hd : d ≤ 16) (ho : o < 2 ^ d) : ∀ h, h ≤ d → Sh O h (o / 2 ^ h) (topS O o h).1 (topS O o h).2
  | 0, _ => by
    have := pow_le16 hd
    simpa [topS] using Sh.leaf O (k := o) (by omega)
  | h + 1, hh => by
    have ih := topS_sh O hd ho h (by omega)
    have kd := kidT_sh O hd ho (show h < d by omega)
    have hk := lt16 hd (div_lt_pow ho hh)
    have hp := half_pow o h
    unfold topS
    split
    · rename_i he
      have e1 : 2 * (o / 2 ^ (h + 1)) = o / 2 ^ h := by omega
      have e2 : 2 * (o / 2 ^ (h + 1)) + 1 = sibN (o / 2 ^ h) := by unfold sibN; rw [if_pos he]; omega
      exact Sh.join (by omega) hk (by rw [e1]; exact ih) (by rw [e2]; exact kd)
    · rename_i he
      have e1 : 2 * (o / 2 ^ (h + 1)) = sibN (o / 2 ^ h) := by unfold sibN; rw [if_neg he]; omega
      have e2 : 2 * (o / 2 ^ (h + 1)) + 1 = o / 2 ^ h := by omega
      exact Sh.join (by omega) hk (by rw [e1]; exact kd) (by rw [e2]; exact ih)
theorem topS_mem (O : List Spot) (o : Nat) : ∀ h (z : Int), (z ∈ (topS O o h).1 ↔ (∃ i, i ≤ h ∧ z = (nd i (o / 2 ^ i) : Int)) ∨ ∃ i, i < h ∧ z ∈ (kidT O o i).1) ∧ (z ∈ (topS O o h).2 ↔ ∃ i, i < h ∧ z ∈ (kidT O o i).2)
  | 0, z => by
    unfold topS
    constructor
    · constructor
      · intro hz; exact .inl ⟨0, Nat.le_refl _, by rw [mem1 hz]; simp⟩
      · rintro (⟨i, hi, rfl⟩ | ⟨i, hi, _⟩)
        · have : i = 0 := by omega
          subst this; simp
        · omega
    · constructor
      · intro hz; simp at hz
      · rintro ⟨i, hi, _⟩; omega
  | h + 1, z => by
    obtain ⟨i1, i2⟩ := topS_mem O o h z
    have hA : z ∈ (topS O o (h + 1)).1 ↔ z ∈ (topS O o h).1 ∨ z = (nd (h + 1) (o / 2 ^ (h + 1)) : Int) ∨ z ∈ (kidT O o h).1 := by
      simp only [topS]
      split
      · simp only [List.mem_append, List.mem_cons, List.not_mem_nil, or_false, or_assoc]
      · simp only [List.mem_append, List.mem_cons, List.not_mem_nil, or_false]
        constructor
        · rintro ((g | g) | g)
          · exact .inr (.inr g)
          · exact .inr (.inl g)
          · exact .inl g
        · rintro (g | g | g)
          · exact .inr g
          · exact .inl (.inr g)
          · exact .inl (.inl g)
    have hB : z ∈ (topS O o (h + 1)).2 ↔ z ∈ (topS O o h).2 ∨ z ∈ (kidT O o h).2 := by
      simp only [topS]
      split
      · simp only [List.mem_append]
      · simp only [List.mem_append]; exact Or.comm
    rw [hA, hB, i1, i2]
    constructor
    · constructor
      · rintro ((⟨i, hi, g⟩ | ⟨i, hi, g⟩) | g | g)
        · exact .inl ⟨i, by omega, g⟩
        · exact .inr ⟨i, by omega, g⟩
        · exact .inl ⟨h + 1, Nat.le_refl _, g⟩
        · exact .inr ⟨h, by omega, g⟩
      · rintro (⟨i, hi, g⟩ | ⟨i, hi, g⟩)
        · rcases Nat.eq_or_lt_of_le hi with rfl | hlt
          · exact .inr (.inl g)
          · exact .inl (.inl ⟨i, by omega, g⟩)
        · rcases Nat.eq_or_lt_of_le (Nat.le_of_lt_succ hi) with rfl | hlt
          · exact .inr (.inr g)
          · exact .inl (.inr ⟨i, hlt, g⟩)
    · constructor
      · rintro (⟨i, hi, g⟩ | g)
        · exact ⟨i, by omega, g⟩
        · exact ⟨h, by omega, g⟩
      · rintro ⟨i, hi, g⟩
        rcases Nat.eq_or_lt_of_le (Nat.le_of_lt_succ hi) with rfl | hlt
        · exact .inr g
        · exact .inl ⟨i, hlt, g⟩

/-! ### Rising lists -/
theorem rise_sub : ∀ {l m : List Int}, l.Pairwise (· < ·) → m.Pairwise (· < ·) → (∀ x ∈ l, x ∈ m) → l.length ≤ m.length ∧ (l.length = m.length → l = m)
  | [], [], _, _, _ => ⟨Nat.le_refl _, fun _ => rfl⟩
  | [], y :: m, _, _, _ => ⟨by simp, fun h => by simp at h⟩
  | x :: l, [], _, _, h => by have := h x (by simp); cases this
  | x :: l, y :: m, hl, hm, h => by
    rw [List.pairwise_cons] at hl hm
    by_cases hxy : x = y
    · subst hxy
      obtain ⟨a, b⟩ := rise_sub hl.2 hm.2 fun z hz => by
        rcases List.mem_cons.1 (h z (List.mem_cons_of_mem _ hz)) with e | hz'
        · have := hl.1 z hz; omega
        · exact hz'
      exact ⟨by simpa using a, fun e => by rw [b (by simpa using e)]⟩
    · have hxm : x ∈ m := by
        rcases List.mem_cons.1 (h x (by simp)) with e | hx
        · exact absurd e hxy
        · exact hx
      have hyx := hm.1 x hxm
      obtain ⟨a, b⟩ := rise_sub (l := x :: l) (m := m) (List.pairwise_cons.2 hl) hm.2 fun z hz => by
        rcases List.mem_cons.1 (h z hz) with e | hz'
        · rcases List.mem_cons.1 hz with e' | hz2
          · omega
          · have := hl.1 z hz2; omega
        · exact hz'
      exact ⟨by simp only [List.length_cons] at *; omega, fun e => by simp only [List.length_cons] at *; omega⟩
theorem riseF_iff : ∀ {l : List Int} {a : Int}, riseF a l = true ↔ l.Pairwise (· < ·) ∧ ∀ x ∈ l, a < x
  | [], a => by simp [riseF]
  | x :: r, a => by
    rw [riseF, Bool.and_eq_true, decide_eq_true_eq, riseF_iff, List.pairwise_cons]
    constructor
    · rintro ⟨h1, h2, h3⟩
      refine ⟨⟨h3, h2⟩, fun y hy => ?_⟩
      rcases List.mem_cons.1 hy with rfl | hy
      · exact h1
      · have := h3 y hy; omega
    · rintro ⟨⟨h1, h2⟩, h3⟩
      exact ⟨h3 x (by simp), h2, h1⟩
theorem findS_iff {l : List Spot} {x : Int} : found l x = true ↔ x ∈ l.map (·.at_) := by
  constructor
  · intro h
    obtain ⟨n, hn⟩ := Option.isSome_iff_exists.1 h
    obtain ⟨sp, hsp, e, _⟩ := findS_mem hn
    exact List.mem_map.2 ⟨sp, hsp, e⟩
  · intro h
    obtain ⟨sp, hsp, e⟩ := List.mem_map.1 h
    simp only [found, findS, Option.isSome_map, List.find?_isSome, decide_eq_true_eq]
    exact ⟨sp, hsp, e⟩
theorem map_inj_of_pw {α : Type} {f : α → Int} : ∀ {l : List α}, (l.map f).Pairwise (· < ·) → ∀ {x y : α}, x ∈ l → y ∈ l → f x = f y → x = y
  | [], _, _, _, hx, _, _ => by cases hx
  | a :: l, h, x, y, hx, hy, e => by
    rw [List.map_cons, List.pairwise_cons] at h
    rcases List.mem_cons.1 hx with ex | hx1
    · rcases List.mem_cons.1 hy with ey | hy1
      · rw [ex, ey]
      · have := h.1 _ (List.mem_map_of_mem hy1); rw [ex] at e; omega
    · rcases List.mem_cons.1 hy with ey | hy1
      · have := h.1 _ (List.mem_map_of_mem hx1); rw [ey] at e; omega
      · exact map_inj_of_pw h.2 hx1 hy1 e
theorem shutF_iff {l : List Stub} {x : Int} : (shutF l x).isSome = true ↔ x ∈ l.map (·.at_) := by
  constructor
  · intro h
    obtain ⟨n, hn⟩ := Option.isSome_iff_exists.1 h
    obtain ⟨_, sp, hsp, e, _⟩ := shutF_mem hn
    exact List.mem_map.2 ⟨sp, hsp, e⟩
  · intro h
    obtain ⟨sp, hsp, e⟩ := List.mem_map.1 h
    simp only [shutF, Option.isSome_map, List.find?_isSome, decide_eq_true_eq]
    exact ⟨sp, hsp, e⟩
theorem shutF_own {l : List Stub} (h : (l.map (·.at_)).Pairwise (· < ·)) {x : Stub} (hx : x ∈ l) : shutF l x.at_ = some x.hash := by
  obtain ⟨n, hn⟩ := Option.isSome_iff_exists.1 (shutF_iff.2 (List.mem_map_of_mem (f := (·.at_)) hx))
  obtain ⟨_, sp, hsp, e, e2⟩ := shutF_mem hn
  have := map_inj_of_pw h hsp hx e
  rw [hn, ← e2, this]
theorem mem_kids {all : List Int} : ∀ (l acc : List Int) (z : Int), z ∈ l.foldl (kidsS all) acc ↔ z ∈ acc ∨ ((∃ x ∈ l, leftI x = z ∨ rightI x = z) ∧ 0 ≤ z ∧ z ∉ all) := by
  have one : ∀ (acc : List Int) (c z : Int), z ∈ addK all acc c ↔ z ∈ acc ∨ (c = z ∧ 0 ≤ z ∧ z ∉ all) := by
    intro acc c z
    unfold addK
    split
    · rename_i hc
      rw [List.mem_append]
      constructor
      · rintro (g | g)
        · exact .inl g
        · rw [mem1 g]; exact .inr ⟨rfl, hc⟩
      · rintro (g | ⟨rfl, _⟩)
        · exact .inl g
        · exact .inr (by simp)
    · rename_i hc
      constructor
      · exact .inl
      · rintro (g | ⟨rfl, g⟩)
        · exact g
        · exact absurd g hc
  intro l
  induction l with
  | nil => intro acc z; simp
  | cons y l ih =>
    intro acc z
    rw [List.foldl_cons, ih, kidsS, one, one]
    constructor
    · rintro (((g | ⟨g, h⟩) | ⟨g, h⟩) | ⟨⟨x, hx, g⟩, h⟩)
      · exact .inl g
      · exact .inr ⟨⟨y, by simp, .inl g⟩, h⟩
      · exact .inr ⟨⟨y, by simp, .inr g⟩, h⟩
      · exact .inr ⟨⟨x, by simp [hx], g⟩, h⟩
    · rintro (g | ⟨⟨x, hx, g⟩, h⟩)
      · exact .inl (.inl (.inl g))
      · rcases List.mem_cons.1 hx with rfl | hx
        · rcases g with g | g
          · exact .inl (.inl (.inr ⟨g, h⟩))
          · exact .inl (.inr ⟨g, h⟩)
        · exact .inr ⟨⟨x, hx, g⟩, h⟩

/-! ### Counts -/
def goodT (s : Lean_) (o h : Nat) : Bool := (kidT s.opn o h).1.all (okO s.opn) && (kidT s.opn o h).2.all (stubOk s.shut)
theorem valP_kid (s : Lean_) {d o h : Nat} (hd : d ≤ 16) (ho : o < 2 ^ d) (hh : h < d) : if goodT s o h then valP s (nd h (sibN (o / 2 ^ h))) = ((kidT s.opn o h).1.length + (kidT s.opn o h).2.length : Nat) else valP s (nd h (sibN (o / 2 ^ h))) < 0 := by
  have hs := lt16 hd (sib_lt ho hh)
  unfold goodT kidT valP
  cases hf : findS s.opn (nd h (sibN (o / 2 ^ h))) with
  | none =>
    simp only [found, hf, Option.isSome_none, Bool.false_eq_true, if_false, List.all_nil, List.all_cons, Bool.and_true, Bool.true_and, stubP_ok]
    split
    · simp
    · simp [none_]
  | some n =>
    simp only [found, hf, Option.isSome_some, if_true]
    rw [partI_nd _ _ (by omega) hs]
    have h1 := (partP_sh s.opn s.shut h (sibN (o / 2 ^ h)) true []).2
    have e' : (2 : Int) ^ (h + 1) = ((2 ^ (h + 1) : Nat) : Int) := by simp
    have h2 := pow17 (h := h) (by omega)
    split
    · rename_i hg
      rw [if_pos hg] at h1
      exact h1
    · rename_i hg
      rw [if_neg hg] at h1
      simp only [none_] at h1
      omega
theorem sumI_append {f : Int → Int} : ∀ {l m : List Int}, sumI f (l ++ m) = sumI f l + sumI f m
  | [], m => by simp [sumI]
  | x :: l, m => by simp only [List.cons_append, sumI, sumI_append]; omega
theorem topS_count (s : Lean_) {d o : Nat} (hd : d ≤ 16) (ho : o < 2 ^ d) : ∀ h, h ≤ d → (∀ i, i < h → goodT s o i = true) → 1 + (h : Int) + sumI (valP s) ((List.range h).map fun i => (nd i (sibN (o / 2 ^ i)) : Int)) = ((topS s.opn o h).1.length + (topS s.opn o h).2.length : Nat)
  | 0, _, _ => by simp [topS, sumI]
  | h + 1, hh, hg => by
    have ih := topS_count s hd ho h (by omega) fun i hi => hg i (by omega)
    have hv := valP_kid s hd ho (show h < d by omega)
    rw [if_pos (hg h (by omega))] at hv
    have hl : (topS s.opn o (h + 1)).1.length + (topS s.opn o (h + 1)).2.length = ((topS s.opn o h).1.length + (topS s.opn o h).2.length) + 1 + ((kidT s.opn o h).1.length + (kidT s.opn o h).2.length) := by
      simp only [topS]
      split <;> simp <;> omega
    rw [hl, List.range_succ, List.map_append, sumI_append]
    simp only [List.map_cons, List.map_nil, sumI]
    omega

theorem own_list {s : Lean_} {d o : Nat} (hd : d ≤ 16) (ho : o < 2 ^ d) (hn : s.leaves = ((2 ^ d : Nat) : Int)) (he : s.own = (o : Int)) (z : Int) : z ∈ ownL s ↔ ∃ i, i ≤ d ∧ z = (nd i (o / 2 ^ i) : Int) := by
  have := mem_upL hd ho z
  unfold ownL
  rw [hn, he]
  exact this
theorem copath_list {s : Lean_} {d o : Nat} (hd : d ≤ 16) (ho : o < 2 ^ d) (hn : s.leaves = ((2 ^ d : Nat) : Int)) (he : s.own = (o : Int)) : copathI (2 * s.own) s.leaves = (List.range d).map fun i => (nd i (sibN (o / 2 ^ i)) : Int) := by
  rw [hn, he, show 2 * (o : Int) = (nd 0 o : Int) by rw [nd_zero]; omega, copath_range hd ho]
theorem path_len {s : Lean_} {d o : Nat} (hd : d ≤ 16) (ho : o < 2 ^ d) (hn : s.leaves = ((2 ^ d : Nat) : Int)) (he : s.own = (o : Int)) : (pathI (2 * s.own) s.leaves).length = d := by
  rw [hn, he, show 2 * (o : Int) = (nd 0 o : Int) by rw [nd_zero]; omega, path_range hd ho]; simp

/-- What the program asks, in these words. -/
theorem rightP_iff (s : Lean_) {d o : Nat} (hd : d ≤ 16) (ho : o < 2 ^ d) (hn : s.leaves = ((2 ^ d : Nat) : Int)) (he : s.own = (o : Int)) :
    rightP s = true ↔ s.lookOk = true ∧ leafK s = true ∧ (∀ z ∈ (topS s.opn o d).1, okO s.opn z = true) ∧ (∀ z ∈ (topS s.opn o d).2, stubOk s.shut z = true) ∧ (topS s.opn o d).1.length + (topS s.opn o d).2.length = s.opn.length + s.shut.length := by
  have hf : fitsI s.leaves = true := by rw [hn]; exact pow_fits d hd
  have h0 : 0 ≤ s.own ∧ s.own < s.leaves := by rw [hn, he]; omega
  have hown := own_list hd ho hn he
  have hcop := copath_list hd ho hn he
  have hpl := path_len hd ho hn he
  have hgood : ∀ i, i < d → (goodT s o i = true ↔ 0 ≤ valP s (nd i (sibN (o / 2 ^ i)))) := fun i hi => by
    have hv := valP_kid s hd ho hi
    constructor
    · intro g; rw [if_pos g] at hv; omega
    · intro g
      cases hg : goodT s o i with
      | true => rfl
      | false => rw [hg, if_neg (by simp)] at hv; omega
  have hall : ((∀ z ∈ (topS s.opn o d).1, okO s.opn z = true) ∧ (∀ z ∈ (topS s.opn o d).2, stubOk s.shut z = true)) ↔ (∀ z ∈ ownL s, okN s z = true) ∧ ∀ i, i < d → goodT s o i = true := by
    have eok : okN s = okO s.opn := rfl
    rw [eok]
    constructor
    · rintro ⟨a, b⟩
      refine ⟨fun z hz => a z (((topS_mem s.opn o d z).1).2 (.inl ((hown z).1 hz))), fun i hi => ?_⟩
      simp only [goodT, Bool.and_eq_true, List.all_eq_true]
      exact ⟨fun z hz => a z (((topS_mem s.opn o d z).1).2 (.inr ⟨i, hi, hz⟩)), fun z hz => b z (((topS_mem s.opn o d z).2).2 ⟨i, hi, hz⟩)⟩
    · rintro ⟨a, b⟩
      refine ⟨fun z hz => ?_, fun z hz => ?_⟩
      · rcases ((topS_mem s.opn o d z).1).1 hz with g | ⟨i, hi, g⟩
        · exact a z ((hown z).2 g)
        · have := b i hi
          simp only [goodT, Bool.and_eq_true, List.all_eq_true] at this
          exact this.1 z g
      · obtain ⟨i, hi, g⟩ := ((topS_mem s.opn o d z).2).1 hz
        have := b i hi
        simp only [goodT, Bool.and_eq_true, List.all_eq_true] at this
        exact this.2 z g
  have hdef : rightP s = (s.lookOk && (leafK s && ((ownL s).all (okN s) && ((copathI (2 * s.own) s.leaves).all (fun c => decide (0 ≤ valP s c)) && decide (1 + (pathI (2 * s.own) s.leaves).length + sumI (valP s) (copathI (2 * s.own) s.leaves) = s.opn.length + s.shut.length))))) := by
    simp only [rightP, hf, h0.1, h0.2, decide_true, Bool.true_and]; rfl
  rw [hdef]
  simp only [Bool.and_eq_true, List.all_eq_true, decide_eq_true_eq]
  rw [hcop, hpl]
  constructor
  · rintro ⟨a, b, c, e, f⟩
    have g : ∀ i, i < d → goodT s o i = true := fun i hi => (hgood i hi).2 (e _ (List.mem_map.2 ⟨i, List.mem_range.2 hi, rfl⟩))
    obtain ⟨p, q⟩ := hall.2 ⟨c, g⟩
    refine ⟨a, b, p, q, ?_⟩
    have := topS_count s hd ho d (Nat.le_refl _) g
    omega
  · rintro ⟨a, b, p, q, f⟩
    obtain ⟨c, g⟩ := hall.1 ⟨p, q⟩
    have := topS_count s hd ho d (Nat.le_refl _) g
    refine ⟨a, b, c, fun x hx => ?_, by omega⟩
    obtain ⟨i, hi, rfl⟩ := List.mem_map.1 hx
    exact (hgood i (List.mem_range.1 hi)).1 (g i (List.mem_range.1 hi))
end Go.Proofs.YtpdllgbfemnemaaGreat.Sx
end

section
namespace Go.Proofs.YtpdllgbfemnemaaGreat.Sx
open Go.RowKit

theorem okO_found {O : List Spot} {z : Int} (h : okO O z = true) : found O z = true := by
  unfold okO at h
  split at h
  · rename_i n hn; simp [found, hn]
  · cases h
theorem okO_fine {O : List Spot} {z : Int} {n : Node} (h : okO O z = true) (hn : findS O z = some n) : fineP z n = true := by
  unfold okO at h
  rw [hn] at h
  exact h
theorem mem_opened {s : Lean_} {d o : Nat} (hd : d ≤ 16) (ho : o < 2 ^ d) (hn : s.leaves = ((2 ^ d : Nat) : Int)) (he : s.own = (o : Int)) (c : Int) : c ∈ openedF s true ↔ ∃ i, i < d ∧ c = (nd i (sibN (o / 2 ^ i)) : Int) ∧ found s.opn c = true := by
  unfold openedF
  rw [copath_list hd ho hn he, List.mem_filter, List.mem_map]
  simp only [beq_iff_eq, List.mem_range]
  constructor
  · rintro ⟨⟨i, hi, rfl⟩, h⟩; exact ⟨i, hi, rfl, h⟩
  · rintro ⟨i, hi, rfl, h⟩; exact ⟨⟨i, hi, rfl⟩, h⟩
/-- All that is opened is found, by the reference's words. -/
theorem found_iff {s : Lean_} {d o : Nat} (hd : d ≤ 16) (ho : o < 2 ^ d) (hn : s.leaves = ((2 ^ d : Nat) : Int)) (he : s.own = (o : Int)) (hF : ∀ x n, findS s.opn x = some n → fineP x n = true) :
    (∀ z ∈ (topS s.opn o d).1, found s.opn z = true) ↔ (∀ z ∈ ownL s, found s.opn z = true) ∧ ∀ c ∈ openedF s true, (wholeI s.opn s.leaves c).2 = true := by
  have hown := own_list hd ho hn he
  constructor
  · intro h
    refine ⟨fun z hz => h z (((topS_mem s.opn o d z).1).2 (.inl ((hown z).1 hz))), fun c hc => ?_⟩
    obtain ⟨i, hi, rfl, hf⟩ := (mem_opened hd ho hn he c).1 hc
    rw [wholeI_nd _ _ (by omega) (lt16 hd (sib_lt ho hi)), hn]
    refine ((whole_law hd hF i _ (by omega) (sib_lt ho hi)).1).2 ?_
    rw [List.all_eq_true]
    intro z hz
    refine h z (((topS_mem s.opn o d z).1).2 (.inr ⟨i, hi, ?_⟩))
    unfold kidT
    rw [if_pos hf]
    exact hz
  · rintro ⟨a, b⟩ z hz
    rcases ((topS_mem s.opn o d z).1).1 hz with g | ⟨i, hi, g⟩
    · exact a z ((hown z).2 g)
    · unfold kidT at g
      split at g
      · rename_i hf
        have h1 := b _ ((mem_opened hd ho hn he _).2 ⟨i, hi, rfl, hf⟩)
        rw [wholeI_nd _ _ (by omega) (lt16 hd (sib_lt ho hi)), hn] at h1
        have h2 := ((whole_law hd hF i _ (by omega) (sib_lt ho hi)).1).1 h1
        rw [List.all_eq_true] at h2
        exact h2 z g
      · simp at g
theorem mem_all {s : Lean_} {d o : Nat} (hd : d ≤ 16) (ho : o < 2 ^ d) (hn : s.leaves = ((2 ^ d : Nat) : Int)) (he : s.own = (o : Int)) (hF : ∀ x n, findS s.opn x = some n → fineP x n = true) (hw : ∀ c ∈ openedF s true, (wholeI s.opn s.leaves c).2 = true) (z : Int) : z ∈ allL s ↔ z ∈ (topS s.opn o d).1 := by
  have hown := own_list hd ho hn he
  rw [(topS_mem s.opn o d z).1]
  unfold allL
  rw [List.mem_append, hown, List.mem_flatMap]
  refine or_congr Iff.rfl ?_
  constructor
  · rintro ⟨c, hc, hz⟩
    obtain ⟨i, hi, rfl, hf⟩ := (mem_opened hd ho hn he c).1 hc
    have h1 := hw _ hc
    rw [wholeI_nd _ _ (by omega) (lt16 hd (sib_lt ho hi)), hn] at h1 hz
    have h2 := (whole_law hd hF i _ (by omega) (sib_lt ho hi)).2 h1 z
    refine ⟨i, hi, ?_⟩
    unfold kidT
    rw [if_pos hf]
    exact h2.1 hz
  · rintro ⟨i, hi, g⟩
    unfold kidT at g
    split at g
    · rename_i hf
      have hc := (mem_opened hd ho hn he _).2 ⟨i, hi, rfl, hf⟩
      have h1 := hw _ hc
      refine ⟨_, hc, ?_⟩
      rw [wholeI_nd _ _ (by omega) (lt16 hd (sib_lt ho hi)), hn] at h1 ⊢
      exact ((whole_law hd hF i _ (by omega) (sib_lt ho hi)).2 h1 z).2 g
    · simp at g
theorem mem_shut {s : Lean_} {d o : Nat} (hd : d ≤ 16) (ho : o < 2 ^ d) (hf : ∀ z ∈ (topS s.opn o d).1, found s.opn z = true) (hm : ∀ z, z ∈ allL s ↔ z ∈ (topS s.opn o d).1) (z : Int) : z ∈ shutL s ↔ z ∈ (topS s.opn o d).2 := by
  have sh := topS_sh s.opn hd ho d (Nat.le_refl _)
  unfold shutL
  rw [mem_kids]
  have h0 : o / 2 ^ d = 0 := Nat.div_eq_of_lt ho
  rw [h0] at sh
  constructor
  · rintro (g | ⟨⟨x, hx, g⟩, hz, hna⟩)
    · cases g
    · rw [hm] at hx hna
      have hk := sh.kids x hx (hf x hx)
      rcases g with rfl | rfl
      · exact (hk.1 hz).resolve_left hna
      · exact (hk.2 hz).resolve_left hna
  · intro hz
    right
    have hna : z ∉ allL s := fun h => sh.dj z ((hm z).1 h) hz
    refine ⟨?_, inR_pos (sh.rb z hz), hna⟩
    rcases sh.back z hz with rfl | ⟨x, hx, g⟩
    · exfalso
      refine sh.dj _ (((topS_mem s.opn o d _).1).2 (.inl ⟨d, Nat.le_refl _, by rw [h0]⟩)) hz
    · exact ⟨x, (hm x).2 hx, g⟩
theorem hash_key {s : Lean_} {d o : Nat} (hd : d ≤ 16) (ho : o < 2 ^ d) (hn : s.leaves = ((2 ^ d : Nat) : Int)) (he : s.own = (o : Int)) (hr : rightP s = true) :
    (∀ h k, h ≤ d → k < 2 ^ (d - h) → ((nd h k : Int) ∈ (topS s.opn o d).1 ∨ (nd h k : Int) ∈ (topS s.opn o d).2) → hashP s h k = hashR s h k ∧ (hashP s h k).length = 32) ∧ ∀ z : Int, found s.opn z = true → z ∈ (topS s.opn o d).1 := by
  have sh := topS_sh s.opn hd ho d (Nat.le_refl _)
  have h0 : o / 2 ^ d = 0 := Nat.div_eq_of_lt ho
  rw [h0] at sh
  obtain ⟨hl, hk, hA, hB, hc⟩ := (rightP_iff s hd ho hn he).1 hr
  simp only [Lean_.lookOk, Bool.and_eq_true, riseF_iff] at hl
  obtain ⟨⟨po, no⟩, ps, ns⟩ := hl
  obtain ⟨la, ea⟩ := rise_sub sh.pa po fun z hz => findS_iff.1 (okO_found (hA z hz))
  obtain ⟨lb, eb⟩ := rise_sub sh.pb ps fun z hz => shutF_iff.1 (by
    have := hB z hz
    unfold stubOk at this
    split at this
    · rename_i h hh; simp [hh]
    · cases this)
  rw [List.length_map] at la ea lb eb
  have ea := ea (by omega)
  have key : ∀ h k, h ≤ d → k < 2 ^ (d - h) → ((nd h k : Int) ∈ (topS s.opn o d).1 ∨ (nd h k : Int) ∈ (topS s.opn o d).2) → hashP s h k = hashR s h k ∧ (hashP s h k).length = 32 := by
    have none_case : ∀ z : Int, findS s.opn z = none → (z ∈ (topS s.opn o d).1 ∨ z ∈ (topS s.opn o d).2) → (stubB s.shut z).length = 32 := fun z hz hm => by
      rcases hm with hm | hm
      · have := okO_found (hA z hm)
        simp [found, hz] at this
      · have := hB z hm
        unfold stubOk at this
        split at this
        · rename_i h hh
          rw [(shutF_mem hh).1]
          simpa using this
        · cases this
    have inA : ∀ (z : Int) (n : Node), findS s.opn z = some n → z ∈ (topS s.opn o d).1 := fun z n hz => by rw [ea]; exact findS_iff.1 (by simp [found, hz])
    intro h
    induction h with
    | zero =>
      intro k _ hkk hm
      have hk16 := lt16 hd hkk
      cases hf : findS s.opn (nd 0 k) with
      | none =>
        have e1 : hashP s 0 k = stubB s.shut (nd 0 k) := by simp [hashP, hf]
        have e2 : hashR s 0 k = stubB s.shut (nd 0 k) := by simp [hashR, hf]
        rw [e1, e2]
        exact ⟨rfl, none_case _ hf hm⟩
      | some n =>
        have hfp := okO_fine (hA _ (inA _ _ hf)) hf
        simp only [fineP, Bool.and_eq_true, decide_eq_true_eq] at hfp
        have e1 : hashP s 0 k = shaB (ltextR k n) := by simp [hashP, hf]
        have e2 : hashR s 0 k = shaB ([1] ++ beB 4 k ++ nodeB n) := by simp [hashR, hf]
        have hne : n.kind.toNat ≠ 2 := by have := hfp.2.1; simp only [otherK, tmod_even] at this; simpa using this
        have e3 : ltextR k n = [1] ++ beB 4 k ++ nodeB n := by
          unfold ltextR
          rw [if_neg (by simp at hk16; omega), if_neg (by simp [hfp.1, hne])]
          simp [leafTextB]
        rw [e1, e2, e3]
        exact ⟨rfl, shaB_len _⟩
    | succ h ih =>
      intro k hh hkk hm
      have hk16 := lt16 hd hkk
      have hk2 : 2 ^ (d - h) = 2 * 2 ^ (d - (h + 1)) := by rw [show d - h = (d - (h + 1)) + 1 by omega, Nat.pow_succ]; omega
      cases hf : findS s.opn (nd (h + 1) k) with
      | none =>
        have e1 : hashP s (h + 1) k = stubB s.shut (nd (h + 1) k) := by simp [hashP, hf]
        have e2 : hashR s (h + 1) k = stubB s.shut (nd (h + 1) k) := by simp [hashR, hf]
        rw [e1, e2]
        exact ⟨rfl, none_case _ hf hm⟩
      | some n =>
        have hzA := inA _ _ hf
        have hfp := okO_fine (hA _ hzA) hf
        simp only [fineP, Bool.and_eq_true, decide_eq_true_eq] at hfp
        have hne : n.kind.toNat ≠ 1 := by have := hfp.2.1; simp only [otherK, tmod_odd] at this; simpa using this
        have hkids := sh.kids _ hzA (by simp [hf])
        rw [left_nd hd (by omega) hkk, right_nd hd (by omega) hkk] at hkids
        obtain ⟨a1, a2⟩ := ih (2 * k) (by omega) (by omega) (hkids.1 (by omega))
        obtain ⟨b1, b2⟩ := ih (2 * k + 1) (by omega) (by omega) (hkids.2 (by omega))
        have e1 : hashP s (h + 1) k = shaB (ptextR n (hashP s h (2 * k)) (hashP s h (2 * k + 1))) := by simp [hashP, hf]
        have e2 : hashR s (h + 1) k = shaB ([2] ++ nodeB n ++ (vecB (hashR s h (2 * k)) ++ vecB (hashR s h (2 * k + 1)))) := by simp [hashR, hf]
        have e3 : ptextR n (hashP s h (2 * k)) (hashP s h (2 * k + 1)) = [2] ++ nodeB n ++ (vecB (hashR s h (2 * k)) ++ vecB (hashR s h (2 * k + 1))) := by
          unfold ptextR
          rw [if_neg (by simp [hfp.1, hne]), if_neg (by simp [a2, b2]), a1, b1]
          simp [parTextB]
        rw [e1, e2, e3]
        exact ⟨rfl, shaB_len _⟩
  exact ⟨key, fun z hz => by rw [ea]; exact findS_iff.1 hz⟩
theorem hash_law {s : Lean_} {d o : Nat} (hd : d ≤ 16) (ho : o < 2 ^ d) (hn : s.leaves = ((2 ^ d : Nat) : Int)) (he : s.own = (o : Int)) (hr : rightP s = true) : hashP s d 0 = hashR s d 0 ∧ (hashP s d 0).length = 32 := by
  have sh := topS_sh s.opn hd ho d (Nat.le_refl _)
  have h0 : o / 2 ^ d = 0 := Nat.div_eq_of_lt ho
  rw [h0] at sh
  exact (hash_key hd ho hn he hr).1 d 0 (Nat.le_refl _) (pow_pos' _) sh.root
end Go.Proofs.YtpdllgbfemnemaaGreat.Sx
end
