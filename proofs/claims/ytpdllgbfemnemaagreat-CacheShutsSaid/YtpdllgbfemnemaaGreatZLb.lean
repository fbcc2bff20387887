import Derived.Test.YtpdllgbfemnemaaGreatZKt
section
namespace Go.Proofs.YtpdllgbfemnemaaGreat.Sx
open Go.RowKit

/-! ### Parts of the row -/
def inR (h k : Nat) (x : Int) : Prop := ((k * 2 ^ (h + 1) : Nat) : Int) ≤ x ∧ x + 2 ≤ ((k * 2 ^ (h + 1) + 2 ^ (h + 1) : Nat) : Int)
theorem mul_two (k h : Nat) : 2 * k * 2 ^ (h + 1) = k * 2 ^ (h + 1 + 1) := by rw [Nat.pow_succ 2 (h + 1), Nat.mul_comm 2 k, Nat.mul_assoc, Nat.mul_comm 2]
theorem mul_two1 (k h : Nat) : (2 * k + 1) * 2 ^ (h + 1) = k * 2 ^ (h + 1 + 1) + 2 ^ (h + 1) := by rw [Nat.add_mul, mul_two, Nat.one_mul]
theorem inR_self (h k : Nat) : inR h k (nd h k) := by
  have hp := pow_pos' h
  unfold inR nd
  rw [Nat.pow_succ 2 h]
  generalize k * (2 ^ h * 2) = q
  omega
theorem inR_left {h k : Nat} {x : Int} (hx : inR h (2 * k) x) : inR (h + 1) k x ∧ x < (nd (h + 1) k : Int) := by
  unfold inR nd at *
  rw [mul_two] at hx
  have hp := pow_pos' (h + 1)
  rw [Nat.pow_succ 2 (h + 1)] at *
  generalize k * (2 ^ (h + 1) * 2) = q at *
  omega
theorem inR_right {h k : Nat} {x : Int} (hx : inR h (2 * k + 1) x) : inR (h + 1) k x ∧ (nd (h + 1) k : Int) < x := by
  unfold inR nd at *
  rw [mul_two1] at hx
  have hp := pow_pos' (h + 1)
  rw [Nat.pow_succ 2 (h + 1)] at *
  generalize k * (2 ^ (h + 1) * 2) = q at *
  omega
theorem inR_pos {h k : Nat} {x : Int} (hx : inR h k x) : 0 ≤ x := by unfold inR at hx; omega

/-! ### What is opened and shut beneath a node -/
structure Sh (O : List Spot) (h k : Nat) (A B : List Int) : Prop where
  ra : ∀ x ∈ A, inR h k x
  rb : ∀ x ∈ B, inR h k x
  pa : A.Pairwise (· < ·)
  pb : B.Pairwise (· < ·)
  dj : ∀ x ∈ A, x ∉ B
  kids : ∀ x ∈ A, (findS O x).isSome = true → (0 ≤ leftI x → leftI x ∈ A ∨ leftI x ∈ B) ∧ (0 ≤ rightI x → rightI x ∈ A ∨ rightI x ∈ B)
  back : ∀ y ∈ B, y = (nd h k : Int) ∨ ∃ x ∈ A, leftI x = y ∨ rightI x = y
  root : (nd h k : Int) ∈ A ∨ (nd h k : Int) ∈ B
theorem Sh.join {O : List Spot} {h k : Nat} {A1 B1 A2 B2 : List Int} (hh : h + 1 ≤ 16) (hk : k < 2 ^ (16 - (h + 1))) (h1 : Sh O h (2 * k) A1 B1) (h2 : Sh O h (2 * k + 1) A2 B2) :
    Sh O (h + 1) k (A1 ++ [(nd (h + 1) k : Int)] ++ A2) (B1 ++ B2) := by
  have hl := left_nd (d := 16) (by omega) hh hk
  have hr := right_nd (d := 16) (by omega) hh hk
  have mA : ∀ x, x ∈ A1 ++ [(nd (h + 1) k : Int)] ++ A2 ↔ (x ∈ A1 ∨ x = (nd (h + 1) k : Int)) ∨ x ∈ A2 := fun x => by simp only [List.mem_append, List.mem_cons, List.not_mem_nil, or_false]
  have mB : ∀ x, x ∈ B1 ++ B2 ↔ x ∈ B1 ∨ x ∈ B2 := fun x => by simp
  refine ⟨fun x hx => ?_, fun x hx => ?_, ?_, ?_, fun x hx hb => ?_, fun x hx hf => ?_, fun y hy => ?_, .inl ((mA _).2 (.inl (.inr rfl)))⟩
  · rcases (mA x).1 hx with (hx | rfl) | hx
    · exact (inR_left (h1.ra x hx)).1
    · exact inR_self _ _
    · exact (inR_right (h2.ra x hx)).1
  · rcases (mB x).1 hx with hx | hx
    · exact (inR_left (h1.rb x hx)).1
    · exact (inR_right (h2.rb x hx)).1
  · rw [List.pairwise_append, List.pairwise_append]
    refine ⟨⟨h1.pa, by simp, fun x hx y hy => ?_⟩, h2.pa, fun x hx y hy => ?_⟩
    · simp at hy; subst hy; exact (inR_left (h1.ra x hx)).2
    · have hy2 := (inR_right (h2.ra y hy)).2
      rcases List.mem_append.1 hx with hx | hx
      · have := (inR_left (h1.ra x hx)).2; omega
      · simp at hx; subst hx; exact hy2
  · rw [List.pairwise_append]
    exact ⟨h1.pb, h2.pb, fun x hx y hy => by
      have := (inR_left (h1.rb x hx)).2
      have := (inR_right (h2.rb y hy)).2
      omega⟩
  · rcases (mA x).1 hx with (hx | rfl) | hx <;> rcases (mB _).1 hb with hb | hb
    · exact h1.dj x hx hb
    · have := (inR_left (h1.ra x hx)).2; have := (inR_right (h2.rb x hb)).2; omega
    · have := (inR_left (h1.rb _ hb)).2; omega
    · have := (inR_right (h2.rb _ hb)).2; omega
    · have := (inR_right (h2.ra x hx)).2; have := (inR_left (h1.rb x hb)).2; omega
    · exact h2.dj x hx hb
  · have up : ∀ {c : Int} {A B : List Int}, (∀ z ∈ A, z ∈ A1 ++ [(nd (h + 1) k : Int)] ++ A2) → (∀ z ∈ B, z ∈ B1 ++ B2) → (c ∈ A ∨ c ∈ B) → c ∈ A1 ++ [(nd (h + 1) k : Int)] ++ A2 ∨ c ∈ B1 ++ B2 := fun ha hb hc => hc.imp (ha _) (hb _)
    have u1a : ∀ z ∈ A1, z ∈ A1 ++ [(nd (h + 1) k : Int)] ++ A2 := fun z hz => (mA z).2 (.inl (.inl hz))
    have u2a : ∀ z ∈ A2, z ∈ A1 ++ [(nd (h + 1) k : Int)] ++ A2 := fun z hz => (mA z).2 (.inr hz)
    have u1b : ∀ z ∈ B1, z ∈ B1 ++ B2 := fun z hz => (mB z).2 (.inl hz)
    have u2b : ∀ z ∈ B2, z ∈ B1 ++ B2 := fun z hz => (mB z).2 (.inr hz)
    rcases (mA x).1 hx with (hx | rfl) | hx
    · exact ⟨fun h0 => up u1a u1b ((h1.kids x hx hf).1 h0), fun h0 => up u1a u1b ((h1.kids x hx hf).2 h0)⟩
    · rw [hl, hr]
      exact ⟨fun _ => up u1a u1b h1.root, fun _ => up u2a u2b h2.root⟩
    · exact ⟨fun h0 => up u2a u2b ((h2.kids x hx hf).1 h0), fun h0 => up u2a u2b ((h2.kids x hx hf).2 h0)⟩
  · right
    rcases (mB y).1 hy with hy | hy
    · rcases h1.back y hy with rfl | ⟨x, hx, e⟩
      · exact ⟨_, (mA _).2 (.inl (.inr rfl)), .inl hl⟩
      · exact ⟨x, (mA x).2 (.inl (.inl hx)), e⟩
    · rcases h2.back y hy with rfl | ⟨x, hx, e⟩
      · exact ⟨_, (mA _).2 (.inl (.inr rfl)), .inr hr⟩
      · exact ⟨x, (mA x).2 (.inr hx), e⟩
theorem mem1 {x y : Int} (h : x ∈ [y]) : x = y := by simpa using h
theorem Sh.stub (O : List Spot) (h k : Nat) : Sh O h k [] [(nd h k : Int)] where
  ra := by simp
  rb := fun x hx => by rw [mem1 hx]; exact inR_self h k
  pa := by simp
  pb := by simp
  dj := by simp
  kids := by simp
  back := fun y hy => .inl (mem1 hy)
  root := .inr (by simp)
theorem Sh.miss {O : List Spot} {h k : Nat} (hx : findS O (nd h k) = none) : Sh O h k [(nd h k : Int)] [] where
  ra := fun x hx => by rw [mem1 hx]; exact inR_self h k
  rb := by simp
  pa := by simp
  pb := by simp
  dj := by simp
  kids := fun x hm hf => by rw [mem1 hm, hx] at hf; cases hf
  back := by simp
  root := .inl (by simp)
theorem Sh.leaf (O : List Spot) {k : Nat} (hk : k < 65536) : Sh O 0 k [(nd 0 k : Int)] [] where
  ra := fun x hx => by rw [mem1 hx]; exact inR_self 0 k
  rb := by simp
  pa := by simp
  pb := by simp
  dj := by simp
  kids := fun x hm _ => by
    have h1 := leaf_nd (d := 16) (by omega) (show k < 2 ^ 16 from hk)
    rw [mem1 hm, h1.1, h1.2]
    exact ⟨fun h => by omega, fun h => by omega⟩
  back := by simp
  root := .inl (by simp)

def kidS (p : Nat → Bool → List Int → List Int × List Int) (h : Nat) (all : Bool) (late : List Int) (j : Nat) : List Int × List Int :=
  if all then p j true [] else if late.any (fun u => underI (2 * u) (nd h j)) then p j false late else ([], [(nd h j : Int)])
def shP (O : List Spot) : Nat → Nat → Bool → List Int → List Int × List Int
  | 0, k, _, _ => ([(nd 0 k : Int)], [])
  | h + 1, k, whole, late => match findS O (nd (h + 1) k) with
    | none => ([(nd (h + 1) k : Int)], [])
    | some n =>
      let a := kidS (fun j w l => shP O h j w l) h (whole && decide (n.kind.toNat = 0)) (if whole then n.par.late else late) (2 * k)
      let b := kidS (fun j w l => shP O h j w l) h (whole && decide (n.kind.toNat = 0)) (if whole then n.par.late else late) (2 * k + 1)
      (a.1 ++ [(nd (h + 1) k : Int)] ++ b.1, a.2 ++ b.2)
theorem kid_lt {h k : Nat} (hh : h + 1 ≤ 16) (hk : k < 2 ^ (16 - (h + 1))) : 2 * k + 1 < 2 ^ (16 - h) := by
  have : 2 ^ (16 - h) = 2 * 2 ^ (16 - (h + 1)) := by rw [show 16 - h = (16 - (h + 1)) + 1 by omega, Nat.pow_succ]; omega
  omega
theorem shP_sh (O : List Spot) : ∀ (h k : Nat) (w : Bool) (l : List Int), h ≤ 16 → k < 2 ^ (16 - h) → Sh O h k (shP O h k w l).1 (shP O h k w l).2
  | 0, k, w, l, _, hk => Sh.leaf O (by simpa using hk)
  | h + 1, k, w, l, hh, hk => by
    have hk2 := kid_lt hh hk
    have kid : ∀ all late j, j < 2 ^ (16 - h) → Sh O h j (kidS (fun j w l => shP O h j w l) h all late j).1 (kidS (fun j w l => shP O h j w l) h all late j).2 := fun all late j hj => by
      unfold kidS
      split
      · exact shP_sh O h j true [] (by omega) hj
      · split
        · exact shP_sh O h j false late (by omega) hj
        · exact Sh.stub O h j
    unfold shP
    cases hf : findS O (nd (h + 1) k) with
    | none => exact Sh.miss hf
    | some n => exact Sh.join hh hk (kid _ _ (2 * k) (by omega)) (kid _ _ (2 * k + 1) hk2)

/-! ### Counts, by the program -/
def stubOk (H : List Stub) (x : Int) : Bool := match shutF H x with
  | some h => decide (h.length = 32)
  | none => false
theorem stubP_ok (H : List Stub) (x : Int) : stubP H x = if stubOk H x then 1 else none_ := by
  unfold stubP stubOk
  cases shutF H x with
  | none => simp
  | some h => by_cases e : h.length = 32 <;> simp [e]
def okO (O : List Spot) (x : Int) : Bool := match findS O x with
  | some n => fineP x n
  | none => false
theorem partP_sh (O : List Spot) (H : List Stub) : ∀ (h k : Nat) (w : Bool) (l : List Int),
    ((shP O h k w l).1.length + (shP O h k w l).2.length ≤ 2 ^ (h + 1) - 1) ∧
    (if (shP O h k w l).1.all (okO O) && (shP O h k w l).2.all (stubOk H) then partP O H h k w l = ((shP O h k w l).1.length + (shP O h k w l).2.length : Nat) else partP O H h k w l ≤ none_ + 2 ^ (h + 1) - 1)
  | 0, k, w, l => by
    unfold shP partP
    simp only [List.all_cons, List.all_nil, Bool.and_true, okO]
    cases findS O (nd 0 k) with
    | none => simp [none_]
    | some n => cases hfp : fineP (nd 0 k) n <;> simp [none_, hfp]
  | h + 1, k, w, l => by
    have hp := pow_pos' h
    have e1 : 2 ^ (h + 1 + 1) = 4 * 2 ^ h := by rw [Nat.pow_succ, Nat.pow_succ]; omega
    have e2 : 2 ^ (h + 1) = 2 * 2 ^ h := by rw [Nat.pow_succ]; omega
    have e1' : (2 : Int) ^ (h + 1 + 1) = ((2 ^ (h + 1 + 1) : Nat) : Int) := by simp
    have e2' : (2 : Int) ^ (h + 1) = ((2 ^ (h + 1) : Nat) : Int) := by simp
    unfold shP partP
    cases hf : findS O (nd (h + 1) k) with
    | none => simp only [List.all_cons, List.all_nil, Bool.and_true, okO, hf]; simp [none_]; omega
    | some n =>
      have kid : ∀ all late j, ((kidS (fun j w l => shP O h j w l) h all late j).1.length + (kidS (fun j w l => shP O h j w l) h all late j).2.length ≤ 2 ^ (h + 1) - 1) ∧
          (if (kidS (fun j w l => shP O h j w l) h all late j).1.all (okO O) && (kidS (fun j w l => shP O h j w l) h all late j).2.all (stubOk H) then kidP H (fun j w l => partP O H h j w l) h all late j = ((kidS (fun j w l => shP O h j w l) h all late j).1.length + (kidS (fun j w l => shP O h j w l) h all late j).2.length : Nat) else kidP H (fun j w l => partP O H h j w l) h all late j ≤ none_ + 2 ^ (h + 1) - 1) := fun all late j => by
        unfold kidS kidP
        split
        · exact partP_sh O H h j true []
        · split
          · exact partP_sh O H h j false late
          · refine ⟨by simp; omega, ?_⟩
            rw [stubP_ok]
            simp only [List.all_nil, List.all_cons, Bool.and_true, Bool.true_and]
            split
            · simp
            · rw [e2']; simp only [none_]; omega
      have k1 := kid (w && decide (n.kind.toNat = 0)) (if w then n.par.late else l) (2 * k)
      have k2 := kid (w && decide (n.kind.toNat = 0)) (if w then n.par.late else l) (2 * k + 1)
      have b1 := kidP_bd (partP_bd O H h) (w && decide (n.kind.toNat = 0)) (if w then n.par.late else l) (2 * k)
      have b2 := kidP_bd (partP_bd O H h) (w && decide (n.kind.toNat = 0)) (if w then n.par.late else l) (2 * k + 1)
      simp only
      generalize kidS (fun j w l => shP O h j w l) h (w && decide (n.kind.toNat = 0)) (if w then n.par.late else l) (2 * k) = s1 at *
      generalize kidS (fun j w l => shP O h j w l) h (w && decide (n.kind.toNat = 0)) (if w then n.par.late else l) (2 * k + 1) = s2 at *
      generalize kidP H (fun j w l => partP O H h j w l) h (w && decide (n.kind.toNat = 0)) (if w then n.par.late else l) (2 * k) = p1 at *
      generalize kidP H (fun j w l => partP O H h j w l) h (w && decide (n.kind.toNat = 0)) (if w then n.par.late else l) (2 * k + 1) = p2 at *
      have hall : ((s1.1 ++ [(nd (h + 1) k : Int)] ++ s2.1).all (okO O) && (s1.2 ++ s2.2).all (stubOk H)) = (fineP (nd (h + 1) k) n && ((s1.1.all (okO O) && s1.2.all (stubOk H)) && (s2.1.all (okO O) && s2.2.all (stubOk H)))) := by
        simp only [List.all_append, List.all_cons, List.all_nil, Bool.and_true, okO, hf]
        cases s1.1.all (okO O) <;> cases s1.2.all (stubOk H) <;> cases s2.1.all (okO O) <;> cases s2.2.all (stubOk H) <;> cases fineP (nd (h + 1) k) n <;> rfl
      rw [hall]
      have hlen : (s1.1 ++ [(nd (h + 1) k : Int)] ++ s2.1).length + (s1.2 ++ s2.2).length = 1 + (s1.1.length + s1.2.length) + (s2.1.length + s2.2.length) := by simp; omega
      rw [hlen]
      refine ⟨by omega, ?_⟩
      cases hfp : fineP (nd (h + 1) k) n with
      | false => simp only [Bool.false_and, Bool.false_eq_true, if_false, none_]; omega
      | true =>
        simp only [Bool.true_and, if_true]
        cases hb1 : (s1.1.all (okO O) && s1.2.all (stubOk H)) <;> cases hb2 : (s2.1.all (okO O) && s2.2.all (stubOk H)) <;> simp only [hb1, hb2, Bool.false_eq_true, if_false, if_true, Bool.and_true, Bool.and_false, Bool.true_and, Bool.false_and] at * <;> simp only [none_] at * <;> omega
end Go.Proofs.YtpdllgbfemnemaaGreat.Sx
end

section
namespace Go.Proofs.YtpdllgbfemnemaaGreat.Sx
open Go.RowKit

theorem inR_nd {i j h k : Nat} : inR h k (nd i j) ↔ i ≤ h ∧ j / 2 ^ (h - i) = k := by
  constructor
  · intro hr
    have hih : i ≤ h := by
      rcases Nat.lt_or_ge h i with hlt | hge
      · exfalso
        obtain ⟨e, rfl⟩ : ∃ e, i = h + 1 + e := ⟨i - (h + 1), by omega⟩
        unfold inR nd at hr
        have e1 : 2 ^ (h + 1 + e) = 2 ^ (h + 1) * 2 ^ e := Nat.pow_add ..
        have e2 : j * 2 ^ (h + 1 + e + 1) = 2 ^ (h + 1) * (j * (2 ^ e * 2)) := by rw [Nat.pow_succ 2 (h + 1 + e), e1, Nat.mul_assoc, Nat.mul_left_comm]
        have e3 : k * 2 ^ (h + 1) = 2 ^ (h + 1) * k := Nat.mul_comm ..
        rw [e1, e2, e3] at hr
        have hp := pow_pos' (h + 1)
        have hq := pow_pos' e
        generalize 2 ^ (h + 1) = q at *
        generalize j * (2 ^ e * 2) = r at *
        generalize 2 ^ e = t at *
        have hle1 : q * k ≤ q * r + q * t - 1 := by
          have : 0 < q * t := Nat.mul_pos hp hq
          omega
        have h1 : q * k + 1 ≤ q * (r + t) := by rw [Nat.mul_add]; have : 0 < q * t := Nat.mul_pos hp hq; omega
        have h2 : q * (r + t) + 1 ≤ q * k + q := by rw [Nat.mul_add]; omega
        have h3 : k < r + t := by
          rcases Nat.lt_or_ge k (r + t) with h | h
          · exact h
          · have := Nat.mul_le_mul_left q h; omega
        have h4 : r + t < k + 1 := by
          rcases Nat.lt_or_ge (r + t) (k + 1) with h | h
          · exact h
          · have := Nat.mul_le_mul_left q h; rw [Nat.mul_add q k 1, Nat.mul_one] at this; omega
        omega
      · exact hge
    refine ⟨hih, ?_⟩
    have hn := nd_in i j (h - i)
    rw [show i + (h - i) + 1 = h + 1 by omega] at hn
    unfold inR at hr
    have hp := pow_pos' (h + 1)
    generalize j / 2 ^ (h - i) = k' at *
    have e : ∀ a b : Nat, a * 2 ^ (h + 1) + 1 ≤ b * 2 ^ (h + 1) + 2 ^ (h + 1) → a ≤ b := fun a b hab => by
      rcases Nat.lt_or_ge b a with hba | hba
      · have := Nat.mul_le_mul_right (2 ^ (h + 1)) (show b + 1 ≤ a from hba)
        rw [Nat.add_mul, Nat.one_mul] at this
        omega
      · exact hba
    have a1 := e k' k (by omega)
    have a2 := e k k' (by omega)
    omega
  · rintro ⟨hih, rfl⟩
    have hn := nd_in i j (h - i)
    rw [show i + (h - i) + 1 = h + 1 by omega] at hn
    unfold inR
    omega
theorem under_inR {x : Int} {d h k : Nat} (hd : d ≤ 16) (hh : h ≤ d) (hk : k < 2 ^ (d - h)) (hx : nodeI x = true) : underI x (nd h k) = true ↔ inR h k x := by
  rw [under_down hd hh hk hx]
  unfold inR trip
  simp only [Bool.and_eq_true, decide_eq_true_eq]
  have hp := pow_pos' h
  rw [Nat.pow_succ 2 h]
  omega
theorem lateD_nat {u : Int} (h : lateD u) : ∃ m : Nat, u = m ∧ m < 65536 ∧ 2 * u = (nd 0 m : Int) := by
  unfold lateD at h
  obtain ⟨m, rfl⟩ := Int.eq_ofNat_of_zero_le h.1
  exact ⟨m, rfl, by omega, by rw [nd_zero]; omega⟩
theorem under_late {h k m : Nat} (hh : h ≤ 16) (hk : k < 2 ^ (16 - h)) (hm : m < 65536) : underI (2 * (m : Int)) (nd h k) = true ↔ m / 2 ^ h = k := by
  rw [show 2 * (m : Int) = (nd 0 m : Int) by rw [nd_zero]; omega, under_inR (d := 16) (by omega) hh hk (nd_nodeI (d := 16) (by omega) (by omega) (by simpa using hm)), inR_nd]
  simp

abbrev found (O : List Spot) (z : Int) : Bool := (findS O z).isSome
/-- Above late leaves, beneath a node. -/
def Lset (late : List Int) (h k : Nat) (z : Int) : Prop := ∃ m : Nat, (m : Int) ∈ late ∧ m / 2 ^ h = k ∧ ∃ i, i ≤ h ∧ z = (nd i (m / 2 ^ i) : Int)
theorem Lset_up {late : List Int} {h k : Nat} {z : Int} : Lset late (h + 1) k z ↔ (z = (nd (h + 1) k : Int) ∧ ∃ m : Nat, (m : Int) ∈ late ∧ m / 2 ^ (h + 1) = k) ∨ Lset late h (2 * k) z ∨ Lset late h (2 * k + 1) z := by
  have key : ∀ m : Nat, m / 2 ^ (h + 1) = m / 2 ^ h / 2 := fun m => by rw [Nat.pow_succ, Nat.div_div_eq_div_mul]
  constructor
  · rintro ⟨m, hm, hk, i, hi, rfl⟩
    rcases Nat.eq_or_lt_of_le hi with rfl | hlt
    · exact .inl ⟨by rw [hk], m, hm, hk⟩
    · right
      rw [key] at hk
      rcases Nat.mod_two_eq_zero_or_one (m / 2 ^ h) with h0 | h0
      · exact .inl ⟨m, hm, by omega, i, by omega, rfl⟩
      · exact .inr ⟨m, hm, by omega, i, by omega, rfl⟩
  · rintro (⟨rfl, m, hm, hk⟩ | ⟨m, hm, hk, i, hi, rfl⟩ | ⟨m, hm, hk, i, hi, rfl⟩)
    · exact ⟨m, hm, hk, h + 1, Nat.le_refl _, by rw [hk]⟩
    · exact ⟨m, hm, by rw [key]; omega, i, by omega, rfl⟩
    · exact ⟨m, hm, by rw [key]; omega, i, by omega, rfl⟩
theorem any_iff {late : List Int} (hl : ∀ u ∈ late, lateD u) {h k : Nat} (hh : h ≤ 16) (hk : k < 2 ^ (16 - h)) : late.any (fun u => underI (2 * u) (nd h k)) = true ↔ ∃ m : Nat, (m : Int) ∈ late ∧ m / 2 ^ h = k := by
  rw [List.any_eq_true]
  constructor
  · rintro ⟨u, hu, h1⟩
    obtain ⟨m, rfl, hm, _⟩ := lateD_nat (hl u hu)
    exact ⟨m, hu, (under_late hh hk hm).1 h1⟩
  · rintro ⟨m, hm, h1⟩
    have := hl _ hm
    unfold lateD at this
    exact ⟨m, hm, (under_late hh hk (by omega)).2 h1⟩
/-- Above late leaves, by the program. -/
theorem late_mode (O : List Spot) {late : List Int} (hl : ∀ u ∈ late, lateD u) : ∀ (h k : Nat), h ≤ 16 → k < 2 ^ (16 - h) → late.any (fun u => underI (2 * u) (nd h k)) = true →
    ((shP O h k false late).1.all (found O) = true ↔ ∀ z, Lset late h k z → found O z = true) ∧ ((shP O h k false late).1.all (found O) = true → ∀ z, z ∈ (shP O h k false late).1 ↔ Lset late h k z)
  | 0, k, hh, hk, ha => by
    obtain ⟨m, hm, hmk⟩ := (any_iff hl hh hk).1 ha
    have hL : ∀ z, Lset late 0 k z ↔ z = (nd 0 k : Int) := fun z => by
      constructor
      · rintro ⟨m', _, e, i, hi, rfl⟩
        have : i = 0 := by omega
        subst this
        rw [e]
      · rintro rfl
        exact ⟨m, hm, hmk, 0, Nat.le_refl _, by rw [hmk]⟩
    simp only [hL, shP]
    simp
  | h + 1, k, hh, hk, ha => by
    obtain ⟨m, hm, hmk⟩ := (any_iff hl hh hk).1 ha
    have hk2 := kid_lt hh hk
    have hx : Lset late (h + 1) k (nd (h + 1) k) := Lset_up.2 (.inl ⟨rfl, m, hm, hmk⟩)
    unfold shP
    cases hf : findS O (nd (h + 1) k) with
    | none =>
      simp only [List.all_cons, List.all_nil, Bool.and_true, found, hf]
      refine ⟨⟨fun g => (by cases g), fun g => ?_⟩, fun g => (by cases g)⟩
      have := g _ hx
      simp [found, hf] at this
    | some n =>
      simp only [Bool.false_and, Bool.false_eq_true, if_false]
      have kid : ∀ j, j < 2 ^ (16 - h) → ((kidS (fun j w l => shP O h j w l) h false late j).1.all (found O) = true ↔ ∀ z, Lset late h j z → found O z = true) ∧ ((kidS (fun j w l => shP O h j w l) h false late j).1.all (found O) = true → ∀ z, z ∈ (kidS (fun j w l => shP O h j w l) h false late j).1 ↔ Lset late h j z) := fun j hj => by
        unfold kidS
        simp only [Bool.false_eq_true, if_false]
        split
        · rename_i hany
          exact late_mode O hl h j (by omega) hj hany
        · rename_i hany
          have hno : ∀ z, ¬ Lset late h j z := by
            rintro z ⟨m', hm', e, _⟩
            exact hany ((any_iff hl (by omega) hj).2 ⟨m', hm', e⟩)
          simp [hno]
      obtain ⟨a1, a2⟩ := kid (2 * k) (by omega)
      obtain ⟨b1, b2⟩ := kid (2 * k + 1) hk2
      generalize kidS (fun j w l => shP O h j w l) h false late (2 * k) = s1 at *
      generalize kidS (fun j w l => shP O h j w l) h false late (2 * k + 1) = s2 at *
      have hall : (s1.1 ++ [(nd (h + 1) k : Int)] ++ s2.1).all (found O) = true ↔ s1.1.all (found O) = true ∧ s2.1.all (found O) = true := by
        simp only [List.all_append, List.all_cons, List.all_nil, Bool.and_true, Bool.and_eq_true, found, hf, Option.isSome_some, and_true]
      rw [hall, a1, b1]
      refine ⟨⟨fun ⟨u, v⟩ z hz => ?_, fun hz => ⟨fun z h => hz z (Lset_up.2 (.inr (.inl h))), fun z h => hz z (Lset_up.2 (.inr (.inr h)))⟩⟩, fun ⟨u, v⟩ z => ?_⟩
      · rcases Lset_up.1 hz with ⟨rfl, _⟩ | hz | hz
        · simp [found, hf]
        · exact u z hz
        · exact v z hz
      · have m1 := a2 (a1.2 u) z
        have m2 := b2 (b1.2 v) z
        rw [List.mem_append, List.mem_append, m1, m2, Lset_up]
        constructor
        · rintro ((h | h) | h)
          · exact .inr (.inl h)
          · exact .inl ⟨by simpa using h, m, hm, hmk⟩
          · exact .inr (.inr h)
        · rintro (⟨rfl, _⟩ | h | h)
          · exact .inl (.inr (by simp))
          · exact .inl (.inl h)
          · exact .inr h

/-! ### The reference's list -/
def Winv (O : List Spot) (x : Int) (a : List Int × Bool) : Prop := a.2 = true ↔ ∀ z ∈ a.1, z ≠ x → found O z = true
theorem wstep_inv {O : List Spot} {x z : Int} {a : List Int × Bool} (h : Winv O x a) : Winv O x (wstep O x a z) := by
  unfold wstep Winv at *
  split
  · rename_i hc
    simp only [Bool.and_eq_true]
    rw [h]
    constructor
    · rintro ⟨h1, h2⟩ y hy hne
      rcases List.mem_append.1 hy with hy | hy
      · exact h1 y hy hne
      · rw [mem1 hy]; exact h2
    · intro h1
      exact ⟨fun y hy hne => h1 y (List.mem_append_left _ hy) hne, h1 z (by simp) hc.1⟩
  · exact h
theorem wstep_mem {O : List Spot} {x z y : Int} {a : List Int × Bool} : y ∈ (wstep O x a z).1 ↔ y ∈ a.1 ∨ (y = z ∧ z ≠ x ∧ underI z x = true) := by
  unfold wstep
  split
  · rename_i hc
    rw [List.mem_append]
    constructor
    · rintro (h | h)
      · exact .inl h
      · exact .inr ⟨mem1 h, hc.1, hc.2.1⟩
    · rintro (h | ⟨rfl, _⟩)
      · exact .inl h
      · exact .inr (by simp)
  · rename_i hc
    constructor
    · exact .inl
    · rintro (h | ⟨rfl, h1, h2⟩)
      · exact h
      · by_cases hm : y ∈ a.1
        · exact hm
        · exact absurd ⟨h1, h2, hm⟩ hc
theorem wsteps {O : List Spot} {x : Int} : ∀ (l : List Int) (a : List Int × Bool), Winv O x a → Winv O x (l.foldl (wstep O x) a) ∧ ∀ y, y ∈ (l.foldl (wstep O x) a).1 ↔ y ∈ a.1 ∨ (y ∈ l ∧ y ≠ x ∧ underI y x = true) := by
  intro l
  induction l with
  | nil => intro a h; exact ⟨h, fun y => by simp⟩
  | cons z l ih =>
    intro a h
    obtain ⟨h1, h2⟩ := ih (wstep O x a z) (wstep_inv h)
    refine ⟨h1, fun y => ?_⟩
    rw [List.foldl_cons, h2, wstep_mem, List.mem_cons]
    constructor
    · rintro ((h | ⟨rfl, h3⟩) | ⟨h3, h4⟩)
      · exact .inl h
      · exact .inr ⟨.inl rfl, h3⟩
      · exact .inr ⟨.inr h3, h4⟩
    · rintro (h | ⟨rfl | h3, h4⟩)
      · exact .inl (.inl h)
      · exact .inl (.inr ⟨rfl, h4⟩)
      · exact .inr ⟨h3, h4⟩
theorem wfold_law {O : List Spot} {x n : Int} : ∀ (late : List Int) (a : List Int × Bool), Winv O x a → Winv O x (wfold O x n late a) ∧ ∀ y, y ∈ (wfold O x n late a).1 ↔ y ∈ a.1 ∨ ((∃ u ∈ late, y ∈ upL n u) ∧ y ≠ x ∧ underI y x = true) := by
  intro late
  induction late with
  | nil => intro a h; exact ⟨h, fun y => by simp [wfold]⟩
  | cons u late ih =>
    intro a h
    obtain ⟨h1, h2⟩ := wsteps (upL n u) a h
    obtain ⟨h3, h4⟩ := ih _ h1
    refine ⟨h3, fun y => ?_⟩
    have : wfold O x n (u :: late) a = wfold O x n late ((upL n u).foldl (wstep O x) a) := rfl
    rw [this, h4, h2]
    constructor
    · rintro ((h | ⟨h5, h6⟩) | ⟨⟨u', hu', h5⟩, h6⟩)
      · exact .inl h
      · exact .inr ⟨⟨u, by simp, h5⟩, h6⟩
      · exact .inr ⟨⟨u', by simp [hu'], h5⟩, h6⟩
    · rintro (h | ⟨⟨u', hu', h5⟩, h6⟩)
      · exact .inl (.inl h)
      · rcases List.mem_cons.1 hu' with rfl | hu'
        · exact .inl (.inr ⟨h5, h6⟩)
        · exact .inr ⟨⟨u', hu', h5⟩, h6⟩
theorem mem_upL {d m : Nat} (hd : d ≤ 16) (hm : m < 2 ^ d) (z : Int) : z ∈ upL ((2 ^ d : Nat) : Int) m ↔ ∃ i, i ≤ d ∧ z = (nd i (m / 2 ^ i) : Int) := by
  have e : 2 * (m : Int) = (nd 0 m : Int) := by rw [nd_zero]; omega
  unfold upL
  rw [e, path_range hd hm, List.mem_cons, List.mem_map]
  constructor
  · rintro (rfl | ⟨i, hi, rfl⟩)
    · exact ⟨0, by omega, by simp⟩
    · rw [List.mem_range] at hi
      exact ⟨i + 1, by omega, rfl⟩
  · rintro ⟨i, hi, rfl⟩
    cases i with
    | zero => left; simp
    | succ i => exact .inr ⟨i, List.mem_range.2 (by omega), rfl⟩

theorem pow_le16 {d : Nat} (hd : d ≤ 16) : 2 ^ d ≤ 65536 := Nat.pow_le_pow_right (n := 2) (by omega) (show d ≤ 16 from hd)
theorem lt16 {d h k : Nat} (hd : d ≤ 16) (hk : k < 2 ^ (d - h)) : k < 2 ^ (16 - h) := Nat.lt_of_lt_of_le hk (Nat.pow_le_pow_right (by omega) (by omega))
/-- What a node that has late leaves opens. -/
theorem whole_late {d h k : Nat} (hd : d ≤ 16) (hh : h ≤ d) (hk : k < 2 ^ (d - h)) {late : List Int} (hl : ∀ u ∈ late, lateD u) (hu : ∀ u ∈ late, underI (2 * u) (nd h k) = true) (y : Int) :
    ((∃ u ∈ late, y ∈ upL ((2 ^ d : Nat) : Int) u) ∧ y ≠ (nd h k : Int) ∧ underI y (nd h k) = true) ↔ Lset late h k y ∧ y ≠ (nd h k : Int) := by
  have hm : ∀ m : Nat, (m : Int) ∈ late → m < 65536 ∧ m / 2 ^ h = k := fun m hm => by
    have h1 := hl _ hm
    unfold lateD at h1
    exact ⟨by omega, (under_late (by omega) (lt16 hd hk) (by omega)).1 (hu _ hm)⟩
  have hmd : ∀ m : Nat, (m : Int) ∈ late → m < 2 ^ d := fun m hml => by
    have h1 := (hm m hml).2
    have h2 : m < (k + 1) * 2 ^ h := by
      have := Nat.lt_div_mul_add (a := m) (pow_pos' h)
      rw [h1] at this
      rw [Nat.add_mul]; omega
    have h3 : (k + 1) * 2 ^ h ≤ 2 ^ (d - h) * 2 ^ h := Nat.mul_le_mul_right _ hk
    rw [← Nat.pow_add, show d - h + h = d by omega] at h3
    omega
  constructor
  · rintro ⟨⟨u, hul, hy⟩, hne, hun⟩
    obtain ⟨m, rfl, _, _⟩ := lateD_nat (hl u hul)
    obtain ⟨i, hi, rfl⟩ := (mem_upL hd (hmd m hul) y).1 hy
    have hr := (under_inR hd hh hk (nd_nodeI hd hi (div_lt_pow (hmd m hul) hi))).1 hun
    obtain ⟨hih, _⟩ := inR_nd.1 hr
    exact ⟨⟨m, hul, (hm m hul).2, i, hih, rfl⟩, hne⟩
  · rintro ⟨⟨m, hml, e, i, hi, rfl⟩, hne⟩
    refine ⟨⟨m, hml, (mem_upL hd (hmd m hml) _).2 ⟨i, by omega, rfl⟩⟩, hne, ?_⟩
    refine (under_inR hd hh hk (nd_nodeI hd (by omega) (div_lt_pow (hmd m hml) (by omega)))).2 (inR_nd.2 ⟨hi, ?_⟩)
    rw [Nat.div_div_eq_div_mul, ← Nat.pow_add, show i + (h - i) = h by omega]
    exact e
theorem no_late {n : Node} (hr : n.right = true) (hk : n.kind.toNat ≠ 2) : n.par.late = [] := by
  unfold Node.right at hr
  split at hr
  · simp only [Bool.and_eq_true, Par.none, decide_eq_true_eq, List.length_eq_zero_iff] at hr
    exact hr.2.2.2
  · split at hr
    · simp only [Bool.and_eq_true, Par.none, decide_eq_true_eq, List.length_eq_zero_iff] at hr
      exact hr.2.2.2
    · cases hr
theorem whole_law {O : List Spot} {d : Nat} (hd : d ≤ 16) (hF : ∀ x n, findS O x = some n → fineP x n = true) : ∀ (h k : Nat), h ≤ d → k < 2 ^ (d - h) →
    ((wholeW O ((2 ^ d : Nat) : Int) h k).2 = true ↔ (shP O h k true []).1.all (found O) = true) ∧ ((wholeW O ((2 ^ d : Nat) : Int) h k).2 = true → ∀ z, z ∈ (wholeW O ((2 ^ d : Nat) : Int) h k).1 ↔ z ∈ (shP O h k true []).1)
  | 0, k, hh, hk => by
    unfold wholeW shP
    cases hf : findS O (nd 0 k) with
    | none => simp [found, hf]
    | some n =>
      have hfp := hF _ _ hf
      simp only [fineP, Bool.and_eq_true, decide_eq_true_eq] at hfp
      have hl := no_late hfp.1 (by have := hfp.2.1; simp only [otherK, tmod_even] at this; simpa using this)
      simp only [hl, wfold, List.foldl_nil]
      simp [found, hf]
  | h + 1, k, hh, hk => by
    have hk16 := lt16 hd hk
    have hk2 : 2 ^ (d - h) = 2 * 2 ^ (d - (h + 1)) := by rw [show d - h = (d - (h + 1)) + 1 by omega, Nat.pow_succ]; omega
    unfold wholeW shP
    cases hf : findS O (nd (h + 1) k) with
    | none => simp [found, hf]
    | some n =>
      have hfp := hF _ _ hf
      simp only [fineP, Bool.and_eq_true, decide_eq_true_eq, List.all_eq_true] at hfp
      have hl := Node.right_late hfp.1
      by_cases h0 : n.kind.toNat = 0
      · obtain ⟨a1, a2⟩ := whole_law hd hF h (2 * k) (by omega) (by omega)
        obtain ⟨b1, b2⟩ := whole_law hd hF h (2 * k + 1) (by omega) (by omega)
        simp only [h0, if_true, decide_true, Bool.and_true, kidS]
        generalize wholeW O ((2 ^ d : Nat) : Int) h (2 * k) = s1 at *
        generalize wholeW O ((2 ^ d : Nat) : Int) h (2 * k + 1) = s2 at *
        simp only [Bool.and_eq_true, List.all_append, List.all_cons, List.all_nil, Bool.and_true, found, hf, Option.isSome_some, and_true]
        refine ⟨by rw [a1, b1], fun ⟨u, v⟩ z => ?_⟩
        simp only [List.mem_append, a2 u z, b2 v z]
        constructor
        · rintro ((h | h) | h)
          · exact .inl (.inr h)
          · exact .inl (.inl h)
          · exact .inr h
        · rintro ((h | h) | h)
          · exact .inl (.inr h)
          · exact .inl (.inl h)
          · exact .inr h
      · obtain ⟨w1, w2⟩ := wfold_law (O := O) (x := (nd (h + 1) k : Int)) (n := ((2 ^ d : Nat) : Int)) n.par.late ([(nd (h + 1) k : Int)], true) (by unfold Winv; simp)
        simp only [h0, if_false, decide_false, Bool.and_false, if_true]
        unfold Winv at w1
        have w2' : ∀ y, y ∈ (wfold O (nd (h + 1) k) ((2 ^ d : Nat) : Int) n.par.late ([(nd (h + 1) k : Int)], true)).1 ↔ y = (nd (h + 1) k : Int) ∨ (Lset n.par.late h (2 * k) y ∨ Lset n.par.late h (2 * k + 1) y) := fun y => by
          rw [w2, whole_late hd hh hk hl hfp.2.2 y, Lset_up]
          simp only [List.mem_cons, List.not_mem_nil, or_false]
          constructor
          · rintro (g | ⟨⟨g, _⟩ | g, _⟩)
            · exact .inl g
            · exact .inl g
            · exact .inr g
          · rintro (g | g)
            · exact .inl g
            · by_cases hy : y = (nd (h + 1) k : Int)
              · exact .inl hy
              · exact .inr ⟨.inr g, hy⟩
        have kid : ∀ j, j < 2 ^ (16 - h) → ((kidS (fun j w l => shP O h j w l) h false n.par.late j).1.all (found O) = true ↔ ∀ z, Lset n.par.late h j z → found O z = true) ∧ ((kidS (fun j w l => shP O h j w l) h false n.par.late j).1.all (found O) = true → ∀ z, z ∈ (kidS (fun j w l => shP O h j w l) h false n.par.late j).1 ↔ Lset n.par.late h j z) := fun j hj => by
          unfold kidS
          simp only [Bool.false_eq_true, if_false]
          split
          · rename_i hany
            exact late_mode O hl h j (by omega) hj hany
          · rename_i hany
            have hno : ∀ z, ¬ Lset n.par.late h j z := by
              rintro z ⟨m', hm', e, _⟩
              exact hany ((any_iff hl (by omega) hj).2 ⟨m', hm', e⟩)
            simp [hno]
        obtain ⟨a1, a2⟩ := kid (2 * k) (by have := kid_lt (by omega) hk16; omega)
        obtain ⟨b1, b2⟩ := kid (2 * k + 1) (kid_lt (by omega) hk16)
        generalize kidS (fun j w l => shP O h j w l) h false n.par.late (2 * k) = s1 at *
        generalize kidS (fun j w l => shP O h j w l) h false n.par.late (2 * k + 1) = s2 at *
        generalize wfold O (nd (h + 1) k) ((2 ^ d : Nat) : Int) n.par.late ([(nd (h + 1) k : Int)], true) = r at *
        have hall : (s1.1 ++ [(nd (h + 1) k : Int)] ++ s2.1).all (found O) = true ↔ s1.1.all (found O) = true ∧ s2.1.all (found O) = true := by
          simp only [List.all_append, List.all_cons, List.all_nil, Bool.and_true, Bool.and_eq_true, found, hf, Option.isSome_some, and_true]
        have hx : found O (nd (h + 1) k) = true := by simp [found, hf]
        have e1 : r.2 = true ↔ s1.1.all (found O) = true ∧ s2.1.all (found O) = true := by
          rw [w1, a1, b1]
          constructor
          · intro g
            refine ⟨fun z hz => ?_, fun z hz => ?_⟩
            · by_cases hzx : z = (nd (h + 1) k : Int)
              · rw [hzx]; exact hx
              · exact g z ((w2' z).2 (.inr (.inl hz))) hzx
            · by_cases hzx : z = (nd (h + 1) k : Int)
              · rw [hzx]; exact hx
              · exact g z ((w2' z).2 (.inr (.inr hz))) hzx
          · rintro ⟨u, v⟩ z hz hne
            rcases (w2' z).1 hz with g | g | g
            · exact absurd g hne
            · exact u z g
            · exact v z g
        rw [hall]
        refine ⟨e1, fun g z => ?_⟩
        obtain ⟨u, v⟩ := e1.1 g
        rw [w2', List.mem_append, List.mem_append, a2 u z, b2 v z]
        simp only [List.mem_cons, List.not_mem_nil, or_false]
        constructor
        · rintro (h | h | h)
          · exact .inl (.inr h)
          · exact .inl (.inl h)
          · exact .inr h
        · rintro ((h | h) | h)
          · exact .inr (.inl h)
          · exact .inl h
          · exact .inr (.inr h)
end Go.Proofs.YtpdllgbfemnemaaGreat.Sx
end
