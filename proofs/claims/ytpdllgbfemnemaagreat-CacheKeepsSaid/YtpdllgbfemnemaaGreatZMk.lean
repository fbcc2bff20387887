import Derived.Test.YtpdllgbfemnemaaGreatZMg
import Derived.Test.YtpdllgbfemnemaaGreatZVd
section
namespace Go.Proofs.YtpdllgbfemnemaaGreat.Sx
open Go.RowKit

end Go.Proofs.YtpdllgbfemnemaaGreat.Sx
end

section
namespace Go.Proofs.YtpdllgbfemnemaaGreat.Sx
open Go.RowKit

theorem insR_true (own : Stub) : ∀ (l M : List Stub), l.foldl (insS own) (true, M) = (true, M ++ l)
  | [], M => by simp
  | y :: l, M => by
    rw [List.foldl_cons, show insS own (true, M) y = (true, M ++ [y]) by simp [insS], insR_true own l]
    simp
theorem insR_none (own : Stub) : ∀ (l M : List Stub), (∀ y ∈ l, ¬ own.at_ < y.at_) → l.foldl (insS own) (false, M) = (false, M ++ l)
  | [], M, _ => by simp
  | y :: l, M, h => by
    rw [List.foldl_cons, show insS own (false, M) y = (false, M ++ [y]) by simp [insS, h y (by simp)], insR_none own l _ fun z hz => h z (by simp [hz])]
    simp
theorem insR_some (own y : Stub) (a b : List Stub) (h : ∀ z ∈ a, ¬ own.at_ < z.at_) (hy : own.at_ < y.at_) : insR own (a ++ y :: b) = (true, a ++ own :: y :: b) := by
  unfold insR
  rw [List.foldl_append, insR_none own a _ h, List.foldl_cons, show insS own (false, [] ++ a) y = (true, a ++ [own] ++ [y]) by simp [insS, hy], insR_true]
  simp
theorem idxG_spec {α : Type} (q : α → Bool) : ∀ (l : List α) (j : Nat), (idxG q j l = -1 ∧ ∀ y ∈ l, q y = false) ∨ ∃ a y b, l = a ++ y :: b ∧ idxG q j l = ((j + a.length : Nat) : Int) ∧ q y = true ∧ ∀ z ∈ a, q z = false
  | [], j => .inl ⟨rfl, by simp⟩
  | x :: l, j => by
    cases hx : q x with
    | true => exact .inr ⟨[], x, l, rfl, by simp [idxG, hx], hx, by simp⟩
    | false =>
      rcases idxG_spec q l (j + 1) with ⟨h1, h2⟩ | ⟨a, y, b, rfl, h1, h2, h3⟩
      · refine .inl ⟨by simp [idxG, hx, h1], fun y hy => ?_⟩
        rcases List.mem_cons.1 hy with rfl | hy
        · exact hx
        · exact h2 y hy
      · refine .inr ⟨x :: a, y, b, rfl, ?_, h2, fun z hz => ?_⟩
        · simp only [idxG, hx, Bool.false_eq_true, if_false, h1, List.length_cons]
          omega
        · rcases List.mem_cons.1 hz with rfl | hz
          · exact hx
          · exact h3 z hz
/-- Where the program puts it. -/
def insAt (own : Stub) (F : List Stub) : Nat := if idxG (fun y => decide (own.at_ < y.at_)) 0 F < 0 then F.length else (idxG (fun y => decide (own.at_ < y.at_)) 0 F).toNat
theorem insAt_le (own : Stub) (F : List Stub) : insAt own F ≤ F.length := by
  unfold insAt
  rcases idxG_spec (fun y => decide (own.at_ < y.at_)) F 0 with ⟨h1, _⟩ | ⟨a, y, b, rfl, h1, _⟩
  · rw [h1]; simp
  · rw [h1, if_neg (by omega)]
    simp
theorem insL_eq (own : Stub) (F : List Stub) : F.take (insAt own F) ++ own :: F.drop (insAt own F) = insL own F := by
  unfold insAt insL
  rcases idxG_spec (fun y => decide (own.at_ < y.at_)) F 0 with ⟨h1, h2⟩ | ⟨a, y, b, rfl, h1, h2, h3⟩
  · rw [h1, if_pos (by omega)]
    have : insR own F = (false, F) := by
      have := insR_none own F [] fun y hy => by have := h2 y hy; simpa using this
      simpa [insR] using this
    rw [this]
    simp
  · have h4 := insR_some own y a b (fun z hz => by have := h3 z hz; simpa using this) (by simpa using h2)
    rw [h1, h4, if_neg (by omega)]
    simp
end Go.Proofs.YtpdllgbfemnemaaGreat.Sx
end

section
namespace Go.Proofs.YtpdllgbfemnemaaGreat.Sx
open Go.RowKit

theorem Vstep.thenSub {P : Program} {S : St} {o : Oper} {K : St → Prop} (h : Vstep P S o fun S1 => ∃ S2, Sub S1 S2 ∧ K S2) : Vstep P S o K := by
  obtain ⟨S1, hy, S2, hs, hK⟩ := h
  exact ⟨S2, fun B N a w k Q hs0 hd => Oper.wp_mono (fun a' w' ⟨k', hk'⟩ => hs B N a' w' k' hk') (hy B N a w k Q hs0 hd), hK⟩
end Go.Proofs.YtpdllgbfemnemaaGreat.Sx
end
