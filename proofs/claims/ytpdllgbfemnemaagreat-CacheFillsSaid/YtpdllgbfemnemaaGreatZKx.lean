import Derived.Test.YtpdllgbfemnemaaGreatZKs
import Derived.Test.YtpdllgbfemnemaaGreatZSxX
namespace Go.Proofs.YtpdllgbfemnemaaGreat.Sx
open Go.RowKit
theorem zt0 {S : St} {id : Nat} {e : TypeId} {sz n : Nat} {cells : List RV} (ho : oget S.O id = some (.ch e sz n cells false)) : Sub S ⟨S.F, (id, some (.ch e sz n cells true)) :: S.O, S.nx⟩ := by
 rintro B N a w k ⟨g, hs⟩
 obtain ⟨q1, q2, q3, q4⟩ := hs.owns id _ ho
 simp only [Ow.at_] at q3
 let k1 : Kp := match (g id).2 with
  | some b => kset k b (n * sz)
  | none => k
 have hw : Wrote w k w k1 (g id).2 := by
  refine ⟨rfl, rfl, rfl, Nat.le_refl _, λ b hb hne => ⟨rfl, ?_⟩, λ b hb => ?_⟩
  ·simp only [k1]
   cases hob : (g id).2 with
   | none => rfl
   | some b' => simp only [kset]; rw [if_neg (λ h => hne (by rw [hob, h]))]
  ·have hkb := (q3.blk hb.symm).1
   simp only [Bool.false_eq_true, if_false] at hkb
   exact ⟨by omega, λ _ _ => rfl, λ h => by omega⟩
 have hle := hw.le
 have h2 : chAt w k1 e sz n cells true (g id).1 (g id).2 := by
  refine ⟨q3.1, ?_⟩
  rcases q3.2 with ⟨h, h' | ⟨_, h', _⟩⟩ | ⟨b, cap, cur, h1, h2, h3, h4, h5, h6, h7, h8⟩
  ·exact .inl ⟨h, .inl h'⟩
  ·cases h'
  ·refine .inr ⟨b, cap, cur, h1, h2, h3, h4, h5, h6, ?_, RV.list_mono hle _ _ h8⟩
   simp only [k1, h1, zcx, if_true]
 have h1 := hs.wrote hw (id := some id) ⟨⟨_, ho⟩, rfl⟩
 have up : ∀ i o', oget ((id, some (Ow.ch e sz n cells true)) :: S.O) i = some o' -> (i = id /\ o' = .ch e sz n cells true) \/ (id ≠ i /\ oget (S.strike (some id)).O i = some o') := λ i o' h => by
  rcases za2 h with ⟨rfl, e'⟩ | ⟨hne, h⟩
  ·cases e'; exact .inl ⟨rfl, rfl⟩
  ·refine .inr ⟨hne, ?_⟩
   simp only [St.strike, St.set, oget]
   split
   ·rename_i hb; exact absurd (Nat.eq_of_beq_eq_true hb) hne
   ·exact h
 refine ⟨k1, g, h1.size, h1.defers, h1.keep, h1.kk, h1.facts, λ i o' h => ?_, λ i j o1 o2 b' hi hj hne hbi => ?_⟩
 ·rcases up i o' h with ⟨rfl, rfl⟩ | ⟨hne, h⟩
  ·exact ⟨q1, trivial, h2, q4⟩
  ·exact h1.owns i o' h
 ·have old : ∀ x ox, oget ((id, some (Ow.ch e sz n cells true)) :: S.O) x = some ox -> ∃ ox', oget S.O x = some ox' := λ x ox hx => by
   rcases za2 hx with ⟨rfl, _⟩ | ⟨_, hx⟩
   ·exact ⟨_, ho⟩
   ·exact ⟨ox, hx⟩
  obtain ⟨p1, hp1⟩ := old i o1 hi
  obtain ⟨p2, hp2⟩ := old j o2 hj
  exact hs.apart i j p1 p2 b' hp1 hp2 hne hbi
end Go.Proofs.YtpdllgbfemnemaaGreat.Sx
