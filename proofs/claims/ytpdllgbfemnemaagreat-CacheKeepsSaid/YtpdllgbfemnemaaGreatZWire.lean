import Derived.Test.YtpdllgbfemnemaaGreatZApp
import Derived.Test.YtpdllgbfemnemaaGreatZOnes
import Derived.Deep.QuietTactic
import Derived.BigQuiet
import Derived.Deep.LoopGhost
namespace Go.Proofs.YtpdllgbfemnemaaGreat
set_option linter.unusedVariables false
open Go.RowKit

theorem OwB.ofNew {w : World} {base : Nat} {l : List UInt8} {cs : Array Value} {n : Nat} (hb : base ≤ w.heap.size) (hcs : cs.toList = l.map bv) (hn : n = l.length) (hl : l.length ≤ 1000000) :
    OwB (w.alloc (.cells cs 5)) base (.slice (some ⟨w.heap.size, 0, none⟩) n n) l (some w.heap.size) := by
  subst hn
  unfold OwB
  rw [← hcs]
  exact Ow.made (by rw [← Array.length_toList, hcs]; simp) (by simp only [maxLen]; omega) hb
theorem OwI.ofNew {w : World} {base : Nat} {l : List Int} {cs : Array Value} {n : Nat} (hb : base ≤ w.heap.size) (hcs : cs.toList = l.map iv) (hn : n = l.length) (hl : l.length ≤ 1000000) :
    OwI (w.alloc (.cells cs 3)) base (.slice (some ⟨w.heap.size, 0, none⟩) n n) l (some w.heap.size) := by
  subst hn
  unfold OwI
  rw [← hcs]
  exact Ow.made (by rw [← Array.length_toList, hcs]; simp) (by simp only [maxLen]; omega) hb
theorem By.none_nil {w : World} {S : Nat → Prop} {c : Nat} {l : List UInt8} (h : By w S ⟨none, c⟩ l) : l = [] := by
  rcases Nat.eq_zero_or_pos l.length with h0 | h0
  · exact List.eq_nil_of_length_eq_zero h0
  · obtain ⟨_, _, e, _⟩ := Sl.at_ h h0; cases e
theorem Is.none_nil {w : World} {S : Nat → Prop} {c : Nat} {l : List Int} (h : Is w S ⟨none, c⟩ l) : l = [] := by
  rcases Nat.eq_zero_or_pos l.length with h0 | h0
  · exact List.eq_nil_of_length_eq_zero h0
  · obtain ⟨_, _, e, _⟩ := Sl.at_ h.1 h0; cases e

theorem cloneB_any (p : AC) (l : List UInt8) {S : Nat → Prop} (w : World) (hp : By w S p l) (hl : l.length ≤ 8000000000000) :
    Calls Tryz.prog 165 #[.slice p.a l.length p.c] w (Ret w fun w' v => ∃ g, OwB w' w.heap.size v l g) := by
  have hq : ∀ w (a : Option Addr) (n c : Nat), (binOp .eql 28 (.slice a n c) (.slice none 0 0)).run Tryz.prog w = .ok (.bool a.isNone) w := fun w a n c => Lib.run_eql_slice_nil w _ _ a n c 0 0 Tryz.underlying28
  obtain ⟨a, c⟩ := p
  cases a with
  | none =>
    have hn := hp.none_nil
    subst hn
    go_enter Tryz.func165, Tryz.ntmps165
    go_wp2_with fail
    go_ret
    exact ⟨_, rfl, (by (repeat (first | exact Ext.refl _ | refine Ext.drew ?_ | refine Ext.drewN ?_ _ | refine Ext.alloc ?_ _ | (refine Ext.setCell ?_ (by first | omega | (simp; done) | (simp; omega)) _) | refine Ext.trans ?_ (by assumption)))), none, Ow.nil _ _ _ _⟩
  | some ad =>
    go_enter Tryz.func165, Tryz.ntmps165
    go_wp2_with (first | (at_builtin; refine stop_ ?_))
    refine go_on (wpList_appB rfl (.tmp 5) (.tmp 6) rfl rfl (OwB.ofNew (l := []) (Nat.le_refl _) rfl rfl (by decide)) rfl rfl (id ((hp.ext (ext_alloc _ _)))) ?_ ?_ ?_)
    · simp; omega
    · simp
    intro a' c' g' w' r1 r2 r3
    have r4 := Ext.grown (ext_alloc _ _) r2 (fun k hk => by cases hk; simp)
    rw [List.nil_append] at r1
    go_wp2_with fail
    go_ret
    exact ⟨_, rfl, r4, g', by simpa using r1⟩

theorem bclone_any (p : AC) (l : List UInt8) {S : Nat → Prop} (w : World) (hp : By w S p l) (hl : l.length ≤ 8000000000000) :
    Calls Tryz.prog 87 #[.slice p.a l.length p.c] w (Ret w fun w' v => ∃ g, OwB w' w.heap.size v l g) := by
  have hq : ∀ w (a : Option Addr) (n c : Nat), (binOp .eql 28 (.slice a n c) (.slice none 0 0)).run Tryz.prog w = .ok (.bool a.isNone) w := fun w a n c => Lib.run_eql_slice_nil w _ _ a n c 0 0 Tryz.underlying28
  obtain ⟨a, c⟩ := p
  cases a with
  | none =>
    have hn := hp.none_nil
    subst hn
    go_enter Tryz.func87, Tryz.ntmps87
    go_wp2_with fail
    go_ret
    exact ⟨_, rfl, (by (repeat (first | exact Ext.refl _ | refine Ext.drew ?_ | refine Ext.drewN ?_ _ | refine Ext.alloc ?_ _ | (refine Ext.setCell ?_ (by first | omega | (simp; done) | (simp; omega)) _) | refine Ext.trans ?_ (by assumption)))), none, Ow.nil _ _ _ _⟩
  | some ad =>
    go_enter Tryz.func87, Tryz.ntmps87
    go_wp2_with (first | (at_builtin; refine stop_ ?_))
    refine go_on (wpList_appB rfl (.tmp 5) (.tmp 6) rfl rfl (OwB.ofNew (l := []) (Nat.le_refl _) rfl rfl (by decide)) rfl rfl (id ((hp.ext (ext_alloc _ _)))) ?_ ?_ ?_)
    · simp; omega
    · simp
    intro a' c' g' w' r1 r2 r3
    have r4 := Ext.grown (ext_alloc _ _) r2 (fun k hk => by cases hk; simp)
    rw [List.nil_append] at r1
    go_wp2_with fail
    go_ret
    exact ⟨_, rfl, r4, g', by simpa using r1⟩

theorem cloneI_any (p : AC) (l : List Int) {S : Nat → Prop} (w : World) (hp : Is w S p l) (hl : l.length ≤ 8000000000000) :
    Calls Tryz.prog 144 #[.slice p.a l.length p.c] w (Ret w fun w' v => ∃ g, OwI w' w.heap.size v l g) := by
  have hq : ∀ w (a : Option Addr) (n c : Nat), (binOp .eql 34 (.slice a n c) (.slice none 0 0)).run Tryz.prog w = .ok (.bool a.isNone) w := fun w a n c => Lib.run_eql_slice_nil w _ _ a n c 0 0 Tryz.underlying34
  obtain ⟨a, c⟩ := p
  cases a with
  | none =>
    have hn := hp.none_nil
    subst hn
    go_enter Tryz.func144, Tryz.ntmps144
    go_wp2_with fail
    go_ret
    exact ⟨_, rfl, (by (repeat (first | exact Ext.refl _ | refine Ext.drew ?_ | refine Ext.drewN ?_ _ | refine Ext.alloc ?_ _ | (refine Ext.setCell ?_ (by first | omega | (simp; done) | (simp; omega)) _) | refine Ext.trans ?_ (by assumption)))), none, Ow.nil _ _ _ _⟩
  | some ad =>
    go_enter Tryz.func144, Tryz.ntmps144
    go_wp2_with (first | (at_builtin; refine stop_ ?_))
    refine go_on (wpList_appI rfl (.tmp 5) (.tmp 6) rfl rfl (OwI.ofNew (l := []) (Nat.le_refl _) rfl rfl (by decide)) rfl rfl (And.left ((hp.ext (ext_alloc _ _)))) ?_ ?_ ?_)
    · simp; omega
    · simp
    intro a' c' g' w' r1 r2 r3
    have r4 := Ext.grown (ext_alloc _ _) r2 (fun k hk => by cases hk; simp)
    rw [List.nil_append] at r1
    go_wp2_with fail
    go_ret
    exact ⟨_, rfl, r4, g', by simpa using r1⟩

end Go.Proofs.YtpdllgbfemnemaaGreat
