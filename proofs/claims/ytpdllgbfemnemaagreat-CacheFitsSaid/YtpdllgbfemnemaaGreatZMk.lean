import Derived.Test.YtpdllgbfemnemaaGreatZMg
import Derived.Test.YtpdllgbfemnemaaGreatZVd
section
namespace Go.Proofs.YtpdllgbfemnemaaGreat.Sx
open Go.RowKit

theorem g_shutsC (s : Lean_) (x : Int) (hi : s.told) (h0 : List UInt8)
    (hh : s.small = true → rightP s = true → (openedF s true).any (fun y => decide (x = y)) = true → Gives Tryz.prog 61 [.ag s.c, I x] (.r (bs h0)))
    (hsh : s.small = true → rightP s = true → (openedF s true).any (fun y => decide (x = y)) = true → Gives Tryz.prog 63 [.ag s.c, I x] (.r (.ag (shutR s x h0).c))) :
    Gives Tryz.prog 4 [.ag s.c, I x] (.r (.b true)) := by
  refine gives_of_vcg (T := Tab) mixed Tab_ok Tryz.func4 rfl (by kernel_rfl) ?_
  refine Vcall.go g_alive ?_
  refine Vcmp.f rfl (Vif.f ?_)
  refine VloadN.mk' rfl rfl ?_
  refine Vcall.bool (g_small19 s hi.opn hi.shut) (fun hsm => Vcmp.f rfl (Vif.f ?_)) (fun hsm => Vcmp.t rfl (Vif.t (Cv.refl _)))
  obtain ⟨hs, hlate⟩ := s.small_fit ⟨hi.opn, hi.shut, hi.late, hi.at_⟩ hsm
  have hs1 := hs.1
  have hs2 := hs.2.1
  have gs := g_cshutC s hs x (shutR s x h0) (hsh hsm)
  have gr29 := g_right29 s hs hlate hi.at_
  rw [← right_eq s] at gr29
  have hE : ∀ e : Int, Gives Tryz.prog 24 [.ag empty_.c] (.r (.b true)) := fun _ => by
    have := g_empty19 empty_ (by simp [empty_]) (by simp [empty_]) (by simp [empty_])
    simpa using this
  refine VloadN.mk' rfl rfl ?_
  cases hr : rightP s with
  | false =>
    rw [hr] at gr29
    have he : shutE s x (shutR s x h0) = (empty_, 3) := by simp [shutE, hr]
    rw [he] at gs
    refine Vcall.go gs ?_
    refine VloadN.mk' rfl rfl ?_
    refine Vcall.go gr29 ?_
    refine Vcmp.t rfl (Vif.t ?_)
    refine Vint.i64 rfl (by simp) ?_
    refine Vcmp.t rfl ?_
    refine VloadN.mk' rfl rfl ?_
    refine Vcall.go (hE 0) ?_
    exact Cv.refl _
  | true =>
    rw [hr] at gr29
    have hp := hr
    simp only [rightP, Bool.and_eq_true, decide_eq_true_eq] at hp
    have hb := fits_bd hp.2.1
    have ho29 := g_opened29 s true (by omega) (by have := hp.2.2.1; have := hp.2.2.2.1; omega)
    obtain ⟨L, hL⟩ : ∃ L, L = openedF s true := ⟨_, rfl⟩
    have hlen : L.length ≤ 17 := by
      have h1 := List.length_filter_le (fun c => (findS s.opn c).isSome == true) (copathI (2 * s.own) s.leaves)
      have h2 : (copathI (2 * s.own) s.leaves).length ≤ 17 := by rw [copathI_len]; exact pathI_len _ _
      rw [hL]
      unfold openedF
      omega
    rw [← hL] at ho29
    cases hc : (openedF s true).any (fun y => decide (x = y)) with
    | false =>
      have he : shutE s x (shutR s x h0) = (empty_, 7) := by simp [shutE, hr, hc]
      rw [he] at gs
      refine Vcall.go gs ?_
      refine VloadN.mk' rfl rfl ?_
      refine Vcall.go gr29 ?_
      refine Vcmp.f rfl (Vif.f ?_)
      refine VloadN.mk' rfl rfl ?_
      refine Vcall.go ho29 ?_
      refine Vloop.mk' (fun j : Nat => { F := [(1, .r (I x)), (2, .own 0), (5, .own 1), (6, .r (.i .u8 7)), (7, .r (is L)), (8, .r (I j))], O := [(0, some (.box (s.c.map .r))), (1, some (.box (empty_.c.map .r)))], nx := 2 }) (fun j => j ≤ L.length) (fun j => L.length - j) 0 (by omega)
        (sub_of [(0, 0), (1, 1)] rfl ⟨Cv.refl _, rfl, rfl, Cv.refl _, Cv.refl _, Cv.refl _, trivial⟩ ⟨cvCells_refl _, cvCells_refl empty_.c, trivial⟩) ?_
      rintro j hj
      refine Vcmp.split (fun h => Vif.t ?_) (fun h => Vif.f ?_)
      · simp only [beq_iff_eq, bne_iff_ne, beq_eq_false_iff_ne, bne_eq_false_iff_eq, decide_eq_true_eq, decide_eq_false_iff_not, Bool.not_eq_true', Bool.not_eq_false', ne_eq] at h
        have hj' : j < L.length := by omega
        have hne : x ≠ L[j] := fun e => by
          rw [← hL, List.any_eq_false] at hc
          exact hc _ (List.getElem_mem hj') (by simp [← e])
        refine Vidx.mk' (by omega) (by omega) (idx_map rfl hj') (Vload1.mk' rfl ?_)
        refine Vcmp.f (by simpa using fun e : L[j] = x => hne e.symm) (Vif.f ?_)
        refine Vint.i64 (m := ((j + 1 : Nat) : Int)) (by omega) (by omega) ?_
        exact ⟨j + 1, hj', by omega, sub_of [(0, 0), (1, 1)] rfl ⟨Cv.refl _, rfl, rfl, Cv.refl _, Cv.refl _, Cv.refl _, trivial⟩ ⟨cvCells_refl _, cvCells_refl empty_.c, trivial⟩⟩
      · refine Vint.i64 rfl (by simp) ?_
        refine Vcmp.t rfl ?_
        refine VloadN.mk' rfl rfl ?_
        refine Vcall.go (hE 0) ?_
        exact Cv.refl _
    | true =>
      have he : shutE s x (shutR s x h0) = (shutR s x h0, 0) := by simp [shutE, hr, hc]
      rw [he] at gs
      refine Vcall.go gs ?_
      refine VloadN.mk' rfl rfl ?_
      refine Vcall.go gr29 ?_
      refine Vcmp.f rfl (Vif.f ?_)
      refine VloadN.mk' rfl rfl ?_
      refine Vcall.go ho29 ?_
      have sm1 : (s.opn.filter fun y => !underI y.at_ x).length ≤ 1000000000 := by
        have := List.length_filter_le (fun y : Spot => !underI y.at_ x) s.opn
        omega
      have sm2 : (shutR s x h0).shut.length ≤ 1000000000 := by
        have h1 := insR_len ⟨x, h0⟩ (s.shut.filter fun y => !underI y.at_ x)
        have h2 := List.length_filter_le (fun y : Stub => !underI y.at_ x) s.shut
        show (insL ⟨x, h0⟩ (s.shut.filter fun y => !underI y.at_ x)).length ≤ 1000000000
        unfold insL
        split
        · omega
        · rw [List.length_append, List.length_singleton]; omega
      have lt : ∀ y ∈ (shutR s x h0).opn, ∀ u ∈ y.node.par.late, i64 u := fun y hy => hi.late y (List.mem_filter.1 hy).1
      have same := g_same19 (shutR s x h0) (shutR s x h0) sm1 sm2 sm1 sm2 lt lt
      simp only [decide_true] at same
      have gsh := g_shut29 s x h0 (by omega) (by omega) (hh hsm hr hc)
      refine Vloop.mk' (fun j : Nat => { F := [(1, .r (I x)), (2, .own 0), (5, .own 1), (6, .r (.i .u8 0)), (7, .r (is L)), (8, .r (I j))], O := [(0, some (.box (s.c.map .r))), (1, some (.box ((shutR s x h0).c.map .r)))], nx := 2 }) (fun j => j ≤ L.length ∧ ∀ y ∈ L.take j, x ≠ y) (fun j => L.length - j) 0 ⟨by omega, by simp⟩
        (sub_of [(0, 0), (1, 1)] rfl ⟨Cv.refl _, rfl, rfl, Cv.refl _, Cv.refl _, Cv.refl _, trivial⟩ ⟨cvCells_refl _, cvCells_refl (shutR s x h0).c, trivial⟩) ?_
      rintro j ⟨hj, hn⟩
      refine Vcmp.split (fun h => Vif.t ?_) (fun h => Vif.f ?_)
      · simp only [beq_iff_eq, bne_iff_ne, beq_eq_false_iff_ne, bne_eq_false_iff_eq, decide_eq_true_eq, decide_eq_false_iff_not, Bool.not_eq_true', Bool.not_eq_false', ne_eq] at h
        have hj' : j < L.length := by omega
        refine Vidx.mk' (by omega) (by omega) (idx_map rfl hj') (Vload1.mk' rfl ?_)
        refine Vcmp.split (fun h2 => Vif.t ?_) (fun h2 => Vif.f ?_)
        · refine Vdraw.mk' (by kernel_rfl) ?_
          refine Vint.i64 rfl (by simp) ?_
          refine Vcmp.t rfl ?_
          refine VloadN.mk' rfl rfl ?_
          refine VloadN.mk' rfl rfl ?_
          refine Vcall.go gsh ?_
          refine Vcall.go same ?_
          exact Cv.refl _
        · simp only [beq_iff_eq, bne_iff_ne, beq_eq_false_iff_ne, bne_eq_false_iff_eq, decide_eq_true_eq, decide_eq_false_iff_not, Bool.not_eq_true', Bool.not_eq_false', ne_eq] at h2
          refine Vint.i64 (m := ((j + 1 : Nat) : Int)) (by omega) (by omega) ?_
          refine ⟨j + 1, ⟨hj', ?_⟩, by omega, sub_of [(0, 0), (1, 1)] rfl ⟨Cv.refl _, rfl, rfl, Cv.refl _, Cv.refl _, Cv.refl _, trivial⟩ ⟨cvCells_refl _, cvCells_refl (shutR s x h0).c, trivial⟩⟩
          rw [List.take_add_one, List.getElem?_eq_getElem hj']
          simp only [Option.toList, List.mem_append, List.mem_cons, List.not_mem_nil, or_false]
          rintro y (hy | rfl)
          · exact hn y hy
          · exact fun e => h2 e.symm
      · simp only [beq_iff_eq, bne_iff_ne, beq_eq_false_iff_ne, bne_eq_false_iff_eq, decide_eq_true_eq, decide_eq_false_iff_not, Bool.not_eq_true', Bool.not_eq_false', ne_eq] at h
        exfalso
        rw [List.take_of_length_le (by omega)] at hn
        rw [← hL, List.any_eq_true] at hc
        obtain ⟨y, hy, e⟩ := hc
        exact hn y hy (by simpa using e)
end Go.Proofs.YtpdllgbfemnemaaGreat.Sx
end

section
namespace Go.Proofs.YtpdllgbfemnemaaGreat.Sx
open Go.RowKit

theorem insR_true (own : Stub) : ∀ (l M : List Stub), l.foldl (insS own) (true, M) = (true, M ++ l)
  | [], M => by simp
  | y :: l, M => by
    rw [List.foldl_cons, show insS own (true, M) y = (true, M ++ [y]) by simp [insS], insR_true own l]
    simp
theorem insR_none (own : Stub) : ∀ (l M : List Stub), (∀ y ∈ l, ¬ own.at_ < y.at_) → l.foldl (insS own) (false, M) = (false, M ++ l)
  | [], M, _ => by simp
  | y :: l, M, h => by
    rw [List.foldl_cons, show insS own (false, M) y = (false, M ++ [y]) by simp [insS, h y (by simp)], insR_none own l _ fun z hz => h z (by simp [hz])]
    simp
theorem insR_some (own y : Stub) (a b : List Stub) (h : ∀ z ∈ a, ¬ own.at_ < z.at_) (hy : own.at_ < y.at_) : insR own (a ++ y :: b) = (true, a ++ own :: y :: b) := by
  unfold insR
  rw [List.foldl_append, insR_none own a _ h, List.foldl_cons, show insS own (false, [] ++ a) y = (true, a ++ [own] ++ [y]) by simp [insS, hy], insR_true]
  simp
theorem idxG_spec {α : Type} (q : α → Bool) : ∀ (l : List α) (j : Nat), (idxG q j l = -1 ∧ ∀ y ∈ l, q y = false) ∨ ∃ a y b, l = a ++ y :: b ∧ idxG q j l = ((j + a.length : Nat) : Int) ∧ q y = true ∧ ∀ z ∈ a, q z = false
  | [], j => .inl ⟨rfl, by simp⟩
  | x :: l, j => by
    cases hx : q x with
    | true => exact .inr ⟨[], x, l, rfl, by simp [idxG, hx], hx, by simp⟩
    | false =>
      rcases idxG_spec q l (j + 1) with ⟨h1, h2⟩ | ⟨a, y, b, rfl, h1, h2, h3⟩
      · refine .inl ⟨by simp [idxG, hx, h1], fun y hy => ?_⟩
        rcases List.mem_cons.1 hy with rfl | hy
        · exact hx
        · exact h2 y hy
      · refine .inr ⟨x :: a, y, b, rfl, ?_, h2, fun z hz => ?_⟩
        · simp only [idxG, hx, Bool.false_eq_true, if_false, h1, List.length_cons]
          omega
        · rcases List.mem_cons.1 hz with rfl | hz
          · exact hx
          · exact h3 z hz
/-- Where the program puts it. -/
def insAt (own : Stub) (F : List Stub) : Nat := if idxG (fun y => decide (own.at_ < y.at_)) 0 F < 0 then F.length else (idxG (fun y => decide (own.at_ < y.at_)) 0 F).toNat
theorem insAt_le (own : Stub) (F : List Stub) : insAt own F ≤ F.length := by
  unfold insAt
  rcases idxG_spec (fun y => decide (own.at_ < y.at_)) F 0 with ⟨h1, _⟩ | ⟨a, y, b, rfl, h1, _⟩
  · rw [h1]; simp
  · rw [h1, if_neg (by omega)]
    simp
theorem insL_eq (own : Stub) (F : List Stub) : F.take (insAt own F) ++ own :: F.drop (insAt own F) = insL own F := by
  unfold insAt insL
  rcases idxG_spec (fun y => decide (own.at_ < y.at_)) F 0 with ⟨h1, h2⟩ | ⟨a, y, b, rfl, h1, h2, h3⟩
  · rw [h1, if_pos (by omega)]
    have : insR own F = (false, F) := by
      have := insR_none own F [] fun y hy => by have := h2 y hy; simpa using this
      simpa [insR] using this
    rw [this]
    simp
  · have h4 := insR_some own y a b (fun z hz => by have := h3 z hz; simpa using this) (by simpa using h2)
    rw [h1, h4, if_neg (by omega)]
    simp
end Go.Proofs.YtpdllgbfemnemaaGreat.Sx
end

section
namespace Go.Proofs.YtpdllgbfemnemaaGreat.Sx
open Go.RowKit

theorem Vstep.thenSub {P : Program} {S : St} {o : Oper} {K : St → Prop} (h : Vstep P S o fun S1 => ∃ S2, Sub S1 S2 ∧ K S2) : Vstep P S o K := by
  obtain ⟨S1, hy, S2, hs, hK⟩ := h
  exact ⟨S2, fun B N a w k Q hs0 hd => Oper.wp_mono (fun a' w' ⟨k', hk'⟩ => hs B N a' w' k' hk') (hy B N a w k Q hs0 hd), hK⟩
end Go.Proofs.YtpdllgbfemnemaaGreat.Sx
end
