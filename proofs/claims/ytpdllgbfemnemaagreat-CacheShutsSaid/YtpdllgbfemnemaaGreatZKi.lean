import Derived.Test.YtpdllgbfemnemaaGreatZKg
section
namespace Go.Proofs.YtpdllgbfemnemaaGreat.Sx
open Go.RowKit

theorem cvChI {ρ : List (Nat × Nat)} {S : St} {e : TypeId} {l m : List Int} (h : l = m) : cvOw ρ S (.ch e 1 l.length (l.map I) true) (.ch e 1 m.length (m.map I) true) := by
  subst h
  exact ⟨rfl, rfl, rfl, rfl, Cvs.refl _⟩
theorem chI_eq {e : TypeId} {l m : List Int} (h : l = m) : some (Ow.ch e 1 l.length (l.map I) true) = some (Ow.ch e 1 m.length (m.map I) true) := by rw [h]
theorem nth_not_take {r : List Int} (hp : r.Pairwise (· < ·)) {j : Nat} (hj : j < r.length) : r[j] ∉ r.take j := by
  intro h
  obtain ⟨i, hi, e⟩ := List.getElem_of_mem h
  rw [List.length_take] at hi
  rw [List.getElem_take] at e
  have := List.pairwise_iff_getElem.1 hp i j (by omega) hj (by omega)
  omega
theorem nth_le_drop {r : List Int} (hp : r.Pairwise (· < ·)) {j : Nat} (hj : j < r.length) {x : Int} (hx : x ∈ r) (hn : x ∉ r.take j) : r[j] ≤ x := by
  obtain ⟨i, hi, rfl⟩ := List.getElem_of_mem hx
  rcases Nat.lt_or_ge i j with h | h
  · exact absurd (List.mem_take_iff_getElem.2 ⟨i, by omega, rfl⟩) hn
  · rcases Nat.eq_or_lt_of_le h with rfl | h
    · exact Int.le_refl _
    · exact Int.le_of_lt (List.pairwise_iff_getElem.1 hp j i hj hi h)
theorem mem_snoc {l : List Int} {i : Nat} (hi : i < l.length) {y : Int} : y ∈ l.take (i + 1) ↔ y ∈ l.take i ∨ y = l[i] := by
  rw [List.take_add_one, List.getElem?_eq_getElem hi]
  simp only [Option.toList, List.mem_append, List.mem_cons, List.not_mem_nil, or_false]

def LeastOf (l out : List Int) (least : Int) : Prop := (least = -1 ∧ ∀ y ∈ l, y ∈ out) ∨ (0 ≤ least ∧ least ∈ l ∧ least ∉ out ∧ ∀ y ∈ l, y ∉ out → least ≤ y)
theorem g_sorted29 (l : List Int) (hl : l.length ≤ 100000000000) (h0 : ∀ x ∈ l, 0 ≤ x) : Gives Tryz.prog 50 [is l] (ich (rise l)) := by
  refine gives_of_vcg (T := Tab) mixed Tab_ok Tryz.func50 rfl (by kernel_rfl) ?_
  obtain ⟨r, hr⟩ : ∃ r, r = rise l := ⟨_, rfl⟩
  have hp : r.Pairwise (· < ·) := hr ▸ rise_pw l
  have hm : ∀ x, x ∈ r ↔ x ∈ l := fun x => hr ▸ mem_rise
  have hrl : r.length ≤ l.length := hr ▸ rise_len l
  rw [← hr]
  refine Vloop.mk' (fun j : Nat => { F := [(0, .r (is l)), (3, .own 0)], O := [(0, some (.ch 3 1 (r.take j).length ((r.take j).map I) true))], nx := 1 }) (fun j => j ≤ r.length) (fun j => r.length - j) 0 (by omega)
    ((sub_adopt 3 3 1 rfl).trans (sub_of [(0, 0)] rfl ⟨Cv.refl _, rfl, trivial⟩ ⟨⟨rfl, rfl, rfl, rfl, Cvs.refl _⟩, trivial⟩)) ?_
  intro j hj
  have hlen : (r.take j).length = j := by rw [List.length_take]; omega
  refine Vcmp.split (fun h => Vif.t ?_) (fun h => Vif.f ?_)
  · simp only [beq_iff_eq, bne_iff_ne, beq_eq_false_iff_ne, bne_eq_false_iff_eq, decide_eq_true_eq, decide_eq_false_iff_not, Bool.not_eq_true', Bool.not_eq_false', ne_eq, hlen] at h
    refine Vloop.mk' (fun i : Nat × Int => { F := [(0, .r (is l)), (3, .own 0), (4, .r (I i.2)), (5, .r (I i.1))], O := [(0, some (.ch 3 1 (r.take j).length ((r.take j).map I) true))], nx := 1 })
      (fun i => i.1 ≤ l.length ∧ LeastOf (l.take i.1) (r.take j) i.2) (fun i => l.length - i.1) (0, -1) ⟨by simp, .inl ⟨rfl, by simp⟩⟩ (sub_of [(0, 0)] rfl ⟨Cv.refl _, rfl, Cv.refl _, Cv.refl _, trivial⟩ ⟨cvChI rfl, trivial⟩) ?_
    rintro ⟨i, least⟩ ⟨hi, hlst⟩
    simp only at hi hlst
    refine Vcmp.split (fun h1 => Vif.t ?_) (fun h1 => Vif.f ?_)
    · simp only [beq_iff_eq, bne_iff_ne, beq_eq_false_iff_ne, bne_eq_false_iff_eq, decide_eq_true_eq, decide_eq_false_iff_not, Bool.not_eq_true', Bool.not_eq_false', ne_eq] at h1
      have hi' : i < l.length := by omega
      have hnn := h0 _ (List.getElem_mem hi')
      have next : ∀ least', LeastOf (l.take (i + 1)) (r.take j) least' → ((i + 1 : Nat), least').1 ≤ l.length ∧ LeastOf (l.take ((i + 1 : Nat), least').1) (r.take j) ((i + 1 : Nat), least').2 := fun _ hh => ⟨hi', hh⟩
      refine Vidx.mk' (by omega) (by omega) (idx_map rfl hi') (Vload1.mk' rfl ?_)
      refine Vcall.bool (g_has29 (r.take j) l[i] (by omega)) (fun hh => ?_) (fun hh => ?_)
      · simp only [beq_iff_eq, bne_iff_ne, beq_eq_false_iff_ne, bne_eq_false_iff_eq, decide_eq_true_eq, decide_eq_false_iff_not, Bool.not_eq_true', Bool.not_eq_false', ne_eq] at hh
        refine Vcmp.f rfl (Vif.f ?_)
        refine Vint.i64 (m := ((i + 1 : Nat) : Int)) (by omega) (by omega) ?_
        refine ⟨(i + 1, least), next _ ?_, by simp only; omega, sub_of [(0, 0)] rfl ⟨Cv.refl _, rfl, Cv.refl _, Cv.refl _, trivial⟩ ⟨cvChI rfl, trivial⟩⟩
        rcases hlst with ⟨e, ha⟩ | ⟨a1, a2, a3, a4⟩
        · refine .inl ⟨e, fun y hy => ?_⟩
          rcases (mem_snoc hi').1 hy with hy | rfl
          · exact ha y hy
          · exact hh
        · refine .inr ⟨a1, (mem_snoc hi').2 (.inl a2), a3, fun y hy hn => ?_⟩
          rcases (mem_snoc hi').1 hy with hy | rfl
          · exact a4 y hy hn
          · exact absurd hh hn
      · simp only [beq_iff_eq, bne_iff_ne, beq_eq_false_iff_ne, bne_eq_false_iff_eq, decide_eq_true_eq, decide_eq_false_iff_not, Bool.not_eq_true', Bool.not_eq_false', ne_eq] at hh
        refine Vcmp.t rfl ?_
        refine Vcmp.split (fun h2 => Vif.t ?_) (fun h2 => ?_)
        · simp only [beq_iff_eq, bne_iff_ne, beq_eq_false_iff_ne, bne_eq_false_iff_eq, decide_eq_true_eq, decide_eq_false_iff_not, Bool.not_eq_true', Bool.not_eq_false', ne_eq] at h2
          refine Vidx.mk' (by omega) (by omega) (idx_map rfl hi') (Vload1.mk' rfl ?_)
          refine Vint.i64 (m := ((i + 1 : Nat) : Int)) (by omega) (by omega) ?_
          refine ⟨(i + 1, l[i]), next _ ?_, by simp only; omega, sub_of [(0, 0)] rfl ⟨Cv.refl _, rfl, Cv.refl _, Cv.refl _, trivial⟩ ⟨cvChI rfl, trivial⟩⟩
          rcases hlst with ⟨e, ha⟩ | ⟨a1, a2, a3, a4⟩
          · refine .inr ⟨hnn, (mem_snoc hi').2 (.inr rfl), hh, fun y hy hn => ?_⟩
            rcases (mem_snoc hi').1 hy with hy | rfl
            · exact absurd (ha y hy) hn
            · exact Int.le_refl _
          · omega
        · simp only [beq_iff_eq, bne_iff_ne, beq_eq_false_iff_ne, bne_eq_false_iff_eq, decide_eq_true_eq, decide_eq_false_iff_not, Bool.not_eq_true', Bool.not_eq_false', ne_eq] at h2
          refine Vidx.mk' (by omega) (by omega) (idx_map rfl hi') (Vload1.mk' rfl ?_)
          rcases hlst with ⟨e, ha⟩ | ⟨a1, a2, a3, a4⟩
          · omega
          · refine Vcmp.split (fun h3 => Vif.t ?_) (fun h3 => Vif.f ?_)
            · simp only [beq_iff_eq, bne_iff_ne, beq_eq_false_iff_ne, bne_eq_false_iff_eq, decide_eq_true_eq, decide_eq_false_iff_not, Bool.not_eq_true', Bool.not_eq_false', ne_eq] at h3
              refine Vidx.mk' (by omega) (by omega) (idx_map rfl hi') (Vload1.mk' rfl ?_)
              refine Vint.i64 (m := ((i + 1 : Nat) : Int)) (by omega) (by omega) ?_
              refine ⟨(i + 1, l[i]), next _ (.inr ⟨hnn, (mem_snoc hi').2 (.inr rfl), hh, fun y hy hn => ?_⟩), by simp only; omega, sub_of [(0, 0)] rfl ⟨Cv.refl _, rfl, Cv.refl _, Cv.refl _, trivial⟩ ⟨cvChI rfl, trivial⟩⟩
              rcases (mem_snoc hi').1 hy with hy | rfl
              · have := a4 y hy hn; omega
              · exact Int.le_refl _
            · simp only [beq_iff_eq, bne_iff_ne, beq_eq_false_iff_ne, bne_eq_false_iff_eq, decide_eq_true_eq, decide_eq_false_iff_not, Bool.not_eq_true', Bool.not_eq_false', ne_eq] at h3
              refine Vint.i64 (m := ((i + 1 : Nat) : Int)) (by omega) (by omega) ?_
              refine ⟨(i + 1, least), next _ (.inr ⟨a1, (mem_snoc hi').2 (.inl a2), a3, fun y hy hn => ?_⟩), by simp only; omega, sub_of [(0, 0)] rfl ⟨Cv.refl _, rfl, Cv.refl _, Cv.refl _, trivial⟩ ⟨cvChI rfl, trivial⟩⟩
              rcases (mem_snoc hi').1 hy with hy | rfl
              · exact a4 y hy hn
              · omega
    · simp only [beq_iff_eq, bne_iff_ne, beq_eq_false_iff_ne, bne_eq_false_iff_eq, decide_eq_true_eq, decide_eq_false_iff_not, Bool.not_eq_true', Bool.not_eq_false', ne_eq] at h1
      rw [List.take_of_length_le (by omega)] at hlst
      refine Vcmp.split (fun h2 => Vif.t ?_) (fun h2 => Vif.f ?_)
      · simp only [beq_iff_eq, bne_iff_ne, beq_eq_false_iff_ne, bne_eq_false_iff_eq, decide_eq_true_eq, decide_eq_false_iff_not, Bool.not_eq_true', Bool.not_eq_false', ne_eq] at h2
        rcases hlst with ⟨e, ha⟩ | ⟨a1, _⟩
        · refine chI_eq ?_
          rcases Nat.lt_or_ge j r.length with hlt | hge
          · exact absurd (ha _ ((hm _).1 (List.getElem_mem hlt))) (nth_not_take hp hlt)
          · exact List.take_of_length_le hge
        · omega
      · simp only [beq_iff_eq, bne_iff_ne, beq_eq_false_iff_ne, bne_eq_false_iff_eq, decide_eq_true_eq, decide_eq_false_iff_not, Bool.not_eq_true', Bool.not_eq_false', ne_eq] at h2
        rcases hlst with ⟨e, ha⟩ | ⟨a1, a2, a3, a4⟩
        · omega
        · have hlt : j < r.length := by
            rcases Nat.lt_or_ge j r.length with h | h
            · exact h
            · rw [List.take_of_length_le h] at a3
              exact absurd ((hm _).2 a2) a3
          have e1 := nth_le_drop hp hlt ((hm _).2 a2) a3
          have e2 := a4 _ ((hm _).1 (List.getElem_mem hlt)) (nth_not_take hp hlt)
          have e3 : least = r[j] := by omega
          have e4 : r.take (j + 1) = r.take j ++ [least] := by
            rw [List.take_add_one, List.getElem?_eq_getElem hlt, e3]; rfl
          refine Vpub.pub ?_
          refine Vapp.mk' (j := (r.take (j + 1)).length) (zs := (r.take (j + 1)).map I) (by simp [maxLen]; omega) (by simp; omega) (by rw [e4]; simp) (by rw [e4]; simp [fillR, cellsOf]) ?_
          exact ⟨j + 1, hlt, by omega, sub_of [(0, 2)] rfl ⟨Cv.refl _, rfl, trivial⟩ ⟨cvChI rfl, trivial⟩⟩
  · simp only [beq_iff_eq, bne_iff_ne, beq_eq_false_iff_ne, bne_eq_false_iff_eq, decide_eq_true_eq, decide_eq_false_iff_not, Bool.not_eq_true', Bool.not_eq_false', ne_eq, hlen] at h
    exact chI_eq (List.take_of_length_le (by omega))
end Go.Proofs.YtpdllgbfemnemaaGreat.Sx
end

section
namespace Go.Proofs.YtpdllgbfemnemaaGreat.Sx
open Go.RowKit

def bss (ls : List (List UInt8)) : RV := .sl 1 ls.length (ls.map bs)
theorem pa_list {w : World} {k : Kp} : ∀ {ls : List (List UInt8)} {us : List Value}, RV.listAt w k (ls.map bs) us → ∃ ps : List (AC × List UInt8), ps.map (·.2) = ls ∧ us = ps.map slv ∧ ∀ q ∈ ps, By w (fun _ => True) q.1 q.2
  | [], us, h => by simp only [List.map_nil, RV.listAt] at h; exact ⟨[], rfl, h, by simp⟩
  | l :: ls, us, h => by
    simp only [List.map_cons, RV.listAt] at h
    obtain ⟨u, r, rfl, _, h1, h2⟩ := h
    obtain ⟨p, rfl, hp⟩ := by_in h1
    obtain ⟨ps, e1, e2, e3⟩ := pa_list h2
    refine ⟨(p, l) :: ps, by simp [e1], by simp [e2, slv], fun q hq => ?_⟩
    rcases List.mem_cons.1 hq with rfl | hq
    · exact hp
    · exact e3 q hq
theorem g_sha (ls : List (List UInt8)) (hl : (ls.flatMap id).length ≤ 100000000000) : Gives Tryz.prog 92 [bss ls] (bch (shaB (ls.flatMap id))) :=
  gives_old (known_of Tryz.func92 rfl (by kernel_rfl)) fun w k vs hp => by
    obtain ⟨a, rfl, h1⟩ := parts1 hp
    simp only [bss, RV.at_] at h1
    obtain ⟨p, c, rfl, c1, c2, c3, c4⟩ := h1
    have key : ∃ ps : List (AC × List UInt8), ps.map (·.2) = ls ∧ Pa w ⟨p, c⟩ ps := by
      rcases Nat.eq_zero_or_pos ls.length with h0 | hpos
      · obtain rfl := List.eq_nil_of_length_eq_zero h0
        exact ⟨[], rfl, ⟨by simp, by simp, c2, fun h => by simp at h⟩, by simp⟩
      · obtain ⟨b, o, rfl, hb, hc⟩ := c4 hpos
        obtain ⟨us, q1, q2, q3⟩ := RV.cells_list _ _ hc
        obtain ⟨ps, e1, e2, e3⟩ := pa_list q1
        have hlen : ps.length = ls.length := by rw [← e1]; simp
        exact ⟨ps, e1, ⟨by simp, by rw [hlen]; exact c1, c2, fun _ => ⟨b, o, rfl, trivial, hb, fun j u hu => q3 j u (by rw [e2]; exact hu)⟩⟩, e3⟩
    obtain ⟨ps, e1, hpa⟩ := key
    have hcat : catB ps = ls.flatMap id := by rw [← e1]; simp [catB, List.flatMap_map]
    have hlen : ps.length = ls.length := by rw [← e1]; simp
    have := of_sha_any ⟨p, c⟩ ps w hpa (by rw [hcat]; exact hl)
    rw [hlen] at this
    refine this.mono fun _ _ ⟨v, he, hx, _, hv⟩ => ⟨v, he, hx, ?_⟩
    rw [hcat] at hv
    exact by_out hv
end Go.Proofs.YtpdllgbfemnemaaGreat.Sx
end
