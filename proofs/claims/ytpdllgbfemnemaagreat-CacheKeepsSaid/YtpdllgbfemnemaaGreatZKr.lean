import Derived.Test.YtpdllgbfemnemaaGreatZKq
namespace Go.Proofs.YtpdllgbfemnemaaGreat.Sx
open Go.RowKit

def upL (n u : Int) : List Int := 2 * u :: pathI (2 * u) n
def wstep (O : List Spot) (x : Int) (a : List Int × Bool) (z : Int) : List Int × Bool := if z ≠ x ∧ underI z x = true ∧ z ∉ a.1 then (a.1 ++ [z], a.2 && (findS O z).isSome) else a
def wfold (O : List Spot) (x n : Int) (late : List Int) (a : List Int × Bool) : List Int × Bool := late.foldl (fun a u => (upL n u).foldl (wstep O x) a) a
def wholeW (O : List Spot) (n : Int) : Nat → Nat → List Int × Bool
  | 0, k => match findS O (nd 0 k) with
    | none => ([], false)
    | some y => wfold O (nd 0 k) n y.par.late ([(nd 0 k : Int)], true)
  | h + 1, k => match findS O (nd (h + 1) k) with
    | none => ([], false)
    | some y => if y.kind.toNat = 0 then ([(nd (h + 1) k : Int)] ++ (wholeW O n h (2 * k)).1 ++ (wholeW O n h (2 * k + 1)).1, (wholeW O n h (2 * k)).2 && (wholeW O n h (2 * k + 1)).2)
      else wfold O (nd (h + 1) k) n y.par.late ([(nd (h + 1) k : Int)], true)
theorem foldl_snoc {α β : Type} {f : β → α → β} {b : β} {l : List α} {j : Nat} (hj : j < l.length) : (l.take (j + 1)).foldl f b = f ((l.take j).foldl f b) l[j] := by
  rw [List.take_add_one, List.getElem?_eq_getElem hj, List.foldl_append]; rfl
theorem upL_len (n u : Int) : (upL n u).length ≤ 18 := by
  have := pathI_len (2 * u) n
  simp [upL]; omega
theorem Vcv.b {b c : Bool} (h : b = c) : Cv (.b b) (.b c) := Cv.of_eq (by rw [h])

theorem g_whole_late (O : List Spot) (hO : O.length ≤ 1000000) (x n : Int) (y : Node) (hy : findS O x = some y) (hk : ¬ (y.kind.toNat = 0 ∧ x.tmod 2 = 1)) (hl : y.par.late.length ≤ 1000) (hd : ∀ u ∈ y.par.late, lateD u) :
    Gives Tryz.prog 48 [spots O, I x, I n] (.r (.tu [is (wfold O x n y.par.late ([x], true)).1, .b (wfold O x n y.par.late ([x], true)).2])) := by
  refine gives_of_vcg (T := Tab) mixed Tab_ok Tryz.func48 rfl (by kernel_rfl) ?_
  have hfind := g_find O x (by omega)
  rw [hy] at hfind
  refine Vcall.go hfind ?_
  refine Vcmp.f rfl (Vif.f ?_)
  refine Vpub.pub ?_
  refine Vcmp.split (fun h0 => ?_) (fun h0 => Vif.f ?_)
  · simp only [beq_iff_eq, bne_iff_ne, beq_eq_false_iff_ne, bne_eq_false_iff_eq, decide_eq_true_eq, decide_eq_false_iff_not, Bool.not_eq_true', Bool.not_eq_false', ne_eq] at h0
    refine ⟨by decide, _, rfl, ?_⟩
    have hodd : ¬ x.tmod 2 = 1 := fun e => hk ⟨by omega, e⟩
    refine Vcmp.f (by simp only [beq_iff_eq, bne_iff_ne, beq_eq_false_iff_ne, bne_eq_false_iff_eq, decide_eq_true_eq, decide_eq_false_iff_not, Bool.not_eq_true', Bool.not_eq_false', ne_eq]; exact hodd) (Vif.f ?_)
    refine Vloop.mk' (fun i : Nat × List Int × Bool => { F := [(0, .r (spots O)), (1, .r (I x)), (2, .r (I n)), (8, .own 0), (9, .r (.b i.2.2)), (10, .own 1), (17, .r (I i.1))], O := [(0, some (.box (y.c.map .r))), (1, some (.ch 3 1 i.2.1.length (i.2.1.map I) true))], nx := 2 })
      (fun i => i.1 ≤ y.par.late.length ∧ wfold O x n (y.par.late.take i.1) ([x], true) = (i.2.1, i.2.2) ∧ i.2.1.length ≤ 1 + 18 * i.1) (fun i => y.par.late.length - i.1) (0, [x], true) ⟨by simp, rfl, by simp⟩
      (sub_of [(0, 0), (1, 1)] rfl ⟨Cv.refl _, Cv.refl _, Cv.refl _, rfl, Cv.refl _, rfl, Cv.refl _, trivial⟩ ⟨cvCells_refl y.c, ⟨rfl, rfl, rfl, rfl, Cvs.refl _⟩, trivial⟩) ?_
    rintro ⟨i, out0, ok0⟩ ⟨hi, hacc0, hlen0⟩
    simp only at hi hacc0 hlen0
    refine Vcmp.split (fun h1 => Vif.t ?_) (fun h1 => Vif.f ?_)
    · simp only [beq_iff_eq, bne_iff_ne, beq_eq_false_iff_ne, bne_eq_false_iff_eq, decide_eq_true_eq, decide_eq_false_iff_not, Bool.not_eq_true', Bool.not_eq_false', ne_eq] at h1
      have hi' : i < y.par.late.length := by omega
      have hu := hd _ (List.getElem_mem hi')
      unfold lateD at hu
      refine Vidx.mk' (by omega) (by omega) (idx_map rfl hi') (Vload1.mk' rfl ?_)
      refine Vint.i64 rfl (by omega) ?_
      refine Vpub.pub ?_
      refine Vcall.go (g_path14 _ _) ?_
      obtain ⟨u, hue⟩ : ∃ u, u = y.par.late[i] := ⟨_, rfl⟩
      have hul := upL_len n u
      refine Vapp.mk' (j := (upL n u).length) (zs := (upL n u).map I) (by rw [← hue]; simp only [upL, List.length_cons, maxLen] at *; omega) (by rw [← hue]; simp only [upL, List.length_cons] at *; omega) (by rw [← hue]; simp only [upL, List.length_cons]; omega) (by rw [← hue]; rfl) ?_
      refine Vloop.mk' (fun q : Nat × List Int × Bool => { F := [(0, .r (spots O)), (1, .r (I x)), (2, .r (I n)), (8, .own 0), (9, .r (.b q.2.2)), (10, .own 1), (17, .r (I i)), (19, .r (is (upL n u))), (20, .r (I q.1))], O := [(0, some (.box (y.c.map .r))), (1, some (.ch 3 1 q.2.1.length (q.2.1.map I) true))], nx := 2 })
        (fun q => q.1 ≤ (upL n u).length ∧ ((upL n u).take q.1).foldl (wstep O x) (out0, ok0) = (q.2.1, q.2.2) ∧ q.2.1.length ≤ 1 + 18 * i + q.1) (fun q => (upL n u).length - q.1) (0, out0, ok0) ⟨by simp, rfl, by simp only; omega⟩
        (sub_of [(0, 0), (1, 1)] rfl ⟨Cv.refl _, Cv.refl _, Cv.refl _, rfl, Cv.refl _, rfl, Cv.refl _, Cv.refl _, Cv.refl _, trivial⟩ ⟨cvCells_refl y.c, cvChI rfl, trivial⟩) ?_
      rintro ⟨j, out, ok⟩ ⟨hj, hacc, hlen⟩
      simp only at hj hacc hlen
      refine Vcmp.split (fun h2 => Vif.t ?_) (fun h2 => Vif.f ?_)
      · simp only [beq_iff_eq, bne_iff_ne, beq_eq_false_iff_ne, bne_eq_false_iff_eq, decide_eq_true_eq, decide_eq_false_iff_not, Bool.not_eq_true', Bool.not_eq_false', ne_eq] at h2
        have hj' : j < (upL n u).length := by omega
        have hsn := foldl_snoc (f := wstep O x) (b := (out0, ok0)) hj'
        rw [hacc] at hsn
        obtain ⟨z, hz⟩ : ∃ z, z = (upL n u)[j] := ⟨_, rfl⟩
        rw [← hz] at hsn
        refine Vidx.mk' (by omega) (by omega) (idx_map rfl hj') (Vload1.mk' rfl ?_)
        rw [← hz]
        refine Vcmp.split (fun h3 => ?_) (fun h3 => Vif.f ?_)
        · simp only [beq_iff_eq, bne_iff_ne, beq_eq_false_iff_ne, bne_eq_false_iff_eq, decide_eq_true_eq, decide_eq_false_iff_not, Bool.not_eq_true', Bool.not_eq_false', ne_eq] at h3
          refine Vidx.mk' (by omega) (by omega) (idx_map rfl hj') (Vload1.mk' rfl ?_)
          rw [← hz]
          refine Vcall.bool (g_under14 z x) (fun h4 => ?_) (fun h4 => Vif.f ?_)
          · refine Vidx.mk' (by omega) (by omega) (idx_map rfl hj') (Vload1.mk' rfl ?_)
            rw [← hz]
            refine Vcall.bool (g_has19 out z (by omega)) (fun h5 => Vcmp.f rfl (Vif.f ?_)) (fun h5 => Vcmp.t rfl (Vif.t ?_))
            · simp only [beq_iff_eq, bne_iff_ne, beq_eq_false_iff_ne, bne_eq_false_iff_eq, decide_eq_true_eq, decide_eq_false_iff_not, Bool.not_eq_true', Bool.not_eq_false', ne_eq] at h5
              refine Vint.i64 (m := ((j + 1 : Nat) : Int)) (by omega) (by omega) ?_
              exact ⟨(j + 1, out, ok), ⟨hj', by rw [hsn]; simp only [wstep]; rw [if_neg (fun h => h.2.2 h5)], by simp only; omega⟩, by simp only; omega, sub_of [(0, 0), (1, 1)] rfl ⟨Cv.refl _, Cv.refl _, Cv.refl _, rfl, Cv.refl _, rfl, Cv.refl _, Cv.refl _, Cv.refl _, trivial⟩ ⟨cvCells_refl y.c, cvChI rfl, trivial⟩⟩
            · simp only [beq_iff_eq, bne_iff_ne, beq_eq_false_iff_ne, bne_eq_false_iff_eq, decide_eq_true_eq, decide_eq_false_iff_not, Bool.not_eq_true', Bool.not_eq_false', ne_eq] at h5
              have hst : wstep O x (out, ok) z = (out ++ [z], ok && (findS O z).isSome) := by simp only [wstep]; rw [if_pos ⟨h3, h4, h5⟩]
              rw [hst] at hsn
              refine Vidx.mk' (by omega) (by omega) (idx_map rfl hj') (Vload1.mk' rfl ?_)
              rw [← hz]
              refine Vpub.pub ?_
              refine Vapp.mk' (j := (out ++ [z]).length) (zs := (out ++ [z]).map I) (by simp only [maxLen]; omega) (by simp; omega) (by simp) (by simp [fillR, cellsOf]) ?_
              refine Vidx.mk' (by omega) (by omega) (idx_map rfl hj') (Vload1.mk' rfl ?_)
              rw [← hz]
              refine Vcall.go (g_find O z (by omega)) ?_
              have hle : (out ++ [z]).length ≤ 1 + 18 * i + (j + 1) := by simp; omega
              cases hfz : findS O z with
              | none =>
                rw [hfz] at hsn
                cases ok with
                | false =>
                  refine Vint.i64 (m := ((j + 1 : Nat) : Int)) (by omega) (by omega) ?_
                  exact ⟨(j + 1, out ++ [z], false), ⟨hj', hsn, hle⟩, by simp only; omega, sub_of [(0, 0), (1, _)] rfl ⟨Cv.refl _, Cv.refl _, Cv.refl _, rfl, Cv.refl _, rfl, Cv.refl _, Cv.refl _, Cv.refl _, trivial⟩ ⟨cvCells_refl y.c, cvChI rfl, trivial⟩⟩
                | true =>
                  refine Vint.i64 (m := ((j + 1 : Nat) : Int)) (by omega) (by omega) ?_
                  exact ⟨(j + 1, out ++ [z], false), ⟨hj', hsn, hle⟩, by simp only; omega, sub_of [(0, 0), (1, _)] rfl ⟨Cv.refl _, Cv.refl _, Cv.refl _, rfl, Cv.refl _, rfl, Cv.refl _, Cv.refl _, Cv.refl _, trivial⟩ ⟨cvCells_refl y.c, cvChI rfl, trivial⟩⟩
              | some m =>
                rw [hfz] at hsn
                cases ok with
                | false =>
                  refine Vint.i64 (m := ((j + 1 : Nat) : Int)) (by omega) (by omega) ?_
                  exact ⟨(j + 1, out ++ [z], false), ⟨hj', hsn, hle⟩, by simp only; omega, sub_of [(0, 0), (1, _)] rfl ⟨Cv.refl _, Cv.refl _, Cv.refl _, rfl, Cv.refl _, rfl, Cv.refl _, Cv.refl _, Cv.refl _, trivial⟩ ⟨cvCells_refl y.c, cvChI rfl, trivial⟩⟩
                | true =>
                  refine Vint.i64 (m := ((j + 1 : Nat) : Int)) (by omega) (by omega) ?_
                  exact ⟨(j + 1, out ++ [z], true), ⟨hj', hsn, hle⟩, by simp only; omega, sub_of [(0, 0), (1, _)] rfl ⟨Cv.refl _, Cv.refl _, Cv.refl _, rfl, Cv.refl _, rfl, Cv.refl _, Cv.refl _, Cv.refl _, trivial⟩ ⟨cvCells_refl y.c, cvChI rfl, trivial⟩⟩
          · refine Vint.i64 (m := ((j + 1 : Nat) : Int)) (by omega) (by omega) ?_
            exact ⟨(j + 1, out, ok), ⟨hj', by rw [hsn]; simp only [wstep]; rw [if_neg (fun h => by rw [h4] at h; cases h.2.1)], by simp only; omega⟩, by simp only; omega, sub_of [(0, 0), (1, 1)] rfl ⟨Cv.refl _, Cv.refl _, Cv.refl _, rfl, Cv.refl _, rfl, Cv.refl _, Cv.refl _, Cv.refl _, trivial⟩ ⟨cvCells_refl y.c, cvChI rfl, trivial⟩⟩
        · simp only [beq_iff_eq, bne_iff_ne, beq_eq_false_iff_ne, bne_eq_false_iff_eq, decide_eq_true_eq, decide_eq_false_iff_not, Bool.not_eq_true', Bool.not_eq_false', ne_eq] at h3
          refine Vint.i64 (m := ((j + 1 : Nat) : Int)) (by omega) (by omega) ?_
          exact ⟨(j + 1, out, ok), ⟨hj', by rw [hsn]; simp only [wstep]; rw [if_neg (fun h => h.1 h3)], by simp only; omega⟩, by simp only; omega, sub_of [(0, 0), (1, 1)] rfl ⟨Cv.refl _, Cv.refl _, Cv.refl _, rfl, Cv.refl _, rfl, Cv.refl _, Cv.refl _, Cv.refl _, trivial⟩ ⟨cvCells_refl y.c, cvChI rfl, trivial⟩⟩
      · simp only [beq_iff_eq, bne_iff_ne, beq_eq_false_iff_ne, bne_eq_false_iff_eq, decide_eq_true_eq, decide_eq_false_iff_not, Bool.not_eq_true', Bool.not_eq_false', ne_eq] at h2
        rw [List.take_of_length_le (by omega)] at hacc
        have hsn := foldl_snoc (f := fun a u => (upL n u).foldl (wstep O x) a) (b := ([x], true)) hi'
        have hacc0' : (y.par.late.take i).foldl (fun a u => (upL n u).foldl (wstep O x) a) ([x], true) = (out0, ok0) := hacc0
        rw [hacc0', ← hue, hacc] at hsn
        refine Vint.i64 (m := ((i + 1 : Nat) : Int)) (by omega) (by omega) ?_
        exact ⟨(i + 1, out, ok), ⟨hi', hsn, by simp only; omega⟩, by simp only; omega, sub_of [(0, 0), (1, 1)] rfl ⟨Cv.refl _, Cv.refl _, Cv.refl _, rfl, Cv.refl _, rfl, Cv.refl _, trivial⟩ ⟨cvCells_refl y.c, cvChI rfl, trivial⟩⟩
    · simp only [beq_iff_eq, bne_iff_ne, beq_eq_false_iff_ne, bne_eq_false_iff_eq, decide_eq_true_eq, decide_eq_false_iff_not, Bool.not_eq_true', Bool.not_eq_false', ne_eq] at h1
      rw [List.take_of_length_le (by omega)] at hacc0
      rw [hacc0]
      exact ⟨_, rfl, Cv.refl _⟩
  · refine Vloop.mk' (fun i : Nat × List Int × Bool => { F := [(0, .r (spots O)), (1, .r (I x)), (2, .r (I n)), (8, .own 0), (9, .r (.b i.2.2)), (10, .own 1), (17, .r (I i.1))], O := [(0, some (.box (y.c.map .r))), (1, some (.ch 3 1 i.2.1.length (i.2.1.map I) true))], nx := 2 })
      (fun i => i.1 ≤ y.par.late.length ∧ wfold O x n (y.par.late.take i.1) ([x], true) = (i.2.1, i.2.2) ∧ i.2.1.length ≤ 1 + 18 * i.1) (fun i => y.par.late.length - i.1) (0, [x], true) ⟨by simp, rfl, by simp⟩
      (sub_of [(0, 0), (1, 1)] rfl ⟨Cv.refl _, Cv.refl _, Cv.refl _, rfl, Cv.refl _, rfl, Cv.refl _, trivial⟩ ⟨cvCells_refl y.c, ⟨rfl, rfl, rfl, rfl, Cvs.refl _⟩, trivial⟩) ?_
    rintro ⟨i, out0, ok0⟩ ⟨hi, hacc0, hlen0⟩
    simp only at hi hacc0 hlen0
    refine Vcmp.split (fun h1 => Vif.t ?_) (fun h1 => Vif.f ?_)
    · simp only [beq_iff_eq, bne_iff_ne, beq_eq_false_iff_ne, bne_eq_false_iff_eq, decide_eq_true_eq, decide_eq_false_iff_not, Bool.not_eq_true', Bool.not_eq_false', ne_eq] at h1
      have hi' : i < y.par.late.length := by omega
      have hu := hd _ (List.getElem_mem hi')
      unfold lateD at hu
      refine Vidx.mk' (by omega) (by omega) (idx_map rfl hi') (Vload1.mk' rfl ?_)
      refine Vint.i64 rfl (by omega) ?_
      refine Vpub.pub ?_
      refine Vcall.go (g_path14 _ _) ?_
      obtain ⟨u, hue⟩ : ∃ u, u = y.par.late[i] := ⟨_, rfl⟩
      have hul := upL_len n u
      refine Vapp.mk' (j := (upL n u).length) (zs := (upL n u).map I) (by rw [← hue]; simp only [upL, List.length_cons, maxLen] at *; omega) (by rw [← hue]; simp only [upL, List.length_cons] at *; omega) (by rw [← hue]; simp only [upL, List.length_cons]; omega) (by rw [← hue]; rfl) ?_
      refine Vloop.mk' (fun q : Nat × List Int × Bool => { F := [(0, .r (spots O)), (1, .r (I x)), (2, .r (I n)), (8, .own 0), (9, .r (.b q.2.2)), (10, .own 1), (17, .r (I i)), (19, .r (is (upL n u))), (20, .r (I q.1))], O := [(0, some (.box (y.c.map .r))), (1, some (.ch 3 1 q.2.1.length (q.2.1.map I) true))], nx := 2 })
        (fun q => q.1 ≤ (upL n u).length ∧ ((upL n u).take q.1).foldl (wstep O x) (out0, ok0) = (q.2.1, q.2.2) ∧ q.2.1.length ≤ 1 + 18 * i + q.1) (fun q => (upL n u).length - q.1) (0, out0, ok0) ⟨by simp, rfl, by simp only; omega⟩
        (sub_of [(0, 0), (1, 1)] rfl ⟨Cv.refl _, Cv.refl _, Cv.refl _, rfl, Cv.refl _, rfl, Cv.refl _, Cv.refl _, Cv.refl _, trivial⟩ ⟨cvCells_refl y.c, cvChI rfl, trivial⟩) ?_
      rintro ⟨j, out, ok⟩ ⟨hj, hacc, hlen⟩
      simp only at hj hacc hlen
      refine Vcmp.split (fun h2 => Vif.t ?_) (fun h2 => Vif.f ?_)
      · simp only [beq_iff_eq, bne_iff_ne, beq_eq_false_iff_ne, bne_eq_false_iff_eq, decide_eq_true_eq, decide_eq_false_iff_not, Bool.not_eq_true', Bool.not_eq_false', ne_eq] at h2
        have hj' : j < (upL n u).length := by omega
        have hsn := foldl_snoc (f := wstep O x) (b := (out0, ok0)) hj'
        rw [hacc] at hsn
        obtain ⟨z, hz⟩ : ∃ z, z = (upL n u)[j] := ⟨_, rfl⟩
        rw [← hz] at hsn
        refine Vidx.mk' (by omega) (by omega) (idx_map rfl hj') (Vload1.mk' rfl ?_)
        rw [← hz]
        refine Vcmp.split (fun h3 => ?_) (fun h3 => Vif.f ?_)
        · simp only [beq_iff_eq, bne_iff_ne, beq_eq_false_iff_ne, bne_eq_false_iff_eq, decide_eq_true_eq, decide_eq_false_iff_not, Bool.not_eq_true', Bool.not_eq_false', ne_eq] at h3
          refine Vidx.mk' (by omega) (by omega) (idx_map rfl hj') (Vload1.mk' rfl ?_)
          rw [← hz]
          refine Vcall.bool (g_under14 z x) (fun h4 => ?_) (fun h4 => Vif.f ?_)
          · refine Vidx.mk' (by omega) (by omega) (idx_map rfl hj') (Vload1.mk' rfl ?_)
            rw [← hz]
            refine Vcall.bool (g_has19 out z (by omega)) (fun h5 => Vcmp.f rfl (Vif.f ?_)) (fun h5 => Vcmp.t rfl (Vif.t ?_))
            · simp only [beq_iff_eq, bne_iff_ne, beq_eq_false_iff_ne, bne_eq_false_iff_eq, decide_eq_true_eq, decide_eq_false_iff_not, Bool.not_eq_true', Bool.not_eq_false', ne_eq] at h5
              refine Vint.i64 (m := ((j + 1 : Nat) : Int)) (by omega) (by omega) ?_
              exact ⟨(j + 1, out, ok), ⟨hj', by rw [hsn]; simp only [wstep]; rw [if_neg (fun h => h.2.2 h5)], by simp only; omega⟩, by simp only; omega, sub_of [(0, 0), (1, 1)] rfl ⟨Cv.refl _, Cv.refl _, Cv.refl _, rfl, Cv.refl _, rfl, Cv.refl _, Cv.refl _, Cv.refl _, trivial⟩ ⟨cvCells_refl y.c, cvChI rfl, trivial⟩⟩
            · simp only [beq_iff_eq, bne_iff_ne, beq_eq_false_iff_ne, bne_eq_false_iff_eq, decide_eq_true_eq, decide_eq_false_iff_not, Bool.not_eq_true', Bool.not_eq_false', ne_eq] at h5
              have hst : wstep O x (out, ok) z = (out ++ [z], ok && (findS O z).isSome) := by simp only [wstep]; rw [if_pos ⟨h3, h4, h5⟩]
              rw [hst] at hsn
              refine Vidx.mk' (by omega) (by omega) (idx_map rfl hj') (Vload1.mk' rfl ?_)
              rw [← hz]
              refine Vpub.pub ?_
              refine Vapp.mk' (j := (out ++ [z]).length) (zs := (out ++ [z]).map I) (by simp only [maxLen]; omega) (by simp; omega) (by simp) (by simp [fillR, cellsOf]) ?_
              refine Vidx.mk' (by omega) (by omega) (idx_map rfl hj') (Vload1.mk' rfl ?_)
              rw [← hz]
              refine Vcall.go (g_find O z (by omega)) ?_
              have hle : (out ++ [z]).length ≤ 1 + 18 * i + (j + 1) := by simp; omega
              cases hfz : findS O z with
              | none =>
                rw [hfz] at hsn
                cases ok with
                | false =>
                  refine Vint.i64 (m := ((j + 1 : Nat) : Int)) (by omega) (by omega) ?_
                  exact ⟨(j + 1, out ++ [z], false), ⟨hj', hsn, hle⟩, by simp only; omega, sub_of [(0, 0), (1, _)] rfl ⟨Cv.refl _, Cv.refl _, Cv.refl _, rfl, Cv.refl _, rfl, Cv.refl _, Cv.refl _, Cv.refl _, trivial⟩ ⟨cvCells_refl y.c, cvChI rfl, trivial⟩⟩
                | true =>
                  refine Vint.i64 (m := ((j + 1 : Nat) : Int)) (by omega) (by omega) ?_
                  exact ⟨(j + 1, out ++ [z], false), ⟨hj', hsn, hle⟩, by simp only; omega, sub_of [(0, 0), (1, _)] rfl ⟨Cv.refl _, Cv.refl _, Cv.refl _, rfl, Cv.refl _, rfl, Cv.refl _, Cv.refl _, Cv.refl _, trivial⟩ ⟨cvCells_refl y.c, cvChI rfl, trivial⟩⟩
              | some m =>
                rw [hfz] at hsn
                cases ok with
                | false =>
                  refine Vint.i64 (m := ((j + 1 : Nat) : Int)) (by omega) (by omega) ?_
                  exact ⟨(j + 1, out ++ [z], false), ⟨hj', hsn, hle⟩, by simp only; omega, sub_of [(0, 0), (1, _)] rfl ⟨Cv.refl _, Cv.refl _, Cv.refl _, rfl, Cv.refl _, rfl, Cv.refl _, Cv.refl _, Cv.refl _, trivial⟩ ⟨cvCells_refl y.c, cvChI rfl, trivial⟩⟩
                | true =>
                  refine Vint.i64 (m := ((j + 1 : Nat) : Int)) (by omega) (by omega) ?_
                  exact ⟨(j + 1, out ++ [z], true), ⟨hj', hsn, hle⟩, by simp only; omega, sub_of [(0, 0), (1, _)] rfl ⟨Cv.refl _, Cv.refl _, Cv.refl _, rfl, Cv.refl _, rfl, Cv.refl _, Cv.refl _, Cv.refl _, trivial⟩ ⟨cvCells_refl y.c, cvChI rfl, trivial⟩⟩
          · refine Vint.i64 (m := ((j + 1 : Nat) : Int)) (by omega) (by omega) ?_
            exact ⟨(j + 1, out, ok), ⟨hj', by rw [hsn]; simp only [wstep]; rw [if_neg (fun h => by rw [h4] at h; cases h.2.1)], by simp only; omega⟩, by simp only; omega, sub_of [(0, 0), (1, 1)] rfl ⟨Cv.refl _, Cv.refl _, Cv.refl _, rfl, Cv.refl _, rfl, Cv.refl _, Cv.refl _, Cv.refl _, trivial⟩ ⟨cvCells_refl y.c, cvChI rfl, trivial⟩⟩
        · simp only [beq_iff_eq, bne_iff_ne, beq_eq_false_iff_ne, bne_eq_false_iff_eq, decide_eq_true_eq, decide_eq_false_iff_not, Bool.not_eq_true', Bool.not_eq_false', ne_eq] at h3
          refine Vint.i64 (m := ((j + 1 : Nat) : Int)) (by omega) (by omega) ?_
          exact ⟨(j + 1, out, ok), ⟨hj', by rw [hsn]; simp only [wstep]; rw [if_neg (fun h => h.1 h3)], by simp only; omega⟩, by simp only; omega, sub_of [(0, 0), (1, 1)] rfl ⟨Cv.refl _, Cv.refl _, Cv.refl _, rfl, Cv.refl _, rfl, Cv.refl _, Cv.refl _, Cv.refl _, trivial⟩ ⟨cvCells_refl y.c, cvChI rfl, trivial⟩⟩
      · simp only [beq_iff_eq, bne_iff_ne, beq_eq_false_iff_ne, bne_eq_false_iff_eq, decide_eq_true_eq, decide_eq_false_iff_not, Bool.not_eq_true', Bool.not_eq_false', ne_eq] at h2
        rw [List.take_of_length_le (by omega)] at hacc
        have hsn := foldl_snoc (f := fun a u => (upL n u).foldl (wstep O x) a) (b := ([x], true)) hi'
        have hacc0' : (y.par.late.take i).foldl (fun a u => (upL n u).foldl (wstep O x) a) ([x], true) = (out0, ok0) := hacc0
        rw [hacc0', ← hue, hacc] at hsn
        refine Vint.i64 (m := ((i + 1 : Nat) : Int)) (by omega) (by omega) ?_
        exact ⟨(i + 1, out, ok), ⟨hi', hsn, by simp only; omega⟩, by simp only; omega, sub_of [(0, 0), (1, 1)] rfl ⟨Cv.refl _, Cv.refl _, Cv.refl _, rfl, Cv.refl _, rfl, Cv.refl _, trivial⟩ ⟨cvCells_refl y.c, cvChI rfl, trivial⟩⟩
    · simp only [beq_iff_eq, bne_iff_ne, beq_eq_false_iff_ne, bne_eq_false_iff_eq, decide_eq_true_eq, decide_eq_false_iff_not, Bool.not_eq_true', Bool.not_eq_false', ne_eq] at h1
      rw [List.take_of_length_le (by omega)] at hacc0
      rw [hacc0]
      exact ⟨_, rfl, Cv.refl _⟩
theorem wfold_len (O : List Spot) (x n : Int) : ∀ (late : List Int) (a : List Int × Bool), (wfold O x n late a).1.length ≤ a.1.length + 18 * late.length := by
  have one : ∀ (l : List Int) (a : List Int × Bool), (l.foldl (wstep O x) a).1.length ≤ a.1.length + l.length := by
    intro l
    induction l with
    | nil => intro a; simp
    | cons z l ih =>
      intro a
      have := ih (wstep O x a z)
      have h1 : (wstep O x a z).1.length ≤ a.1.length + 1 := by unfold wstep; split <;> simp
      simp only [List.foldl_cons, List.length_cons]
      omega
  intro late
  induction late with
  | nil => intro a; simp [wfold]
  | cons u late ih =>
    intro a
    have h1 := ih ((upL n u).foldl (wstep O x) a)
    have h2 := one (upL n u) a
    have h3 := upL_len n u
    simp only [wfold, List.foldl_cons, List.length_cons] at *
    omega
def lateOk_ (O : List Spot) : Prop := ∀ s ∈ O, s.node.par.late.length ≤ 1000 ∧ ∀ u ∈ s.node.par.late, lateD u
theorem wholeW_len (O : List Spot) (hO : lateOk_ O) (n : Int) : ∀ h k, (wholeW O n h k).1.length ≤ 20000 * 2 ^ (h + 1) - 20000
  | 0, k => by
    unfold wholeW
    split
    · simp
    · rename_i y hy
      obtain ⟨sp, hsp, _, rfl⟩ := findS_mem hy
      have := wfold_len O (nd 0 k) n sp.node.par.late ([(nd 0 k : Int)], true)
      have := (hO sp hsp).1
      simp at *; omega
  | h + 1, k => by
    have h1 := wholeW_len O hO n h (2 * k)
    have h2 := wholeW_len O hO n h (2 * k + 1)
    have hp := pow_pos' (h + 1)
    rw [Nat.pow_succ 2 (h + 1)]
    unfold wholeW
    split
    · simp
    · rename_i y hy
      obtain ⟨sp, hsp, _, rfl⟩ := findS_mem hy
      split
      · simp; omega
      · have := wfold_len O (nd (h + 1) k) n sp.node.par.late ([(nd (h + 1) k : Int)], true)
        have := (hO sp hsp).1
        simp at *; omega
theorem pow17 {h : Nat} (hh : h ≤ 16) : 2 ^ (h + 1) ≤ 131072 := Nat.pow_le_pow_right (n := 2) (by omega) (show h + 1 ≤ 17 by omega)

theorem g_whole_blank (O : List Spot) (hO : O.length ≤ 1000000) (hOl : lateOk_ O) (n : Int) (h : Nat) (hh : h + 1 ≤ 16) (ih : ∀ k, k < 2 ^ (16 - h) → Gives Tryz.prog 48 [spots O, I (nd h k), I n] (.r (.tu [is (wholeW O n h k).1, .b (wholeW O n h k).2])))
    (k : Nat) (hk : k < 2 ^ (16 - (h + 1))) (y : Node) (hy : findS O (nd (h + 1) k) = some y) (hy0 : y.kind.toNat = 0) :
    Gives Tryz.prog 48 [spots O, I (nd (h + 1) k), I n] (.r (.tu [is (wholeW O n (h + 1) k).1, .b (wholeW O n (h + 1) k).2])) := by
  refine gives_of_vcg (T := Tab) mixed Tab_ok Tryz.func48 rfl (by kernel_rfl) ?_
  have hleft := left_nd (d := 16) (by omega) (show h + 1 ≤ 16 by omega) hk
  have hright := right_nd (d := 16) (by omega) (show h + 1 ≤ 16 by omega) hk
  have hk2 : 2 ^ (16 - h) = 2 * 2 ^ (16 - (h + 1)) := by rw [show 16 - h = (16 - (h + 1)) + 1 by omega, Nat.pow_succ]; omega
  have hfind := g_find O (nd (h + 1) k) (by omega)
  rw [hy] at hfind
  have e : wholeW O n (h + 1) k = ([(nd (h + 1) k : Int)] ++ (wholeW O n h (2 * k)).1 ++ (wholeW O n h (2 * k + 1)).1, (wholeW O n h (2 * k)).2 && (wholeW O n h (2 * k + 1)).2) := by
    simp [wholeW, hy, hy0]
  rw [e]
  have l1 := wholeW_len O hOl n h (2 * k)
  have l2 := wholeW_len O hOl n h (2 * k + 1)
  have p17 := pow17 (show h ≤ 16 by omega)
  have g1 := ih (2 * k) (by omega)
  have g2 := ih (2 * k + 1) (by omega)
  obtain ⟨p1, b1, e1⟩ : ∃ p b, wholeW O n h (2 * k) = (p, b) := ⟨_, _, rfl⟩
  obtain ⟨p2, b2, e2⟩ : ∃ p b, wholeW O n h (2 * k + 1) = (p, b) := ⟨_, _, rfl⟩
  rw [e1] at g1 l1
  rw [e2] at g2 l2
  rw [e1, e2]
  simp only at g1 g2 l1 l2 ⊢
  refine Vcall.go hfind ?_
  refine Vcmp.f rfl (Vif.f ?_)
  refine Vpub.pub ?_
  refine Vcmp.t (by simp only [beq_iff_eq, bne_iff_ne, beq_eq_false_iff_ne, bne_eq_false_iff_eq, decide_eq_true_eq, decide_eq_false_iff_not, Bool.not_eq_true', Bool.not_eq_false', ne_eq]; omega) ?_
  refine ⟨by decide, _, rfl, ?_⟩
  refine Vcmp.t (by rw [tmod_odd]; rfl) (Vif.t ?_)
  refine Vcall.go (g_children14 _) ?_
  rw [hleft, hright]
  refine Vcall.go g1 ?_
  refine Vcall.go g2 ?_
  refine Vapp.mk' (j := ([(nd (h + 1) k : Int)] ++ p1).length) (zs := ([(nd (h + 1) k : Int)] ++ p1).map I) (by simp only [maxLen]; omega) (by simp; omega) (by simp; omega) (by simp [fillR, cellsOf]) ?_
  refine Vapp.mk' (j := ([(nd (h + 1) k : Int)] ++ p1 ++ p2).length) (zs := ([(nd (h + 1) k : Int)] ++ p1 ++ p2).map I) (by simp [maxLen]; omega) (by simp; omega) (by simp; omega) (by simp) ?_
  cases b1 <;> exact ⟨_, rfl, Cv.refl _⟩
theorem g_whole (O : List Spot) (hO : O.length ≤ 1000000) (hOl : lateOk_ O) (n : Int) : ∀ (h k : Nat), h ≤ 16 → k < 2 ^ (16 - h) → Gives Tryz.prog 48 [spots O, I (nd h k), I n] (.r (.tu [is (wholeW O n h k).1, .b (wholeW O n h k).2])) := by
  have none_case : ∀ (x : Int), findS O x = none → Gives Tryz.prog 48 [spots O, I x, I n] (.r (.tu [is [], .b false])) := fun x hx => by
    refine gives_of_vcg (T := Tab) mixed Tab_ok Tryz.func48 rfl (by kernel_rfl) ?_
    have hfind := g_find O x (by omega)
    rw [hx] at hfind
    refine Vcall.go hfind ?_
    refine Vcmp.t rfl (Vif.t ?_)
    exact ⟨_, rfl, Cv.tu (Cvs.cons (Cv.nil 1) (Cvs.refl _))⟩
  intro h
  induction h with
  | zero =>
    intro k _ hk
    cases hy : findS O (nd 0 k) with
    | none =>
      have e : wholeW O n 0 k = ([], false) := by simp [wholeW, hy]
      rw [e]; exact none_case _ hy
    | some y =>
      obtain ⟨sp, hsp, _, rfl⟩ := findS_mem hy
      have e : wholeW O n 0 k = wfold O (nd 0 k) n sp.node.par.late ([(nd 0 k : Int)], true) := by simp [wholeW, hy]
      rw [e]
      exact g_whole_late O hO _ n _ hy (fun h => by rw [tmod_even] at h; omega) (hOl sp hsp).1 (hOl sp hsp).2
  | succ h ih =>
    intro k hh hk
    cases hy : findS O (nd (h + 1) k) with
    | none =>
      have e : wholeW O n (h + 1) k = ([], false) := by simp [wholeW, hy]
      rw [e]; exact none_case _ hy
    | some y =>
      by_cases h0 : y.kind.toNat = 0
      · exact g_whole_blank O hO hOl n h hh (fun k hk => ih k (by omega) hk) k hk y hy h0
      · obtain ⟨sp, hsp, _, rfl⟩ := findS_mem hy
        have e : wholeW O n (h + 1) k = wfold O (nd (h + 1) k) n sp.node.par.late ([(nd (h + 1) k : Int)], true) := by simp [wholeW, hy, h0]
        rw [e]
        exact g_whole_late O hO _ n _ hy (fun h => h0 h.1) (hOl sp hsp).1 (hOl sp hsp).2
end Go.Proofs.YtpdllgbfemnemaaGreat.Sx
