import Derived.Test.YtpdllgbfemnemaaGreatZKm
namespace Go.Proofs.YtpdllgbfemnemaaGreat.Sx
open Go.RowKit

def sumK (f : Nat → Int) : Nat → Int
  | 0 => 1
  | j + 1 => sumK f j + f j
theorem g_part_up (s : Lean_) (hs : s.fitN) (h : Nat) (hh : h + 1 ≤ 16)
    (ih : ∀ (k : Nat) (whole : Bool) (late : List Int), k < 2 ^ (16 - h) → late.length ≤ 100000000 → (∀ u ∈ late, lateD u) → Gives Tryz.prog 59 [.ag (lookC s), I (nd h k), .b whole, is late] (.r (I (partP s.opn s.shut h k whole late))))
    (k : Nat) (hk : k < 2 ^ (16 - (h + 1))) (whole : Bool) (late : List Int) (hlen : late.length ≤ 100000000) (hlate : ∀ u ∈ late, lateD u) :
    Gives Tryz.prog 59 [.ag (lookC s), I (nd (h + 1) k), .b whole, is late] (.r (I (partP s.opn s.shut (h + 1) k whole late))) := by
  refine gives_of_vcg (T := Tab) mixed Tab_ok Tryz.func59 rfl (by kernel_rfl) ?_
  have hleft := left_nd (d := 16) (by omega) (show h + 1 ≤ 16 by omega) hk
  have hright := right_nd (d := 16) (by omega) (show h + 1 ≤ 16 by omega) hk
  have hk2 : 2 ^ (16 - h) = 2 * 2 ^ (16 - (h + 1)) := by rw [show 16 - h = (16 - (h + 1)) + 1 by omega, Nat.pow_succ]; omega
  refine Vstep.node2 rfl rfl rfl (fun n hn => ?_) (fun hn => ?_)
  · obtain ⟨sp, hsp, _, rfl⟩ := findS_mem hn
    have hfit := hs.2.2.1 sp hsp
    refine Vcmp.f rfl ?_
    refine VloadN.mk' rfl rfl ?_
    refine Vcall.bool (g_fine _ _ hfit) (fun hf => Vcmp.f rfl (Vif.f ?_)) (fun hf => Vcmp.t rfl (Vif.t ?_))
    · have hright' : sp.node.right = true := by simp only [fineP, Bool.and_eq_true] at hf; exact hf.1
      have hnl := Node.right_late hright'
      refine ⟨by decide, _, rfl, ?_⟩
      refine Vcmp.f (by rw [tmod_odd]; rfl) (Vif.f ?_)
      have goal3 : ∀ (all : Bool) (L : List Int), all = (whole && decide (sp.node.kind.toNat = 0)) → L = (if whole then sp.node.par.late else late) →
          partP s.opn s.shut (h + 1) k whole late = max (1 + kidP s.shut (fun j w l => partP s.opn s.shut h j w l) h all L (2 * k) + kidP s.shut (fun j w l => partP s.opn s.shut h j w l) h all L (2 * k + 1)) none_ := fun all L e1 e2 => by
        subst e1; subst e2
        simp [partP, hn, hf]
      have hpow : (1 : Int) ≤ 2 ^ h ∧ (2 : Int) ^ (h + 1) ≤ 131072 := by
        have e : (2 : Int) ^ h = ((2 ^ h : Nat) : Int) := by simp
        have e' : (2 : Int) ^ (h + 1) = ((2 ^ (h + 1) : Nat) : Int) := by simp
        have := pow_pos' h
        have h2 : 2 ^ (h + 1) ≤ 2 ^ 17 := Nat.pow_le_pow_right (by omega) (by omega)
        omega
      have prep : (∃ (all : Bool) (L : List Int), all = (whole && decide (sp.node.kind.toNat = 0)) ∧ L = (if whole then sp.node.par.late else late) ∧ L.length ≤ 100000000 ∧ ∀ u ∈ L, lateD u) :=
        ⟨_, _, rfl, rfl, by split; exact hfit.2.2.2.1; exact hlen, by split; exact hnl; exact hlate⟩
      obtain ⟨all, L, eall, eL, hLl, hLd⟩ := prep
      have hend := goal3 all L eall eL
      clear goal3
      have hkid := fun j => kidP_bd (partP_bd s.opn s.shut h) all L j
      obtain ⟨f, hfdef⟩ : ∃ f : Nat → Int, f = fun j => kidP s.shut (fun j w l => partP s.opn s.shut h j w l) h all L (2 * k + j) := ⟨_, rfl⟩
      have hfb : ∀ j, none_ ≤ f j ∧ f j ≤ 131072 := fun j => by
        have := hkid (2 * k + j)
        simp only [hfdef]
        exact ⟨this.1, by omega⟩
      have hend2 : partP s.opn s.shut (h + 1) k whole late = max (sumK f 2) none_ := by
        rw [hend]
        simp only [sumK, hfdef, Nat.add_zero]
      cases whole with
      | false =>
        simp only [Bool.false_and, Bool.false_eq_true, if_false] at eall eL
        refine Vif.f ?_
        refine Vcall.go (g_left _) ?_
        refine Vcall.go (g_right _) ?_
        refine Vpub.pub ?_
        refine Vloop.mk' (fun j : Nat => { F := [(3, .r (is L)), (4, .own 0), (11, .r (.b all)), (12, .r (I (sumK f j))), (47, .r (is [(nd h (2 * k) : Int), (nd h (2 * k + 1) : Int)])), (48, .r (I 2)), (49, .r (I j))], O := [(0, some (.box ((lookC s).map .r)))], nx := 1 }) (fun j => j ≤ 2) (fun j => 2 - j) 0 (by omega)
          (sub_of [(0, 0)] rfl ⟨Cv.of_eq (by subst eL; rfl), rfl, Cv.of_eq (by subst eall; rfl), Cv.refl _, Cv.of_eq (by simp [is, fillR, cellsOf, hleft, hright, ofC]), Cv.refl _, Cv.refl _, trivial⟩ ⟨cvCells_refl _, trivial⟩) ?_
        intro j hj
        refine Vcmp.split (fun h1 => Vif.t ?_) (fun h1 => Vif.f ?_)
        · simp only [beq_iff_eq, bne_iff_ne, beq_eq_false_iff_ne, bne_eq_false_iff_eq, decide_eq_true_eq, decide_eq_false_iff_not, Bool.not_eq_true', Bool.not_eq_false', ne_eq] at h1
          have hj' : j < 2 := by omega
          have hsum : sumK f j + f j = sumK f (j + 1) := rfl
          have hsb : 2 * none_ ≤ sumK f j ∧ sumK f j ≤ 1000000 := by
            have a0 := hfb 0
            have a1 := hfb 1
            have : j = 0 ∨ j = 1 := by omega
            rcases this with rfl | rfl <;> simp only [sumK, none_] at * <;> omega
          have hjb := hfb j
          simp only [none_] at hsb hjb
          refine Vidx.mk' (by omega) (by omega) (idx_map rfl hj') (Vload1.mk' rfl ?_)
          have hc : ([(nd h (2 * k) : Int), (nd h (2 * k + 1) : Int)] : List Int)[j] = (nd h (2 * k + j) : Int) := by
            have : j = 0 ∨ j = 1 := by omega
            rcases this with rfl | rfl <;> rfl
          have hkj : 2 * k + j < 2 ^ (16 - h) := by omega
          cases all with
          | true =>
            refine Vif.t ?_
            refine VloadN.mk' rfl rfl ?_
            refine Vcall.mk' (ih (2 * k + j) true [] hkj (by simp) (by simp)) (Cvs.cons (Cv.refl _) (Cvs.cons (Cv.of_eq (by rw [hc])) (Cvs.cons (Cv.refl _) (Cvs.cons (Cv.nil 1) Cvs.nil)))) ?_
            have hv : partP s.opn s.shut h (2 * k + j) true [] = f j := by rw [hfdef]; simp [kidP]
            rw [hv]
            refine Vint.i64 rfl (by omega) ?_
            refine Vint.i64 (m := ((j + 1 : Nat) : Int)) (by omega) (by omega) ?_
            exact ⟨j + 1, by omega, by omega, sub_of [(0, 0)] rfl ⟨Cv.refl _, rfl, Cv.refl _, Cv.refl _, Cv.refl _, Cv.refl _, Cv.refl _, trivial⟩ ⟨cvCells_refl _, trivial⟩⟩
          | false =>
            refine Vif.f ?_
            refine Vstep.sub (sub_pub (t := 14) [I _] rfl rfl) (Vstep.mkfun I lateD _ rfl rfl (fun u hu => g_part1 u _ hu) ?_)
            refine Vcall.bool (g_containsfunc L lateD _ (by omega) hLd) (fun ha => Vif.t ?_) (fun ha => Vif.f ?_)
            · refine VloadN.mk' rfl rfl ?_
              refine Vload1.mk' rfl ?_
              refine Vcall.mk' (ih (2 * k + j) false L hkj hLl hLd) (Cvs.cons (Cv.refl _) (Cvs.cons (Cv.of_eq (by rw [hc])) (Cvs.refl _))) ?_
              rw [hc] at ha
              have hv : partP s.opn s.shut h (2 * k + j) false L = f j := by rw [hfdef]; simp only [kidP, ha, Bool.false_eq_true, if_false, if_true]
              rw [hv]
              refine Vint.i64 rfl (by omega) ?_
              refine Vint.i64 (m := ((j + 1 : Nat) : Int)) (by omega) (by omega) ?_
              exact ⟨j + 1, by omega, by omega, sub_of [(0, 0)] rfl ⟨Cv.refl _, rfl, Cv.refl _, Cv.refl _, Cv.refl _, Cv.refl _, Cv.refl _, trivial⟩ ⟨cvCells_refl _, trivial⟩⟩
            · refine VloadN.mk' rfl rfl ?_
              refine Vload1.mk' rfl ?_
              refine Vcall.mk' (g_stub s (nd h (2 * k + j))) (Cvs.cons (Cv.refl _) (Cvs.cons (Cv.of_eq (by rw [hc])) (Cvs.refl _))) ?_
              rw [hc] at ha
              have hv : stubP s.shut (nd h (2 * k + j)) = f j := by rw [hfdef]; simp only [kidP, ha, Bool.false_eq_true, if_false]
              rw [hv]
              refine Vint.i64 rfl (by omega) ?_
              refine Vint.i64 (m := ((j + 1 : Nat) : Int)) (by omega) (by omega) ?_
              exact ⟨j + 1, by omega, by omega, sub_of [(0, 0)] rfl ⟨Cv.refl _, rfl, Cv.refl _, Cv.refl _, Cv.refl _, Cv.refl _, Cv.refl _, trivial⟩ ⟨cvCells_refl _, trivial⟩⟩
        · simp only [beq_iff_eq, bne_iff_ne, beq_eq_false_iff_ne, bne_eq_false_iff_eq, decide_eq_true_eq, decide_eq_false_iff_not, Bool.not_eq_true', Bool.not_eq_false', ne_eq] at h1
          obtain rfl : j = 2 := by omega
          refine Vstep.max rfl rfl rfl ?_
          exact Cv.of_eq (by rw [hend2, maxI])
      | true =>
        simp only [Bool.true_and, if_true] at eall eL
        refine Vcmp.split (fun hk0 => Vif.t ?_) (fun hk0 => Vif.t ?_)
        · simp only [beq_iff_eq, bne_iff_ne, beq_eq_false_iff_ne, bne_eq_false_iff_eq, decide_eq_true_eq, decide_eq_false_iff_not, Bool.not_eq_true', Bool.not_eq_false', ne_eq] at hk0
          rw [decide_eq_true (by omega)] at eall
          refine Vcall.go (g_left _) ?_
          refine Vcall.go (g_right _) ?_
          refine Vpub.pub ?_
          refine Vloop.mk' (fun j : Nat => { F := [(3, .r (is L)), (4, .own 0), (11, .r (.b all)), (12, .r (I (sumK f j))), (47, .r (is [(nd h (2 * k) : Int), (nd h (2 * k + 1) : Int)])), (48, .r (I 2)), (49, .r (I j))], O := [(0, some (.box ((lookC s).map .r)))], nx := 1 }) (fun j => j ≤ 2) (fun j => 2 - j) 0 (by omega)
            (sub_of [(0, 0)] rfl ⟨Cv.of_eq (by subst eL; rfl), rfl, Cv.of_eq (by subst eall; rfl), Cv.refl _, Cv.of_eq (by simp [is, fillR, cellsOf, hleft, hright, ofC]), Cv.refl _, Cv.refl _, trivial⟩ ⟨cvCells_refl _, trivial⟩) ?_
          intro j hj
          refine Vcmp.split (fun h1 => Vif.t ?_) (fun h1 => Vif.f ?_)
          · simp only [beq_iff_eq, bne_iff_ne, beq_eq_false_iff_ne, bne_eq_false_iff_eq, decide_eq_true_eq, decide_eq_false_iff_not, Bool.not_eq_true', Bool.not_eq_false', ne_eq] at h1
            have hj' : j < 2 := by omega
            have hsum : sumK f j + f j = sumK f (j + 1) := rfl
            have hsb : 2 * none_ ≤ sumK f j ∧ sumK f j ≤ 1000000 := by
              have a0 := hfb 0
              have a1 := hfb 1
              have : j = 0 ∨ j = 1 := by omega
              rcases this with rfl | rfl <;> simp only [sumK, none_] at * <;> omega
            have hjb := hfb j
            simp only [none_] at hsb hjb
            refine Vidx.mk' (by omega) (by omega) (idx_map rfl hj') (Vload1.mk' rfl ?_)
            have hc : ([(nd h (2 * k) : Int), (nd h (2 * k + 1) : Int)] : List Int)[j] = (nd h (2 * k + j) : Int) := by
              have : j = 0 ∨ j = 1 := by omega
              rcases this with rfl | rfl <;> rfl
            have hkj : 2 * k + j < 2 ^ (16 - h) := by omega
            cases all with
            | true =>
              refine Vif.t ?_
              refine VloadN.mk' rfl rfl ?_
              refine Vcall.mk' (ih (2 * k + j) true [] hkj (by simp) (by simp)) (Cvs.cons (Cv.refl _) (Cvs.cons (Cv.of_eq (by rw [hc])) (Cvs.cons (Cv.refl _) (Cvs.cons (Cv.nil 1) Cvs.nil)))) ?_
              have hv : partP s.opn s.shut h (2 * k + j) true [] = f j := by rw [hfdef]; simp [kidP]
              rw [hv]
              refine Vint.i64 rfl (by omega) ?_
              refine Vint.i64 (m := ((j + 1 : Nat) : Int)) (by omega) (by omega) ?_
              exact ⟨j + 1, by omega, by omega, sub_of [(0, 0)] rfl ⟨Cv.refl _, rfl, Cv.refl _, Cv.refl _, Cv.refl _, Cv.refl _, Cv.refl _, trivial⟩ ⟨cvCells_refl _, trivial⟩⟩
            | false =>
              refine Vif.f ?_
              refine Vstep.sub (sub_pub (t := 14) [I _] rfl rfl) (Vstep.mkfun I lateD _ rfl rfl (fun u hu => g_part1 u _ hu) ?_)
              refine Vcall.bool (g_containsfunc L lateD _ (by omega) hLd) (fun ha => Vif.t ?_) (fun ha => Vif.f ?_)
              · refine VloadN.mk' rfl rfl ?_
                refine Vload1.mk' rfl ?_
                refine Vcall.mk' (ih (2 * k + j) false L hkj hLl hLd) (Cvs.cons (Cv.refl _) (Cvs.cons (Cv.of_eq (by rw [hc])) (Cvs.refl _))) ?_
                rw [hc] at ha
                have hv : partP s.opn s.shut h (2 * k + j) false L = f j := by rw [hfdef]; simp only [kidP, ha, Bool.false_eq_true, if_false, if_true]
                rw [hv]
                refine Vint.i64 rfl (by omega) ?_
                refine Vint.i64 (m := ((j + 1 : Nat) : Int)) (by omega) (by omega) ?_
                exact ⟨j + 1, by omega, by omega, sub_of [(0, 0)] rfl ⟨Cv.refl _, rfl, Cv.refl _, Cv.refl _, Cv.refl _, Cv.refl _, Cv.refl _, trivial⟩ ⟨cvCells_refl _, trivial⟩⟩
              · refine VloadN.mk' rfl rfl ?_
                refine Vload1.mk' rfl ?_
                refine Vcall.mk' (g_stub s (nd h (2 * k + j))) (Cvs.cons (Cv.refl _) (Cvs.cons (Cv.of_eq (by rw [hc])) (Cvs.refl _))) ?_
                rw [hc] at ha
                have hv : stubP s.shut (nd h (2 * k + j)) = f j := by rw [hfdef]; simp only [kidP, ha, Bool.false_eq_true, if_false]
                rw [hv]
                refine Vint.i64 rfl (by omega) ?_
                refine Vint.i64 (m := ((j + 1 : Nat) : Int)) (by omega) (by omega) ?_
                exact ⟨j + 1, by omega, by omega, sub_of [(0, 0)] rfl ⟨Cv.refl _, rfl, Cv.refl _, Cv.refl _, Cv.refl _, Cv.refl _, Cv.refl _, trivial⟩ ⟨cvCells_refl _, trivial⟩⟩
          · simp only [beq_iff_eq, bne_iff_ne, beq_eq_false_iff_ne, bne_eq_false_iff_eq, decide_eq_true_eq, decide_eq_false_iff_not, Bool.not_eq_true', Bool.not_eq_false', ne_eq] at h1
            obtain rfl : j = 2 := by omega
            refine Vstep.max rfl rfl rfl ?_
            exact Cv.of_eq (by rw [hend2, maxI])
        · simp only [beq_iff_eq, bne_iff_ne, beq_eq_false_iff_ne, bne_eq_false_iff_eq, decide_eq_true_eq, decide_eq_false_iff_not, Bool.not_eq_true', Bool.not_eq_false', ne_eq] at hk0
          rw [decide_eq_false (by omega)] at eall
          refine Vcall.go (g_left _) ?_
          refine Vcall.go (g_right _) ?_
          refine Vpub.pub ?_
          refine Vloop.mk' (fun j : Nat => { F := [(3, .r (is L)), (4, .own 0), (11, .r (.b all)), (12, .r (I (sumK f j))), (47, .r (is [(nd h (2 * k) : Int), (nd h (2 * k + 1) : Int)])), (48, .r (I 2)), (49, .r (I j))], O := [(0, some (.box ((lookC s).map .r)))], nx := 1 }) (fun j => j ≤ 2) (fun j => 2 - j) 0 (by omega)
            (sub_of [(0, 0)] rfl ⟨Cv.of_eq (by subst eL; rfl), rfl, Cv.of_eq (by subst eall; rfl), Cv.refl _, Cv.of_eq (by simp [is, fillR, cellsOf, hleft, hright, ofC]), Cv.refl _, Cv.refl _, trivial⟩ ⟨cvCells_refl _, trivial⟩) ?_
          intro j hj
          refine Vcmp.split (fun h1 => Vif.t ?_) (fun h1 => Vif.f ?_)
          · simp only [beq_iff_eq, bne_iff_ne, beq_eq_false_iff_ne, bne_eq_false_iff_eq, decide_eq_true_eq, decide_eq_false_iff_not, Bool.not_eq_true', Bool.not_eq_false', ne_eq] at h1
            have hj' : j < 2 := by omega
            have hsum : sumK f j + f j = sumK f (j + 1) := rfl
            have hsb : 2 * none_ ≤ sumK f j ∧ sumK f j ≤ 1000000 := by
              have a0 := hfb 0
              have a1 := hfb 1
              have : j = 0 ∨ j = 1 := by omega
              rcases this with rfl | rfl <;> simp only [sumK, none_] at * <;> omega
            have hjb := hfb j
            simp only [none_] at hsb hjb
            refine Vidx.mk' (by omega) (by omega) (idx_map rfl hj') (Vload1.mk' rfl ?_)
            have hc : ([(nd h (2 * k) : Int), (nd h (2 * k + 1) : Int)] : List Int)[j] = (nd h (2 * k + j) : Int) := by
              have : j = 0 ∨ j = 1 := by omega
              rcases this with rfl | rfl <;> rfl
            have hkj : 2 * k + j < 2 ^ (16 - h) := by omega
            cases all with
            | true =>
              refine Vif.t ?_
              refine VloadN.mk' rfl rfl ?_
              refine Vcall.mk' (ih (2 * k + j) true [] hkj (by simp) (by simp)) (Cvs.cons (Cv.refl _) (Cvs.cons (Cv.of_eq (by rw [hc])) (Cvs.cons (Cv.refl _) (Cvs.cons (Cv.nil 1) Cvs.nil)))) ?_
              have hv : partP s.opn s.shut h (2 * k + j) true [] = f j := by rw [hfdef]; simp [kidP]
              rw [hv]
              refine Vint.i64 rfl (by omega) ?_
              refine Vint.i64 (m := ((j + 1 : Nat) : Int)) (by omega) (by omega) ?_
              exact ⟨j + 1, by omega, by omega, sub_of [(0, 0)] rfl ⟨Cv.refl _, rfl, Cv.refl _, Cv.refl _, Cv.refl _, Cv.refl _, Cv.refl _, trivial⟩ ⟨cvCells_refl _, trivial⟩⟩
            | false =>
              refine Vif.f ?_
              refine Vstep.sub (sub_pub (t := 14) [I _] rfl rfl) (Vstep.mkfun I lateD _ rfl rfl (fun u hu => g_part1 u _ hu) ?_)
              refine Vcall.bool (g_containsfunc L lateD _ (by omega) hLd) (fun ha => Vif.t ?_) (fun ha => Vif.f ?_)
              · refine VloadN.mk' rfl rfl ?_
                refine Vload1.mk' rfl ?_
                refine Vcall.mk' (ih (2 * k + j) false L hkj hLl hLd) (Cvs.cons (Cv.refl _) (Cvs.cons (Cv.of_eq (by rw [hc])) (Cvs.refl _))) ?_
                rw [hc] at ha
                have hv : partP s.opn s.shut h (2 * k + j) false L = f j := by rw [hfdef]; simp only [kidP, ha, Bool.false_eq_true, if_false, if_true]
                rw [hv]
                refine Vint.i64 rfl (by omega) ?_
                refine Vint.i64 (m := ((j + 1 : Nat) : Int)) (by omega) (by omega) ?_
                exact ⟨j + 1, by omega, by omega, sub_of [(0, 0)] rfl ⟨Cv.refl _, rfl, Cv.refl _, Cv.refl _, Cv.refl _, Cv.refl _, Cv.refl _, trivial⟩ ⟨cvCells_refl _, trivial⟩⟩
              · refine VloadN.mk' rfl rfl ?_
                refine Vload1.mk' rfl ?_
                refine Vcall.mk' (g_stub s (nd h (2 * k + j))) (Cvs.cons (Cv.refl _) (Cvs.cons (Cv.of_eq (by rw [hc])) (Cvs.refl _))) ?_
                rw [hc] at ha
                have hv : stubP s.shut (nd h (2 * k + j)) = f j := by rw [hfdef]; simp only [kidP, ha, Bool.false_eq_true, if_false]
                rw [hv]
                refine Vint.i64 rfl (by omega) ?_
                refine Vint.i64 (m := ((j + 1 : Nat) : Int)) (by omega) (by omega) ?_
                exact ⟨j + 1, by omega, by omega, sub_of [(0, 0)] rfl ⟨Cv.refl _, rfl, Cv.refl _, Cv.refl _, Cv.refl _, Cv.refl _, Cv.refl _, trivial⟩ ⟨cvCells_refl _, trivial⟩⟩
          · simp only [beq_iff_eq, bne_iff_ne, beq_eq_false_iff_ne, bne_eq_false_iff_eq, decide_eq_true_eq, decide_eq_false_iff_not, Bool.not_eq_true', Bool.not_eq_false', ne_eq] at h1
            obtain rfl : j = 2 := by omega
            refine Vstep.max rfl rfl rfl ?_
            exact Cv.of_eq (by rw [hend2, maxI])
    · exact Cv.of_eq (by simp [partP, hn, hf, ofC])
  · refine Vcmp.t rfl (Vif.t ?_)
    exact Cv.of_eq (by simp [partP, hn, ofC])
end Go.Proofs.YtpdllgbfemnemaaGreat.Sx
