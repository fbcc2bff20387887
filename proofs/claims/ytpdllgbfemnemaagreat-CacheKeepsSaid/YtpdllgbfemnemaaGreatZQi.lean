import Derived.Test.YtpdllgbfemnemaaGreatZQe
section
namespace Go.Proofs.YtpdllgbfemnemaaGreat.Sx
open Go.RowKit
set_option linter.unusedVariables false

def hashX (t : List Node) (x : Int) : List UInt8 := hash18 t (lv x.toNat) (x.toNat / 2 ^ (lv x.toNat + 1))
theorem hashX_nd (t : List Node) {h k : Nat} (hh : h ≤ 16) (hk : k < 2 ^ (16 - h)) : hashX t (nd h k) = hash18 t h k := by
  obtain ⟨e1, e2⟩ := nd_uniq hh hk
  unfold hashX
  rw [e2, e1]
def spotX (t : List Node) (x : Int) : Spot := ⟨x, nT t x.toNat⟩
def stubX (t : List Node) (x : Int) : Stub := ⟨x, hashX t x⟩
def cutA (t : List Node) (n own : Int) : List Int := riseD (opensL (spotsN t t.length) n own)
def cutB (t : List Node) (n own : Int) : List Int := riseD (shutsL (spotsN t t.length) n own)
def cutS (t : List Node) (n own : Int) : Lean_ := ⟨n, own, (cutA t n own).map (spotX t), (cutB t n own).map (stubX t)⟩
theorem lateOk_spots {t : List Node} (hr : ∀ x ∈ t, x.right = true) (hl : ∀ x ∈ t, x.par.late.length ≤ 1000) : lateOk_ (spotsN t t.length) := fun s hs => by
  simp only [spotsN, List.mem_map, List.mem_range] at hs
  obtain ⟨i, hi, rfl⟩ := hs
  exact ⟨hl _ (nT_mem hi), Node.right_late (hr _ (nT_mem hi))⟩
theorem pow_inj {a b : Nat} (h : 2 ^ a = 2 ^ b) : a = b := by
  rcases Nat.lt_trichotomy a b with h1 | h1 | h1
  · have := Nat.pow_lt_pow_right (show 1 < 2 by omega) h1; omega
  · exact h1
  · have := Nat.pow_lt_pow_right (show 1 < 2 by omega) h1; omega
theorem g_hashX (t : List Node) (hfit : ∀ x ∈ t, x.fit) (hr : ∀ x ∈ t, x.right = true) {d : Nat} (hd : d ≤ 16) (hl : t.length + 1 = 2 ^ (d + 1)) {x : Int} (hx : ofI x ((2 ^ d : Nat) : Int) = true) : Gives Tryz.prog 71 [nods t, I x, is []] (.r (bs (hashX t x))) := by
  obtain ⟨d', h, k, hd', e, hh, hk, rfl⟩ := of_form hx
  have e' : d' = d := pow_inj (by exact_mod_cast e.symm)
  subst e'
  have hk16 := lt16 hd hk
  rw [hashX_nd t (by omega) hk16]
  refine g_hash18 t hfit hr h k (by omega) hk16 ?_
  rw [hl]
  have := Nat.mul_le_mul_right (2 ^ (h + 1)) (show k + 1 ≤ 2 ^ (d' - h) from hk)
  rwa [← Nat.pow_add, show d' - h + (h + 1) = d' + 1 by omega] at this
theorem mem_riseD {l : List Int} {z : Int} : z ∈ riseD l ↔ z ∈ l := by
  unfold riseD
  have : ∀ (l a : List Int), z ∈ l.foldl (fun a x => insD x a) a ↔ z ∈ a ∨ z ∈ l := by
    intro l
    induction l with
    | nil => intro a; simp
    | cons x l ih =>
      intro a
      rw [List.foldl_cons, ih, mem_insD]
      simp only [List.mem_cons]
      exact ⟨fun h => by rcases h with (h | h) | h <;> simp [h], fun h => by rcases h with h | h | h <;> simp [h]⟩
  simpa using this l []
set_option maxHeartbeats 1000000 in
theorem g_cut (t : List Node) (hfit : ∀ x ∈ t, x.fit) (hr : ∀ x ∈ t, x.right = true) (hlt : ∀ x ∈ t, x.par.late.length ≤ 1000) {d : Nat} (hd : d ≤ 16) (hl : t.length + 1 = 2 ^ (d + 1)) {own : Int} (h0 : 0 ≤ own) (h1 : own < ((2 ^ d : Nat) : Int))
    (hA : ∀ x ∈ opensL (spotsN t t.length) ((2 ^ d : Nat) : Int) own, ofI x ((2 ^ d : Nat) : Int) = true) (hB : ∀ x ∈ shutsL (spotsN t t.length) ((2 ^ d : Nat) : Int) own, ofI x ((2 ^ d : Nat) : Int) = true)
    (hAl : (opensL (spotsN t t.length) ((2 ^ d : Nat) : Int) own).length ≤ 1000000) (hBl : (shutsL (spotsN t t.length) ((2 ^ d : Nat) : Int) own).length ≤ 1000000) :
    Gives Tryz.prog 31 [nods t, I own, .b false] (.r (.ag (cutS t ((2 ^ d : Nat) : Int) own).c)) := by
  refine gives_of_vcg (T := Tab) mixed Tab_ok Tryz.func31 rfl (by kernel_rfl) ?_
  have hf := pow_fits d hd
  have hn := fits_bd hf
  have e2 : 2 ^ (d + 1) = 2 * 2 ^ d := by rw [Nat.pow_succ]; omega
  have hp := pow_le16 hd
  obtain ⟨n, hnn⟩ : ∃ n : Int, n = ((2 ^ d : Nat) : Int) := ⟨_, rfl⟩
  rw [← hnn] at hf hn h1 hA hB hAl hBl ⊢
  refine Vint.i64 (m := ((t.length + 1 : Nat) : Int)) (by omega) (by omega) ?_
  refine ⟨by decide, n, ?_, ?_⟩
  · rw [Int.tdiv_eq_ediv_of_nonneg (by omega), show (((t.length + 1 : Nat) : Int)) / 2 = n by omega]
    exact wrap_i64 (by omega)
  refine Vcall.go (g_spots t (by omega)) ?_
  refine Vcall.go (g_opens (spotsN t t.length) n own (by rw [spots_len]; omega) (lateOk_spots hr hlt) hf h0 h1) ?_
  obtain ⟨A, hAe⟩ : ∃ A, A = cutA t n own := ⟨_, rfl⟩
  obtain ⟨B, hBe⟩ : ∃ B, B = cutB t n own := ⟨_, rfl⟩
  have hS : cutS t n own = ⟨n, own, A.map (spotX t), B.map (stubX t)⟩ := by rw [hAe, hBe]; rfl
  have hA' : ∀ x ∈ A, ofI x n = true := fun x hx => hA x (mem_riseD.1 (by rw [hAe] at hx; exact hx))
  have hB' : ∀ x ∈ B, ofI x n = true := fun x hx => hB x (mem_riseD.1 (by rw [hBe] at hx; exact hx))
  have hAl' : A.length ≤ 1000000 := by rw [hAe]; unfold cutA riseD; rw [riseD_len]; simpa using hAl
  have hBl' : B.length ≤ 1000000 := by rw [hBe]; unfold cutB riseD; rw [riseD_len]; simpa using hBl
  have hAx : riseD (opensL (spotsN t t.length) n own) = A := hAe.symm
  have hBx : riseD (shutsL (spotsN t t.length) n own) = B := hBe.symm
  rw [hAx, hBx, hS]
  refine Vloop.mk' (fun j : Nat => { F := [(0, .r (nods t)), (6, .own 0), (8, .r (is A)), (9, .r (is B)), (11, .own 1), (12, .r (I j))], O := [(0, some (.box (zero4.map .r))), (1, some (.box [.r (I n), .r (I own), .own 2, .own 3])), (2, some (spotCh ((A.take j).map (spotX t)))), (3, some (stubCh []))], nx := 4 })
    (fun j => j ≤ A.length) (fun j => A.length - j) 0 (by omega)
    ((sub_adopt_cellP true 1 2 77 11 (cells := [.r (I n), .r (I own), .r (.x (.slice none 0 0)), .r (.x (.slice none 0 0))]) rfl rfl).trans ((sub_adopt_cellP true 1 3 79 2 (cells := [.r (I n), .r (I own), .own 2, .r (.x (.slice none 0 0))]) rfl rfl).trans (sub_of [(0, 0), (1, 1), (2, 2), (3, 3)] rfl ⟨Cv.refl _, rfl, Cv.refl _, Cv.refl _, rfl, Cv.refl _, trivial⟩ ⟨cvCells_refl zero4, cvc (cvTF_refl _) (cvc (cvTF_refl _) (cvc rfl (cvc rfl rfl))), ⟨rfl, rfl, rfl, rfl, Cvs.refl _⟩, ⟨rfl, rfl, rfl, rfl, Cvs.refl _⟩, trivial⟩))) ?_
  intro j hj
  refine Vcmp.split (fun h => Vif.t ?_) (fun h => Vif.f ?_)
  · simp only [beq_iff_eq, bne_iff_ne, beq_eq_false_iff_ne, bne_eq_false_iff_eq, decide_eq_true_eq, decide_eq_false_iff_not, Bool.not_eq_true', Bool.not_eq_false', ne_eq] at h
    have hj' : j < A.length := by omega
    have htk : (A.take j).length = j := by rw [List.length_take]; omega
    obtain ⟨x, hx⟩ : ∃ x, x = A[j] := ⟨_, rfl⟩
    have hxo := (ofI_iff.1 (hA' x (hx ▸ List.getElem_mem hj'))).2
    refine Vdraw.mk' (by kernel_rfl) ?_
    refine Vidx.mk' (by omega) (by omega) (idx_map rfl hj') (Vload1.mk' rfl ?_)
    refine Vidx.mk' (by omega) (by omega) (idx_map rfl hj') (Vload1.mk' rfl ?_)
    rw [← hx]
    refine Vidx.mk' (by omega) (by omega) (idx_nT (j := x.toNat) (by omega) (by omega)) ?_
    refine VloadN.mk' rfl rfl ?_
    refine Vpub.pub ?_
    have e : (A.take (j + 1)).map (spotX t) = (A.take j).map (spotX t) ++ [⟨x, nT t x.toNat⟩] := by rw [take_snoc hj', List.map_append, ← hx]; rfl
    refine Vapp.mk' (j := ((A.take (j + 1)).map (spotX t)).length) (zs := ((A.take (j + 1)).map (spotX t)).flatMap Spot.c) (by simp only [maxLen, List.length_map]; omega) (by simp; omega) (by rw [e, List.length_append]; rfl) (by rw [e, List.flatMap_append]; exact congrArg (List.flatMap Spot.c ((A.take j).map (spotX t)) ++ ·) (by simp [fillR, cellsOf])) ?_
    refine Vint.i64 (m := ((j + 1 : Nat) : Int)) (by omega) (by omega) ?_
    exact ⟨j + 1, hj', by omega, sub_of [(0, 0), (1, 1), (2, _), (3, 3)] rfl ⟨Cv.refl _, rfl, Cv.refl _, Cv.refl _, rfl, Cv.refl _, trivial⟩ ⟨cvCells_refl zero4, cvc (cvTF_refl _) (cvc (cvTF_refl _) (cvc rfl (cvc rfl rfl))), ⟨rfl, rfl, rfl, rfl, Cvs.refl _⟩, ⟨rfl, rfl, rfl, rfl, Cvs.refl _⟩, trivial⟩⟩
  simp only [beq_iff_eq, bne_iff_ne, beq_eq_false_iff_ne, bne_eq_false_iff_eq, decide_eq_true_eq, decide_eq_false_iff_not, Bool.not_eq_true', Bool.not_eq_false', ne_eq] at h
  rw [List.take_of_length_le (by omega)]
  clear h hj
  refine Vloop.mk' (fun j : Nat => { F := [(0, .r (nods t)), (6, .own 0), (9, .r (is B)), (11, .own 1), (13, .r (I j))], O := [(0, some (.box (zero4.map .r))), (1, some (.box [.r (I n), .r (I own), .own 2, .own 3])), (2, some (spotCh (A.map (spotX t)))), (3, some (stubCh ((B.take j).map (stubX t))))], nx := 4 })
    (fun j => j ≤ B.length) (fun j => B.length - j) 0 (by omega) (sub_of [(0, 0), (1, 1), (2, 2), (3, 3)] rfl ⟨Cv.refl _, rfl, Cv.refl _, rfl, Cv.refl _, trivial⟩ ⟨cvCells_refl zero4, cvc (cvTF_refl _) (cvc (cvTF_refl _) (cvc rfl (cvc rfl rfl))), ⟨rfl, rfl, rfl, rfl, Cvs.refl _⟩, ⟨rfl, rfl, rfl, rfl, Cvs.refl _⟩, trivial⟩) ?_
  intro j hj
  refine Vcmp.split (fun h => Vif.t ?_) (fun h => Vif.f ?_)
  · simp only [beq_iff_eq, bne_iff_ne, beq_eq_false_iff_ne, bne_eq_false_iff_eq, decide_eq_true_eq, decide_eq_false_iff_not, Bool.not_eq_true', Bool.not_eq_false', ne_eq] at h
    have hj' : j < B.length := by omega
    have htk : (B.take j).length = j := by rw [List.length_take]; omega
    obtain ⟨x, hx⟩ : ∃ x, x = B[j] := ⟨_, rfl⟩
    have hxo := hB' x (hx ▸ List.getElem_mem hj')
    refine Vdraw.mk' (by kernel_rfl) ?_
    refine Vidx.mk' (by omega) (by omega) (idx_map rfl hj') (Vload1.mk' rfl ?_)
    refine Vidx.mk' (by omega) (by omega) (idx_map rfl hj') (Vload1.mk' rfl ?_)
    rw [← hx]
    refine Vcall.mk' (g_hashX t hfit hr hd hl (x := x) (by rw [← hnn]; exact hxo)) (Cvs.cons (Cv.refl _) (Cvs.cons (Cv.refl _) (Cvs.cons (Cv.nil 1) Cvs.nil))) ?_
    refine Vpub.pub ?_
    have e : (B.take (j + 1)).map (stubX t) = (B.take j).map (stubX t) ++ [⟨x, hashX t x⟩] := by rw [take_snoc hj', List.map_append, ← hx]; rfl
    refine Vapp.mk' (j := ((B.take (j + 1)).map (stubX t)).length) (zs := ((B.take (j + 1)).map (stubX t)).flatMap Stub.c) (by simp only [maxLen, List.length_map]; omega) (by simp; omega) (by rw [e, List.length_append]; rfl) (by rw [e, List.flatMap_append]; exact congrArg (List.flatMap Stub.c ((B.take j).map (stubX t)) ++ ·) (by simp [fillR, cellsOf, bs])) ?_
    refine Vint.i64 (m := ((j + 1 : Nat) : Int)) (by omega) (by omega) ?_
    exact ⟨j + 1, hj', by omega, sub_of [(0, 0), (1, 1), (2, 2), (3, _)] rfl ⟨Cv.refl _, rfl, Cv.refl _, rfl, Cv.refl _, trivial⟩ ⟨cvCells_refl zero4, cvc (cvTF_refl _) (cvc (cvTF_refl _) (cvc rfl (cvc rfl rfl))), ⟨rfl, rfl, rfl, rfl, Cvs.refl _⟩, ⟨rfl, rfl, rfl, rfl, Cvs.refl _⟩, trivial⟩⟩
  simp only [beq_iff_eq, bne_iff_ne, beq_eq_false_iff_ne, bne_eq_false_iff_eq, decide_eq_true_eq, decide_eq_false_iff_not, Bool.not_eq_true', Bool.not_eq_false', ne_eq] at h
  rw [List.take_of_length_le (by omega)]
  refine VloadN.mk' rfl rfl ?_
  refine VloadN.mk' rfl rfl ?_
  exact Cv.refl _
end Go.Proofs.YtpdllgbfemnemaaGreat.Sx
end

section
namespace Go.Proofs.YtpdllgbfemnemaaGreat.Sx
open Go.RowKit
set_option linter.unusedVariables false

theorem wstep_nodup {O : List Spot} {x z : Int} {a : List Int × Bool} (h : a.1.Nodup) : (wstep O x a z).1.Nodup := by
  unfold wstep
  split
  · rename_i hz
    rw [List.nodup_append]
    refine ⟨h, by simp, fun p hp q hq e => ?_⟩
    rw [mem1 hq] at e
    exact hz.2.2 (e ▸ hp)
  · exact h
theorem wsteps_nodup {O : List Spot} {x : Int} : ∀ (l : List Int) (a : List Int × Bool), a.1.Nodup → (l.foldl (wstep O x) a).1.Nodup
  | [], _, h => h
  | z :: l, a, h => by rw [List.foldl_cons]; exact wsteps_nodup l _ (wstep_nodup h)
theorem wfold_nodup {O : List Spot} {x n : Int} : ∀ (late : List Int) (a : List Int × Bool), a.1.Nodup → (wfold O x n late a).1.Nodup
  | [], _, h => h
  | u :: late, a, h => by
    unfold wfold
    rw [List.foldl_cons]
    exact wfold_nodup late _ (wsteps_nodup _ _ h)
theorem whole_nodup {O : List Spot} {d : Nat} (hd : d ≤ 16) (hF : ∀ x n, findS O x = some n → fineP x n = true) : ∀ (h k : Nat), h ≤ d → k < 2 ^ (d - h) → (wholeW O ((2 ^ d : Nat) : Int) h k).2 = true →
    (wholeW O ((2 ^ d : Nat) : Int) h k).1.Nodup ∧ ∀ z ∈ (wholeW O ((2 ^ d : Nat) : Int) h k).1, inR h k z
  | h, k, hh, hk, hw => by
    have hin : ∀ z ∈ (wholeW O ((2 ^ d : Nat) : Int) h k).1, inR h k z := fun z hz =>
      (shP_sh O h k true [] (by omega) (lt16 hd hk)).ra z (((whole_law hd hF h k hh hk).2 hw z).1 hz)
    refine ⟨?_, hin⟩
    match h, hh, hk, hw with
    | 0, hh, hk, hw =>
      unfold wholeW
      cases hf : findS O (nd 0 k) with
      | none => simp
      | some n => exact wfold_nodup _ _ (by simp)
    | h + 1, hh, hk, hw =>
      have hk2 : 2 ^ (d - h) = 2 * 2 ^ (d - (h + 1)) := by rw [show d - h = (d - (h + 1)) + 1 by omega, Nat.pow_succ]; omega
      unfold wholeW at hw ⊢
      cases hf : findS O (nd (h + 1) k) with
      | none => simp
      | some n =>
        simp only [hf] at hw ⊢
        split
        · rename_i h0
          rw [if_pos h0] at hw
          simp only [Bool.and_eq_true] at hw
          obtain ⟨n1, i1⟩ := whole_nodup hd hF h (2 * k) (by omega) (by omega) hw.1
          obtain ⟨n2, i2⟩ := whole_nodup hd hF h (2 * k + 1) (by omega) (by omega) hw.2
          simp only
          rw [List.nodup_append, List.nodup_append]
          refine ⟨⟨by simp, n1, fun p hp q hq e => ?_⟩, n2, fun p hp q hq e => ?_⟩
          · rw [mem1 hp] at e
            have := (inR_left (i1 q hq)).2
            omega
          · have h2 := (inR_right (i2 q hq)).2
            rcases List.mem_append.1 hp with hp | hp
            · rw [mem1 hp] at e; omega
            · have h1 := (inR_left (i1 p hp)).2; omega
        · exact wfold_nodup _ _ (by simp)
theorem flat_nodup {f : Int → List Int} : ∀ {l : List Int}, (∀ x ∈ l, (f x).Nodup) → l.Pairwise (fun x y => ∀ z ∈ f x, z ∉ f y) → (l.flatMap f).Nodup
  | [], _, _ => by simp
  | x :: l, h1, h2 => by
    rw [List.pairwise_cons] at h2
    rw [List.flatMap_cons, List.nodup_append]
    refine ⟨h1 x (by simp), flat_nodup (fun y hy => h1 y (by simp [hy])) h2.2, fun p hp q hq e => ?_⟩
    obtain ⟨y, hy, hq⟩ := List.mem_flatMap.1 hq
    exact h2.1 y hy p hp (e ▸ hq)
theorem opens_nodup {O : List Spot} {d o : Nat} (hd : d ≤ 16) (ho : o < 2 ^ d) (hF : ∀ x n, findS O x = some n → fineP x n = true) (hw : ∀ c ∈ copathI (2 * (o : Int)) ((2 ^ d : Nat) : Int), (wholeI O ((2 ^ d : Nat) : Int) c).2 = true) : (opensL O ((2 ^ d : Nat) : Int) (o : Int)).Nodup := by
  have e0 : 2 * (o : Int) = (nd 0 o : Int) := by rw [nd_zero]; omega
  have hwh : ∀ i, i < d → (wholeI O ((2 ^ d : Nat) : Int) (nd i (sibN (o / 2 ^ i)))).1.Nodup ∧ ∀ z ∈ (wholeI O ((2 ^ d : Nat) : Int) (nd i (sibN (o / 2 ^ i)))).1, inR i (sibN (o / 2 ^ i)) z := fun i hi => by
    have hs := sib_lt ho hi
    have h1 := hw (nd i (sibN (o / 2 ^ i))) (by rw [e0, copath_range hd ho]; exact List.mem_map.2 ⟨i, List.mem_range.2 hi, rfl⟩)
    rw [wholeI_nd _ _ (by omega) (lt16 hd hs)] at h1 ⊢
    exact whole_nodup hd hF i _ (by omega) hs h1
  unfold opensL
  rw [e0, path_range hd ho, copath_range hd ho, List.nodup_append]
  refine ⟨?_, ?_, ?_⟩
  · rw [List.nodup_cons]
    refine ⟨fun hm => ?_, ?_⟩
    · obtain ⟨i, hi, e⟩ := List.mem_map.1 hm
      have e' : nd (i + 1) (o / 2 ^ (i + 1)) = nd 0 o := Int.ofNat.inj e
      have := (nd_inj (by have := List.mem_range.1 hi; omega) (by omega) e').1
      omega
    · have : ∀ (l : List Nat), l.Nodup → (∀ i ∈ l, i < d) → (l.map fun h => (nd (h + 1) (o / 2 ^ (h + 1)) : Int)).Nodup := by
        intro l
        induction l with
        | nil => intro _ _; simp
        | cons i l ih =>
          intro hn hl
          rw [List.nodup_cons] at hn
          rw [List.map_cons, List.nodup_cons]
          refine ⟨fun hm => ?_, ih hn.2 fun j hj => hl j (by simp [hj])⟩
          obtain ⟨j, hj, e⟩ := List.mem_map.1 hm
          have hi := hl i (by simp)
          have hj2 := hl j (by simp [hj])
          have e' : nd (j + 1) (o / 2 ^ (j + 1)) = nd (i + 1) (o / 2 ^ (i + 1)) := Int.ofNat.inj e
          have := (nd_inj (by omega) (by omega) e').1
          exact hn.1 ((show j = i by omega) ▸ hj)
      exact this _ List.nodup_range fun i hi => List.mem_range.1 hi
  · refine flat_nodup (fun c hc => ?_) ?_
    · obtain ⟨i, hi, rfl⟩ := List.mem_map.1 hc
      exact (hwh i (List.mem_range.1 hi)).1
    · rw [List.pairwise_map]
      have : ∀ (l : List Nat), l.Nodup → (∀ i ∈ l, i < d) → l.Pairwise fun i j => ∀ z ∈ (wholeI O ((2 ^ d : Nat) : Int) (nd i (sibN (o / 2 ^ i)))).1, z ∉ (wholeI O ((2 ^ d : Nat) : Int) (nd j (sibN (o / 2 ^ j)))).1 := by
        intro l
        induction l with
        | nil => intro _ _; simp
        | cons i l ih =>
          intro hn hl
          rw [List.nodup_cons] at hn
          rw [List.pairwise_cons]
          refine ⟨fun j hj z hz hz2 => ?_, ih hn.2 fun j hj => hl j (by simp [hj])⟩
          have := sib_apart ((hwh i (hl i (by simp))).2 z hz) ((hwh j (hl j (by simp [hj]))).2 z hz2)
          exact hn.1 (this ▸ hj)
      exact this _ List.nodup_range fun i hi => List.mem_range.1 hi
  · intro p hp q hq e
    obtain ⟨c, hc, hq⟩ := List.mem_flatMap.1 hq
    obtain ⟨i, hi, rfl⟩ := List.mem_map.1 hc
    have hin := (hwh i (List.mem_range.1 hi)).2 q hq
    have : ∃ j, p = (nd j (o / 2 ^ j) : Int) := by
      rcases List.mem_cons.1 hp with rfl | hp
      · exact ⟨0, by simp⟩
      · obtain ⟨j, _, rfl⟩ := List.mem_map.1 hp
        exact ⟨j + 1, rfl⟩
    obtain ⟨j, rfl⟩ := this
    exact path_apart (e ▸ hin)
theorem kid_inj {x y : Int} (hx : nodeI x = true) (hy : nodeI y = true) : (0 ≤ leftI x → leftI x = leftI y → x = y) ∧ (0 ≤ leftI x → leftI x ≠ rightI y) ∧ (0 ≤ rightI x → rightI x = rightI y → x = y) ∧ (0 ≤ rightI x → rightI x ≠ leftI y) := by
  obtain ⟨h, k, hh, hk, rfl, _⟩ := node_nd hx
  obtain ⟨h', k', hh', hk', rfl, _⟩ := node_nd hy
  match h, h', hh, hh', hk, hk' with
  | 0, _, _, _, hk, _ =>
    have := leaf_nd (d := 16) (k := k) (by omega) (by simpa using hk)
    rw [this.1, this.2]
    exact ⟨by omega, by omega, by omega, by omega⟩
  | h + 1, 0, hh, _, hk, hk' =>
    have := leaf_nd (d := 16) (k := k') (by omega) (by simpa using hk')
    rw [this.1, this.2]
    exact ⟨by omega, by omega, by omega, by omega⟩
  | h + 1, h' + 1, hh, hh', hk, hk' =>
    rw [left_nd (d := 16) (by omega) hh hk, right_nd (d := 16) (by omega) hh hk, left_nd (d := 16) (by omega) hh' hk', right_nd (d := 16) (by omega) hh' hk']
    have key : ∀ a b : Nat, (nd h a : Int) = (nd h' b : Int) → h = h' ∧ a = b := fun a b e => nd_inj (by omega) (by omega) (by omega)
    refine ⟨fun _ e => ?_, fun _ e => ?_, fun _ e => ?_, fun _ e => ?_⟩
    · obtain ⟨rfl, e2⟩ := key _ _ e
      rw [show k = k' by omega]
    · have := (key _ _ e).2; omega
    · obtain ⟨rfl, e2⟩ := key _ _ e
      rw [show k = k' by omega]
    · have := (key _ _ e).2; omega
theorem addK_nodup {all acc : List Int} {c : Int} (h : acc.Nodup) (hc : 0 ≤ c → c ∉ acc) : (addK all acc c).Nodup ∧ ∀ z, z ∈ addK all acc c → z ∈ acc ∨ (z = c ∧ 0 ≤ c) := by
  unfold addK
  split
  · rename_i h1
    refine ⟨?_, fun z hz => ?_⟩
    · rw [List.nodup_append]
      refine ⟨h, by simp, fun p hp q hq e => ?_⟩
      rw [mem1 hq] at e
      exact hc h1.1 (e ▸ hp)
    · rcases List.mem_append.1 hz with hz | hz
      · exact .inl hz
      · exact .inr ⟨mem1 hz, h1.1⟩
  · exact ⟨h, fun z hz => .inl hz⟩
theorem kids_nodup {all : List Int} : ∀ (l acc : List Int), l.Nodup → (∀ x ∈ l, nodeI x = true) → acc.Nodup → (∀ z ∈ acc, 0 ≤ z ∧ ∀ x ∈ l, z ≠ leftI x ∧ z ≠ rightI x) → (l.foldl (kidsS all) acc).Nodup
  | [], _, _, _, h, _ => h
  | x :: l, acc, hn, hl, h, hz => by
    rw [List.nodup_cons] at hn
    rw [List.foldl_cons]
    have hx := hl x (by simp)
    obtain ⟨a1, a2⟩ := addK_nodup (all := all) (c := leftI x) h fun h0 hm => ((hz _ hm).2 x (by simp)).1 rfl
    obtain ⟨b1, b2⟩ := addK_nodup (all := all) (c := rightI x) a1 fun h0 hm => by
      rcases a2 _ hm with hm | ⟨e, h1⟩
      · exact ((hz _ hm).2 x (by simp)).2 rfl
      · exact (kid_inj hx hx).2.2.2 h0 e
    refine kids_nodup l _ hn.2 (fun y hy => hl y (by simp [hy])) b1 fun z hz2 => ?_
    have fresh : ∀ y ∈ l, x ≠ y := fun y hy e => hn.1 (e ▸ hy)
    rcases b2 z hz2 with hz2 | ⟨rfl, h0⟩
    · rcases a2 z hz2 with hz2 | ⟨rfl, h0⟩
      · exact ⟨(hz z hz2).1, fun y hy => (hz z hz2).2 y (by simp [hy])⟩
      · refine ⟨h0, fun y hy => ?_⟩
        have k := kid_inj hx (hl y (by simp [hy]))
        exact ⟨fun e => fresh y hy (k.1 h0 e), k.2.1 h0⟩
    · refine ⟨h0, fun y hy => ?_⟩
      have k := kid_inj hx (hl y (by simp [hy]))
      exact ⟨k.2.2.2 h0, fun e => fresh y hy (k.2.2.1 h0 e)⟩
end Go.Proofs.YtpdllgbfemnemaaGreat.Sx
end

section
namespace Go.Proofs.YtpdllgbfemnemaaGreat.Sx
open Go.RowKit
set_option linter.unusedVariables false

theorem shP_self (O : List Spot) : ∀ (h k : Nat) (w : Bool) (l : List Int), (nd h k : Int) ∈ (shP O h k w l).1
  | 0, _, _, _ => by simp [shP]
  | h + 1, k, w, l => by
    unfold shP
    cases findS O (nd (h + 1) k) <;> simp
theorem shP_agree {O O' : List Spot} : ∀ (h k : Nat) (w : Bool) (l : List Int), (∀ z ∈ (shP O h k w l).1, findS O' z = findS O z) → shP O' h k w l = shP O h k w l
  | 0, _, _, _, _ => rfl
  | h + 1, k, w, l, hz => by
    have hself := hz _ (shP_self O (h + 1) k w l)
    have kid : ∀ all late j, (∀ z ∈ (kidS (fun j w l => shP O h j w l) h all late j).1, findS O' z = findS O z) → kidS (fun j w l => shP O' h j w l) h all late j = kidS (fun j w l => shP O h j w l) h all late j := fun all late j hzj => by
      unfold kidS at hzj ⊢
      split
      · rename_i h1
        rw [if_pos h1] at hzj
        exact shP_agree h j true [] hzj
      · rename_i h1
        rw [if_neg h1] at hzj
        split
        · rename_i h2
          rw [if_pos h2] at hzj
          exact shP_agree h j false late hzj
        · rfl
    unfold shP at hz ⊢
    rw [hself]
    cases hf : findS O (nd (h + 1) k) with
    | none => rfl
    | some n =>
      simp only [hf, List.mem_append] at hz ⊢
      rw [kid _ _ (2 * k) fun z h1 => hz z (.inl (.inl h1)), kid _ _ (2 * k + 1) fun z h1 => hz z (.inr h1)]
theorem kidT_agree {O O' : List Spot} {o i : Nat} (hf : found O (nd i (sibN (o / 2 ^ i))) = true) (hz : ∀ z ∈ (kidT O o i).1, findS O' z = findS O z) : kidT O' o i = kidT O o i := by
  unfold kidT at hz ⊢
  rw [if_pos hf] at hz ⊢
  have : found O' (nd i (sibN (o / 2 ^ i))) = true := by
    unfold found
    rw [hz _ (shP_self _ _ _ _ _)]
    exact hf
  rw [if_pos this]
  exact shP_agree _ _ _ _ hz
theorem topS_agree {O O' : List Spot} {o : Nat} : ∀ h, (∀ i, i < h → found O (nd i (sibN (o / 2 ^ i))) = true) → (∀ z ∈ (topS O o h).1, findS O' z = findS O z) → topS O' o h = topS O o h
  | 0, _, _ => rfl
  | h + 1, hf, hz => by
    have e1 := topS_agree h (fun i hi => hf i (by omega)) fun z h1 => hz z (by
      unfold topS
      split <;> simp [h1])
    have e2 := kidT_agree (O' := O') (hf h (by omega)) fun z h1 => hz z (by
      unfold topS
      split <;> simp [h1])
    unfold topS
    rw [e1, e2]
theorem find_map (t : List Node) : ∀ (l : List Int) (z : Int), findS (l.map (spotX t)) z = if z ∈ l then some (nT t z.toNat) else none
  | [], z => by simp [findS]
  | x :: l, z => by
    have ih := find_map t l z
    unfold findS at ih ⊢
    rw [List.map_cons, List.find?_cons]
    by_cases h : x = z
    · subst h
      simp [spotX]
    · have : decide ((spotX t x).at_ = z) = false := by simp [spotX, h]
      rw [this]
      simp only
      rw [ih]
      have : z ≠ x := fun e => h e.symm
      simp [this]
theorem shut_map (t : List Node) : ∀ (l : List Int) (z : Int), shutF (l.map (stubX t)) z = if z ∈ l then some (hashX t z) else none
  | [], z => by simp [shutF]
  | x :: l, z => by
    have ih := shut_map t l z
    unfold shutF at ih ⊢
    rw [List.map_cons, List.find?_cons]
    by_cases h : x = z
    · subst h
      simp [stubX]
    · have : decide ((stubX t x).at_ = z) = false := by simp [stubX, h]
      rw [this]
      simp only
      rw [ih]
      have : z ≠ x := fun e => h e.symm
      simp [this]
theorem pw_len {l : List Int} {n : Nat} (hp : l.Pairwise (· < ·)) (hb : ∀ z ∈ l, 0 ≤ z ∧ z < (n : Int)) : l.length ≤ n := by
  have h2 : ((List.range n).map fun i : Nat => (i : Int)).Pairwise (· < ·) := by
    rw [List.pairwise_map]
    exact List.pairwise_lt_range.imp fun h => by omega
  have := (rise_sub hp h2 fun z hz => List.mem_map.2 ⟨z.toNat, List.mem_range.2 (by have := hb z hz; omega), by have := hb z hz; omega⟩).1
  simpa using this

/-- What is known of a tree that may be. -/
structure TreeOk (t : List Node) (d : Nat) : Prop where
  hd : d ≤ 16
  len : t.length + 1 = 2 ^ (d + 1)
  fine : ∀ x n, findS (spotsN t t.length) x = some n → fineP x n = true
  right : ∀ x ∈ t, x.right = true
  fit : ∀ x ∈ t, x.fit
theorem tree_ok {t : List Node} (r : RightT t) (hfit : ∀ x ∈ t, x.fit) : ∃ d, TreeOk t d ∧ leavesT t = ((2 ^ d : Nat) : Int) := by
  obtain ⟨hl, hf, hpos⟩ := leaves_len r.n
  obtain ⟨d, hd, e⟩ := fits_pow hf
  have e2 : 2 ^ (d + 1) = 2 * 2 ^ d := by rw [Nat.pow_succ]; omega
  have hright : ∀ x ∈ t, x.right = true := fun x hx => by
    obtain ⟨j, hj, rfl⟩ := List.mem_iff_getElem.1 hx
    rw [nT_at hj]; exact (r.ok j hj).1
  refine ⟨d, ⟨hd, by omega, fun x n hx => ?_, hright, hfit⟩, e⟩
  rw [find_spots] at hx
  split at hx
  · rename_i h
    injection hx with hx
    subst hx
    have hj : x.toNat < t.length := by omega
    obtain ⟨a1, a2, a3⟩ := r.ok _ hj
    simp only [fineP, Bool.and_eq_true, decide_eq_true_eq, List.all_eq_true]
    refine ⟨a1, ?_, fun u hu => ?_⟩
    · have hm : x.tmod 2 = ((x.toNat % 2 : Nat) : Int) := by rw [Int.tmod_eq_emod_of_nonneg h.1]; omega
      unfold otherK
      rw [hm]
      split <;> omega
    · have := (r.late _ hj u hu).2.2.1
      rwa [show ((x.toNat : Nat) : Int) = x by omega] at this
  · cases hx
theorem TreeOk.found {t : List Node} {d : Nat} (k : TreeOk t d) {z : Int} (hz : inR d 0 z) : found (spotsN t t.length) z = true := by
  have := k.len
  unfold inR at hz
  simp only [Sx.found, find_spots]
  rw [if_pos (by omega)]
  rfl

theorem cut_lists {t : List Node} {d o : Nat} (k : TreeOk t d) (ho : o < 2 ^ d) :
    cutA t ((2 ^ d : Nat) : Int) o = (topS (spotsN t t.length) o d).1 ∧ cutB t ((2 ^ d : Nat) : Int) o = (topS (spotsN t t.length) o d).2 ∧
    (∀ z, z ∈ opensL (spotsN t t.length) ((2 ^ d : Nat) : Int) o ↔ z ∈ (topS (spotsN t t.length) o d).1) ∧ (∀ z, z ∈ shutsL (spotsN t t.length) ((2 ^ d : Nat) : Int) o ↔ z ∈ (topS (spotsN t t.length) o d).2) ∧
    (opensL (spotsN t t.length) ((2 ^ d : Nat) : Int) o).length = (topS (spotsN t t.length) o d).1.length ∧ (shutsL (spotsN t t.length) ((2 ^ d : Nat) : Int) o).length = (topS (spotsN t t.length) o d).2.length := by
  have hd := k.hd
  obtain ⟨O, hO⟩ : ∃ O, O = spotsN t t.length := ⟨_, rfl⟩
  have hF := k.fine
  have hfo : ∀ z : Int, inR d 0 z → found O z = true := fun z hz => hO ▸ k.found hz
  unfold cutA cutB
  rw [← hO] at hF ⊢
  obtain ⟨s0, hs0⟩ : ∃ s0 : Lean_, s0 = ⟨((2 ^ d : Nat) : Int), (o : Int), O, []⟩ := ⟨_, rfl⟩
  have eO : s0.opn = O := by rw [hs0]
  have hn : s0.leaves = ((2 ^ d : Nat) : Int) := by rw [hs0]
  have he : s0.own = (o : Int) := by rw [hs0]
  have sh := topS_sh O hd ho d (Nat.le_refl _)
  have h0 : o / 2 ^ d = 0 := Nat.div_eq_of_lt ho
  rw [h0] at sh
  have hfd : ∀ z ∈ (topS O o d).1, found O z = true := fun z hz => hfo z (sh.ra z hz)
  obtain ⟨f1, f2⟩ := (found_iff (s := s0) hd ho hn he (by rw [eO]; exact hF)).1 (by rw [eO]; exact hfd)
  have hop : openedF s0 true = copathI (2 * (o : Int)) ((2 ^ d : Nat) : Int) := by
    unfold openedF
    rw [hn, he, List.filter_eq_self]
    intro c hc
    rw [show 2 * (o : Int) = (nd 0 o : Int) by rw [nd_zero]; omega, copath_range hd ho] at hc
    obtain ⟨i, hi, rfl⟩ := List.mem_map.1 hc
    have hi := List.mem_range.1 hi
    have hin : inR d 0 (nd i (sibN (o / 2 ^ i))) := inR_nd.2 ⟨by omega, Nat.div_eq_of_lt (sib_lt ho hi)⟩
    have := hfo _ hin
    rw [eO]
    simpa [found] using this
  have hall : allL s0 = opensL O ((2 ^ d : Nat) : Int) o := by
    unfold allL ownL opensL
    rw [hop, hn, he, eO]
  have hm := mem_all (s := s0) hd ho hn he (by rw [eO]; exact hF) f2
  have hs := mem_shut (s := s0) hd ho (by rw [eO]; exact hfd) hm
  have hsl : shutL s0 = shutsL O ((2 ^ d : Nat) : Int) o := by unfold shutL shutsL; rw [hall]
  rw [hall, eO] at hm
  rw [hsl, eO] at hs
  have n1 : (opensL O ((2 ^ d : Nat) : Int) o).Nodup := opens_nodup hd ho hF fun c hc => by
    have := f2 c (by rw [hop]; exact hc)
    rwa [hn, eO] at this
  have hnode := opensL_node (O := O) (n := ((2 ^ d : Nat) : Int)) (own := (o : Int)) (pow_fits d hd) (by omega) (by omega)
  have n2 : (shutsL O ((2 ^ d : Nat) : Int) o).Nodup := kids_nodup _ _ n1 hnode (by simp) (by simp)
  have e1 : riseD (opensL O ((2 ^ d : Nat) : Int) o) = (topS O o d).1 := by
    rw [riseD_rise n1]
    exact rise_ext (rise_pw _) sh.pa fun z => by rw [mem_rise, hm]
  have e2 : riseD (shutsL O ((2 ^ d : Nat) : Int) o) = (topS O o d).2 := by
    rw [riseD_rise n2]
    exact rise_ext (rise_pw _) sh.pb fun z => by rw [mem_rise, hs]
  have l1 : (riseD (opensL O ((2 ^ d : Nat) : Int) o)).length = (opensL O ((2 ^ d : Nat) : Int) o).length := by unfold riseD; rw [riseD_len]; simp
  have l2 : (riseD (shutsL O ((2 ^ d : Nat) : Int) o)).length = (shutsL O ((2 ^ d : Nat) : Int) o).length := by unfold riseD; rw [riseD_len]; simp
  exact ⟨e1, e2, hm, hs, by rw [← l1, e1], by rw [← l2, e2]⟩

theorem cut_good {t : List Node} {d o : Nat} (k : TreeOk t d) (ho : o < 2 ^ d) (hleaf : (nT t (2 * o)).kind.toNat = 1) :
    GoodS (cutS t ((2 ^ d : Nat) : Int) o) d o ∧ hashP (cutS t ((2 ^ d : Nat) : Int) o) d 0 = hash18 t d 0 ∧ (cutS t ((2 ^ d : Nat) : Int) o).opn.length ≤ 2 ^ (d + 1) ∧ (cutS t ((2 ^ d : Nat) : Int) o).shut.length ≤ 2 ^ (d + 1) := by
  have hd := k.hd
  have hlen := k.len
  obtain ⟨c1, c2, c3, c4, c5, c6⟩ := cut_lists k ho
  obtain ⟨O, hO⟩ : ∃ O, O = spotsN t t.length := ⟨_, rfl⟩
  have hF := k.fine
  have hfo : ∀ z : Int, inR d 0 z → found O z = true := fun z hz => hO ▸ k.found hz
  rw [← hO] at hF c1 c2 c3 c4 c5 c6
  have sh := topS_sh O hd ho d (Nat.le_refl _)
  have h0 : o / 2 ^ d = 0 := Nat.div_eq_of_lt ho
  rw [h0] at sh
  obtain ⟨A, hA⟩ : ∃ A, A = (topS O o d).1 := ⟨_, rfl⟩
  obtain ⟨B, hB⟩ : ∃ B, B = (topS O o d).2 := ⟨_, rfl⟩
  have hfz : ∀ z : Int, inR d 0 z → findS O z = some (nT t z.toNat) := fun z hz => by
    unfold inR at hz
    rw [hO, find_spots, if_pos (by omega)]
  obtain ⟨s, hs⟩ : ∃ s, s = cutS t ((2 ^ d : Nat) : Int) o := ⟨_, rfl⟩
  have es : s = ⟨((2 ^ d : Nat) : Int), (o : Int), A.map (spotX t), B.map (stubX t)⟩ := by rw [hs, hA, hB, ← c1, ← c2]; rfl
  rw [← hs]
  have eo : s.opn = A.map (spotX t) := by rw [es]
  have eb : s.shut = B.map (stubX t) := by rw [es]
  have hn : s.leaves = ((2 ^ d : Nat) : Int) := by rw [es]
  have he : s.own = (o : Int) := by rw [es]
  have hag : ∀ z ∈ (topS O o d).1, findS s.opn z = findS O z := fun z hz => by
    rw [eo, find_map, hfz z (sh.ra z hz), hA, if_pos hz]
  have htop : topS s.opn o d = topS O o d := topS_agree d (fun i hi => hfo _ (inR_nd.2 ⟨by omega, Nat.div_eq_of_lt (sib_lt ho hi)⟩)) hag
  have mo : s.opn.map (·.at_) = A := by rw [eo, List.map_map]; exact (List.map_congr_left fun x _ => rfl).trans (List.map_id _)
  have mb : s.shut.map (·.at_) = B := by rw [eb, List.map_map]; exact (List.map_congr_left fun x _ => rfl).trans (List.map_id _)
  have pa : A.Pairwise (· < ·) := hA ▸ sh.pa
  have pb : B.Pairwise (· < ·) := hB ▸ sh.pb
  have ra : ∀ z ∈ A, inR d 0 z := hA ▸ sh.ra
  have rb : ∀ z ∈ B, inR d 0 z := hB ▸ sh.rb
  have hlA : A.length ≤ 2 ^ (d + 1) := pw_len pa fun z hz => by have := ra z hz; unfold inR at this; omega
  have hlB : B.length ≤ 2 ^ (d + 1) := pw_len pb fun z hz => by have := rb z hz; unfold inR at this; omega
  have hp17 := pow17 hd
  have hok : ∀ z ∈ A, okO s.opn z = true := fun z hz => by
    have e : findS s.opn z = some (nT t z.toNat) := by rw [eo, find_map, if_pos hz]
    unfold okO
    rw [e]
    exact hF z _ (hfz z (ra z hz))
  have hX32 : ∀ z, (hashX t z).length = 32 := fun z => hash18_len t _ _
  have hst : ∀ z ∈ B, stubOk s.shut z = true := fun z hz => by
    have e : shutF s.shut z = some (hashX t z) := by rw [eb, shut_map, if_pos hz]
    unfold stubOk
    rw [e]
    exact decide_eq_true (hX32 z)
  have hownA : (nd 0 o : Int) ∈ A := by rw [hA]; exact ((topS_mem O o d _).1).2 (.inl ⟨0, by omega, by simp⟩)
  have e20 : 2 * (o : Int) = (nd 0 o : Int) := by rw [nd_zero]; omega
  have hleafK : leafK s = true := by
    have e : findS s.opn (2 * s.own) = some (nT t (2 * o)) := by
      rw [he, e20, eo, find_map, if_pos hownA, nd_zero, Int.toNat_natCast]
    unfold leafK
    rw [e]
    exact decide_eq_true hleaf
  have hlook : s.lookOk = true := by
    simp only [Lean_.lookOk, Bool.and_eq_true, riseF_iff]
    rw [mo, mb]
    exact ⟨⟨pa, fun z hz => by have := inR_pos (ra z hz); omega⟩, pb, fun z hz => by have := inR_pos (rb z hz); omega⟩
  have hright : rightP s = true := by
    rw [rightP_iff s hd ho hn he, htop, ← hA, ← hB]
    refine ⟨hlook, hleafK, hok, hst, ?_⟩
    rw [eo, eb, List.length_map, List.length_map]
  have hol : s.opn.length = A.length := by rw [eo, List.length_map]
  have hbl : s.shut.length = B.length := by rw [eb, List.length_map]
  have hzt : ∀ z ∈ A, z.toNat < t.length := fun z hz => by have := ra z hz; unfold inR at this; omega
  have hfit : s.fitN := by
    refine ⟨by omega, by omega, fun x hx => ?_, fun x hx => ?_⟩
    · rw [eo] at hx
      obtain ⟨z, hz, rfl⟩ := List.mem_map.1 hx
      exact k.fit _ (nT_mem (hzt z hz))
    · rw [eb] at hx
      obtain ⟨z, hz, rfl⟩ := List.mem_map.1 hx
      have := hX32 z
      simp only [stubX]; omega
  have g : GoodS s d o := ⟨hright, hfit, by unfold countS; omega, hd, ho, hn, he⟩
  refine ⟨g, ?_, by omega, by omega⟩
  rw [(hash_law hd ho hn he hright).1]
  have key : ∀ h j, h ≤ d → j < 2 ^ (d - h) → ((nd h j : Int) ∈ A ∨ (nd h j : Int) ∈ B) → hashR s h j = hash18 t h j := by
    have stub_case : ∀ h j, h ≤ d → j < 2 ^ (d - h) → (nd h j : Int) ∈ B → stubB s.shut (nd h j) = hash18 t h j := fun h j hh hj hm => by
      have e : shutF s.shut (nd h j) = some (hashX t (nd h j)) := by rw [eb, shut_map, if_pos hm]
      rw [(shutF_mem e).1, hashX_nd t (by omega) (lt16 hd hj)]
    have dj : ∀ z ∈ A, z ∉ B := hA ▸ hB ▸ sh.dj
    intro h
    induction h with
    | zero =>
      intro j hh hj hm
      rcases hm with hm | hm
      · have e : findS s.opn (nd 0 j) = some (nT t (nd 0 j)) := by rw [eo, find_map, if_pos hm, Int.toNat_natCast]
        simp only [hashR, e, hash18]
      · have e : findS s.opn (nd 0 j) = none := by rw [eo, find_map, if_neg fun h => dj _ h hm]
        have := stub_case 0 j hh hj hm
        simp only [hashR, e, this]
    | succ h ih =>
      intro j hh hj hm
      have hk2 : 2 ^ (d - h) = 2 * 2 ^ (d - (h + 1)) := by rw [show d - h = (d - (h + 1)) + 1 by omega, Nat.pow_succ]; omega
      rcases hm with hm | hm
      · have e : findS s.opn (nd (h + 1) j) = some (nT t (nd (h + 1) j)) := by rw [eo, find_map, if_pos hm, Int.toNat_natCast]
        have hk := sh.kids (nd (h + 1) j) (hA ▸ hm) (by rw [hfz _ (ra _ hm)]; rfl)
        rw [left_nd hd (by omega) hj, right_nd hd (by omega) hj, ← hA, ← hB] at hk
        have i1 := ih (2 * j) (by omega) (by omega) (hk.1 (by omega))
        have i2 := ih (2 * j + 1) (by omega) (by omega) (hk.2 (by omega))
        simp only [hashR, e, hash18, i1, i2]
      · have e : findS s.opn (nd (h + 1) j) = none := by rw [eo, find_map, if_neg fun h => dj _ h hm]
        have := stub_case (h + 1) j hh hj hm
        simp only [hashR, e, this]
  exact key d 0 (Nat.le_refl _) (pow_pos' _) (by rw [hA, hB]; exact sh.root)
end Go.Proofs.YtpdllgbfemnemaaGreat.Sx
end

section
namespace Go.Proofs.YtpdllgbfemnemaaGreat.Sx
open Go.RowKit
set_option linter.unusedVariables false

theorem kidS_pos {O : List Spot} {h : Nat} (all : Bool) (late : List Int) (j : Nat) : 1 ≤ (kidS (fun j w l => shP O h j w l) h all late j).1.length + (kidS (fun j w l => shP O h j w l) h all late j).2.length := by
  have h1 : ∀ w l, 1 ≤ (shP O h j w l).1.length := fun w l => List.length_pos_of_mem (shP_self O h j w l)
  unfold kidS
  split
  · have := h1 true []; simp only; omega
  · split
    · have := h1 false late; simp only; omega
    · simp
theorem kidT_pos (O : List Spot) (o i : Nat) : 1 ≤ (kidT O o i).1.length + (kidT O o i).2.length ∧ (1 ≤ i → found O (nd i (sibN (o / 2 ^ i))) = true → 3 ≤ (kidT O o i).1.length + (kidT O o i).2.length) := by
  unfold kidT
  constructor
  · split
    · have := List.length_pos_of_mem (shP_self O i (sibN (o / 2 ^ i)) true [])
      omega
    · simp
  · intro hi hf
    rw [if_pos hf]
    obtain ⟨i, rfl⟩ : ∃ j, i = j + 1 := ⟨i - 1, by omega⟩
    obtain ⟨n, hn⟩ := Option.isSome_iff_exists.1 hf
    have k1 := kidS_pos (O := O) (h := i) (true && decide (n.kind.toNat = 0)) n.par.late (2 * sibN (o / 2 ^ (i + 1)))
    have k2 := kidS_pos (O := O) (h := i) (true && decide (n.kind.toNat = 0)) n.par.late (2 * sibN (o / 2 ^ (i + 1)) + 1)
    unfold shP
    simp only [hn, if_true, List.length_append, List.length_cons, List.length_nil]
    omega
theorem topS_least (O : List Spot) (o : Nat) : ∀ h, 2 * h + 1 ≤ (topS O o h).1.length + (topS O o h).2.length ∧ ((topS O o h).1.length + (topS O o h).2.length ≤ 2 * h + 1 → ∀ i, i < h → (kidT O o i).1.length + (kidT O o i).2.length ≤ 1)
  | 0 => by simp [topS]
  | h + 1 => by
    obtain ⟨a, b⟩ := topS_least O o h
    have k := (kidT_pos O o h).1
    have e : (topS O o (h + 1)).1.length + (topS O o (h + 1)).2.length = (topS O o h).1.length + (topS O o h).2.length + 1 + ((kidT O o h).1.length + (kidT O o h).2.length) := by
      simp only [topS]
      split <;> simp <;> omega
    rw [e]
    refine ⟨by omega, fun hl i hi => ?_⟩
    rcases Nat.lt_or_ge i h with h1 | h1
    · exact b (by omega) i h1
    · have : i = h := by omega
      subst this; omega
theorem least_shut {s : Lean_} {d o : Nat} (g : GoodS s d o) : 2 * d + 1 ≤ countS s ∧ (countS s ≤ 2 * d + 1 → ∀ i, 1 ≤ i → i < d → found s.opn (nd i (sibN (o / 2 ^ i))) = false) := by
  have r := (right_is g.hd g.ho g.hn g.he).1 g.right
  obtain ⟨a, b⟩ := topS_least s.opn o d
  have e : (topS s.opn o d).1.length + (topS s.opn o d).2.length = countS s := by
    rw [r.ea, r.eb, List.length_map, List.length_map]; rfl
  rw [e] at a b
  refine ⟨a, fun hc i h1 hi => ?_⟩
  have h2 := b hc i hi
  cases hf : found s.opn (nd i (sibN (o / 2 ^ i))) with
  | false => rfl
  | true => have := (kidT_pos s.opn o i).2 h1 hf; omega
theorem node_fit {n : Node} (hs : n.small = true) (hl : ∀ u ∈ n.par.late, i64 u) : n.fit ∧ n.par.late.length ≤ 60 := by
  simp only [Node.small, decide_eq_true_eq] at hs
  unfold Node.fit Leaf.fit Par.fit
  refine ⟨⟨by omega, by omega, by omega, by omega, hl⟩, by omega⟩
/-- A fit, as a member of the law meets it. -/
theorem fit_ok {s : Lean_} {d o : Nat} (g : GoodS s d o) (picks : List Int) (hp : picks.length ≤ 20) (hpi : ∀ p ∈ picks, i64 p) {bound : Int} (hb : ((2 * d + 1 : Nat) : Int) ≤ bound) :
    ∃ u : Lean_, GoodS u d o ∧ hashP u d 0 = hashP s d 0 ∧ (countS u : Int) ≤ bound ∧ Gives Tryz.prog 27 [.ag s.c, I bound, is picks] (.r (.tu [.ag u.c, .i .u8 0])) := by
  have hbl : leastI s.leaves ≤ bound := by rw [g.hn, least_eq g.hd]; exact hb
  obtain ⟨J, hJ, hlt⟩ := seq_ends g picks hbl
  obtain ⟨gT, _, hh, _⟩ := seq_good g picks hbl J hlt
  exact ⟨_, gT, hh, hJ, g_fit g bound picks (by omega) hpi hbl J hJ hlt⟩
theorem hash_ok {s : Lean_} {d o : Nat} (g : GoodS s d o) : Gives Tryz.prog 12 [.ag s.c] (.r (.tu [bs (hashP s d 0), .i .u8 0])) := by
  have h := g_chash s g.fit
  have hlv : lv (s.leaves - 1).toNat = d := by rw [g.hn, ← nd_root, Int.toNat_natCast, lv_nd g.hd]
  rw [g.right, hlv] at h
  simpa using h
theorem right_ok {s : Lean_} {d o : Nat} (g : GoodS s d o) : Gives Tryz.prog 17 [.ag s.c] (.r (.b true)) := by
  have h := g_cright s g.fit
  rwa [g.right] at h
theorem count_ok {s : Lean_} {d o : Nat} (g : GoodS s d o) : Gives Tryz.prog 15 [.ag s.c] (.r (I (countS s))) := by
  have h := g_count s ⟨g.fit.1, g.fit.2.1⟩
  have e : ((countS s : Nat) : Int) = s.opn.length + s.shut.length := by unfold countS; omega
  rw [e]; exact h

set_option maxHeartbeats 2000000 in
theorem g_keeps_law (t : List Node) (i : Int) (a b : UInt8) (one two : List Int) (htl : t.length ≤ maxL) (hlate : ∀ x ∈ t, ∀ u ∈ x.par.late, i64 u) (h1l : one.length ≤ maxL) (h2l : two.length ≤ maxL) (h1i : ∀ p ∈ one, i64 p) (h2i : ∀ p ∈ two, i64 p) :
    Gives Tryz.prog 6 [nods t, I i, U8 a, U8 b, is one, is two] (.r (.b true)) := by
  refine gives_of_vcg (T := Tab) mixed Tab_ok Tryz.func6 rfl (by kernel_rfl) ?_
  refine Vcall.go g_alive ?_
  refine Vcmp.f rfl (Vif.f ?_)
  refine Vcall.bool (g_small17 t htl) (fun hsm => ?_) (fun hsm => ?_)
  case refine_2 =>
    refine Vcmp.t rfl ?_
    exact Vif.t (Cv.refl _)
  refine Vcmp.f rfl ?_
  simp only [smallT, decide_eq_true_eq] at hsm
  obtain ⟨hl40, hns⟩ := hsm
  have hfit : ∀ x ∈ t, x.fit := fun x hx => (node_fit (hns x hx) (hlate x hx)).1
  have hl1000 : ∀ x ∈ t, x.par.late.length ≤ 1000 := fun x hx => by have := (node_fit (hns x hx) (hlate x hx)).2; omega
  have gm := g_member19 t i (by omega) hfit
  cases hr : rightT t with
  | false =>
    rw [if_pos hr] at gm
    refine Vcall.go gm ?_
    refine Vcmp.t rfl ?_
    exact Vif.t (Cv.refl _)
  | true =>
  rw [if_neg (by rw [hr]; decide)] at gm
  by_cases hmem : i ∈ membersT t
  rotate_left
  · rw [if_neg hmem] at gm
    refine Vcall.go gm ?_
    refine Vcmp.t rfl ?_
    exact Vif.t (Cv.refl _)
  rw [if_pos hmem] at gm
  refine Vcall.go gm ?_
  refine Vcmp.f rfl ?_
  refine Vcmp.split (fun h20 => Vif.t (Cv.refl _)) (fun h20 => ?_)
  simp only [beq_iff_eq, bne_iff_ne, beq_eq_false_iff_ne, bne_eq_false_iff_eq, decide_eq_true_eq, decide_eq_false_iff_not, Bool.not_eq_true', Bool.not_eq_false', ne_eq] at h20
  have hp1 : one.length ≤ 20 := by omega
  refine Vcmp.split (fun h21 => Vif.t (Cv.refl _)) (fun h21 => Vif.f ?_)
  simp only [beq_iff_eq, bne_iff_ne, beq_eq_false_iff_ne, bne_eq_false_iff_eq, decide_eq_true_eq, decide_eq_false_iff_not, Bool.not_eq_true', Bool.not_eq_false', ne_eq] at h21
  have hp2 : two.length ≤ 20 := by omega
  have rt := rightT_iff.1 hr
  obtain ⟨d, k, hlv⟩ := tree_ok rt hfit
  have hd := k.hd
  have hlen := k.len
  have e2 : 2 ^ (d + 1) = 2 * 2 ^ d := by rw [Nat.pow_succ]; omega
  obtain ⟨o, rfl, ho, hleaf⟩ := mem_members hmem
  have ho' : o < 2 ^ d := by omega
  obtain ⟨c1, c2, c3, c4, c5, c6⟩ := cut_lists k ho'
  obtain ⟨g, hh, l1, l2⟩ := cut_good k ho' hleaf
  have sh := topS_sh (spotsN t t.length) hd ho' d (Nat.le_refl _)
  rw [Nat.div_eq_of_lt ho'] at sh
  have hof : ∀ z : Int, inR d 0 z → ofI z ((2 ^ d : Nat) : Int) = true := fun z hz => by
    unfold inR at hz
    exact ofI_iff.2 ⟨pow_fits d hd, by omega, by omega⟩
  have la := pw_len (n := 2 ^ (d + 1)) sh.pa fun z hz => by have := sh.ra z hz; unfold inR at this; omega
  have lb := pw_len (n := 2 ^ (d + 1)) sh.pb fun z hz => by have := sh.rb z hz; unfold inR at this; omega
  have gc := g_cut t hfit k.right hl1000 hd hlen (own := (o : Int)) (by omega) (by omega) (fun x hx => hof x (sh.ra x ((c3 x).1 hx))) (fun x hx => hof x (sh.rb x ((c4 x).1 hx))) (by omega) (by omega)
  obtain ⟨s, hs⟩ : ∃ s, s = cutS t ((2 ^ d : Nat) : Int) o := ⟨_, rfl⟩
  rw [← hs] at gc g hh
  have hleast := g_least s.leaves
  have hls : leastI s.leaves = ((2 * d + 1 : Nat) : Int) := by rw [g.hn, least_eq hd]
  rw [hls] at hleast
  have ha := a.toNat_lt
  have hb := b.toNat_lt
  have hma : ((a.toNat : Nat) : Int).tmod 20 = ((a.toNat % 20 : Nat) : Int) := by rw [Int.tmod_eq_emod_of_nonneg (by omega)]; omega
  have hmb : ((b.toNat : Nat) : Int).tmod 20 = ((b.toNat % 20 : Nat) : Int) := by rw [Int.tmod_eq_emod_of_nonneg (by omega)]; omega
  obtain ⟨x, gx, hx, cx, fx⟩ := fit_ok g one hp1 h1i (bound := ((2 * d + 1 + a.toNat % 20 : Nat) : Int)) (by omega)
  obtain ⟨y, gy, hy, cy, fy⟩ := fit_ok gx two hp2 h2i (bound := ((2 * d + 1 + b.toNat % 20 : Nat) : Int)) (by omega)
  obtain ⟨u, gu, hu, cu, fu⟩ := fit_ok g one hp1 h1i (bound := ((2 * d + 1 : Nat) : Int)) (by omega)
  obtain ⟨v, gv, hv, cv, fv⟩ := fit_ok gy two hp2 h2i (bound := ((2 * d + 1 : Nat) : Int)) (by omega)
  have lu := least_shut gu
  have lv := least_shut gv
  have hashx := hash_ok gx
  have hashu := hash_ok gu
  rw [hx, hh] at hashx
  rw [hu, hh] at hashu
  have ht := g_tree18 t hfit k.right d hd hlen
  obtain ⟨H, hH⟩ : ∃ H, H = hash18 t d 0 := ⟨_, rfl⟩
  rw [← hH] at hashx hashu ht
  have hcop := copath_list hd ho' g.hn g.he
  have gcop := g_copath14 (2 * (o : Int)) s.leaves
  rw [g.he] at hcop
  rw [hcop] at gcop
  obtain ⟨C, hC⟩ : ∃ C, C = (List.range d).map fun i => (nd i (sibN (o / 2 ^ i)) : Int) := ⟨_, rfl⟩
  have hCl : C.length = d := by rw [hC]; simp
  have hCat : ∀ (n : Nat) (hn : n < C.length), C[n] = (nd n (sibN (o / 2 ^ n)) : Int) := fun n hn => by simp [hC]
  rw [← hC] at gcop
  have hp := pow_le16 hd
  refine Vcall.go gc ?_
  refine Vcall.go hleast ?_
  refine VloadN.mk' rfl rfl ?_
  refine Vint.i64 rfl (by omega) ?_
  refine ⟨by decide, _, rfl, ?_⟩
  refine Vint.i64 (m := ((2 * d + 1 + a.toNat % 20 : Nat) : Int)) (by rw [hma]; omega) (by omega) ?_
  refine Vcall.go fx ?_
  refine VloadN.mk' rfl rfl ?_
  refine Vint.i64 rfl (by omega) ?_
  refine ⟨by decide, _, rfl, ?_⟩
  refine Vint.i64 (m := ((2 * d + 1 + b.toNat % 20 : Nat) : Int)) (by rw [hmb]; omega) (by omega) ?_
  refine Vcall.go fy ?_
  refine VloadN.mk' rfl rfl ?_
  refine Vcall.go fu ?_
  refine VloadN.mk' rfl rfl ?_
  refine Vcall.go fv ?_
  refine VloadN.mk' rfl rfl ?_
  refine Vcall.go hashx ?_
  refine VloadN.mk' rfl rfl ?_
  refine Vcall.go hashu ?_
  iterate 11 refine Vint.i64 rfl (by simp) ?_
  refine Vcmp.f rfl (Vif.f ?_)
  refine Vcall.go ht ?_
  refine Vint.i64 rfl (by omega) ?_
  refine Vcall.go gcop ?_
  refine Vloop.mk' (fun n : Nat => { F := [(2, .r (U8 a)), (3, .r (U8 b)), (14, .r (I ((2 * d + 1 : Nat) : Int))), (15, .own 0), (17, .own 1), (19, .own 2), (21, .own 3), (23, .r (bs H)), (25, .r (bs H)), (27, .r (bs H)), (28, .r (is C)), (29, .r (I n))], O := [(0, some (.box (x.c.map .r))), (1, some (.box (y.c.map .r))), (2, some (.box (u.c.map .r))), (3, some (.box (v.c.map .r)))], nx := 4 })
    (fun n => 1 ≤ n) (fun n => C.length - n) 1 (by omega)
    (sub_of [(0, 1), (1, 2), (2, 3), (3, 4)] rfl ⟨Cv.refl _, Cv.refl _, Cv.refl _, rfl, rfl, rfl, rfl, Cv.refl _, Cv.refl _, Cv.refl _, Cv.refl _, Cv.refl _, trivial⟩ ⟨cvCells_refl x.c, cvCells_refl y.c, cvCells_refl u.c, cvCells_refl v.c, trivial⟩) ?_
  intro n hn1
  refine Vcmp.split (fun h => Vif.t ?_) (fun h => Vif.f ?_)
  · simp only [beq_iff_eq, bne_iff_ne, beq_eq_false_iff_ne, bne_eq_false_iff_eq, decide_eq_true_eq, decide_eq_false_iff_not, Bool.not_eq_true', Bool.not_eq_false', ne_eq] at h
    have hn : n < C.length := by omega
    have f1 := lu.2 (by omega) n hn1 (by omega)
    have f2 := lv.2 (by omega) n hn1 (by omega)
    rw [← hCat n hn] at f1 f2
    have gf1 := g_find u.opn C[n] (by have := gu.fit.1; omega)
    have gf2 := g_find v.opn C[n] (by have := gv.fit.1; omega)
    simp only [found, Option.isSome_eq_false_iff, Option.isNone_iff_eq_none] at f1 f2
    rw [f1] at gf1
    rw [f2] at gf2
    refine Vdraw.mk' (by kernel_rfl) ?_
    refine Vidx.mk' (by omega) (by omega) (idx_map rfl hn) (Vload1.mk' rfl ?_)
    refine Vcall.go gf1 ?_
    refine Vdraw.mk' (by kernel_rfl) ?_
    refine Vidx.mk' (by omega) (by omega) (idx_map rfl hn) (Vload1.mk' rfl ?_)
    refine Vcall.go gf2 ?_
    refine Vif.f ?_
    refine Vint.i64 (m := ((n + 1 : Nat) : Int)) (by omega) (by omega) ?_
    exact ⟨n + 1, by omega, by omega, sub_of [(0, 0), (1, 1), (2, 2), (3, 3)] rfl ⟨Cv.refl _, Cv.refl _, Cv.refl _, rfl, rfl, rfl, rfl, Cv.refl _, Cv.refl _, Cv.refl _, Cv.refl _, Cv.refl _, trivial⟩ ⟨cvCells_refl x.c, cvCells_refl y.c, cvCells_refl u.c, cvCells_refl v.c, trivial⟩⟩
  have same := g_same01 H H
  simp only [decide_true] at same
  refine VloadN.mk' rfl rfl ?_
  refine Vcall.go (count_ok gx) ?_
  refine Vint.i64 rfl (by omega) ?_
  refine ⟨by decide, _, rfl, ?_⟩
  refine Vint.i64 (m := ((2 * d + 1 + a.toNat % 20 : Nat) : Int)) (by rw [hma]; omega) (by omega) ?_
  refine Vcmp.t (by simp only [beq_iff_eq, bne_iff_ne, beq_eq_false_iff_ne, bne_eq_false_iff_eq, decide_eq_true_eq, decide_eq_false_iff_not, Bool.not_eq_true', Bool.not_eq_false', ne_eq]; omega) ?_
  refine VloadN.mk' rfl rfl ?_
  refine Vcall.go (count_ok gy) ?_
  refine Vint.i64 rfl (by omega) ?_
  refine ⟨by decide, _, rfl, ?_⟩
  refine Vint.i64 (m := ((2 * d + 1 + b.toNat % 20 : Nat) : Int)) (by rw [hmb]; omega) (by omega) ?_
  refine Vcmp.t (by simp only [beq_iff_eq, bne_iff_ne, beq_eq_false_iff_ne, bne_eq_false_iff_eq, decide_eq_true_eq, decide_eq_false_iff_not, Bool.not_eq_true', Bool.not_eq_false', ne_eq]; omega) ?_
  refine VloadN.mk' rfl rfl ?_
  refine Vcall.go (count_ok gu) ?_
  refine Vcmp.t (by simp only [beq_iff_eq, bne_iff_ne, beq_eq_false_iff_ne, bne_eq_false_iff_eq, decide_eq_true_eq, decide_eq_false_iff_not, Bool.not_eq_true', Bool.not_eq_false', ne_eq]; omega) ?_
  refine VloadN.mk' rfl rfl ?_
  refine Vcall.go (count_ok gv) ?_
  refine Vcmp.t (by simp only [beq_iff_eq, bne_iff_ne, beq_eq_false_iff_ne, bne_eq_false_iff_eq, decide_eq_true_eq, decide_eq_false_iff_not, Bool.not_eq_true', Bool.not_eq_false', ne_eq]; omega) ?_
  refine Vcall.go same ?_
  refine Vcall.go same ?_
  refine VloadN.mk' rfl rfl ?_
  refine Vcall.go (right_ok gx) ?_
  refine VloadN.mk' rfl rfl ?_
  refine Vcall.go (right_ok gu) ?_
  exact Cv.refl _
end Go.Proofs.YtpdllgbfemnemaaGreat.Sx
end
