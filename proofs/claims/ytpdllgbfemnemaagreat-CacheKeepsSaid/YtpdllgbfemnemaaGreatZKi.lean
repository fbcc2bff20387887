import Derived.Test.YtpdllgbfemnemaaGreatZKc
section
namespace Go.Proofs.YtpdllgbfemnemaaGreat.Sx
open Go.RowKit

theorem g_rpar16 (p : Par) (hp : p.fit) : Gives Tryz.prog 84 [.ag p.c] (.r (.b p.right)) := by
  refine gives_of_vcg (T := Tab) mixed Tab_ok Tryz.func84 rfl (by kernel_rfl) ?_
  obtain ⟨hp1, hp2, hp3, hp4⟩ := hp
  refine Vloop.mk' (fun i : Nat × Int => { F := [(1, .own 0), (3, .r (I i.1))], O := [(0, some (.box (p.c.map .r)))], nx := 1 })
    (fun i => i.1 ≤ p.late.length ∧ lateF (-1) p.late = lateF i.2 (p.late.drop i.1) ∧ -1 ≤ i.2 ∧ (i.1 = 0 → i.2 = -1) ∧ ∀ h : 0 < i.1 ∧ i.1 - 1 < p.late.length, i.2 = p.late[i.1 - 1]) (fun i => p.late.length - i.1) (0, -1) ⟨by simp, by simp, by simp, by simp, by simp⟩ (sub_of [(0, 0)] rfl ⟨rfl, Cv.refl _, trivial⟩ ⟨cvCells_refl _, trivial⟩) ?_
  rintro ⟨j, last⟩ ⟨hj, hlate, hge, h0, hpos⟩
  simp only at hj hlate hge h0 hpos
  refine Vcmp.split (fun h => Vif.t ?_) (fun h => Vif.f ?_)
  · simp only [beq_iff_eq, bne_iff_ne, beq_eq_false_iff_ne, bne_eq_false_iff_eq, decide_eq_true_eq, decide_eq_false_iff_not, Bool.not_eq_true', Bool.not_eq_false', ne_eq] at h
    have hj' : j < p.late.length := by omega
    have hx := hp4 _ (List.getElem_mem hj')
    rw [List.drop_eq_getElem_cons hj'] at hlate
    simp only [lateF] at hlate
    refine Vdraw.mk' (by kernel_rfl) ?_
    refine Vidx.mk' (by omega) (by omega) (idx_map rfl hj') (Vload1.mk' rfl ?_)
    have bad : ¬ (last < p.late[j] ∧ p.late[j] < 65536) → RV.b false = RV.b p.right := fun hh => by simp [Par.right, hlate, hh]
    have good : last < p.late[j] ∧ p.late[j] < 65536 → ∃ i' : Nat × Int, (i'.1 ≤ p.late.length ∧ lateF (-1) p.late = lateF i'.2 (p.late.drop i'.1) ∧ -1 ≤ i'.2 ∧ (i'.1 = 0 → i'.2 = -1) ∧ ∀ h : 0 < i'.1 ∧ i'.1 - 1 < p.late.length, i'.2 = p.late[i'.1 - 1]) ∧ i'.1 = j + 1 := fun hh => by
      rw [decide_eq_true hh, Bool.true_and] at hlate
      exact ⟨(j + 1, p.late[j]), ⟨by simp only; omega, hlate, by simp only; omega, by simp, fun _ => rfl⟩, rfl⟩
    refine Vcmp.split (fun h1 => Vif.t (Cv.of_eq (bad ?_))) (fun h1 => ?_)
    · simp only [beq_iff_eq, bne_iff_ne, beq_eq_false_iff_ne, bne_eq_false_iff_eq, decide_eq_true_eq, decide_eq_false_iff_not, Bool.not_eq_true', Bool.not_eq_false', ne_eq] at h1; omega
    · simp only [beq_iff_eq, bne_iff_ne, beq_eq_false_iff_ne, bne_eq_false_iff_eq, decide_eq_true_eq, decide_eq_false_iff_not, Bool.not_eq_true', Bool.not_eq_false', ne_eq] at h1
      refine Vidx.mk' (by omega) (by omega) (idx_map rfl hj') (Vload1.mk' rfl ?_)
      refine Vcmp.split (fun h2 => Vif.t (Cv.of_eq (bad ?_))) (fun h2 => ?_)
      · simp only [beq_iff_eq, bne_iff_ne, beq_eq_false_iff_ne, bne_eq_false_iff_eq, decide_eq_true_eq, decide_eq_false_iff_not, Bool.not_eq_true', Bool.not_eq_false', ne_eq] at h2; omega
      · simp only [beq_iff_eq, bne_iff_ne, beq_eq_false_iff_ne, bne_eq_false_iff_eq, decide_eq_true_eq, decide_eq_false_iff_not, Bool.not_eq_true', Bool.not_eq_false', ne_eq] at h2
        refine Vcmp.split (fun h3 => ?_) (fun h3 => ?_)
        · simp only [beq_iff_eq, bne_iff_ne, beq_eq_false_iff_ne, bne_eq_false_iff_eq, decide_eq_true_eq, decide_eq_false_iff_not, Bool.not_eq_true', Bool.not_eq_false', ne_eq] at h3
          have hj0 : 0 < j := by omega
          have hlast := hpos ⟨hj0, by omega⟩
          refine Vint.i64 (m := ((j - 1 : Nat) : Int)) (by omega) (by omega) ?_
          refine Vidx.mk' (by omega) (by omega) (idx_map rfl (show j - 1 < p.late.length by omega)) (Vload1.mk' rfl ?_)
          refine Vidx.mk' (by omega) (by omega) (idx_map rfl hj') (Vload1.mk' rfl ?_)
          refine Vcmp.split (fun h4 => Vif.t (Cv.of_eq (bad ?_))) (fun h4 => Vif.f ?_)
          · simp only [beq_iff_eq, bne_iff_ne, beq_eq_false_iff_ne, bne_eq_false_iff_eq, decide_eq_true_eq, decide_eq_false_iff_not, Bool.not_eq_true', Bool.not_eq_false', ne_eq] at h4; omega
          · simp only [beq_iff_eq, bne_iff_ne, beq_eq_false_iff_ne, bne_eq_false_iff_eq, decide_eq_true_eq, decide_eq_false_iff_not, Bool.not_eq_true', Bool.not_eq_false', ne_eq] at h4
            refine Vint.i64 (m := ((j + 1 : Nat) : Int)) (by omega) (by omega) ?_
            obtain ⟨i', hi, he⟩ := good (by omega)
            exact ⟨i', hi, by omega, he ▸ sub_of [(0, 0)] rfl ⟨rfl, Cv.refl _, trivial⟩ ⟨cvCells_refl _, trivial⟩⟩
        · simp only [beq_iff_eq, bne_iff_ne, beq_eq_false_iff_ne, bne_eq_false_iff_eq, decide_eq_true_eq, decide_eq_false_iff_not, Bool.not_eq_true', Bool.not_eq_false', ne_eq] at h3
          refine Vif.f ?_
          refine Vint.i64 (m := ((j + 1 : Nat) : Int)) (by omega) (by omega) ?_
          obtain ⟨i', hi, he⟩ := good (by have := h0 (by omega); omega)
          exact ⟨i', hi, by omega, he ▸ sub_of [(0, 0)] rfl ⟨rfl, Cv.refl _, trivial⟩ ⟨cvCells_refl _, trivial⟩⟩
  · simp only [beq_iff_eq, bne_iff_ne, beq_eq_false_iff_ne, bne_eq_false_iff_eq, decide_eq_true_eq, decide_eq_false_iff_not, Bool.not_eq_true', Bool.not_eq_false', ne_eq] at h
    have : p.late.drop j = [] := List.drop_eq_nil_of_le (by omega)
    rw [this] at hlate
    simp only [lateF] at hlate
    (repeat' (first | refine Vcmp.split (fun h => ?_) (fun h => ?_) | refine Cv.of_eq ?_ | refine Vif.t ?_ | refine Vif.f ?_))
    all_goals refine congrArg RV.b (Eq.symm ?_)
    all_goals simp only [Par.right, hlate, Bool.true_and, beq_iff_eq, bne_iff_ne, beq_eq_false_iff_ne, bne_eq_false_iff_eq, decide_eq_true_eq, decide_eq_false_iff_not, Bool.not_eq_true', Bool.not_eq_false', ne_eq] at *
    all_goals omega

theorem g_ahead16 (l : Leaf) (hl : l.fit) : Gives Tryz.prog 191 [.ag l.c] (bch (aheadB l)) := by
  refine gives_of_vcg (T := Tab) mixed Tab_ok Tryz.func191 rfl (by kernel_rfl) ?_
  obtain ⟨l1, l2, l3, l4, l5⟩ := hl
  have w1 := vecB_le l.box
  have w2 := vecB_le l.sign
  have w3 := vecB_le l.ident
  have w4 := vecB_le l.parent
  refine Vdraw.mk' (by kernel_rfl) ?_
  refine Vcall.go (g_vec01 l.box (by omega)) ?_
  refine Vcall.go (g_vec01 l.sign (by omega)) ?_
  refine Vcall.go (g_join16 (vecB l.box) (vecB l.sign) (by omega) (by omega)) ?_
  refine Vcall.go (g_vec01 l.ident (by omega)) ?_
  refine Vpub.pub ?_
  refine Vcall.go (g_join16 (vecB l.ident) [l.src] (by omega) (by simp)) ?_
  refine Vcall.go (g_join16 (vecB l.box ++ vecB l.sign) (vecB l.ident ++ [l.src]) (by simp; omega) (by simp; omega)) ?_
  refine Vcmp.split (fun h => Vif.t ?_) (fun h => Vif.f ?_)
  · simp only [beq_iff_eq, bne_iff_ne, beq_eq_false_iff_ne, bne_eq_false_iff_eq, decide_eq_true_eq, decide_eq_false_iff_not, Bool.not_eq_true', Bool.not_eq_false', ne_eq] at h
    have h' : l.src.toNat = 3 := by omega
    refine Vcall.go (g_vec01 l.parent (by omega)) ?_
    refine Vcall.go (g_join16 (vecB l.box ++ vecB l.sign ++ (vecB l.ident ++ [l.src])) (vecB l.parent) (by simp; omega) (by omega)) ?_
    exact ch_eq (by simp [aheadB, h'])
  · simp only [beq_iff_eq, bne_iff_ne, beq_eq_false_iff_ne, bne_eq_false_iff_eq, decide_eq_true_eq, decide_eq_false_iff_not, Bool.not_eq_true', Bool.not_eq_false', ne_eq] at h
    have h' : l.src.toNat ≠ 3 := by omega
    exact ch_eq (by simp [aheadB, h'])
theorem aheadB_le (l : Leaf) (hl : l.fit) : (aheadB l).length ≤ 5000000000 := by
  obtain ⟨l1, l2, l3, l4, l5⟩ := hl
  have w1 := vecB_le l.box
  have w2 := vecB_le l.sign
  have w3 := vecB_le l.ident
  have w4 := vecB_le l.parent
  simp only [aheadB, List.length_append, List.length_cons, List.length_nil]
  split <;> simp <;> omega
theorem g_leafbytes16 (l : Leaf) (hl : l.fit) : Gives Tryz.prog 161 [.ag l.c] (bch (aheadB l ++ vecB l.sig)) := by
  refine gives_of_vcg (T := Tab) mixed Tab_ok Tryz.func161 rfl (by kernel_rfl) ?_
  have w := vecB_le l.sig
  have w2 := aheadB_le l hl
  obtain ⟨_, _, _, _, l5⟩ := id hl
  refine Vdraw.mk' (by kernel_rfl) ?_
  refine VloadN.mk' rfl rfl ?_
  refine Vcall.go (g_ahead16 l hl) ?_
  refine Vcall.go (g_vec01 l.sig (by omega)) ?_
  refine Vcall.go (g_join16 (aheadB l) (vecB l.sig) (by omega) (by omega)) ?_
  rfl
end Go.Proofs.YtpdllgbfemnemaaGreat.Sx
end

section
namespace Go.Proofs.YtpdllgbfemnemaaGreat.Sx
open Go.RowKit

def b16Inv (n : Node) : Nat → St
  | 0 => { F := [(1, .own 0), (3, .r (bs [])), (4, .r (I ((0 : Nat) : Int)))], O := [(0, some (.box (n.c.map .r)))], nx := 1 }
  | j + 1 => { F := [(1, .own 0), (3, .own 1), (4, .r (I ((j + 1 : Nat) : Int)))], O := [(0, some (.box (n.c.map .r))), (1, some (.ch 5 1 (lateB (n.par.late.take (j + 1))).length ((lateB (n.par.late.take (j + 1))).map U8) true))], nx := 2 }
theorem lateB_step {l : List Int} {j : Nat} (hj : j < l.length) : lateB (l.take j) ++ beB 4 (l[j].toNat) = lateB (l.take (j + 1)) := by
  rw [List.take_add_one, List.getElem?_eq_getElem hj]
  simp only [lateB, Option.toList, List.flatMap_append, List.flatMap_cons, List.flatMap_nil, List.append_nil]
theorem g_bytes16 (n : Node) (hn : n.fit) (hr : n.kind.toNat = 2 → ∀ x ∈ n.par.late, 0 ≤ x ∧ x < 65536) : Gives Tryz.prog 123 [.ag n.c] (bch (nodeB n)) := by
  refine gives_of_vcg (T := Tab) mixed Tab_ok Tryz.func123 rfl (by kernel_rfl) ?_
  have w2 := aheadB_le n.leaf hn.1
  have w3 := vecB_le n.leaf.sig
  obtain ⟨hl, h1, h2, h3, _⟩ := id hn
  obtain ⟨_, _, _, _, l5⟩ := id hl
  refine Vcmp.split (fun h => Vif.t ?_) (fun h => Vif.f ?_)
  · simp only [beq_iff_eq, bne_iff_ne, beq_eq_false_iff_ne, bne_eq_false_iff_eq, decide_eq_true_eq, decide_eq_false_iff_not, Bool.not_eq_true', Bool.not_eq_false', ne_eq] at h
    have h' : n.kind.toNat = 1 := by omega
    refine Vpub.pub ?_
    refine VloadN.mk' rfl rfl ?_
    refine Vcall.go (g_leafbytes16 n.leaf hl) ?_
    refine Vcall.go (g_join16 [1] (aheadB n.leaf ++ vecB n.leaf.sig) (by simp) (by simp; omega)) ?_
    exact ch_eq (by simp [nodeB, h'])
  · simp only [beq_iff_eq, bne_iff_ne, beq_eq_false_iff_ne, bne_eq_false_iff_eq, decide_eq_true_eq, decide_eq_false_iff_not, Bool.not_eq_true', Bool.not_eq_false', ne_eq] at h
    have h' : n.kind.toNat ≠ 1 := by omega
    refine Vcmp.split (fun hk => Vif.t ?_) (fun hk => Vif.f ?_)
    · simp only [beq_iff_eq, bne_iff_ne, beq_eq_false_iff_ne, bne_eq_false_iff_eq, decide_eq_true_eq, decide_eq_false_iff_not, Bool.not_eq_true', Bool.not_eq_false', ne_eq] at hk
      have hk' : n.kind.toNat = 2 := by omega
      have hr' := hr hk'
      have hll := lateB_len n.par.late
      have vd1 := vecB_le n.par.box
      have vd2 := vecB_le n.par.hash
      have hlen : ∀ j, j ≤ n.par.late.length → (lateB (n.par.late.take j)).length = 4 * j := fun j hj => by rw [lateB_len, List.length_take]; omega
      refine Vloop.mk' (b16Inv n) (fun j => j ≤ n.par.late.length) (fun j => n.par.late.length - j) 0 (by omega) (sub_of [(0, 0)] rfl ⟨rfl, Cv.nil _, Cv.refl _, trivial⟩ ⟨cvCells_refl _, trivial⟩) ?_
      intro j hj
      rcases j with _ | j
      · refine Vcmp.split (fun h => Vif.t ?_) (fun h => Vif.f ?_)
        · simp only [beq_iff_eq, bne_iff_ne, beq_eq_false_iff_ne, bne_eq_false_iff_eq, decide_eq_true_eq, decide_eq_false_iff_not, Bool.not_eq_true', Bool.not_eq_false', ne_eq] at h
          have hj' : 0 < n.par.late.length := by omega
          refine Vidx.mk' (by omega) (by omega) (idx_map rfl hj') (Vload1.mk' rfl ?_)
          refine ⟨((n.par.late[0].toNat : Nat) : Int), (beB4_wrap _ (hr' _ (List.getElem_mem hj'))).symm, ?_⟩
          refine Vcall.go (g_num01 4 n.par.late[0].toNat (by omega) (by have := hr' _ (List.getElem_mem hj'); omega)) ?_
          refine Vcall.go (g_join16 [] (beB 4 n.par.late[0].toNat) (by simp) (by rw [beB_len]; omega)) ?_
          refine Vint.i64 (m := ((0 + 1 : Nat) : Int)) (by omega) (by omega) ?_
          exact ⟨0 + 1, hj', by omega, sub_of [(0, 0), (1, 2)] rfl ⟨rfl, rfl, Cv.refl _, trivial⟩ ⟨cvCells_refl _, cvCh (lateB_step hj'), trivial⟩⟩
        · simp only [beq_iff_eq, bne_iff_ne, beq_eq_false_iff_ne, bne_eq_false_iff_eq, decide_eq_true_eq, decide_eq_false_iff_not, Bool.not_eq_true', Bool.not_eq_false', ne_eq] at h
          have e : n.par.late = [] := List.eq_nil_of_length_eq_zero (by omega)
          refine Vdraw.mk' (by kernel_rfl) ?_
          refine Vpub.pub ?_
          refine Vcall.go (g_vec01 n.par.box (by omega)) ?_
          refine Vcall.go (g_join16 [2] (vecB n.par.box) (by simp) (by omega)) ?_
          refine Vcall.go (g_vec01 n.par.hash (by omega)) ?_
          refine Vcall.go (g_vec01 [] (by simp)) ?_
          refine Vcall.go (g_join16 (vecB n.par.hash) (vecB []) (by omega) (by simp [vecB_len]; have := lenSz_le 0; omega)) ?_
          refine Vcall.go (g_join16 ([2] ++ vecB n.par.box) (vecB n.par.hash ++ vecB []) (by simp; omega) (by have := lenSz_le 0; simp [vecB_len] at *; omega)) ?_
          exact ch_eq (by simp [nodeB, hk', parB, e, lateB])
      · refine Vcmp.split (fun h => Vif.t ?_) (fun h => Vif.f ?_)
        · simp only [beq_iff_eq, bne_iff_ne, beq_eq_false_iff_ne, bne_eq_false_iff_eq, decide_eq_true_eq, decide_eq_false_iff_not, Bool.not_eq_true', Bool.not_eq_false', ne_eq] at h
          have hj' : j + 1 < n.par.late.length := by omega
          refine Vidx.mk' (by omega) (by omega) (idx_map rfl hj') (Vload1.mk' rfl ?_)
          refine ⟨((n.par.late[j + 1].toNat : Nat) : Int), (beB4_wrap _ (hr' _ (List.getElem_mem hj'))).symm, ?_⟩
          refine Vcall.go (g_num01 4 n.par.late[j + 1].toNat (by omega) (by have := hr' _ (List.getElem_mem hj'); omega)) ?_
          refine Vcall.go (g_join16 (lateB (n.par.late.take (j + 1))) (beB 4 n.par.late[j + 1].toNat) (by rw [hlen _ hj]; omega) (by rw [beB_len]; omega)) ?_
          refine Vint.i64 (m := ((j + 1 + 1 : Nat) : Int)) (by omega) (by omega) ?_
          exact ⟨j + 1 + 1, hj', by omega, sub_of [(0, 0), (1, 3)] rfl ⟨rfl, rfl, Cv.refl _, trivial⟩ ⟨cvCells_refl _, cvCh (lateB_step hj'), trivial⟩⟩
        · simp only [beq_iff_eq, bne_iff_ne, beq_eq_false_iff_ne, bne_eq_false_iff_eq, decide_eq_true_eq, decide_eq_false_iff_not, Bool.not_eq_true', Bool.not_eq_false', ne_eq] at h
          have e : n.par.late.take (j + 1) = n.par.late := List.take_of_length_le (by omega)
          have w4 := vecB_le (lateB (n.par.late.take (j + 1)))
          have w5 := hlen _ hj
          refine Vdraw.mk' (by kernel_rfl) ?_
          refine Vpub.pub ?_
          refine Vcall.go (g_vec01 n.par.box (by omega)) ?_
          refine Vcall.go (g_join16 [2] (vecB n.par.box) (by simp) (by omega)) ?_
          refine Vcall.go (g_vec01 n.par.hash (by omega)) ?_
          refine Vcall.go (g_vec01 (lateB (n.par.late.take (j + 1))) (by omega)) ?_
          refine Vcall.go (g_join16 (vecB n.par.hash) (vecB (lateB (n.par.late.take (j + 1)))) (by omega) (by omega)) ?_
          refine Vcall.go (g_join16 ([2] ++ vecB n.par.box) (vecB n.par.hash ++ vecB (lateB (n.par.late.take (j + 1)))) (by simp; omega) (by simp; omega)) ?_
          exact ch_eq (by simp [nodeB, hk', parB, e])
    · simp only [beq_iff_eq, bne_iff_ne, beq_eq_false_iff_ne, bne_eq_false_iff_eq, decide_eq_true_eq, decide_eq_false_iff_not, Bool.not_eq_true', Bool.not_eq_false', ne_eq] at hk
      have hk' : n.kind.toNat ≠ 2 := by omega
      refine Vpub.pub ?_
      exact ch_eq (m := nodeB n) (l := [0]) (by simp [nodeB, h', hk'])

def leafTextB (i : Int) (n : Node) : List UInt8 := 1 :: (beB 4 i.toNat ++ nodeB n)
theorem nodeB_le (n : Node) (hn : n.fit) : (nodeB n).length ≤ 10000000000 := by
  have w2 := aheadB_le n.leaf hn.1
  have w3 := vecB_le n.leaf.sig
  obtain ⟨hl, h1, h2, h3, _⟩ := id hn
  obtain ⟨_, _, _, _, l5⟩ := id hl
  have hll := lateB_len n.par.late
  have vd1 := vecB_le n.par.box
  have vd2 := vecB_le n.par.hash
  have w4 := vecB_le (lateB n.par.late)
  unfold nodeB parB
  split
  · simp; omega
  · split
    · simp; omega
    · simp
theorem g_leaftext (i : Int) (n : Node) (hn : n.fit) : Gives Tryz.prog 88 [I i, .ag n.c] (.r (if i < 0 ∨ 65536 ≤ i then .tu [bs [], .i .u8 1] else if n.right = false ∨ n.kind.toNat = 2 then .tu [bs [], .i .u8 3] else .tu [bs (leafTextB i n), .i .u8 0])) := by
  refine gives_of_vcg (T := Tab) mixed Tab_ok Tryz.func88 rfl (by kernel_rfl) ?_
  have hnl := nodeB_le n hn
  have nil1 : ∀ (c : Int), Cv (.tu [ofC (.slice none 0 0), .i .u8 c]) (.tu [bs [], .i .u8 c]) := fun c => Cv.tu (Cvs.cons (Cv.nil 1) (Cvs.refl _))
  refine Vcmp.split (fun h1 => Vif.t ?_) (fun h1 => ?_)
  · simp only [beq_iff_eq, bne_iff_ne, beq_eq_false_iff_ne, bne_eq_false_iff_eq, decide_eq_true_eq, decide_eq_false_iff_not, Bool.not_eq_true', Bool.not_eq_false', ne_eq] at h1
    refine ⟨_, rfl, ?_⟩
    rw [if_pos (.inl h1)]
    exact nil1 1
  · refine Vcmp.split (fun h2 => Vif.t ?_) (fun h2 => Vif.f ?_)
    · simp only [beq_iff_eq, bne_iff_ne, beq_eq_false_iff_ne, bne_eq_false_iff_eq, decide_eq_true_eq, decide_eq_false_iff_not, Bool.not_eq_true', Bool.not_eq_false', ne_eq] at h1 h2
      refine ⟨_, rfl, ?_⟩
      rw [if_pos (.inr (by omega))]
      exact nil1 1
    · simp only [beq_iff_eq, bne_iff_ne, beq_eq_false_iff_ne, bne_eq_false_iff_eq, decide_eq_true_eq, decide_eq_false_iff_not, Bool.not_eq_true', Bool.not_eq_false', ne_eq] at h1 h2
      rw [if_neg (show ¬ (i < 0 ∨ 65536 ≤ i) by omega)]
      refine VloadN.mk' rfl rfl ?_
      refine Vcall.go (g_nbytes n hn) ?_
      cases hr : n.right with
      | false =>
        refine Vcmp.t rfl (Vif.t ?_)
        refine ⟨_, rfl, ?_⟩
        rw [if_pos (.inl rfl)]
        exact nil1 3
      | true =>
        refine Vcmp.f rfl ?_
        refine Vcmp.split (fun h3 => Vif.t ?_) (fun h3 => Vif.f ?_)
        · simp only [beq_iff_eq, bne_iff_ne, beq_eq_false_iff_ne, bne_eq_false_iff_eq, decide_eq_true_eq, decide_eq_false_iff_not, Bool.not_eq_true', Bool.not_eq_false', ne_eq] at h3
          refine ⟨_, rfl, ?_⟩
          rw [if_pos (.inr (by omega))]
          exact nil1 3
        · simp only [beq_iff_eq, bne_iff_ne, beq_eq_false_iff_ne, bne_eq_false_iff_eq, decide_eq_true_eq, decide_eq_false_iff_not, Bool.not_eq_true', Bool.not_eq_false', ne_eq] at h3
          refine Vpub.pub ?_
          refine ⟨((i.toNat : Nat) : Int), (beB4_wrap _ (by omega)).symm, ?_⟩
          refine Vcall.go (g_putnum [1] 4 i.toNat (by simp) (by omega)) ?_
          refine Vapp.mk' (j := ([1] ++ beB 4 i.toNat ++ nodeB n).length) (zs := ([1] ++ beB 4 i.toNat ++ nodeB n).map U8) (by simp [maxLen, beB_len]; omega) (by simp [beB_len]; omega) (by simp; omega) (by simp) ?_
          refine ⟨_, rfl, Cv.of_eq ?_⟩
          rw [if_neg (by simp; omega)]
          rfl
end Go.Proofs.YtpdllgbfemnemaaGreat.Sx
end

section
namespace Go.Proofs.YtpdllgbfemnemaaGreat.Sx
open Go.RowKit

theorem copathF_len (n : Int) : ∀ (f : Nat) (x : Int), (copathF n f x).length = (pathF n f x).length
  | 0, x => by simp [copathF, pathF]
  | f + 1, x => by
    simp only [copathF, pathF]
    split <;> simp [copathF_len n f]
theorem copathI_len (x n : Int) : (copathI x n).length = (pathI x n).length := copathF_len n 17 x
def leastI (n : Int) : Int := if fitsI n then 2 * (pathI 0 n).length + 1 else 0

theorem g_least (n : Int) : Gives Tryz.prog 13 [I n] (.r (I (leastI n))) := by
  refine gives_of_vcg (T := Tab) mixed Tab_ok Tryz.func13 rfl (by kernel_rfl) ?_
  have hp := pathI_len 0 n
  refine Vcall.bool (g_fits n) (fun h => Vcmp.f rfl (Vif.f ?_)) (fun h => Vcmp.t rfl (Vif.t ?_))
  · refine Vcall.go (g_path 0 n) ?_
    refine Vint.i64 rfl (by omega) ?_
    refine Vint.i64 rfl (by omega) ?_
    exact Cv.of_eq (by simp [leastI, h])
  · exact Cv.of_eq (by simp [leastI, h, ofC])
theorem g_alive : Gives Tryz.prog 9 [] (.r (.b true)) := by
  refine gives_of_vcg (T := Tab) mixed Tab_ok Tryz.func9 rfl (by kernel_rfl) ?_
  refine Vcall.go (g_least 4) ?_
  refine Vcmp.t (by decide) ?_
  refine Vcall.go (g_least 1) ?_
  refine Vcmp.t (by decide) ?_
  exact Cv.refl _

def Lean_.fit (s : Lean_) : Prop := s.opn.length ≤ 1000000 ∧ s.shut.length ≤ 1000000
theorem g_count (s : Lean_) (hs : s.fit) : Gives Tryz.prog 15 [.ag s.c] (.r (I (s.opn.length + s.shut.length))) := by
  refine gives_of_vcg (T := Tab) mixed Tab_ok Tryz.func15 rfl (by kernel_rfl) ?_
  obtain ⟨h1, h2⟩ := hs
  exact Vint.i64 rfl (by omega) (Cv.refl _)
theorem take_snoc_mem {l : List Int} {x : Int} {j : Nat} (hj : j < l.length) (h : x ∉ l.take j) (hx : l[j] ≠ x) : x ∉ l.take (j + 1) := by
  rw [List.take_add_one, List.getElem?_eq_getElem hj]
  simp only [Option.toList, List.mem_append, List.mem_cons, List.not_mem_nil, or_false]
  intro hh
  rcases hh with hh | hh
  · exact h hh
  · exact hx hh.symm
theorem g_has19 (l : List Int) (x : Int) (hl : l.length ≤ 1000000000000) : Gives Tryz.prog 86 [is l, I x] (.r (.b (decide (x ∈ l)))) := by
  refine gives_of_vcg (T := Tab) mixed Tab_ok Tryz.func86 rfl (by kernel_rfl) ?_
  refine Vloop.mk' (fun j : Nat => { F := [(0, .r (is l)), (1, .r (I x)), (5, .r (I j))], O := [], nx := 0 }) (fun j => j ≤ l.length ∧ x ∉ l.take j) (fun j => l.length - j) 0 ⟨by omega, by simp⟩ (sub_of [] rfl ⟨Cv.refl _, Cv.refl _, Cv.refl _, trivial⟩ trivial) ?_
  rintro j ⟨hj, hn⟩
  refine Vcmp.split (fun h => Vif.t ?_) (fun h => Vif.f ?_)
  · simp only [beq_iff_eq, bne_iff_ne, beq_eq_false_iff_ne, bne_eq_false_iff_eq, decide_eq_true_eq, decide_eq_false_iff_not, Bool.not_eq_true', Bool.not_eq_false', ne_eq] at h
    have hj' : j < l.length := by omega
    refine Vidx.mk' (by omega) (by omega) (idx_map rfl hj') (Vload1.mk' rfl ?_)
    refine Vcmp.split (fun h2 => Vif.t ?_) (fun h2 => Vif.f ?_)
    · simp only [beq_iff_eq, bne_iff_ne, beq_eq_false_iff_ne, bne_eq_false_iff_eq, decide_eq_true_eq, decide_eq_false_iff_not, Bool.not_eq_true', Bool.not_eq_false', ne_eq] at h2
      exact Cv.of_eq (by simp [ofC, ← h2])
    · simp only [beq_iff_eq, bne_iff_ne, beq_eq_false_iff_ne, bne_eq_false_iff_eq, decide_eq_true_eq, decide_eq_false_iff_not, Bool.not_eq_true', Bool.not_eq_false', ne_eq] at h2
      refine Vint.i64 (m := ((j + 1 : Nat) : Int)) (by omega) (by omega) ?_
      exact ⟨j + 1, ⟨hj', take_snoc_mem hj' hn h2⟩, by omega, sub_of [] rfl ⟨Cv.refl _, Cv.refl _, Cv.refl _, trivial⟩ trivial⟩
  · simp only [beq_iff_eq, bne_iff_ne, beq_eq_false_iff_ne, bne_eq_false_iff_eq, decide_eq_true_eq, decide_eq_false_iff_not, Bool.not_eq_true', Bool.not_eq_false', ne_eq] at h
    rw [List.take_of_length_le (by omega)] at hn
    exact Cv.of_eq (by simp [ofC, hn])

def Node.zero : Node := ⟨0, ⟨[], [], [], 0, [], []⟩, ⟨[], [], []⟩⟩
def zc : List RV := [.i .u8 0, .x (.slice none 0 0), .x (.slice none 0 0), .x (.slice none 0 0), .i .u8 0, .x (.slice none 0 0), .x (.slice none 0 0), .x (.slice none 0 0), .x (.slice none 0 0), .x (.slice none 0 0)]
theorem Cv.ag {l m : List RV} (h : Cvs l m) : Cv (.ag l) (.ag m) := fun w k v hv => by
  simp only [RV.at_] at *
  obtain ⟨us, e, hp⟩ := hv
  exact ⟨us, e, h.list hp⟩
theorem zc_zero : Cv (.ag zc) (.ag Node.zero.c) := Cv.ag (Cvs.cons (Cv.refl _) (Cvs.cons (Cv.nil 1) (Cvs.cons (Cv.nil 1) (Cvs.cons (Cv.nil 1) (Cvs.cons (Cv.refl _) (Cvs.cons (Cv.nil 1) (Cvs.cons (Cv.nil 1) (Cvs.cons (Cv.nil 1) (Cvs.cons (Cv.nil 1) (Cvs.cons (Cv.nil 1) Cvs.nil))))))))))
def findS (l : List Spot) (x : Int) : Option Node := (l.find? fun s => decide (s.at_ = x)).map (·.node)
def findR : Option Node → RV
  | some n => .tu [.ag n.c, .b true]
  | none => .tu [.ag Node.zero.c, .b false]
theorem find_none {l : List Spot} {x : Int} (h : ∀ s ∈ l, s.at_ ≠ x) : findS l x = none := by
  simp only [findS, Option.map_eq_none_iff, List.find?_eq_none, decide_eq_true_eq]
  exact h
theorem find_at {l : List Spot} {x : Int} {j : Nat} (hj : j < l.length) (h : ∀ s ∈ l.take j, s.at_ ≠ x) (hx : l[j].at_ = x) : findS l x = some l[j].node := by
  obtain ⟨y, hy⟩ : ∃ y, y = l[j] := ⟨_, rfl⟩
  rw [← hy] at hx ⊢
  have : l = l.take j ++ y :: l.drop (j + 1) := by rw [hy, ← List.drop_eq_getElem_cons hj, List.take_append_drop]
  simp only [findS]
  rw [this, List.find?_append]
  have h1 : (l.take j).find? (fun s => decide (s.at_ = x)) = none := by simp only [List.find?_eq_none, decide_eq_true_eq]; exact h
  rw [h1]
  simp [hx]
theorem idx_spot {l : List Spot} {i : Int} {j : Nat} (h : i = j) (hj : j < l.length) : ((l.flatMap Spot.c).drop (i.toNat * 11)).take 11 = l[j].c := idx_flat (f := Spot.c) (sz := 11) (fun _ => rfl) h hj
theorem idx_stub {l : List Stub} {i : Int} {j : Nat} (h : i = j) (hj : j < l.length) : ((l.flatMap Stub.c).drop (i.toNat * 2)).take 2 = l[j].c := idx_flat (f := Stub.c) (sz := 2) (fun _ => rfl) h hj
theorem g_find (l : List Spot) (x : Int) (hl : l.length ≤ 1000000000) : Gives Tryz.prog 34 [spots l, I x] (.r (findR (findS l x))) := by
  refine gives_of_vcg (T := Tab) mixed Tab_ok Tryz.func34 rfl (by kernel_rfl) ?_
  refine Vloop.mk' (fun j : Nat => { F := [(0, .r (spots l)), (1, .r (I x)), (4, .own 0), (6, .r (I j))], O := [(0, some (.box (zc.map .r)))], nx := 1 }) (fun j => j ≤ l.length ∧ ∀ s ∈ l.take j, s.at_ ≠ x) (fun j => l.length - j) 0 ⟨by omega, by simp⟩ (sub_of [(0, 0)] rfl ⟨Cv.refl _, Cv.refl _, rfl, Cv.refl _, trivial⟩ ⟨cvCells_refl zc, trivial⟩) ?_
  rintro j ⟨hj, hn⟩
  refine Vcmp.split (fun h => Vif.t ?_) (fun h => Vif.f ?_)
  · simp only [beq_iff_eq, bne_iff_ne, beq_eq_false_iff_ne, bne_eq_false_iff_eq, decide_eq_true_eq, decide_eq_false_iff_not, Bool.not_eq_true', Bool.not_eq_false', ne_eq] at h
    have hj' : j < l.length := by omega
    refine Vidx.mk' (by omega) (by omega) (idx_spot rfl hj') (Vload1.mk' rfl ?_)
    refine Vcmp.split (fun h2 => Vif.t ?_) (fun h2 => Vif.f ?_)
    · simp only [beq_iff_eq, bne_iff_ne, beq_eq_false_iff_ne, bne_eq_false_iff_eq, decide_eq_true_eq, decide_eq_false_iff_not, Bool.not_eq_true', Bool.not_eq_false', ne_eq] at h2
      refine Vidx.mk' (by omega) (by omega) (idx_spot rfl hj') ?_
      refine VloadN.mk' rfl rfl ?_
      refine VloadN.mk' rfl rfl ?_
      refine ⟨_, rfl, Cv.of_eq ?_⟩
      rw [find_at hj' hn h2]
      rfl
    · simp only [beq_iff_eq, bne_iff_ne, beq_eq_false_iff_ne, bne_eq_false_iff_eq, decide_eq_true_eq, decide_eq_false_iff_not, Bool.not_eq_true', Bool.not_eq_false', ne_eq] at h2
      refine Vint.i64 (m := ((j + 1 : Nat) : Int)) (by omega) (by omega) ?_
      refine ⟨j + 1, ⟨hj', ?_⟩, by omega, sub_of [(0, 0)] rfl ⟨Cv.refl _, Cv.refl _, rfl, Cv.refl _, trivial⟩ ⟨cvCells_refl zc, trivial⟩⟩
      rw [List.take_add_one, List.getElem?_eq_getElem hj']
      simp only [Option.toList, List.mem_append, List.mem_cons, List.not_mem_nil, or_false]
      rintro s (hs | rfl)
      · exact hn s hs
      · exact h2
  · simp only [beq_iff_eq, bne_iff_ne, beq_eq_false_iff_ne, bne_eq_false_iff_eq, decide_eq_true_eq, decide_eq_false_iff_not, Bool.not_eq_true', Bool.not_eq_false', ne_eq] at h
    rw [List.take_of_length_le (by omega)] at hn
    refine VloadN.mk' rfl rfl ?_
    refine ⟨_, rfl, ?_⟩
    rw [find_none hn]
    exact Cv.tu (Cvs.cons zc_zero (Cvs.refl _))
end Go.Proofs.YtpdllgbfemnemaaGreat.Sx
end

section
namespace Go.Proofs.YtpdllgbfemnemaaGreat.Sx
open Go.RowKit

theorem Sub.trans {S S' S'' : St} (h : Sub S S') (h' : Sub S' S'') : Sub S S'' := fun B N a w k hs => by
  obtain ⟨k', hs'⟩ := h B N a w k hs
  exact h' B N a w k' hs'
/-- A slice that is none is the call's own. -/
theorem sub_adopt {S : St} (t : Nat) (e : TypeId) (sz : Nat) (hf : fget S.F t = some (.r (.x (.slice none 0 0)))) : Sub S { F := (t, .own S.nx) :: S.F, O := (S.nx, some (.ch e sz 0 [] true)) :: S.O, nx := S.nx + 1 } := by
  rintro B N a w k ⟨g, hs⟩
  have hv := (hs.facts t _ hf).2
  simp only [TF.at_, RV.at_] at hv
  have hlt : t < a.tmps.size := by
    rcases Nat.lt_or_ge t a.tmps.size with h | h
    · exact h
    · rw [Array.getD_eq_getD_getElem?, Array.getElem?_eq_none h] at hv
      simp [undef] at hv
  have h := hs.adopt (dst := some t) (fun d hd => by cases hd; rw [← hs.size]; exact hlt) (o := .ch e sz 0 [] true) (vb := (.slice none 0 0, none)) trivial ⟨by simp, .inl ⟨rfl, .inl ⟨rfl, none, rfl⟩⟩⟩ (fun b hb => by cases hb) (fun i o' b _ hb => by cases hb)
  have e1 : a.put (some t) (.slice none 0 0) = a := by
    simp only [Act.put]
    have : a.tmps.setIfInBounds t (.slice none 0 0) = a.tmps := by
      apply Array.ext
      · simp
      · intro i h1 h2
        by_cases hi : t = i
        · subst hi
          rw [Array.getElem_setIfInBounds_self]
          rw [Array.getD_eq_getD_getElem?, Array.getElem?_eq_getElem hlt] at hv
          exact hv.symm
        · rw [Array.getElem_setIfInBounds_ne _ hi]
    rw [this]
  rw [e1] at h
  exact ⟨k, _, h⟩

def parTextB (n : Node) (l r : List UInt8) : List UInt8 := 2 :: (nodeB n ++ vecB l ++ vecB r)
theorem g_partext (n : Node) (l r : List UInt8) (hn : n.fit) : Gives Tryz.prog 89 [.ag n.c, bs l, bs r] (.r (if n.right = false ∨ n.kind.toNat = 1 then .tu [bs [], .i .u8 3] else if l.length ≠ 32 ∨ r.length ≠ 32 then .tu [bs [], .i .u8 1] else .tu [bs (parTextB n l r), .i .u8 0])) := by
  refine gives_of_vcg (T := Tab) mixed Tab_ok Tryz.func89 rfl (by kernel_rfl) ?_
  have hnl := nodeB_le n hn
  have nil1 : ∀ (c : Int), Cv (.tu [ofC (.slice none 0 0), .i .u8 c]) (.tu [bs [], .i .u8 c]) := fun c => Cv.tu (Cvs.cons (Cv.nil 1) (Cvs.refl _))
  refine VloadN.mk' rfl rfl ?_
  refine Vcall.go (g_nbytes n hn) ?_
  cases hr : n.right with
  | false =>
    refine Vcmp.t rfl (Vif.t ?_)
    refine ⟨_, rfl, ?_⟩
    rw [if_pos (.inl rfl)]
    exact nil1 3
  | true =>
    refine Vcmp.f rfl ?_
    refine Vcmp.split (fun h3 => Vif.t ?_) (fun h3 => Vif.f ?_)
    · simp only [beq_iff_eq, bne_iff_ne, beq_eq_false_iff_ne, bne_eq_false_iff_eq, decide_eq_true_eq, decide_eq_false_iff_not, Bool.not_eq_true', Bool.not_eq_false', ne_eq] at h3
      refine ⟨_, rfl, ?_⟩
      rw [if_pos (.inr (show n.kind.toNat = 1 by omega))]
      exact nil1 3
    · simp only [beq_iff_eq, bne_iff_ne, beq_eq_false_iff_ne, bne_eq_false_iff_eq, decide_eq_true_eq, decide_eq_false_iff_not, Bool.not_eq_true', Bool.not_eq_false', ne_eq] at h3
      rw [if_neg (show ¬ (true = false ∨ n.kind.toNat = 1) by simp; omega)]
      refine Vcmp.split (fun h4 => Vif.t ?_) (fun h4 => ?_)
      · simp only [beq_iff_eq, bne_iff_ne, beq_eq_false_iff_ne, bne_eq_false_iff_eq, decide_eq_true_eq, decide_eq_false_iff_not, Bool.not_eq_true', Bool.not_eq_false', ne_eq] at h4
        refine ⟨_, rfl, ?_⟩
        rw [if_pos (.inl (show l.length ≠ 32 by omega))]
        exact nil1 1
      · refine Vcmp.split (fun h5 => Vif.t ?_) (fun h5 => Vif.f ?_)
        · simp only [beq_iff_eq, bne_iff_ne, beq_eq_false_iff_ne, bne_eq_false_iff_eq, decide_eq_true_eq, decide_eq_false_iff_not, Bool.not_eq_true', Bool.not_eq_false', ne_eq] at h5
          refine ⟨_, rfl, ?_⟩
          rw [if_pos (.inr (show r.length ≠ 32 by omega))]
          exact nil1 1
        · simp only [beq_iff_eq, bne_iff_ne, beq_eq_false_iff_ne, bne_eq_false_iff_eq, decide_eq_true_eq, decide_eq_false_iff_not, Bool.not_eq_true', Bool.not_eq_false', ne_eq] at h4 h5
          refine Vpub.pub ?_
          refine Vapp.mk' (j := ([2] ++ nodeB n).length) (zs := ([2] ++ nodeB n).map U8) (by simp [maxLen]; omega) (by simp; omega) (by simp; omega) (by simp [fillR, cellsOf]; rfl) ?_
          have vl := vecB_le l
          refine Vcall.go (g_putvec ([2] ++ nodeB n) l (by simp; omega) (by omega)) ?_
          refine Vcall.go (g_putvec ([2] ++ nodeB n ++ vecB l) r (by simp; omega) (by omega)) ?_
          refine ⟨_, rfl, Cv.of_eq ?_⟩
          rw [if_neg (show ¬ (l.length ≠ 32 ∨ r.length ≠ 32) by omega)]
          have : [2] ++ nodeB n ++ vecB l ++ vecB r = parTextB n l r := by simp [parTextB]
          rw [this]
          rfl

/-! ### Rising lists -/
def ins (x : Int) : List Int → List Int
  | [] => [x]
  | y :: r => if x < y then x :: y :: r else if x = y then y :: r else y :: ins x r
def rise (l : List Int) : List Int := l.foldr ins []
theorem mem_ins {x z : Int} : ∀ {l : List Int}, z ∈ ins x l ↔ z = x ∨ z ∈ l
  | [] => by simp [ins]
  | y :: r => by
    simp only [ins]
    split
    · simp
    · split
      · rename_i h; subst h; simp
      · simp [mem_ins (l := r)]
        constructor
        · rintro (h | h | h) <;> simp [h]
        · rintro (h | h | h) <;> simp [h]
theorem ins_rise {x : Int} : ∀ {l : List Int}, l.Pairwise (· < ·) → (ins x l).Pairwise (· < ·)
  | [], _ => by simp [ins]
  | y :: r, h => by
    simp only [ins]
    rw [List.pairwise_cons] at h
    split
    · rename_i hxy
      refine List.pairwise_cons.2 ⟨fun z hz => ?_, List.pairwise_cons.2 h⟩
      rcases List.mem_cons.1 hz with rfl | hz
      · exact hxy
      · exact Int.lt_trans hxy (h.1 z hz)
    · split
      · exact List.pairwise_cons.2 h
      · refine List.pairwise_cons.2 ⟨fun z hz => ?_, ins_rise h.2⟩
        rcases mem_ins.1 hz with rfl | hz
        · omega
        · exact h.1 z hz
theorem mem_rise {x : Int} : ∀ {l : List Int}, x ∈ rise l ↔ x ∈ l
  | [] => by simp [rise]
  | y :: r => by
    have := mem_rise (x := x) (l := r)
    simp only [rise, List.foldr_cons] at *
    rw [mem_ins, this]; simp
theorem rise_pw : ∀ l : List Int, (rise l).Pairwise (· < ·)
  | [] => by simp [rise]
  | y :: r => ins_rise (rise_pw r)
theorem rise_ext : ∀ {l m : List Int}, l.Pairwise (· < ·) → m.Pairwise (· < ·) → (∀ x, x ∈ l ↔ x ∈ m) → l = m
  | [], [], _, _, _ => rfl
  | [], y :: m, _, _, h => by have := (h y).2 (by simp); cases this
  | x :: l, [], _, _, h => by have := (h x).1 (by simp); cases this
  | x :: l, y :: m, hl, hm, h => by
    rw [List.pairwise_cons] at hl hm
    have hxy : x = y := by
      rcases List.mem_cons.1 ((h x).1 (by simp)) with e | hx
      · exact e
      · rcases List.mem_cons.1 ((h y).2 (by simp)) with e | hy
        · exact e.symm
        · have := hm.1 x hx; have := hl.1 y hy; omega
    subst hxy
    congr 1
    refine rise_ext hl.2 hm.2 fun z => ⟨fun hz => ?_, fun hz => ?_⟩
    · rcases List.mem_cons.1 ((h z).1 (List.mem_cons_of_mem _ hz)) with e | hz'
      · have := hl.1 z hz; omega
      · exact hz'
    · rcases List.mem_cons.1 ((h z).2 (List.mem_cons_of_mem _ hz)) with e | hz'
      · have := hm.1 z hz; omega
      · exact hz'
end Go.Proofs.YtpdllgbfemnemaaGreat.Sx
end

section
namespace Go.Proofs.YtpdllgbfemnemaaGreat.Sx
open Go.RowKit

theorem cvChI {ρ : List (Nat × Nat)} {S : St} {e : TypeId} {l m : List Int} (h : l = m) : cvOw ρ S (.ch e 1 l.length (l.map I) true) (.ch e 1 m.length (m.map I) true) := by
  subst h
  exact ⟨rfl, rfl, rfl, rfl, Cvs.refl _⟩
end Go.Proofs.YtpdllgbfemnemaaGreat.Sx
end

section
namespace Go.Proofs.YtpdllgbfemnemaaGreat.Sx
open Go.RowKit

def bss (ls : List (List UInt8)) : RV := .sl 1 ls.length (ls.map bs)
theorem pa_list {w : World} {k : Kp} : ∀ {ls : List (List UInt8)} {us : List Value}, RV.listAt w k (ls.map bs) us → ∃ ps : List (AC × List UInt8), ps.map (·.2) = ls ∧ us = ps.map slv ∧ ∀ q ∈ ps, By w (fun _ => True) q.1 q.2
  | [], us, h => by simp only [List.map_nil, RV.listAt] at h; exact ⟨[], rfl, h, by simp⟩
  | l :: ls, us, h => by
    simp only [List.map_cons, RV.listAt] at h
    obtain ⟨u, r, rfl, _, h1, h2⟩ := h
    obtain ⟨p, rfl, hp⟩ := by_in h1
    obtain ⟨ps, e1, e2, e3⟩ := pa_list h2
    refine ⟨(p, l) :: ps, by simp [e1], by simp [e2, slv], fun q hq => ?_⟩
    rcases List.mem_cons.1 hq with rfl | hq
    · exact hp
    · exact e3 q hq
theorem g_sha (ls : List (List UInt8)) (hl : (ls.flatMap id).length ≤ 100000000000) : Gives Tryz.prog 92 [bss ls] (bch (shaB (ls.flatMap id))) :=
  gives_old (known_of Tryz.func92 rfl (by kernel_rfl)) fun w k vs hp => by
    obtain ⟨a, rfl, h1⟩ := parts1 hp
    simp only [bss, RV.at_] at h1
    obtain ⟨p, c, rfl, c1, c2, c3, c4⟩ := h1
    have key : ∃ ps : List (AC × List UInt8), ps.map (·.2) = ls ∧ Pa w ⟨p, c⟩ ps := by
      rcases Nat.eq_zero_or_pos ls.length with h0 | hpos
      · obtain rfl := List.eq_nil_of_length_eq_zero h0
        exact ⟨[], rfl, ⟨by simp, by simp, c2, fun h => by simp at h⟩, by simp⟩
      · obtain ⟨b, o, rfl, hb, hc⟩ := c4 hpos
        obtain ⟨us, q1, q2, q3⟩ := RV.cells_list _ _ hc
        obtain ⟨ps, e1, e2, e3⟩ := pa_list q1
        have hlen : ps.length = ls.length := by rw [← e1]; simp
        exact ⟨ps, e1, ⟨by simp, by rw [hlen]; exact c1, c2, fun _ => ⟨b, o, rfl, trivial, hb, fun j u hu => q3 j u (by rw [e2]; exact hu)⟩⟩, e3⟩
    obtain ⟨ps, e1, hpa⟩ := key
    have hcat : catB ps = ls.flatMap id := by rw [← e1]; simp [catB, List.flatMap_map]
    have hlen : ps.length = ls.length := by rw [← e1]; simp
    have := of_sha_any ⟨p, c⟩ ps w hpa (by rw [hcat]; exact hl)
    rw [hlen] at this
    refine this.mono fun _ _ ⟨v, he, hx, _, hv⟩ => ⟨v, he, hx, ?_⟩
    rw [hcat] at hv
    exact by_out hv
end Go.Proofs.YtpdllgbfemnemaaGreat.Sx
end
