import Derived.Test.YtpdllgbfemnemaaGreatZKc
section
namespace Go.Proofs.YtpdllgbfemnemaaGreat.Sx
open Go.RowKit

theorem g_rpar16 (p : Par) (hp : p.fit) : Gives Tryz.prog 84 [.ag p.c] (.r (.b p.right)) := by
  refine gives_of_vcg (T := Tab) mixed Tab_ok Tryz.func84 rfl (by kernel_rfl) ?_
  obtain ⟨hp1, hp2, hp3, hp4⟩ := hp
  refine Vloop.mk' (fun i : Nat × Int => { F := [(1, .own 0), (3, .r (I i.1))], O := [(0, some (.box (p.c.map .r)))], nx := 1 })
    (fun i => i.1 ≤ p.late.length ∧ lateF (-1) p.late = lateF i.2 (p.late.drop i.1) ∧ -1 ≤ i.2 ∧ (i.1 = 0 → i.2 = -1) ∧ ∀ h : 0 < i.1 ∧ i.1 - 1 < p.late.length, i.2 = p.late[i.1 - 1]) (fun i => p.late.length - i.1) (0, -1) ⟨by simp, by simp, by simp, by simp, by simp⟩ (sub_of [(0, 0)] rfl ⟨rfl, Cv.refl _, trivial⟩ ⟨cvCells_refl _, trivial⟩) ?_
  rintro ⟨j, last⟩ ⟨hj, hlate, hge, h0, hpos⟩
  simp only at hj hlate hge h0 hpos
  refine Vcmp.split (fun h => Vif.t ?_) (fun h => Vif.f ?_)
  · simp only [beq_iff_eq, bne_iff_ne, beq_eq_false_iff_ne, bne_eq_false_iff_eq, decide_eq_true_eq, decide_eq_false_iff_not, Bool.not_eq_true', Bool.not_eq_false', ne_eq] at h
    have hj' : j < p.late.length := by omega
    have hx := hp4 _ (List.getElem_mem hj')
    rw [List.drop_eq_getElem_cons hj'] at hlate
    simp only [lateF] at hlate
    refine Vdraw.mk' (by kernel_rfl) ?_
    refine Vidx.mk' (by omega) (by omega) (idx_map rfl hj') (Vload1.mk' rfl ?_)
    have bad : ¬ (last < p.late[j] ∧ p.late[j] < 65536) → RV.b false = RV.b p.right := fun hh => by simp [Par.right, hlate, hh]
    have good : last < p.late[j] ∧ p.late[j] < 65536 → ∃ i' : Nat × Int, (i'.1 ≤ p.late.length ∧ lateF (-1) p.late = lateF i'.2 (p.late.drop i'.1) ∧ -1 ≤ i'.2 ∧ (i'.1 = 0 → i'.2 = -1) ∧ ∀ h : 0 < i'.1 ∧ i'.1 - 1 < p.late.length, i'.2 = p.late[i'.1 - 1]) ∧ i'.1 = j + 1 := fun hh => by
      rw [decide_eq_true hh, Bool.true_and] at hlate
      exact ⟨(j + 1, p.late[j]), ⟨by simp only; omega, hlate, by simp only; omega, by simp, fun _ => rfl⟩, rfl⟩
    refine Vcmp.split (fun h1 => Vif.t (Cv.of_eq (bad ?_))) (fun h1 => ?_)
    · simp only [beq_iff_eq, bne_iff_ne, beq_eq_false_iff_ne, bne_eq_false_iff_eq, decide_eq_true_eq, decide_eq_false_iff_not, Bool.not_eq_true', Bool.not_eq_false', ne_eq] at h1; omega
    · simp only [beq_iff_eq, bne_iff_ne, beq_eq_false_iff_ne, bne_eq_false_iff_eq, decide_eq_true_eq, decide_eq_false_iff_not, Bool.not_eq_true', Bool.not_eq_false', ne_eq] at h1
      refine Vidx.mk' (by omega) (by omega) (idx_map rfl hj') (Vload1.mk' rfl ?_)
      refine Vcmp.split (fun h2 => Vif.t (Cv.of_eq (bad ?_))) (fun h2 => ?_)
      · simp only [beq_iff_eq, bne_iff_ne, beq_eq_false_iff_ne, bne_eq_false_iff_eq, decide_eq_true_eq, decide_eq_false_iff_not, Bool.not_eq_true', Bool.not_eq_false', ne_eq] at h2; omega
      · simp only [beq_iff_eq, bne_iff_ne, beq_eq_false_iff_ne, bne_eq_false_iff_eq, decide_eq_true_eq, decide_eq_false_iff_not, Bool.not_eq_true', Bool.not_eq_false', ne_eq] at h2
        refine Vcmp.split (fun h3 => ?_) (fun h3 => ?_)
        · simp only [beq_iff_eq, bne_iff_ne, beq_eq_false_iff_ne, bne_eq_false_iff_eq, decide_eq_true_eq, decide_eq_false_iff_not, Bool.not_eq_true', Bool.not_eq_false', ne_eq] at h3
          have hj0 : 0 < j := by omega
          have hlast := hpos ⟨hj0, by omega⟩
          refine Vint.i64 (m := ((j - 1 : Nat) : Int)) (by omega) (by omega) ?_
          refine Vidx.mk' (by omega) (by omega) (idx_map rfl (show j - 1 < p.late.length by omega)) (Vload1.mk' rfl ?_)
          refine Vidx.mk' (by omega) (by omega) (idx_map rfl hj') (Vload1.mk' rfl ?_)
          refine Vcmp.split (fun h4 => Vif.t (Cv.of_eq (bad ?_))) (fun h4 => Vif.f ?_)
          · simp only [beq_iff_eq, bne_iff_ne, beq_eq_false_iff_ne, bne_eq_false_iff_eq, decide_eq_true_eq, decide_eq_false_iff_not, Bool.not_eq_true', Bool.not_eq_false', ne_eq] at h4; omega
          · simp only [beq_iff_eq, bne_iff_ne, beq_eq_false_iff_ne, bne_eq_false_iff_eq, decide_eq_true_eq, decide_eq_false_iff_not, Bool.not_eq_true', Bool.not_eq_false', ne_eq] at h4
            refine Vint.i64 (m := ((j + 1 : Nat) : Int)) (by omega) (by omega) ?_
            obtain ⟨i', hi, he⟩ := good (by omega)
            exact ⟨i', hi, by omega, he ▸ sub_of [(0, 0)] rfl ⟨rfl, Cv.refl _, trivial⟩ ⟨cvCells_refl _, trivial⟩⟩
        · simp only [beq_iff_eq, bne_iff_ne, beq_eq_false_iff_ne, bne_eq_false_iff_eq, decide_eq_true_eq, decide_eq_false_iff_not, Bool.not_eq_true', Bool.not_eq_false', ne_eq] at h3
          refine Vif.f ?_
          refine Vint.i64 (m := ((j + 1 : Nat) : Int)) (by omega) (by omega) ?_
          obtain ⟨i', hi, he⟩ := good (by have := h0 (by omega); omega)
          exact ⟨i', hi, by omega, he ▸ sub_of [(0, 0)] rfl ⟨rfl, Cv.refl _, trivial⟩ ⟨cvCells_refl _, trivial⟩⟩
  · simp only [beq_iff_eq, bne_iff_ne, beq_eq_false_iff_ne, bne_eq_false_iff_eq, decide_eq_true_eq, decide_eq_false_iff_not, Bool.not_eq_true', Bool.not_eq_false', ne_eq] at h
    have : p.late.drop j = [] := List.drop_eq_nil_of_le (by omega)
    rw [this] at hlate
    simp only [lateF] at hlate
    (repeat' (first | refine Vcmp.split (fun h => ?_) (fun h => ?_) | refine Cv.of_eq ?_ | refine Vif.t ?_ | refine Vif.f ?_))
    all_goals refine congrArg RV.b (Eq.symm ?_)
    all_goals simp only [Par.right, hlate, Bool.true_and, beq_iff_eq, bne_iff_ne, beq_eq_false_iff_ne, bne_eq_false_iff_eq, decide_eq_true_eq, decide_eq_false_iff_not, Bool.not_eq_true', Bool.not_eq_false', ne_eq] at *
    all_goals omega

theorem g_ahead16 (l : Leaf) (hl : l.fit) : Gives Tryz.prog 191 [.ag l.c] (bch (aheadB l)) := by
  refine gives_of_vcg (T := Tab) mixed Tab_ok Tryz.func191 rfl (by kernel_rfl) ?_
  obtain ⟨l1, l2, l3, l4, l5⟩ := hl
  have w1 := vecB_le l.box
  have w2 := vecB_le l.sign
  have w3 := vecB_le l.ident
  have w4 := vecB_le l.parent
  refine Vdraw.mk' (by kernel_rfl) ?_
  refine Vcall.go (g_vec01 l.box (by omega)) ?_
  refine Vcall.go (g_vec01 l.sign (by omega)) ?_
  refine Vcall.go (g_join16 (vecB l.box) (vecB l.sign) (by omega) (by omega)) ?_
  refine Vcall.go (g_vec01 l.ident (by omega)) ?_
  refine Vpub.pub ?_
  refine Vcall.go (g_join16 (vecB l.ident) [l.src] (by omega) (by simp)) ?_
  refine Vcall.go (g_join16 (vecB l.box ++ vecB l.sign) (vecB l.ident ++ [l.src]) (by simp; omega) (by simp; omega)) ?_
  refine Vcmp.split (fun h => Vif.t ?_) (fun h => Vif.f ?_)
  · simp only [beq_iff_eq, bne_iff_ne, beq_eq_false_iff_ne, bne_eq_false_iff_eq, decide_eq_true_eq, decide_eq_false_iff_not, Bool.not_eq_true', Bool.not_eq_false', ne_eq] at h
    have h' : l.src.toNat = 3 := by omega
    refine Vcall.go (g_vec01 l.parent (by omega)) ?_
    refine Vcall.go (g_join16 (vecB l.box ++ vecB l.sign ++ (vecB l.ident ++ [l.src])) (vecB l.parent) (by simp; omega) (by omega)) ?_
    exact ch_eq (by simp [aheadB, h'])
  · simp only [beq_iff_eq, bne_iff_ne, beq_eq_false_iff_ne, bne_eq_false_iff_eq, decide_eq_true_eq, decide_eq_false_iff_not, Bool.not_eq_true', Bool.not_eq_false', ne_eq] at h
    have h' : l.src.toNat ≠ 3 := by omega
    exact ch_eq (by simp [aheadB, h'])
theorem aheadB_le (l : Leaf) (hl : l.fit) : (aheadB l).length ≤ 5000000000 := by
  obtain ⟨l1, l2, l3, l4, l5⟩ := hl
  have w1 := vecB_le l.box
  have w2 := vecB_le l.sign
  have w3 := vecB_le l.ident
  have w4 := vecB_le l.parent
  simp only [aheadB, List.length_append, List.length_cons, List.length_nil]
  split <;> simp <;> omega
theorem g_leafbytes16 (l : Leaf) (hl : l.fit) : Gives Tryz.prog 161 [.ag l.c] (bch (aheadB l ++ vecB l.sig)) := by
  refine gives_of_vcg (T := Tab) mixed Tab_ok Tryz.func161 rfl (by kernel_rfl) ?_
  have w := vecB_le l.sig
  have w2 := aheadB_le l hl
  obtain ⟨_, _, _, _, l5⟩ := id hl
  refine Vdraw.mk' (by kernel_rfl) ?_
  refine VloadN.mk' rfl rfl ?_
  refine Vcall.go (g_ahead16 l hl) ?_
  refine Vcall.go (g_vec01 l.sig (by omega)) ?_
  refine Vcall.go (g_join16 (aheadB l) (vecB l.sig) (by omega) (by omega)) ?_
  rfl
end Go.Proofs.YtpdllgbfemnemaaGreat.Sx
end

section
namespace Go.Proofs.YtpdllgbfemnemaaGreat.Sx
open Go.RowKit

def b16Inv (n : Node) : Nat → St
  | 0 => { F := [(1, .own 0), (3, .r (bs [])), (4, .r (I ((0 : Nat) : Int)))], O := [(0, some (.box (n.c.map .r)))], nx := 1 }
  | j + 1 => { F := [(1, .own 0), (3, .own 1), (4, .r (I ((j + 1 : Nat) : Int)))], O := [(0, some (.box (n.c.map .r))), (1, some (.ch 5 1 (lateB (n.par.late.take (j + 1))).length ((lateB (n.par.late.take (j + 1))).map U8) true))], nx := 2 }
theorem lateB_step {l : List Int} {j : Nat} (hj : j < l.length) : lateB (l.take j) ++ beB 4 (l[j].toNat) = lateB (l.take (j + 1)) := by
  rw [List.take_add_one, List.getElem?_eq_getElem hj]
  simp only [lateB, Option.toList, List.flatMap_append, List.flatMap_cons, List.flatMap_nil, List.append_nil]
theorem g_bytes16 (n : Node) (hn : n.fit) (hr : n.kind.toNat = 2 → ∀ x ∈ n.par.late, 0 ≤ x ∧ x < 65536) : Gives Tryz.prog 123 [.ag n.c] (bch (nodeB n)) := by
  refine gives_of_vcg (T := Tab) mixed Tab_ok Tryz.func123 rfl (by kernel_rfl) ?_
  have w2 := aheadB_le n.leaf hn.1
  have w3 := vecB_le n.leaf.sig
  obtain ⟨hl, h1, h2, h3, _⟩ := id hn
  obtain ⟨_, _, _, _, l5⟩ := id hl
  refine Vcmp.split (fun h => Vif.t ?_) (fun h => Vif.f ?_)
  · simp only [beq_iff_eq, bne_iff_ne, beq_eq_false_iff_ne, bne_eq_false_iff_eq, decide_eq_true_eq, decide_eq_false_iff_not, Bool.not_eq_true', Bool.not_eq_false', ne_eq] at h
    have h' : n.kind.toNat = 1 := by omega
    refine Vpub.pub ?_
    refine VloadN.mk' rfl rfl ?_
    refine Vcall.go (g_leafbytes16 n.leaf hl) ?_
    refine Vcall.go (g_join16 [1] (aheadB n.leaf ++ vecB n.leaf.sig) (by simp) (by simp; omega)) ?_
    exact ch_eq (by simp [nodeB, h'])
  · simp only [beq_iff_eq, bne_iff_ne, beq_eq_false_iff_ne, bne_eq_false_iff_eq, decide_eq_true_eq, decide_eq_false_iff_not, Bool.not_eq_true', Bool.not_eq_false', ne_eq] at h
    have h' : n.kind.toNat ≠ 1 := by omega
    refine Vcmp.split (fun hk => Vif.t ?_) (fun hk => Vif.f ?_)
    · simp only [beq_iff_eq, bne_iff_ne, beq_eq_false_iff_ne, bne_eq_false_iff_eq, decide_eq_true_eq, decide_eq_false_iff_not, Bool.not_eq_true', Bool.not_eq_false', ne_eq] at hk
      have hk' : n.kind.toNat = 2 := by omega
      have hr' := hr hk'
      have hll := lateB_len n.par.late
      have vd1 := vecB_le n.par.box
      have vd2 := vecB_le n.par.hash
      have hlen : ∀ j, j ≤ n.par.late.length → (lateB (n.par.late.take j)).length = 4 * j := fun j hj => by rw [lateB_len, List.length_take]; omega
      refine Vloop.mk' (b16Inv n) (fun j => j ≤ n.par.late.length) (fun j => n.par.late.length - j) 0 (by omega) (sub_of [(0, 0)] rfl ⟨rfl, Cv.nil _, Cv.refl _, trivial⟩ ⟨cvCells_refl _, trivial⟩) ?_
      intro j hj
      rcases j with _ | j
      · refine Vcmp.split (fun h => Vif.t ?_) (fun h => Vif.f ?_)
        · simp only [beq_iff_eq, bne_iff_ne, beq_eq_false_iff_ne, bne_eq_false_iff_eq, decide_eq_true_eq, decide_eq_false_iff_not, Bool.not_eq_true', Bool.not_eq_false', ne_eq] at h
          have hj' : 0 < n.par.late.length := by omega
          refine Vidx.mk' (by omega) (by omega) (idx_map rfl hj') (Vload1.mk' rfl ?_)
          refine ⟨((n.par.late[0].toNat : Nat) : Int), (beB4_wrap _ (hr' _ (List.getElem_mem hj'))).symm, ?_⟩
          refine Vcall.go (g_num01 4 n.par.late[0].toNat (by omega) (by have := hr' _ (List.getElem_mem hj'); omega)) ?_
          refine Vcall.go (g_join16 [] (beB 4 n.par.late[0].toNat) (by simp) (by rw [beB_len]; omega)) ?_
          refine Vint.i64 (m := ((0 + 1 : Nat) : Int)) (by omega) (by omega) ?_
          exact ⟨0 + 1, hj', by omega, sub_of [(0, 0), (1, 2)] rfl ⟨rfl, rfl, Cv.refl _, trivial⟩ ⟨cvCells_refl _, cvCh (lateB_step hj'), trivial⟩⟩
        · simp only [beq_iff_eq, bne_iff_ne, beq_eq_false_iff_ne, bne_eq_false_iff_eq, decide_eq_true_eq, decide_eq_false_iff_not, Bool.not_eq_true', Bool.not_eq_false', ne_eq] at h
          have e : n.par.late = [] := List.eq_nil_of_length_eq_zero (by omega)
          refine Vdraw.mk' (by kernel_rfl) ?_
          refine Vpub.pub ?_
          refine Vcall.go (g_vec01 n.par.box (by omega)) ?_
          refine Vcall.go (g_join16 [2] (vecB n.par.box) (by simp) (by omega)) ?_
          refine Vcall.go (g_vec01 n.par.hash (by omega)) ?_
          refine Vcall.go (g_vec01 [] (by simp)) ?_
          refine Vcall.go (g_join16 (vecB n.par.hash) (vecB []) (by omega) (by simp [vecB_len]; have := lenSz_le 0; omega)) ?_
          refine Vcall.go (g_join16 ([2] ++ vecB n.par.box) (vecB n.par.hash ++ vecB []) (by simp; omega) (by have := lenSz_le 0; simp [vecB_len] at *; omega)) ?_
          exact ch_eq (by simp [nodeB, hk', parB, e, lateB])
      · refine Vcmp.split (fun h => Vif.t ?_) (fun h => Vif.f ?_)
        · simp only [beq_iff_eq, bne_iff_ne, beq_eq_false_iff_ne, bne_eq_false_iff_eq, decide_eq_true_eq, decide_eq_false_iff_not, Bool.not_eq_true', Bool.not_eq_false', ne_eq] at h
          have hj' : j + 1 < n.par.late.length := by omega
          refine Vidx.mk' (by omega) (by omega) (idx_map rfl hj') (Vload1.mk' rfl ?_)
          refine ⟨((n.par.late[j + 1].toNat : Nat) : Int), (beB4_wrap _ (hr' _ (List.getElem_mem hj'))).symm, ?_⟩
          refine Vcall.go (g_num01 4 n.par.late[j + 1].toNat (by omega) (by have := hr' _ (List.getElem_mem hj'); omega)) ?_
          refine Vcall.go (g_join16 (lateB (n.par.late.take (j + 1))) (beB 4 n.par.late[j + 1].toNat) (by rw [hlen _ hj]; omega) (by rw [beB_len]; omega)) ?_
          refine Vint.i64 (m := ((j + 1 + 1 : Nat) : Int)) (by omega) (by omega) ?_
          exact ⟨j + 1 + 1, hj', by omega, sub_of [(0, 0), (1, 3)] rfl ⟨rfl, rfl, Cv.refl _, trivial⟩ ⟨cvCells_refl _, cvCh (lateB_step hj'), trivial⟩⟩
        · simp only [beq_iff_eq, bne_iff_ne, beq_eq_false_iff_ne, bne_eq_false_iff_eq, decide_eq_true_eq, decide_eq_false_iff_not, Bool.not_eq_true', Bool.not_eq_false', ne_eq] at h
          have e : n.par.late.take (j + 1) = n.par.late := List.take_of_length_le (by omega)
          have w4 := vecB_le (lateB (n.par.late.take (j + 1)))
          have w5 := hlen _ hj
          refine Vdraw.mk' (by kernel_rfl) ?_
          refine Vpub.pub ?_
          refine Vcall.go (g_vec01 n.par.box (by omega)) ?_
          refine Vcall.go (g_join16 [2] (vecB n.par.box) (by simp) (by omega)) ?_
          refine Vcall.go (g_vec01 n.par.hash (by omega)) ?_
          refine Vcall.go (g_vec01 (lateB (n.par.late.take (j + 1))) (by omega)) ?_
          refine Vcall.go (g_join16 (vecB n.par.hash) (vecB (lateB (n.par.late.take (j + 1)))) (by omega) (by omega)) ?_
          refine Vcall.go (g_join16 ([2] ++ vecB n.par.box) (vecB n.par.hash ++ vecB (lateB (n.par.late.take (j + 1)))) (by simp; omega) (by simp; omega)) ?_
          exact ch_eq (by simp [nodeB, hk', parB, e])
    · simp only [beq_iff_eq, bne_iff_ne, beq_eq_false_iff_ne, bne_eq_false_iff_eq, decide_eq_true_eq, decide_eq_false_iff_not, Bool.not_eq_true', Bool.not_eq_false', ne_eq] at hk
      have hk' : n.kind.toNat ≠ 2 := by omega
      refine Vpub.pub ?_
      exact ch_eq (m := nodeB n) (l := [0]) (by simp [nodeB, h', hk'])

def leafTextB (i : Int) (n : Node) : List UInt8 := 1 :: (beB 4 i.toNat ++ nodeB n)
theorem nodeB_le (n : Node) (hn : n.fit) : (nodeB n).length ≤ 10000000000 := by
  have w2 := aheadB_le n.leaf hn.1
  have w3 := vecB_le n.leaf.sig
  obtain ⟨hl, h1, h2, h3, _⟩ := id hn
  obtain ⟨_, _, _, _, l5⟩ := id hl
  have hll := lateB_len n.par.late
  have vd1 := vecB_le n.par.box
  have vd2 := vecB_le n.par.hash
  have w4 := vecB_le (lateB n.par.late)
  unfold nodeB parB
  split
  · simp; omega
  · split
    · simp; omega
    · simp
theorem g_leaftext (i : Int) (n : Node) (hn : n.fit) : Gives Tryz.prog 88 [I i, .ag n.c] (.r (if i < 0 ∨ 65536 ≤ i then .tu [bs [], .i .u8 1] else if n.right = false ∨ n.kind.toNat = 2 then .tu [bs [], .i .u8 3] else .tu [bs (leafTextB i n), .i .u8 0])) := by
  refine gives_of_vcg (T := Tab) mixed Tab_ok Tryz.func88 rfl (by kernel_rfl) ?_
  have hnl := nodeB_le n hn
  have nil1 : ∀ (c : Int), Cv (.tu [ofC (.slice none 0 0), .i .u8 c]) (.tu [bs [], .i .u8 c]) := fun c => Cv.tu (Cvs.cons (Cv.nil 1) (Cvs.refl _))
  refine Vcmp.split (fun h1 => Vif.t ?_) (fun h1 => ?_)
  · simp only [beq_iff_eq, bne_iff_ne, beq_eq_false_iff_ne, bne_eq_false_iff_eq, decide_eq_true_eq, decide_eq_false_iff_not, Bool.not_eq_true', Bool.not_eq_false', ne_eq] at h1
    refine ⟨_, rfl, ?_⟩
    rw [if_pos (.inl h1)]
    exact nil1 1
  · refine Vcmp.split (fun h2 => Vif.t ?_) (fun h2 => Vif.f ?_)
    · simp only [beq_iff_eq, bne_iff_ne, beq_eq_false_iff_ne, bne_eq_false_iff_eq, decide_eq_true_eq, decide_eq_false_iff_not, Bool.not_eq_true', Bool.not_eq_false', ne_eq] at h1 h2
      refine ⟨_, rfl, ?_⟩
      rw [if_pos (.inr (by omega))]
      exact nil1 1
    · simp only [beq_iff_eq, bne_iff_ne, beq_eq_false_iff_ne, bne_eq_false_iff_eq, decide_eq_true_eq, decide_eq_false_iff_not, Bool.not_eq_true', Bool.not_eq_false', ne_eq] at h1 h2
      rw [if_neg (show ¬ (i < 0 ∨ 65536 ≤ i) by omega)]
      refine VloadN.mk' rfl rfl ?_
      refine Vcall.go (g_nbytes n hn) ?_
      cases hr : n.right with
      | false =>
        refine Vcmp.t rfl (Vif.t ?_)
        refine ⟨_, rfl, ?_⟩
        rw [if_pos (.inl rfl)]
        exact nil1 3
      | true =>
        refine Vcmp.f rfl ?_
        refine Vcmp.split (fun h3 => Vif.t ?_) (fun h3 => Vif.f ?_)
        · simp only [beq_iff_eq, bne_iff_ne, beq_eq_false_iff_ne, bne_eq_false_iff_eq, decide_eq_true_eq, decide_eq_false_iff_not, Bool.not_eq_true', Bool.not_eq_false', ne_eq] at h3
          refine ⟨_, rfl, ?_⟩
          rw [if_pos (.inr (by omega))]
          exact nil1 3
        · simp only [beq_iff_eq, bne_iff_ne, beq_eq_false_iff_ne, bne_eq_false_iff_eq, decide_eq_true_eq, decide_eq_false_iff_not, Bool.not_eq_true', Bool.not_eq_false', ne_eq] at h3
          refine Vpub.pub ?_
          refine ⟨((i.toNat : Nat) : Int), (beB4_wrap _ (by omega)).symm, ?_⟩
          refine Vcall.go (g_putnum [1] 4 i.toNat (by simp) (by omega)) ?_
          refine Vapp.mk' (j := ([1] ++ beB 4 i.toNat ++ nodeB n).length) (zs := ([1] ++ beB 4 i.toNat ++ nodeB n).map U8) (by simp [maxLen, beB_len]; omega) (by simp [beB_len]; omega) (by simp; omega) (by simp) ?_
          refine ⟨_, rfl, Cv.of_eq ?_⟩
          rw [if_neg (by simp; omega)]
          rfl
end Go.Proofs.YtpdllgbfemnemaaGreat.Sx
end
