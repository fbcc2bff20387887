import Derived.Test.YtpdllgbfemnemaaGreatZKj
import Derived.Test.YtpdllgbfemnemaaGreatZSxY
section
namespace Go.Proofs.YtpdllgbfemnemaaGreat.Sx
open Go.RowKit

theorem u_int : Tryz.prog.underlying 3 = some (.int .i64) := by kernel_rfl
theorem u_nodes : Tryz.prog.underlying 88 = some (.map 3 60) := by kernel_rfl
theorem u_hashes : Tryz.prog.underlying 89 = some (.map 3 28) := by kernel_rfl
def nodeE (l : List Spot) : List (Int × RV) := l.map fun s => (s.at_, RV.ag s.node.c)
def hashE (l : List Stub) : List (Int × RV) := l.map fun s => (s.at_, bs s.hash)
def riseF : Int → List Int → Bool
  | _, [] => true
  | last, x :: r => decide (last < x) && riseF x r
def Lean_.lookOk (s : Lean_) : Bool := riseF (-1) (s.opn.map (·.at_)) && riseF (-1) (s.shut.map (·.at_))
def lookC (s : Lean_) : List RV := [.s (mapS (nodeE s.opn)), .s (mapS (hashE s.shut))]
def look0 : List RV := [.s (mapS []), .s (mapS [])]
def lookR (s : Lean_) : RV := if s.lookOk then .tu [.ag (lookC s), .b true] else .tu [.ag look0, .b false]
theorem cv_map0 : Cv (.x (.map none)) (.s (mapS [])) := fun w k v h => by
  simp only [RV.at_] at *
  exact .inl ⟨h, rfl⟩
theorem mfind_none : ∀ {l : List (Int × RV)} {n : Int}, (∀ x ∈ l, x.1 ≠ n) → mfind l n = none
  | [], _, _ => rfl
  | (m, r) :: l, n, h => by
    simp only [mfind]
    rw [if_neg (h (m, r) (by simp)), mfind_none fun x hx => h x (by simp [hx])]
theorem nodeE_snoc {l : List Spot} {j : Nat} (hj : j < l.length) : nodeE (l.take j) ++ [(l[j].at_, RV.ag l[j].node.c)] = nodeE (l.take (j + 1)) := by
  rw [List.take_add_one, List.getElem?_eq_getElem hj]; unfold nodeE; rw [List.map_append]; rfl
theorem hashE_snoc {l : List Stub} {j : Nat} (hj : j < l.length) : hashE (l.take j) ++ [(l[j].at_, bs l[j].hash)] = hashE (l.take (j + 1)) := by
  rw [List.take_add_one, List.getElem?_eq_getElem hj]; unfold hashE; rw [List.map_append]; rfl
theorem gen_refl {ρ : List (Nat × Nat)} {S : St} (p : GOw) : cvOw ρ S (.gen p) (.gen p) := fun _ _ _ h => h
theorem gen_eq {ρ : List (Nat × Nat)} {S : St} {l m : List (Int × RV)} (h : l = m) : cvOw ρ S (.gen (mapO l)) (.gen (mapO m)) := by subst h; exact gen_refl _

theorem g_lookof (s : Lean_) (h1 : s.opn.length ≤ 1000000000) (h2 : s.shut.length ≤ 1000000000) : Gives Tryz.prog 51 [.ag s.c] (.r (lookR s)) := by
  refine gives_of_vcg (T := Tab) mixed Tab_ok Tryz.func51 rfl (by kernel_rfl) ?_
  have bad : s.lookOk = false → Cv (.tu [.ag [.x (.map none), .x (.map none)], .b false]) (lookR s) := fun h => by
    rw [lookR, h]
    exact Cv.tu (Cvs.cons (Cv.ag (Cvs.cons cv_map0 (Cvs.cons cv_map0 Cvs.nil))) (Cvs.refl _))
  refine code_mk2 Tab_ok rfl ⟨rfl, rfl, rfl⟩ ⟨rfl, rfl, rfl⟩ ⟨rfl, rfl, rfl⟩ ⟨rfl, rfl, rfl⟩ ⟨rfl, rfl, rfl⟩ rfl rfl rfl rfl rfl rfl (by decide) ?_
  refine Vloop.mk' (fun i : Nat × Int => { F := [(1, .own 0), (2, .own 1), (3, .r (.b false)), (4, .own 4), (5, .r (I i.2)), (14, .r (spots s.opn)), (15, .r (I s.opn.length)), (16, .r (I i.1))], O := [(0, some (.box (s.c.map .r))), (1, some (.box [.r (.x (.map none)), .r (.x (.map none))])), (2, some (.gen (mapO (nodeE (s.opn.take i.1))))), (3, some (.gen (mapO []))), (4, some (.box [.own 2, .own 3]))], nx := 5 })
    (fun i => i.1 ≤ s.opn.length ∧ riseF (-1) (s.opn.map (·.at_)) = riseF i.2 ((s.opn.drop i.1).map (·.at_)) ∧ ∀ y ∈ s.opn.take i.1, y.at_ ≤ i.2) (fun i => s.opn.length - i.1) (0, -1) ⟨by simp, by simp, by simp⟩
    (sub_of [(0, 0), (1, 1), (2, 2), (3, 3), (4, 4)] rfl ⟨rfl, rfl, Cv.refl _, rfl, Cv.refl _, Cv.refl _, Cv.refl _, Cv.refl _, trivial⟩ ⟨cvCells_refl _, cvCells_refl [.x (.map none), .x (.map none)], gen_refl _, gen_refl _, ⟨_, _, rfl, rfl, _, _, rfl, rfl, rfl⟩, trivial⟩) ?_
  rintro ⟨j, last⟩ ⟨hj, hrise, hle⟩
  simp only at hj hrise hle
  refine Vcmp.split (fun h => Vif.t ?_) (fun h => Vif.f ?_)
  · simp only [beq_iff_eq, bne_iff_ne, beq_eq_false_iff_ne, bne_eq_false_iff_eq, decide_eq_true_eq, decide_eq_false_iff_not, Bool.not_eq_true', Bool.not_eq_false', ne_eq] at h
    have hj' : j < s.opn.length := by omega
    rw [List.drop_eq_getElem_cons hj', List.map_cons] at hrise
    simp only [riseF] at hrise
    refine Vidx.mk' (by omega) (by omega) (idx_spot rfl hj') ?_
    refine VloadN.mk' rfl rfl ?_
    refine Vcmp.split (fun h3 => Vif.t ?_) (fun h3 => Vif.f ?_)
    · simp only [beq_iff_eq, bne_iff_ne, beq_eq_false_iff_ne, bne_eq_false_iff_eq, decide_eq_true_eq, decide_eq_false_iff_not, Bool.not_eq_true', Bool.not_eq_false', ne_eq] at h3
      refine VloadN.mk' rfl rfl ⟨_, rfl, bad ?_⟩
      simp only [Lean_.lookOk, hrise]
      rw [decide_eq_false (by omega)]
      rfl
    · simp only [beq_iff_eq, bne_iff_ne, beq_eq_false_iff_ne, bne_eq_false_iff_eq, decide_eq_true_eq, decide_eq_false_iff_not, Bool.not_eq_true', Bool.not_eq_false', ne_eq] at h3
      refine VloadN.mk' rfl rfl ?_
      refine Vstep.mapNew rfl rfl rfl rfl rfl rfl u_nodes u_int (mfind_none fun x hx => ?_) ?_
      · obtain ⟨y, hy, rfl⟩ := List.mem_map.1 hx
        have := hle y hy
        simp only; omega
      refine Vint.i64 (m := ((j + 1 : Nat) : Int)) (by omega) (by omega) ?_
      rw [decide_eq_true (by omega), Bool.true_and] at hrise
      exact ⟨(j + 1, s.opn[j].at_), ⟨hj', hrise, take_all (p := fun y => y.at_ ≤ s.opn[j].at_) hj' (fun y hy => by have := hle y hy; omega) (Int.le_refl _)⟩, by simp only; omega,
        sub_of [(0, 0), (1, 1), (2, 2), (3, 3), (4, 4)] rfl ⟨rfl, rfl, Cv.refl _, rfl, Cv.refl _, Cv.refl _, Cv.refl _, Cv.refl _, trivial⟩ ⟨cvCells_refl _, cvCells_refl [.x (.map none), .x (.map none)], gen_eq (nodeE_snoc hj'), gen_refl _, ⟨_, _, rfl, rfl, _, _, rfl, rfl, rfl⟩, trivial⟩⟩
  simp only [beq_iff_eq, bne_iff_ne, beq_eq_false_iff_ne, bne_eq_false_iff_eq, decide_eq_true_eq, decide_eq_false_iff_not, Bool.not_eq_true', Bool.not_eq_false', ne_eq] at h
  have hd : s.opn.drop j = [] := List.drop_eq_nil_of_le (by omega)
  rw [hd] at hrise
  rw [List.take_of_length_le (by omega)]
  simp only [List.map_nil, riseF] at hrise
  refine Vloop.mkx (fun i : Nat × Int => { F := [(1, .own 0), (2, .own 1), (3, .r (.b false)), (4, .own 4), (5, .r (I i.2)), (35, .r (stubs s.shut)), (36, .r (I s.shut.length)), (37, .r (I i.1))], O := [(0, some (.box (s.c.map .r))), (1, some (.box [.r (.x (.map none)), .r (.x (.map none))])), (2, some (.gen (mapO (nodeE s.opn)))), (3, some (.gen (mapO (hashE (s.shut.take i.1))))), (4, some (.box [.own 2, .own 3]))], nx := 5 })
    (fun i => i.1 ≤ s.shut.length ∧ riseF (-1) (s.shut.map (·.at_)) = riseF i.2 ((s.shut.drop i.1).map (·.at_)) ∧ ∀ y ∈ s.shut.take i.1, y.at_ ≤ i.2) (fun i => s.shut.length - i.1) (0, -1) ⟨by simp, by simp, by simp⟩
    (sub_of [(0, 0), (1, 1), (2, 2), (3, 3), (4, 4)] rfl ⟨rfl, rfl, Cv.refl _, rfl, Cv.refl _, Cv.refl _, Cv.refl _, Cv.refl _, trivial⟩ ⟨cvCells_refl _, cvCells_refl [.x (.map none), .x (.map none)], gen_refl _, gen_refl _, ⟨_, _, rfl, rfl, _, _, rfl, rfl, rfl⟩, trivial⟩) ?_
  rintro ⟨j2, last2⟩ ⟨hj2, hrise2, hle2⟩
  simp only at hj2 hrise2 hle2
  refine Vcmp.split (fun h3 => Vif.t ?_) (fun h3 => Vif.f ?_)
  · simp only [beq_iff_eq, bne_iff_ne, beq_eq_false_iff_ne, bne_eq_false_iff_eq, decide_eq_true_eq, decide_eq_false_iff_not, Bool.not_eq_true', Bool.not_eq_false', ne_eq] at h3
    have hj' : j2 < s.shut.length := by omega
    rw [List.drop_eq_getElem_cons hj', List.map_cons] at hrise2
    simp only [riseF] at hrise2
    refine Vidx.mk' (by omega) (by omega) (idx_stub rfl hj') ?_
    refine VloadN.mk' rfl rfl ?_
    refine Vcmp.split (fun h4 => Vif.t ?_) (fun h4 => Vif.f ?_)
    · simp only [beq_iff_eq, bne_iff_ne, beq_eq_false_iff_ne, bne_eq_false_iff_eq, decide_eq_true_eq, decide_eq_false_iff_not, Bool.not_eq_true', Bool.not_eq_false', ne_eq] at h4
      refine ⟨_, Sub.refl _, ?_⟩
      refine VloadN.mk' rfl rfl ⟨_, rfl, bad ?_⟩
      simp only [Lean_.lookOk, hrise2]
      rw [decide_eq_false (by omega)]
      simp
    · simp only [beq_iff_eq, bne_iff_ne, beq_eq_false_iff_ne, bne_eq_false_iff_eq, decide_eq_true_eq, decide_eq_false_iff_not, Bool.not_eq_true', Bool.not_eq_false', ne_eq] at h4
      refine Vstep.mapNew rfl rfl rfl rfl rfl rfl u_hashes u_int (mfind_none fun x hx => ?_) ?_
      · obtain ⟨y, hy, rfl⟩ := List.mem_map.1 hx
        have := hle2 y hy
        simp only; omega
      refine Vint.i64 (m := ((j2 + 1 : Nat) : Int)) (by omega) (by omega) ?_
      rw [decide_eq_true (by omega), Bool.true_and] at hrise2
      exact ⟨(j2 + 1, s.shut[j2].at_), ⟨hj', hrise2, take_all (p := fun y => y.at_ ≤ s.shut[j2].at_) hj' (fun y hy => by have := hle2 y hy; omega) (Int.le_refl _)⟩, by simp only; omega,
        sub_of [(0, 0), (1, 1), (2, 2), (3, 3), (4, 4)] rfl ⟨rfl, rfl, Cv.refl _, rfl, Cv.refl _, Cv.refl _, Cv.refl _, Cv.refl _, trivial⟩ ⟨cvCells_refl _, cvCells_refl [.x (.map none), .x (.map none)], gen_refl _, gen_eq (hashE_snoc hj'), ⟨_, _, rfl, rfl, _, _, rfl, rfl, rfl⟩, trivial⟩⟩
  simp only [beq_iff_eq, bne_iff_ne, beq_eq_false_iff_ne, bne_eq_false_iff_eq, decide_eq_true_eq, decide_eq_false_iff_not, Bool.not_eq_true', Bool.not_eq_false', ne_eq] at h3
  have hd2 : s.shut.drop j2 = [] := List.drop_eq_nil_of_le (by omega)
  rw [hd2] at hrise2
  rw [List.take_of_length_le (by omega)]
  simp only [List.map_nil, riseF] at hrise2
  refine ⟨_, Sub.trans (sub_pubmap (id := 2) (j := 4) (i := 0) rfl rfl rfl) (sub_pubmap (id := 3) (j := 4) (i := 1) rfl rfl rfl), ?_⟩
  refine VloadN.mk' rfl rfl ?_
  refine VloadN.mk' rfl rfl ⟨_, rfl, Cv.of_eq ?_⟩
  rw [lookR, Lean_.lookOk, hrise, hrise2]
  rfl
end Go.Proofs.YtpdllgbfemnemaaGreat.Sx
end

section
namespace Go.Proofs.YtpdllgbfemnemaaGreat.Sx
open Go.RowKit

/-! ### Searches by a function -/
def idxF (q : Int → Bool) : Nat → List Int → Int
  | _, [] => -1
  | j, x :: r => if q x then (j : Int) else idxF q (j + 1) r
theorem idxF_bd (q : Int → Bool) : ∀ (l : List Int) (j : Nat), -1 ≤ idxF q j l ∧ idxF q j l < (j + l.length : Nat) ∧ (0 ≤ idxF q j l ↔ l.any q = true)
  | [], j => by simp [idxF]; omega
  | x :: r, j => by
    have ih := idxF_bd q r (j + 1)
    rw [idxF, List.any_cons, List.length_cons]
    by_cases hq : q x = true
    · rw [if_pos hq, hq]
      exact ⟨by omega, by omega, by simp⟩
    · rw [if_neg hq, Bool.eq_false_iff.2 hq, Bool.false_or]
      exact ⟨ih.1, by omega, ih.2.2⟩
theorem g_indexfunc (l : List Int) (D : Int → Prop) (q : Int → Bool) (hl : l.length ≤ 1000000000) (hD : ∀ x ∈ l, D x) : Gives Tryz.prog 141 [is l, .s (cloS Tryz.prog I D q)] (.r (I (idxF q 0 l))) := by
  refine gives_of_vcg (T := Tab) mixed Tab_ok Tryz.func141 rfl (by kernel_rfl) ?_
  refine Vloop.mk' (fun j : Nat => { F := [(0, .r (is l)), (1, .r (.s (cloS Tryz.prog I D q))), (7, .r (I l.length)), (8, .r (I j))], O := [], nx := 0 }) (fun j => j ≤ l.length ∧ idxF q 0 l = idxF q j (l.drop j)) (fun j => l.length - j) 0 ⟨by omega, by simp⟩ (sub_of [] rfl ⟨Cv.refl _, Cv.refl _, Cv.refl _, Cv.refl _, trivial⟩ trivial) ?_
  rintro j ⟨hj, he⟩
  refine Vcmp.split (fun h => Vif.t ?_) (fun h => Vif.f ?_)
  · simp only [beq_iff_eq, bne_iff_ne, beq_eq_false_iff_ne, bne_eq_false_iff_eq, decide_eq_true_eq, decide_eq_false_iff_not, Bool.not_eq_true', Bool.not_eq_false', ne_eq] at h
    have hj' : j < l.length := by omega
    rw [List.drop_eq_getElem_cons hj'] at he
    simp only [idxF] at he
    refine Vidx.mk' (by omega) (by omega) (idx_map rfl hj') (Vload1.mk' rfl ?_)
    refine Vstep.cloB l[j] rfl rfl rfl rfl (Cv.refl _) (hD _ (List.getElem_mem hj')) (fun hq => Vif.t ?_) (fun hq => Vif.f ?_)
    · rw [hq] at he
      exact Cv.of_eq (by rw [he]; simp)
    · rw [hq] at he
      refine Vint.i64 (m := ((j + 1 : Nat) : Int)) (by omega) (by omega) ?_
      exact ⟨j + 1, ⟨hj', by rw [he]; simp⟩, by omega, sub_of [] rfl ⟨Cv.refl _, Cv.refl _, Cv.refl _, Cv.refl _, trivial⟩ trivial⟩
  · simp only [beq_iff_eq, bne_iff_ne, beq_eq_false_iff_ne, bne_eq_false_iff_eq, decide_eq_true_eq, decide_eq_false_iff_not, Bool.not_eq_true', Bool.not_eq_false', ne_eq] at h
    rw [List.drop_eq_nil_of_le (by omega)] at he
    exact Cv.of_eq (by rw [he]; rfl)
theorem g_containsfunc (l : List Int) (D : Int → Prop) (q : Int → Bool) (hl : l.length ≤ 1000000000) (hD : ∀ x ∈ l, D x) : Gives Tryz.prog 96 [is l, .s (cloS Tryz.prog I D q)] (.r (.b (l.any q))) := by
  refine gives_of_vcg (T := Tab) mixed Tab_ok Tryz.func96 rfl (by kernel_rfl) ?_
  refine Vcall.go (g_indexfunc l D q hl hD) ?_
  exact Vcmp.mk' rfl (Cv.of_eq (congrArg RV.b (by rw [Bool.eq_iff_iff, decide_eq_true_eq]; exact (idxF_bd q l 0).2.2)))

def lateD (u : Int) : Prop := 0 ≤ u ∧ u < 65536
theorem g_fine1 (u x : Int) (hu : lateD u) : Gives Tryz.prog 97 [I u, .ptr [I x]] (.r (.b (!underI (2 * u) x))) := by
  refine gives_of_vcg (T := Tab) mixed Tab_ok Tryz.func97 rfl (by kernel_rfl) ?_
  unfold lateD at hu
  refine Vint.i64 rfl (by omega) ?_
  refine Vload1.mk' rfl ?_
  refine Vcall.go (g_under (2 * u) x) ?_
  exact Vcmp.mk' rfl (Cv.refl _)
theorem g_part1 (u x : Int) (hu : lateD u) : Gives Tryz.prog 100 [I u, .ptr [I x]] (.r (.b (underI (2 * u) x))) := by
  refine gives_of_vcg (T := Tab) mixed Tab_ok Tryz.func100 rfl (by kernel_rfl) ?_
  unfold lateD at hu
  refine Vint.i64 rfl (by omega) ?_
  refine Vload1.mk' rfl ?_
  refine Vcall.go (g_under (2 * u) x) ?_
  exact Cv.refl _

/-! ### fine -/
def otherK (x : Int) : Nat := if x.tmod 2 = 1 then 1 else 2
def fineP (x : Int) (n : Node) : Bool := n.right && (decide (n.kind.toNat ≠ otherK x) && n.par.late.all fun u => underI (2 * u) x)
theorem any_not (l : List Int) (q : Int → Bool) : (!l.any fun u => !q u) = l.all q := by
  induction l with
  | nil => rfl
  | cons x r ih => simp [List.any_cons, List.all_cons, Bool.not_or, ih]
theorem Node.right_late {n : Node} (h : n.right = true) : ∀ u ∈ n.par.late, lateD u := by
  unfold Node.right at h
  split at h
  · simp only [Bool.and_eq_true] at h
    have := h.2
    simp only [Par.none, decide_eq_true_eq, List.length_eq_zero_iff] at this
    rw [this.2.2]; simp
  · split at h
    · simp only [Bool.and_eq_true] at h
      have := h.2
      simp only [Par.none, decide_eq_true_eq, List.length_eq_zero_iff] at this
      rw [this.2.2]; simp
    · split at h
      · simp only [Bool.and_eq_true] at h
        exact fun u hu => Par.right_bd h.2 u hu
      · cases h
theorem g_fine (x : Int) (n : Node) (hn : n.fit) : Gives Tryz.prog 56 [I x, .ag n.c] (.r (.b (fineP x n))) := by
  refine gives_of_vcg (T := Tab) mixed Tab_ok Tryz.func56 rfl (by kernel_rfl) ?_
  refine VloadN.mk' rfl rfl ?_
  refine Vcall.go (g_nbytes n hn) ?_
  have clo := fun (u : Int) (hu : lateD u) => g_fine1 u x hu
  cases hr : n.right with
  | false =>
    refine ⟨by decide, _, rfl, ?_⟩
    refine Vcmp.split (fun h => Vif.t ?_) (fun h => Vif.f ?_)
    · refine Vcmp.f rfl ?_
      exact Cv.of_eq (congrArg RV.b (by simp [fineP, hr]))
    · refine Vcmp.f rfl ?_
      exact Cv.of_eq (congrArg RV.b (by simp [fineP, hr]))
  | true =>
    have hlate := Node.right_late hr
    have hll : n.par.late.length ≤ 1000000000 := by have := hn.2.2.2.1; omega
    have fin : ∀ {β : Bool}, β = n.par.late.any (fun u => !underI (2 * u) x) → n.kind.toNat ≠ otherK x → (!β) = fineP x n := fun hb hk => by
      subst hb
      rw [any_not]
      simp [fineP, hr, hk]
    refine ⟨by decide, _, rfl, ?_⟩
    refine Vcmp.split (fun h => Vif.t ?_) (fun h => Vif.f ?_)
    · simp only [beq_iff_eq, bne_iff_ne, beq_eq_false_iff_ne, bne_eq_false_iff_eq, decide_eq_true_eq, decide_eq_false_iff_not, Bool.not_eq_true', Bool.not_eq_false', ne_eq] at h
      refine Vcmp.t rfl ?_
      refine Vcmp.split (fun h2 => ?_) (fun h2 => ?_)
      · simp only [beq_iff_eq, bne_iff_ne, beq_eq_false_iff_ne, bne_eq_false_iff_eq, decide_eq_true_eq, decide_eq_false_iff_not, Bool.not_eq_true', Bool.not_eq_false', ne_eq] at h2
        refine Vstep.sub (sub_pub (t := 2) [I x] rfl rfl) (Vstep.mkfun I lateD _ rfl rfl clo ?_)
        refine Vcall.go (g_containsfunc n.par.late lateD _ hll hlate) ?_
        exact Vcmp.mk' rfl (Cv.of_eq (congrArg RV.b (fin rfl (by simp [otherK, h]; omega))))
      · simp only [beq_iff_eq, bne_iff_ne, beq_eq_false_iff_ne, bne_eq_false_iff_eq, decide_eq_true_eq, decide_eq_false_iff_not, Bool.not_eq_true', Bool.not_eq_false', ne_eq] at h2
        refine Cv.of_eq (congrArg RV.b ?_)
        have : n.kind.toNat = otherK x := by simp [otherK, h]; omega
        simp [fineP, this]
    · simp only [beq_iff_eq, bne_iff_ne, beq_eq_false_iff_ne, bne_eq_false_iff_eq, decide_eq_true_eq, decide_eq_false_iff_not, Bool.not_eq_true', Bool.not_eq_false', ne_eq] at h
      refine Vcmp.t rfl ?_
      refine Vcmp.split (fun h2 => ?_) (fun h2 => ?_)
      · simp only [beq_iff_eq, bne_iff_ne, beq_eq_false_iff_ne, bne_eq_false_iff_eq, decide_eq_true_eq, decide_eq_false_iff_not, Bool.not_eq_true', Bool.not_eq_false', ne_eq] at h2
        refine Vstep.sub (sub_pub (t := 2) [I x] rfl rfl) (Vstep.mkfun I lateD _ rfl rfl clo ?_)
        refine Vcall.go (g_containsfunc n.par.late lateD _ hll hlate) ?_
        exact Vcmp.mk' rfl (Cv.of_eq (congrArg RV.b (fin rfl (by simp [otherK, h]; omega))))
      · simp only [beq_iff_eq, bne_iff_ne, beq_eq_false_iff_ne, bne_eq_false_iff_eq, decide_eq_true_eq, decide_eq_false_iff_not, Bool.not_eq_true', Bool.not_eq_false', ne_eq] at h2
        refine Cv.of_eq (congrArg RV.b ?_)
        have : n.kind.toNat = otherK x := by simp [otherK, h]; omega
        simp [fineP, this]
end Go.Proofs.YtpdllgbfemnemaaGreat.Sx
end

section
namespace Go.Proofs.YtpdllgbfemnemaaGreat.Sx
open Go.RowKit

theorem z_node : (Tryz.prog.info? 60).bind (·.zero) = some (.agg #[.int .u8 0, .slice none 0 0, .slice none 0 0, .slice none 0 0, .int .u8 0, .slice none 0 0, .slice none 0 0, .slice none 0 0, .slice none 0 0, .slice none 0 0]) := by kernel_rfl
theorem z_bytes : (Tryz.prog.info? 28).bind (·.zero) = some (.slice none 0 0) := by kernel_rfl
theorem zc_at (w : World) (k : Kp) : (RV.ag zc).at_ w k (.agg #[.int .u8 0, .slice none 0 0, .slice none 0 0, .slice none 0 0, .int .u8 0, .slice none 0 0, .slice none 0 0, .slice none 0 0, .slice none 0 0, .slice none 0 0]) := by
  simp only [RV.at_]
  refine ⟨_, rfl, ?_⟩
  exact listAt_ofC [.int .u8 0, .slice none 0 0, .slice none 0 0, .slice none 0 0, .int .u8 0, .slice none 0 0, .slice none 0 0, .slice none 0 0, .slice none 0 0, .slice none 0 0] (by simp [Value.oneCell'])
def shutF (l : List Stub) (x : Int) : Option (List UInt8) := (l.find? fun s => decide (s.at_ = x)).map (·.hash)
theorem mfind_node : ∀ (l : List Spot) (x : Int), mfind (nodeE l) x = (findS l x).map fun n => .ag n.c
  | [], x => rfl
  | s :: l, x => by
    have ih := mfind_node l x
    simp only [nodeE, findS, List.map_cons, mfind, List.find?_cons] at *
    by_cases h : s.at_ = x
    · simp [h]
    · simp [h, ih]
theorem mfind_hash : ∀ (l : List Stub) (x : Int), mfind (hashE l) x = (shutF l x).map bs
  | [], x => rfl
  | s :: l, x => by
    have ih := mfind_hash l x
    simp only [hashE, shutF, List.map_cons, mfind, List.find?_cons] at *
    by_cases h : s.at_ = x
    · simp [h]
    · simp [h, ih]
section
variable {S : St} {o : Oper}
theorem Vstep.node2 {x y : Operand} {n : Int} {l : List Spot} {K : St → Prop} (hop : o.op = .lookup 88 x y true) (hx : opr S x = some (.r (.s (mapS (nodeE l))))) (hy : opr S y = some (.r (.i .i64 n)))
    (h1 : ∀ m, findS l n = some m → newK S o.dst (.r (.tu [.ag m.c, .b true])) none K) (h0 : findS l n = none → newK S o.dst (.r (.tu [.ag zc, .b false])) none K) : Vstep Tryz.prog S o K := by
  refine Vstep.look2 (.ag zc) hop hx hy u_nodes u_int z_node zc_at (fun r hr => ?_) (fun hr => ?_)
  · rw [mfind_node, Option.map_eq_some_iff] at hr
    obtain ⟨m, hm, rfl⟩ := hr
    exact h1 m hm
  · rw [mfind_node, Option.map_eq_none_iff] at hr
    exact h0 hr
theorem Vstep.node1 {x y : Operand} {n : Int} {l : List Spot} {K : St → Prop} (hop : o.op = .lookup 88 x y false) (hx : opr S x = some (.r (.s (mapS (nodeE l))))) (hy : opr S y = some (.r (.i .i64 n)))
    (h1 : ∀ m, findS l n = some m → newK S o.dst (.r (.ag m.c)) none K) (h0 : findS l n = none → newK S o.dst (.r (.ag zc)) none K) : Vstep Tryz.prog S o K := by
  refine Vstep.look1 (.ag zc) hop hx hy u_nodes u_int z_node zc_at (fun r hr => ?_) (fun hr => ?_)
  · rw [mfind_node, Option.map_eq_some_iff] at hr
    obtain ⟨m, hm, rfl⟩ := hr
    exact h1 m hm
  · rw [mfind_node, Option.map_eq_none_iff] at hr
    exact h0 hr
theorem Vstep.hash2 {x y : Operand} {n : Int} {l : List Stub} {K : St → Prop} (hop : o.op = .lookup 89 x y true) (hx : opr S x = some (.r (.s (mapS (hashE l))))) (hy : opr S y = some (.r (.i .i64 n)))
    (h1 : ∀ m, shutF l n = some m → newK S o.dst (.r (.tu [bs m, .b true])) none K) (h0 : shutF l n = none → newK S o.dst (.r (.tu [.x (.slice none 0 0), .b false])) none K) : Vstep Tryz.prog S o K := by
  refine Vstep.look2 (.x (.slice none 0 0)) hop hx hy u_hashes u_int z_bytes (fun _ _ => by simp [RV.at_]) (fun r hr => ?_) (fun hr => ?_)
  · rw [mfind_hash, Option.map_eq_some_iff] at hr
    obtain ⟨m, hm, rfl⟩ := hr
    exact h1 m hm
  · rw [mfind_hash, Option.map_eq_none_iff] at hr
    exact h0 hr
theorem Vstep.hash1 {x y : Operand} {n : Int} {l : List Stub} {K : St → Prop} (hop : o.op = .lookup 89 x y false) (hx : opr S x = some (.r (.s (mapS (hashE l))))) (hy : opr S y = some (.r (.i .i64 n)))
    (h1 : ∀ m, shutF l n = some m → newK S o.dst (.r (bs m)) none K) (h0 : shutF l n = none → newK S o.dst (.r (.x (.slice none 0 0))) none K) : Vstep Tryz.prog S o K := by
  refine Vstep.look1 (.x (.slice none 0 0)) hop hx hy u_hashes u_int z_bytes (fun _ _ => by simp [RV.at_]) (fun r hr => ?_) (fun hr => ?_)
  · rw [mfind_hash, Option.map_eq_some_iff] at hr
    obtain ⟨m, hm, rfl⟩ := hr
    exact h1 m hm
  · rw [mfind_hash, Option.map_eq_none_iff] at hr
    exact h0 hr
end

/-! ### stub -/
abbrev none_ : Int := -1099511627776
def stubP (H : List Stub) (x : Int) : Int := match shutF H x with
  | some h => if h.length = 32 then 1 else none_
  | none => none_
theorem stubP_bd (H : List Stub) (x : Int) : stubP H x = 1 ∨ stubP H x = none_ := by
  unfold stubP
  split
  · split <;> simp
  · simp
theorem g_stub (s : Lean_) (x : Int) : Gives Tryz.prog 58 [.ag (lookC s), I x] (.r (I (stubP s.shut x))) := by
  refine gives_of_vcg (T := Tab) mixed Tab_ok Tryz.func58 rfl (by kernel_rfl) ?_
  refine Vstep.hash2 rfl rfl rfl (fun m hm => ?_) (fun hm => ?_)
  · refine Vcmp.split (fun h => Vif.t ?_) (fun h => Vif.f ?_)
    · simp only [beq_iff_eq, bne_iff_ne, beq_eq_false_iff_ne, bne_eq_false_iff_eq, decide_eq_true_eq, decide_eq_false_iff_not, Bool.not_eq_true', Bool.not_eq_false', ne_eq] at h
      exact Cv.of_eq (by simp only [stubP, hm]; rw [if_pos (by omega)]; rfl)
    · simp only [beq_iff_eq, bne_iff_ne, beq_eq_false_iff_ne, bne_eq_false_iff_eq, decide_eq_true_eq, decide_eq_false_iff_not, Bool.not_eq_true', Bool.not_eq_false', ne_eq] at h
      exact Cv.of_eq (by simp only [stubP, hm]; rw [if_neg (by omega)]; rfl)
  · refine Vif.f ?_
    exact Cv.of_eq (by simp [stubP, hm, ofC])

/-! ### part -/
def kidP (H : List Stub) (p : Nat → Bool → List Int → Int) (h : Nat) (all : Bool) (late : List Int) (j : Nat) : Int :=
  if all then p j true [] else if late.any (fun u => underI (2 * u) (nd h j)) then p j false late else stubP H (nd h j)
def partP (O : List Spot) (H : List Stub) : Nat → Nat → Bool → List Int → Int
  | 0, k, _, _ => match findS O (nd 0 k) with
    | none => none_
    | some n => if fineP (nd 0 k) n then 1 else none_
  | h + 1, k, whole, late => match findS O (nd (h + 1) k) with
    | none => none_
    | some n => if fineP (nd (h + 1) k) n then
        max (1 + kidP H (fun j w l => partP O H h j w l) h (whole && decide (n.kind.toNat = 0)) (if whole then n.par.late else late) (2 * k) + kidP H (fun j w l => partP O H h j w l) h (whole && decide (n.kind.toNat = 0)) (if whole then n.par.late else late) (2 * k + 1)) none_
      else none_
theorem kidP_bd {O : List Spot} {H : List Stub} {h : Nat} (ih : ∀ k w l, none_ ≤ partP O H h k w l ∧ partP O H h k w l ≤ 2 ^ (h + 1) - 1) (all : Bool) (late : List Int) (j : Nat) :
    none_ ≤ kidP H (fun j w l => partP O H h j w l) h all late j ∧ kidP H (fun j w l => partP O H h j w l) h all late j ≤ 2 ^ (h + 1) - 1 := by
  unfold kidP
  split
  · exact ih _ _ _
  · split
    · exact ih _ _ _
    · have hp : (1 : Int) ≤ 2 ^ h := by have := pow_pos' h; have e : (2 : Int) ^ h = ((2 ^ h : Nat) : Int) := by simp
                                        omega
      rw [Int.pow_succ]
      rcases stubP_bd H (nd h j) with e | e <;> rw [e] <;> simp only [none_] <;> omega
theorem partP_bd (O : List Spot) (H : List Stub) : ∀ (h k : Nat) (w : Bool) (l : List Int), none_ ≤ partP O H h k w l ∧ partP O H h k w l ≤ 2 ^ (h + 1) - 1
  | 0, k, w, l => by
    unfold partP
    split
    · simp [none_]
    · split <;> simp [none_]
  | h + 1, k, w, l => by
    have hp : (1 : Int) ≤ 2 ^ h := by
      have := pow_pos' h
      have e : (2 : Int) ^ h = ((2 ^ h : Nat) : Int) := by simp
      omega
    have e1 : (2 : Int) ^ (h + 1 + 1) = 4 * 2 ^ h := by rw [Int.pow_succ, Int.pow_succ]; omega
    have e2 : (2 : Int) ^ (h + 1) = 2 * 2 ^ h := by rw [Int.pow_succ]; omega
    unfold partP
    split
    · simp only [none_]; omega
    · rename_i n _
      split
      · have k1 := kidP_bd (partP_bd O H h) (w && decide (n.kind.toNat = 0)) (if w then n.par.late else l) (2 * k)
        have k2 := kidP_bd (partP_bd O H h) (w && decide (n.kind.toNat = 0)) (if w then n.par.late else l) (2 * k + 1)
        generalize kidP H _ h _ _ (2 * k) = a at *
        generalize kidP H _ h _ _ (2 * k + 1) = b at *
        simp only [none_] at *
        omega
      · simp only [none_]; omega

theorem tmod_even (k : Nat) : (nd 0 k : Int).tmod 2 = 0 := by rw [nd_zero, Int.tmod_eq_emod_of_nonneg (by omega)]; omega
theorem tmod_odd (h k : Nat) : (nd (h + 1) k : Int).tmod 2 = 1 := by rw [nd_succ, Int.tmod_eq_emod_of_nonneg (by omega)]; omega
def Lean_.fitN (s : Lean_) : Prop := s.opn.length ≤ 1000000 ∧ s.shut.length ≤ 1000000 ∧ (∀ x ∈ s.opn, x.node.fit) ∧ (∀ x ∈ s.shut, x.hash.length ≤ 1000000000)
theorem findS_mem {l : List Spot} {x : Int} {n : Node} (h : findS l x = some n) : ∃ s ∈ l, s.at_ = x ∧ s.node = n := by
  simp only [findS, Option.map_eq_some_iff] at h
  obtain ⟨s, hs, rfl⟩ := h
  exact ⟨s, List.mem_of_find?_eq_some hs, by simpa using List.find?_some hs, rfl⟩
theorem maxI (a b : Int) : (if a < b then b else a) = max a b := by omega

theorem g_part_leaf (s : Lean_) (hs : s.fitN) (k : Nat) (hk : k < 65536) (whole : Bool) (late : List Int) :
    Gives Tryz.prog 59 [.ag (lookC s), I (nd 0 k), .b whole, is late] (.r (I (partP s.opn s.shut 0 k whole late))) := by
  refine gives_of_vcg (T := Tab) mixed Tab_ok Tryz.func59 rfl (by kernel_rfl) ?_
  refine Vstep.node2 rfl rfl rfl (fun n hn => ?_) (fun hn => ?_)
  · obtain ⟨sp, hsp, _, rfl⟩ := findS_mem hn
    refine Vcmp.f rfl ?_
    refine VloadN.mk' rfl rfl ?_
    refine Vcall.bool (g_fine _ _ (hs.2.2.1 sp hsp)) (fun h => Vcmp.f rfl (Vif.f ?_)) (fun h => Vcmp.t rfl (Vif.t ?_))
    · refine ⟨by decide, _, rfl, ?_⟩
      refine Vcmp.t (by rw [tmod_even]; rfl) (Vif.t ?_)
      exact Cv.of_eq (by simp [partP, hn, h, ofC])
    · exact Cv.of_eq (by simp [partP, hn, h, ofC])
  · refine Vcmp.t rfl (Vif.t ?_)
    exact Cv.of_eq (by simp [partP, hn, ofC])
end Go.Proofs.YtpdllgbfemnemaaGreat.Sx
end
