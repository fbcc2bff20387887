import Derived.Test.YtpdllgbfemnemaaGreatZKb
namespace Go.Proofs.YtpdllgbfemnemaaGreat.Sx
open Go.RowKit

def Node.fit (n : Node) : Prop := n.leaf.fit ∧ n.par.fit
def Node.right (n : Node) : Bool :=
  if n.kind.toNat = 0 then n.leaf.none && n.par.none else if n.kind.toNat = 1 then n.leaf.right && n.par.none else if n.kind.toNat = 2 then n.leaf.none && n.par.right else false
def aheadB (l : Leaf) : List UInt8 := vecB l.box ++ vecB l.sign ++ vecB l.ident ++ [l.src] ++ (if l.src.toNat = 3 then vecB l.parent else [])
def lateB (l : List Int) : List UInt8 := l.flatMap fun x => beB 4 x.toNat
def parB (p : Par) : List UInt8 := vecB p.box ++ vecB p.hash ++ vecB (lateB p.late)
def nodeB (n : Node) : List UInt8 := if n.kind.toNat = 1 then 1 :: (aheadB n.leaf ++ vecB n.leaf.sig) else if n.kind.toNat = 2 then 2 :: parB n.par else [0]

theorem g_nright (n : Node) (hn : n.fit) : Gives Tryz.prog 138 [.ag n.c] (.r (.b n.right)) := by
  refine gives_of_vcg (T := Tab) mixed Tab_ok Tryz.func138 rfl (by kernel_rfl) ?_
  refine Vcmp.split (fun h0 => Vif.t ?_) (fun h0 => Vif.f ?_)
  · simp only [beq_iff_eq, bne_iff_ne, beq_eq_false_iff_ne, bne_eq_false_iff_eq, decide_eq_true_eq, decide_eq_false_iff_not, Bool.not_eq_true', Bool.not_eq_false', ne_eq] at h0
    have h0' : n.kind.toNat = 0 := by omega
    refine VloadN.mk' rfl rfl (Vcall.bool (g_noleaf n.leaf hn.1) (fun h => VloadN.mk' rfl rfl (Vcall.go (g_nopar n.par hn.2) (Cv.of_eq ?_))) (fun h => Cv.of_eq ?_))
    · simp [Node.right, h0', h]
    · simp [Node.right, h0', h, ofC]
  · simp only [beq_iff_eq, bne_iff_ne, beq_eq_false_iff_ne, bne_eq_false_iff_eq, decide_eq_true_eq, decide_eq_false_iff_not, Bool.not_eq_true', Bool.not_eq_false', ne_eq] at h0
    have h0' : n.kind.toNat ≠ 0 := by omega
    refine Vcmp.split (fun h1 => Vif.t ?_) (fun h1 => Vif.f ?_)
    · simp only [beq_iff_eq, bne_iff_ne, beq_eq_false_iff_ne, bne_eq_false_iff_eq, decide_eq_true_eq, decide_eq_false_iff_not, Bool.not_eq_true', Bool.not_eq_false', ne_eq] at h1
      have h1' : n.kind.toNat = 1 := by omega
      refine VloadN.mk' rfl rfl (Vcall.bool (g_rleaf n.leaf) (fun h => VloadN.mk' rfl rfl (Vcall.go (g_nopar n.par hn.2) (Cv.of_eq ?_))) (fun h => Cv.of_eq ?_))
      · simp [Node.right, h1', h]
      · simp [Node.right, h1', h, ofC]
    · simp only [beq_iff_eq, bne_iff_ne, beq_eq_false_iff_ne, bne_eq_false_iff_eq, decide_eq_true_eq, decide_eq_false_iff_not, Bool.not_eq_true', Bool.not_eq_false', ne_eq] at h1
      have h1' : n.kind.toNat ≠ 1 := by omega
      refine Vcmp.split (fun h2 => Vif.t ?_) (fun h2 => Vif.f ?_)
      · simp only [beq_iff_eq, bne_iff_ne, beq_eq_false_iff_ne, bne_eq_false_iff_eq, decide_eq_true_eq, decide_eq_false_iff_not, Bool.not_eq_true', Bool.not_eq_false', ne_eq] at h2
        have h2' : n.kind.toNat = 2 := by omega
        refine VloadN.mk' rfl rfl (Vcall.bool (g_noleaf n.leaf hn.1) (fun h => VloadN.mk' rfl rfl (Vcall.go (g_rpar n.par hn.2) (Cv.of_eq ?_))) (fun h => Cv.of_eq ?_))
        · simp [Node.right, h2', h]
        · simp [Node.right, h2', h, ofC]
      · simp only [beq_iff_eq, bne_iff_ne, beq_eq_false_iff_ne, bne_eq_false_iff_eq, decide_eq_true_eq, decide_eq_false_iff_not, Bool.not_eq_true', Bool.not_eq_false', ne_eq] at h2
        have h2' : n.kind.toNat ≠ 2 := by omega
        refine Cv.of_eq ?_
        simp [Node.right, h0', h1', h2', ofC]

theorem Cvs.of_eq {cs ds : List RV} (h : cs = ds) : Cvs cs ds := h ▸ Cvs.refl cs
/-- A fresh slice in other words. -/
theorem cvCh {ρ : List (Nat × Nat)} {S : St} {e : TypeId} {l m : List UInt8} (h : l = m) : cvOw ρ S (.ch e 1 l.length (l.map U8) true) (.ch e 1 m.length (m.map U8) true) := by
  subst h
  exact ⟨rfl, rfl, rfl, rfl, Cvs.refl _⟩
theorem ch_eq {e : TypeId} {l m : List UInt8} (h : l = m) : some (Ow.ch e 1 l.length (l.map U8) true) = some (Ow.ch e 1 m.length (m.map U8) true) := by rw [h]
def unsInv (b : List UInt8) (l : Leaf) : Nat → St
  | 0 => { F := [(0, .r (bs b)), (3, .own 0), (13, .own 1), (14, .r (I 3)), (15, .r (I 0))], O := [(0, some (.box (l.c.map .r))), (1, some (.ch 28 1 3 [bs l.box, bs l.sign, bs l.ident] true))], nx := 2 }
  | j + 1 => { F := [(0, .own 2), (3, .own 0), (13, .own 1), (14, .r (I 3)), (15, .r (I ((j + 1 : Nat) : Int)))], O := [(0, some (.box (l.c.map .r))), (1, some (.ch 28 1 3 [bs l.box, bs l.sign, bs l.ident] true)),
      (2, some (.ch 5 1 (b ++ ([l.box, l.sign, l.ident].take (j + 1)).flatMap vecB).length ((b ++ ([l.box, l.sign, l.ident].take (j + 1)).flatMap vecB).map U8) true))], nx := 3 }
theorem g_unsigned (b : List UInt8) (l : Leaf) (hb : b.length ≤ 1000000000) (hl : l.fit) : Gives Tryz.prog 139 [bs b, .ag l.c] (bch (b ++ aheadB l)) := by
  refine gives_of_vcg (T := Tab) mixed Tab_ok Tryz.func139 rfl (by kernel_rfl) ?_
  obtain ⟨h1, h2, h3, h4, h5⟩ := hl
  have v1 := vecB_le l.box
  have v2 := vecB_le l.sign
  have v3 := vecB_le l.ident
  refine Vpub.pub ?_
  refine Vloop.mk' (unsInv b l) (fun j => j ≤ 3) (fun j => 3 - j) 0 (by omega) (sub_of [(0, 0), (1, 1)] rfl ⟨Cv.refl _, rfl, rfl, Cv.refl _, Cv.refl _, trivial⟩ ⟨cvCells_refl _, ⟨rfl, rfl, rfl, rfl, Cvs.refl _⟩, trivial⟩) ?_
  intro j hj
  rcases (by omega : j = 0 ∨ j = 1 ∨ j = 2 ∨ j = 3) with rfl | rfl | rfl | rfl
  · refine Vcmp.t rfl (Vif.t ?_)
    refine Vidx.mk' (by decide) (by decide) rfl (Vload1.mk' rfl ?_)
    refine Vcall.go (g_putvec b l.box (by omega) (by omega)) ?_
    refine Vint.i64 (m := ((1 : Nat) : Int)) rfl (by decide) ?_
    exact ⟨1, by omega, by omega, sub_of [(0, 0), (1, 1), (2, 2)] rfl ⟨rfl, rfl, rfl, Cv.refl _, Cv.refl _, trivial⟩ ⟨cvCells_refl _, ⟨rfl, rfl, rfl, rfl, Cvs.refl _⟩, cvCh (by simp), trivial⟩⟩
  · refine Vcmp.t rfl (Vif.t ?_)
    refine Vidx.mk' (by decide) (by decide) rfl (Vload1.mk' rfl ?_)
    refine Vcall.go (g_putvec (b ++ ([l.box, l.sign, l.ident].take 1).flatMap vecB) l.sign (by simp; omega) (by omega)) ?_
    refine Vint.i64 (m := ((2 : Nat) : Int)) rfl (by decide) ?_
    exact ⟨2, by omega, by omega, sub_of [(0, 0), (1, 1), (2, 3)] rfl ⟨rfl, rfl, rfl, Cv.refl _, Cv.refl _, trivial⟩ ⟨cvCells_refl _, ⟨rfl, rfl, rfl, rfl, Cvs.refl _⟩, cvCh (by simp), trivial⟩⟩
  · refine Vcmp.t rfl (Vif.t ?_)
    refine Vidx.mk' (by decide) (by decide) rfl (Vload1.mk' rfl ?_)
    refine Vcall.go (g_putvec (b ++ ([l.box, l.sign, l.ident].take 2).flatMap vecB) l.ident (by simp; omega) (by omega)) ?_
    refine Vint.i64 (m := ((3 : Nat) : Int)) rfl (by decide) ?_
    exact ⟨3, by omega, by omega, sub_of [(0, 0), (1, 1), (2, 3)] rfl ⟨rfl, rfl, rfl, Cv.refl _, Cv.refl _, trivial⟩ ⟨cvCells_refl _, ⟨rfl, rfl, rfl, rfl, Cvs.refl _⟩, cvCh (by simp), trivial⟩⟩
  · refine Vcmp.f rfl (Vif.f ?_)
    refine Vpub.pub ?_
    refine Vapp.mk' (j := (b ++ ([l.box, l.sign, l.ident].take 3).flatMap vecB ++ [l.src]).length) (zs := (b ++ ([l.box, l.sign, l.ident].take 3).flatMap vecB ++ [l.src]).map U8) (by simp [maxLen]; omega) (by simp; omega) (by simp; omega) (by simp [fillR, cellsOf]) ?_
    refine Vcmp.split (fun hs => Vif.t ?_) (fun hs => Vif.f ?_)
    · simp only [beq_iff_eq, bne_iff_ne, beq_eq_false_iff_ne, bne_eq_false_iff_eq, decide_eq_true_eq, decide_eq_false_iff_not, Bool.not_eq_true', Bool.not_eq_false', ne_eq] at hs
      have hs' : l.src.toNat = 3 := by omega
      refine Vcall.go (g_putvec (b ++ ([l.box, l.sign, l.ident].take 3).flatMap vecB ++ [l.src]) l.parent (by simp; omega) (by omega)) ?_
      have e : b ++ ([l.box, l.sign, l.ident].take 3).flatMap vecB ++ [l.src] ++ vecB l.parent = b ++ aheadB l := by simp [aheadB, hs']
      exact ch_eq e
    · simp only [beq_iff_eq, bne_iff_ne, beq_eq_false_iff_ne, bne_eq_false_iff_eq, decide_eq_true_eq, decide_eq_false_iff_not, Bool.not_eq_true', Bool.not_eq_false', ne_eq] at hs
      have hs' : l.src.toNat ≠ 3 := by omega
      have e : b ++ ([l.box, l.sign, l.ident].take 3).flatMap vecB ++ [l.src] = b ++ aheadB l := by simp [aheadB, hs']
      exact ch_eq e

theorem lateB_len : ∀ l : List Int, (lateB l).length = 4 * l.length
  | [] => rfl
  | x :: r => by
    have := lateB_len r
    simp only [lateB, List.flatMap_cons, List.length_append, List.length_cons] at *
    rw [beB_len, this]; omega
def pbInv (b : List UInt8) (p : Par) : Nat → St
  | 0 => { F := [(0, .r (bs b)), (3, .own 0), (5, .r (bs [])), (9, .r (is p.late)), (10, .r (I p.late.length)), (11, .r (I ((0 : Nat) : Int)))], O := [(0, some (.box (p.c.map .r)))], nx := 1 }
  | j + 1 => { F := [(0, .r (bs b)), (3, .own 0), (5, .own 1), (9, .r (is p.late)), (10, .r (I p.late.length)), (11, .r (I ((j + 1 : Nat) : Int)))], O := [(0, some (.box (p.c.map .r))),
      (1, some (.ch 5 1 (lateB (p.late.take (j + 1))).length ((lateB (p.late.take (j + 1))).map U8) true))], nx := 2 }
theorem beB4_wrap (x : Int) (h : 0 ≤ x ∧ x < 65536) : IntKind.u64.wrap x = ((x.toNat : Nat) : Int) := by
  unfold IntKind.wrap
  simp only [IntKind.bits, IntKind.signed]
  simp
  omega
theorem g_parbytes (b : List UInt8) (p : Par) (hb : b.length ≤ 1000000000) (hp : p.fit) (hr : ∀ x ∈ p.late, 0 ≤ x ∧ x < 65536) : Gives Tryz.prog 140 [bs b, .ag p.c] (bch (b ++ parB p)) := by
  refine gives_of_vcg (T := Tab) mixed Tab_ok Tryz.func140 rfl (by kernel_rfl) ?_
  obtain ⟨h1, h2, h3, _⟩ := hp
  have hll := lateB_len p.late
  refine Vloop.mk' (pbInv b p) (fun j => j ≤ p.late.length) (fun j => p.late.length - j) 0 (by omega) (sub_of [(0, 0)] rfl ⟨Cv.refl _, rfl, Cv.nil _, Cv.refl _, Cv.refl _, Cv.refl _, trivial⟩ ⟨cvCells_refl _, trivial⟩) ?_
  have vd1 := vecB_le p.box
  have vd2 := vecB_le p.hash
  have hstep : ∀ j (hj : j < p.late.length), lateB (p.late.take j) ++ beB 4 (p.late[j].toNat) = lateB (p.late.take (j + 1)) := fun j hj => by
    rw [List.take_add_one, List.getElem?_eq_getElem hj]
    simp only [lateB, Option.toList, List.flatMap_append, List.flatMap_cons, List.flatMap_nil, List.append_nil]
  have hlen : ∀ j, j ≤ p.late.length → (lateB (p.late.take j)).length = 4 * j := fun j hj => by rw [lateB_len, List.length_take]; omega
  intro j hj
  rcases j with _ | j
  · refine Vcmp.split (fun h => Vif.t ?_) (fun h => Vif.f ?_)
    · simp only [beq_iff_eq, bne_iff_ne, beq_eq_false_iff_ne, bne_eq_false_iff_eq, decide_eq_true_eq, decide_eq_false_iff_not, Bool.not_eq_true', Bool.not_eq_false', ne_eq] at h
      have hj' : 0 < p.late.length := by omega
      refine Vidx.mk' (by omega) (by omega) (idx_map rfl hj') (Vload1.mk' rfl ?_)
      refine ⟨((p.late[0].toNat : Nat) : Int), (beB4_wrap _ (hr _ (List.getElem_mem hj'))).symm, ?_⟩
      refine Vcall.go (g_putnum [] 4 p.late[0].toNat (by simp) (by omega)) ?_
      refine Vint.i64 (m := ((0 + 1 : Nat) : Int)) (by omega) (by omega) ?_
      exact ⟨0 + 1, hj', by omega, sub_of [(0, 0), (1, 1)] rfl ⟨Cv.refl _, rfl, rfl, Cv.refl _, Cv.refl _, Cv.refl _, trivial⟩ ⟨cvCells_refl _, cvCh (hstep 0 hj'), trivial⟩⟩
    · simp only [beq_iff_eq, bne_iff_ne, beq_eq_false_iff_ne, bne_eq_false_iff_eq, decide_eq_true_eq, decide_eq_false_iff_not, Bool.not_eq_true', Bool.not_eq_false', ne_eq] at h
      have e : p.late = [] := List.eq_nil_of_length_eq_zero (by omega)
      refine Vdraw.mk' (by kernel_rfl) ?_
      refine Vcall.go (g_putvec b p.box (by omega) (by omega)) ?_
      refine Vcall.go (g_putvec (b ++ vecB p.box) p.hash (by simp; omega) (by omega)) ?_
      refine Vcall.go (g_putvec (b ++ vecB p.box ++ vecB p.hash) [] (by simp; omega) (by simp)) ?_
      exact ch_eq (by simp [parB, e, lateB])
  · refine Vcmp.split (fun h => Vif.t ?_) (fun h => Vif.f ?_)
    · simp only [beq_iff_eq, bne_iff_ne, beq_eq_false_iff_ne, bne_eq_false_iff_eq, decide_eq_true_eq, decide_eq_false_iff_not, Bool.not_eq_true', Bool.not_eq_false', ne_eq] at h
      have hj' : j + 1 < p.late.length := by omega
      refine Vidx.mk' (by omega) (by omega) (idx_map rfl hj') (Vload1.mk' rfl ?_)
      refine ⟨((p.late[j + 1].toNat : Nat) : Int), (beB4_wrap _ (hr _ (List.getElem_mem hj'))).symm, ?_⟩
      refine Vcall.go (g_putnum (lateB (p.late.take (j + 1))) 4 p.late[j + 1].toNat (by rw [hlen _ hj]; omega) (by omega)) ?_
      refine Vint.i64 (m := ((j + 1 + 1 : Nat) : Int)) (by omega) (by omega) ?_
      exact ⟨j + 1 + 1, hj', by omega, sub_of [(0, 0), (1, 2)] rfl ⟨Cv.refl _, rfl, rfl, Cv.refl _, Cv.refl _, Cv.refl _, trivial⟩ ⟨cvCells_refl _, cvCh (hstep (j + 1) hj'), trivial⟩⟩
    · simp only [beq_iff_eq, bne_iff_ne, beq_eq_false_iff_ne, bne_eq_false_iff_eq, decide_eq_true_eq, decide_eq_false_iff_not, Bool.not_eq_true', Bool.not_eq_false', ne_eq] at h
      have e : p.late.take (j + 1) = p.late := List.take_of_length_le (by omega)
      refine Vdraw.mk' (by kernel_rfl) ?_
      refine Vcall.go (g_putvec b p.box (by omega) (by omega)) ?_
      refine Vcall.go (g_putvec (b ++ vecB p.box) p.hash (by simp; omega) (by omega)) ?_
      refine Vcall.go (g_putvec (b ++ vecB p.box ++ vecB p.hash) (lateB (p.late.take (j + 1))) (by simp; omega) (by rw [e, hll]; omega)) ?_
      exact ch_eq (by simp [parB, e])

theorem lateF_bd : ∀ (l : List Int) (a : Int), -1 ≤ a → lateF a l = true → ∀ x ∈ l, 0 ≤ x ∧ x < 65536
  | [], _, _, _ => fun x hx => by cases hx
  | y :: r, a, ha, h => fun x hx => by
    simp only [lateF, Bool.and_eq_true, decide_eq_true_eq] at h
    rcases List.mem_cons.1 hx with rfl | hx
    · omega
    · exact lateF_bd r y (by omega) h.2 x hx
theorem Par.right_bd {p : Par} (h : p.right = true) : ∀ x ∈ p.late, 0 ≤ x ∧ x < 65536 := by
  simp only [Par.right, Bool.and_eq_true] at h
  exact lateF_bd _ _ (by omega) h.1

theorem Cv.tu {l m : List RV} (h : Cvs l m) : Cv (.tu l) (.tu m) := fun w k v hv => by
  simp only [RV.at_] at *
  obtain ⟨us, e, hp⟩ := hv
  exact ⟨us, e, h.at_ hp⟩
theorem g_nbytes (n : Node) (hn : n.fit) : Gives Tryz.prog 95 [.ag n.c] (.r (if n.right then .tu [bs (nodeB n), .i .u8 0] else .tu [bs [], .i .u8 3])) := by
  refine gives_of_vcg (T := Tab) mixed Tab_ok Tryz.func95 rfl (by kernel_rfl) ?_
  refine VloadN.mk' rfl rfl ?_
  refine Vcall.bool (g_nright n hn) (fun hr => ?_) (fun hr => ?_)
  · refine Vcmp.f rfl (Vif.f ?_)
    refine Vpub.pub ?_
    obtain ⟨⟨l1, l2, l3, l4, l5⟩, hpf⟩ := hn
    have w1 := vecB_le n.leaf.box
    have w2 := vecB_le n.leaf.sign
    have w3 := vecB_le n.leaf.ident
    have w4 := vecB_le n.leaf.parent
    refine Vcmp.split (fun h1 => Vif.t ?_) (fun h1 => Vif.f ?_)
    · simp only [beq_iff_eq, bne_iff_ne, beq_eq_false_iff_ne, bne_eq_false_iff_eq, decide_eq_true_eq, decide_eq_false_iff_not, Bool.not_eq_true', Bool.not_eq_false', ne_eq] at h1
      have h1' : n.kind.toNat = 1 := by omega
      have hk : n.kind = 1 := UInt8.toNat_inj.1 h1'
      refine Vdraw.mk' (by kernel_rfl) ?_
      refine VloadN.mk' rfl rfl ?_
      refine Vcall.go (g_unsigned [n.kind] n.leaf (by simp) ⟨l1, l2, l3, l4, l5⟩) ?_
      have hlen : ([n.kind] ++ aheadB n.leaf).length ≤ 1000000000000 := by
        simp only [aheadB, List.length_append, List.length_cons, List.length_nil]
        split <;> simp <;> omega
      refine Vcall.go (g_putvec ([n.kind] ++ aheadB n.leaf) n.leaf.sig hlen (by omega)) ?_
      refine ⟨_, rfl, Cv.of_eq ?_⟩
      rw [if_pos hr, nodeB, if_pos h1', hk]
      rfl
    · simp only [beq_iff_eq, bne_iff_ne, beq_eq_false_iff_ne, bne_eq_false_iff_eq, decide_eq_true_eq, decide_eq_false_iff_not, Bool.not_eq_true', Bool.not_eq_false', ne_eq] at h1
      have h1' : n.kind.toNat ≠ 1 := by omega
      refine Vcmp.split (fun h2 => Vif.t ?_) (fun h2 => Vif.f ?_)
      · simp only [beq_iff_eq, bne_iff_ne, beq_eq_false_iff_ne, bne_eq_false_iff_eq, decide_eq_true_eq, decide_eq_false_iff_not, Bool.not_eq_true', Bool.not_eq_false', ne_eq] at h2
        have h2' : n.kind.toNat = 2 := by omega
        have hk : n.kind = 2 := UInt8.toNat_inj.1 h2'
        have hb : ∀ x ∈ n.par.late, 0 ≤ x ∧ x < 65536 := by
          have : n.par.right = true := by
            have := hr
            simp [Node.right, h2'] at this
            exact this.2
          exact Par.right_bd this
        refine VloadN.mk' rfl rfl ?_
        refine Vcall.go (g_parbytes [n.kind] n.par (by simp) hpf hb) ?_
        refine ⟨_, rfl, Cv.of_eq ?_⟩
        rw [if_pos hr, nodeB, if_neg h1', if_pos h2', hk]
        rfl
      · simp only [beq_iff_eq, bne_iff_ne, beq_eq_false_iff_ne, bne_eq_false_iff_eq, decide_eq_true_eq, decide_eq_false_iff_not, Bool.not_eq_true', Bool.not_eq_false', ne_eq] at h2
        have h2' : n.kind.toNat ≠ 2 := by omega
        have h0 : n.kind.toNat = 0 := by
          have := hr
          simp only [Node.right, if_neg h1', if_neg h2'] at this
          split at this
          · assumption
          · cases this
        have hk : n.kind = 0 := UInt8.toNat_inj.1 h0
        refine ⟨_, rfl, Cv.of_eq ?_⟩
        rw [if_pos hr, nodeB, if_neg h1', if_neg h2', hk]
        rfl
  · refine Vcmp.t rfl (Vif.t ?_)
    refine ⟨_, rfl, ?_⟩
    rw [hr]
    exact Cv.tu (Cvs.cons (Cv.nil 1) (Cvs.refl _))
end Go.Proofs.YtpdllgbfemnemaaGreat.Sx
