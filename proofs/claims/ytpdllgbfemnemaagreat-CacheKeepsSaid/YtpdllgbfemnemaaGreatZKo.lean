import Derived.Test.YtpdllgbfemnemaaGreatZKn
import Derived.Test.YtpdllgbfemnemaaGreatZGeoC
namespace Go.Proofs.YtpdllgbfemnemaaGreat.Sx
open Go.RowKit

theorem Vsem.field {P : Program} {T : TT} {S : St} {o : Oper} (hT : TOk P T) {t : TypeId} {x : Operand} {i off : Nat} {ft : TypeId} {ti tf : TI} {fs : List (Nat × TypeId)} {cells : List RV} {rv : RV} {K : TF → Option Ow → Prop} (hop : o.op = .field t x i) (hti : tget T t = some ti) (hk : ti.k = .struct fs) (hfs : lget fs i = some (off, ft)) (htf : tget T ft = some tf) (hag : tf.agg = false)
    (hx : opr S x = some (.r (.ag cells))) (hc : lget cells off = some rv) (hK : K (.r rv) none) : Vsem P S o K := by
  refine ⟨_, _, fun B N a w k Q ⟨g, hs⟩ hd => ?_, hK⟩
  have hv := (opr_at hs hx).2
  simp only [TF.at_, RV.at_] at hv
  obtain ⟨us, e, hl⟩ := hv
  rw [lget_eq] at hc hfs
  have hul := (RV.listAt_iff _ _).1 hl
  have hlt : off < us.toList.length := by rw [hul.1]; exact (List.getElem?_eq_some_iff.1 hc).1
  have hu : us.toList[off]? = some us.toList[off] := List.getElem?_eq_getElem hlt
  have h1 := hul.2 off rv _ hc hu
  obtain ⟨q, hq⟩ := hT.get hti
  obtain ⟨d, hdd, hko, _⟩ := q.desc
  rw [hq] at hdd
  rw [hk] at hko
  obtain ⟨fields, rfl, hfl⟩ := hko
  obtain ⟨qf, hqf⟩ := hT.get htf
  obtain ⟨df, hdf, _, hrow⟩ := qf.desc
  rw [hqf] at hdf
  rw [hag] at hrow
  have hagg : (isAgg ft).run P w = .ok false w := by
    unfold isAgg
    rw [Sem.run_bind, run_underlying hdf w]
    cases df <;> simp_all [TypeDesc.isRow]
  rw [← hfl, List.getElem?_map] at hfs
  cases hfi : fields.toList[i]? with
  | none => simp [hfi] at hfs
  | some fd =>
    simp only [hfi, Option.map_some, Option.some.injEq, Prod.mk.injEq] at hfs
    obtain ⟨rfl, rfl⟩ := hfs
    have hfa : fields[i]? = some fd := by simpa using hfi
    have hua : us[fd.offset]? = some us.toList[fd.offset] := by rw [← Array.getElem?_toList]; exact hu
    refine wp_val (v := us.toList[fd.offset]) (w' := w) ?_ ⟨k, g, hs.put hd trivial h1.2⟩
    simp [execOp, hop, Instr.field, run_underlying hdd w, hfa, e, part, hagg, hua, asAgg]

def partI (O : List Spot) (H : List Stub) (x : Int) : Int := partP O H (lv x.toNat) (x.toNat / 2 ^ (lv x.toNat + 1)) true []
def valP (s : Lean_) (c : Int) : Int := match findS s.opn c with
  | some _ => partI s.opn s.shut c
  | none => stubP s.shut c
def okN (s : Lean_) (x : Int) : Bool := match findS s.opn x with
  | some n => fineP x n
  | none => false
def sumI (f : Int → Int) : List Int → Int
  | [] => 0
  | x :: r => f x + sumI f r
def leafK (s : Lean_) : Bool := match findS s.opn (2 * s.own) with
  | some n => decide (n.kind.toNat = 1)
  | none => false
def rightP (s : Lean_) : Bool :=
  s.lookOk && (fitsI s.leaves && (decide (0 ≤ s.own) && (decide (s.own < s.leaves) && (leafK s && ((2 * s.own :: pathI (2 * s.own) s.leaves).all (okN s) && ((copathI (2 * s.own) s.leaves).all (fun c => decide (0 ≤ valP s c)) &&
    decide (1 + (pathI (2 * s.own) s.leaves).length + sumI (valP s) (copathI (2 * s.own) s.leaves) = s.opn.length + s.shut.length)))))))

theorem node_nd {x : Int} (hx : nodeI x = true) : ∃ h k, h ≤ 16 ∧ k < 2 ^ (16 - h) ∧ x = (nd h k : Int) ∧ lv x.toNat = h ∧ x.toNat / 2 ^ (lv x.toNat + 1) = k := by
  rw [nodeI_of] at hx
  obtain ⟨d, h, k, hd, hn, hh, hk, rfl⟩ := of_form hx
  have : d = 16 := by
    rcases Nat.lt_or_ge d 16 with hlt | hge
    · have := Nat.pow_le_pow_right (n := 2) (by omega) (show d ≤ 15 by omega)
      omega
    · omega
  subst this
  have hle := nd_node hd hh hk
  have := nd_lv hle
  have h2 := nd_inj (h := h) (h' := lv (nd h k)) (by omega) (lv_spec hle).1 this
  exact ⟨h, k, hh, hk, rfl, by rw [Int.toNat_natCast]; exact h2.1.symm, by rw [Int.toNat_natCast]; exact h2.2.symm⟩

theorem g_part (s : Lean_) (hs : s.fitN) : ∀ (h k : Nat) (whole : Bool) (late : List Int), h ≤ 16 → k < 2 ^ (16 - h) → late.length ≤ 100000000 → (∀ u ∈ late, lateD u) →
    Gives Tryz.prog 59 [.ag (lookC s), I (nd h k), .b whole, is late] (.r (I (partP s.opn s.shut h k whole late)))
  | 0, k, whole, late, _, hk, _, _ => g_part_leaf s hs k (by simpa using hk) whole late
  | h + 1, k, whole, late, hh, hk, hl, hd => g_part_up s hs h hh (fun k w l hk hl hd => g_part s hs h k w l (by omega) hk hl hd) k hk whole late hl hd
theorem g_partI (s : Lean_) (hs : s.fitN) (x : Int) (hx : nodeI x = true) : Gives Tryz.prog 59 [.ag (lookC s), I x, .b true, is []] (.r (I (partI s.opn s.shut x))) := by
  obtain ⟨h, k, hh, hk, e, e1, e2⟩ := node_nd hx
  unfold partI
  rw [e1] at e2 ⊢
  rw [e2]
  have := g_part s hs h k true [] hh hk (by simp) (by simp)
  rw [← e] at this
  exact this
theorem partI_bd (O : List Spot) (H : List Stub) {x : Int} (hx : nodeI x = true) : none_ ≤ partI O H x ∧ partI O H x ≤ 131072 := by
  obtain ⟨h, k, hh, hk, e, e1, e2⟩ := node_nd hx
  unfold partI
  rw [e1]
  have := partP_bd O H h (x.toNat / 2 ^ (h + 1)) true []
  have e' : (2 : Int) ^ (h + 1) = ((2 ^ (h + 1) : Nat) : Int) := by simp
  have h2 : 2 ^ (h + 1) ≤ 2 ^ 17 := Nat.pow_le_pow_right (by omega) (by omega)
  omega
theorem valP_bd (s : Lean_) {x : Int} (hx : nodeI x = true) : none_ ≤ valP s x ∧ valP s x ≤ 131072 := by
  unfold valP
  split
  · exact partI_bd _ _ hx
  · rcases stubP_bd s.shut x with e | e <;> rw [e] <;> simp only [none_] <;> omega
theorem own_form {n o : Int} (hf : fitsI n = true) (h0 : 0 ≤ o) (h1 : o < n) : ∃ d k : Nat, d ≤ 16 ∧ n = ((2 ^ d : Nat) : Int) ∧ k < 2 ^ d ∧ o = (k : Int) ∧ 2 * o = (nd 0 k : Int) := by
  obtain ⟨d, hd, rfl⟩ := fits_pow hf
  obtain ⟨k, rfl⟩ := Int.eq_ofNat_of_zero_le h0
  exact ⟨d, k, hd, rfl, by omega, rfl, by rw [nd_zero]; omega⟩
theorem copath_node {n o : Int} (hf : fitsI n = true) (h0 : 0 ≤ o) (h1 : o < n) : ∀ c ∈ copathI (2 * o) n, nodeI c = true := by
  obtain ⟨d, k, hd, rfl, hk, rfl, e⟩ := own_form hf h0 h1
  rw [e, copath_range hd hk]
  intro c hc
  obtain ⟨h, hh, rfl⟩ := List.mem_map.1 hc
  rw [List.mem_range] at hh
  refine nd_nodeI (d := d) hd (by omega) ?_
  rw [show d - h = d - h - 1 + 1 by omega]
  exact sibN_lt (by rw [show d - h - 1 + 1 = d - h by omega]; exact div_lt_pow hk (by omega))
theorem sumI_take {f : Int → Int} {l : List Int} {j : Nat} (hj : j < l.length) : sumI f (l.take (j + 1)) = sumI f (l.take j) + f l[j] := by
  rw [List.take_add_one, List.getElem?_eq_getElem hj]
  generalize l.take j = m
  simp only [Option.toList]
  induction m with
  | nil => simp [sumI]
  | cons y m ih => simp only [List.cons_append, sumI, ih]; omega
theorem sumI_bd {f : Int → Int} : ∀ {l : List Int}, (∀ x ∈ l, 0 ≤ f x ∧ f x ≤ 131072) → 0 ≤ sumI f l ∧ sumI f l ≤ 131072 * l.length
  | [], _ => by simp [sumI]
  | x :: r, h => by
    have h1 := h x (by simp)
    have h2 := sumI_bd (l := r) fun y hy => h y (by simp [hy])
    simp only [sumI, List.length_cons]
    omega
theorem all_false {α : Type} {p : α → Bool} {l : List α} {x : α} (hx : x ∈ l) (h : p x = false) : l.all p = false := by
  rw [List.all_eq_false]; exact ⟨x, hx, by simp [h]⟩

theorem g_cright (s : Lean_) (hs : s.fitN) : Gives Tryz.prog 17 [.ag s.c] (.r (.b (rightP s))) := by
  refine gives_of_vcg (T := Tab) mixed Tab_ok Tryz.func17 rfl (by kernel_rfl) ?_
  obtain ⟨hs1, hs2, hs3, hs4⟩ := id hs
  have glook := g_lookof s (by omega) (by omega)
  refine VloadN.mk' rfl rfl ?_
  cases hl : s.lookOk with
  | false =>
    simp only [lookR, hl, Bool.false_eq_true, if_false] at glook
    refine Vcall.go glook ?_
    refine Vcmp.t rfl (Vif.t ?_)
    exact Cv.of_eq (by simp [rightP, hl, ofC])
  | true =>
    simp only [lookR, hl, if_true] at glook
    refine Vcall.go glook ?_
    refine Vcmp.f rfl ?_
    refine Vcall.bool (g_fits s.leaves) (fun hf => Vcmp.f rfl ?_) (fun hf => Vcmp.t rfl (Vif.t ?_))
    rotate_left
    · exact Cv.of_eq (by simp [rightP, hf, ofC])
    have hn := fits_bd hf
    refine Vcmp.split (fun h0 => Vif.t ?_) (fun h0 => ?_)
    · simp only [beq_iff_eq, bne_iff_ne, beq_eq_false_iff_ne, bne_eq_false_iff_eq, decide_eq_true_eq, decide_eq_false_iff_not, Bool.not_eq_true', Bool.not_eq_false', ne_eq] at h0
      refine Cv.of_eq (congrArg RV.b (Eq.symm ?_))
      have : ¬ 0 ≤ s.own := by omega
      simp [rightP, this]
    simp only [beq_iff_eq, bne_iff_ne, beq_eq_false_iff_ne, bne_eq_false_iff_eq, decide_eq_true_eq, decide_eq_false_iff_not, Bool.not_eq_true', Bool.not_eq_false', ne_eq] at h0
    have h0' : 0 ≤ s.own := by omega
    refine Vcmp.split (fun h1 => Vif.t ?_) (fun h1 => ?_)
    · simp only [beq_iff_eq, bne_iff_ne, beq_eq_false_iff_ne, bne_eq_false_iff_eq, decide_eq_true_eq, decide_eq_false_iff_not, Bool.not_eq_true', Bool.not_eq_false', ne_eq] at h1
      refine Cv.of_eq (congrArg RV.b (Eq.symm ?_))
      have : ¬ s.own < s.leaves := by omega
      simp [rightP, this]
    simp only [beq_iff_eq, bne_iff_ne, beq_eq_false_iff_ne, bne_eq_false_iff_eq, decide_eq_true_eq, decide_eq_false_iff_not, Bool.not_eq_true', Bool.not_eq_false', ne_eq] at h1
    have h1' : s.own < s.leaves := by omega
    refine Vint.i64 rfl (by omega) ?_
    refine Vstep.node1 rfl rfl rfl (fun m hm => ?_) (fun hm => ?_)
    rotate_left
    · refine Vsem.field Tab_ok rfl rfl rfl rfl rfl rfl rfl rfl ?_
      refine Vcmp.t rfl (Vif.t ?_)
      exact Cv.of_eq (by simp [rightP, leafK, hm, ofC])
    refine Vsem.field Tab_ok rfl rfl rfl rfl rfl rfl rfl rfl ?_
    refine Vcmp.split (fun hk => Vif.t ?_) (fun hk => Vif.f ?_)
    · simp only [beq_iff_eq, bne_iff_ne, beq_eq_false_iff_ne, bne_eq_false_iff_eq, decide_eq_true_eq, decide_eq_false_iff_not, Bool.not_eq_true', Bool.not_eq_false', ne_eq] at hk
      refine Cv.of_eq (congrArg RV.b (Eq.symm ?_))
      have : ¬ m.kind.toNat = 1 := by omega
      simp [rightP, leafK, hm, this]
    simp only [beq_iff_eq, bne_iff_ne, beq_eq_false_iff_ne, bne_eq_false_iff_eq, decide_eq_true_eq, decide_eq_false_iff_not, Bool.not_eq_true', Bool.not_eq_false', ne_eq] at hk
    have hleaf : leafK s = true := by simp only [leafK, hm, decide_eq_true_eq]; omega
    have hrp : rightP s = ((2 * s.own :: pathI (2 * s.own) s.leaves).all (okN s) && ((copathI (2 * s.own) s.leaves).all (fun c => decide (0 ≤ valP s c)) &&
      decide (1 + (pathI (2 * s.own) s.leaves).length + sumI (valP s) (copathI (2 * s.own) s.leaves) = s.opn.length + s.shut.length))) := by
      simp [rightP, hl, hf, h0', h1', hleaf]
    rw [hrp]
    have hcn := copath_node hf h0' h1'
    have hpl := pathI_len (2 * s.own) s.leaves
    have hcl := copathI_len (2 * s.own) s.leaves
    obtain ⟨P, hP⟩ : ∃ P, P = pathI (2 * s.own) s.leaves := ⟨_, rfl⟩
    obtain ⟨C, hC⟩ : ∃ C, C = copathI (2 * s.own) s.leaves := ⟨_, rfl⟩
    rw [← hP, ← hC] at hcl
    rw [← hP] at hpl
    rw [← hC] at hcn
    rw [← hP, ← hC]
    refine Vdraw.mk' (by kernel_rfl) ?_
    refine Vint.i64 rfl (by omega) ?_
    refine Vpub.pub ?_
    refine Vint.i64 rfl (by omega) ?_
    refine Vcall.go (g_path _ _) ?_
    refine Vapp.mk' (j := (2 * s.own :: P).length) (zs := (2 * s.own :: P).map I) (by rw [← hP]; simp [maxLen]; omega) (by rw [← hP]; simp; omega) (by rw [← hP]; simp; omega) (by rw [← hP]; rfl) ?_
    refine Vloop.mk' (fun j : Nat => { F := [(1, .own 0), (3, .own 1), (5, .r (I j)), (60, .r (is (2 * s.own :: P))), (61, .r (I (2 * s.own :: P).length)), (62, .r (I j))], O := [(0, some (.box (s.c.map .r))), (1, some (.box ((lookC s).map .r)))], nx := 2 })
      (fun j => j ≤ (2 * s.own :: P).length ∧ ∀ x ∈ (2 * s.own :: P).take j, okN s x = true) (fun j => (2 * s.own :: P).length - j) 0 ⟨by omega, by simp⟩
      (sub_of [(0, 0), (1, 1)] rfl ⟨rfl, rfl, Cv.refl _, Cv.refl _, Cv.refl _, Cv.refl _, trivial⟩ ⟨cvCells_refl _, cvCells_refl (lookC s), trivial⟩) ?_
    have hlen : (2 * s.own :: P).length = P.length + 1 := rfl
    rintro j ⟨hj, hok⟩
    refine Vcmp.split (fun h2 => Vif.t ?_) (fun h2 => Vif.f ?_)
    · simp only [beq_iff_eq, bne_iff_ne, beq_eq_false_iff_ne, bne_eq_false_iff_eq, decide_eq_true_eq, decide_eq_false_iff_not, Bool.not_eq_true', Bool.not_eq_false', ne_eq] at h2
      have hj' : j < (2 * s.own :: P).length := by omega
      refine Vidx.mk' (by omega) (by omega) (idx_map rfl hj') (Vload1.mk' rfl ?_)
      refine Vstep.node2 rfl rfl rfl (fun n hn => ?_) (fun hn => ?_)
      · obtain ⟨sp, hsp, _, rfl⟩ := findS_mem hn
        refine Vcmp.f rfl ?_
        refine VloadN.mk' rfl rfl ?_
        refine Vcall.bool (g_fine _ _ (hs3 sp hsp)) (fun h => Vcmp.f rfl (Vif.f ?_)) (fun h => Vcmp.t rfl (Vif.t ?_))
        · refine Vint.i64 (m := ((j + 1 : Nat) : Int)) (by omega) (by omega) ?_
          refine Vint.i64 (m := ((j + 1 : Nat) : Int)) (by omega) (by omega) ?_
          exact ⟨j + 1, ⟨hj', take_all hj' hok (by simp [okN, hn, h])⟩, by omega, sub_of [(0, 0), (1, 1)] rfl ⟨rfl, rfl, Cv.refl _, Cv.refl _, Cv.refl _, Cv.refl _, trivial⟩ ⟨cvCells_refl _, cvCells_refl (lookC s), trivial⟩⟩
        · refine Cv.of_eq (congrArg RV.b (Eq.symm ?_))
          rw [all_false (List.getElem_mem hj') (by simp [okN, hn, h])]
          rfl
      · refine Vcmp.t rfl (Vif.t ?_)
        refine Cv.of_eq (congrArg RV.b (Eq.symm ?_))
        rw [all_false (List.getElem_mem hj') (by simp [okN, hn])]
        rfl
    simp only [beq_iff_eq, bne_iff_ne, beq_eq_false_iff_ne, bne_eq_false_iff_eq, decide_eq_true_eq, decide_eq_false_iff_not, Bool.not_eq_true', Bool.not_eq_false', ne_eq] at h2
    rw [List.take_of_length_le (by omega)] at hok
    have hjl : j = P.length + 1 := by omega
    have hall : (2 * s.own :: P).all (okN s) = true := by rw [List.all_eq_true]; exact hok
    rw [hall, Bool.true_and]
    refine Vint.i64 rfl (by omega) ?_
    refine Vcall.go (g_copath _ _) ?_
    refine Vloop.mk' (fun i : Nat => { F := [(1, .own 0), (3, .own 1), (5, .r (I (P.length + 1 + sumI (valP s) (C.take i)))), (89, .r (is C)), (90, .r (I C.length)), (91, .r (I i))], O := [(0, some (.box (s.c.map .r))), (1, some (.box ((lookC s).map .r)))], nx := 2 })
      (fun i => i ≤ C.length ∧ ∀ x ∈ C.take i, 0 ≤ valP s x) (fun i => C.length - i) 0 ⟨by omega, by simp⟩
      (sub_of [(0, 0), (1, 1)] rfl ⟨rfl, rfl, Cv.of_eq (by simp [sumI, hjl]), Cv.of_eq (by subst hC; rfl), Cv.of_eq (by subst hC; rfl), Cv.refl _, trivial⟩ ⟨cvCells_refl _, cvCells_refl (lookC s), trivial⟩) ?_
    rintro i ⟨hi, hok2⟩
    refine Vcmp.split (fun h3 => Vif.t ?_) (fun h3 => Vif.f ?_)
    · simp only [beq_iff_eq, bne_iff_ne, beq_eq_false_iff_ne, bne_eq_false_iff_eq, decide_eq_true_eq, decide_eq_false_iff_not, Bool.not_eq_true', Bool.not_eq_false', ne_eq] at h3
      have hi' : i < C.length := by omega
      have hcm := hcn C[i] (List.getElem_mem hi')
      have hvb := valP_bd s hcm
      have hsb := sumI_bd (f := valP s) (l := C.take i) fun x hx => ⟨hok2 x hx, (valP_bd s (hcn x (List.mem_of_mem_take hx))).2⟩
      have hst := sumI_take (f := valP s) hi'
      have htl : (C.take i).length ≤ 17 := by rw [List.length_take]; omega
      have hstep : ∀ v, v = valP s C[i] → 0 ≤ v → ∃ i', (i' ≤ C.length ∧ ∀ x ∈ C.take i', 0 ≤ valP s x) ∧ C.length - i' < C.length - i ∧ i' = i + 1 ∧ ((P.length : Int) + 1 + sumI (valP s) (C.take i)) + v = (P.length : Int) + 1 + sumI (valP s) (C.take i') := fun v hv h0 =>
        ⟨i + 1, ⟨hi', take_all hi' hok2 (by omega)⟩, by omega, rfl, by omega⟩
      refine Vidx.mk' (by omega) (by omega) (idx_map rfl hi') (Vload1.mk' rfl ?_)
      refine VloadN.mk' rfl rfl ?_
      refine Vcall.go (g_stub s _) ?_
      refine Vstep.node2 rfl rfl rfl (fun n hn => Vif.t ?_) (fun hn => Vif.f ?_)
      · refine VloadN.mk' rfl rfl ?_
        refine Vcall.mk' (g_partI s hs C[i] hcm) (Cvs.cons (Cv.refl _) (Cvs.cons (Cv.refl _) (Cvs.cons (Cv.refl _) (Cvs.cons (Cv.nil 1) Cvs.nil)))) ?_
        have hv : partI s.opn s.shut C[i] = valP s C[i] := by simp [valP, hn]
        rw [hv]
        refine Vcmp.split (fun h4 => Vif.t ?_) (fun h4 => Vif.f ?_)
        · simp only [beq_iff_eq, bne_iff_ne, beq_eq_false_iff_ne, bne_eq_false_iff_eq, decide_eq_true_eq, decide_eq_false_iff_not, Bool.not_eq_true', Bool.not_eq_false', ne_eq] at h4
          refine Cv.of_eq (congrArg RV.b (Eq.symm ?_))
          rw [all_false (List.getElem_mem hi') (by simp only [decide_eq_false_iff_not]; omega)]
          rfl
        · simp only [beq_iff_eq, bne_iff_ne, beq_eq_false_iff_ne, bne_eq_false_iff_eq, decide_eq_true_eq, decide_eq_false_iff_not, Bool.not_eq_true', Bool.not_eq_false', ne_eq] at h4
          simp only [none_] at hvb
          refine Vint.i64 rfl (by omega) ?_
          refine Vint.i64 (m := ((i + 1 : Nat) : Int)) (by omega) (by omega) ?_
          exact ⟨i + 1, ⟨hi', take_all hi' hok2 (by omega)⟩, by omega, sub_of [(0, 0), (1, 1)] rfl ⟨rfl, rfl, Cv.of_eq (by rw [hst]; congr 1; omega), Cv.refl _, Cv.refl _, Cv.refl _, trivial⟩ ⟨cvCells_refl _, cvCells_refl (lookC s), trivial⟩⟩
      · have hv : stubP s.shut C[i] = valP s C[i] := by simp [valP, hn]
        rw [hv]
        refine Vcmp.split (fun h4 => Vif.t ?_) (fun h4 => Vif.f ?_)
        · simp only [beq_iff_eq, bne_iff_ne, beq_eq_false_iff_ne, bne_eq_false_iff_eq, decide_eq_true_eq, decide_eq_false_iff_not, Bool.not_eq_true', Bool.not_eq_false', ne_eq] at h4
          refine Cv.of_eq (congrArg RV.b (Eq.symm ?_))
          rw [all_false (List.getElem_mem hi') (by simp only [decide_eq_false_iff_not]; omega)]
          rfl
        · simp only [beq_iff_eq, bne_iff_ne, beq_eq_false_iff_ne, bne_eq_false_iff_eq, decide_eq_true_eq, decide_eq_false_iff_not, Bool.not_eq_true', Bool.not_eq_false', ne_eq] at h4
          simp only [none_] at hvb
          refine Vint.i64 rfl (by omega) ?_
          refine Vint.i64 (m := ((i + 1 : Nat) : Int)) (by omega) (by omega) ?_
          exact ⟨i + 1, ⟨hi', take_all hi' hok2 (by omega)⟩, by omega, sub_of [(0, 0), (1, 1)] rfl ⟨rfl, rfl, Cv.of_eq (by rw [hst]; congr 1; omega), Cv.refl _, Cv.refl _, Cv.refl _, trivial⟩ ⟨cvCells_refl _, cvCells_refl (lookC s), trivial⟩⟩
    simp only [beq_iff_eq, bne_iff_ne, beq_eq_false_iff_ne, bne_eq_false_iff_eq, decide_eq_true_eq, decide_eq_false_iff_not, Bool.not_eq_true', Bool.not_eq_false', ne_eq] at h3
    rw [List.take_of_length_le (by omega)] at hok2
    rw [List.take_of_length_le (by omega)]
    have hall2 : C.all (fun c => decide (0 ≤ valP s c)) = true := by rw [List.all_eq_true]; intro x hx; exact decide_eq_true (hok2 x hx)
    rw [hall2, Bool.true_and]
    refine VloadN.mk' rfl rfl ?_
    refine Vcall.go (g_count s ⟨hs1, hs2⟩) ?_
    refine Vcmp.mk' rfl (Cv.of_eq (congrArg RV.b ?_))
    rw [Bool.eq_iff_iff]
    simp only [beq_iff_eq, bne_iff_ne, beq_eq_false_iff_ne, bne_eq_false_iff_eq, decide_eq_true_eq, decide_eq_false_iff_not, Bool.not_eq_true', Bool.not_eq_false', ne_eq]
    omega
end Go.Proofs.YtpdllgbfemnemaaGreat.Sx
