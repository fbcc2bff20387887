import Derived.Test.YtpdllgbfemnemaaGreatZKz
section
namespace Go.Proofs.YtpdllgbfemnemaaGreat.Sx
open Go.RowKit

theorem g_same19 (a b : Lean_) (ha1 : a.opn.length ≤ 1000000000) (ha2 : a.shut.length ≤ 1000000000) (hb1 : b.opn.length ≤ 1000000000) (hb2 : b.shut.length ≤ 1000000000) (ha : ∀ x ∈ a.opn, ∀ u ∈ x.node.par.late, i64 u) (hb : ∀ x ∈ b.opn, ∀ u ∈ x.node.par.late, i64 u) :
    Gives Tryz.prog 25 [.ag a.c, .ag b.c] (.r (.b (decide (a = b)))) := by
  refine gives_of_vcg (T := Tab) mixed Tab_ok Tryz.func25 rfl (by kernel_rfl) ?_
  have no : a ≠ b → RV.b false = RV.b (decide (a = b)) := fun h => by simp [h]
  by_cases h1 : a.leaves = b.leaves
  rotate_left
  · refine Vcmp.t (by simp [h1]) (Vif.t (Cv.of_eq (no fun e => h1 (by rw [e]))))
  refine Vcmp.f (by simp [h1]) ?_
  by_cases h2 : a.own = b.own
  rotate_left
  · refine Vcmp.t (by simp [h2]) (Vif.t (Cv.of_eq (no fun e => h2 (by rw [e]))))
  refine Vcmp.f (by simp [h2]) ?_
  by_cases h3 : a.opn.length = b.opn.length
  rotate_left
  · refine Vcmp.t (by simp; omega) (Vif.t (Cv.of_eq (no fun e => h3 (by rw [e]))))
  refine Vcmp.f (by simp [h3]) ?_
  by_cases h4 : a.shut.length = b.shut.length
  rotate_left
  · refine Vcmp.t (by simp; omega) (Vif.t (Cv.of_eq (no fun e => h4 (by rw [e]))))
  refine Vcmp.f (by simp [h4]) (Vif.f ?_)
  refine Vloop.mk' (fun j : Nat => { F := [(2, .own 0), (3, .own 1), (5, .r (I j))], O := [(0, some (.box (a.c.map .r))), (1, some (.box (b.c.map .r)))], nx := 2 }) (fun j => j ≤ a.opn.length ∧ a.opn.take j = b.opn.take j) (fun j => a.opn.length - j) 0 ⟨by omega, by simp⟩ (sub_of [(0, 0), (1, 1)] rfl ⟨rfl, rfl, Cv.refl _, trivial⟩ ⟨cvCells_refl _, cvCells_refl _, trivial⟩) ?_
  rintro j ⟨hj, ht⟩
  refine Vcmp.split (fun h => Vif.t ?_) (fun h => Vif.f ?_)
  · simp only [beq_iff_eq, bne_iff_ne, beq_eq_false_iff_ne, bne_eq_false_iff_eq, decide_eq_true_eq, decide_eq_false_iff_not, Bool.not_eq_true', Bool.not_eq_false', ne_eq] at h
    have hj' : j < a.opn.length := by omega
    have hjb : j < b.opn.length := by omega
    have bad : a.opn[j] ≠ b.opn[j] → RV.b false = RV.b (decide (a = b)) := fun h => no fun e => h (by simp only [e])
    refine Vdraw.mk' (by kernel_rfl) ?_
    refine Vidx.mk' (by omega) (by omega) (idx_spot rfl hj') (Vload1.mk' rfl ?_)
    refine Vidx.mk' (by omega) (by omega) (idx_spot rfl hjb) (Vload1.mk' rfl ?_)
    by_cases h5 : a.opn[j].at_ = b.opn[j].at_
    rotate_left
    · refine Vcmp.t (by simp [h5]) (Vif.t (Cv.of_eq (bad fun e => h5 (by rw [e]))))
    refine Vcmp.f (by simp [h5]) ?_
    refine Vidx.mk' (by omega) (by omega) (idx_spot rfl hj') ?_
    refine VloadN.mk' rfl rfl ?_
    refine Vidx.mk' (by omega) (by omega) (idx_spot rfl hjb) ?_
    refine VloadN.mk' rfl rfl ?_
    refine Vcall.go (g_same16 a.opn[j].node b.opn[j].node (ha _ (List.getElem_mem _)) (hb _ (List.getElem_mem _))) ?_
    by_cases h6 : a.opn[j].node = b.opn[j].node
    rotate_left
    · refine Vcmp.t (by simp [h6]) (Vif.t (Cv.of_eq (bad fun e => h6 (by rw [e]))))
    refine Vcmp.f (by simp [h6]) (Vif.f ?_)
    refine Vint.i64 (m := ((j + 1 : Nat) : Int)) (by omega) (by omega) ?_
    refine ⟨j + 1, ⟨hj', ?_⟩, by omega, sub_of [(0, 0), (1, 1)] rfl ⟨rfl, rfl, Cv.refl _, trivial⟩ ⟨cvCells_refl _, cvCells_refl _, trivial⟩⟩
    have h7 : a.opn[j] = b.opn[j] := by
      revert h5 h6
      generalize a.opn[j] = x
      generalize b.opn[j] = y
      cases x; cases y
      intro e1 e2
      simp_all
    rw [List.take_add_one, List.take_add_one, ht, List.getElem?_eq_getElem hj', List.getElem?_eq_getElem hjb, h7]
  simp only [beq_iff_eq, bne_iff_ne, beq_eq_false_iff_ne, bne_eq_false_iff_eq, decide_eq_true_eq, decide_eq_false_iff_not, Bool.not_eq_true', Bool.not_eq_false', ne_eq] at h
  have hopn : a.opn = b.opn := by rwa [List.take_of_length_le (by omega), List.take_of_length_le (by omega)] at ht
  clear ht h
  refine Vloop.mk' (fun j : Nat => { F := [(2, .own 0), (3, .own 1), (6, .r (I j))], O := [(0, some (.box (a.c.map .r))), (1, some (.box (b.c.map .r)))], nx := 2 }) (fun j => j ≤ a.shut.length ∧ a.shut.take j = b.shut.take j) (fun j => a.shut.length - j) 0 ⟨by omega, by simp⟩ (sub_of [(0, 0), (1, 1)] rfl ⟨rfl, rfl, Cv.refl _, trivial⟩ ⟨cvCells_refl _, cvCells_refl _, trivial⟩) ?_
  rintro j ⟨hj, ht⟩
  refine Vcmp.split (fun h => Vif.t ?_) (fun h => Vif.f ?_)
  · simp only [beq_iff_eq, bne_iff_ne, beq_eq_false_iff_ne, bne_eq_false_iff_eq, decide_eq_true_eq, decide_eq_false_iff_not, Bool.not_eq_true', Bool.not_eq_false', ne_eq] at h
    have hj' : j < a.shut.length := by omega
    have hjb : j < b.shut.length := by omega
    have bad : a.shut[j] ≠ b.shut[j] → RV.b false = RV.b (decide (a = b)) := fun h => no fun e => h (by simp only [e])
    refine Vdraw.mk' (by kernel_rfl) ?_
    refine Vidx.mk' (by omega) (by omega) (idx_stub rfl hj') (Vload1.mk' rfl ?_)
    refine Vidx.mk' (by omega) (by omega) (idx_stub rfl hjb) (Vload1.mk' rfl ?_)
    by_cases h5 : a.shut[j].at_ = b.shut[j].at_
    rotate_left
    · refine Vcmp.t (by simp [h5]) (Vif.t (Cv.of_eq (bad fun e => h5 (by rw [e]))))
    refine Vcmp.f (by simp [h5]) ?_
    refine Vidx.mk' (by omega) (by omega) (idx_stub rfl hj') (Vload1.mk' rfl ?_)
    refine Vidx.mk' (by omega) (by omega) (idx_stub rfl hjb) (Vload1.mk' rfl ?_)
    refine Vcall.go (g_same01 a.shut[j].hash b.shut[j].hash) ?_
    by_cases h6 : a.shut[j].hash = b.shut[j].hash
    rotate_left
    · refine Vcmp.t (by simp [h6]) (Vif.t (Cv.of_eq (bad fun e => h6 (by rw [e]))))
    refine Vcmp.f (by simp [h6]) (Vif.f ?_)
    refine Vint.i64 (m := ((j + 1 : Nat) : Int)) (by omega) (by omega) ?_
    refine ⟨j + 1, ⟨hj', ?_⟩, by omega, sub_of [(0, 0), (1, 1)] rfl ⟨rfl, rfl, Cv.refl _, trivial⟩ ⟨cvCells_refl _, cvCells_refl _, trivial⟩⟩
    have h7 : a.shut[j] = b.shut[j] := by
      revert h5 h6
      generalize a.shut[j] = x
      generalize b.shut[j] = y
      cases x; cases y
      intro e1 e2
      simp_all
    rw [List.take_add_one, List.take_add_one, ht, List.getElem?_eq_getElem hj', List.getElem?_eq_getElem hjb, h7]
  simp only [beq_iff_eq, bne_iff_ne, beq_eq_false_iff_ne, bne_eq_false_iff_eq, decide_eq_true_eq, decide_eq_false_iff_not, Bool.not_eq_true', Bool.not_eq_false', ne_eq] at h
  have hshut : a.shut = b.shut := by rwa [List.take_of_length_le (by omega), List.take_of_length_le (by omega)] at ht
  refine Cv.of_eq ?_
  have : a = b := by cases a; cases b; simp_all
  simp [ofC, this]
end Go.Proofs.YtpdllgbfemnemaaGreat.Sx
end

section
namespace Go.Proofs.YtpdllgbfemnemaaGreat.Sx
open Go.RowKit

/-- A cell that holds no slice yet becomes a slice of the call's own. -/
theorem sub_adopt_cellP {S : St} (pub : Bool) (id i : Nat) (e : TypeId) (sz : Nat) {cells : List TF} (ho : oget S.O id = some (.box cells)) (hc : cells[i]? = some (.r (.x (.slice none 0 0)))) :
    Sub S { F := S.F, O := (id, some (.box (cells.set i (.own S.nx)))) :: (S.nx, some (.ch e sz 0 [] pub)) :: S.O, nx := S.nx + 1 } := by
  rintro B N a w k ⟨g, hs⟩
  have h := hs.adopt (dst := none) (fun d hd => by cases hd) (o := .ch e sz 0 [] pub) (vb := (.slice none 0 0, none)) trivial ⟨by simp, .inl ⟨rfl, .inl ⟨rfl, none, rfl⟩⟩⟩ (fun b hb => by cases hb) (fun i o' b _ hb => by cases hb)
  have e0 : a.put none (.slice none 0 0) = a := rfl
  simp only [St.mk_] at h
  rw [e0] at h
  obtain ⟨p1, p2, p3, p4⟩ := hs.owns id _ ho
  have hid : oget ((S.nx, some (Ow.ch e sz 0 [] pub)) :: S.O) id = some (.box cells) := by
    simp only [oget]
    split
    · rename_i hb; have := Nat.eq_of_beq_eq_true hb; omega
    · exact ho
  have hg : (g.set S.nx ((Value.slice none 0 0), none)) S.nx = ((Value.slice none 0 0), none) := by rw [Env.set_eq]
  have old : ∀ x ox, oget ((id, some (Ow.box (cells.set i (.own S.nx)))) :: (S.nx, some (Ow.ch e sz 0 [] pub)) :: S.O) x = some ox → ∃ ox', oget ((S.nx, some (Ow.ch e sz 0 [] pub)) :: S.O) x = some ox' := fun x ox hx => by
    rcases oget_cons hx with ⟨rfl, _⟩ | ⟨_, h'⟩
    · exact ⟨_, hid⟩
    · exact ⟨_, h'⟩
  refine ⟨k, _, h.size, h.defers, h.keep, h.kk, h.facts, fun j o' ho' => ?_, fun x y ox oy b hx hy hne hb => ?_⟩
  · rcases oget_cons ho' with ⟨rfl, e'⟩ | ⟨hne, h'⟩
    · cases e'
      obtain ⟨q1, q2, q3, q4⟩ := h.owns _ _ hid
      refine ⟨q1, fun f hf => ?_, ?_, q4⟩
      · rcases List.mem_or_eq_of_mem_set hf with hf | rfl
        · exact q2 f hf
        · exact Nat.lt_succ_self _
      · obtain ⟨b, cur, t, e1, e2, e3, e4, e5⟩ := q3
        refine ⟨b, cur, t, e1, e2, e3, by simpa using e4, fun j f u hf hu => ?_⟩
        rw [List.getElem?_set] at hf
        split at hf
        · rename_i hij
          subst hij
          split at hf
          · cases hf
            obtain ⟨u1, u2⟩ := e5 i _ u hc hu
            simp only [TF.at_, RV.at_] at u2
            exact ⟨u1, by simp only [TF.at_]; rw [hg]; exact u2⟩
          · cases hf
        · exact e5 j f u hf hu
    · exact h.owns j o' h'
  · obtain ⟨ox', hx'⟩ := old x ox hx
    obtain ⟨oy', hy'⟩ := old y oy hy
    exact h.apart x y ox' oy' b hx' hy' hne hb
theorem sub_adopt_cell {S : St} (id i : Nat) (e : TypeId) (sz : Nat) {cells : List TF} (ho : oget S.O id = some (.box cells)) (hc : cells[i]? = some (.r (.x (.slice none 0 0)))) :
    Sub S { F := S.F, O := (id, some (.box (cells.set i (.own S.nx)))) :: (S.nx, some (.ch e sz 0 [] true)) :: S.O, nx := S.nx + 1 } := sub_adopt_cellP true id i e sz ho hc
end Go.Proofs.YtpdllgbfemnemaaGreat.Sx
end

section
namespace Go.Proofs.YtpdllgbfemnemaaGreat.Sx
open Go.RowKit

/-- One more stub behind the ones that are there, and the own one ahead of the first that lies higher. -/
def insS (own : Stub) (p : Bool × List Stub) (y : Stub) : Bool × List Stub := if decide (own.at_ < y.at_) && !p.1 then (true, p.2 ++ [own] ++ [y]) else (p.1, p.2 ++ [y])
def insR (own : Stub) (l : List Stub) : Bool × List Stub := l.foldl (insS own) (false, [])
def insL (own : Stub) (l : List Stub) : List Stub := if (insR own l).1 then (insR own l).2 else (insR own l).2 ++ [own]
def shutR (s : Lean_) (x : Int) (h : List UInt8) : Lean_ := ⟨s.leaves, s.own, s.opn.filter fun y => !underI y.at_ x, insL ⟨x, h⟩ (s.shut.filter fun y => !underI y.at_ x)⟩
theorem filter_snocA {α : Type} {p : α → Bool} {l : List α} {j : Nat} (hj : j < l.length) : (l.take (j + 1)).filter p = if p l[j] then (l.take j).filter p ++ [l[j]] else (l.take j).filter p := by
  rw [List.take_add_one, List.getElem?_eq_getElem hj]
  simp only [Option.toList, List.filter_append, List.filter_cons, List.filter_nil]
  split <;> simp
theorem filter_take_leA {α : Type} {p : α → Bool} {l : List α} {j : Nat} : ((l.take j).filter p).length ≤ l.length := by
  have h1 := List.length_filter_le p (l.take j)
  have h2 : (l.take j).length ≤ l.length := by rw [List.length_take]; omega
  omega
theorem insR_len (own : Stub) (l : List Stub) : (insR own l).2.length ≤ 2 * l.length := by
  have : ∀ (l : List Stub) (p : Bool × List Stub), (l.foldl (insS own) p).2.length ≤ p.2.length + 2 * l.length := fun l => by
    induction l with
    | nil => intro p; simp
    | cons y l ih =>
      intro p
      have := ih (insS own p y)
      have h2 : (insS own p y).2.length ≤ p.2.length + 2 := by
        unfold insS; split <;> simp
      simp only [List.foldl_cons, List.length_cons]
      omega
  simpa [insR] using this l (false, [])
theorem insR_snoc (own : Stub) (l : List Stub) (y : Stub) : insR own (l ++ [y]) = insS own (insR own l) y := by simp [insR]

theorem cvc {ρ : List (Nat × Nat)} {S : St} {f g : TF} {fs gs : List TF} (h : cvTF ρ S f g) (r : cvCells ρ S fs gs) : cvCells ρ S (f :: fs) (g :: gs) := ⟨_, _, rfl, h, r⟩
abbrev outB (s : Lean_) : List TF := [.r (I s.leaves), .r (I s.own), .own 3, .own 4]
abbrev spotCh (L : List Spot) : Ow := .ch 77 11 L.length (L.flatMap Spot.c) true
abbrev stubCh (L : List Stub) : Ow := .ch 79 2 L.length (L.flatMap Stub.c) true
theorem cvSpots {ρ : List (Nat × Nat)} {S : St} {L M : List Spot} (h : L = M) : cvOw ρ S (spotCh L) (spotCh M) := by
  subst h
  exact ⟨rfl, rfl, rfl, rfl, Cvs.refl _⟩
theorem cvStubs {ρ : List (Nat × Nat)} {S : St} {L M : List Stub} (h : L = M) : cvOw ρ S (stubCh L) (stubCh M) := by
  subst h
  exact ⟨rfl, rfl, rfl, rfl, Cvs.refl _⟩
abbrev zero4 : List RV := [I 0, I 0, .x (.slice none 0 0), .x (.slice none 0 0)]
theorem g_shut29 (s : Lean_) (x : Int) (h0 : List UInt8) (h1 : s.opn.length ≤ 1000000000) (h2 : s.shut.length ≤ 1000000000) (hh : Gives Tryz.prog 61 [.ag s.c, I x] (.r (bs h0))) :
    Gives Tryz.prog 26 [.ag s.c, I x] (.r (.ag (shutR s x h0).c)) := by
  refine gives_of_vcg (T := Tab) mixed Tab_ok Tryz.func26 rfl (by kernel_rfl) ?_
  obtain ⟨p, hp⟩ : ∃ p : Int → Bool, p = fun y => !underI y x := ⟨_, rfl⟩
  refine Vloop.mk' (fun j : Nat => { F := [(1, .r (I x)), (2, .own 0), (4, .own 1), (5, .own 2), (6, .r (I j))], O := [(0, some (.box (s.c.map .r))), (1, some (.box [.r (I 0), .r (I 0), .r (.x (.slice none 0 0)), .r (.x (.slice none 0 0))])), (2, some (.box (outB s))), (3, some (spotCh ((s.opn.take j).filter fun y => p y.at_))), (4, some (stubCh []))], nx := 5 })
    (fun j => j ≤ s.opn.length) (fun j => s.opn.length - j) 0 (by omega)
    ((sub_adopt_cell 2 2 77 11 (cells := [.r (I s.leaves), .r (I s.own), .r (.x (.slice none 0 0)), .r (.x (.slice none 0 0))]) rfl rfl).trans ((sub_adopt_cell 2 3 79 2 (cells := [.r (I s.leaves), .r (I s.own), .own 3, .r (.x (.slice none 0 0))]) rfl rfl).trans (sub_of [(0, 0), (1, 1), (2, 2), (3, 3), (4, 4)] rfl ⟨Cv.refl _, rfl, rfl, rfl, Cv.refl _, trivial⟩ ⟨cvCells_refl _, cvCells_refl [I 0, I 0, .x (.slice none 0 0), .x (.slice none 0 0)], cvc (cvTF_refl _) (cvc (cvTF_refl _) (cvc rfl (cvc rfl rfl))), ⟨rfl, rfl, rfl, rfl, Cvs.refl _⟩, ⟨rfl, rfl, rfl, rfl, Cvs.refl _⟩, trivial⟩))) ?_
  intro j hj
  refine Vcmp.split (fun h => Vif.t ?_) (fun h => Vif.f ?_)
  · simp only [beq_iff_eq, bne_iff_ne, beq_eq_false_iff_ne, bne_eq_false_iff_eq, decide_eq_true_eq, decide_eq_false_iff_not, Bool.not_eq_true', Bool.not_eq_false', ne_eq] at h
    have hj' : j < s.opn.length := by omega
    refine Vidx.mk' (by omega) (by omega) (idx_spot rfl hj') (Vload1.mk' rfl ?_)
    refine Vcall.go (g_under14 _ _) ?_
    have hsn := filter_snocA (p := fun y : Spot => p y.at_) hj'
    have hfl := filter_take_leA (p := fun y : Spot => p y.at_) (l := s.opn) (j := j)
    have hpj : p s.opn[j].at_ = !underI s.opn[j].at_ x := by rw [hp]
    cases hu : underI s.opn[j].at_ x with
    | true =>
      rw [hpj, hu, if_neg (by simp)] at hsn
      refine Vcmp.f rfl (Vif.f ?_)
      refine Vint.i64 (m := ((j + 1 : Nat) : Int)) (by omega) (by omega) ?_
      exact ⟨j + 1, hj', by omega, sub_of [(0, 0), (1, 1), (2, 2), (3, 3), (4, 4)] rfl ⟨Cv.refl _, rfl, rfl, rfl, Cv.refl _, trivial⟩ ⟨cvCells_refl _, cvCells_refl zero4, cvc (cvTF_refl _) (cvc (cvTF_refl _) (cvc rfl (cvc rfl rfl))), cvSpots hsn.symm, cvStubs rfl, trivial⟩⟩
    | false =>
      rw [hpj, hu, if_pos (by simp)] at hsn
      refine Vcmp.t rfl (Vif.t ?_)
      refine Vdraw.mk' (by kernel_rfl) ?_
      refine Vidx.mk' (by omega) (by omega) (idx_spot rfl hj') ?_
      refine VloadN.mk' rfl rfl ?_
      refine Vpub.pub ?_
      refine Vapp.mk' (j := ((s.opn.take (j + 1)).filter fun y => p y.at_).length) (zs := ((s.opn.take (j + 1)).filter fun y => p y.at_).flatMap Spot.c) (by simp only [maxLen]; omega) (by simp; omega) (by rw [hsn]; simp) (by rw [hsn]; simp [fillR, cellsOf]) ?_
      refine Vint.i64 (m := ((j + 1 : Nat) : Int)) (by omega) (by omega) ?_
      exact ⟨j + 1, hj', by omega, sub_of [(0, 0), (1, 1), (2, 2), (3, _), (4, 4)] rfl ⟨Cv.refl _, rfl, rfl, rfl, Cv.refl _, trivial⟩ ⟨cvCells_refl _, cvCells_refl zero4, cvc (cvTF_refl _) (cvc (cvTF_refl _) (cvc rfl (cvc rfl rfl))), cvSpots rfl, cvStubs rfl, trivial⟩⟩
  simp only [beq_iff_eq, bne_iff_ne, beq_eq_false_iff_ne, bne_eq_false_iff_eq, decide_eq_true_eq, decide_eq_false_iff_not, Bool.not_eq_true', Bool.not_eq_false', ne_eq] at h
  rw [List.take_of_length_le (by omega)]
  clear h hj
  refine VloadN.mk' rfl rfl ?_
  refine Vcall.go hh ?_
  refine Vloop.mk' (fun q : Nat × Bool × List Stub => { F := [(1, .r (I x)), (2, .own 0), (4, .own 1), (5, .own 2), (7, .own 5), (8, .r (.b q.2.1)), (9, .r (I q.1))], O := [(0, some (.box (s.c.map .r))), (1, some (.box (zero4.map .r))), (2, some (.box (outB s))), (3, some (spotCh (s.opn.filter fun y => p y.at_))), (4, some (stubCh q.2.2)), (5, some (.box (Stub.c ⟨x, h0⟩ |>.map .r)))], nx := 6 })
    (fun q => q.1 ≤ s.shut.length ∧ insR ⟨x, h0⟩ ((s.shut.take q.1).filter fun y => p y.at_) = (q.2.1, q.2.2)) (fun q => s.shut.length - q.1) (0, false, []) ⟨by simp, by simp [insR]⟩
    (sub_of [(0, 0), (1, 1), (2, 2), (3, 3), (4, 4), (5, _)] rfl ⟨Cv.refl _, rfl, rfl, rfl, rfl, Cv.refl _, Cv.refl _, trivial⟩ ⟨cvCells_refl _, cvCells_refl zero4, cvc (cvTF_refl _) (cvc (cvTF_refl _) (cvc rfl (cvc rfl rfl))), cvSpots rfl, cvStubs rfl, cvCells_refl (Stub.c ⟨x, h0⟩), trivial⟩) ?_
  rintro ⟨j, d, M⟩ ⟨hj, hq⟩
  dsimp only at hj hq
  have hM : M.length ≤ 2 * s.shut.length := by
    have h5 := insR_len ⟨x, h0⟩ ((s.shut.take j).filter fun y => p y.at_)
    have h6 := filter_take_leA (p := fun y : Stub => p y.at_) (l := s.shut) (j := j)
    rw [hq] at h5
    dsimp only at h5
    omega
  refine Vcmp.split (fun h => Vif.t ?_) (fun h => Vif.f ?_)
  · simp only [beq_iff_eq, bne_iff_ne, beq_eq_false_iff_ne, bne_eq_false_iff_eq, decide_eq_true_eq, decide_eq_false_iff_not, Bool.not_eq_true', Bool.not_eq_false', ne_eq] at h
    have hj' : j < s.shut.length := by omega
    refine Vidx.mk' (by omega) (by omega) (idx_stub rfl hj') (Vload1.mk' rfl ?_)
    refine Vcall.go (g_under14 _ _) ?_
    have hsn := filter_snocA (p := fun y : Stub => p y.at_) hj'
    have hpj : p s.shut[j].at_ = !underI s.shut[j].at_ x := by rw [hp]
    cases hu : underI s.shut[j].at_ x with
    | true =>
      rw [hpj, hu, if_neg (by simp)] at hsn
      refine Vif.t ?_
      refine Vint.i64 (m := ((j + 1 : Nat) : Int)) (by dsimp only; omega) (by dsimp only; omega) ?_
      exact ⟨(j + 1, d, M), ⟨hj', by dsimp only; rw [hsn]; exact hq⟩, by dsimp only; omega, sub_of [(0, 0), (1, 1), (2, 2), (3, 3), (4, 4), (5, 5)] rfl ⟨Cv.refl _, rfl, rfl, rfl, rfl, Cv.refl _, Cv.refl _, trivial⟩ ⟨cvCells_refl _, cvCells_refl zero4, cvc (cvTF_refl _) (cvc (cvTF_refl _) (cvc rfl (cvc rfl rfl))), cvSpots rfl, cvStubs rfl, cvCells_refl (Stub.c ⟨x, h0⟩), trivial⟩⟩
    | false =>
      rw [hpj, hu, if_pos (by simp)] at hsn
      have hst : insR ⟨x, h0⟩ ((s.shut.take (j + 1)).filter fun y => p y.at_) = insS ⟨x, h0⟩ (d, M) s.shut[j] := by rw [hsn, insR_snoc, hq]
      refine Vif.f ?_
      refine Vidx.mk' (by omega) (by omega) (idx_stub rfl hj') (Vload1.mk' rfl ?_)
      by_cases hc : x < s.shut[j].at_
      · refine Vcmp.t (by simpa using hc) ?_
        cases d with
        | true =>
          refine Vcmp.f rfl (Vif.f ?_)
          refine Vdraw.mk' (by kernel_rfl) ?_
          refine Vidx.mk' (by omega) (by omega) (idx_stub rfl hj') ?_
          refine VloadN.mk' rfl rfl ?_
          refine Vpub.pub ?_
          refine Vapp.mk' (j := (M ++ [s.shut[j]]).length) (zs := (M ++ [s.shut[j]]).flatMap Stub.c) (by simp only [maxLen, List.length_append, List.length_singleton]; omega) (by simp; omega) (by simp) (by simp [fillR, cellsOf]) ?_
          refine Vint.i64 (m := ((j + 1 : Nat) : Int)) (by dsimp only; omega) (by dsimp only; omega) ?_
          exact ⟨(j + 1, true, M ++ [s.shut[j]]), ⟨hj', by dsimp only; rw [hst]; simp [insS, hc]⟩, by dsimp only; omega, sub_of [(0, 0), (1, 1), (2, 2), (3, 3), (4, _), (5, 5)] rfl ⟨Cv.refl _, rfl, rfl, rfl, rfl, Cv.refl _, Cv.refl _, trivial⟩ ⟨cvCells_refl _, cvCells_refl zero4, cvc (cvTF_refl _) (cvc (cvTF_refl _) (cvc rfl (cvc rfl rfl))), cvSpots rfl, cvStubs rfl, cvCells_refl (Stub.c ⟨x, h0⟩), trivial⟩⟩
        | false =>
          refine Vcmp.t rfl (Vif.t ?_)
          refine VloadN.mk' rfl rfl ?_
          refine Vpub.pub ?_
          refine Vapp.mk' (j := (M ++ [(⟨x, h0⟩ : Stub)]).length) (zs := (M ++ [(⟨x, h0⟩ : Stub)]).flatMap Stub.c) (by simp only [maxLen]; omega) (by simp; omega) (by simp) (by simp [fillR, cellsOf]) ?_
          refine Vdraw.mk' (by kernel_rfl) ?_
          refine Vidx.mk' (by omega) (by omega) (idx_stub rfl hj') ?_
          refine VloadN.mk' rfl rfl ?_
          refine Vpub.pub ?_
          refine Vapp.mk' (j := ((M ++ [(⟨x, h0⟩ : Stub)]) ++ [s.shut[j]]).length) (zs := ((M ++ [(⟨x, h0⟩ : Stub)]) ++ [s.shut[j]]).flatMap Stub.c) (by simp only [maxLen, List.length_append, List.length_singleton]; omega) (by simp; omega) (by simp) (by simp [fillR, cellsOf]) ?_
          refine Vint.i64 (m := ((j + 1 : Nat) : Int)) (by dsimp only; omega) (by dsimp only; omega) ?_
          exact ⟨(j + 1, true, M ++ [(⟨x, h0⟩ : Stub)] ++ [s.shut[j]]), ⟨hj', by dsimp only; rw [hst]; simp [insS, hc]⟩, by dsimp only; omega, sub_of [(0, 0), (1, 1), (2, 2), (3, 3), (4, _), (5, 5)] rfl ⟨Cv.refl _, rfl, rfl, rfl, rfl, Cv.refl _, Cv.refl _, trivial⟩ ⟨cvCells_refl _, cvCells_refl zero4, cvc (cvTF_refl _) (cvc (cvTF_refl _) (cvc rfl (cvc rfl rfl))), cvSpots rfl, cvStubs rfl, cvCells_refl (Stub.c ⟨x, h0⟩), trivial⟩⟩
      · refine Vcmp.f (by simpa using hc) (Vif.f ?_)
        refine Vdraw.mk' (by kernel_rfl) ?_
        refine Vidx.mk' (by omega) (by omega) (idx_stub rfl hj') ?_
        refine VloadN.mk' rfl rfl ?_
        refine Vpub.pub ?_
        refine Vapp.mk' (j := (M ++ [s.shut[j]]).length) (zs := (M ++ [s.shut[j]]).flatMap Stub.c) (by simp only [maxLen, List.length_append, List.length_singleton]; omega) (by simp; omega) (by simp) (by simp [fillR, cellsOf]) ?_
        refine Vint.i64 (m := ((j + 1 : Nat) : Int)) (by dsimp only; omega) (by dsimp only; omega) ?_
        exact ⟨(j + 1, d, M ++ [s.shut[j]]), ⟨hj', by dsimp only; rw [hst]; simp [insS, hc]⟩, by dsimp only; omega, sub_of [(0, 0), (1, 1), (2, 2), (3, 3), (4, _), (5, 5)] rfl ⟨Cv.refl _, rfl, rfl, rfl, rfl, Cv.refl _, Cv.refl _, trivial⟩ ⟨cvCells_refl _, cvCells_refl zero4, cvc (cvTF_refl _) (cvc (cvTF_refl _) (cvc rfl (cvc rfl rfl))), cvSpots rfl, cvStubs rfl, cvCells_refl (Stub.c ⟨x, h0⟩), trivial⟩⟩
  · simp only [beq_iff_eq, bne_iff_ne, beq_eq_false_iff_ne, bne_eq_false_iff_eq, decide_eq_true_eq, decide_eq_false_iff_not, Bool.not_eq_true', Bool.not_eq_false', ne_eq] at h
    rw [List.take_of_length_le (by omega)] at hq
    have hfin : insL ⟨x, h0⟩ (s.shut.filter fun y => p y.at_) = if d then M else M ++ [⟨x, h0⟩] := by
      unfold insL
      rw [hq]
    have hres : (shutR s x h0).c = [I s.leaves, I s.own, spots (s.opn.filter fun y => p y.at_), stubs (if d then M else M ++ [⟨x, h0⟩])] := by
      rw [← hfin, hp]; rfl
    rw [hres]
    cases d with
    | true =>
      refine Vcmp.f rfl (Vif.f ?_)
      refine VloadN.mk' rfl rfl ?_
      refine VloadN.mk' rfl rfl ?_
      exact Cv.refl _
    | false =>
      refine Vcmp.t rfl (Vif.t ?_)
      refine VloadN.mk' rfl rfl ?_
      refine Vpub.pub ?_
      refine Vapp.mk' (j := (M ++ [(⟨x, h0⟩ : Stub)]).length) (zs := (M ++ [(⟨x, h0⟩ : Stub)]).flatMap Stub.c) (by simp only [maxLen]; omega) (by simp; omega) (by simp) (by simp [fillR, cellsOf]) ?_
      refine VloadN.mk' rfl rfl ?_
      refine VloadN.mk' rfl rfl ?_
      exact Cv.refl _
end Go.Proofs.YtpdllgbfemnemaaGreat.Sx
end

section
namespace Go.Proofs.YtpdllgbfemnemaaGreat.Sx
open Go.RowKit

def empty_ : Lean_ := ⟨0, 0, [], []⟩
theorem g_empty19 (s : Lean_) (h1 : s.opn.length ≤ 1000000000) (h2 : s.shut.length ≤ 1000000000) (hl : ∀ x ∈ s.opn, ∀ u ∈ x.node.par.late, i64 u) : Gives Tryz.prog 24 [.ag s.c] (.r (.b (decide (s = empty_)))) := by
  refine gives_of_vcg (T := Tab) mixed Tab_ok Tryz.func24 rfl (by kernel_rfl) ?_
  refine VloadN.mk' rfl rfl ?_
  refine Vcall.mk' (g_same19 s empty_ h1 h2 (by simp [empty_]) (by simp [empty_]) hl (by simp [empty_])) (Cvs.cons (Cv.refl _) (Cvs.cons (Cv.ag (Cvs.cons (Cv.refl _) (Cvs.cons (Cv.refl _) (Cvs.cons (Cv.nil 11) (Cvs.cons (Cv.nil 2) Cvs.nil))))) Cvs.nil)) ?_
  exact Cv.refl _

def idxG {α : Type} (q : α → Bool) : Nat → List α → Int
  | _, [] => -1
  | j, x :: r => if q x then (j : Int) else idxG q (j + 1) r
abbrev stubRV (y : Stub) : RV := .ag y.c
theorem g_indexstub (l : List Stub) (D : Stub → Prop) (q : Stub → Bool) (hl : l.length ≤ 1000000000) (hD : ∀ x ∈ l, D x) : Gives Tryz.prog 106 [stubs l, .s (cloS Tryz.prog stubRV D q)] (.r (I (idxG q 0 l))) := by
  refine gives_of_vcg (T := Tab) mixed Tab_ok Tryz.func106 rfl (by kernel_rfl) ?_
  refine Vloop.mk' (fun j : Nat => { F := [(0, .r (stubs l)), (1, .r (.s (cloS Tryz.prog stubRV D q))), (7, .r (I l.length)), (8, .r (I j))], O := [], nx := 0 }) (fun j => j ≤ l.length ∧ idxG q 0 l = idxG q j (l.drop j)) (fun j => l.length - j) 0 ⟨by omega, by simp⟩ (sub_of [] rfl ⟨Cv.refl _, Cv.refl _, Cv.refl _, Cv.refl _, trivial⟩ trivial) ?_
  rintro j ⟨hj, he⟩
  refine Vcmp.split (fun h => Vif.t ?_) (fun h => Vif.f ?_)
  · simp only [beq_iff_eq, bne_iff_ne, beq_eq_false_iff_ne, bne_eq_false_iff_eq, decide_eq_true_eq, decide_eq_false_iff_not, Bool.not_eq_true', Bool.not_eq_false', ne_eq] at h
    have hj' : j < l.length := by omega
    rw [List.drop_eq_getElem_cons hj'] at he
    simp only [idxG] at he
    refine Vidx.mk' (by omega) (by omega) (idx_stub rfl hj') ?_
    refine VloadN.mk' rfl rfl ?_
    refine Vstep.cloB l[j] rfl rfl rfl rfl (Cv.refl _) (hD _ (List.getElem_mem hj')) (fun hq => Vif.t ?_) (fun hq => Vif.f ?_)
    · rw [hq] at he
      exact Cv.of_eq (by rw [he]; simp)
    · rw [hq] at he
      refine Vint.i64 (m := ((j + 1 : Nat) : Int)) (by omega) (by omega) ?_
      exact ⟨j + 1, ⟨hj', by rw [he]; simp⟩, by omega, sub_of [] rfl ⟨Cv.refl _, Cv.refl _, Cv.refl _, Cv.refl _, trivial⟩ trivial⟩
  · simp only [beq_iff_eq, bne_iff_ne, beq_eq_false_iff_ne, bne_eq_false_iff_eq, decide_eq_true_eq, decide_eq_false_iff_not, Bool.not_eq_true', Bool.not_eq_false', ne_eq] at h
    rw [List.drop_eq_nil_of_le (by omega)] at he
    exact Cv.of_eq (by rw [he]; rfl)
theorem g_shut1 (y : Stub) (x : Int) : Gives Tryz.prog 107 [.ag y.c, .ptr [I x]] (.r (.b (decide (x < y.at_)))) := by
  refine gives_of_vcg (T := Tab) mixed Tab_ok Tryz.func107 rfl (by kernel_rfl) ?_
  refine Vload1.mk' rfl ?_
  exact Vcmp.mk' rfl (Cv.refl _)

end Go.Proofs.YtpdllgbfemnemaaGreat.Sx
end
