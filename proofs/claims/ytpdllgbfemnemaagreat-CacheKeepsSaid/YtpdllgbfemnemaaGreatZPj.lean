import Derived.Test.YtpdllgbfemnemaaGreatZPg
section
namespace Go.Proofs.YtpdllgbfemnemaaGreat.Sx
open Go.RowKit
set_option linter.unusedVariables false

def hashAt (s : Lean_) (x : Int) : List UInt8 := hashP s (lv x.toNat) (x.toNat / 2 ^ (lv x.toNat + 1))
theorem hashAt_nd (s : Lean_) {h k : Nat} (hh : h ≤ 16) (hk : k < 2 ^ (16 - h)) : hashAt s (nd h k) = hashP s h k := by
  obtain ⟨e1, e2⟩ := nd_uniq hh hk
  unfold hashAt
  rw [e2, e1]
/-- One node less. -/
def stepS (s : Lean_) (pick : Int) : Lean_ := shutR s (whichL s pick) (hashAt s (whichL s pick))
def seqS (picks : List Int) (s : Lean_) : Nat → Lean_
  | 0 => s
  | j + 1 => stepS (seqS picks s j) (picks.getD j (-1))
def countS (s : Lean_) : Nat := s.opn.length + s.shut.length

structure GoodS (s : Lean_) (d o : Nat) : Prop where
  right : rightP s = true
  fit : s.fitN
  cnt : countS s ≤ 1000000
  hd : d ≤ 16
  ho : o < 2 ^ d
  hn : s.leaves = ((2 ^ d : Nat) : Int)
  he : s.own = (o : Int)
theorem GoodS.own {s : Lean_} {d o : Nat} (g : GoodS s d o) : fitsI s.leaves = true ∧ 0 ≤ s.own ∧ s.own < s.leaves ∧ s.lookOk = true := by
  have hp := g.right
  simp only [rightP, Bool.and_eq_true, decide_eq_true_eq] at hp
  exact ⟨hp.2.1, hp.2.2.1, hp.2.2.2.1, hp.1⟩

/-- What shutting an opened node does. -/
theorem shut_step {s : Lean_} {d o : Nat} (g : GoodS s d o) {x : Int} (hx : x ∈ openedF s true) :
    (∃ h k, h ≤ 16 ∧ k < 2 ^ (16 - h) ∧ x = (nd h k : Int) ∧ hashP s h k = hashR s h k ∧ hashAt s x = hashP s h k) ∧ GoodS (shutR s x (hashAt s x)) d o ∧ countS (shutR s x (hashAt s x)) ≤ countS s ∧
    openedF (shutR s x (hashAt s x)) true = (openedF s true).filter (fun c => decide (c ≠ x)) ∧ (openedF (shutR s x (hashAt s x)) true).length < (openedF s true).length ∧ hashP (shutR s x (hashAt s x)) d 0 = hashP s d 0 ∧
    (shutR s x (hashAt s x)).opn.length < s.opn.length := by
  obtain ⟨hd, ho, hn, he⟩ := (⟨g.hd, g.ho, g.hn, g.he⟩ : _ ∧ _ ∧ _ ∧ _)
  obtain ⟨i, hi, rfl, hf⟩ := (mem_opened hd ho hn he x).1 hx
  have hs := sib_lt ho hi
  have r := (right_is hd ho hn he).1 g.right
  obtain ⟨k1, k2⟩ := hash_key hd ho hn he g.right
  obtain ⟨e1, e2⟩ := k1 i _ (by omega) hs (.inl (k2 _ hf))
  have ea := hashAt_nd s (show i ≤ 16 by omega) (lt16 hd hs)
  rw [ea]
  obtain ⟨rT, p1, p3⟩ := shut_is hd ho hn he hi hf e2 r
  have hroot := shut_hash_root hd ho hn he hi hf e2 r rfl
  have hT : rightP (shutR s (nd i (sibN (o / 2 ^ i))) (hashP s i (sibN (o / 2 ^ i)))) = true := (right_is (s := shutR s (nd i (sibN (o / 2 ^ i))) (hashP s i (sibN (o / 2 ^ i)))) hd ho hn he).2 rT
  have hin : (nd i (sibN (o / 2 ^ i)) : Int) ∈ s.opn.map (·.at_) := findS_iff.1 hf
  obtain ⟨y, hy, hyx⟩ := List.mem_map.1 hin
  have hlt : (s.opn.filter fun y => !underI y.at_ (nd i (sibN (o / 2 ^ i)))).length < s.opn.length := by
    rw [List.length_filter_lt_length_iff_exists]
    refine ⟨y, hy, ?_⟩
    have : underI y.at_ (nd i (sibN (o / 2 ^ i))) = true := by
      rw [hyx]
      exact (under_inR hd (by omega) hs (nd_nodeI hd (by omega) hs)).2 (inR_self _ _)
    simp [this]
  have hle := List.length_filter_le (fun y : Stub => !underI y.at_ (nd i (sibN (o / 2 ^ i)))) s.shut
  have hcnt : countS (shutR s (nd i (sibN (o / 2 ^ i))) (hashP s i (sibN (o / 2 ^ i)))) ≤ countS s := by
    unfold countS
    rw [← p3]
    show (s.opn.filter fun y => !underI y.at_ (nd i (sibN (o / 2 ^ i)))).length + _ ≤ _
    omega
  have hcop : openedF (shutR s (nd i (sibN (o / 2 ^ i))) (hashP s i (sibN (o / 2 ^ i)))) true = (openedF s true).filter (fun c => decide (c ≠ (nd i (sibN (o / 2 ^ i)) : Int))) := by
    have hc := copath_list hd ho hn he
    unfold openedF
    rw [show copathI (2 * (shutR s (nd i (sibN (o / 2 ^ i))) (hashP s i (sibN (o / 2 ^ i)))).own) (shutR s (nd i (sibN (o / 2 ^ i))) (hashP s i (sibN (o / 2 ^ i)))).leaves = copathI (2 * s.own) s.leaves from rfl, hc, List.filter_filter]
    apply List.filter_congr
    intro c hcm
    obtain ⟨j, hj, rfl⟩ := List.mem_map.1 hcm
    rw [List.mem_range] at hj
    have hsj := sib_lt ho hj
    rw [shut_look hd ho hi _ (nd_nodeI hd (by omega) hsj)]
    by_cases hji : j = i
    · subst hji
      rw [if_pos (inR_self _ _)]
      simp
    · have hno : ¬ inR i (sibN (o / 2 ^ i)) (nd j (sibN (o / 2 ^ j))) := fun h => hji (sib_apart (inR_self _ _) h)
      have hne : (nd j (sibN (o / 2 ^ j)) : Int) ≠ (nd i (sibN (o / 2 ^ i)) : Int) := fun e => hji (nd_inj (by omega) (by omega) (Int.ofNat.inj e)).1
      rw [if_neg hno]
      simp [hne]
  refine ⟨⟨i, _, by omega, lt16 hd hs, rfl, e1, rfl⟩, ⟨hT, ⟨?_, ?_, fun z hz => ?_, fun z hz => ?_⟩, by have := g.cnt; omega, hd, ho, hn, he⟩, hcnt, hcop, ?_, hroot, hlt⟩
  · have := g.fit.1
    show (s.opn.filter fun y => !underI y.at_ (nd i (sibN (o / 2 ^ i)))).length ≤ _
    omega
  · have := g.cnt; unfold countS at this hcnt; omega
  · exact g.fit.2.2.1 z (List.mem_filter.1 hz).1
  · have hk : sibN (o / 2 ^ i) < 2 ^ (d - i) := hs
    have pF : ((s.shut.filter fun y => !underI y.at_ (nd i (sibN (o / 2 ^ i)))).map (·.at_)).Pairwise (· < ·) := r.ps.sublist (List.filter_sublist.map _)
    have hne : ∀ y ∈ s.shut.filter (fun y => !underI y.at_ (nd i (sibN (o / 2 ^ i)))), y.at_ ≠ (nd i (sibN (o / 2 ^ i)) : Int) := fun y hy e => by
      have h2 := (List.mem_filter.1 hy).2
      rw [e, (under_inR hd (by omega) hk (nd_nodeI hd (by omega) hk)).2 (inR_self _ _)] at h2
      cases h2
    obtain ⟨_, p2, _⟩ := insL_form ⟨(nd i (sibN (o / 2 ^ i)) : Int), hashP s i (sibN (o / 2 ^ i))⟩ _ pF hne
    rcases (p2 z).1 hz with rfl | hz
    · show (hashP s i (sibN (o / 2 ^ i))).length ≤ _
      omega
    · exact g.fit.2.2.2 z (List.mem_filter.1 hz).1
  · rw [hcop, List.length_filter_lt_length_iff_exists]
    exact ⟨_, hx, by simp⟩

/-- Where nothing of the copath is opened there is nothing but it. -/
theorem count_least {s : Lean_} {d o : Nat} (g : GoodS s d o) (h : openedF s true = []) : countS s = 2 * d + 1 := by
  obtain ⟨hd, ho, hn, he⟩ := (⟨g.hd, g.ho, g.hn, g.he⟩ : _ ∧ _ ∧ _ ∧ _)
  have r := (right_is hd ho hn he).1 g.right
  have hno : ∀ i, i < d → kidT s.opn o i = ([], [(nd i (sibN (o / 2 ^ i)) : Int)]) := fun i hi => by
    unfold kidT
    rw [if_neg]
    intro hf
    have : (nd i (sibN (o / 2 ^ i)) : Int) ∈ openedF s true := (mem_opened hd ho hn he _).2 ⟨i, hi, rfl, hf⟩
    rw [h] at this
    cases this
  have key : ∀ j, j ≤ d → (topS s.opn o j).1.length = j + 1 ∧ (topS s.opn o j).2.length = j := fun j => by
    induction j with
    | zero => intro _; simp [topS]
    | succ j ih =>
      intro hj
      obtain ⟨h1, h2⟩ := ih (by omega)
      simp only [topS, hno j (by omega)]
      split <;> simp [h1, h2] <;> omega
  obtain ⟨k1, k2⟩ := key d (Nat.le_refl _)
  rw [r.ea, List.length_map] at k1
  rw [r.eb, List.length_map] at k2
  unfold countS
  omega
theorem least_eq {d : Nat} (hd : d ≤ 16) : leastI ((2 ^ d : Nat) : Int) = ((2 * d + 1 : Nat) : Int) := by
  unfold leastI
  rw [if_pos (pow_fits d hd)]
  have := path_range hd (o := 0) (pow_pos' d)
  rw [nd_zero] at this
  have e : (pathI 0 ((2 ^ d : Nat) : Int)).length = d := by
    have h2 : pathI ((2 * 0 : Nat) : Int) ((2 ^ d : Nat) : Int) = _ := this
    rw [show ((2 * 0 : Nat) : Int) = 0 from rfl] at h2
    rw [h2]; simp
  rw [e]; omega
theorem openedne {s : Lean_} {d o : Nat} (g : GoodS s d o) {bound : Int} (hb : leastI s.leaves ≤ bound) (hc : (countS s : Int) > bound) : openedF s true ≠ [] := fun h => by
  have := count_least g h
  rw [g.hn, least_eq g.hd] at hb
  omega
/-- One step. -/
theorem step_good {s : Lean_} {d o : Nat} (g : GoodS s d o) {bound : Int} (hb : leastI s.leaves ≤ bound) (hc : (countS s : Int) > bound) (pick : Int) :
    whichL s pick ∈ openedF s true ∧ GoodS (stepS s pick) d o ∧ (openedF (stepS s pick) true).length < (openedF s true).length ∧ hashP (stepS s pick) d 0 = hashP s d 0 ∧ countS (stepS s pick) ≤ countS s := by
  obtain ⟨h1, h2, h3, _⟩ := g.own
  have hm := which_mem h1 h2 h3 (openedne g hb hc) pick
  obtain ⟨_, a1, a2, _, a4, a5, _⟩ := shut_step g hm
  exact ⟨hm, a1, a4, a5, a2⟩
/-- All of them, as long as the bound isn't met. -/
theorem seq_good {s : Lean_} {d o : Nat} (g : GoodS s d o) (picks : List Int) {bound : Int} (hb : leastI s.leaves ≤ bound) : ∀ j, (∀ i, i < j → (countS (seqS picks s i) : Int) > bound) → GoodS (seqS picks s j) d o ∧ (seqS picks s j).leaves = s.leaves ∧ hashP (seqS picks s j) d 0 = hashP s d 0 ∧ countS (seqS picks s j) ≤ countS s
  | 0, _ => ⟨g, rfl, rfl, Nat.le_refl _⟩
  | j + 1, h => by
    obtain ⟨g1, e1, e2, e3⟩ := seq_good g picks hb j fun i hi => h i (by omega)
    obtain ⟨_, a1, _, a3, a4⟩ := step_good g1 (by rw [e1]; exact hb) (h j (by omega)) (picks.getD j (-1))
    exact ⟨a1, a1.hn.trans g.hn.symm, a3.trans e2, Nat.le_trans a4 e3⟩
/-- The bound is met. -/
theorem seq_ends {s : Lean_} {d o : Nat} (g : GoodS s d o) (picks : List Int) {bound : Int} (hb : leastI s.leaves ≤ bound) : ∃ J, (countS (seqS picks s J) : Int) ≤ bound ∧ ∀ i, i < J → (countS (seqS picks s i) : Int) > bound := by
  have key : ∀ (m j : Nat), (∀ i, i < j → (countS (seqS picks s i) : Int) > bound) → (openedF (seqS picks s j) true).length ≤ m → ∃ J, (countS (seqS picks s J) : Int) ≤ bound ∧ ∀ i, i < J → (countS (seqS picks s i) : Int) > bound := fun m => by
    induction m with
    | zero =>
      intro j hj hm
      refine ⟨j, ?_, hj⟩
      obtain ⟨g1, e1, _⟩ := seq_good g picks hb j hj
      by_cases hc : (countS (seqS picks s j) : Int) > bound
      · exact absurd (List.eq_nil_of_length_eq_zero (by omega)) (openedne g1 (by rw [e1]; exact hb) hc)
      · omega
    | succ m ih =>
      intro j hj hm
      by_cases hc : (countS (seqS picks s j) : Int) > bound
      · obtain ⟨g1, e1, _⟩ := seq_good g picks hb j hj
        obtain ⟨_, _, a2, _⟩ := step_good g1 (by rw [e1]; exact hb) hc (picks.getD j (-1))
        refine ih (j + 1) (fun i hi => ?_) (by show (openedF (stepS _ _) true).length ≤ m; omega)
        rcases Nat.lt_or_ge i j with h | h
        · exact hj i h
        · have : i = j := by omega
          subst this; exact hc
      · exact ⟨j, by omega, hj⟩
  exact key _ 0 (fun i hi => by omega) (Nat.le_refl _)
end Go.Proofs.YtpdllgbfemnemaaGreat.Sx
end

section
namespace Go.Proofs.YtpdllgbfemnemaaGreat.Sx
open Go.RowKit
set_option linter.unusedVariables false

theorem g_shut_at {s : Lean_} {d o : Nat} (g : GoodS s d o) {x : Int} (hx : x ∈ openedF s true) : Gives Tryz.prog 63 [.ag s.c, I x] (.r (.ag (shutR s x (hashAt s x)).c)) := by
  obtain ⟨⟨h, k, hh, hk, rfl, _, ea⟩, _⟩ := shut_step g hx
  refine g_cshut s g.fit g.own.2.2.2 _ _ (fun l hl => g_copyleaf l hl) ?_
  rw [ea]
  exact g_hashof s g.fit h k hh hk
theorem idx_is {l : List Int} {j : Nat} (hj : j < l.length) : l.getD j (-1) = l[j] := by
  rw [List.getD_eq_getElem?_getD, List.getElem?_eq_getElem hj]; rfl
theorem idx_no {l : List Int} {j : Nat} (hj : ¬ j < l.length) : l.getD j (-1) = -1 := by
  rw [List.getD_eq_getElem?_getD, List.getElem?_eq_none (by omega)]; rfl

/-- The parts of Fit, where the tree is right and the bound no less than the least. -/
theorem g_fit {s : Lean_} {d o : Nat} (g : GoodS s d o) (bound : Int) (picks : List Int) (hp : picks.length ≤ 1000000) (hpi : ∀ p ∈ picks, i64 p) (hb : leastI s.leaves ≤ bound) (J : Nat) (hJ : (countS (seqS picks s J) : Int) ≤ bound) (hlt : ∀ i, i < J → (countS (seqS picks s i) : Int) > bound) :
    Gives Tryz.prog 27 [.ag s.c, I bound, is picks] (.r (.tu [.ag (seqS picks s J).c, .i .u8 0])) := by
  refine gives_of_vcg (T := Tab) mixed Tab_ok Tryz.func27 rfl (by kernel_rfl) ?_
  have gr := g_cright s g.fit
  rw [g.right] at gr
  refine VloadN.mk' rfl rfl ?_
  refine Vcall.go gr ?_
  refine Vcmp.f rfl (Vif.f ?_)
  refine Vcall.go (g_least s.leaves) ?_
  refine Vcmp.f (by simp only [beq_iff_eq, bne_iff_ne, beq_eq_false_iff_ne, bne_eq_false_iff_eq, decide_eq_true_eq, decide_eq_false_iff_not, Bool.not_eq_true', Bool.not_eq_false', ne_eq]; omega) (Vif.f ?_)
  refine VloadN.mk' rfl rfl ?_
  refine Vcall.go (g_copied s g.fit) ?_
  refine Vloop.mk' (fun j : Nat => { F := [(1, .r (I bound)), (2, .r (is (picks.drop j))), (3, .own 0), (6, .own 1)], O := [(0, some (.box ((seqS picks s j).c.map .r))), (1, some (.box (zero4.map .r)))], nx := 2 }) (fun j => j ≤ J) (fun j => J - j) 0 (by omega)
    (sub_of [(0, 0), (1, 1)] rfl ⟨Cv.refl _, Cv.refl _, rfl, rfl, trivial⟩ ⟨cvCells_refl s.c, cvCells_refl zero4, trivial⟩) ?_
  intro j hj
  obtain ⟨g1, e1, _⟩ := seq_good g picks hb j fun i hi => hlt i (by omega)
  have hcs : ((seqS picks s j).opn.length : Int) + ((seqS picks s j).shut.length : Int) = (countS (seqS picks s j) : Int) := by unfold countS; omega
  refine VloadN.mk' rfl rfl ?_
  refine Vcall.go (g_count _ ⟨g1.fit.1, g1.fit.2.1⟩) ?_
  refine Vcmp.split (fun h => Vif.t ?_) (fun h => Vif.f ?_)
  · simp only [beq_iff_eq, bne_iff_ne, beq_eq_false_iff_ne, bne_eq_false_iff_eq, decide_eq_true_eq, decide_eq_false_iff_not, Bool.not_eq_true', Bool.not_eq_false', ne_eq] at h
    have hjJ : j < J := by
      rcases Nat.lt_or_ge j J with h' | h'
      · exact h'
      · have : j = J := by omega
        subst this; omega
    obtain ⟨hm, g2, _⟩ := step_good g1 (by rw [e1]; exact hb) (hlt j hjJ) (picks.getD j (-1))
    obtain ⟨q1, q2, q3, q4⟩ := g1.own
    have gsh := g_shut_at g1 hm
    have hpl : (picks.drop j).length = picks.length - j := List.length_drop
    have hpk : i64 (picks.getD j (-1)) := by
      by_cases hjp : j < picks.length
      · rw [idx_is hjp]; exact hpi _ (List.getElem_mem hjp)
      · rw [idx_no hjp]; unfold i64; omega
    have gw := g_which _ g1.fit q4 q1 q2 q3 (picks.getD j (-1)) hpk
    refine Vcmp.split (fun h2 => Vif.t ?_) (fun h2 => Vif.f ?_)
    · simp only [beq_iff_eq, bne_iff_ne, beq_eq_false_iff_ne, bne_eq_false_iff_eq, decide_eq_true_eq, decide_eq_false_iff_not, Bool.not_eq_true', Bool.not_eq_false', ne_eq] at h2
      have hjp : j < picks.length := by omega
      rw [idx_is hjp] at gw gsh
      refine Vdraw.mk' (by kernel_rfl) ?_
      refine Vidx.mk' (by omega) (by omega) (idx_map (j := 0) rfl (by omega)) (Vload1.mk' rfl ?_)
      refine ⟨by omega, by omega, by omega, (picks.drop (j + 1)).length, (picks.drop (j + 1)).map I, ?_, ?_, ?_⟩
      · rw [List.length_drop]; omega
      · rw [show (1 : Int).toNat * 1 = 1 from rfl, Nat.mul_one, ← List.map_drop, List.drop_drop]
        rw [List.take_of_length_le (by simp)]
      have e0 : (picks.drop j)[0]'(by omega) = picks[j] := by simp
      refine Vdraw.mk' (by kernel_rfl) ?_
      refine VloadN.mk' rfl rfl ?_
      refine VloadN.mk' rfl rfl ?_
      refine Vcall.mk' gw (Cvs.cons (Cv.refl _) (Cvs.cons (Cv.of_eq (by rw [e0])) Cvs.nil)) ?_
      refine Vcall.go gsh ?_
      refine ⟨j + 1, hjJ, by omega, sub_of [(0, 0), (1, 1)] rfl ⟨Cv.refl _, Cv.refl _, rfl, rfl, trivial⟩ ⟨?_, cvCells_refl zero4, trivial⟩⟩
      show cvCells _ _ _ ((stepS (seqS picks s j) (picks.getD j (-1))).c.map .r)
      rw [idx_is hjp]
      exact cvCells_refl (shutR (seqS picks s j) (whichL (seqS picks s j) picks[j]) (hashAt (seqS picks s j) (whichL (seqS picks s j) picks[j]))).c
    · simp only [beq_iff_eq, bne_iff_ne, beq_eq_false_iff_ne, bne_eq_false_iff_eq, decide_eq_true_eq, decide_eq_false_iff_not, Bool.not_eq_true', Bool.not_eq_false', ne_eq] at h2
      have hjp : ¬ j < picks.length := by omega
      rw [idx_no hjp] at gw gsh
      refine Vdraw.mk' (by kernel_rfl) ?_
      refine VloadN.mk' rfl rfl ?_
      refine VloadN.mk' rfl rfl ?_
      refine Vcall.go gw ?_
      refine Vcall.go gsh ?_
      refine ⟨j + 1, hjJ, by omega, sub_of [(0, 0), (1, 1)] rfl ⟨Cv.refl _, Cv.of_eq (by rw [List.drop_of_length_le (by omega), List.drop_of_length_le (by omega)]), rfl, rfl, trivial⟩ ⟨?_, cvCells_refl zero4, trivial⟩⟩
      show cvCells _ _ _ ((stepS (seqS picks s j) (picks.getD j (-1))).c.map .r)
      rw [idx_no hjp]
      exact cvCells_refl (shutR (seqS picks s j) (whichL (seqS picks s j) (-1)) (hashAt (seqS picks s j) (whichL (seqS picks s j) (-1)))).c
  · simp only [beq_iff_eq, bne_iff_ne, beq_eq_false_iff_ne, bne_eq_false_iff_eq, decide_eq_true_eq, decide_eq_false_iff_not, Bool.not_eq_true', Bool.not_eq_false', ne_eq] at h
    have hjJ : j = J := by
      rcases Nat.lt_or_ge j J with h' | h'
      · have := hlt j h'; omega
      · omega
    subst hjJ
    refine VloadN.mk' rfl rfl ?_
    refine VloadN.mk' rfl rfl ?_
    exact ⟨_, rfl, Cv.refl _⟩
end Go.Proofs.YtpdllgbfemnemaaGreat.Sx
end

section
namespace Go.Proofs.YtpdllgbfemnemaaGreat.Sx
open Go.RowKit
set_option linter.unusedVariables false

end Go.Proofs.YtpdllgbfemnemaaGreat.Sx
end
