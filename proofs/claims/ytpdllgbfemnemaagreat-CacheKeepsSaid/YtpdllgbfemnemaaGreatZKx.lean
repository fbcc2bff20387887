import Derived.Test.YtpdllgbfemnemaaGreatZKs
import Derived.Test.YtpdllgbfemnemaaGreatZSxY
namespace Go.Proofs.YtpdllgbfemnemaaGreat.Sx
open Go.RowKit

theorem sub_adoptF {S : St} (t : Nat) (e : TypeId) (sz : Nat) (hf : fget S.F t = some (.r (.x (.slice none 0 0)))) : Sub S { F := (t, .own S.nx) :: S.F, O := (S.nx, some (.ch e sz 0 [] false)) :: S.O, nx := S.nx + 1 } := by
  rintro B N a w k ⟨g, hs⟩
  have hv := (hs.facts t _ hf).2
  simp only [TF.at_, RV.at_] at hv
  have hlt : t < a.tmps.size := by
    rcases Nat.lt_or_ge t a.tmps.size with h | h
    · exact h
    · rw [Array.getD_eq_getD_getElem?, Array.getElem?_eq_none h] at hv
      simp [undef] at hv
  have h := hs.adopt (dst := some t) (fun d hd => by cases hd; rw [← hs.size]; exact hlt) (o := .ch e sz 0 [] false) (vb := (.slice none 0 0, none)) trivial ⟨by simp, .inl ⟨rfl, .inl ⟨rfl, none, rfl⟩⟩⟩ (fun b hb => by cases hb) (fun i o' b _ hb => by cases hb)
  have e1 : a.put (some t) (.slice none 0 0) = a := by
    simp only [Act.put]
    have : a.tmps.setIfInBounds t (.slice none 0 0) = a.tmps := by
      apply Array.ext
      · simp
      · intro i h1 h2
        by_cases hi : t = i
        · subst hi
          rw [Array.getElem_setIfInBounds_self]
          rw [Array.getD_eq_getD_getElem?, Array.getElem?_eq_getElem hlt] at hv
          exact hv.symm
        · rw [Array.getElem_setIfInBounds_ne _ hi]
    rw [this]
  rw [e1] at h
  exact ⟨k, _, h⟩
/-- A slice of the call's own is written no more. -/
theorem sub_pubch {S : St} {id : Nat} {e : TypeId} {sz n : Nat} {cells : List RV} (ho : oget S.O id = some (.ch e sz n cells false)) : Sub S ⟨S.F, (id, some (.ch e sz n cells true)) :: S.O, S.nx⟩ := by
  rintro B N a w k ⟨g, hs⟩
  obtain ⟨q1, q2, q3, q4⟩ := hs.owns id _ ho
  simp only [Ow.at_] at q3
  let k1 : Kp := match (g id).2 with
    | some b => kset k b (n * sz)
    | none => k
  have hw : Wrote w k w k1 (g id).2 := by
    refine ⟨rfl, rfl, rfl, Nat.le_refl _, fun b hb hne => ⟨rfl, ?_⟩, fun b hb => ?_⟩
    · simp only [k1]
      cases hob : (g id).2 with
      | none => rfl
      | some b' => simp only [kset]; rw [if_neg (fun h => hne (by rw [hob, h]))]
    · have hkb := (q3.blk hb.symm).1
      simp only [Bool.false_eq_true, if_false] at hkb
      exact ⟨by omega, fun _ _ => rfl, fun h => by omega⟩
  have hle := hw.le
  have h2 : chAt w k1 e sz n cells true (g id).1 (g id).2 := by
    refine ⟨q3.1, ?_⟩
    rcases q3.2 with ⟨h, h' | ⟨_, h', _⟩⟩ | ⟨b, cap, cur, h1, h2, h3, h4, h5, h6, h7, h8⟩
    · exact .inl ⟨h, .inl h'⟩
    · cases h'
    · refine .inr ⟨b, cap, cur, h1, h2, h3, h4, h5, h6, ?_, RV.list_mono hle _ _ h8⟩
      simp only [k1, h1, kset_new, if_true]
  have h1 := hs.wrote hw (id := some id) ⟨⟨_, ho⟩, rfl⟩
  have up : ∀ i o', oget ((id, some (Ow.ch e sz n cells true)) :: S.O) i = some o' → (i = id ∧ o' = .ch e sz n cells true) ∨ (id ≠ i ∧ oget (S.strike (some id)).O i = some o') := fun i o' h => by
    rcases oget_cons h with ⟨rfl, e'⟩ | ⟨hne, h⟩
    · cases e'; exact .inl ⟨rfl, rfl⟩
    · refine .inr ⟨hne, ?_⟩
      simp only [St.strike, St.set, oget]
      split
      · rename_i hb; exact absurd (Nat.eq_of_beq_eq_true hb) hne
      · exact h
  refine ⟨k1, g, h1.size, h1.defers, h1.keep, h1.kk, h1.facts, fun i o' h => ?_, fun i j o1 o2 b' hi hj hne hbi => ?_⟩
  · rcases up i o' h with ⟨rfl, rfl⟩ | ⟨hne, h⟩
    · exact ⟨q1, trivial, h2, q4⟩
    · exact h1.owns i o' h
  · have old : ∀ x ox, oget ((id, some (Ow.ch e sz n cells true)) :: S.O) x = some ox → ∃ ox', oget S.O x = some ox' := fun x ox hx => by
      rcases oget_cons hx with ⟨rfl, _⟩ | ⟨_, hx⟩
      · exact ⟨_, ho⟩
      · exact ⟨ox, hx⟩
    obtain ⟨p1, hp1⟩ := old i o1 hi
    obtain ⟨p2, hp2⟩ := old j o2 hj
    exact hs.apart i j p1 p2 b' hp1 hp2 hne hbi
theorem cvChIF {ρ : List (Nat × Nat)} {S : St} {e : TypeId} {l m : List Int} (h : l = m) : cvOw ρ S (.ch e 1 l.length (l.map I) false) (.ch e 1 m.length (m.map I) false) := by
  subst h; exact ⟨rfl, rfl, rfl, rfl, Cvs.refl _⟩
theorem chIF_eq {e : TypeId} {l m : List Int} (h : l = m) : some (Ow.ch e 1 l.length (l.map I) false) = some (Ow.ch e 1 m.length (m.map I) false) := by rw [h]

theorem g_copathO (x n : Int) : Gives Tryz.prog 57 [I x, I n] (.own 3 1 (copathI x n).length ((copathI x n).map I)) := by
  refine gives_of_vcg (T := Tab) mixed Tab_ok Tryz.func57 rfl (by kernel_rfl) ?_
  obtain ⟨C, hC⟩ : ∃ C, C = copathI x n := ⟨_, rfl⟩
  obtain ⟨P, hP⟩ : ∃ P, P = pathI x n := ⟨_, rfl⟩
  have hlen : C.length = P.length := by rw [hC, hP]; exact copathI_len x n
  have hpl : P.length ≤ 17 := hP ▸ pathI_len x n
  rw [← hC]
  refine Vcall.go (g_path x n) ?_
  refine Vloop.mk' (fun i : Nat × Int × Nat => { F := [(0, .r (I i.2.1)), (1, .r (I n)), (5, .own 0), (10, .r (is P)), (11, .r (I P.length)), (12, .r (I i.1))], O := [(0, some (.ch 3 1 (C.take i.1).length ((C.take i.1).map I) false))], nx := 1 })
    (fun i => i.1 ≤ P.length ∧ P.drop i.1 = pathF n i.2.2 i.2.1 ∧ C.drop i.1 = copathF n i.2.2 i.2.1) (fun i => P.length - i.1) (0, x, 17) ⟨by simp, by simp [hP, pathI], by simp [hC, copathI]⟩
    ((sub_adoptF 5 3 1 rfl).trans (sub_of [(0, 1)] rfl ⟨Cv.refl _, Cv.refl _, rfl, Cv.of_eq (by subst hP; rfl), Cv.of_eq (by subst hP; rfl), Cv.refl _, trivial⟩ ⟨⟨rfl, rfl, rfl, rfl, Cvs.refl _⟩, trivial⟩)) ?_
  rintro ⟨j, y, k⟩ ⟨hj, hp, hc⟩
  simp only at hj hp hc
  have hcl : (C.take j).length ≤ 17 := by rw [List.length_take]; omega
  refine Vcmp.split (fun h => Vif.t ?_) (fun h => Vif.f ?_)
  · simp only [beq_iff_eq, bne_iff_ne, beq_eq_false_iff_ne, bne_eq_false_iff_eq, decide_eq_true_eq, decide_eq_false_iff_not, Bool.not_eq_true', Bool.not_eq_false', ne_eq] at h
    have hj' : j < P.length := by omega
    obtain ⟨k', rfl, e1, e2, e3, _⟩ := copath_step hp hj'
    rw [copathF, if_neg (by omega), List.drop_eq_getElem_cons (by omega)] at hc
    have hc1 := (List.cons.inj hc).1
    have hc2 := (List.cons.inj hc).2
    have hsn : C.take (j + 1) = C.take j ++ [sibI y n] := by rw [List.take_add_one, List.getElem?_eq_getElem (by omega), hc1]; rfl
    refine Vidx.mk' (by omega) (by omega) (idx_map rfl hj') (Vload1.mk' rfl ?_)
    refine Vcall.go (g_sibling y n) ?_
    refine Vpub.pub ?_
    refine Vapp.mk' (j := (C.take (j + 1)).length) (zs := (C.take (j + 1)).map I) (by simp only [maxLen]; omega) (by simp; omega) (by rw [hsn]; simp) (by rw [hsn]; simp [fillR, cellsOf]) ?_
    refine Vint.i64 (m := ((j + 1 : Nat) : Int)) (by omega) (by omega) ?_
    exact ⟨(j + 1, parI y n, k'), ⟨hj', e3, hc2⟩, by simp only; omega, sub_of [(0, _)] rfl ⟨Cv.of_eq (by rw [e1]), Cv.refl _, rfl, Cv.refl _, Cv.refl _, Cv.refl _, trivial⟩ ⟨cvChIF rfl, trivial⟩⟩
  · simp only [beq_iff_eq, bne_iff_ne, beq_eq_false_iff_ne, bne_eq_false_iff_eq, decide_eq_true_eq, decide_eq_false_iff_not, Bool.not_eq_true', Bool.not_eq_false', ne_eq] at h
    exact chIF_eq (List.take_of_length_le (by omega))

theorem g_opened1 (s : Lean_) (c : Int) (b : Bool) : Gives Tryz.prog 102 [I c, .ptr (lookC s), .ptr [.b b]] (.r (.b (!((findS s.opn c).isSome == b)))) := by
  refine gives_of_vcg (T := Tab) mixed Tab_ok Tryz.func102 rfl (by kernel_rfl) ?_
  refine Vload1.mk' rfl ?_
  refine Vstep.node2 rfl rfl rfl (fun m hm => ?_) (fun hm => ?_)
  · refine Vload1.mk' rfl ?_
    exact Vcmp.mk' rfl (Cv.of_eq (by rw [hm]; rfl))
  · refine Vload1.mk' rfl ?_
    exact Vcmp.mk' rfl (Cv.of_eq (by rw [hm]; rfl))

theorem Vadr.mk'' {i : Int} {n : Nat} {K : Nat → Prop} (j : Nat) (h : i = (j : Int)) (hj : j < n) (hK : K j) : Vadr i n K := by
  subst h
  exact ⟨by omega, by omega, by rw [Int.toNat_natCast]; exact hK⟩
theorem set_take {L : List Int} {i : Nat} {v : Int} (hi : i < L.length) : (L.set i v).take (i + 1) = L.take i ++ [v] := by
  rw [List.take_add_one, List.getElem?_set_self hi, List.take_set_of_le (Nat.le_refl _)]; rfl
theorem set_drop {L : List Int} {i j : Nat} {v : Int} (h : i < j) : (L.set i v).drop j = L.drop j := by
  rw [List.drop_set_of_lt h]
theorem idxF_spec (q : Int → Bool) : ∀ (l : List Int) (j : Nat), (idxF q j l = -1 ∧ l.filter (fun x => !q x) = l) ∨ ∃ i : Nat, i < l.length ∧ idxF q j l = ((j + i : Nat) : Int) ∧ (l.take i).filter (fun x => !q x) = l.take i ∧ ∀ h : i < l.length, q l[i] = true
  | [], j => .inl ⟨rfl, rfl⟩
  | x :: r, j => by
    rw [idxF]
    by_cases hq : q x = true
    · rw [if_pos hq]
      exact .inr ⟨0, by simp, by simp, by simp, fun _ => hq⟩
    · rw [if_neg hq]
      have hx : (!q x) = true := by simpa using hq
      rcases idxF_spec q r (j + 1) with ⟨h1, h2⟩ | ⟨i, h1, h2, h3, h4⟩
      · exact .inl ⟨h1, by rw [List.filter_cons, if_pos hx, h2]⟩
      · refine .inr ⟨i + 1, by simpa using h1, by rw [h2]; omega, by rw [List.take_succ_cons, List.filter_cons, if_pos hx, h3], fun h => by simpa using h4 h1⟩
theorem g_deletefunc (l : List Int) (D : Int → Prop) (q : Int → Bool) (hl : l.length ≤ 1000000000) (hD : ∀ x ∈ l, D x) :
    Takes Tryz.prog 101 3 1 l.length (l.map I) [.s (cloS Tryz.prog I D q)] (l.filter fun x => !q x).length ((l.filter fun x => !q x).map I) := by
  refine takes_of_vcg (T := Tab) (rt := 4) mixed Tab_ok Tryz.func101 rfl (by kernel_rfl) rfl ?_
  refine Vstep.peek rfl rfl rfl rfl rfl (fun _ _ _ _ _ h => by simpa [RV.at_] using h) (g_indexfunc l D q hl hD) ?_
  rcases idxF_spec q l 0 with ⟨h1, h2⟩ | ⟨i0, h1, h2, h3, h4⟩
  · refine Vcmp.t (by rw [h1]; rfl) (Vif.t ?_)
    refine ⟨.inl rfl, _, rfl, ?_⟩
    rw [h2]
    rfl
  rw [Nat.zero_add] at h2
  rw [h2]
  refine Vcmp.f (by simp only [beq_iff_eq, bne_iff_ne, beq_eq_false_iff_ne, bne_eq_false_iff_eq, decide_eq_true_eq, decide_eq_false_iff_not, Bool.not_eq_true', Bool.not_eq_false', ne_eq]; omega) (Vif.f ?_)
  refine Vint.i64 (m := ((i0 + 1 : Nat) : Int)) (by omega) (by omega) ?_
  have hq0 := h4 h1
  refine Vloop.mk' (fun p : Nat × Nat × List Int => { F := [(0, .own 0), (1, .r (.s (cloS Tryz.prog I D q))), (5, .r (I p.1)), (6, .r (I p.2.1))], O := [(0, some (.ch 3 1 l.length (p.2.2.map I) false))], nx := 1 })
    (fun p => p.1 < p.2.1 ∧ p.2.1 ≤ l.length ∧ p.2.2.length = l.length ∧ p.2.2.take p.1 = (l.take p.2.1).filter (fun x => !q x) ∧ p.2.2.drop p.2.1 = l.drop p.2.1) (fun p => l.length - p.2.1) (i0, i0 + 1, l)
    ⟨by simp, h1, rfl, by
      simp only
      rw [List.take_add_one, List.getElem?_eq_getElem h1, List.filter_append, h3]
      simp [hq0], rfl⟩
    (sub_of [(0, 0)] rfl ⟨rfl, Cv.refl _, Cv.refl _, Cv.refl _, trivial⟩ ⟨⟨rfl, rfl, rfl, rfl, Cvs.refl _⟩, trivial⟩) ?_
  rintro ⟨i, j, L⟩ ⟨hij, hjn, hL, ht, hd⟩
  simp only at hij hjn hL ht hd
  refine Vcmp.split (fun h => Vif.t ?_) (fun h => Vif.f ?_)
  · simp only [beq_iff_eq, bne_iff_ne, beq_eq_false_iff_ne, bne_eq_false_iff_eq, decide_eq_true_eq, decide_eq_false_iff_not, Bool.not_eq_true', Bool.not_eq_false', ne_eq] at h
    have hj' : j < l.length := by omega
    have hLj : L[j]'(by omega) = l[j] := by
      rw [List.drop_eq_getElem_cons (by omega), List.drop_eq_getElem_cons hj'] at hd
      exact (List.cons.inj hd).1
    have hd1 : L.drop (j + 1) = l.drop (j + 1) := by
      rw [List.drop_eq_getElem_cons (by omega), List.drop_eq_getElem_cons hj'] at hd
      exact (List.cons.inj hd).2
    refine Vadr.mk'' j rfl (by omega) ?_
    refine Vload1.mk' (f := I l[j]) (by rw [Nat.mul_one, List.getElem?_map, List.getElem?_eq_getElem (show j < L.length by omega), hLj]; rfl) ?_
    have hts : (l.take (j + 1)).filter (fun x => !q x) = if q l[j] then (l.take j).filter (fun x => !q x) else (l.take j).filter (fun x => !q x) ++ [l[j]] := by
      rw [List.take_add_one, List.getElem?_eq_getElem hj', List.filter_append]
      cases hq : q l[j] <;> simp [hq]
    refine Vstep.cloB l[j] rfl rfl rfl rfl (Cv.refl _) (hD _ (List.getElem_mem hj')) (fun hq => ?_) (fun hq => ?_)
    · refine Vcmp.f rfl (Vif.f ?_)
      refine Vint.i64 (m := ((j + 1 : Nat) : Int)) (by dsimp only; omega) (by dsimp only; omega) ?_
      rw [if_pos hq] at hts
      exact ⟨(i, j + 1, L), ⟨by simp only; omega, hj', hL, by rw [hts]; exact ht, hd1⟩, by simp only; omega, sub_of [(0, 0)] rfl ⟨rfl, Cv.refl _, Cv.refl _, Cv.refl _, trivial⟩ ⟨⟨rfl, rfl, rfl, rfl, Cvs.refl _⟩, trivial⟩⟩
    · refine Vcmp.t rfl (Vif.t ?_)
      rw [if_neg (by simp [hq])] at hts
      refine Vadr.mk'' i rfl (by omega) ?_
      refine ⟨by simp; omega, (L.set i l[j]).map I, ?_, ?_⟩
      · rw [List.map_set]
        simp only [fillR, cellsOf, Nat.mul_one, List.length_singleton]
        rw [List.set_eq_take_append_cons_drop, if_pos (by simp; omega)]
        simp
      refine Vint.i64 (m := ((i + 1 : Nat) : Int)) (by omega) (by omega) ?_
      refine Vint.i64 (m := ((j + 1 : Nat) : Int)) (by dsimp only; omega) (by dsimp only; omega) ?_
      exact ⟨(i + 1, j + 1, L.set i l[j]), ⟨by simp only; omega, hj', by simp only [List.length_set]; exact hL, by simp only; rw [set_take (by omega), ht, hts], by simp only; rw [set_drop (by omega)]; exact hd1⟩, by simp only; omega, sub_of [(0, 0)] rfl ⟨rfl, Cv.refl _, Cv.refl _, Cv.refl _, trivial⟩ ⟨⟨rfl, rfl, rfl, rfl, Cvs.refl _⟩, trivial⟩⟩
  · simp only [beq_iff_eq, bne_iff_ne, beq_eq_false_iff_ne, bne_eq_false_iff_eq, decide_eq_true_eq, decide_eq_false_iff_not, Bool.not_eq_true', Bool.not_eq_false', ne_eq] at h
    rw [show l.take j = l from List.take_of_length_le (by omega)] at ht
    refine code_clear (n := l.length) (i := i) Tab_ok rfl ⟨rfl, rfl, rfl⟩ ⟨rfl, rfl, rfl⟩ ⟨rfl, rfl, rfl⟩ ⟨rfl, rfl, rfl⟩ rfl rfl rfl rfl rfl (by decide) rfl rfl rfl (by omega) ?_
    refine Vstep.head (i := i) Tab_ok rfl rfl rfl rfl rfl rfl rfl rfl (by omega) ?_
    refine ⟨.inl rfl, _, rfl, ?_⟩
    have hlen : (l.filter fun x => !q x).length = i := by rw [← ht, List.length_take]; omega
    rw [hlen, ← ht]
    refine congrArg some ?_
    have : (((L.map I).take i ++ List.replicate (l.length - i) (RV.i .i64 0)).take (i * 1)) = (L.take i).map I := by
      rw [Nat.mul_one, List.take_append_of_le_length (by simp; omega), List.take_take, Nat.min_self, List.map_take]
    rw [← this]

theorem g_opened (s : Lean_) (hs : s.fitN) (hl : s.lookOk = true) (ho : 0 ≤ s.own ∧ s.own ≤ 1000000) (b : Bool) : Gives Tryz.prog 60 [.ag s.c, .b b] (.r (is (openedF s b))) := by
  refine gives_of_vcgx (T := Tab) mixed Tab_ok Tryz.func60 rfl (by kernel_rfl) ?_
  have glook := g_lookof s (by have := hs.1; omega) (by have := hs.2.1; omega)
  simp only [lookR, hl, if_true] at glook
  refine VloadN.mk' rfl rfl ?_
  refine Vcall.go glook ?_
  refine Vint.i64 rfl (by omega) ?_
  refine Vcall.go (g_copathO _ _) ?_
  have hcl : (copathI (2 * s.own) s.leaves).length ≤ 17 := by rw [copathI_len]; exact pathI_len _ _
  refine Vstep.sub (Sub.trans (sub_pub (t := 5) (lookC s) rfl rfl) (sub_pub (t := 3) [.b b] rfl rfl)) (Vstep.mkfun I (fun _ => True) (fun c => !((findS s.opn c).isSome == b)) rfl rfl (fun c _ => g_opened1 s c b) ?_)
  refine Vstep.take rfl rfl rfl rfl rfl (Cvs.refl _) (g_deletefunc _ (fun _ => True) _ (by omega) fun _ _ => trivial) ?_
  refine ⟨_, sub_pubch (id := 4) rfl, ?_⟩
  refine Cv.of_eq ?_
  have : (fun x => !!((findS s.opn x).isSome == b)) = fun c => (findS s.opn c).isSome == b := by funext x; simp
  rw [this]
  rfl
end Go.Proofs.YtpdllgbfemnemaaGreat.Sx
