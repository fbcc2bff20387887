import Derived.Test.YtpdllgbfemnemaaGreatZSxI
import Derived.Test.YtpdllgbfemnemaaGreatZSxN
namespace Go.Proofs.YtpdllgbfemnemaaGreat.Sx
open Go.RowKit

/-! ### A state of lists, out of lookups -/
def stF (F : Nat → Option TF) : List Nat → List (Nat × TF)
  | [] => []
  | t :: r => match F t with
    | some f => (t, f) :: stF F r
    | none => stF F r
def stO (O : Nat → Option Ow) : List Nat → List (Nat × Option Ow)
  | [] => []
  | i :: r => (i, O i) :: stO O r
theorem stF_get {F : Nat → Option TF} : ∀ {ts : List Nat} {t : Nat}, fget (stF F ts) t = if t ∈ ts then F t else none
  | [], t => by simp [stF, fget]
  | u :: r, t => by
    simp only [stF]
    by_cases hu : u = t
    · subst hu
      cases hf : F u with
      | some f => simp [fget]
      | none => simp [stF_get, hf]
    · have hb : Nat.beq u t = false := by
        cases hb : Nat.beq u t
        · rfl
        · exact absurd (Nat.eq_of_beq_eq_true hb) hu
      have hmem : t ∈ u :: r ↔ t ∈ r := by simp [Ne.symm hu]
      cases hf : F u with
      | some f => simp only [fget, hb]; rw [stF_get]; simp only [hmem]
      | none => simp only; rw [stF_get]; simp only [hmem]
theorem stO_get {O : Nat → Option Ow} : ∀ {ts : List Nat} {t : Nat}, oget (stO O ts) t = if t ∈ ts then O t else none
  | [], t => by simp [stO, oget]
  | u :: r, t => by
    simp only [stO]
    by_cases hu : u = t
    · subst hu; simp [oget]
    · have hb : Nat.beq u t = false := by
        cases hb : Nat.beq u t
        · rfl
        · exact absurd (Nat.eq_of_beq_eq_true hb) hu
      have hmem : t ∈ u :: r ↔ t ∈ r := by simp [Ne.symm hu]
      simp only [oget, hb]; rw [stO_get]; simp only [hmem]

section
variable {P : Program} {T : TT} {S S' : St} {t : TypeId} {x y : Operand} {K : St → Prop}
theorem stAt_pick {ti : TI} {v : RV} {id off : Nat} (ho : oget S'.O id = oget S.O id) (h : stAt S ti v K id off) :
    ∃ o', K (S.set id (some o')) ∧ owIds o' ⊆ (match oget S.O id with | some o => owIds o | none => []) ∧ ∀ K' : St → Prop, K' (S'.set id (some o')) → stAt S' ti v K' id off := by
  unfold stAt at h
  unfold stAt
  rw [ho]
  split at h
  · rename_i cells hc
    split at h
    · exact h.elim
    · rw [setK_eq] at h
      refine ⟨_, h, ?_, fun K' hK' => ?_⟩
      · intro i hi
        simp only [owIds, List.flatMap_append, List.mem_append] at hi
        simp only [hc, owIds]
        rcases hi with (hi | hi) | hi
        · obtain ⟨f, hf, hfi⟩ := List.mem_flatMap.1 hi
          exact List.mem_flatMap.2 ⟨f, List.mem_of_mem_take hf, hfi⟩
        · obtain ⟨f, hf, hfi⟩ := List.mem_flatMap.1 hi
          obtain ⟨r, _, rfl⟩ := List.mem_map.1 hf
          simp [idsOf] at hfi
        · obtain ⟨f, hf, hfi⟩ := List.mem_flatMap.1 hi
          exact List.mem_flatMap.2 ⟨f, List.mem_of_mem_drop hf, hfi⟩
      · rw [setK_eq]
        exact hK'
  · rename_i e sz n cells hc
    split at h
    · exact h.elim
    · obtain ⟨hfit, zs, hz, h⟩ := h
      rw [setK_eq] at h
      refine ⟨_, h, by simp [owIds], fun K' hK' => ?_⟩
      exact ⟨hfit, zs, hz, by rw [setK_eq]; exact hK'⟩
  · exact h.elim
theorem stv_pick {f : TF} {v : RV} (ho : ∀ id ∈ idsOf f, oget S'.O id = oget S.O id) (h : stv S T t f v K) :
    ∃ id o', id ∈ idsOf f ∧ K (S.set id (some o')) ∧ owIds o' ⊆ (match oget S.O id with | some o => owIds o | none => []) ∧ ∀ K' : St → Prop, K' (S'.set id (some o')) → stv S' T t f v K' := by
  unfold stv at h
  split at h
  · rename_i ti hti
    split at h
    · rename_i id
      split at h
      · rename_i cells hc
        obtain ⟨o', h1, h2, h3⟩ := stAt_pick (ho id (by simp [idsOf])) h
        refine ⟨id, o', by simp [idsOf], h1, h2, fun K' hK' => ?_⟩
        unfold stv
        simp only [hti]
        rw [ho id (by simp [idsOf]), hc]
        exact h3 K' hK'
      · exact h.elim
    · rename_i id off
      obtain ⟨o', h1, h2, h3⟩ := stAt_pick (ho id (by simp [idsOf])) h
      refine ⟨id, o', by simp [idsOf], h1, h2, fun K' hK' => ?_⟩
      unfold stv
      simp only [hti]
      exact h3 K' hK'
    · exact h.elim
  · exact h.elim
theorem box_ids {cells : List TF} {off i id2 : Nat} (h : i ∈ owIds (.box (cells.take off ++ [.own id2] ++ cells.drop (off + 1)))) : i ∈ owIds (.box cells) ∨ i = id2 := by
  simp only [owIds, List.flatMap_append, List.mem_append] at h
  rcases h with (h | h) | h
  · obtain ⟨f, hf, hfi⟩ := List.mem_flatMap.1 h
    exact .inl (List.mem_flatMap.2 ⟨f, List.mem_of_mem_take hf, hfi⟩)
  · simp [idsOf] at h; exact .inr h
  · obtain ⟨f, hf, hfi⟩ := List.mem_flatMap.1 h
    exact .inl (List.mem_flatMap.2 ⟨f, List.mem_of_mem_drop hf, hfi⟩)
theorem sto_pick (hx : opr S' x = opr S x) (hy : opr S' y = opr S y) (ho : ∀ f, (opr S x = some f ∨ opr S y = some f) → ∀ id ∈ idsOf f, oget S'.O id = oget S.O id) (h : sto T S none t x y K) :
    ∃ id o', stId S x = some id ∧ K (S.set id (some o')) ∧ (∀ i ∈ owIds o', (∃ o, oget S.O id = some o ∧ i ∈ owIds o) ∨ ∃ g, opr S y = some g ∧ i ∈ idsOf g) ∧ ∀ K' : St → Prop, K' (S'.set id (some o')) → sto T S' none t x y K' := by
  unfold sto at h
  unfold sto
  rw [hx, hy]
  split at h
  · rename_i f g' hf hg
    have hof := ho f (.inl hf)
    have hog := ho g' (.inr hg)
    split at h
    · rename_i id2
      have e2 := hog id2 (by simp [idsOf])
      rw [e2]
      split at h
      · rename_i ow2 j off h2
        have ej := hof j (by simp [idsOf])
        rw [ej]
        split at h
        · rename_i cells hc
          split at h
          · exact h.elim
          · split at h
            · rename_i ti hti
              split at h
              · rename_i h1
                rw [setK_eq] at h
                refine ⟨j, _, by simp [stId, hf], h, fun i hi => ?_, fun K' hK' => ?_⟩
                · rcases box_ids hi with hi | rfl
                  · exact .inl ⟨_, hc, hi⟩
                  · exact .inr ⟨_, hg, by simp [idsOf]⟩
                · rw [setK_eq]
                  exact hK'
              · exact h.elim
            · exact h.elim
        · exact h.elim
      · rename_i ow2 j h2
        have ej := hof j (by simp [idsOf])
        rw [ej]
        split at h
        · rename_i cells hc
          split at h
          · exact h.elim
          · split at h
            · rename_i ti hti
              split at h
              · rename_i h1
                rw [setK_eq] at h
                refine ⟨j, _, by simp [stId, hf], h, fun i hi => ?_, fun K' hK' => ?_⟩
                · rcases box_ids (off := 0) hi with hi | rfl
                  · exact .inl ⟨_, hc, hi⟩
                  · exact .inr ⟨_, hg, by simp [idsOf]⟩
                · rw [setK_eq]
                  exact hK'
              · exact h.elim
            · exact h.elim
        · exact h.elim
      · exact h.elim
    · rename_i v
      obtain ⟨id, o', h1, h2, h3, h4⟩ := stv_pick hof h
      rw [newK_eq] at h2
      refine ⟨id, o', ?_, h2, fun i hi => .inl ?_, fun K' hK' => h4 _ (by rw [newK_eq]; exact hK')⟩
      · cases f with
        | r => simp [idsOf] at h1
        | own j => simp [idsOf] at h1; subst h1; simp [stId, hf]
        | adr j off => simp [idsOf] at h1; subst h1; simp [stId, hf]
      · have := h3 hi
        cases hq : oget S.O id with
        | none => simp [hq] at this
        | some o => simp only [hq] at this; exact ⟨o, rfl, this⟩
    · exact h.elim
  · exact h.elim
end

section
variable {P : Program} {T : TT} {B : Bs} {N : Nat} {a : Act} {w : World} {k : Kp} {g : Env} {Q : Exit → Act → World → Prop}
variable {l : List Oper} {S0 : St} {res : RS} {m : Nat} {F : Nat → Option TF} {O : Nat → Option Ow} {D : Nat → Prop}

theorem fget_key : ∀ {L : List (Nat × TF)} {t : Nat} {f : TF}, fget L t = some f → t ∈ L.map (·.1)
  | [], t, f, h => by simp [fget] at h
  | (u, f0) :: r, t, f, h => by
    rcases fget_cons h with ⟨rfl, _⟩ | ⟨_, h⟩
    · simp
    · exact List.mem_cons_of_mem _ (fget_key h)
theorem oget_key : ∀ {L : List (Nat × Option Ow)} {t : Nat} {f : Ow}, oget L t = some f → t ∈ L.map (·.1)
  | [], t, f, h => by simp [oget] at h
  | (u, f0) :: r, t, f, h => by
    rcases oget_cons h with ⟨rfl, _⟩ | ⟨_, h⟩
    · simp
    · exact List.mem_cons_of_mem _ (oget_key h)

/-- A store, at m, that waits for some of the reads alone. -/
structure LateSt (l : List Oper) (ws : List (List Nat)) (S0 : St) (res : RS) (m : Nat) (o : Oper) (t : TypeId) (x y : Operand) : Prop where
  at_ : l[m]? = some o
  op : o.op = .store t x y
  dst : o.dst = none
  grd : o.guard = none
  need : needOk (Ls l S0 res m) o S0.nx (Cs l S0 res m) ((lget ws m).getD []) = true
  rd : ∀ j s, j < m → dstAt l j = some s → s ∈ tmpsOf o → j ∈ (lget ws m).getD []

theorem late_step (hT : TOk P T) {ws : List (List Nat)} (hL : Looks l ws m) {o : Oper} {t : TypeId} {x y : Operand} (hst : LateSt l ws S0 res m o t x y) (h : Mid B N l S0 res m D none a w k g F O) (hni : ¬ D m) (hws : ∀ j ∈ (lget ws m).getD [], D j)
    {K : St → Prop} (hsto : sto T (Ls l S0 res m) none t x y K) :
    ∃ id o', stId (Ls l S0 res m) x = some id ∧ K ((Ls l S0 res m).set id (some o')) ∧ o.wp P a w (fun a' w' => ∃ k' g', Mid B N l S0 res m (fun j => D j ∨ j = m) (some (id, o')) a' w' k' g' F O) Q := by
  have hlex := Lk.lex (S0 := S0) (res := res) hL.le hL.dst m (Nat.le_refl _)
  have hfacts : ∀ s ∈ tmpsOf o, F s = fget (Ls l S0 res m).F s := by
    intro s hs
    by_cases hx : ∃ j, j < m ∧ dstAt l j = some s
    · obtain ⟨j, hj, hjt⟩ := hx
      rw [h.lk.hit j s (hws j (hst.rd j s hj hjt hs)) hj hjt, hlex.hit j s hj hj hjt]
    · rw [hlex.miss s fun j hj _ hjt => hx ⟨j, hj, hjt⟩, h.lk.miss s fun j _ hjm hjt => hx ⟨j, hjm, hjt⟩]
  have hknown : ∀ id ∈ idsAll (Ls l S0 res m) o, Kn l S0 res m D id := by
    intro id hid
    have := (allB_all.1 hst.need) id hid
    split at this
    · rename_i hb
      exact .inl (Nat.le_of_ble_eq_true hb)
    · split at this
      · rename_i j hj
        obtain ⟨h1, h2, h3⟩ := Cs_mem (rlook_mem' hj)
        exact .inr ⟨j, hws j (memB_mem.1 this), h1, h2, h3⟩
      · cases this
  have howns : ∀ id ∈ idsAll (Ls l S0 res m) o, O id = oget (Ls l S0 res m).O id := by
    intro id hid
    rcases hknown id hid with hlt | ⟨j, hj, hjm, hjs, rfl⟩
    · have old : ∀ j o, (res j).2 = some o → j < m → idAt l S0 res j ≠ id := fun j o ho hjm e => by
        have := nx_mono (l := l) (S0 := S0) (res := res) (Nat.zero_le j) (by have := hL.le; omega)
        simp only [idAt, Ls] at this e
        omega
      rw [h.lk.omiss id fun j o _ hjm ho => old j o ho hjm, hlex.omiss id fun j o _ hjm ho => old j o ho hjm]
    · obtain ⟨oj, hoj⟩ := Option.isSome_iff_exists.1 hjs
      rw [h.lk.ohit j oj hj hjm hoj, hlex.ohit j oj hjm hjm hoj]
  have hkeyF : ∀ s f, F s = some f → s ∈ (Ls l S0 res m).F.map (·.1) := by
    intro s f hs
    by_cases hx : ∃ j, j < m ∧ dstAt l j = some s
    · obtain ⟨j, hj, hjt⟩ := hx
      exact fget_key (hlex.hit j s hj hj hjt)
    · rw [h.lk.miss s fun j _ hjm hjt => hx ⟨j, hjm, hjt⟩] at hs
      exact fget_key ((hlex.miss s fun j hj _ hjt => hx ⟨j, hj, hjt⟩).trans hs)
  have hkeyO : ∀ i q, O i = some q → i ∈ (Ls l S0 res m).O.map (·.1) := by
    intro i q hi
    by_cases hx : ∃ j q', j < m ∧ (res j).2 = some q' ∧ idAt l S0 res j = i
    · obtain ⟨j, q', hj, hr, rfl⟩ := hx
      exact oget_key (hlex.ohit j q' hj hj hr)
    · rw [h.lk.omiss i fun j q' _ hjm hr he => hx ⟨j, q', hjm, hr, he⟩] at hi
      exact oget_key ((hlex.omiss i fun j q' hj _ hr he => hx ⟨j, q', hj, hr, he⟩).trans hi)
  obtain ⟨S', hS'⟩ : ∃ S' : St, S' = { F := stF F ((Ls l S0 res m).F.map (·.1)), O := stO O ((Ls l S0 res m).O.map (·.1)), nx := idAt l S0 res m } := ⟨_, rfl⟩
  have eF : fget S'.F = F := by
    funext s
    rw [hS', stF_get]
    split
    · rfl
    · rename_i hn
      cases hs : F s with
      | none => rfl
      | some f => exact absurd (hkeyF s f hs) hn
  have eO : oget S'.O = O := by
    funext s
    rw [hS', stO_get]
    split
    · rfl
    · rename_i hn
      cases hs : O s with
      | none => rfl
      | some f => exact absurd (hkeyO s f hs) hn
  have enx : S'.nx = idAt l S0 res m := by rw [hS']
  have hsat : SatE B N S' a w k g := SatF.toE (by rw [eF, eO, enx]; exact h.sat)
  have hmem : ∀ z, z = x ∨ z = y → z ∈ o.op.operands.toList := by
    intro z hz
    rw [hst.op]
    rcases hz with rfl | rfl <;> simp [Op.operands]
  have hopr : ∀ z, z ∈ o.op.operands.toList → opr S' z = opr (Ls l S0 res m) z := by
    intro z hz
    cases z with
    | tmp s => simp only [opr]; rw [eF]; exact hfacts s (List.mem_filterMap.2 ⟨.tmp s, hz, rfl⟩)
    | _ => rfl
  have hids : ∀ z ∈ o.op.operands.toList, ∀ f, opr (Ls l S0 res m) z = some f → ∀ id ∈ idsOf f, id ∈ idsAll (Ls l S0 res m) o := fun z hz f hf id hid => List.mem_append_left _ (mem_ids1 hz hf hid)
  have hmx := hmem x (.inl rfl)
  have hmy := hmem y (.inr rfl)
  obtain ⟨id, o', h1, h2, h3, h4⟩ := sto_pick (S' := S') (hopr x hmx) (hopr y hmy) (fun f hf id hid => by
    rw [eO]
    rcases hf with hf | hf
    · exact howns id (hids x hmx f hf id hid)
    · exact howns id (hids y hmy f hf id hid)) hsto
  have hidx : id ∈ idsAll (Ls l S0 res m) o := by
    unfold stId at h1
    split at h1
    · rename_i j hj; cases h1; exact hids x hmx _ hj _ (by simp [idsOf])
    · rename_i j off hj; cases h1; exact hids x hmx _ hj _ (by simp [idsOf])
    · cases h1
  refine ⟨id, o', h1, h2, ?_⟩
  have hw := sto_sound (Q := Q) hT hsat hst.op (K := fun S'' => S'' = S'.set id (some o')) (h := by rw [hst.dst]; exact h4 _ rfl)
  refine Oper.wp_mono ?_ hw
  rintro a' w' ⟨S'', k', rfl, g', hs'⟩
  refine ⟨k', g', ?_, h.lk.congr fun j hj => ⟨.inl, fun hh => hh.elim (fun q => q) fun e => by omega⟩, fun s f hf i hi => (h.kF s f hf i hi).mono fun j hj => .inl hj, fun i q hq j hj => (h.kO i q hq j hj).mono fun j hj => .inl hj, fun i q e => ?_, fun i hi hd => ?_⟩
  · have hh := hs'.toF (Nat.le_refl _)
    have e1 : fget (S'.set id (some o')).F = F := eF
    have e2 : oget (S'.set id (some o')).O = ovr (some (id, o')) O := by
      funext j
      simp only [St.set, ovr, updO, oget]
      by_cases hj : j = id
      · subst hj; simp
      · have hb : Nat.beq id j = false := by
          cases hb : Nat.beq id j
          · rfl
          · exact absurd (Nat.eq_of_beq_eq_true hb).symm hj
        rw [hb, if_neg hj, eO]
    have e3 : (S'.set id (some o')).nx = idAt l S0 res m := enx
    rw [e1, e2, e3] at hh
    exact hh
  · cases e
    refine ⟨(hknown id hidx).mono fun j hj => .inl hj, fun i hi => ?_⟩
    refine Kn.mono (fun j hj => .inl hj) ?_
    rcases h3 i hi with ⟨q, hq, hiq⟩ | ⟨f, hf, hif⟩
    · exact h.kO id q ((howns id hidx).trans hq) i hiq
    · exact hknown i (hids y hmy f hf i hif)
  · rcases hd with hd | rfl
    · have := (h.below i hi hd).2; simp at this
    · exact ⟨rfl, rfl⟩
end

end Go.Proofs.YtpdllgbfemnemaaGreat.Sx
