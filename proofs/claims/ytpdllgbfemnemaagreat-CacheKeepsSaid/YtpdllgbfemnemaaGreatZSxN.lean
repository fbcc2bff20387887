import Derived.Test.YtpdllgbfemnemaaGreatZSxM
namespace Go.Proofs.YtpdllgbfemnemaaGreat.Sx
open Go.RowKit

section
variable {P : Program} {T : TT} {B : Bs} {N : Nat} {a : Act} {w : World} {k : Kp} {g : Env} {Q : Exit → Act → World → Prop}
variable {l : List Oper} {S0 : St} {res : RS} {m : Nat} {F : Nat → Option TF} {O : Nat → Option Ow}

/-! ### What an operation looks at, as a state of its own -/
def footF (S : St) : List Nat → List (Nat × TF)
  | [] => []
  | t :: r => match fget S.F t with
    | some f => (t, f) :: footF S r
    | none => footF S r
def footO (S : St) : List Nat → List (Nat × Option Ow)
  | [] => []
  | i :: r => (i, oget S.O i) :: footO S r
theorem footF_get {S : St} : ∀ {ts : List Nat} {t : Nat}, fget (footF S ts) t = if t ∈ ts then fget S.F t else none
  | [], t => by simp [footF, fget]
  | u :: r, t => by
    simp only [footF]
    by_cases hu : u = t
    · subst hu
      cases hf : fget S.F u with
      | some f => simp [fget]
      | none => simp [footF_get, hf]
    · have hb : Nat.beq u t = false := by
        cases hb : Nat.beq u t
        · rfl
        · exact absurd (Nat.eq_of_beq_eq_true hb) hu
      have hmem : t ∈ u :: r ↔ t ∈ r := by simp [Ne.symm hu]
      cases hf : fget S.F u with
      | some f => simp only [fget, hb]; rw [footF_get]; simp only [hmem]
      | none => simp only; rw [footF_get]; simp only [hmem]
theorem footO_get {S : St} : ∀ {ts : List Nat} {t : Nat}, oget (footO S ts) t = if t ∈ ts then oget S.O t else none
  | [], t => by simp [footO, oget]
  | u :: r, t => by
    simp only [footO]
    by_cases hu : u = t
    · subst hu; simp [oget]
    · have hb : Nat.beq u t = false := by
        cases hb : Nat.beq u t
        · rfl
        · exact absurd (Nat.eq_of_beq_eq_true hb) hu
      have hmem : t ∈ u :: r ↔ t ∈ r := by simp [Ne.symm hu]
      simp only [oget, hb]; rw [footO_get]; simp only [hmem]

def isCh (S : St) (id : Nat) : Bool := match oget S.O id with
  | some (.ch ..) => true
  | _ => false
def footIds (S : St) (o : Oper) : List Nat := ids1 S o ++ (ids2 S (ids1 S o)).filter (isCh S)
def foot (S : St) (o : Oper) : St := { F := footF S (tmpsOf o), O := footO S (footIds S o), nx := S.nx }

theorem foot_agree (S : St) (o : Oper) : Agree S (foot S o) o := by
  refine ⟨rfl, fun x hx => ?_, fun id hid => ?_, fun id hid e sz n cells => ?_⟩
  · cases x with
    | tmp t =>
      have : t ∈ tmpsOf o := List.mem_filterMap.2 ⟨.tmp t, hx, rfl⟩
      simp only [opr, foot, footF_get, if_pos this]
    | _ => rfl
  · simp only [foot, footO_get]
    rw [if_pos (show id ∈ footIds S o from List.mem_append_left _ hid)]
  · simp only [foot, footO_get]
    by_cases hm : id ∈ footIds S o
    · rw [if_pos hm]
    · rw [if_neg hm]
      constructor
      · intro h
        exact absurd (List.mem_append_right _ (List.mem_filter.2 ⟨hid, by simp [isCh, h]⟩)) hm
      · intro h; cases h

/-- An owner that is known: it was there, or something carried out has made it. -/
def Kn (l : List Oper) (S0 : St) (res : RS) (m : Nat) (D : Nat → Prop) (id : Nat) : Prop := id < S0.nx ∨ ∃ j, D j ∧ j < m ∧ (res j).2.isSome = true ∧ idAt l S0 res j = id

/-- One owner as it is behind a store that came early. -/
def ovr (xo : Option (Nat × Ow)) (O : Nat → Option Ow) : Nat → Option Ow :=
  match xo with
  | none => O
  | some (x, o) => updO O x o
theorem ovr_ne {xo : Option (Nat × Ow)} {O : Nat → Option Ow} {id : Nat} (h : ∀ x o, xo = some (x, o) → x ≠ id) : ovr xo O id = O id := by
  cases xo with
  | none => rfl
  | some q => simp only [ovr, updO]; rw [if_neg fun e => h q.1 q.2 rfl e.symm]
theorem ovr_upd {xo : Option (Nat × Ow)} {O : Nat → Option Ow} {id : Nat} {ow : Ow} (h : ∀ x o, xo = some (x, o) → x ≠ id) : ovr xo (updO O id ow) = updO (ovr xo O) id ow := by
  cases xo with
  | none => rfl
  | some q =>
    funext j
    simp only [ovr, updO]
    have := h q.1 q.2 rfl
    by_cases h1 : j = q.1
    · rw [if_pos h1, if_neg (fun e => this (h1.symm.trans e)), if_pos h1]
    · by_cases h2 : j = id
      · rw [if_neg h1, if_pos h2, if_pos h2]
      · rw [if_neg h1, if_neg h2, if_neg h2, if_neg h1]

/-- What holds in the midst. -/
structure Mid (B : Bs) (N : Nat) (l : List Oper) (S0 : St) (res : RS) (m : Nat) (D : Nat → Prop) (xo : Option (Nat × Ow)) (a : Act) (w : World) (k : Kp) (g : Env) (F : Nat → Option TF) (O : Nat → Option Ow) : Prop where
  sat : SatF B N F (ovr xo O) (idAt l S0 res m) a w k g
  lk : Lk l S0 res m D F O
  kF : ∀ t f, F t = some f → ∀ id ∈ idsOf f, Kn l S0 res m D id
  kO : ∀ i o, O i = some o → ∀ id ∈ owIds o, Kn l S0 res m D id
  kx : ∀ x o, xo = some (x, o) → Kn l S0 res m D x ∧ ∀ id ∈ owIds o, Kn l S0 res m D id
  below : ∀ i, m ≤ i → D i → i = m ∧ xo.isSome = true
theorem Mid.kOv {D : Nat → Prop} {xo : Option (Nat × Ow)} (h : Mid B N l S0 res m D xo a w k g F O) : ∀ i o, ovr xo O i = some o → ∀ id ∈ owIds o, Kn l S0 res m D id := by
  intro i o hi id hid
  cases xo with
  | none => exact h.kO i o hi id hid
  | some q =>
    simp only [ovr, updO] at hi
    split at hi
    · cases hi; exact (h.kx q.1 q.2 rfl).2 id hid
    · exact h.kO i o hi id hid
end

theorem Cs_mem {l : List Oper} {S0 : St} {res : RS} : ∀ {i : Nat} {id j : Nat}, (id, j) ∈ Cs l S0 res i → j < i ∧ (res j).2.isSome = true ∧ idAt l S0 res j = id
  | 0, id, j, h => by simp [Cs] at h
  | i + 1, id, j, h => by
    simp only [Cs, crNext] at h
    split at h
    · rename_i o ho
      rcases List.mem_cons.1 h with e | h
      · cases e; exact ⟨by omega, by simp [ho], rfl⟩
      · have := Cs_mem h; exact ⟨by omega, this.2⟩
    · have := Cs_mem h; exact ⟨by omega, this.2⟩
theorem rlook_mem' : ∀ {ρ : List (Nat × Nat)} {i j : Nat}, rlook ρ i = some j → (i, j) ∈ ρ
  | [], i, j, h => by simp [rlook] at h
  | (u, f) :: r, i, j, h => by
    simp only [rlook] at h
    split at h
    · rename_i hb; cases h; rw [← Nat.eq_of_beq_eq_true hb]; simp
    · exact List.mem_cons_of_mem _ (rlook_mem' h)

section
variable {P : Program} {T : TT} {B : Bs} {N : Nat} {a : Act} {w : World} {k : Kp} {g : Env} {Q : Exit → Act → World → Prop}
variable {l : List Oper} {S0 : St} {res : RS} {m : Nat} {F : Nat → Option TF} {O : Nat → Option Ow} {D : Nat → Prop}

/-- What the looks in the text's order say. -/
structure Looks (l : List Oper) (ws : List (List Nat)) (m : Nat) : Prop where
  le : m ≤ l.length
  edge : ∀ i o, l[i]? = some o → ∀ e ∈ edgesOf o, e < i
  back : ∀ i, m < i → i < l.length → ∀ j, j < i → j ∈ (lget ws i).getD []
  late : ∀ o, l[m]? = some o → (∀ j, j < m → j ∈ (lget ws m).getD []) ∨ ∃ t x y, o.op = .store t x y ∧ o.dst = none ∧ o.guard = none ∧ ∀ j s, j < m → dstAt l j = some s → s ∈ tmpsOf o → j ∈ (lget ws m).getD []
  dst : ∀ i j t, i < m → j < i → dstAt l j = some t → dstAt l i ≠ some t
  grd : ∀ i o j want, i < m → l[i]? = some o → o.guard = some (j, want) → j ∈ (lget ws i).getD [] ∧ j < i
  rd : ∀ i j o t, i < m → j < i → l[i]? = some o → dstAt l j = some t → t ∈ tmpsOf o → j ∈ (lget ws i).getD []
  wr : ∀ i j p t, i < m → j < i → l[j]? = some p → dstAt l i = some t → t ∈ tmpsOf p → j ∈ (lget ws i).getD []

theorem Kn.mono {D D' : Nat → Prop} (h : ∀ j, D j → D' j) {id : Nat} (hk : Kn l S0 res m D id) : Kn l S0 res m D' id := hk.imp (fun x => x) fun ⟨j, h1, h2⟩ => ⟨j, h j h1, h2⟩

theorem mid_step (hm : P.follows .mixedOrders = true) (hT : TOk P T) (hN : ∀ o ∈ l, ∀ d, o.dst = some d → d < N) {ws : List (List Nat)} (hL : Looks l ws m) (hstp : ∀ j, j < m → Stp P T l ws S0 res j)
    (h0 : ∀ id o, oget S0.O id = some o → id < S0.nx) {xo : Option (Nat × Ow)} (h : Mid B N l S0 res m D xo a w k g F O) {i : Nat} (hxo : ∀ x o' o, xo = some (x, o') → l[i]? = some o → x ∉ idsAll (Ls l S0 res i) o) (him : i < m) (hni : ¬ D i) (hws : ∀ j ∈ (lget ws i).getD [], D j) (hcl : ∀ j, D j → ∀ x ∈ (lget ws j).getD [], D x)
    {K : Act → World → Prop} (hK : ∀ a' w' k' g' F' O', Mid B N l S0 res m (fun j => D j ∨ j = i) xo a' w' k' g' F' O' → K a' w') :
    wpOp P l.toArray Q i K a w := by
  have hil : i < l.length := Nat.lt_of_lt_of_le him hL.le
  obtain ⟨o, hoi, hrd, hst⟩ := hstp i him
  have hod : ∀ d, o.dst = some d → d < N := hN o (List.mem_of_getElem? hoi)
  have hdsti : dstAt l i = o.dst := by simp [dstAt, hoi]
  have hlex := Lk.lex (S0 := S0) (res := res) hL.le hL.dst i (by omega)
  -- the slots that it looks at are what the text's order says
  have hfacts : ∀ t ∈ tmpsOf o, F t = fget (Ls l S0 res i).F t := by
    intro t ht
    by_cases hx : ∃ j, j < i ∧ dstAt l j = some t
    · obtain ⟨j, hj, hjt⟩ := hx
      rw [h.lk.hit j t (hws j (hL.rd i j o t him hj hoi hjt ht)) (by omega) hjt, hlex.hit j t hj (by omega) hjt]
    · rw [hlex.miss t fun j hj _ hjt => hx ⟨j, hj, hjt⟩, h.lk.miss t fun j hj hjm hjt => ?_]
      rcases Nat.lt_trichotomy j i with hlt | rfl | hgt
      · exact hx ⟨j, hlt, hjt⟩
      · exact hni hj
      · exact hni (hcl j hj i (hL.wr j i o t hjm hgt hoi hjt ht))
  have hd2 : ∀ j t, D j → j < m → dstAt l j = some t → dstAt l i ≠ some t := fun j t hj hjm hjt hit => by
    rcases Nat.lt_trichotomy j i with hlt | rfl | hgt
    · exact hL.dst i j t him hlt hjt hit
    · exact hni hj
    · exact hL.dst j i t hjm hgt hit hjt
  have hi2 : ∀ j o o', D j → j < m → (res j).2 = some o → (res i).2 = some o' → idAt l S0 res j ≠ idAt l S0 res i := fun j o o' hj hjm ho ho' =>
    ids_ne (by have := hL.le; omega) hil (fun e => hni (e ▸ hj)) ho ho'
  have hlk := h.lk.step him hd2 hi2
  have hbelow : ∀ x, m ≤ x → (D x ∨ x = i) → x = m ∧ xo.isSome = true := fun x hx hh => hh.elim (h.below x hx) (fun e => by omega)
  have hkx : ∀ x o, xo = some (x, o) → Kn l S0 res m (fun j => D j ∨ j = i) x ∧ ∀ id ∈ owIds o, Kn l S0 res m (fun j => D j ∨ j = i) id := fun x o e => ⟨(h.kx x o e).1.mono fun j hj => .inl hj, fun id hid => ((h.kx x o e).2 id hid).mono fun j hj => .inl hj⟩
  -- its guard
  have hgrd : ∀ b, Grd l (Ls l S0 res i) o b → Region.wanted o (yielded l.toArray a.tmps) = b := by
    intro b hg
    unfold Grd at hg
    cases hgd : o.guard with
    | none => simp only [hgd] at hg; simp [Region.wanted, hgd, hg]
    | some jw =>
      obtain ⟨j, want⟩ := jw
      simp only [hgd] at hg
      obtain ⟨oj, d, hj, hjd, hgb⟩ := hg
      have hw := hL.grd i o j want him hoi hgd
      have hjt : dstAt l j = some d := by simp [dstAt, hj, hjd]
      have hFe : F d = fget (Ls l S0 res i).F d := by
        rw [h.lk.hit j d (hws j hw.1) (by omega) hjt, ← hlex.hit j d hw.2 (by omega) hjt]
      rcases hgb with ⟨β, hf, rfl⟩ | ⟨us, hf, rfl⟩
      · have := (h.sat.facts d _ (hFe.trans hf)).2
        simp only [TF.at_, RV.at_] at this
        have hy : yielded l.toArray a.tmps j = some β := by
          unfold yielded
          simp only [List.getElem?_toArray, hj, Option.bind_some, hjd]
          cases ht : a.tmps[d]? with
          | none => simp [ht, undef] at this
          | some v => simp [ht] at this; subst this; rfl
        simp [Region.wanted, hgd, hy]
      · have := (h.sat.facts d _ (hFe.trans hf)).2
        simp only [TF.at_, RV.at_] at this
        obtain ⟨vs, hv, _⟩ := this
        have hy : yielded l.toArray a.tmps j = none := by
          unfold yielded
          simp only [List.getElem?_toArray, hj, Option.bind_some, hjd]
          cases ht : a.tmps[d]? with
          | none => rfl
          | some v => simp [ht] at hv; subst hv; rfl
        simp [Region.wanted, hgd, hy]
  unfold wpOp
  simp only [List.getElem?_toArray, hoi]
  rcases hst with ⟨hg, hr⟩ | ⟨hg, hneed, hv, hids⟩
  · rw [hgrd false hg]
    simp only [Bool.false_eq_true, if_false]
    refine hK _ _ k g _ _ ⟨h.sat.skipped (dst := o.dst), ?_, ?_, ?_, ?_, hbelow⟩
    · have := hlk
      simp only [hr, ffAt, hdsti] at this
      exact this
    · intro t f hf id hid
      simp only [updF] at hf
      split at hf
      · cases hf; simp [idsOf] at hid
      · exact (h.kF t f hf id hid).mono fun j hj => .inl hj
    · intro x o' ho' id hid
      exact (h.kO x o' ho' id hid).mono fun j hj => .inl hj
    · exact hkx
  · rw [hgrd true hg]
    simp only [if_true]
    left
    -- what it leans on is known
    have hknown : ∀ id ∈ idsAll (Ls l S0 res i) o, id < idAt l S0 res i ∧ Kn l S0 res m D id := by
      intro id hid
      have := (allB_all.1 hneed) id hid
      split at this
      · rename_i hb
        have hb : id < S0.nx := Nat.le_of_ble_eq_true hb
        exact ⟨Nat.lt_of_lt_of_le hb (nx_mono (S0 := S0) (res := res) (Nat.zero_le i) (by omega)), .inl hb⟩
      · split at this
        · rename_i j hj
          obtain ⟨h1, h2, h3⟩ := Cs_mem (rlook_mem' hj)
          obtain ⟨oj, hoj⟩ := Option.isSome_iff_exists.1 h2
          exact ⟨h3 ▸ nx_lt h1 (by omega) hoj, .inr ⟨j, hws j (memB_mem.1 this), by omega, h2, h3⟩⟩
        · cases this
    have howns : ∀ id ∈ idsAll (Ls l S0 res i) o, O id = oget (Ls l S0 res i).O id := by
      intro id hid
      rcases (hknown id hid).2 with hlt | ⟨j, hj, hjm, hjs, rfl⟩
      · have old : ∀ j o, (res j).2 = some o → j < m → idAt l S0 res j ≠ id := fun j o ho hjm e => by
          have := nx_mono (l := l) (S0 := S0) (res := res) (Nat.zero_le j) (by have := hL.le; omega)
          simp only [idAt, Ls] at this e
          omega
        rw [h.lk.omiss id fun j o _ hjm ho => old j o ho hjm, hlex.omiss id fun j o _ hjm ho => old j o ho hjm]
      · obtain ⟨oj, hoj⟩ := Option.isSome_iff_exists.1 hjs
        have hji : j < i := by
          rcases Nat.lt_or_ge j i with h1 | h1
          · exact h1
          · have := (hknown _ hid).1
            have h2 := nx_mono (l := l) (S0 := S0) (res := res) h1 (by have := hL.le; omega)
            omega
        rw [h.lk.ohit j oj hj hjm hoj, hlex.ohit j oj hji hjm hoj]
    have hov : ∀ id ∈ idsAll (Ls l S0 res i) o, ovr xo O id = O id := fun id hid => ovr_ne fun x o' e hx => hxo x o' o e hoi (hx ▸ hid)
    have hsat : SatE B N (foot (Ls l S0 res i) o) a w k g := by
      have hget : ∀ id o', oget (foot (Ls l S0 res i) o).O id = some o' → id ∈ idsAll (Ls l S0 res i) o ∧ ovr xo O id = some o' ∧ (id ∈ ids1 (Ls l S0 res i) o ∨ isCh (Ls l S0 res i) id = true) := fun id o' ho' => by
        simp only [foot, footO_get] at ho'
        split at ho'
        · rename_i hmem
          rcases List.mem_append.1 hmem with h1 | h1
          · have hh : id ∈ idsAll (Ls l S0 res i) o := List.mem_append_left _ h1
            exact ⟨hh, (hov id hh).trans ((howns id hh).trans ho'), .inl h1⟩
          · have hh : id ∈ idsAll (Ls l S0 res i) o := List.mem_append_right _ (List.mem_filter.1 h1).1
            exact ⟨hh, (hov id hh).trans ((howns id hh).trans ho'), .inr (List.mem_filter.1 h1).2⟩
        · cases ho'
      refine ⟨h.sat.size, h.sat.defers, h.sat.keep, h.sat.kk, fun t f hf => ?_, fun id o' ho' => ?_, fun x y o1 o2 b hx hy => h.sat.apart x y o1 o2 b (hget x o1 hx).2.1 (hget y o2 hy).2.1⟩
      · simp only [foot, footF_get] at hf
        split at hf
        · rename_i ht
          have hFt := (hfacts t ht).trans hf
          refine ⟨?_, (h.sat.facts t f hFt).2⟩
          have hin : ∀ id ∈ idsOf f, id < idAt l S0 res i := fun id hid => (hknown id (List.mem_append_left _ (by
            obtain ⟨x, hx, he⟩ := List.mem_filterMap.1 ht
            cases x <;> simp at he
            subst he
            exact mem_ids1 hx (by simp only [opr]; exact hf) hid))).1
          cases f with
          | r => trivial
          | own id => exact hin id (by simp [idsOf])
          | adr id off => exact hin id (by simp [idsOf])
        · cases hf
      · obtain ⟨h1, h2, h3⟩ := hget id o' ho'
        obtain ⟨_, _, q3, q4⟩ := h.sat.owns id o' h2
        refine ⟨(hknown id h1).1, ?_, q3, q4⟩
        cases o' with
        | ch => trivial
        | gen => trivial
        | box cells =>
          have hlo : oget (Ls l S0 res i).O id = some (.box cells) := (howns id h1).symm.trans ((hov id h1).symm.trans h2)
          rcases h3 with h3 | h3
          · intro f hf
            have hin : ∀ x ∈ idsOf f, x < idAt l S0 res i := fun x hx => (hknown x (List.mem_append_right _ (mem_ids2 h3 hlo hf hx))).1
            cases f with
            | r => trivial
            | own x => exact hin x (by simp [idsOf])
            | adr x off => exact hin x (by simp [idsOf])
          · simp [isCh, hlo] at h3
    obtain ⟨f0, ow0, he, hp⟩ := valv_pick hrd (foot_agree _ _) (hv (fun f ow => f = (res i).1 ∧ ow = (res i).2) ⟨rfl, rfl⟩)
    obtain ⟨rfl, rfl⟩ := he
    have hloc := valv_loc (Q := Q) hT hsat hrd (hp (fun f ow => f = (res i).1 ∧ ow = (res i).2) ⟨rfl, rfl⟩)
    refine Oper.wp_mono ?_ hloc
    rintro a' w' ⟨f, ow, v, k', ⟨rfl, rfl⟩, rfl, hext, hkk, hres⟩
    have hidm : idAt l S0 res i ≤ idAt l S0 res m := nx_mono (by omega) hL.le
    have hs1 := h.sat.ext hext hkk
    have hmem : ∀ id ∈ resIds (res i).1 (res i).2, id = idAt l S0 res i ∨ id ∈ idsAll (Ls l S0 res i) o := fun id hid => by
      have := memB_mem.1 ((allB_all.1 hids) id hid)
      exact (List.mem_cons.1 this)
    cases hr : (res i).2 with
    | none =>
      simp only [hr] at hres hlk
      obtain ⟨hl1, hat⟩ := hres
      have hff : ffAt l S0 res i = (res i).1 := by simp [ffAt, hr]
      rw [hff, hdsti] at hlk
      refine hK _ _ k' g _ _ ⟨hs1.put hod (TF.lt_mono hidm hl1) hat, hlk, fun t f hf id hid => ?_, fun x o' ho' id hid => (h.kO x o' ho' id hid).mono fun j hj => .inl hj, hkx, hbelow⟩
      simp only [updF] at hf
      split at hf
      · cases hf
        have hne : id ≠ idAt l S0 res i := fun e => by
          subst e
          have : ∀ (f : TF), f.lt (idAt l S0 res i) → idAt l S0 res i ∉ idsOf f := fun f hf hm => by
            cases f <;> simp [idsOf] at hm <;> subst hm <;> simp [TF.lt] at hf
          exact this _ hl1 hid
        rcases hmem id (by rw [hr]; simpa [resIds] using hid) with e | hall
        · exact absurd e hne
        · exact (hknown id hall).2.mono fun j hj => .inl hj
      · exact (h.kF t f hf id hid).mono fun j hj => .inl hj
    | some ow =>
      simp only [hr] at hres hlk
      obtain ⟨ob, hfe, hl1, hat, hblk⟩ := hres
      have hff : ffAt l S0 res i = .own (idAt l S0 res i) := by simp [ffAt, hr]
      rw [hff, hdsti] at hlk
      have hnk : ¬ Kn l S0 res m D (idAt l S0 res i) := by
        rintro (hlt | ⟨j, hj, hjm, hjs, he⟩)
        · have := nx_mono (l := l) (S0 := S0) (res := res) (Nat.zero_le i) (by omega)
          simp only [idAt, Ls] at this hlt
          omega
        · obtain ⟨oj, hoj⟩ := Option.isSome_iff_exists.1 hjs
          exact hi2 j oj ow hj hjm hoj hr he
      have hidlt : idAt l S0 res i < idAt l S0 res m := nx_lt him hL.le hr
      have hnone : O (idAt l S0 res i) = none := by
        cases hO : O (idAt l S0 res i) with
        | none => rfl
        | some o' =>
          exfalso
          rw [h.lk.omiss _ fun j o hj hjm ho => hi2 j o ow hj hjm ho hr] at hO
          exact hnk (.inl (h0 _ _ hO))
      have howl : ∀ {o' : Ow} {n : Nat}, o'.lt n → n ∉ owIds o' := fun {o' n} hl hm => by
        cases o' with
        | ch => simp [owIds] at hm
        | gen => simp [owIds] at hm
        | box cells =>
          obtain ⟨f, hf, hid⟩ := List.mem_flatMap.1 hm
          have := hl f hf
          cases f <;> simp [idsOf] at hid <;> subst hid <;> simp [TF.lt] at this
      have hxi : ∀ x o, xo = some (x, o) → x ≠ idAt l S0 res i := fun x o e hx => hnk (hx ▸ (h.kx x o e).1)
      have hnone' : ovr xo O (idAt l S0 res i) = none := by rw [ovr_ne hxi]; exact hnone
      have hmk := hs1.make hod (vb := (v, ob)) hidlt hnone' (fun t f hf hm => hnk (h.kF t f hf _ hm)) (fun x o' ho' hm => hnk (h.kOv x o' ho' _ hm)) (Ow.lt_mono hidm hl1) (howl hl1) hat
        (fun b hb => ⟨.inl (by have := (hblk b hb).1; have := h.sat.keep.size; omega), (hblk b hb).2⟩) (fun x o' b ho' hb hgb => by
          have := (hblk b hb).1
          have := ((h.sat.owns x o' ho').2.2.2 b hgb).2
          omega)
      rw [← ovr_upd hxi] at hmk
      refine hK _ _ k' _ _ _ ⟨hmk, hlk, fun t f hf id hid => ?_, fun x o' ho' id hid => ?_, hkx, hbelow⟩
      · simp only [updF] at hf
        split at hf
        · cases hf
          simp only [idsOf, List.mem_singleton] at hid
          subst hid
          exact .inr ⟨i, .inr rfl, him, by simp [hr], rfl⟩
        · exact (h.kF t f hf id hid).mono fun j hj => .inl hj
      · simp only [updO] at ho'
        split at ho'
        · cases ho'
          have hne : id ≠ idAt l S0 res i := fun e => howl (n := idAt l S0 res i) hl1 (by rw [← e]; exact hid)
          rcases hmem id (by
            rw [hr]
            cases ow with
            | ch => simp [owIds] at hid
            | gen => simp [owIds] at hid
            | box cells => simp only [resIds]; exact List.mem_append_right _ hid) with e | hall
          · exact absurd e hne
          · exact (hknown id hall).2.mono fun j hj => .inl hj
        · exact (h.kO x o' ho' id hid).mono fun j hj => .inl hj
end

end Go.Proofs.YtpdllgbfemnemaaGreat.Sx
