import Derived.Test.YtpdllgbfemnemaaGreatZSxI
namespace Go.Proofs.YtpdllgbfemnemaaGreat.Sx
open Go.RowKit

section
variable {P : Program} {T : TT} {S S' : St} {o : Oper}

structure Agree (S S' : St) (o : Oper) : Prop where
  nx : S'.nx = S.nx
  op : ∀ x ∈ o.op.operands.toList, opr S' x = opr S x
  one : ∀ id ∈ ids1 S o, oget S'.O id = oget S.O id
  two : ∀ id ∈ ids2 S (ids1 S o), ∀ e sz n cells, oget S.O id = some (.ch e sz n cells true) ↔ oget S'.O id = some (.ch e sz n cells true)

theorem Vint.pick {k : IntKind} {e : Int} {K : Int → Prop} (h : Vint k e K) : ∃ m, K m ∧ ∀ K' : Int → Prop, K' m → Vint k e K' := by
  obtain ⟨m, e, h⟩ := h; exact ⟨m, h, fun K' h' => ⟨m, e, h'⟩⟩
theorem Vquo.pick {k : IntKind} {a b : Int} {K : Int → Prop} (h : Vquo k a b K) : ∃ m, K m ∧ ∀ K' : Int → Prop, K' m → Vquo k a b K' := by
  obtain ⟨h0, m, e, h⟩ := h; exact ⟨m, h, fun K' h' => ⟨h0, m, e, h'⟩⟩
theorem Vrem.pick {a b : Int} {K : Int → Prop} (h : Vrem a b K) : ∃ m, K m ∧ ∀ K' : Int → Prop, K' m → Vrem a b K' := by
  obtain ⟨h0, m, e, h⟩ := h; exact ⟨m, h, fun K' h' => ⟨h0, m, e, h'⟩⟩
theorem Vbits.pick {k : IntKind} {op : BinOp} {a b : Int} {K : Int → Prop} (h : Vbits k op a b K) : ∃ m, K m ∧ ∀ K' : Int → Prop, K' m → Vbits k op a b K' := by
  obtain ⟨m, e, h⟩ := h; exact ⟨m, h, fun K' h' => ⟨m, e, h'⟩⟩
theorem Vshl.pick {k : IntKind} {a b : Int} {K : Int → Prop} (h : Vshl k a b K) : ∃ m, K m ∧ ∀ K' : Int → Prop, K' m → Vshl k a b K' := by
  obtain ⟨h0, m, e, h⟩ := h; exact ⟨m, h, fun K' h' => ⟨h0, m, e, h'⟩⟩
theorem Vshr.pick {k : IntKind} {a b : Int} {K : Int → Prop} (h : Vshr k a b K) : ∃ m, K m ∧ ∀ K' : Int → Prop, K' m → Vshr k a b K' := by
  obtain ⟨h0, m, e, h⟩ := h; exact ⟨m, h, fun K' h' => ⟨h0, m, e, h'⟩⟩
theorem Vcmp.pick {e : Bool} {K : Bool → Prop} (h : Vcmp e K) : ∃ m, K m ∧ ∀ K' : Bool → Prop, K' m → Vcmp e K' := by
  obtain ⟨m, e, h⟩ := h; exact ⟨m, h, fun K' h' => ⟨m, e, h'⟩⟩
theorem Vidx.pick {i : Int} {sz n : Nat} {cells : List RV} {K : List RV → Prop} (h : Vidx i sz n cells K) : ∃ m, K m ∧ ∀ K' : List RV → Prop, K' m → Vidx i sz n cells K' := by
  obtain ⟨h0, h1, m, e, h⟩ := h; exact ⟨m, h, fun K' h' => ⟨h0, h1, m, e, h'⟩⟩
theorem Vadr.pick {i : Int} {n : Nat} {K : Nat → Prop} (h : Vadr i n K) : ∃ m, K m ∧ ∀ K' : Nat → Prop, K' m → Vadr i n K' := by
  obtain ⟨h0, h1, h⟩ := h; exact ⟨_, h, fun K' h' => ⟨h0, h1, h'⟩⟩
theorem Vload1.pick {α : Type} {cells : List α} {off : Nat} {K : α → Prop} (h : Vload1 cells off K) : ∃ m, K m ∧ ∀ K' : α → Prop, K' m → Vload1 cells off K' := by
  obtain ⟨m, e, h⟩ := h; exact ⟨m, h, fun K' h' => ⟨m, e, h'⟩⟩
theorem VloadN.pick {α : Type} {cells : List α} {off sz : Nat} {K : List α → Prop} (h : VloadN cells off sz K) : ∃ m, (cells.drop off).take sz = m ∧ K m ∧ ∀ K' : List α → Prop, K' m → VloadN cells off sz K' := by
  obtain ⟨m, e, h0, h⟩ := h; exact ⟨m, e, h, fun K' h' => ⟨m, e, h0, h'⟩⟩
theorem Vcut.pick {lo hi : Int} {sz n : Nat} {cells : List RV} {K : Nat → List RV → Prop} (h : Vcut lo hi sz n cells K) : ∃ m cs, K m cs ∧ ∀ K' : Nat → List RV → Prop, K' m cs → Vcut lo hi sz n cells K' := by
  obtain ⟨h0, h1, h2, m, cs, e, e', h⟩ := h; exact ⟨m, cs, h, fun K' h' => ⟨h0, h1, h2, m, cs, e, e', h'⟩⟩
theorem Vpub.pick {K : Bool → Prop} (h : Vpub K) : ∃ m, K m ∧ ∀ K' : Bool → Prop, K' m → Vpub K' := by
  obtain ⟨m, h⟩ := h; exact ⟨m, h, fun K' h' => ⟨m, h'⟩⟩
theorem Vmake.pick {n n' : Int} {bytes : Nat} {zero : List Value} {K : Nat → List RV → Prop} (h : Vmake n n' bytes zero K) : ∃ m cs, K m cs ∧ ∀ K' : Nat → List RV → Prop, K' m cs → Vmake n n' bytes zero K' := by
  obtain ⟨h0, h1, h2, h3, m, cs, e, e', h⟩ := h; exact ⟨m, cs, h, fun K' h' => ⟨h0, h1, h2, h3, m, cs, e, e', h'⟩⟩
theorem Vcall.pick {f : FuncId} {vs : List RV} {K : Res → Prop} (h : Vcall P f vs K) : ∃ m, K m ∧ ∀ K' : Res → Prop, K' m → Vcall P f vs K' := by
  obtain ⟨ps, hc, m, hg, h⟩ := h; exact ⟨m, h, fun K' h' => ⟨ps, hc, m, hg, h'⟩⟩

theorem binv_pick {op : BinOp} {k : IntKind} {a b : Int} {K : RV → Prop} (h : binv op k a b K) : ∃ v, K v ∧ ∀ K' : RV → Prop, K' v → binv op k a b K' := by
  cases op <;> simp only [binv] at h ⊢ <;>
    first
      | exact h.elim
      | (obtain ⟨m, hm, hp⟩ := h.pick; exact ⟨_, hm, fun K' h' => hp _ h'⟩)

theorem rv_agree {f : TF} (h1 : ∀ id ∈ idsOf f, oget S'.O id = oget S.O id) : S'.rv f = S.rv f := by
  cases f with
  | r v => rfl
  | own id => simp only [St.rv]; rw [h1 id (by simp [idsOf])]
  | adr id off => rfl
theorem rv_two {f : TF} (h2 : ∀ id ∈ idsOf f, ∀ e sz n cells, oget S.O id = some (.ch e sz n cells true) ↔ oget S'.O id = some (.ch e sz n cells true)) : S'.rv f = S.rv f := by
  cases f with
  | r v => rfl
  | adr id off => rfl
  | own id =>
    simp only [St.rv]
    have h := h2 id (by simp [idsOf])
    split
    · rename_i e sz n cells ho
      rw [(h e sz n cells).2 ho]
    · rename_i hno
      split
      · rename_i e sz n cells ho
        exact absurd ((h e sz n cells).1 ho) (hno e sz n cells)
      · rfl
theorem rvs_two : ∀ {fs : List TF}, (∀ f ∈ fs, ∀ id ∈ idsOf f, ∀ e sz n cells, oget S.O id = some (.ch e sz n cells true) ↔ oget S'.O id = some (.ch e sz n cells true)) → S'.rvs fs = S.rvs fs
  | [], _ => rfl
  | f :: fs, h => by
    simp only [St.rvs]
    rw [rv_two (h f (by simp)), rvs_two fun f' hf => h f' (by simp [hf])]

theorem mem_ids1 {x : Operand} {f : TF} (hx : x ∈ o.op.operands.toList) (hf : opr S x = some f) {id : Nat} (hid : id ∈ idsOf f) : id ∈ ids1 S o :=
  List.mem_flatMap.2 ⟨x, hx, by rw [hf]; exact hid⟩
theorem mem_ids2 {l : List Nat} {id : Nat} {cells : List TF} (hid : id ∈ l) (ho : oget S.O id = some (.box cells)) {f : TF} (hf : f ∈ cells) {j : Nat} (hj : j ∈ idsOf f) : j ∈ ids2 S l :=
  List.mem_flatMap.2 ⟨id, hid, by rw [ho]; exact List.mem_flatMap.2 ⟨f, hf, hj⟩⟩

theorem ldOw_pick {ow : Option Ow} {off : Nat} {ti : TI} {K : TF → Prop} (hc : ∀ cells, ow = some (.box cells) → ∀ f ∈ cells, ∀ id ∈ idsOf f, ∀ e sz n cells, oget S.O id = some (.ch e sz n cells true) ↔ oget S'.O id = some (.ch e sz n cells true))
    (h : ldOw S ow off ti K) : ∃ f, K f ∧ ∀ K' : TF → Prop, K' f → ldOw S' ow off ti K' := by
  unfold ldOw at h ⊢
  split at h
  · rename_i cells
    split at h
    · obtain ⟨l, hl, h, hp⟩ := h.pick
      split at h
      · rename_i vs hvs
        refine ⟨_, h, fun K' h' => hp _ ?_⟩
        rw [rvs_two fun f hf => hc cells rfl f (List.mem_of_mem_drop (List.mem_of_mem_take (hl ▸ hf))), hvs]
        exact h'
      · exact h.elim
    · split at h
      · exact ⟨_, h, fun K' h' => h'⟩
      · exact h.elim
  · split at h
    · obtain ⟨l, _, h, hp⟩ := h.pick
      exact ⟨_, h, fun K' h' => hp _ h'⟩
    · obtain ⟨l, h, hp⟩ := h.pick
      exact ⟨_, h, fun K' h' => hp _ h'⟩
  · exact h.elim
  · exact h.elim

theorem ldv_pick {f : TF} {ti : TI} {K : TF → Prop} (h1 : ∀ id ∈ idsOf f, oget S'.O id = oget S.O id)
    (h2 : ∀ id ∈ idsOf f, ∀ cells, oget S.O id = some (.box cells) → ∀ f ∈ cells, ∀ id ∈ idsOf f, ∀ e sz n cells, oget S.O id = some (.ch e sz n cells true) ↔ oget S'.O id = some (.ch e sz n cells true))
    (h : ldv S ti f K) : ∃ f', K f' ∧ ∀ K' : TF → Prop, K' f' → ldv S' ti f K' := by
  unfold ldv at h ⊢
  split at h
  · rename_i id
    rw [h1 id (by simp [idsOf])]
    split at h
    · rename_i cells ho
      exact ldOw_pick (fun cs hcs => h2 id (by simp [idsOf]) cs (ho.trans hcs)) h
    · exact h.elim
  · rename_i id off
    rw [h1 id (by simp [idsOf])]
    exact ldOw_pick (fun cs hcs => h2 id (by simp [idsOf]) cs hcs) h
  · split at h
    · obtain ⟨l, _, h, hp⟩ := h.pick
      exact ⟨_, h, fun K' h' => hp _ h'⟩
    · obtain ⟨l, h, hp⟩ := h.pick
      exact ⟨_, h, fun K' h' => hp _ h'⟩
  · exact h.elim

theorem idxv_pick {t : TypeId} {f : TF} {i : Int} {K : TF → Prop} (h1 : ∀ id ∈ idsOf f, oget S'.O id = oget S.O id) (h : idxv S T t f i K) : ∃ f', K f' ∧ ∀ K' : TF → Prop, K' f' → idxv S' T t f i K' := by
  unfold idxv at h ⊢
  split at h
  · split at h
    · split at h
      · split at h
        · obtain ⟨l, h, hp⟩ := h.pick
          exact ⟨_, h, fun K' h' => hp _ h'⟩
        · rename_i id
          rw [h1 id (by simp [idsOf])]
          split at h
          · split at h
            · obtain ⟨l, h, hp⟩ := h.pick
              exact ⟨_, h, fun K' h' => hp _ h'⟩
            · obtain ⟨l, h, hp⟩ := h.pick
              exact ⟨_, h, fun K' h' => hp _ h'⟩
          · exact h.elim
        · exact h.elim
      · exact h.elim
    · split at h
      · split at h
        · rename_i id
          rw [h1 id (by simp [idsOf])]
          split at h
          · obtain ⟨l, h, hp⟩ := h.pick
            exact ⟨_, h, fun K' h' => hp _ h'⟩
          · exact h.elim
        · obtain ⟨l, h, hp⟩ := h.pick
          exact ⟨_, h, fun K' h' => hp _ h'⟩
        · obtain ⟨l, h, hp⟩ := h.pick
          exact ⟨_, h, fun K' h' => hp _ h'⟩
        · exact h.elim
      · exact h.elim
    · exact h.elim
  · exact h.elim

theorem oprs_agree : ∀ {xs : List Operand}, (∀ x ∈ xs, opr S' x = opr S x) → (∀ x ∈ xs, ∀ f, opr S x = some f → ∀ id ∈ idsOf f, oget S'.O id = oget S.O id) → oprs S' xs = oprs S xs
  | [], _, _ => rfl
  | x :: xs, h, h1 => by
    simp only [oprs]
    rw [h x (by simp)]
    split
    · rename_i f hf
      rw [rv_agree (h1 x (by simp) f hf), oprs_agree (fun y hy => h y (by simp [hy])) fun y hy => h1 y (by simp [hy])]
    · rfl

theorem fills_pick {place : Nat → Option (Nat × Nat)} : ∀ {parts : List (Nat × Operand)} {cells : List RV} {K : List RV → Prop}, (∀ p ∈ parts, opr S' p.2 = opr S p.2) → (∀ p ∈ parts, ∀ f, opr S p.2 = some f → ∀ id ∈ idsOf f, oget S'.O id = oget S.O id) →
    fills S place cells parts K → ∃ c, K c ∧ ∀ K' : List RV → Prop, K' c → fills S' place cells parts K'
  | [], cells, K, _, _, h => ⟨cells, h, fun K' h' => h'⟩
  | (i, x) :: r, cells, K, ha, h1, h => by
    simp only [fills] at h ⊢
    rw [ha (i, x) (by simp)]
    split at h
    · rename_i off sz f hp hf
      simp only [hp, hf]
      rw [rv_agree (h1 (i, x) (by simp) f hf)]
      split at h
      · split at h
        · rename_i v hv hok
          obtain ⟨c, hK, hp⟩ := fills_pick (fun p hp => ha p (by simp [hp])) (fun p hp => h1 p (by simp [hp])) h
          exact ⟨c, hK, fun K' h' => hp K' h'⟩
        · exact h.elim
      · exact h.elim
    · exact h.elim

theorem Vfun.pick {xs : List Operand} {K : RV → Prop} (h0 : ∀ x ∈ xs, opr S' x = opr S x) (h1 : ∀ x ∈ xs, ∀ f, opr S x = some f → ∀ id ∈ idsOf f, oget S'.O id = oget S.O id) (h : Vfun P S o xs K) : ∃ r, K r ∧ ∀ K' : RV → Prop, K' r → Vfun P S' o xs K' := by
  obtain ⟨rs, hrs, r, hf, hK⟩ := h
  exact ⟨r, hK, fun K' h' => ⟨rs, (oprs_agree h0 h1).trans hrs, r, hf, h'⟩⟩

theorem valv_pick (hrd : reads o.op = true) (hA : Agree S S' o) {K : TF → Option Ow → Prop} (h : valv P T S o K) : ∃ f ow, K f ow ∧ ∀ K' : TF → Option Ow → Prop, K' f ow → valv P T S' o K' := by
  have one : ∀ {x : Operand} {f : TF}, x ∈ o.op.operands.toList → opr S x = some f → ∀ id ∈ idsOf f, oget S'.O id = oget S.O id := fun hx hf id hid => hA.one id (mem_ids1 hx hf hid)
  have two : ∀ {x : Operand} {f : TF}, x ∈ o.op.operands.toList → opr S x = some f → ∀ id ∈ idsOf f, ∀ cells, oget S.O id = some (.box cells) → ∀ f ∈ cells, ∀ id ∈ idsOf f, ∀ e sz n cells, oget S.O id = some (.ch e sz n cells true) ↔ oget S'.O id = some (.ch e sz n cells true) :=
    fun hx hf id hid cells ho f' hf' j hj => hA.two j (mem_ids2 (mem_ids1 hx hf hid) ho hf' hj)
  have hop' := hA.op
  unfold valv at h ⊢
  cases hop : o.op <;> rw [hop] at h hop' one two hrd <;> simp only [valvO] at h ⊢
  case move x =>
    rw [hop' x (by simp [Op.operands])]
    split at h
    · rename_i f hf; exact ⟨f, none, h, fun K' h' => h'⟩
    · exact h.elim
  case assign x =>
    rw [hop' x (by simp [Op.operands])]
    split at h
    · rename_i f hf; exact ⟨f, none, h, fun K' h' => h'⟩
    · exact h.elim
  case pick c x y =>
    rw [hop' c (by simp [Op.operands]), hop' x (by simp [Op.operands]), hop' y (by simp [Op.operands])]
    split at h
    · split at h
      · split at h
        · rename_i f hf; exact ⟨f, none, h, fun K' h' => h'⟩
        · exact h.elim
      · split at h
        · rename_i f hf; exact ⟨f, none, h, fun K' h' => h'⟩
        · exact h.elim
    · exact h.elim
  case nilCheck x =>
    rw [hop' x (by simp [Op.operands])]
    split at h
    · rename_i id hx
      rw [one (x := x) (by simp [Op.operands]) hx id (by simp [idsOf])]
      split at h
      · exact ⟨_, none, h, fun K' h' => h'⟩
      · exact h.elim
    · exact ⟨_, none, h, fun K' h' => h'⟩
    · exact ⟨_, none, h, fun K' h' => h'⟩
    · exact h.elim
  case alloc t =>
    rw [hA.nx]
    split at h
    · exact ⟨_, _, h, fun K' h' => h'⟩
    · exact h.elim
  case box t x =>
    rw [hop' x (by simp [Op.operands]), hA.nx]
    split at h
    · exact ⟨_, _, h, fun K' h' => h'⟩
    · split at h
      · exact ⟨_, _, h, fun K' h' => h'⟩
      · exact h.elim
    · rename_i id hx
      rw [one (x := x) (by simp [Op.operands]) hx id (by simp [idsOf])]
      split at h
      · exact ⟨_, _, h, fun K' h' => h'⟩
      · exact h.elim
    · exact ⟨_, _, h, fun K' h' => h'⟩
    · exact h.elim
  case load t x =>
    rw [hop' x (by simp [Op.operands])]
    split at h
    · rename_i ti f hti hx
      obtain ⟨f', hK, hp⟩ := ldv_pick (one (x := x) (by simp [Op.operands]) hx) (two (x := x) (by simp [Op.operands]) hx) h
      exact ⟨f', none, hK, fun K' h' => hp _ h'⟩
    · exact h.elim
  case fieldAddr t x i =>
    rw [hop' x (by simp [Op.operands])]
    split at h
    · rename_i ti f hti hx
      split at h
      · split at h
        · split at h
          · exact h.elim
          · split at h
            · rename_i id
              rw [one (x := x) (by simp [Op.operands]) hx id (by simp [idsOf])]
              split at h
              · exact ⟨_, none, h, fun K' h' => h'⟩
              · exact h.elim
            · exact ⟨_, none, h, fun K' h' => h'⟩
            · exact ⟨_, none, h, fun K' h' => h'⟩
            · exact h.elim
        · exact h.elim
      · exact h.elim
    · exact h.elim
  case indexAddr t x i =>
    rw [hop' x (by simp [Op.operands]), hop' i (by simp [Op.operands])]
    split at h
    · rename_i f kd n hx hi
      obtain ⟨f', hK, hp⟩ := idxv_pick (one (x := x) (by simp [Op.operands]) hx) h
      exact ⟨f', none, hK, fun K' h' => hp _ h'⟩
    · exact h.elim
  case binOp op t x y t2 =>
    rw [hop' x (by simp [Op.operands]), hop' y (by simp [Op.operands])]
    split at h
    · split at h
      · obtain ⟨m, hm, hp⟩ := h.pick; exact ⟨_, none, hm, fun K' h' => hp _ h'⟩
      · obtain ⟨m, hm, hp⟩ := h.pick; exact ⟨_, none, hm, fun K' h' => hp _ h'⟩
      · split at h
        · obtain ⟨m, hm, hp⟩ := binv_pick h; exact ⟨_, none, hm, fun K' h' => hp _ h'⟩
        · exact h.elim
    · split at h
      · exact ⟨_, none, h.2, fun K' h' => ⟨h.1, h'⟩⟩
      · obtain ⟨m, hm, hp⟩ := h.pick; exact ⟨_, none, hm, fun K' h' => hp _ h'⟩
      · obtain ⟨m, hm, hp⟩ := h.pick; exact ⟨_, none, hm, fun K' h' => hp _ h'⟩
      · exact h.elim
    · split at h
      · split at h
        · split at h
          · obtain ⟨m, hm, hp⟩ := h.pick; exact ⟨_, none, hm, fun K' h' => hp _ h'⟩
          · obtain ⟨m, hm, hp⟩ := h.pick; exact ⟨_, none, hm, fun K' h' => hp _ h'⟩
          · exact h.elim
        · exact h.elim
      · exact h.elim
    · obtain ⟨r, hK, hp⟩ := Vfun.pick (S' := S') (fun z hz => hop' z (by simpa [Op.operands] using hz)) (fun z hz f hf => one (x := z) (by simpa [Op.operands] using hz) hf) h
      exact ⟨_, none, hK, fun K' h' => hp _ h'⟩
  case unOp op t x =>
    rw [hop' x (by simp [Op.operands])]
    split at h
    · split at h
      · obtain ⟨m, hm, hp⟩ := h.pick; exact ⟨_, none, hm, fun K' h' => hp _ h'⟩
      · exact h.elim
    · split at h
      · obtain ⟨m, hm, hp⟩ := h.pick; exact ⟨_, none, hm, fun K' h' => hp _ h'⟩
      · obtain ⟨m, hm, hp⟩ := h.pick; exact ⟨_, none, hm, fun K' h' => hp _ h'⟩
      · exact h.elim
    · obtain ⟨r, hK, hp⟩ := Vfun.pick (S' := S') (fun z hz => hop' z (by simpa [Op.operands] using hz)) (fun z hz f hf => one (x := z) (by simpa [Op.operands] using hz) hf) h
      exact ⟨_, none, hK, fun K' h' => hp _ h'⟩
  case convert t0 t x =>
    rw [hop' x (by simp [Op.operands])]
    split at h
    · split at h
      · obtain ⟨m, hm, hp⟩ := h.pick; exact ⟨_, none, hm, fun K' h' => hp _ h'⟩
      · obtain ⟨r, hK, hp⟩ := Vfun.pick (S' := S') (fun z hz => hop' z (by simpa [Op.operands] using hz)) (fun z hz f hf => one (x := z) (by simpa [Op.operands] using hz) hf) h
        exact ⟨_, none, hK, fun K' h' => hp _ h'⟩
    · obtain ⟨r, hK, hp⟩ := Vfun.pick (S' := S') (fun z hz => hop' z (by simpa [Op.operands] using hz)) (fun z hz f hf => one (x := z) (by simpa [Op.operands] using hz) hf) h
      exact ⟨_, none, hK, fun K' h' => hp _ h'⟩
  case extract x i =>
    rw [hop' x (by simp [Op.operands])]
    split at h
    · split at h
      · exact ⟨_, none, h, fun K' h' => h'⟩
      · exact h.elim
    · exact h.elim
  case build t parts =>
    split at h
    · split at h
      · obtain ⟨c, hK, hp⟩ := fills_pick (S' := S') (fun p hp => hop' p.2 (by simp [Op.operands]; exact ⟨p.1, by simpa using hp⟩)) (fun p hp f hf => one (x := p.2) (by simp [Op.operands]; exact ⟨p.1, by simpa using hp⟩) hf) h
        exact ⟨_, none, hK, fun K' h' => hp _ h'⟩
      · exact h.elim
    · exact h.elim
  case buildSlice t n parts =>
    rw [hA.nx]
    split at h
    · split at h
      · split at h
        · split at h
          · obtain ⟨c, hK, hp⟩ := fills_pick (S' := S') (fun p hp => hop' p.2 (by simp [Op.operands]; exact ⟨p.1, by simpa using hp⟩)) (fun p hp f hf => one (x := p.2) (by simp [Op.operands]; exact ⟨p.1, by simpa using hp⟩) hf) h
            obtain ⟨pub, hK, hp2⟩ := hK.pick
            exact ⟨_, _, hK, fun K' h' => hp _ (hp2 _ h')⟩
          · exact h.elim
        · exact h.elim
      · exact h.elim
    · exact h.elim
  case slice t x lo hi mx =>
    rw [hop' x (by simp [Op.operands])]
    split at h
    · rename_i ti f hti hx
      rw [rv_agree (one (x := x) (by simp [Op.operands]) hx)]
      split at h
      · split at h
        · exact h.elim
        · have hlo : ∀ d, optv S' lo d = optv S lo d := fun d => by
            cases lo with
            | none => rfl
            | some l => exact hop' l (by simp [Op.operands])
          have hhi : ∀ d, optv S' hi d = optv S hi d := fun d => by
            cases hi with
            | none => rfl
            | some l => exact hop' l (by simp [Op.operands])
          rw [hlo, hhi]
          split at h
          · obtain ⟨m, cs, hK, hp⟩ := h.pick
            exact ⟨_, none, hK, fun K' h' => hp _ h'⟩
          · exact h.elim
      · exact h.elim
    · exact h.elim
  case makeSlice t l c =>
    rw [hop' l (by simp [Op.operands]), hop' c (by simp [Op.operands]), hA.nx]
    split at h
    · split at h
      · split at h
        · obtain ⟨j, zs, h, hp⟩ := h.pick
          obtain ⟨pub, hK, hp2⟩ := h.pick
          exact ⟨_, _, hK, fun K' h' => hp _ (hp2 _ h')⟩
        · exact h.elim
      · exact h.elim
    · exact h.elim
  case call c =>
    have hargs : ∀ x ∈ c.args.toList, x ∈ (Op.call c).operands.toList := fun x hx => by simp only [Op.operands, Call.operands, Array.toList_append]; exact List.mem_append_right _ hx
    split at h
    · split at h
      · unfold lenv at h ⊢
        split at h
        · rename_i x t hxs hts
          rw [hop' x (hargs x (by rw [hxs]; simp))]
          split at h
          · rename_i ti f hti hx
            split at h
            · split at h
              · exact ⟨_, none, h, fun K' h' => h'⟩
              · exact ⟨_, none, h, fun K' h' => h'⟩
              · rename_i id
                rw [one (x := x) (hargs x (by rw [hxs]; simp)) hx id (by simp [idsOf])]
                split at h
                · exact ⟨_, none, h, fun K' h' => h'⟩
                · exact h.elim
              · exact h.elim
            · split at h
              · exact ⟨_, none, h, fun K' h' => h'⟩
              · exact h.elim
            · exact h.elim
          · exact h.elim
        · exact h.elim
      · obtain ⟨r, hK, hp⟩ := Vfun.pick (S' := S') (fun z hz => hop' z (hargs z hz)) (fun z hz f hf => one (x := z) (hargs z hz) hf) h
        exact ⟨_, none, hK, fun K' h' => hp _ h'⟩
      · obtain ⟨r, hK, hp⟩ := Vfun.pick (S' := S') (fun z hz => hop' z (hargs z hz)) (fun z hz f hf => one (x := z) (hargs z hz) hf) h
        exact ⟨_, none, hK, fun K' h' => hp _ h'⟩
      · obtain ⟨r, hK, hp⟩ := Vfun.pick (S' := S') (fun z hz => hop' z (hargs z hz)) (fun z hz f hf => one (x := z) (hargs z hz) hf) h
        exact ⟨_, none, hK, fun K' h' => hp _ h'⟩
      · exfalso
        simp_all [reads]
    · split at h
      · unfold callv at h ⊢
        rw [oprs_agree (fun x hx => hop' x (hargs x hx)) fun x hx f hf => one (hargs x hx) hf]
        split at h
        · obtain ⟨res, hK, hp⟩ := h.pick
          cases res with
          | r v => exact ⟨_, _, hK, fun K' h' => hp _ h'⟩
          | ch e sz n cells => exact ⟨_, _, hK, fun K' h' => hp _ (by simp only [resK]; rw [hA.nx]; exact h')⟩
          | own e sz n cells => exact ⟨_, _, hK, fun K' h' => hp _ (by simp only [resK]; rw [hA.nx]; exact h')⟩
        · exact h.elim
      · exfalso
        simp only [reads] at hrd
        split at hrd <;> simp_all
        rename_i he hne _
        exact hne _ he.symm
    · exact h.elim
  all_goals simp [reads] at hrd
end

end Go.Proofs.YtpdllgbfemnemaaGreat.Sx
