import Derived.Test.YtpdllgbfemnemaaGreatZSxF
namespace Go.Proofs.YtpdllgbfemnemaaGreat.Sx
open Go.RowKit

section
variable {P : Program} {T : TT} {B : Bs} {N : Nat} {S : St} {a : Act} {w : World} {k : Kp} {g : Env} {o : Oper} {Q : Exit → Act → World → Prop}

/-- The block that is written; what of it stays did. -/
structure Wrote (w : World) (k : Kp) (w' : World) (k' : Kp) (ob : Option Nat) : Prop where
  os : w'.os = w.os
  tape : w'.tape = w.tape
  output : w'.output = w.output
  size : w.heap.size ≤ w'.heap.size
  block : ∀ b, b < w.heap.size → some b ≠ ob → w'.heap[b]? = w.heap[b]? ∧ k' b = k b
  part : ∀ b, some b = ob → k b ≤ k' b ∧ (∀ o, o < k b → w'.cell? ⟨b, o, none⟩ = w.cell? ⟨b, o, none⟩) ∧ (0 < k b → ∀ es c, w.heap[b]? = some (.map es c) → w'.heap[b]? = some (.map es c))

theorem Wrote.le {w' : World} {k' : Kp} {ob : Option Nat} (h : Wrote w k w' k' ob) : Le w k w' k' := by
  refine ⟨h.size, fun b hb => ?_, fun b o hb ho => ?_, fun b hb hk es c e => ?_⟩
  · by_cases e : some b = ob
    · exact (h.part b e).1
    · exact Nat.le_of_eq (h.block b hb e).2.symm
  · by_cases e : some b = ob
    · exact (h.part b e).2.1 o ho
    · exact World.cell?_of_block (a := ⟨b, o, none⟩) (h.block b hb e).1
  · by_cases e' : some b = ob
    · exact (h.part b e').2.2 hk es c e
    · exact (h.block b hb e').1.trans e

def idOk (S : St) (g : Env) (ob : Option Nat) : Option Nat → Prop
  | some i => (∃ o, oget S.O i = some o) ∧ (g i).2 = ob
  | none => ob = none
/-- What an owner's block is written into: all else is as it was; the owner itself is struck. -/
theorem SatE.wrote (hs : SatE B N S a w k g) {w' : World} {k' : Kp} {ob : Option Nat} (h : Wrote w k w' k' ob) {id : Option Nat}
    (hid : idOk S g ob id) :
    SatE B N (S.strike id) a w' k' g := by
  have hle := h.le
  have hold : ∀ b, b < B.w.heap.size → b ∉ B.X → some b ≠ ob := fun b hb hx e => by
    cases id with
    | none => simp only [idOk] at hid; rw [hid] at e; cases e
    | some i =>
      obtain ⟨⟨o, ho⟩, hg⟩ := hid
      rcases ((hs.owns i o ho).2.2.2 b (hg.trans e.symm)).1 with h1 | h1
      · omega
      · exact hx h1
  have hkeep : Keep B.X B.w w' := ⟨h.os.trans hs.keep.os, h.tape.trans hs.keep.tape, h.output.trans hs.keep.output, Nat.le_trans hs.keep.size h.size,
    fun b hb hx => (h.block b (Nat.lt_of_lt_of_le hb hs.keep.size) (hold b hb hx)).1.trans (hs.keep.block b hb hx)⟩
  have hkk : ∀ b, b < B.w.heap.size → b ∉ B.X → k' b = B.k b := fun b hb hx => (h.block b (Nat.lt_of_lt_of_le hb hs.keep.size) (hold b hb hx)).2.trans (hs.kk b hb hx)
  have own : ∀ i' o', oget S.O i' = some o' → (∀ i, id = some i → i ≠ i') → i' < S.nx ∧ o'.lt S.nx ∧ o'.at_ w' k' g (g i') ∧ ∀ b, (g i').2 = some b → (B.w.heap.size ≤ b ∨ b ∈ B.X) ∧ b < w'.heap.size := fun i' o' ho' hne => by
    obtain ⟨h1, h2, h3, h4⟩ := hs.owns i' o' ho'
    refine ⟨h1, h2, Ow.mono hle (fun b hb => h.block b (h4 b hb).2 fun e => ?_) h3, fun b hb => ⟨(h4 b hb).1, Nat.lt_of_lt_of_le (h4 b hb).2 h.size⟩⟩
    cases id with
    | none => simp only [idOk] at hid; rw [hid] at e; cases e
    | some i =>
      obtain ⟨⟨o, ho⟩, hg⟩ := hid
      exact hs.apart i i' o o' b ho ho' (hne i rfl) (hg.trans e.symm) hb
  cases id with
  | none => exact ⟨hs.size, hs.defers, hkeep, hkk, fun t f hf => ⟨(hs.facts t f hf).1, TF.mono hle (hs.facts t f hf).2⟩, fun i' o' ho' => own i' o' ho' (fun _ h => by cases h), hs.apart⟩
  | some i =>
    refine ⟨hs.size, hs.defers, hkeep, hkk, fun t f hf => ⟨(hs.facts t f hf).1, TF.mono hle (hs.facts t f hf).2⟩, fun i' o' ho' => ?_, fun x y o1 o2 b hx hy hne => ?_⟩
    · rcases oget_cons ho' with ⟨_, e⟩ | ⟨hne, ho'⟩
      · cases e
      · exact own i' o' ho' fun j hj => by cases hj; exact hne
    · rcases oget_cons hx with ⟨_, e⟩ | ⟨_, hx⟩
      · cases e
      rcases oget_cons hy with ⟨_, e⟩ | ⟨_, hy⟩
      · cases e
      exact hs.apart x y o1 o2 b hx hy hne

/-- A new owner, of a block that no other one has. -/
theorem SatE.adopt (hs : SatE B N S a w k g) {dst : Option Nat} (hd : ∀ d, dst = some d → d < N) {o : Ow} {vb : Value × Option Nat} (hl : o.lt S.nx) (ho : o.at_ w k g vb)
    (hb : ∀ b, vb.2 = some b → (B.w.heap.size ≤ b ∨ b ∈ B.X) ∧ b < w.heap.size) (hap : ∀ i o' b, oget S.O i = some o' → vb.2 = some b → (g i).2 ≠ some b) :
    SatE B N (S.mk_ dst o) (a.put dst vb.1) w k (g.set S.nx vb) := by
  have hlt : S.nx ≤ S.nx + 1 := Nat.le_succ _
  have hset : ∀ i, i < S.nx → g.set S.nx vb i = g i := Env.set_lt
  have h2 : SatE B N { F := S.F, O := (S.nx, some o) :: S.O, nx := S.nx + 1 } a w k (g.set S.nx vb) := by
    refine ⟨hs.size, hs.defers, hs.keep, hs.kk, fun t f hf => ?_, fun id o' ho' => ?_, fun i j oi oj b hi hj hne hbi => ?_⟩
    · have := hs.facts t f hf
      exact ⟨TF.lt_mono hlt this.1, TF.env hset this.1 this.2⟩
    · rcases oget_cons ho' with ⟨rfl, e⟩ | ⟨hne, h⟩
      · cases e
        exact ⟨Nat.lt_succ_self _, Ow.lt_mono hlt hl, by rw [Env.set_eq]; exact Ow.env hset hl ho, fun b hbb => by rw [Env.set_eq] at hbb; exact hb b hbb⟩
      · obtain ⟨q1, q2, q3, q4⟩ := hs.owns id o' h
        refine ⟨Nat.lt_succ_of_lt q1, Ow.lt_mono hlt q2, ?_, ?_⟩
        · rw [hset id q1]; exact Ow.env hset q2 q3
        · rw [hset id q1]; exact q4
    · rcases oget_cons hi with ⟨rfl, e⟩ | ⟨hni, hi⟩
      · rw [Env.set_eq] at hbi
        rcases oget_cons hj with ⟨rfl, _⟩ | ⟨hnj, hj⟩
        · exact absurd rfl hne
        · rw [hset j (hs.owns j oj hj).1]; exact hap j oj b hj hbi
      · rw [hset i (hs.owns i oi hi).1] at hbi
        rcases oget_cons hj with ⟨rfl, _⟩ | ⟨hnj, hj⟩
        · rw [Env.set_eq]; intro hbj; exact hap i oi b hi hbj hbi
        · rw [hset j (hs.owns j oj hj).1]; exact hs.apart i j oi oj b hi hj hne hbi
  cases dst with
  | none => exact h2
  | some d => exact h2.put (dst := some d) hd (f := .own S.nx) (v := vb.1) (Nat.lt_succ_self _) (by simp [TF.at_, Env.set_eq])

/-! ### append -/
theorem app_run {t ty e : TypeId} {i : TypeInfo} {z : Value} {size bytes : Nat} (ht : P.underlying t = some (.slice e)) (hi : P.info? e = some i) (hz : i.zero = some z)
    (hsize : i.size = size) (hby : i.bytes = bytes) (hzs : z.cells.size = size)
    {n : Nat} {cells : List RV} {pub : Bool} {u : Value} {ob : Option Nat} (hch : chAt w k e size n cells pub u ob)
    {qb qo m c : Nat} {news : List Value} (hl : news.length = m * size) (hnews : ∀ j u, news[j]? = some u → w.cell? ⟨qb, qo + j, none⟩ = some u) (h1 : ∀ u ∈ news, u.oneCell' = true)
    (hm : 0 < m) (h63 : n + m ≤ maxLen) (hbytes : (n + m) * bytes ≤ 140737488355328) :
    ∃ xs b cap cur w', (Builtin.append_ #[t, t] ty #[u, .slice (some ⟨qb, qo, none⟩) m c]).run P w = .ok (.slice (some ⟨b, 0, none⟩) (n + m) cap) w' ∧ RV.listAt w k cells xs ∧
      w'.heap[b]? = some (.cells cur e (0, 0)) ∧ n + m ≤ cap ∧ cap ≤ maxLen ∧ cur.size = cap * size ∧ cur.toList.take ((n + m) * size) = xs ++ news ∧ w.grownBy w' ob ∧ (ob = some b ∨ b = w.heap.size) ∧
      (∀ b0, ob = some b0 → (∃ cur0, w.heap[b0]? = some (.cells cur0 e (0, 0)) ∧ cur0.toList.take (n * size) = xs) ∧ (b = b0 ∨ b = w.heap.size ∧ w'.heap[b0]? = w.heap[b0]?)) := by
  obtain ⟨hcl, hch⟩ := hch
  have hnews' : ∀ j u, news[j]? = some u → w.cell? ((⟨qb, qo, none⟩ : Addr).add j) = some u := fun j u hu => by rw [Addr.add_mid]; exact hnews j u hu
  rcases hch with ⟨rfl, ⟨rfl, p, rfl⟩ | ⟨hn0, _, b, o, rfl, hnm, hbl, hcell⟩⟩ | ⟨b, cap, cur, rfl, rfl, hh, hnc, hcm, hcs, hkb, hlist⟩
  · have hc0 : cells = [] := List.eq_nil_of_length_eq_zero (by simpa using hcl)
    subst hc0
    have hnl := h63
    simp only [maxLen] at hnl
    have fin : ∀ (c : Nat), 0 + m ≤ c → c ≤ maxLen → ∀ (cur : Array Value), cur.size = c * size → cur.toList.take ((0 + m) * size) = news →
        (w.drew.alloc (.cells cur e)).heap[w.heap.size]? = some (.cells cur e (0, 0)) ∧ 0 + m ≤ c ∧ c ≤ maxLen ∧ cur.size = c * size ∧ cur.toList.take ((0 + m) * size) = [] ++ news ∧ w.grownBy (w.drew.alloc (.cells cur e)) none := fun c hc hcm cur hcs htk =>
      ⟨heap_alloc_new w.drew _, hc, hcm, hcs, htk, ⟨rfl, rfl, rfl, by simp, fun k hk _ => Below.heap_alloc w.drew _ k hk⟩⟩
    cases p with
    | none =>
      have hr := run_append_nil (P := P) w t ty e i z ht hi hz ⟨qb, qo, none⟩ m c news (by rw [hsize]; exact hl) hnews' hm (by omega) (by rw [hby]; rw [Nat.zero_add] at hbytes; omega)
      have hge := grownCap_ge w m 0 e
      have hcm := grownCap_le_maxLen w m 0 e (by omega)
      obtain ⟨f1, f2, f3, f4, f5, f6⟩ := fin (grownCap w m 0 e) (by omega) hcm (news.toArray ++ Builtin.zeroCells z.cells (grownCap w m 0 e - m)) (by
        simp only [Array.size_append, List.size_toArray, size_zeroCells, hzs, hl, ← Nat.add_mul]
        congr 1; omega) (by
        simp only [Array.toList_append, Nat.zero_add]
        rw [← hl]
        exact List.take_left)
      exact ⟨[], w.heap.size, _, _, _, by rw [Nat.zero_add]; exact hr, by simp [RV.listAt], f1, f2, f3, f4, f5, f6, .inr rfl, fun b0 h => by cases h⟩
    | some p =>
      have hr := run_append_grow (P := P) w t ty e i z ht hi hz p 0 0 [] (by simp) (by simp) ⟨qb, qo, none⟩ m c news (by rw [hsize]; exact hl) hnews' (by omega) (by omega) (growslice_fits (by omega) (by rw [hby]; exact hbytes))
      have hge := grownCap_ge w (0 + m) 0 e
      have hcm := grownCap_le_maxLen w (0 + m) 0 e h63
      obtain ⟨f1, f2, f3, f4, f5, f6⟩ := fin (grownCap w (0 + m) 0 e) hge hcm (([] : List Value).toArray ++ news.toArray ++ Builtin.zeroCells z.cells (grownCap w (0 + m) 0 e - (0 + m))) (by
        simp only [Array.size_append, List.size_toArray, List.length_nil, Nat.zero_add, size_zeroCells, hzs, hl, ← Nat.add_mul]
        congr 1; rw [Nat.zero_add] at hge; omega) (by
        simp only [Array.toList_append, Nat.zero_add, List.nil_append]
        rw [← hl]
        exact List.take_left)
      exact ⟨[], w.heap.size, _, _, _, hr, by simp [RV.listAt], f1, f2, f3, f4, f5, f6, .inr rfl, fun b0 h => by cases h⟩
  · obtain ⟨xs, hlist, hxl, hcell⟩ := RV.cells_list cells o hcell
    have hnl := h63
    simp only [maxLen] at hnl
    have hr := run_append_grow (P := P) w t ty e i z ht hi hz ⟨b, o, none⟩ n n xs (by rw [hsize, hxl, hcl]) (fun j v hj => by rw [Addr.add_mid]; exact hcell j v hj) ⟨qb, qo, none⟩ m c news (by rw [hsize]; exact hl) hnews' (by omega) (by omega) (growslice_fits (by omega) (by rw [hby]; exact hbytes))
    have hge := grownCap_ge w (n + m) n e
    have hcm' := grownCap_le_maxLen w (n + m) n e h63
    refine ⟨xs, w.heap.size, _, _, _, hr, hlist, heap_alloc_new w.drew _, hge, hcm', ?_, ?_, ⟨rfl, rfl, rfl, by simp, fun k hk _ => Below.heap_alloc w.drew _ k hk⟩, .inr rfl, fun b0 hb0 => by cases hb0⟩
    · simp only [Array.size_append, List.size_toArray, size_zeroCells, hzs, hl, hxl, hcl, ← Nat.add_mul]
      congr 1; omega
    · simp only [Array.toList_append]
      rw [show (n + m) * size = (xs ++ news).length by rw [List.length_append, hxl, hcl, hl, Nat.add_mul]]
      exact List.take_left
  · have hxl : (cur.toList.take (n * size)).length = n * size := by rw [listAt_len hlist, hcl]
    have hlt : b < w.heap.size := (Array.getElem?_eq_some_iff.1 hh).1
    have hnl := h63
    simp only [maxLen] at hnl
    by_cases hfit : n + m ≤ cap
    · have hmul : (n + m) * size ≤ cap * size := Nat.mul_le_mul_right _ hfit
      rw [Nat.add_mul] at hmul
      have hr := run_append_room (P := P) w t ty e i ht hi b n cap cur hh ⟨qb, qo, none⟩ m c news (by rw [hsize]; exact hl) hnews' h1 hfit (by rw [hsize, hl, hcs]; exact hmul)
      rw [hsize, hl] at hr
      refine ⟨_, b, cap, _, _, hr, hlist, setRow_heap w b cur _ e (0, 0) hh, hfit, hcm, ?_, ?_, ⟨rfl, rfl, rfl, by simp [World.setRow], fun x hx hne => setRow_other w b x _ (fun h => hne (by rw [h]))⟩, .inl rfl, fun b0 hb0 => ?_⟩
      · simp only [List.size_toArray, List.length_append, hxl, hl, List.length_drop, Array.length_toList, hcs]
        omega
      · rw [show (n + m) * size = (cur.toList.take (n * size) ++ news).length by rw [List.length_append, hxl, hl, Nat.add_mul], List.toList_toArray]
        exact List.take_left
      · cases hb0
        exact ⟨⟨cur, hh, rfl⟩, .inl rfl⟩
    · have hr := run_append_grow (P := P) w t ty e i z ht hi hz ⟨b, 0, none⟩ n cap (cur.toList.take (n * size)) (by rw [hsize]; exact hxl) (fun j v hj => by
        rw [Addr.add_mid, Nat.zero_add, cell_of_row w b j cur e (0, 0) hh]
        rw [List.getElem?_take] at hj
        split at hj
        · simpa using hj
        · cases hj) ⟨qb, qo, none⟩ m c news (by rw [hsize]; exact hl) hnews' (by omega) (by omega) (growslice_fits (by omega) (by rw [hby]; exact hbytes))
      have hge := grownCap_ge w (n + m) cap e
      have hcm' := grownCap_le_maxLen w (n + m) cap e h63
      refine ⟨_, w.heap.size, _, _, _, hr, hlist, heap_alloc_new w.drew _, hge, hcm', ?_, ?_, ⟨rfl, rfl, rfl, by simp, fun k hk _ => Below.heap_alloc w.drew _ k hk⟩, .inr rfl, fun b0 hb0 => ?_⟩
      · simp only [Array.size_append, List.size_toArray, size_zeroCells, hzs, hl, hxl, ← Nat.add_mul]
        congr 1; omega
      · simp only [Array.toList_append]
        rw [show (n + m) * size = (cur.toList.take (n * size) ++ news).length by rw [List.length_append, hxl, hl, Nat.add_mul]]
        exact List.take_left
      · cases hb0
        exact ⟨⟨cur, hh, rfl⟩, .inr ⟨rfl, Below.heap_alloc w.drew _ b hlt⟩⟩

theorem lhs_at (hs : SatE B N S a w k g) {e : TypeId} {sz : Nat} {f : TF} {u : Value} {id : Option Nat} {e' : TypeId} {sz' n : Nat} {cells : List RV} {pub : Bool} (h : lhsv S e sz f = some (id, e', sz', n, cells, pub)) (hu : f.at_ w k g u) :
    ∃ ob, chAt w k e' sz' n cells pub u ob ∧ idOk S g ob id := by
  unfold lhsv at h
  split at h
  · split at h
    · rename_i hoo
      simp only [Option.some.injEq, Prod.mk.injEq] at h
      obtain ⟨rfl, rfl, rfl, rfl, rfl, rfl⟩ := h
      have hat := (hs.owns _ _ hoo).2.2.1
      simp only [Ow.at_] at hat
      simp only [TF.at_] at hu
      rw [hu]
      exact ⟨_, hat, ⟨_, hoo⟩, rfl⟩
    · cases h
  · simp only [Option.some.injEq, Prod.mk.injEq] at h
    obtain ⟨rfl, rfl, rfl, rfl, rfl, rfl⟩ := h
    simp only [TF.at_, RV.at_] at hu
    exact ⟨none, ⟨by simp, .inl ⟨rfl, .inl ⟨rfl, none, hu⟩⟩⟩, rfl⟩
  · cases h

theorem rhs_at (hs : SatE B N S a w k g) {sz : Nat} {f : TF} {u : Value} {sz' m : Nat} {ys : List RV} (h : rhsv S sz f = some (sz', m, ys)) (hu : f.at_ w k g u) :
    ∃ qa qc us, u = .slice qa m qc ∧ RV.listAt w k ys us ∧ us.length = m * sz' ∧ (0 < m → ∃ b o, qa = some ⟨b, o, none⟩ ∧ ∀ j v, us[j]? = some v → w.cell? ⟨b, o + j, none⟩ = some v) := by
  unfold rhsv at h
  split at h
  · split at h
    · rename_i e sz2 m2 ys2 pub hoo
      simp only [Option.some.injEq, Prod.mk.injEq] at h
      obtain ⟨rfl, rfl, rfl⟩ := h
      have hat := (hs.owns _ _ hoo).2.2.1
      simp only [Ow.at_] at hat
      simp only [TF.at_] at hu
      obtain ⟨hl, hat⟩ := hat
      rcases hat with ⟨_, ⟨rfl, p, e⟩ | ⟨hn, _, b, o, e, hm, hb, hc⟩⟩ | ⟨b, cap, cur, _, e, hh, h1, h2, h3, h4, h5⟩
      · have : ys2 = [] := List.eq_nil_of_length_eq_zero (by simpa using hl)
        subst this
        exact ⟨p, 0, [], hu.trans e, by simp [RV.listAt], by simp, fun h => absurd h (by omega)⟩
      · obtain ⟨us, q1, q2, q3⟩ := RV.cells_list ys2 o hc
        exact ⟨_, m2, us, hu.trans e, q1, q2.trans hl, fun _ => ⟨b, o, rfl, q3⟩⟩
      · refine ⟨_, cap, _, hu.trans e, h5, (listAt_len h5).trans hl, fun _ => ⟨b, 0, rfl, fun j v hj => ?_⟩⟩
        rw [Nat.zero_add, cell_of_row w b j cur _ (0, 0) hh]
        rw [List.getElem?_take] at hj
        split at hj
        · simpa using hj
        · cases hj
    · cases h
  · rename_i sz2 m ys
    simp only [Option.some.injEq, Prod.mk.injEq] at h
    obtain ⟨rfl, rfl, rfl⟩ := h
    simp only [TF.at_, RV.at_] at hu
    obtain ⟨p, c, e, h1, h2, h3, h4⟩ := hu
    by_cases hm : 0 < m
    · obtain ⟨b, o, rfl, hb, hc⟩ := h4 hm
      obtain ⟨us, q1, q2, q3⟩ := RV.cells_list ys o hc
      exact ⟨_, c, us, e, q1, q2.trans h3, fun _ => ⟨b, o, rfl, q3⟩⟩
    · obtain rfl : m = 0 := by omega
      have : ys = [] := List.eq_nil_of_length_eq_zero (by simpa using h3)
      subst this
      exact ⟨p, c, [], e, by simp [RV.listAt], by simp, fun h => absurd h (by omega)⟩
  · simp only [Option.some.injEq, Prod.mk.injEq] at h
    obtain ⟨rfl, rfl, rfl⟩ := h
    simp only [TF.at_, RV.at_] at hu
    exact ⟨none, 0, [], hu, by simp [RV.listAt], by simp, fun h => absurd h (by omega)⟩
  · cases h

theorem own_block (hs : SatE B N S a w k g) {ob : Option Nat} {id : Option Nat} (hid : idOk S g ob id) {b : Nat} (hb : ob = some b) : (B.w.heap.size ≤ b ∨ b ∈ B.X) ∧ b < w.heap.size := by
  cases id with
  | none => simp only [idOk] at hid; rw [hid] at hb; cases hb
  | some i =>
    obtain ⟨⟨o, ho⟩, hg⟩ := hid
    exact (hs.owns i o ho).2.2.2 b (hg.trans hb)
theorem own_apart (hs : SatE B N S a w k g) {ob : Option Nat} {id : Option Nat} (hid : idOk S g ob id) {i : Nat} {o' : Ow} {b : Nat} (ho : oget (S.strike id).O i = some o') (hb : ob = some b) : (g i).2 ≠ some b := by
  cases id with
  | none => simp only [idOk] at hid; rw [hid] at hb; cases hb
  | some j =>
    obtain ⟨⟨o, hj⟩, hg⟩ := hid
    rcases oget_cons ho with ⟨_, e⟩ | ⟨hne, ho⟩
    · cases e
    · exact hs.apart j i o o' b hj ho hne (hg.trans hb)

theorem appv_sound (hT : TOk P T) (hs : SatE B N S a w k g) (hd : ∀ d, o.dst = some d → d < N) {t ty : TypeId} {f f2 : TF} {u u2 : Value} (hu : f.at_ w k g u) (hu2 : f2.at_ w k g u2) {K : Option Nat → Ow → Prop} (h : appv S T t f f2 K) :
    ∃ id ow v w' k', K id ow ∧ (Builtin.append_ #[t, t] ty #[u, u2]).run P w = .ok v w' ∧ Sat B N ((S.strike id).mk_ o.dst ow) (a.put o.dst v) w' k' := by
  unfold appv at h
  split at h
  · rename_i ti hti
    obtain ⟨q, hq⟩ := hT.get hti
    obtain ⟨d, hdd, hko, _⟩ := q.desc
    rw [hq] at hdd
    split at h
    · rename_i e hk
      rw [hk] at hko
      simp only [KOk] at hko
      subst hko
      split at h
      · rename_i te hte
        obtain ⟨qe, hqe⟩ := hT.get hte
        obtain ⟨i, hi, hsz, hby, z, hz, hzc⟩ := qe.info
        rw [hqe] at hi
        split at h
        · rename_i id e' sz n cells pub hl
          split at h
          · exact h.elim
          · rename_i hcond
            simp only [Bool.and_eq_true, Nat.beq_eq] at hcond
            obtain ⟨rfl, rfl, hpos⟩ := hcond
            have hpos : 0 < te.sz := by simp [Nat.blt] at hpos; omega
            split at h
            · rename_i sz' m ys hr
              split at h
              · rename_i hsz'
                obtain rfl := Nat.eq_of_beq_eq_true hsz'
                obtain ⟨h63, hbytes, j, zs, rfl, rfl, hK⟩ := h
                obtain ⟨ob, hch, hid⟩ := lhs_at hs hl hu
                obtain ⟨qa, qc, us, rfl, hus, husl, hsrc⟩ := rhs_at hs hr hu2
                rcases Nat.eq_zero_or_pos m with rfl | hm
                · have hys : ys = [] := List.eq_nil_of_length_eq_zero (by rw [← listAt_len hus, husl]; simp)
                  subst hys
                  have hform : ∃ p c, u = .slice p n c ∧ n ≤ c := by
                    rcases hch.2 with ⟨_, ⟨rfl, p, e⟩ | ⟨_, _, b, o', e, _⟩⟩ | ⟨b, cap, cur, _, e, _, h1, _⟩
                    · exact ⟨p, 0, e, Nat.le_refl _⟩
                    · exact ⟨_, n, e, Nat.le_refl _⟩
                    · exact ⟨_, cap, e, h1⟩
                  obtain ⟨p, c, rfl, hnc⟩ := hform
                  have hw : Wrote w k w k ob := ⟨rfl, rfl, rfl, Nat.le_refl _, fun _ _ _ => ⟨rfl, rfl⟩, fun _ _ => ⟨Nat.le_refl _, fun _ _ => rfl, fun _ _ _ h => h⟩⟩
                  refine ⟨id, _, .slice p n c, w, k, hK, ?_, ?_⟩
                  · cases p <;> cases qa <;> simp [Builtin.append_, run_underlying hdd, sizeOf, typeInfo, hi, Builtin.lenOf, Builtin.firstCells, loadCells, loadCellsFrom, hnc, storeCells]
                  · have h1 := hs.wrote hw hid
                    have h2 : Ow.at_ w k g (.slice p n c, ob) (.ch e' te.sz (n + 0) (cells ++ []) pub) := by simpa [Ow.at_] using hch
                    have hobs : ∀ b, ob = some b → (B.w.heap.size ≤ b ∨ b ∈ B.X) ∧ b < w.heap.size := fun b hb => own_block hs hid hb
                    exact ⟨_, h1.adopt hd (o := .ch e' te.sz (n + 0) (cells ++ []) pub) (vb := (.slice p n c, ob)) trivial h2 hobs (fun i o' b ho hb => own_apart hs hid ho hb)⟩
                · obtain ⟨qb, qo, rfl, hcells⟩ := hsrc hm
                  obtain ⟨xs, b, cap, cur, w', hrun, hxs, hh, h1, h2, h3, h4, hgr, hbb, hb0⟩ := app_run (ty := ty) hdd hi hz hsz hby (by rw [← Array.length_toList, hzc, qe.zsz]) hch (c := qc) husl hcells (fun v hv => by
                    obtain ⟨j, hj⟩ := List.getElem?_of_mem hv
                    have hjl : j < ys.length := by rw [← listAt_len hus]; exact (List.getElem?_eq_some_iff.1 hj).1
                    exact ((RV.listAt_iff _ _).1 hus |>.2 j _ v (List.getElem?_eq_getElem hjl) hj).1) hm h63 hbytes
                  have hkb0 : ∀ b0, ob = some b0 → k b0 = (if pub then n * te.sz else 0) := fun b0 hb0 => by
                    rcases hch.2 with ⟨h, _⟩ | ⟨b', cap', cur', h, _, _, _, _, _, h', _⟩
                    · rw [h] at hb0; cases hb0
                    · rw [h] at hb0; cases hb0; exact h'
                  have hbs : b < w'.heap.size := (Array.getElem?_eq_some_iff.1 hh).1
                  have hw : Wrote w k w' (kset k b (if pub then (n + m) * te.sz else 0)) ob := by
                    refine ⟨hgr.os, hgr.tape, hgr.output, hgr.size, fun x hx hne => ⟨hgr.block x hx hne, ?_⟩, fun x hx => ?_⟩
                    · rcases hbb with h | h
                      · have : x ≠ b := fun e => hne (by rw [h, e])
                        simp [kset, this]
                      · have : x ≠ b := by omega
                        simp [kset, this]
                    · obtain ⟨⟨cur0, hc0, hx0⟩, hsame⟩ := hb0 x hx.symm
                      have hkx := hkb0 x hx.symm
                      have hle : n * te.sz ≤ (n + m) * te.sz := Nat.mul_le_mul_right _ (by omega)
                      rcases hsame with rfl | ⟨hbn, hsame⟩
                      · refine ⟨by rw [kset_new, hkx]; split <;> omega, fun o' ho' => ?_, fun _ es c e => by rw [hc0] at e; cases e⟩
                        have ho2 : o' < n * te.sz := by rw [hkx] at ho'; split at ho' <;> omega
                        rw [cell_of_row w' b o' cur e' (0, 0) hh, cell_of_row w b o' cur0 e' (0, 0) hc0]
                        have e1 : cur.toList[o']? = (cur.toList.take ((n + m) * te.sz))[o']? := by rw [List.getElem?_take, if_pos (by omega)]
                        have e2 : cur0.toList[o']? = (cur0.toList.take (n * te.sz))[o']? := by rw [List.getElem?_take, if_pos ho2]
                        have hxl : xs.length = n * te.sz := by rw [listAt_len hxs, hch.1]
                        rw [← Array.getElem?_toList, ← Array.getElem?_toList, e1, e2, h4, hx0, List.getElem?_append_left (by omega)]
                      · have hne : x ≠ b := by
                          have : x < w.heap.size := (Array.getElem?_eq_some_iff.1 hc0).1
                          omega
                        exact ⟨by simp [kset, hne], fun o' _ => World.cell?_of_block (a := ⟨x, o', none⟩) hsame, fun _ es c e => hsame.trans e⟩
                  have g1 := hs.wrote hw hid
                  have hle := hw.le
                  have hown : Ow.at_ w' (kset k b (if pub then (n + m) * te.sz else 0)) g (.slice (some ⟨b, 0, none⟩) (n + m) cap, some b) (.ch e' te.sz (n + m) (cells ++ ys) pub) := by
                    simp only [Ow.at_]
                    refine ⟨by rw [List.length_append, hch.1, ← listAt_len hus, husl, Nat.add_mul], .inr ⟨b, cap, cur, rfl, rfl, hh, h1, h2, h3, kset_new, ?_⟩⟩
                    rw [h4]
                    exact listAt_append (RV.list_mono hle _ _ hxs) (RV.list_mono hle _ _ hus)
                  refine ⟨id, _, _, w', _, hK, hrun, _, g1.adopt hd (vb := (.slice (some ⟨b, 0, none⟩) (n + m) cap, some b)) trivial hown (fun b' hb' => ?_) fun i' o' b' ho' hb' => ?_⟩
                  · cases hb'
                    refine ⟨?_, hbs⟩
                    rcases hbb with h | h
                    · exact (own_block hs hid h).1
                    · left; have := hs.keep.size; omega
                  · cases hb'
                    rcases hbb with h | h
                    · exact own_apart hs hid ho' h
                    · intro hgi
                      have hold : (g i').2 = some b → b < w.heap.size := by
                        cases id with
                        | none => exact fun hgi => ((hs.owns i' o' ho').2.2.2 b hgi).2
                        | some j =>
                          rcases oget_cons ho' with ⟨_, e⟩ | ⟨_, ho'⟩
                          · cases e
                          · exact fun hgi => ((hs.owns i' o' ho').2.2.2 b hgi).2
                      have := hold hgi
                      omega
              · exact h.elim
            · exact h.elim
        · exact h.elim
      · exact h.elim
    · exact h.elim
  · exact h.elim
end

end Go.Proofs.YtpdllgbfemnemaaGreat.Sx
