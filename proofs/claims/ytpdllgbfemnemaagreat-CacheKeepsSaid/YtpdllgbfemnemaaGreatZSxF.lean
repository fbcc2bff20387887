import Derived.Test.YtpdllgbfemnemaaGreatZSxE
import Derived.Laws.MakeOwn
import Derived.Laws.CopyRow
namespace Go.Proofs.YtpdllgbfemnemaaGreat.Sx
open Go.RowKit

section
variable {P : Program} {T : TT} {B : Bs} {N : Nat} {S : St} {a : Act} {w : World} {k : Kp} {g : Env} {o : Oper} {next : Act → World → Prop} {Q : Exit → Act → World → Prop}

/-! ### Building -/
theorem foldl_splice (off : Nat) : ∀ (l : List Value) (i : Nat) (cs : Array Value), off + i + l.length ≤ cs.size →
    ((l.zipIdx i).foldl (fun cs (c, j) => cs.setIfInBounds (off + j) c) cs).toList = cs.toList.take (off + i) ++ l ++ cs.toList.drop (off + i + l.length)
  | [], i, cs, _ => by simp
  | v :: r, i, cs, h => by
    simp only [List.length_cons] at h
    simp only [List.zipIdx_cons, List.foldl_cons]
    rw [foldl_splice off r (i + 1) _ (by simp; omega)]
    have := list_seg_step cs.toList (off + i) v r (by simp; omega)
    simpa [Array.toList_setIfInBounds, Nat.add_assoc] using this

theorem listAt_len {fs : List RV} {us : List Value} (h : RV.listAt w k fs us) : us.length = fs.length := ((RV.listAt_iff fs us).1 h).1
theorem listAt_append {fs gs : List RV} {us vs : List Value} (h : RV.listAt w k fs us) (h' : RV.listAt w k gs vs) : RV.listAt w k (fs ++ gs) (us ++ vs) := by
  induction fs generalizing us with
  | nil => simp only [RV.listAt] at h; subst h; simpa using h'
  | cons f fs ih =>
    simp only [RV.listAt] at h
    obtain ⟨u, r, rfl, h1, h2, h3⟩ := h
    simp only [List.cons_append, RV.listAt]
    exact ⟨u, r ++ vs, rfl, h1, h2, ih h3⟩
theorem listAt_take {fs : List RV} {us : List Value} (h : RV.listAt w k fs us) (n : Nat) : RV.listAt w k (fs.take n) (us.take n) := by
  rw [RV.listAt_iff] at h ⊢
  refine ⟨by simp [h.1], fun j f u hf hu => ?_⟩
  rw [List.getElem?_take] at hf hu
  split at hf
  · rename_i hj
    rw [if_pos hj] at hu
    exact h.2 j f u hf hu
  · cases hf
theorem listAt_drop {fs : List RV} {us : List Value} (h : RV.listAt w k fs us) (n : Nat) : RV.listAt w k (fs.drop n) (us.drop n) := by
  rw [RV.listAt_iff] at h ⊢
  refine ⟨by simp [h.1], fun j f u hf hu => ?_⟩
  rw [List.getElem?_drop] at hf hu
  exact h.2 _ f u hf hu
theorem listAt_ofC : ∀ (vs : List Value), (∀ v ∈ vs, v.oneCell' = true) → RV.listAt w k (vs.map ofC) vs
  | [], _ => by simp [RV.listAt]
  | v :: r, h => by
    simp only [List.map_cons, RV.listAt]
    exact ⟨v, r, rfl, h v (by simp), ofC_at v, listAt_ofC r fun x hx => h x (by simp [hx])⟩

theorem RV.one_at {v : RV} {u : Value} (hv : v.at_ w k u) (hok : okCell v = true) (hag : ∀ l, v ≠ .ag l) : u.oneCell' = true := by
  cases v with
  | i kd n => simp only [RV.at_] at hv; subst hv; rfl
  | b c => simp only [RV.at_] at hv; subst hv; rfl
  | x v => simp only [RV.at_] at hv; subst hv; exact hok
  | sl sz n cells => simp only [RV.at_] at hv; obtain ⟨a, c, rfl, _⟩ := hv; rfl
  | ptr cells => simp only [RV.at_] at hv; obtain ⟨b, o, rfl, _⟩ := hv; rfl
  | ag l => exact absurd rfl (hag l)
  | tu l => simp [okCell] at hok
  | s p => simp only [RV.at_] at hv; exact p.one hv
  | any => simp [okCell] at hok
theorem cells_one {u : Value} (h : u.oneCell' = true) : u.cells = #[u] := by cases u <;> simp_all [Value.cells, Value.oneCell']

/-- What reads as more than one cell is an aggregate; what is none is one cell. -/
theorem cells_at {v : RV} {u : Value} (hv : v.at_ w k u) (hok : okCell v = true) : RV.listAt w k (cellsOf v) u.cells.toList := by
  by_cases hag : ∃ l, v = .ag l
  · obtain ⟨l, rfl⟩ := hag
    simp only [RV.at_] at hv
    obtain ⟨us, rfl, hl⟩ := hv
    simpa [cellsOf, Value.cells] using hl
  · have h1 := RV.one_at hv hok fun l e => hag ⟨l, e⟩
    rw [cells_one h1]
    have : cellsOf v = [v] := by
      cases v with
      | ag l => exact absurd ⟨l, rfl⟩ hag
      | _ => rfl
    rw [this]
    simp only [RV.listAt]
    exact ⟨u, [], rfl, h1, hv, rfl⟩

theorem fills_sound (hs : SatE B N S a w k g) {place : Nat → Option (Nat × Nat)} : ∀ {parts : List (Nat × Operand)} {cells : List RV} {vs : Array Value} {K : List RV → Prop},
    RV.listAt w k cells vs.toList → fills S place cells parts K → ∃ cells' vs', K cells' ∧ cells'.length = cells.length ∧ RV.listAt w k cells' vs'.toList ∧ Instr.fill place vs (parts.map fun (i, x) => (i, a.eval x)) = some vs'
  | [], cells, vs, K, hl, h => ⟨cells, vs, h, rfl, hl, rfl⟩
  | (i, x) :: r, cells, vs, K, hl, h => by
    simp only [fills] at h
    split at h
    · rename_i off sz f hp hf
      split at h
      · rename_i v hv
        split at h
        · rename_i hok
          simp only [Bool.and_eq_true, Nat.beq_eq, Nat.ble_eq] at hok
          obtain ⟨hok, hsz, hfit⟩ := hok
          have hat := rv_at hs hv (opr_at hs hf).2
          have hc := cells_at hat hok
          have hcl := listAt_len hc
          rw [Array.length_toList] at hcl
          have hvl := listAt_len hl
          rw [Array.length_toList] at hvl
          have hnew : RV.listAt w k (fillR cells off (cellsOf v)) ((((a.eval x).cells.zipIdx).foldl (fun cs (c, j) => cs.setIfInBounds (off + j) c) vs).toList) := by
            have := foldl_splice off (a.eval x).cells.toList 0 vs (by rw [Array.length_toList]; omega)
            rw [← Array.foldl_toList, Array.toList_zipIdx, this]
            unfold fillR
            rw [Nat.add_zero, show (a.eval x).cells.toList.length = (cellsOf v).length by rw [Array.length_toList]; exact hcl]
            exact listAt_append (listAt_append (listAt_take hl off) hc) (listAt_drop hl _)
          obtain ⟨cells', vs', hK, h0, h1, h2⟩ := fills_sound hs hnew h
          refine ⟨cells', vs', hK, h0.trans (by simp [fillR]; omega), h1, ?_⟩
          simp only [List.map_cons, Instr.fill, hp]
          rw [if_neg (by simp only [ne_eq, Bool.or_eq_true, decide_eq_true_eq, not_or, Decidable.not_not, Nat.not_lt]; omega)]
          exact h2
        · exact h.elim
      · exact h.elim
    · exact h.elim

theorem heap_new (w : World) (c : Array Value) (t : TypeId) : (w.alloc (.cells c t)).heap[w.heap.size]? = some (.cells c t (0, 0)) := heap_alloc_new w _
theorem ext_alloc (w : World) (o : Obj) : Ext w (w.alloc o) := (Below.refl _ _).alloc (Nat.le_refl _) o
/-- The new block has so many cells that stay. -/
def kset (k : Kp) (b n : Nat) : Kp := fun i => if i = b then n else k i
theorem kset_old {b n : Nat} : ∀ i, i < b → kset k b n i = k i := fun i hi => by simp [kset, Nat.ne_of_lt hi]
theorem kset_new {b n : Nat} : kset k b n b = n := by simp [kset]
theorem le_alloc (w : World) (k : Kp) (o : Obj) (n : Nat) : Le w k (w.alloc o) (kset k w.heap.size n) := Ext.le (ext_alloc w o) (fun b hb => kset_old b hb)
theorem size_alloc (w : World) (o : Obj) : (w.alloc o).heap.size = w.heap.size + 1 := by simp

/-- What an operation that reads or makes has come to. -/
def Loc (S : St) (w : World) (k : Kp) (g : Env) (w' : World) (k' : Kp) (f : TF) (ow : Option Ow) (v : Value) : Prop :=
  Ext w w' ∧ (∀ b, b < w.heap.size → k' b = k b) ∧
  (match ow with
    | none => f.lt S.nx ∧ f.at_ w' k' g v
    | some o => ∃ ob, f = .own S.nx ∧ o.lt S.nx ∧ o.at_ w' k' g (v, ob) ∧ ∀ b, ob = some b → w.heap.size ≤ b ∧ b < w'.heap.size)

/-- A new box. -/
theorem make_box (_hs : SatE B N S a w k g) {cells : List TF} {cs : Array Value} {t : TypeId} (hlt : ∀ f ∈ cells, f.lt S.nx) (hsz : cs.size = cells.length)
    (hc : ∀ (j : Nat) (f : TF) (u : Value), cells[j]? = some f → cs[j]? = some u → u.oneCell' = true ∧ f.at_ w k g u) :
    ∃ k', Loc S w k g (w.alloc (.cells cs t)) k' (.own S.nx) (some (.box cells)) (.pointer (some ⟨w.heap.size, 0, none⟩)) := by
  have hle := le_alloc w k (.cells cs t) 0
  refine ⟨kset k w.heap.size 0, ext_alloc w _, fun b hb => kset_old b hb, some w.heap.size, rfl, hlt, ?_, ?_⟩
  · simp only [Ow.at_]
    exact ⟨w.heap.size, cs, t, rfl, heap_new w cs t, kset_new, hsz, fun j f u hf hu => ⟨(hc j f u hf hu).1, TF.mono hle (hc j f u hf hu).2⟩⟩
  · intro b hb
    cases hb
    exact ⟨Nat.le_refl _, by simp⟩

/-- A new slice. -/
theorem make_ch (_hs : SatE B N S a w k g) {e : TypeId} {sz n : Nat} {cells : List RV} {cs : Array Value} (pub : Bool) (hsz : cells.length = n * sz) (hn : n ≤ maxLen)
    (hc : RV.listAt w k cells cs.toList) :
    ∃ k', Loc S w k g (w.alloc (.cells cs e)) k' (.own S.nx) (some (.ch e sz n cells pub)) (.slice (some ⟨w.heap.size, 0, none⟩) n n) := by
  have hle := le_alloc w k (.cells cs e) (if pub then n * sz else 0)
  have hcs : cs.size = n * sz := by rw [← hsz, ← listAt_len hc, Array.length_toList]
  refine ⟨kset k w.heap.size (if pub then n * sz else 0), ext_alloc w _, fun b hb => kset_old b hb, some w.heap.size, rfl, trivial, ?_, ?_⟩
  · simp only [Ow.at_]
    refine ⟨hsz, .inr ⟨w.heap.size, n, cs, rfl, rfl, heap_new w cs e, Nat.le_refl _, hn, hcs, kset_new, ?_⟩⟩
    rw [List.take_of_length_le (by rw [Array.length_toList]; omega)]
    exact RV.list_mono hle _ _ hc
  · intro b hb
    cases hb
    exact ⟨Nat.le_refl _, by simp⟩
/-- What it comes to is a state. -/
theorem Loc.sat (hs : SatE B N S a w k g) {dst : Option Nat} (hd : ∀ d, dst = some d → d < N) {w' : World} {k' : Kp} {f : TF} {ow : Option Ow} {v : Value} (h : Loc S w k g w' k' f ow v) : Sat B N (S.new dst f ow) (a.put dst v) w' k' := by
  obtain ⟨h1, h2, h3⟩ := h
  cases ow with
  | none => exact ⟨g, (hs.ext h1 h2).put hd h3.1 h3.2⟩
  | some o =>
    obtain ⟨ob, _, h4, h5, h6⟩ := h3
    exact ⟨_, hs.make hd h1 h2 (vb := (v, ob)) h4 h5 h6⟩

/-! ### All that read or make -/
theorem ofC_zero {ti : TI} (hti : TIOk P ti) {z : Value} (hz : z.cells.toList = ti.zero) : RV.listAt w k (ti.zero.map ofC) z.cells.toList := by
  rw [hz]; exact listAt_ofC _ hti.one

theorem Sat.of (h : SatE B N S a w k g) : Sat B N S a w k := ⟨g, h⟩

theorem run_sliceBound {kd : IntKind} {x : Int} {y : Nat} {code : BoundsCode} (h0 : 0 ≤ x) (h1 : x ≤ y) : (Instr.sliceBound (.int kd x) y code).run P w = .ok x.toNat w := by
  simp [Instr.sliceBound, asIntOf, h0, h1]
theorem run_sliceAt {t e : TypeId} {p : Option Addr} {n c sz : Nat} {lo hi : Int} {vl vh : Option Value} (hu : P.underlying t = some (.slice e)) (hz : (sizeOf e).run P w = .ok sz w)
    (hnc : n ≤ c) (h0 : 0 ≤ lo) (h1 : lo ≤ hi) (h2 : hi ≤ n)
    (hvl : (vl = none ∧ lo = 0) ∨ ∃ kd, vl = some (.int kd lo)) (hvh : (vh = none ∧ hi = n) ∨ ∃ kd, vh = some (.int kd hi)) :
    ∃ q, (Instr.sliceAt t (.slice p n c) vl vh none).run P w = .ok (.slice q (hi.toNat - lo.toNat) (c - lo.toNat)) w ∧ (lo < hi → ∀ b o, p = some ⟨b, o, none⟩ → q = some ⟨b, o + lo.toNat * sz, none⟩) := by
  refine ⟨if c = lo.toNat then p else p.map (·.add (lo.toNat * sz)), ?_, fun hlt b o hpp => ?_⟩
  · obtain ⟨hn, rfl⟩ := Int.eq_ofNat_of_zero_le (show 0 ≤ hi by omega)
    obtain ⟨ln, rfl⟩ := Int.eq_ofNat_of_zero_le h0
    have e1 : ∀ kd, (Instr.sliceBound (.int kd (hn : Int)) c .sliceAcap).run P w = .ok hn w := fun kd => by rw [run_sliceBound (by omega) (by omega)]; simp
    have e0 : ∀ kd, (Instr.sliceBound (.int kd (ln : Int)) hn .sliceB).run P w = .ok ln w := fun kd => by rw [run_sliceBound (by omega) (by omega)]; simp
    simp only [Int.toNat_natCast]
    rcases hvl with ⟨rfl, hl0⟩ | ⟨kd, rfl⟩ <;> rcases hvh with ⟨rfl, hh0⟩ | ⟨kd', rfl⟩
    · obtain rfl : ln = 0 := by omega
      obtain rfl : hn = n := by omega
      simp [Instr.sliceAt, Instr.slice, Instr.sliceBounds, run_underlying hu w, hz]
    · obtain rfl : ln = 0 := by omega
      simp [Instr.sliceAt, Instr.slice, Instr.sliceBounds, run_underlying hu w, hz, e1]
    · obtain rfl : hn = n := by omega
      simp [Instr.sliceAt, Instr.slice, Instr.sliceBounds, run_underlying hu w, hz, e0]
    · simp [Instr.sliceAt, Instr.slice, Instr.sliceBounds, run_underlying hu w, hz, e0, e1]
  · rw [if_neg (by omega), hpp]
    simp [Addr.add_mid]

theorem callFunc_run {f : FuncId} {fn : Func} {c : Code} (hf : P.funcs[f]? = some fn) (hb : fn.body = some c) (hn : fn.name ≠ "runtime.NumGoroutine") (args : Array Value) : (callFunc f args).run P w = .ok (.enter f args) w := by
  simp [callFunc, hf, hb, hn]

theorem run_mapM {α β : Type} (f : α → Sem β) (h : α → β) (w : World) : ∀ (l : List α), (∀ x ∈ l, (f x).run P w = .ok (h x) w) → (l.mapM f).run P w = .ok (l.map h) w
  | [], _ => by simp
  | x :: r, hx => by
    rw [List.mapM_cons]
    simp [hx x (by simp), run_mapM f h w r fun y hy => hx y (by simp [hy])]
theorem run_mapM_arr {α β : Type} (f : α → Sem β) (h : α → β) (w : World) (l : Array α) (hx : ∀ x ∈ l.toList, (f x).run P w = .ok (h x) w) : (l.mapM f).run P w = .ok (l.map h) w := by
  rw [Array.mapM_eq_mapM_toList]
  simp only [Sem.run_map, run_mapM f h w l.toList hx, Result.andThen_ok]
  congr 1
  apply Array.ext'
  simp

theorem fill_congr {p q : Nat → Option (Nat × Nat)} : ∀ (l : List (Nat × Value)) (cells : Array Value) (r : Array Value), (∀ i v, p i = some v → q i = some v) → Instr.fill p cells l = some r → Instr.fill q cells l = some r
  | [], _, _, _, h => h
  | (i, v) :: l, cells, r, hpq, h => by
    simp only [Instr.fill] at h ⊢
    cases hp : p i with
    | none => simp [hp] at h
    | some os =>
      obtain ⟨off, sz⟩ := os
      rw [hpq i _ hp]
      simp only [hp] at h
      simp only
      split at h
      · cases h
      · rename_i hc
        rw [if_neg hc]
        exact fill_congr l _ r hpq h

theorem run_build (hT : TOk P T) {t : TypeId} {ti : TI} {fs : List (Nat × TypeId)} {parts : Array (Nat × Value)} {z : Value} {i : TypeInfo} {vs : Array Value} (q : TIOk P ti) (hq : ti.id = t) (hk : ti.k = .struct fs)
    (hi : P.info? t = some i) (hz : i.zero = some z) (hf : Instr.fill (structPlace T fs) z.cells parts.toList = some vs) : (Instr.build t parts).run P w = .ok (.agg vs) w := by
  obtain ⟨d, hdd, hko, _⟩ := q.desc
  rw [hq] at hdd
  rw [hk] at hko
  obtain ⟨fields, rfl, hfs⟩ := hko
  let pl : Field → Nat × Nat := fun f => (f.offset, ((P.info? f.type).map (·.size)).getD 0)
  have hm := run_mapM_arr (P := P) (fun f : Field => do pure (f.offset, ← sizeOf f.type)) pl w fields fun x hx => by
    obtain ⟨j, hj⟩ := q.flds fs hk (x.offset, x.type) (by rw [← hfs]; exact List.mem_map.2 ⟨x, hx, rfl⟩)
    simp only at hj
    simp [sizeOf, typeInfo, hj, pl]
  have hfill : Instr.fill (fun x => (fields.map pl)[x]?) z.cells parts.toList = some vs := by
    refine fill_congr _ _ _ ?_ hf
    intro i' v' hv'
    unfold structPlace at hv'
    rw [lget_eq] at hv'
    split at hv'
    · rename_i off t' hl
      split at hv'
      · rename_i ti' hti'
        cases hv'
        obtain ⟨q', hq'⟩ := hT.get hti'
        obtain ⟨j, hj, hsz, _⟩ := q'.info
        rw [← hfs, List.getElem?_map] at hl
        cases hfi : fields.toList[i']? with
        | none => simp [hfi] at hl
        | some fd =>
          simp only [hfi, Option.map_some, Option.some.injEq, Prod.mk.injEq] at hl
          have hfa : fields[i']? = some fd := by simpa using hfi
          simp only [Array.getElem?_map, hfa, Option.map_some, pl]
          rw [hl.2, ← hq', hj, hl.1]
          simp [hsz]
      · cases hv'
    · cases hv'
  simp only [Instr.build, zeroValue, typeInfo, Sem.run_bind, run_program, Result.andThen_ok, hi, hz, Sem.run_pure, run_underlying hdd w, hm, hfill]

theorem made_toList {z : Array Value} {n sz : Nat} (hz : z.size = sz) : (madeCells z (n * sz)).toList = (List.replicate n z.toList).flatten := by
  induction n with
  | zero => simp [madeCells]
  | succ n ih =>
    rw [List.replicate_succ', List.flatten_append, ← ih]
    simp only [madeCells, Array.toList_map, Array.toList_range, List.flatten_cons, List.flatten_nil, List.append_nil]
    rw [Nat.add_mul, Nat.one_mul, List.range_add, List.map_append, List.map_map]
    congr 1
    apply List.ext_getElem
    · simp [hz]
    · intro j h1 h2
      simp only [List.length_map, List.length_range] at h1
      have : (n * sz + j) % sz = j := by rw [Nat.add_comm, Nat.add_mul_mod_self_right]; exact Nat.mod_eq_of_lt h1
      simp [hz, this]
      rw [getElem!_pos z j (by omega)]
theorem made_at {te : TI} (qe : TIOk P te) {z : Value} (hzc : z.cells.toList = te.zero) (n : Nat) : RV.listAt w k (List.replicate n (te.zero.map ofC)).flatten (madeCells z.cells (n * te.sz)).toList := by
  have hsz : z.cells.size = te.sz := by rw [← Array.length_toList, hzc, qe.zsz]
  rw [made_toList hsz, hzc]
  induction n with
  | zero => simp [RV.listAt]
  | succ n ih =>
    rw [List.replicate_succ, List.replicate_succ, List.flatten_cons, List.flatten_cons]
    exact listAt_append (listAt_ofC _ qe.one) ih

theorem run_buildSlice_ {t e : TypeId} {n : Nat} {parts : Array (Nat × Value)} {te : TI} {z : Value} {i : TypeInfo} {vs : Array Value} (hu : P.underlying t = some (.slice e)) (hi : P.info? e = some i) (hsz : i.size = te.sz) (hz : i.zero = some z)
    (hbig : n * te.sz ≤ 16777216) (hf : Instr.fill (fun i => some (i * te.sz, te.sz)) (madeCells z.cells (n * te.sz)) parts.toList = some vs) :
    (Instr.buildSlice t n parts).run P w = .ok (.slice (some ⟨w.heap.size, 0, none⟩) n n) (w.alloc (.cells vs e)) := by
  have hb : ¬ n * te.sz > 2 ^ 24 := by omega
  by_cases h0 : n * te.sz = 0
  · have : (Array.range (n * te.sz)).map (#[][· % 0]! : Nat → Value) = madeCells z.cells (n * te.sz) := by rw [h0]; simp [madeCells]
    simp only [Instr.buildSlice, run_underlying hu w, Sem.run_bind, Result.andThen_ok, sizeOf, typeInfo, run_program, hi, Sem.run_pure, hsz, Sem.run_ite, if_neg hb, if_pos h0]
    simp only [List.size_toArray, List.length_nil] at this ⊢
    rw [this, hf]
    simp [newRow]
  · simp only [Instr.buildSlice, run_underlying hu w, Sem.run_bind, Result.andThen_ok, sizeOf, typeInfo, run_program, hi, Sem.run_pure, hsz, Sem.run_ite, if_neg hb, if_neg h0, zeroValue, hz]
    have : (Array.range (n * te.sz)).map (fun x => z.cells[x % z.cells.size]!) = madeCells z.cells (n * te.sz) := rfl
    rw [this, hf]
    simp [newRow]

theorem call_gives (_hs : SatE B N S a w k g) {f : FuncId} {vs ps : List RV} {us : List Value} {res : Res} {K : TF → Option Ow → Prop} (hus : RV.partsAt w k vs us) (hc : Cvs vs ps) (hg : Gives P f ps res)
    (hr : (execOp a.eval o).run P w = (callFunc f us.toArray).run P w)
    (hK : resK S K res) :
    o.wp P a w (fun a' w' => ∃ f ow v k', K f ow ∧ a' = a.put o.dst v ∧ Loc S w k g w' k' f ow v) Q := by
  obtain ⟨⟨fn, c, hf, hb, hn⟩, hg⟩ := hg
  unfold Oper.wp
  rw [hr, callFunc_run hf hb hn]
  simp only [Oper.upon]
  refine (hg w k us (hc.at_ hus)).mono ?_
  rintro e w' ⟨v, rfl, hext, k', hk', hres⟩
  simp only
  cases res with
  | r rv => exact ⟨_, none, v, k', hK, rfl, hext, hk', trivial, hres⟩
  | ch e sz n cells =>
    obtain ⟨ob, hch, hob⟩ := hres
    refine ⟨_, _, v, k', hK, rfl, hext, hk', ob, rfl, trivial, hch, fun b hb => ⟨hob b hb, ?_⟩⟩
    rcases hch.2 with ⟨h, _⟩ | ⟨b', cap, cur, h, _, hh, _⟩
    · rw [h] at hb; cases hb
    · rw [h] at hb; cases hb
      exact (Array.getElem?_eq_some_iff.1 hh).1
  | own e sz n cells =>
    obtain ⟨ob, hch, hob⟩ := hres
    refine ⟨_, _, v, k', hK, rfl, hext, hk', ob, rfl, trivial, hch, fun b hb => ⟨hob b hb, ?_⟩⟩
    rcases hch.2 with ⟨h, _⟩ | ⟨b', cap, cur, h, _, hh, _⟩
    · rw [h] at hb; cases hb
    · rw [h] at hb; cases hb
      exact (Array.getElem?_eq_some_iff.1 hh).1

theorem valv_loc (hT : TOk P T) (hs : SatE B N S a w k g) {K : TF → Option Ow → Prop} (hrd : reads o.op = true) (h : valv P T S o K) :
    o.wp P a w (fun a' w' => ∃ f ow v k', K f ow ∧ a' = a.put o.dst v ∧ Loc S w k g w' k' f ow v) Q := by
  have keep : ∀ {f : TF} {v : Value}, K f none → f.lt S.nx → f.at_ w k g v → (execOp a.eval o).run P w = .ok (.value v) w → o.wp P a w (fun a' w' => ∃ f ow v k', K f ow ∧ a' = a.put o.dst v ∧ Loc S w k g w' k' f ow v) Q :=
    fun {f v} hK hl hf hr => wp_val hr ⟨f, none, v, k, hK, rfl, Ext.refl w, fun _ _ => rfl, hl, hf⟩
  have fn : ∀ {xs : List Operand}, Vfun P S o xs (fun r => K (.r r) none) → o.wp P a w (fun a' w' => ∃ f ow v k', K f ow ∧ a' = a.put o.dst v ∧ Loc S w k g w' k' f ow v) Q := fun {xs} ⟨rs, hrs, r, hf, hK⟩ => by
    obtain ⟨v, hr, hat⟩ := hf a w k (oprs_at hs hrs)
    exact keep hK trivial hat hr
  unfold valv at h
  cases hop : o.op <;> rw [hop] at h <;> simp only [valvO] at h
  case move x =>
    split at h
    · rename_i f hf; exact keep h (opr_at hs hf).1 (opr_at hs hf).2 (by simp [execOp, hop])
    · exact h.elim
  case assign x =>
    split at h
    · rename_i f hf; exact keep h (opr_at hs hf).1 (opr_at hs hf).2 (by simp [execOp, hop])
    · exact h.elim
  case pick c x y =>
    split at h
    · rename_i β hc
      have hcv := (opr_at hs hc).2
      simp only [TF.at_, RV.at_] at hcv
      split at h
      · split at h
        · rename_i f hf; exact keep h (opr_at hs hf).1 (opr_at hs hf).2 (by simp [execOp, hop, hcv, asBool])
        · exact h.elim
      · split at h
        · rename_i f hf; exact keep h (opr_at hs hf).1 (opr_at hs hf).2 (by simp [execOp, hop, hcv, asBool])
        · exact h.elim
    · exact h.elim
  case nilCheck x =>
    split at h
    · rename_i id hx
      split at h
      · rename_i cells hoo
        have hat := (hs.owns _ _ hoo).2.2.1
        have hx' := opr_at hs hx
        simp only [Ow.at_] at hat
        obtain ⟨b, cur, ty, e, _⟩ := hat
        refine keep h hx'.1 hx'.2 ?_
        have := hx'.2
        simp only [TF.at_] at this
        simp [execOp, hop, this, e]
      · exact h.elim
    · rename_i id off hx
      have hx' := opr_at hs hx
      refine keep h hx'.1 hx'.2 ?_
      have := hx'.2
      simp only [TF.at_] at this
      obtain ⟨b, _, e⟩ := this
      simp [execOp, hop, e]
    · rename_i c hx
      have hx' := opr_at hs hx
      refine keep h hx'.1 hx'.2 ?_
      have := hx'.2
      simp only [TF.at_, RV.at_] at this
      obtain ⟨b, o, e, _⟩ := this
      simp [execOp, hop, e]
    · exact h.elim
  case alloc t =>
    split at h
    · rename_i ti hti
      obtain ⟨q, hq⟩ := hT.get hti
      obtain ⟨i, hi, _, _, z, hz, hzc⟩ := q.info
      rw [hq] at hi
      have hl := ofC_zero (w := w) (k := k) q hzc
      rw [RV.listAt_iff] at hl
      obtain ⟨k', hk'⟩ := make_box hs (cells := ti.zero.map fun v => .r (ofC v)) (cs := z.cells) (t := t) (by simp [TF.lt]) (by rw [← Array.length_toList, hzc]; simp) (fun j f u hf hu => by
        rw [List.getElem?_map] at hf
        cases hv : ti.zero[j]? with
        | none => simp [hv] at hf
        | some v =>
          simp only [hv, Option.map_some, Option.some.injEq] at hf
          subst hf
          exact hl.2 j (ofC v) u (by simp [hv]) (by simpa using hu))
      refine wp_val (v := .pointer (some ⟨w.heap.size, 0, none⟩)) (w' := w.alloc (.cells z.cells t)) ?_ ⟨_, _, _, k', h, rfl, hk'⟩
      simp [execOp, hop, Instr.alloc, zeroValue, typeInfo, hi, hz, newVar, newRow]
    · exact h.elim
  case box t x =>
    split at h
    · rename_i l hx
      have hx' := (opr_at hs hx).2
      simp only [TF.at_, RV.at_] at hx'
      obtain ⟨us, e, hl⟩ := hx'
      have hll := listAt_len hl
      rw [Array.length_toList] at hll
      rw [RV.listAt_iff] at hl
      obtain ⟨k', hk'⟩ := make_box hs (cells := l.map .r) (cs := us) (t := t) (by simp [TF.lt]) (by simp [hll]) (fun j f u hf hu => by
        rw [List.getElem?_map] at hf
        cases hv : l[j]? with
        | none => simp [hv] at hf
        | some v =>
          simp only [hv, Option.map_some, Option.some.injEq] at hf
          subst hf
          exact hl.2 j v u hv (by simpa using hu))
      refine wp_val (v := .pointer (some ⟨w.heap.size, 0, none⟩)) (w' := w.alloc (.cells us t)) ?_ ⟨_, _, _, k', h, rfl, hk'⟩
      simp [execOp, hop, Instr.box, newVar, newRow, e, Value.cells]
    · rename_i v hna hx
      split at h
      · rename_i hok
        have hx' := (opr_at hs hx).2
        simp only [TF.at_] at hx'
        have h1 := RV.one_at hx' hok hna
        obtain ⟨k', hk'⟩ := make_box hs (cells := [.r v]) (cs := #[a.eval x]) (t := t) (by simp [TF.lt]) (by simp) (fun j f u hf hu => by
          cases j with
          | zero => simp at hf hu; subst hf; subst hu; exact ⟨h1, hx'⟩
          | succ j => simp at hf)
        refine wp_val (v := .pointer (some ⟨w.heap.size, 0, none⟩)) (w' := w.alloc (.cells #[a.eval x] t)) ?_ ⟨_, _, _, k', h, rfl, hk'⟩
        simp [execOp, hop, Instr.box, newVar, newRow, cells_one h1]
      · exact h.elim
    · rename_i id hx
      split at h
      · rename_i ow hoo
        have hx' := opr_at hs hx
        have h1 : (a.eval x).oneCell' = true := by
          have := hx'.2
          simp only [TF.at_] at this
          rw [this]; exact own_one hs hoo
        obtain ⟨k', hk'⟩ := make_box hs (cells := [.own id]) (cs := #[a.eval x]) (t := t) (by simpa using hx'.1) (by simp) (fun j f' u hf hu => by
          cases j with
          | zero => simp at hf hu; subst hf; subst hu; exact ⟨h1, hx'.2⟩
          | succ j => simp at hf)
        refine wp_val (v := .pointer (some ⟨w.heap.size, 0, none⟩)) (w' := w.alloc (.cells #[a.eval x] t)) ?_ ⟨_, _, _, k', h, rfl, hk'⟩
        simp [execOp, hop, Instr.box, newVar, newRow, cells_one h1]
      · exact h.elim
    · rename_i id off hx
      have hx' := opr_at hs hx
      have h1 : (a.eval x).oneCell' = true := by
        have := hx'.2
        simp only [TF.at_] at this
        obtain ⟨b, _, e⟩ := this
        rw [e]; rfl
      obtain ⟨k', hk'⟩ := make_box hs (cells := [.adr id off]) (cs := #[a.eval x]) (t := t) (by simpa using hx'.1) (by simp) (fun j f' u hf hu => by
        cases j with
        | zero => simp at hf hu; subst hf; subst hu; exact ⟨h1, hx'.2⟩
        | succ j => simp at hf)
      refine wp_val (v := .pointer (some ⟨w.heap.size, 0, none⟩)) (w' := w.alloc (.cells #[a.eval x] t)) ?_ ⟨_, _, _, k', h, rfl, hk'⟩
      simp [execOp, hop, Instr.box, newVar, newRow, cells_one h1]
    · exact h.elim
  case load t x =>
    split at h
    · rename_i ti f hti hx
      obtain ⟨q, hq⟩ := hT.get hti
      obtain ⟨f', v, hK, hl, hf, hr⟩ := ldv_sound hs q hq (opr_at hs hx).2 h
      exact keep hK hl hf (by simp [execOp, hop, hr])
    · exact h.elim
  case fieldAddr t x i =>
    split at h
    · rename_i ti f hti hx
      obtain ⟨q, hq⟩ := hT.get hti
      have hx' := opr_at hs hx
      split at h
      · rename_i fs hk
        split at h
        · rename_i off sz hp
          split at h
          · exact h.elim
          · rename_i sz' hne
            split at h
            · rename_i id
              split at h
              · rename_i cells hoo
                have hat := (hs.owns _ _ hoo).2.2.1
                simp only [Ow.at_] at hat
                obtain ⟨b, cur, ty, e, _⟩ := hat
                have e2 := hx'.2
                simp only [TF.at_] at e2
                rw [e] at e2
                refine keep h hx'.1 (v := .pointer (some ⟨b, 0 + off, none⟩)) (by simp only [TF.at_]; exact ⟨b, by rw [e], by simp⟩) ?_
                simp [execOp, hop, e2, run_fieldAt hT q hq hk hp hne]
              · exact h.elim
            · rename_i id o'
              have e2 := hx'.2
              simp only [TF.at_] at e2
              obtain ⟨b, hb, e⟩ := e2
              refine keep h hx'.1 (v := .pointer (some ⟨b, o' + off, none⟩)) (by simp only [TF.at_]; exact ⟨b, hb, rfl⟩) ?_
              simp [execOp, hop, e, run_fieldAt hT q hq hk hp hne]
            · rename_i cells
              have e2 := hx'.2
              simp only [TF.at_, RV.at_] at e2
              obtain ⟨b, o', e, hb, hc⟩ := e2
              refine keep h trivial (v := .pointer (some ⟨b, o' + off, none⟩)) (by simp only [TF.at_, RV.at_]; exact ⟨b, _, rfl, hb, RV.cellsAt_drop hc _⟩) ?_
              simp [execOp, hop, e, run_fieldAt hT q hq hk hp hne]
            · exact h.elim
        · exact h.elim
      · exact h.elim
    · exact h.elim
  case indexAddr t x i =>
    split at h
    · rename_i f kd n hx hi
      have hx' := opr_at hs hx
      have hi' := (opr_at hs hi).2
      simp only [TF.at_, RV.at_] at hi'
      obtain ⟨f', v, hK, hl, hf, hr⟩ := idxv_sound (kd := kd) hT hs hx'.2 hx'.1 h
      exact keep hK hl hf (by simp [execOp, hop, hi', hr])
    · exact h.elim
  case binOp op t x y t2 =>
    split at h
    · rename_i kd m kd' n hx hy
      have hx' := (opr_at hs hx).2
      have hy' := (opr_at hs hy).2
      simp only [TF.at_, RV.at_] at hx' hy'
      split at h
      · obtain ⟨h0, r, rfl, h⟩ := h
        exact keep h trivial (by simp only [TF.at_, RV.at_]; rfl) (by simp [execOp, hop, hx', hy', eqGuard, binOp, Op.shift, show ¬ n < 0 by omega])
      · obtain ⟨h0, r, rfl, h⟩ := h
        exact keep h trivial (by simp only [TF.at_, RV.at_]; rfl) (by simp [execOp, hop, hx', hy', eqGuard, binOp, Op.shift, show ¬ n < 0 by omega])
      · split at h
        · rename_i hkk
          obtain rfl := ikEq_eq hkk
          obtain ⟨v, u, hK, hat, hr⟩ := binv_sound h
          refine keep hK trivial (v := u) (hat w k) ?_
          have := hr P w t x y
          simp only [execOp, hop, hx', hy']
          rw [Sem.run_bind, this]
          rfl
        · exact h.elim
    · rename_i s1 s2 hx hy
      have hx' := (opr_at hs hx).2
      have hy' := (opr_at hs hy).2
      simp only [TF.at_, RV.at_] at hx' hy'
      split at h
      · obtain ⟨h0, h⟩ := h
        have hlt : ¬ ((s1.size + s2.size : Nat) : Int) > IntKind.i64.max := by
          have : IntKind.i64.max = 9223372036854775807 := by decide
          omega
        refine keep h trivial (by simp only [TF.at_, RV.at_]; rfl) ?_
        simp only [execOp, hop, hx', hy', eqGuard, binOp, Op.stringOp, if_neg hlt]
        simp
      · obtain ⟨r, rfl, h⟩ := h
        exact keep h trivial (by simp only [TF.at_, RV.at_]; rfl) (by simp [execOp, hop, hx', hy', eqGuard, binOp, Op.stringOp])
      · obtain ⟨r, rfl, h⟩ := h
        exact keep h trivial (by simp only [TF.at_, RV.at_]; rfl) (by simp [execOp, hop, hx', hy', eqGuard, binOp, Op.stringOp])
      · exact h.elim
    · rename_i b1 b2 hx hy
      have hx' := (opr_at hs hx).2
      have hy' := (opr_at hs hy).2
      simp only [TF.at_, RV.at_] at hx' hy'
      split at h
      · rename_i ti hti
        obtain ⟨q, hq⟩ := hT.get hti
        obtain ⟨d, hdd, hko, _⟩ := q.desc
        rw [hq] at hdd
        split at h
        · rename_i hk
          rw [hk] at hko
          simp only [KOk] at hko
          subst hko
          split at h
          · obtain ⟨r, rfl, h⟩ := h
            exact keep h trivial (by simp only [TF.at_, RV.at_]; rfl) (by simp [execOp, hop, hx', hy', eqGuard, run_eql_bool w t b1 b2 hdd])
          · obtain ⟨r, rfl, h⟩ := h
            exact keep h trivial (by simp only [TF.at_, RV.at_]; rfl) (by simp [execOp, hop, hx', hy', eqGuard, run_neq_bool w t b1 b2 hdd])
          · exact h.elim
        · exact h.elim
      · exact h.elim
    · exact fn h
  case unOp op t x =>
    split at h
    · rename_i b1 hx
      have hx' := (opr_at hs hx).2
      simp only [TF.at_, RV.at_] at hx'
      split at h
      · obtain ⟨r, rfl, h⟩ := h
        exact keep h trivial (by simp only [TF.at_, RV.at_]; rfl) (by simp [execOp, hop, hx', Op.unary])
      · exact h.elim
    · rename_i kd m hx
      have hx' := (opr_at hs hx).2
      simp only [TF.at_, RV.at_] at hx'
      split at h
      · obtain ⟨r, rfl, h⟩ := h
        exact keep h trivial (by simp only [TF.at_, RV.at_]; rfl) (by simp [execOp, hop, hx', Op.unary, Op.intArith])
      · obtain ⟨r, rfl, h⟩ := h
        exact keep h trivial (by simp only [TF.at_, RV.at_]; rfl) (by simp [execOp, hop, hx', Op.unary, Op.intBits])
      · exact h.elim
    · exact fn h
  case convert t1 t x =>
    split at h
    · rename_i ti0 ti kd n hti0 hti hx
      obtain ⟨q0, hq0⟩ := hT.get hti0
      obtain ⟨d0, hd0, _, _⟩ := q0.desc
      rw [hq0] at hd0
      obtain ⟨q, hq⟩ := hT.get hti
      obtain ⟨d, hdd, hko, _⟩ := q.desc
      rw [hq] at hdd
      have hx' := (opr_at hs hx).2
      simp only [TF.at_, RV.at_] at hx'
      split at h
      · rename_i kd' hk
        rw [hk] at hko
        simp only [KOk] at hko
        subst hko
        obtain ⟨r, rfl, h⟩ := h
        refine keep h trivial (v := .int kd' (kd'.wrap n)) (by simp only [TF.at_, RV.at_]) ?_
        simp only [execOp, hop, hx', convert, Sem.run_bind, run_underlying hd0 w, run_underlying hdd w, Result.andThen_ok]
        cases d0 <;> simp [Conv.intToInt]
      · exact fn h
    · exact fn h
  case extract x i =>
    split at h
    · rename_i l hx
      rw [lget_eq] at h
      split at h
      · rename_i v hv
        have hx' := (opr_at hs hx).2
        simp only [TF.at_, RV.at_] at hx'
        obtain ⟨us, e, hl⟩ := hx'
        obtain ⟨u, hu, hat⟩ := partsAt_get hl hv
        have hu' : us[i]? = some u := by simpa using hu
        exact keep h trivial hat (by simp [execOp, hop, e, Instr.extract, hu'])
      · exact h.elim
    · exact h.elim
  case build t parts =>
    split at h
    · rename_i ti hti
      obtain ⟨q, hq⟩ := hT.get hti
      obtain ⟨d, hdd, hko, _⟩ := q.desc
      rw [hq] at hdd
      obtain ⟨i, hi, _, _, z, hz, hzc⟩ := q.info
      rw [hq] at hi
      split at h
      · rename_i fs hk
        rw [hk] at hko
        obtain ⟨fields, rfl, hf⟩ := hko
        obtain ⟨cells', vs', hK, _, hl, hfill⟩ := fills_sound hs (ofC_zero q hzc) h
        refine keep hK trivial (v := .agg vs') (by simp only [TF.at_, RV.at_]; exact ⟨vs', rfl, hl⟩) ?_
        have := run_build (w := w) hT q hq hk hi hz (parts := parts.map fun (i, x) => (i, a.eval x)) (by rw [Array.toList_map]; exact hfill)
        simp only [execOp, hop, Sem.run_bind, this]
        rfl
      · exact h.elim
    · exact h.elim
  case buildSlice t n parts =>
    split at h
    · rename_i ti hti
      obtain ⟨q, hq⟩ := hT.get hti
      obtain ⟨d, hdd, hko, _⟩ := q.desc
      rw [hq] at hdd
      split at h
      · rename_i e hk
        rw [hk] at hko
        simp only [KOk] at hko
        subst hko
        split at h
        · rename_i te hte
          obtain ⟨qe, hqe⟩ := hT.get hte
          obtain ⟨i, hi, hsz, _, z, hz, hzc⟩ := qe.info
          rw [hqe] at hi
          split at h
          · rename_i hbig
            simp only [Bool.and_eq_true, Nat.ble_eq] at hbig
            have hbig' : n * te.sz ≤ 16777216 := hbig.1
            obtain ⟨cells', vs', ⟨pub, hK⟩, hlen, hl, hfill⟩ := fills_sound hs (made_at qe hzc n) h
            have hr := run_buildSlice_ (w := w) hdd hi hsz hz hbig' (parts := parts.map fun (i, x) => (i, a.eval x)) (by rw [Array.toList_map]; exact hfill)
            obtain ⟨k', hk'⟩ := make_ch (e := e) (sz := te.sz) (n := n) (cells := cells') (cs := vs') hs pub (by rw [hlen]; simp [qe.zsz]) (by have := hbig.2; simp only [maxLen]; omega) hl
            refine wp_val ?_ ⟨_, _, _, k', hK, rfl, hk'⟩
            simp only [execOp, hop, Sem.run_bind, hr]
            rfl
          · exact h.elim
        · exact h.elim
      · exact h.elim
    · exact h.elim
  case slice t x lo hi mx =>
    split at h
    · rename_i ti f hti hx
      obtain ⟨q, hq⟩ := hT.get hti
      obtain ⟨d, hdd, hko, _⟩ := q.desc
      rw [hq] at hdd
      split at h
      · rename_i e sz n cells hk hrv
        rw [hk] at hko
        simp only [KOk] at hko
        subst hko
        have hx' := rv_at hs hrv (opr_at hs hx).2
        simp only [RV.at_] at hx'
        obtain ⟨p, c, hxe, hnc, hcm, hcl, hcells⟩ := hx'
        split at h
        · exact h.elim
        · rename_i hte
          split at hte
          · rename_i te hte'
            obtain ⟨qe, hqe⟩ := hT.get hte'
            have hsz := run_sizeOf_ti (w := w) qe hqe
            have hes : te.sz = sz := Nat.eq_of_beq_eq_true hte
            rw [hes] at hsz
            split at h
            · rename_i kl l kh hh hlo hhi
              obtain ⟨h0, h1, h2, m, cs, rfl, hcs, h⟩ := h
              have hvl : (lo.map a.eval = none ∧ l = 0) ∨ ∃ kd, lo.map a.eval = some (.int kd l) := by
                cases lo with
                | none => simp only [optv, Option.some.injEq, TF.r.injEq, RV.i.injEq] at hlo; exact .inl ⟨rfl, hlo.2.symm⟩
                | some lo => have := (opr_at hs hlo).2; simp only [TF.at_, RV.at_] at this; exact .inr ⟨kl, by simp [this]⟩
              have hvh : (hi.map a.eval = none ∧ hh = n) ∨ ∃ kd, hi.map a.eval = some (.int kd hh) := by
                cases hi with
                | none => simp only [optv, Option.some.injEq, TF.r.injEq, RV.i.injEq] at hhi; exact .inl ⟨rfl, hhi.2.symm⟩
                | some hi => have := (opr_at hs hhi).2; simp only [TF.at_, RV.at_] at this; exact .inr ⟨kh, by simp [this]⟩
              obtain ⟨q', hr, hq'⟩ := run_sliceAt (p := p) (c := c) hdd hsz hnc h0 h1 h2 hvl hvh
              have hmul : l.toNat * sz + (hh.toNat - l.toNat) * sz ≤ n * sz := by
                rw [← Nat.add_mul]; exact Nat.mul_le_mul_right _ (by omega)
              refine keep h trivial (v := .slice q' (hh.toNat - l.toNat) (c - l.toNat)) ?_ ?_
              · simp only [TF.at_, RV.at_]
                refine ⟨q', _, rfl, by omega, by omega, ?_, fun hpos => ?_⟩
                · rw [← hcs, List.length_take, List.length_drop, hcl]
                  omega
                · obtain ⟨b, o', hpe, hb, hc⟩ := hcells (by omega)
                  exact ⟨b, _, hq' (by omega) b o' hpe, hb, hcs ▸ RV.cellsAt_take (RV.cellsAt_drop hc _) _⟩
              · simp [execOp, hop, hxe, hr]
            · exact h.elim
          · cases hte
      · exact h.elim
    · exact h.elim
  case makeSlice t l c =>
    split at h
    · rename_i ti kl n kc m hti hl hc
      obtain ⟨q, hq⟩ := hT.get hti
      obtain ⟨d, hdd, hko, _⟩ := q.desc
      rw [hq] at hdd
      have hl' := (opr_at hs hl).2
      have hc' := (opr_at hs hc).2
      simp only [TF.at_, RV.at_] at hl' hc'
      split at h
      · rename_i e hk
        rw [hk] at hko
        simp only [KOk] at hko
        subst hko
        split at h
        · rename_i te hte
          obtain ⟨qe, hqe⟩ := hT.get hte
          obtain ⟨i, hi, hsz, hby, z, hz, hzc⟩ := qe.info
          rw [hqe] at hi
          obtain ⟨rfl, h0, hb, hm, j, zs, rfl, rfl, pub, hK⟩ := h
          have hbi : (i.bytes : Int) * n ≤ 281474976710656 := by
            have : ((n.toNat * te.bytes : Nat) : Int) ≤ 140737488355328 := by omega
            rw [Int.natCast_mul, Int.toNat_of_nonneg h0, Int.mul_comm] at this
            rw [hby]; omega
          have hr := run_make (P := P) w t e i z hdd hi hz kl kc n n h0 (Int.le_refl _) hbi (by simp only [maxLen] at hm; omega)
          rw [hsz] at hr
          obtain ⟨k', hk'⟩ := make_ch (e := e) (sz := te.sz) (n := n.toNat) (cells := (List.replicate n.toNat (te.zero.map ofC)).flatten) (cs := madeCells z.cells (n.toNat * te.sz)) hs pub (by simp [qe.zsz]) hm (made_at qe hzc n.toNat)
          exact wp_val (by simp only [execOp, hop, hl', hc', Sem.run_bind, hr]; rfl) ⟨_, _, _, k', hK, rfl, hk'⟩
        · exact h.elim
      · exact h.elim
    · exact h.elim
  case call c =>
    split at h
    · rename_i bi hcal
      split at h
      · unfold lenv at h
        split at h
        · rename_i x t hxs hts
          have hxs' : c.args = #[x] := by apply Array.ext'; simpa using hxs
          have hts' : c.argTypes = #[t] := by apply Array.ext'; simpa using hts
          split at h
          · rename_i ti f hti hx
            obtain ⟨q, hq⟩ := hT.get hti
            obtain ⟨d, hdd, hko, _⟩ := q.desc
            rw [hq] at hdd
            have hx' := (opr_at hs hx).2
            have hrun : ∀ v, (Builtin.len_ #[t] o.type #[a.eval x]).run P w = .ok v w → (execOp a.eval o).run P w = .ok (.value v) w := fun v hv => by
              simp [execOp, hop, resolve, hcal, hxs', hts', invoke, builtin, hv]
            split at h
            · rename_i e hk
              rw [hk] at hko
              simp only [KOk] at hko
              subst hko
              split at h
              · simp only [TF.at_, RV.at_] at hx'
                obtain ⟨p, cp, e, _⟩ := hx'
                exact keep h trivial (by simp only [TF.at_, RV.at_]; rfl) (hrun _ (by simp [Builtin.len_, run_underlying hdd w, e, goInt]))
              · simp only [TF.at_, RV.at_] at hx'
                exact keep h trivial (by simp only [TF.at_, RV.at_]; rfl) (hrun _ (by simp [Builtin.len_, run_underlying hdd w, hx', goInt]))
              · split at h
                · rename_i e' sz n cells pub hoo
                  have hat := (hs.owns _ _ hoo).2.2.1
                  simp only [Ow.at_] at hat
                  simp only [TF.at_] at hx'
                  rcases hat.2 with ⟨_, ⟨h0, p, e⟩ | ⟨_, _, b, o', e, _⟩⟩ | ⟨b, cap, cur, _, e, _⟩
                  · subst h0
                    exact keep h trivial (by simp only [TF.at_, RV.at_]; rfl) (hrun _ (by simp [Builtin.len_, run_underlying hdd w, hx', e, goInt]))
                  · exact keep h trivial (by simp only [TF.at_, RV.at_]; rfl) (hrun _ (by simp [Builtin.len_, run_underlying hdd w, hx', e, goInt]))
                  · exact keep h trivial (by simp only [TF.at_, RV.at_]; rfl) (hrun _ (by simp [Builtin.len_, run_underlying hdd w, hx', e, goInt]))
                · exact h.elim
              · exact h.elim
            · rename_i hk
              rw [hk] at hko
              simp only [KOk] at hko
              subst hko
              split at h
              · simp only [TF.at_, RV.at_] at hx'
                exact keep h trivial (by simp only [TF.at_, RV.at_]; rfl) (hrun _ (by simp [Builtin.len_, run_underlying hdd w, hx', goInt]))
              · exact h.elim
            · exact h.elim
          · exact h.elim
        · exact h.elim
      · exact fn h
      · exact fn h
      · exact fn h
      · exfalso
        simp_all [reads]
    · rename_i x hcal
      split at h
      · rename_i f
        unfold callv at h
        split at h
        · rename_i vs hvs
          obtain ⟨ps, hc, res, hg, hK⟩ := h
          refine call_gives hs (oprs_at hs hvs) hc hg ?_ hK
          have hargs : (c.args.map a.eval) = (c.args.toList.map a.eval).toArray := by apply Array.ext'; simp
          simp [execOp, hop, resolve, hcal, Act.eval, Deferred.ofValue, invoke, hargs]
        · exact h.elim
      · exfalso
        simp only [reads, hop, hcal] at hrd
        split at hrd <;> simp_all
    · exact h.elim
  all_goals simp [reads, hop] at hrd

theorem valv_sound (hT : TOk P T) (hs : SatE B N S a w k g) (hd : ∀ d, o.dst = some d → d < N) {K : TF → Option Ow → Prop} (h : valv P T S o K) :
    o.wp P a w (fun a' w' => ∃ f ow k', K f ow ∧ Sat B N (S.new o.dst f ow) a' w' k') Q := by
  by_cases hrd : reads o.op = true
  · exact Oper.wp_mono (fun a' w' ⟨f, ow, v, k', hK, e, hl⟩ => ⟨f, ow, k', hK, e ▸ hl.sat hs hd⟩) (valv_loc hT hs hrd h)
  · have sem : Vsem P S o K → o.wp P a w (fun a' w' => ∃ f ow k', K f ow ∧ Sat B N (S.new o.dst f ow) a' w' k') Q := fun ⟨f, ow, hy, hK⟩ =>
      Oper.wp_mono (fun a' w' ⟨k', hk'⟩ => ⟨f, ow, k', hK, hk'⟩) (hy B N a w k Q ⟨g, hs⟩ hd)
    unfold valv at h
    cases hop : o.op <;> rw [hop] at h <;> simp only [valvO] at h <;> first | exact sem h | (simp [reads, hop] at hrd; done) | skip
    rename_i c
    split at h
    · rename_i bi hcal
      split at h
      · exfalso
        exact hrd (by simp [reads, hop, hcal])
      · exfalso
        exact hrd (by simp [reads, hop, hcal])
      · exfalso
        exact hrd (by simp [reads, hop, hcal])
      · exfalso
        exact hrd (by simp [reads, hop, hcal])
      · exact sem h
    · rename_i x hcal
      split at h
      · exfalso
        exact hrd (by simp [reads, hop, hcal])
      · exact sem h
    · exact h.elim
end

end Go.Proofs.YtpdllgbfemnemaaGreat.Sx
