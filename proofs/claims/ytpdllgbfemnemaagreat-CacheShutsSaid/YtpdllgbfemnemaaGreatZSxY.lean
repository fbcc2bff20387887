import Derived.Test.YtpdllgbfemnemaaGreatZSxS
section
namespace Go.Proofs.YtpdllgbfemnemaaGreat.Sx
open Go.RowKit

section
variable {P : Program} {T : TT} {B : Bs} {N : Nat} {S : St} {a : Act} {w : World} {k : Kp} {g : Env} {o : Oper} {Q : Exit → Act → World → Prop}

/-- The contract of a function that takes a slice over, may write it, and gives one back. -/
def Takes (P : Program) (f : FuncId) (e : TypeId) (sz n : Nat) (cells : List RV) (args : List RV) (m : Nat) (out : List RV) : Prop :=
  Known P f ∧ ∀ w k u ob vs, chAt w k e sz n cells false u ob → (∀ b, ob = some b → b < w.heap.size) → RV.partsAt w k args vs →
    Calls P f (u :: vs).toArray w fun en w' => ∃ v, en = .returned v ∧ Keep ob.toList w w' ∧ ∃ k' : Kp, (∀ b, b < w.heap.size → some b ≠ ob → k' b = k b) ∧ ∃ ob', chAt w' k' e sz m out false v ob' ∧ ∀ b, ob' = some b → (w.heap.size ≤ b ∨ ob = some b) ∧ b < w'.heap.size

theorem chAt.blk {e : TypeId} {sz n : Nat} {cells : List RV} {pub : Bool} {u : Value} {ob : Option Nat} (h : chAt w k e sz n cells pub u ob) {b : Nat} (hb : ob = some b) : k b = (if pub then n * sz else 0) ∧ (∃ cur, w.heap[b]? = some (.cells cur e (0, 0))) := by
  rcases h.2 with ⟨h, _⟩ | ⟨b', cap, cur, h, _, hh, _, _, _, h', _⟩
  · rw [h] at hb; cases hb
  · rw [h] at hb; cases hb; exact ⟨h', cur, hh⟩

theorem Vstep.take {f : FuncId} {x : Operand} {xs : List Operand} {ts : Array TypeId} {id : Nat} {e : TypeId} {sz n m : Nat} {cells out : List RV} {vs ps : List RV} {K : St → Prop} {args : Array Operand}
    (hop : o.op = .call { callee := .value (.func f), args := args, argTypes := ts }) (hargs : args.toList = x :: xs) (hx : opr S x = some (.own id)) (ho : oget S.O id = some (.ch e sz n cells false)) (hxs : oprs S xs = some vs) (hc : Cvs vs ps)
    (hg : Takes P f e sz n cells ps m out) (hK : newK (S.set id none) o.dst (.own S.nx) (some (.ch e sz m out false)) K) : Vstep P S o K := by
  rw [newK_eq] at hK
  refine ⟨_, fun B N a w k Q ⟨g, hs⟩ hd => ?_, hK⟩
  obtain ⟨⟨fn, c, hf, hb, hn⟩, hg⟩ := hg
  have hxv := (opr_at hs hx).2
  simp only [TF.at_] at hxv
  obtain ⟨q1, q2, q3, q4⟩ := hs.owns id _ ho
  simp only [Ow.at_] at q3
  have hp := hc.at_ (oprs_parts hs hxs)
  unfold Oper.wp
  have hargs' : args.map a.eval = (a.eval x :: xs.map a.eval).toArray := by apply Array.ext'; simp [hargs]
  rw [show (execOp a.eval o).run P w = (callFunc f (a.eval x :: xs.map a.eval).toArray).run P w by simp [execOp, hop, resolve, Deferred.ofValue, invoke, Act.eval, hargs'], callFunc_run hf hb hn]
  simp only [Oper.upon]
  refine (hg w k (a.eval x) (g id).2 (xs.map a.eval) (by rw [hxv]; exact q3) (fun b hb => (q4 b hb).2) hp).mono ?_
  rintro en w' ⟨v, rfl, hkeep, k', hk', ob', hch, hob⟩
  simp only
  have hw : Wrote w k w' k' (g id).2 := by
    refine ⟨hkeep.os, hkeep.tape, hkeep.output, hkeep.size, fun b hb hne => ⟨hkeep.block b hb (fun hm => hne ?_), hk' b hb hne⟩, fun b hb => ?_⟩
    · rw [Option.mem_toList] at hm; exact hm.symm
    · have hkb := (q3.blk hb.symm).1
      simp only [Bool.false_eq_true, if_false] at hkb
      exact ⟨by omega, fun o' ho' => by omega, fun h => by omega⟩
  have h1 := hs.wrote hw (id := some id) ⟨⟨_, ho⟩, rfl⟩
  refine ⟨k', _, h1.adopt hd (o := .ch e sz m out false) (vb := (v, ob')) trivial hch (fun b hb => ⟨?_, (hob b hb).2⟩) fun i o' b hi hb hgi => ?_⟩
  · rcases (hob b hb).1 with h | h
    · left; have := hs.keep.size; omega
    · exact (q4 b h).1
  · rcases oget_cons hi with ⟨_, e'⟩ | ⟨hne, hi⟩
    · cases e'
    · rcases (hob b hb).1 with h | h
      · have := ((hs.owns i o' hi).2.2.2 b hgi).2; omega
      · exact hs.apart id i _ o' b ho hi hne h hgi

/-- What such a function is proved from. -/
theorem takes_of_vcg {f : FuncId} {fn : Func} {e : TypeId} {sz n m : Nat} {cells out args : List RV} {c : Code} {rt : Nat} (hm : P.follows .mixedOrders = true) (hT : TOk P T) (hf : P.funcs[f]? = some fn) (hb : fn.body = some c)
    (hk : (Nat.ble (args.length + 1) fn.ntmps && (dstsOk fn.ntmps c && !(fn.name == "runtime.NumGoroutine"))) = true) (hres : fn.results = #[.tmp rt])
    (h : vcg P T c { F := (0, .own 0) :: argsF 1 args, O := [(0, some (.ch e sz n cells false))], nx := 1 } fun ex S => (ex = .ret ∨ ex = .normal) ∧ ∃ id, fget S.F rt = some (.own id) ∧ oget S.O id = some (.ch e sz m out false)) : Takes P f e sz n cells args m out := by
  simp only [Bool.and_eq_true, Nat.ble_eq, Bool.not_eq_true', beq_eq_false_iff_ne] at hk
  obtain ⟨hn, hd, hname⟩ := hk
  refine ⟨⟨fn, c, hf, hb, hname⟩, fun w k u ob vs hch hobl hp => ?_⟩
  refine calls_of_wp hf hb ?_
  have hl := partsAt_len hp
  have hstart : Sat ⟨w, k, ob.toList⟩ fn.ntmps { F := (0, .own 0) :: argsF 1 args, O := [(0, some (.ch e sz n cells false))], nx := 1 } { tmps := (u :: vs).toArray ++ Array.replicate (fn.ntmps - (u :: vs).toArray.size) undef, defers := [] } w k := by
    refine ⟨fun _ => (u, ob), by simp; omega, rfl, ⟨rfl, rfl, rfl, Nat.le_refl _, fun _ _ _ => rfl⟩, fun _ _ _ => rfl, fun t f hf => ?_, fun id o' ho' => ?_, fun i j oi oj b hi hj hne => ?_⟩
    · rcases fget_cons hf with ⟨rfl, rfl⟩ | ⟨hne, hf⟩
      · refine ⟨by simp [TF.lt], ?_⟩
        simp only [TF.at_]
        rw [Array.getD_eq_getD_getElem?, Array.getElem?_append_left (by simp)]
        simp
      · obtain ⟨v, rfl, hle, u', hu', hat⟩ := argsF_get hp hf
        refine ⟨trivial, ?_⟩
        have hlt : t - 1 < vs.length := (List.getElem?_eq_some_iff.1 hu').1
        have : ((u :: vs).toArray ++ Array.replicate (fn.ntmps - (u :: vs).toArray.size) undef)[t]? = some u' := by
          rw [Array.getElem?_append_left (by simp; omega)]
          obtain ⟨t', rfl⟩ : ∃ t', t = t' + 1 := ⟨t - 1, by omega⟩
          simpa using hu'
        simp only [TF.at_, Array.getD_eq_getD_getElem?, this, Option.getD_some]
        exact hat
    · rcases oget_cons ho' with ⟨rfl, e'⟩ | ⟨_, ho'⟩
      · cases e'
        exact ⟨by simp, trivial, hch, fun b hb => ⟨.inr (by simpa using hb), hobl b hb⟩⟩
      · simp [oget] at ho'
    · rcases oget_cons hi with ⟨rfl, _⟩ | ⟨_, hi⟩
      · rcases oget_cons hj with ⟨rfl, _⟩ | ⟨_, hj⟩
        · exact absurd rfl hne
        · simp [oget] at hj
      · simp [oget] at hi
  refine vcg_sound hm hT c _ _ h ⟨w, k, ob.toList⟩ fn.ntmps _ w k _ hstart hd fun ex S' a' w' k' ⟨hex, id, hfg, hog⟩ ⟨g, hs'⟩ => ?_
  have fin : a'.defers = [] ∧ ∃ v, (results fn a'.tmps).run P w' = .ok v w' ∧ ∃ v', Ending.returned v = Ending.returned v' ∧ Keep ob.toList w w' ∧ ∃ k' : Kp, (∀ b, b < w.heap.size → some b ≠ ob → k' b = k b) ∧ ∃ ob', chAt w' k' e sz m out false v' ob' ∧ ∀ b, ob' = some b → (w.heap.size ≤ b ∨ ob = some b) ∧ b < w'.heap.size := by
    refine ⟨hs'.defers, (g id).1, ?_, (g id).1, rfl, hs'.keep, k', fun b hb hne => hs'.kk b hb (by rw [Option.mem_toList]; exact fun h => hne h.symm), (g id).2, ?_, fun b hb => ?_⟩
    · have hv := (hs'.facts rt _ hfg).2
      simp only [TF.at_] at hv
      rw [results_eq, hres, Array.mapM_eq_mapM_toList]
      simp [rvSem, ← hv]
    · have := (hs'.owns id _ hog).2.2.1
      simpa [Ow.at_] using this
    · have := (hs'.owns id _ hog).2.2.2 b hb
      refine ⟨this.1.imp (fun h => h) fun hm => by simpa using hm, this.2⟩
  rcases hex with rfl | rfl
  · exact fin
  · exact fin

/-- A slice of the call's own is read by a function that tells a plain value. -/
theorem Vstep.peek {f : FuncId} {x : Operand} {xs : List Operand} {ts : Array TypeId} {id : Nat} {e : TypeId} {sz n : Nat} {cells : List RV} {vs : List RV} {K : St → Prop} {args : Array Operand} {r : RV}
    (hop : o.op = .call { callee := .value (.func f), args := args, argTypes := ts }) (hargs : args.toList = x :: xs) (hx : opr S x = some (.own id)) (ho : oget S.O id = some (.ch e sz n cells false)) (hxs : oprs S xs = some vs)
    (hr : ∀ w k w' k' v, r.at_ w k v → r.at_ w' k' v)
    (hg : Gives P f (.sl sz n cells :: vs) (.r r)) (hK : newK S o.dst (.r r) none K) : Vstep P S o K := by
  rw [newK_eq] at hK
  refine ⟨_, fun B N a w k Q ⟨g, hs⟩ hd => ?_, hK⟩
  obtain ⟨⟨fn, c, hf, hb, hn⟩, hg⟩ := hg
  have hxv := (opr_at hs hx).2
  simp only [TF.at_] at hxv
  obtain ⟨q1, q2, q3, q4⟩ := hs.owns id _ ho
  simp only [Ow.at_] at q3
  let k1 : Kp := match (g id).2 with
    | some b => kset k b (n * sz)
    | none => k
  have hw : Wrote w k w k1 (g id).2 := by
    refine ⟨rfl, rfl, rfl, Nat.le_refl _, fun b hb hne => ⟨rfl, ?_⟩, fun b hb => ?_⟩
    · simp only [k1]
      cases hob : (g id).2 with
      | none => rfl
      | some b' => simp only [kset]; rw [if_neg (fun h => hne (by rw [hob, h]))]
    · have hkb := (q3.blk hb.symm).1
      simp only [Bool.false_eq_true, if_false] at hkb
      exact ⟨by omega, fun _ _ => rfl, fun h => by omega⟩
  have hle := hw.le
  have hp := RV.parts_mono hle _ _ (oprs_parts hs hxs)
  have hsl : (RV.sl sz n cells).at_ w k1 (a.eval x) := by
    rw [hxv]
    have h2 : chAt w k1 e sz n cells true (g id).1 (g id).2 := by
      refine ⟨q3.1, ?_⟩
      rcases q3.2 with ⟨h, h' | ⟨_, h', _⟩⟩ | ⟨b, cap, cur, h1, h2, h3, h4, h5, h6, h7, h8⟩
      · exact .inl ⟨h, .inl h'⟩
      · cases h'
      · refine .inr ⟨b, cap, cur, h1, h2, h3, h4, h5, h6, ?_, RV.list_mono hle _ _ h8⟩
        simp only [k1, h1, kset_new, if_true]
    exact h2.sl
  have hp2 : RV.partsAt w k1 (.sl sz n cells :: vs) (a.eval x :: xs.map a.eval) := by simp only [RV.partsAt]; exact ⟨_, _, rfl, hsl, hp⟩
  unfold Oper.wp
  have hargs' : args.map a.eval = (a.eval x :: xs.map a.eval).toArray := by apply Array.ext'; simp [hargs]
  rw [show (execOp a.eval o).run P w = (callFunc f (a.eval x :: xs.map a.eval).toArray).run P w by simp [execOp, hop, resolve, Deferred.ofValue, invoke, Act.eval, hargs'], callFunc_run hf hb hn]
  simp only [Oper.upon]
  refine (hg w k1 _ hp2).mono ?_
  rintro en w' ⟨v, rfl, hext, k', hk', hres⟩
  simp only
  exact ⟨k, g, (hs.ext hext fun _ _ => rfl).put hd trivial (hr _ _ _ _ _ hres)⟩

theorem run_sliceHead {t e : TypeId} {p : Option Addr} {n c sz i : Nat} (hu : P.underlying t = some (.slice e)) (hz : (sizeOf e).run P w = .ok sz w) (hnc : n ≤ c) (hi : i ≤ n) :
    (Instr.sliceAt t (.slice p n c) none (some (.int .i64 (i : Int))) none).run P w = .ok (.slice p i c) w := by
  have e1 : (Instr.sliceBound (.int .i64 (i : Int)) c .sliceAcap).run P w = .ok i w := by rw [run_sliceBound (by omega) (by omega)]; simp
  have e2 : (if c = 0 then p else p.map (·.add (0 * sz))) = p := by
    split
    · rfl
    · cases p with
      | none => rfl
      | some a => simp [Addr.add]
  have e3 : p.map (·.add 0) = p := by
    cases p with
    | none => rfl
    | some a => simp [Addr.add]
  simp [Instr.sliceAt, Instr.slice, Instr.sliceBounds, run_underlying hu w, hz, e1, Addr.add]
/-- The head of a slice of the call's own. -/
theorem Vstep.head {t e : TypeId} {ti te : TI} {x y : Operand} {id : Nat} {sz n i : Nat} {cells : List RV} {K : St → Prop} (hT : TOk P T) (hop : o.op = .slice t x none (some y) none) (hti : tget T t = some ti) (hk : ti.k = .slice e) (hte : tget T e = some te) (hsz : te.sz = sz)
    (hx : opr S x = some (.own id)) (ho : oget S.O id = some (.ch e sz n cells false)) (hy : opr S y = some (.r (.i .i64 i))) (hi : i ≤ n)
    (hK : newK (S.set id none) o.dst (.own S.nx) (some (.ch e sz i (cells.take (i * sz)) false)) K) : Vstep P S o K := by
  rw [newK_eq] at hK
  refine ⟨_, fun B N a w k Q ⟨g, hs⟩ hd => ?_, hK⟩
  have hxv := (opr_at hs hx).2
  have hyv := (opr_at hs hy).2
  simp only [TF.at_, RV.at_] at hxv hyv
  obtain ⟨q1, q2, q3, q4⟩ := hs.owns id _ ho
  simp only [Ow.at_] at q3
  obtain ⟨q, hq⟩ := hT.get hti
  obtain ⟨d, hdd, hko, _⟩ := q.desc
  rw [hq] at hdd
  rw [hk] at hko
  simp only [KOk] at hko
  subst hko
  obtain ⟨qe, hqe⟩ := hT.get hte
  have hsize := run_sizeOf_ti (w := w) qe hqe
  rw [hsz] at hsize
  have hw : Wrote w k w k (g id).2 := ⟨rfl, rfl, rfl, Nat.le_refl _, fun _ _ _ => ⟨rfl, rfl⟩, fun _ _ => ⟨Nat.le_refl _, fun _ _ => rfl, fun _ _ _ h => h⟩⟩
  have h1 := hs.wrote hw (id := some id) ⟨⟨_, ho⟩, rfl⟩
  have hcl := q3.1
  have hle : i * sz ≤ n * sz := Nat.mul_le_mul_right _ hi
  have hlen : (cells.take (i * sz)).length = i * sz := by rw [List.length_take]; omega
  have key : ∃ v, (Instr.sliceAt t (a.eval x) none (some (a.eval y)) none).run P w = .ok v w ∧ chAt w k e sz i (cells.take (i * sz)) false v (g id).2 := by
    rw [hxv, hyv]
    rcases q3.2 with ⟨h, ⟨h0, p, hv⟩ | ⟨_, h', _⟩⟩ | ⟨b, cap, cur, g1, g2, g3, g4, g5, g6, g7, g8⟩
    · obtain rfl : i = 0 := by omega
      rw [hv]
      exact ⟨_, run_sliceHead (n := 0) (c := 0) (i := 0) hdd hsize (by omega) (by omega), hlen, .inl ⟨h, .inl ⟨rfl, p, rfl⟩⟩⟩
    · cases h'
    · rw [g2]
      refine ⟨_, run_sliceHead hdd hsize g4 hi, hlen, .inr ⟨b, cap, cur, g1, rfl, g3, by omega, g5, g6, by simpa using g7, ?_⟩⟩
      have := listAt_take g8 (i * sz)
      rw [List.take_take, Nat.min_eq_left hle] at this
      exact this
  obtain ⟨v, hrun, hch⟩ := key
  refine wp_val (v := v) (w' := w) (by simp [execOp, hop, hrun]) ⟨k, _, h1.adopt hd (o := .ch e sz i (cells.take (i * sz)) false) (vb := (v, (g id).2)) trivial hch (fun b hb => q4 b hb) fun j o' b hj hb hgj => ?_⟩
  rcases oget_cons hj with ⟨_, e'⟩ | ⟨hne, hj⟩
  · cases e'
  · exact hs.apart id j _ o' b ho hj hne hb hgj
end

end Go.Proofs.YtpdllgbfemnemaaGreat.Sx
end

section
namespace Go.Proofs.YtpdllgbfemnemaaGreat.Sx
open Go.RowKit

section
variable {P : Program} {T : TT} {B : Bs} {N : Nat} {S : St} {a : Act} {w : World} {k : Kp} {g : Env} {o : Oper} {Q : Exit → Act → World → Prop}

theorem SatE.reset (hs : SatE B N S a w k g) {id : Nat} {ow : Ow} (ho : oget S.O id = some ow) : SatE B N (S.set id (some ow)) a w k g := by
  have up : ∀ i o', oget (S.set id (some ow)).O i = some o' → oget S.O i = some o' := fun i o' h => by
    rcases oget_cons h with ⟨rfl, e⟩ | ⟨_, h⟩
    · cases e; exact ho
    · exact h
  exact ⟨hs.size, hs.defers, hs.keep, hs.kk, hs.facts, fun i o' h => hs.owns i o' (up i o' h), fun i j o1 o2 b hi hj => hs.apart i j o1 o2 b (up i o1 hi) (up j o2 hj)⟩

theorem zeroCells_one (v : Value) (m : Nat) : (Builtin.zeroCells #[v] m).toList = List.replicate m v := by
  apply List.ext_getElem
  · simp [Builtin.zeroCells]
  · intro i h1 h2
    simp [Builtin.zeroCells, Nat.mod_one]

theorem code_clear (hT : TOk P T) {rid : Nat} {ops : Array Oper} {id t0 t5 d0 d1 d2 ta e n i : Nat} {ti te : TI} {cells : List RV} {o0 o1 o2 o3 : Oper} (hops : ops = #[o0, o1, o2, o3])
    (h0 : o0.op = .move (.tmp t0) ∧ o0.dst = some d0 ∧ o0.guard = none) (h1 : o1.op = .move (.tmp t5) ∧ o1.dst = some d1 ∧ o1.guard = none)
    (h2 : o2.op = .slice ta (.tmp d0) (some (.tmp d1)) none none ∧ o2.dst = some d2 ∧ o2.guard = none) (h3 : o3.op = .call { callee := .builtin .clear, args := #[.tmp d2], argTypes := #[ta] } ∧ o3.dst = none ∧ o3.guard = none)
    (hti : tget T ta = some ti) (hk : ti.k = .slice e) (hte : tget T e = some te) (hsz : te.sz = 1) (hz0 : te.zero = [.int .i64 0]) (hne : d0 ≠ d1 ∧ d0 ≠ t5)
    (hf0 : fget S.F t0 = some (.own id)) (ho : oget S.O id = some (.ch e 1 n cells false)) (hf5 : fget S.F t5 = some (.r (.i .i64 (i : Int)))) (hi : i ≤ n) {QS : Exit → St → Prop}
    (hK : QS .normal ⟨(d2, .r .any) :: (d1, .r (.i .i64 (i : Int))) :: (d0, .own id) :: S.F, (id, some (.ch e 1 n (cells.take i ++ List.replicate (n - i) (.i .i64 0)) false)) :: S.O, S.nx⟩) :
    Vcode P (.region rid ops false) S QS := by
  subst hops
  refine ⟨fun B N a w k Q' ⟨g, hs⟩ hd hQ => wp_region_list ?_⟩
  obtain ⟨h0, h0d, h0g⟩ := h0
  obtain ⟨h1, h1d, h1g⟩ := h1
  obtain ⟨h2, h2d, h2g⟩ := h2
  obtain ⟨h3, h3d, h3g⟩ := h3
  have hdd : d0 < N ∧ d1 < N ∧ d2 < N := by
    simp [dstsOk, h0d, h1d, h2d, h3d, Nat.blt] at hd
    omega
  obtain ⟨l0, l1, l2⟩ := hdd
  have hx := hs.facts t0 _ hf0
  have hy := hs.facts t5 _ hf5
  have v0 : a.tmps.getD t0 undef = (g id).1 := by have := hx.2; simpa [TF.at_] using this
  refine wpl h0g (wp_val (v := (g id).1) (w' := w) (by simp [execOp, h0, Act.eval, ← v0]) ?_)
  have hs1 := hs.put (dst := o0.dst) (fun d hd => by rw [h0d] at hd; cases hd; exact l0) (f := .own id) (v := (g id).1) hx.1 (by simp [TF.at_])
  have hb5 : Nat.beq d0 t5 = false := beq_ne hne.2
  have v5 : (a.put o0.dst (g id).1).tmps.getD t5 undef = .int .i64 (i : Int) := by
    have := (hs1.facts t5 (.r (.i .i64 (i : Int))) (by rw [h0d]; simp only [St.put]; rw [fget, hb5]; exact hf5)).2
    simpa [TF.at_, RV.at_] using this
  refine wpl h1g (wp_val (v := .int .i64 (i : Int)) (w' := w) (by simp [execOp, h1, Act.eval, ← v5]) ?_)
  have hs2 := hs1.put (dst := o1.dst) (fun d hd => by rw [h1d] at hd; cases hd; exact l1) (f := .r (.i .i64 (i : Int))) (v := .int .i64 (i : Int)) trivial (by simp [TF.at_, RV.at_])
  generalize ha2 : (a.put o0.dst (g id).1).put o1.dst (.int .i64 (i : Int)) = a2 at hs2 ⊢
  rw [h0d, h1d] at hs2
  have hb1 : Nat.beq d1 d0 = false := beq_ne fun e' => hne.1 e'.symm
  have e0 : a2.eval (.tmp d0) = (g id).1 := by
    have := (hs2.facts d0 (.own id) (by simp only [St.put]; rw [fget, hb1]; simp [fget])).2
    simp only [Act.eval]
    simpa [TF.at_] using this
  have e1 : a2.eval (.tmp d1) = .int .i64 (i : Int) := by
    have := (hs2.facts d1 (.r (.i .i64 (i : Int))) (by simp [St.put, fget])).2
    simp only [Act.eval]
    simpa [TF.at_, RV.at_] using this
  obtain ⟨q1, q2, q3, q4⟩ := hs2.owns id (.ch e 1 n cells false) (by simpa [St.put] using ho)
  simp only [Ow.at_] at q3
  obtain ⟨q, hq⟩ := hT.get hti
  obtain ⟨dd, hdd, hko, _⟩ := q.desc
  rw [hq] at hdd
  rw [hk] at hko
  simp only [KOk] at hko
  subst hko
  obtain ⟨qe, hqe⟩ := hT.get hte
  have hsize := run_sizeOf_ti (w := w) qe hqe
  rw [hsz] at hsize
  obtain ⟨inf, hinf, _, _, z, hz, hzc⟩ := qe.info
  rw [hqe] at hinf
  have hzcs : z.cells = #[.int .i64 0] := by apply Array.ext'; rw [hzc, hz0]
  have hcl := q3.1
  rw [Nat.mul_one] at hcl
  have hform : ∃ p c, (g id).1 = .slice p n c ∧ n ≤ c := by
    rcases q3.2 with ⟨_, ⟨rfl, p, e'⟩ | ⟨_, h', _⟩⟩ | ⟨b, cap, cur, _, e', _, h1, _⟩
    · exact ⟨p, 0, e', Nat.le_refl _⟩
    · cases h'
    · exact ⟨_, cap, e', h1⟩
  obtain ⟨p, c, hpv, hnc⟩ := hform
  obtain ⟨p', hr, hp'⟩ := run_sliceAt (P := P) (w := w) (t := ta) (e := e) (p := p) (n := n) (c := c) (sz := 1) (lo := i) (hi := n) (vl := some (.int .i64 (i : Int))) (vh := none) hdd hsize hnc (by omega) (by omega) (by omega) (.inr ⟨.i64, rfl⟩) (.inl ⟨rfl, rfl⟩)
  simp only [Int.toNat_natCast] at hr hp'
  refine wpl h2g (wp_val (v := .slice p' (n - i) (c - i)) (w' := w) (by simp [execOp, h2, e0, e1, hpv, hr]) ?_)
  have hs3 := hs2.put (dst := o2.dst) (fun d hd => by rw [h2d] at hd; cases hd; exact l2) (f := .r .any) (v := .slice p' (n - i) (c - i)) trivial (by simp [TF.at_, RV.at_])
  have e2 : (a2.put o2.dst (.slice p' (n - i) (c - i))).eval (.tmp d2) = .slice p' (n - i) (c - i) := by
    rw [h2d]
    have hlt : d2 < a2.tmps.size := by rw [hs2.size]; exact l2
    simp [Act.eval, Act.put, hlt]
  generalize ha3 : a2.put o2.dst (.slice p' (n - i) (c - i)) = a3 at hs3 e2 ⊢
  rw [h2d] at hs3
  have ho3 : oget (St.put (St.put (St.put S (some d0) (.own id)) (some d1) (.r (.i .i64 (i : Int)))) (some d2) (.r .any)).O id = some (.ch e 1 n cells false) := by simpa [St.put] using ho
  rcases Nat.eq_or_lt_of_le hi with rfl | hlt
  · refine wpl h3g (wp_val (v := .tuple #[]) (w' := w) ?_ ?_)
    · rw [Nat.sub_self] at e2
      cases p' <;> simp [execOp, h3, resolve, invoke, builtin, e2, Builtin.clear_, run_underlying hdd w]
    · rw [h3d]
      refine hQ .normal _ _ w k hK ⟨g, ?_⟩
      have := hs3.reset ho3
      simp only [St.put, St.set] at this
      rw [Nat.sub_self, List.replicate_zero, List.append_nil, List.take_of_length_le (by omega)]
      exact this
  · rcases q3.2 with ⟨_, ⟨h', _⟩ | ⟨_, h', _⟩⟩ | ⟨b, cap, cur, g1, g2, g3, g4, g5, g6, g7, g8⟩
    · omega
    · cases h'
    · rw [hpv] at g2
      simp only [Value.slice.injEq] at g2
      obtain ⟨rfl, _, rfl⟩ := g2
      have hp2 := hp' (by omega) b 0 rfl
      rw [Nat.mul_one, Nat.zero_add] at hp2
      subst hp2
      rw [Nat.mul_one] at g6
      have hkb : k b = 0 := by simpa using g7
      have hst := run_storeCells_at P b i e (List.replicate (n - i) (.int .i64 0)) 0 cur w g3 (by simp; omega) (fun v hv => by rw [List.eq_of_mem_replicate hv]; rfl)
      simp only [Nat.add_zero, List.length_replicate] at hst
      rw [show i + (n - i) = n by omega] at hst
      generalize hcs : (cur.toList.take i ++ List.replicate (n - i) (Value.int .i64 0) ++ cur.toList.drop n).toArray = cs at hst
      have hpos : ∃ m, n - i = m + 1 := ⟨n - i - 1, by omega⟩
      have hrun : (execOp a3.eval o3).run P w = .ok (.value (.tuple #[])) (w.setRow b cs) := by
        obtain ⟨m, hm⟩ := hpos
        rw [hm] at e2 hst
        simp [execOp, h3, resolve, invoke, builtin, e2, Builtin.clear_, run_underlying hdd w, zeroValue, typeInfo, hinf, hz, hzcs, zeroCells_one, hst]
      refine wpl h3g (wp_val (v := .tuple #[]) (w' := w.setRow b cs) hrun ?_)
      rw [h3d]
      have hw := wrote_row (k := k) (cs := cs) g3 hkb
      have hnew : Ow.at_ (w.setRow b cs) k g (g id) (.ch e 1 n (cells.take i ++ List.replicate (n - i) (.i .i64 0)) false) := by
        simp only [Ow.at_]
        refine ⟨by simp; omega, .inr ⟨b, c, cs, g1, hpv, setRow_heap w b cur _ e (0, 0) g3, g4, g5, ?_, by simpa using hkb, ?_⟩⟩
        · rw [← hcs]; simp; omega
        · have g8' := RV.list_mono hw.le _ _ g8
          have hlo := listAt_take g8' i
          rw [List.take_take, Nat.mul_one, Nat.min_eq_left hi] at hlo
          have hz : RV.listAt (w.setRow b cs) k (List.replicate (n - i) (.i .i64 0)) (List.replicate (n - i) (Value.int .i64 0)) := by
            rw [RV.listAt_iff]
            refine ⟨by simp, fun j f u hf hu => ?_⟩
            rw [List.getElem?_replicate] at hf hu
            split at hf
            · rename_i hj
              rw [if_pos hj] at hu
              cases hf; cases hu
              exact ⟨rfl, by simp [RV.at_]⟩
            · cases hf
          have hall := listAt_append hlo hz
          have ht : cs.toList.take (n * 1) = cur.toList.take i ++ List.replicate (n - i) (Value.int .i64 0) := by
            rw [← hcs, Nat.mul_one, List.toList_toArray]
            rw [List.take_append_of_le_length (by simp; omega)]
            rw [List.take_of_length_le (by simp; omega)]
          rw [ht]
          exact hall
      have := hs3.redo (ow' := .ch e 1 n (cells.take i ++ List.replicate (n - i) (.i .i64 0)) false) ho3 g1 hw trivial hnew
      simp only [St.put, St.set] at this
      exact hQ .normal _ _ _ k hK ⟨g, this⟩
end

end Go.Proofs.YtpdllgbfemnemaaGreat.Sx
end
