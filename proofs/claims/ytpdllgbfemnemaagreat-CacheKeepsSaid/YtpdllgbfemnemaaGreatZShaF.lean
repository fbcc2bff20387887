import Derived.Test.YtpdllgbfemnemaaGreatZShaW
import Derived.Great.Walk
import Derived.Laws.CopyRow
section
namespace Go.Proofs.YtpdllgbfemnemaaGreat
set_option linter.unusedVariables false
open Go.RowKit

theorem grown_trans {a b c : World} {g : Option Nat} (h : a.grownBy b g) (k : b.grownBy c g) : a.grownBy c g :=
  ⟨k.os.trans h.os, k.tape.trans h.tape, k.output.trans h.output, Nat.le_trans h.size k.size, fun i hi hn => (k.block i (Nat.lt_of_lt_of_le hi h.size) hn).trans (h.block i hi hn)⟩
theorem grown_drew {a b : World} {g : Option Nat} (h : a.grownBy b g) : a.grownBy b.drew g := ⟨h.os, h.tape, h.output, h.size, h.block⟩
theorem grown_drewN {a b : World} {g : Option Nat} (h : a.grownBy b g) (n : Nat) : a.grownBy (b.drewN n) g := ⟨h.os, h.tape, h.output, h.size, h.block⟩
theorem grown_of_ext {a b : World} (h : Ext a b) (g : Option Nat) : a.grownBy b g := ⟨h.os, h.tape, h.output, h.size, fun k hk _ => h.block k hk⟩
theorem grown_set {a b : World} {g : Nat} (h : a.grownBy b (some g)) {p : Addr} (hp : p.block = g) (v : Value) : a.grownBy (b.setCell p v) (some g) :=
  ⟨h.os, h.tape, h.output, by simpa [World.setCell] using h.size, fun k hk hn => (Below.heap_setCell _ _ _ _ (fun e => hn (by rw [e, hp]))).trans (h.block k hk hn)⟩
section
variable {P : Program} {ops : Array Oper} {rest : List Oper} {o : Oper} {a : Act} {w : World} {Q : Exit → Act → World → Prop}
/-- A new row. -/
theorem wpList_alloc_row (hgd : o.guard = none) (ty : TypeId) (ho : o.op = .alloc ty) (d : Option Tmp) (hd : o.dst = d) (n : Nat)
    (hi : ((P.info? ty).bind (·.zero)).map (·.cells.size) = some n)
    (h : ∀ (w' : World) (Z : Array Value), Z.size = n → w'.heap[w.heap.size]? = some (.cells Z ty (0, 0)) → w'.heap.size = w.heap.size + 1 → Ext w w' → wpList P ops Q rest (a.put d (.pointer (some ⟨w.heap.size, 0, none⟩))) w') :
    wpList P ops Q (o :: rest) a w := by
  subst hd
  cases hp : P.info? ty with
  | none => simp [hp] at hi
  | some i =>
    cases hz : i.zero with
    | none => simp [hp, hz] at hi
    | some z =>
      simp only [hp, hz, Option.bind_some, Option.map_some, Option.some.injEq] at hi
      refine wpList_plain hgd fun K hK => ?_
      have hr : (execOp a.eval o).run P w = .ok (.value (.pointer (some ⟨w.heap.size, 0, none⟩))) (w.alloc (.cells z.cells ty)) := by
        unfold execOp
        simp [ho, Instr.alloc, zeroValue, typeInfo, hp, hz, newVar, newRow, newObj, Result.andThen]
        rfl
      unfold Oper.wp
      rw [hr, Oper.upon_value]
      exact hK _ _ (h _ _ hi (heap_alloc_new w _) (by rw [World.alloc]; simp) (ext_alloc w _))

/-- A row is stored as a whole. -/
theorem wpList_store_rowE (hgd : o.guard = none) (ty : TypeId) (x y : Operand) (ho : o.op = .store ty x y) (hd : o.dst = none) (g : Nat) (cells : Array Value)
    (hx : a.eval x = .pointer (some ⟨g, 0, none⟩)) (hy : a.eval y = .agg cells) (t : TypeId) (old : Array Value) (hg : w.heap[g]? = some (.cells old t (0, 0))) (hi : (P.info? ty).map (·.size) = some cells.size)
    (hold : old.size = cells.size) (h1 : cells.all (·.oneCell') = true)
    (h : ∀ w' : World, w'.heap[g]? = some (.cells cells t (0, 0)) → w'.heap.size = w.heap.size → w.grownBy w' (some g) → wpList P ops Q rest (a.put none undef) w') : wpList P ops Q (o :: rest) a w := by
  refine wpList_store_row hgd ty x y ho g cells hx hy t old hg hi hold h1 ?_
  rw [hd]
  refine h _ (setRow_heap w g _ cells t (0, 0) hg) (by simp [World.setRow]) ⟨rfl, rfl, rfl, by simp [World.setRow], fun k hk hn => setRow_other w g k _ (fun e => hn (by rw [e]))⟩

/-- copy into a row. -/
theorem wpList_copy_row (hgd : o.guard = none) (s x : Operand) (dT sT elem : TypeId) (ho : o.op = .call { callee := .builtin .copy, args := #[s, x], argTypes := #[dT, sT] })
    (hu : P.underlying dT = some (.slice elem)) (hs1 : (P.info? elem).map (·.size) = some 1) (g od dLen dCap : Nat) (ad : Addr) (sLen sCap : Nat) (cur : Array Value) (t : TypeId) (cs : List Value)
    (hs : a.eval s = .slice (some ⟨g, od, none⟩) dLen dCap) (hx : a.eval x = .slice (some ad) sLen sCap) (hg : w.heap[g]? = some (.cells cur t (0, 0))) (hn : cs.length = Nat.min sLen dLen)
    (hsrc : ∀ j v, cs[j]? = some v → w.cell? (ad.add j) = some v) (hfit : od + cs.length ≤ cur.size) (h1 : ∀ v ∈ cs, v.oneCell' = true)
    (h : ∀ w' : World, w'.heap[g]? = some (.cells (cur.toList.take od ++ cs ++ cur.toList.drop (od + cs.length)).toArray t (0, 0)) → w'.heap.size = w.heap.size → w.grownBy w' (some g) → wpList P ops Q rest (a.put o.dst (goInt cs.length)) w') :
    wpList P ops Q (o :: rest) a w := by
  have hr := run_copy_row P w dT sT o.type elem g od dLen dCap ad sLen sCap cur t cs hu hs1 hg hn hsrc hfit h1
  refine wpList_plain hgd fun K hK => ?_
  unfold Oper.wp execOp
  simp only [ho, resolve, invoke, builtin, Sem.run_bind, Sem.run_pure, Result.andThen_ok, List.map_toArray, List.map_cons, List.map_nil, hs, hx, hr]
  exact hK _ _ (h _ (setRow_heap w g _ _ t (0, 0) hg) (by simp [World.setRow]) ⟨rfl, rfl, rfl, by simp [World.setRow], fun k hk hn => setRow_other w g k _ (fun e => hn (by rw [e]))⟩)
end

end Go.Proofs.YtpdllgbfemnemaaGreat
end

section
namespace Go.Proofs.YtpdllgbfemnemaaGreat
set_option linter.unusedVariables false
open Go.RowKit

theorem not32 {e : Nat} (he : e < 4294967296) : 4294967295 ^^^ e = 4294967295 - e := by
  have h1 : (~~~(BitVec.ofNat 32 e)).toNat = 2 ^ 32 - 1 - (BitVec.ofNat 32 e).toNat := BitVec.toNat_not
  rw [BitVec.not_def, BitVec.toNat_xor, BitVec.toNat_allOnes, BitVec.toNat_ofNat, Nat.mod_eq_of_lt (by omega)] at h1
  simpa using h1

theorem t1_fact {k w : Nat} {s : H8} (h : s.ok) : ∃ X1 A1 NE A2 CH S1 S2 S3 T1 : Nat,
    bits BinOp.xor IntKind.u32 (rotr 6 s.e : Int) (rotr 11 s.e : Int) = (X1 : Int) ∧ bits BinOp.xor IntKind.u32 (X1 : Int) (rotr 25 s.e : Int) = (bs1 s.e : Int) ∧
    IntKind.u32.wrap ((s.h : Int) + (bs1 s.e : Int)) = (S1 : Int) ∧
    bits BinOp.and IntKind.u32 (s.e : Int) (s.f : Int) = (A1 : Int) ∧ bits BinOp.xor IntKind.u32 IntKind.u32.max (s.e : Int) = (NE : Int) ∧ bits BinOp.and IntKind.u32 (NE : Int) (s.g : Int) = (A2 : Int) ∧
    bits BinOp.xor IntKind.u32 (A1 : Int) (A2 : Int) = (CH : Int) ∧ IntKind.u32.wrap ((S1 : Int) + (CH : Int)) = (S2 : Int) ∧
    IntKind.u32.wrap ((S2 : Int) + (k : Int)) = (S3 : Int) ∧ IntKind.u32.wrap ((S3 : Int) + (w : Int)) = (T1 : Int) ∧ T1 = t1N k w s % 4294967296 ∧
    ((S1 : Int) + (CH : Int)) % 4294967296 = (S2 : Int) ∧ ((S1 : Int) + (CH : Int) + (k : Int)) % 4294967296 = (S3 : Int) ∧ ((S1 : Int) + (CH : Int) + (k : Int) + (w : Int)) % 4294967296 = (T1 : Int) ∧ ((S3 : Int) + (w : Int)) % 4294967296 = (T1 : Int) := by
  obtain ⟨ha, hb, hc, hd, he, hf, hg, hh⟩ := h
  have r6 := rotr_lt (n := 6) he (by omega) (by omega)
  have r11 := rotr_lt (n := 11) he (by omega) (by omega)
  have r25 := rotr_lt (n := 25) he (by omega) (by omega)
  have hch : (s.e &&& s.f) ^^^ ((4294967295 - s.e) &&& s.g) = chN s.e s.f s.g := rfl
  refine ⟨_, _, 4294967295 - s.e, _, _, (s.h + bs1 s.e) % 4294967296, (s.h + bs1 s.e + chN s.e s.f s.g) % 4294967296, (s.h + bs1 s.e + chN s.e s.f s.g + k) % 4294967296, _,
    u32_xor_nat _ _ r6 r11, u32_xor_nat _ _ (xor_lt r6 r11) r25, ?_, u32_and_nat _ _ he hf, ?_, u32_and_nat _ _ (by omega) hg, u32_xor_nat _ _ (and_lt he) (and_lt (by omega)), ?_, ?_, ?_, rfl, ?_, ?_, ?_, ?_⟩
  · rw [wrap_u32 (n := s.h + bs1 s.e) (by omega)]
  · rw [show IntKind.u32.max = ((4294967295 : Nat) : Int) from rfl, u32_xor_nat _ _ (by omega) he, not32 he]
  · rw [hch, wrap_u32 (n := (s.h + bs1 s.e) % 4294967296 + chN s.e s.f s.g) (by omega)]; omega
  · rw [wrap_u32 (n := (s.h + bs1 s.e + chN s.e s.f s.g) % 4294967296 + k) (by omega)]; omega
  · rw [wrap_u32 (n := (s.h + bs1 s.e + chN s.e s.f s.g + k) % 4294967296 + w) (by omega)]
    unfold t1N; omega
  · rw [hch]; omega
  · rw [hch]; omega
  · rw [hch]; unfold t1N; omega
  · unfold t1N; omega

theorem t2_fact {s : H8} (h : s.ok) : ∃ X1 A1 A2 A3 M1 MJ T2 : Nat,
    bits BinOp.xor IntKind.u32 (rotr 2 s.a : Int) (rotr 13 s.a : Int) = (X1 : Int) ∧ bits BinOp.xor IntKind.u32 (X1 : Int) (rotr 22 s.a : Int) = (bs0 s.a : Int) ∧
    bits BinOp.and IntKind.u32 (s.a : Int) (s.b : Int) = (A1 : Int) ∧ bits BinOp.and IntKind.u32 (s.a : Int) (s.c : Int) = (A2 : Int) ∧ bits BinOp.xor IntKind.u32 (A1 : Int) (A2 : Int) = (M1 : Int) ∧
    bits BinOp.and IntKind.u32 (s.b : Int) (s.c : Int) = (A3 : Int) ∧ bits BinOp.xor IntKind.u32 (M1 : Int) (A3 : Int) = (MJ : Int) ∧
    IntKind.u32.wrap ((bs0 s.a : Int) + (MJ : Int)) = (T2 : Int) ∧ T2 = t2N s % 4294967296 := by
  obtain ⟨ha, hb, hc, hd, he, hf, hg, hh⟩ := h
  have r2 := rotr_lt (n := 2) ha (by omega) (by omega)
  have r13 := rotr_lt (n := 13) ha (by omega) (by omega)
  have r22 := rotr_lt (n := 22) ha (by omega) (by omega)
  have hmj : ((s.a &&& s.b) ^^^ (s.a &&& s.c)) ^^^ (s.b &&& s.c) = majN s.a s.b s.c := rfl
  refine ⟨_, _, _, _, _, _, _, u32_xor_nat _ _ r2 r13, u32_xor_nat _ _ (xor_lt r2 r13) r22, u32_and_nat _ _ ha hb, u32_and_nat _ _ ha hc, u32_xor_nat _ _ (and_lt ha) (and_lt ha), u32_and_nat _ _ hb hc, u32_xor_nat _ _ (xor_lt (and_lt ha) (and_lt ha)) (and_lt hb), ?_, rfl⟩
  rw [hmj, wrap_u32 (n := bs0 s.a + majN s.a s.b s.c) (by omega)]
  rfl

end Go.Proofs.YtpdllgbfemnemaaGreat
end
