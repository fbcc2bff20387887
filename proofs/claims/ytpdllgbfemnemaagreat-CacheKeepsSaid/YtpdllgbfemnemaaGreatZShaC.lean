import Derived.Test.YtpdllgbfemnemaaGreatZShaZ
import Derived.Lib.AppendZerosOnto
namespace Go.Proofs.YtpdllgbfemnemaaGreat
set_option linter.unusedVariables false
open Go.RowKit

theorem wpList_appRun {P : Program} {ops : Array Oper} {rest : List Oper} {o : Oper} {a : Act} {w : World} {Q : Exit → Act → World → Prop} (hgd : o.guard = none) (s x : Operand) (t u : TypeId)
    (ho : o.op = .call { callee := .builtin .append, args := #[s, x], argTypes := #[t, u] }) {v y v' : Value} {w' : World} (hs : a.eval s = v) (hx : a.eval x = y)
    (hr : (Builtin.append_ #[t, u] o.type #[v, y]).run P w = .ok v' w') (h : wpList P ops Q rest (a.put o.dst v') w') : wpList P ops Q (o :: rest) a w := by
  refine wpList_plain hgd fun K hK => ?_
  unfold Oper.wp execOp
  simp only [ho, resolve, invoke, builtin, Sem.run_bind, Sem.run_pure, Result.andThen_ok, List.map_toArray, List.map_cons, List.map_nil, hs, hx, hr]
  exact hK _ _ h

set_option maxRecDepth 100000 in
/-- slices.Grow of the nil slice. -/
theorem growB_any (n : Nat) (w : World) (hn : n ≤ 1000000000000) :
    Calls Tryz.prog 171 #[.slice none 0 0, .int .i64 (n : Int)] w (Ret w fun w' v => ∃ g, OwB w' w.heap.size v [] g) := by
  rcases Nat.eq_zero_or_pos n with rfl | hpos
  · go_enter Tryz.func171, Tryz.ntmps171
    go_wp2_with fail
    go_ret
    exact ⟨_, rfl, (by (repeat (first | exact Ext.refl _ | refine Ext.drew ?_ | refine Ext.drewN ?_ _ | refine Ext.alloc ?_ _ | (refine Ext.setCell ?_ (by first | omega | (simp; done) | (simp; omega)) _) | refine Ext.trans ?_ (by assumption)))), none, OwB.nil _ _⟩
  · obtain ⟨i0, hi, hz0, hz1, hz2⟩ := info_parts Tryz.infoU8
    have hr := fun ty => Lib.run_append_grow_zeros w 28 3 ty 5 i0 (.int .u8 0) .i64 .i64 Tryz.underlying28 Tryz.underlying3 hi hz0 none 0 0 [] (run_firstCells_none w.drew i0.size 0 0 0) n hpos (by rw [hz1]; decide) (by omega) (by omega) (by rw [hz2]; omega) (growslice_fits (by omega) (by rw [hz2]; omega))
    simp only [Nat.zero_add] at hr
    have hge := grownCap_ge w n 0 5
    have hle := grownCap_le_maxLen w n 0 5 (by unfold maxLen; omega)
    have hcs : ((([] : List Value).toArray ++ Builtin.zeroCells (Value.int .u8 0).cells n ++ Builtin.zeroCells (Value.int .u8 0).cells (grownCap w n 0 5 - n))).size = grownCap w n 0 5 := by
      simp only [Array.size_append, List.size_toArray, size_zeroCells, show (Value.int IntKind.u8 0).cells.size = 1 from rfl]
      simp only [List.length_nil]; omega
    generalize grownCap w n 0 5 = G at *
    generalize ([] : List Value).toArray ++ Builtin.zeroCells (Value.int .u8 0).cells n ++ Builtin.zeroCells (Value.int .u8 0).cells (G - n) = cs at *
    unfold maxLen at hle
    go_enter Tryz.func171, Tryz.ntmps171
    go_wp2_with (first | (at_builtin; refine stop_ ?_))
    refine go_on (wpList_appRun rfl (.tmp 20) (.tmp 21) _ _ rfl rfl rfl (hr _) ?_)
    clear hr
    go_wp2_with fail
    go_ret
    refine ⟨_, rfl, (by (repeat (first | exact Ext.refl _ | refine Ext.drew ?_ | refine Ext.drewN ?_ _ | refine Ext.alloc ?_ _ | (refine Ext.setCell ?_ (by first | omega | (simp; done) | (simp; omega)) _) | refine Ext.trans ?_ (by assumption)))), some w.heap.size, ?_⟩
    exact ⟨by simp, .inr ⟨w.heap.size, G, cs, rfl, rfl, Nat.le_refl _, heap_alloc_new w.drew _, Nat.zero_le _, by unfold maxLen; omega, by simpa using hcs, by simp⟩⟩

abbrev slv (q : AC × List UInt8) : Value := .slice q.1.a q.2.length q.1.c
/-- p reads as the slices of bytes ps. -/
def Pa (w : World) (p : AC) (ps : List (AC × List UInt8)) : Prop := Sl w (fun _ => True) 1 p ps.length (ps.map slv) ∧ ∀ q ∈ ps, By w (fun _ => True) q.1 q.2
def catB (ps : List (AC × List UInt8)) : List UInt8 := ps.flatMap (·.2)
theorem Pa.ext {w w' : World} {p : AC} {ps : List (AC × List UInt8)} (h : Pa w p ps) (k : Ext w w') : Pa w' p ps := ⟨Sl.ext h.1 k, fun q hq => (h.2 q hq).ext k⟩
theorem Pa.at_ {w : World} {p : AC} {ps : List (AC × List UInt8)} (h : Pa w p ps) {k : Nat} (hk : k < ps.length) : ∃ b o, p.a = some ⟨b, o, none⟩ ∧ w.cell? ⟨b, o + k, none⟩ = some (slv ps[k]) ∧ By w (fun _ => True) ps[k].1 ps[k].2 := by
  obtain ⟨b, o, e, _, _, hc⟩ := Sl.at_ h.1 (by omega)
  exact ⟨b, o, e, hc k _ (by simp [hk]), h.2 _ (List.getElem_mem hk)⟩
theorem cat_take (ps : List (AC × List UInt8)) {k : Nat} (hk : k < ps.length) : catB (ps.take (k + 1)) = catB (ps.take k) ++ ps[k].2 := by
  unfold catB
  rw [List.take_add_one, List.flatMap_append, List.getElem?_eq_getElem hk]; simp
theorem cat_le (ps : List (AC × List UInt8)) (k : Nat) : (catB (ps.take k)).length ≤ (catB ps).length := by
  have h : catB ps = catB (ps.take k) ++ catB (ps.drop k) := by
    unfold catB; rw [← List.flatMap_append, List.take_append_drop]
  rw [h, List.length_append]; omega

def CatRel1 (ps : List (AC × List UInt8)) (s i : Value) (w wr : World) : Prop :=
  ∃ j : Nat, i = .int .i64 (j : Int) ∧ j ≤ ps.length ∧ s = .int .i64 ((catB (ps.take j)).length : Int) ∧ Ext w wr
def CatRel2 (ps : List (AC × List UInt8)) (s i : Value) (base : Nat) (w wr : World) : Prop :=
  ∃ (j : Nat) (g : Option Nat), i = .int .i64 (j : Int) ∧ j ≤ ps.length ∧ OwB wr base s (catB (ps.take j)) g ∧ Ext w wr

set_option maxRecDepth 100000 in
/-- slices.Concat of bytes -/
theorem concat_any (p : AC) (ps : List (AC × List UInt8)) (w : World) (hp : Pa w p ps) (hl : (catB ps).length ≤ 1000000000000) :
    Calls Tryz.prog 133 #[.slice p.a ps.length p.c] w (Ret w fun w' v => ∃ g, OwB w' w.heap.size v (catB ps) g) := by
  have hlen := Sl.capLe hp.1
  unfold maxLen at hlen
  obtain ⟨N, hN⟩ : ∃ N, N = ps.length := ⟨_, rfl⟩
  have HN := Lib.hid hN
  have hN63 : N ≤ 9223372036854775807 := by omega
  rw [← hN]
  clear hN hlen
  go_enter Tryz.func133, Tryz.ntmps133
  go_wp2_with fail
  go_loopw [3, 11] (fun s i wr => CatRel1 ps s i w wr) (fun _ i _ => N - (intOf i).toNat)
  case atStart => exact ⟨0, rfl, Nat.zero_le _, rfl, Ext.refl _⟩
  case round =>
    obtain ⟨j, rfl, e1, rfl, e3⟩ := hrel
    rw [← HN.out] at e1
    by_cases hj : j < N
    · have hj' : j < ps.length := by rw [← HN.out]; exact hj
      obtain ⟨b, o, hpa, hc, hby⟩ := (hp.ext e3).at_ hj'
      have hcat := cat_take ps hj'
      have hle := cat_le ps (j + 1)
      rw [hcat, List.length_append] at hle
      have hL : (catB (ps.take (j + 1))).length = (catB (ps.take j)).length + ps[j].2.length := by rw [hcat, List.length_append]
      have HLL := Lib.hid hL
      have hj0 : (0 : Int) ≤ (j : Int) := by omega
      have hjN : (j : Int) < (N : Int) := by omega
      generalize ps[j] = q at *
      generalize (catB (ps.take j)).length = A at *
      have hA : A + q.2.length ≤ 1000000000000 := by omega
      rw [hpa]
      clear hpa hcat hle hL hby
      go_wp2_with fail
      go_roundw
      case rel => exact ⟨j + 1, by simp, by have := HN.out; omega, by rw [HLL.out]; simp, e3⟩
      case measure => (first | omega | (simp [intOf]; done) | (simp [intOf]; omega))
    · have hjN : j = N := by omega
      have HJ := Lib.hid hjN
      have hall : catB (ps.take j) = catB ps := by rw [hjN, HN.out, List.take_length]
      obtain ⟨A, hA⟩ : ∃ A, A = (catB (ps.take j)).length := ⟨_, rfl⟩
      have hAl : A ≤ 1000000000000 := by rw [hA, hall]; exact hl
      rw [← hA]
      clear hA hall hjN
      go_wp2_with fail
      refine (growB_any A _ hAl).mono ?_
      rintro e w1 ⟨v, rfl, hb1, g1, o1⟩
      go_wp2_with fail
      go_loopw [6, 27] (fun s i wr' => CatRel2 ps s i wr.heap.size wr wr') (fun _ i _ => N - (intOf i).toNat)
      case atStart => exact ⟨0, g1, rfl, Nat.zero_le _, o1, hb1⟩
      case round =>
        rename_i K0 _
        obtain ⟨k, g, rfl, d1, d2, d3⟩ := hrel
        rw [← HN.out] at d1
        have hf := e3
        by_cases hk : k < N
        · have hk' : k < ps.length := by rw [← HN.out]; exact hk
          obtain ⟨b, o, hpa, hc, hby⟩ := (hp.ext (hf.trans d3)).at_ hk'
          have hcat := cat_take ps hk'
          have hle := cat_le ps (k + 1)
          rw [hcat, List.length_append] at hle
          have HC := Lib.hid hcat
          have hk0 : (0 : Int) ≤ (k : Int) := by omega
          have hkN : (k : Int) < (N : Int) := by omega
          generalize ps[k] = q at *
          obtain ⟨a, c, rfl⟩ := d2.form
          generalize catB (ps.take k) = L at *
          rw [hpa]
          clear hpa hcat
          go_wp2_with (first | (at_builtin; refine stop_ ?_))
          refine go_on (wpList_appB rfl (.tmp 31) (.tmp 32) rfl rfl d2 rfl rfl hby ?_ ?_ ?_)
          · omega
          · have h2 := d3.size; omega
          intro a' c' g' w' r1 r2 r3
          have r4 := d2.grown r2 d3 (Nat.le_refl _)
          go_wp2_with fail
          go_roundw
          case rel => exact ⟨k + 1, g', by simp, by have := HN.out; omega, by rw [HC.out]; exact r1, r4⟩
          case measure => (first | omega | (simp [intOf]; done) | (simp [intOf]; omega))
        · have hkN : k = N := by omega
          have hall : catB (ps.take k) = catB ps := by rw [hkN, HN.out, List.take_length]
          obtain ⟨a, c, rfl⟩ := d2.form
          go_wp2_with fail
          go_ret
          exact ⟨_, rfl, hf.trans d3, g, by rw [hall] at d2 ⊢; exact d2.base_mono e3.size⟩

set_option maxRecDepth 100000 in
/-- sha.Of -/
theorem of_sha_any (p : AC) (ps : List (AC × List UInt8)) (w : World) (hp : Pa w p ps) (hl : (catB ps).length ≤ 100000000000) :
    Calls Tryz.prog 92 #[.slice p.a ps.length p.c] w (Ret w fun w' v => ∃ g, OwB w' w.heap.size v (shaB (catB ps)) g) := by
  go_enter Tryz.func92, Tryz.ntmps92
  go_wp2_with fail
  refine (concat_any p ps _ hp (by omega)).mono ?_
  rintro e w1 ⟨v, rfl, x1, g1, o1⟩
  obtain ⟨q, rfl, b1⟩ := o1.by_
  go_wp2_with fail
  refine (sum_any q (catB ps) _ b1 hl).mono ?_
  rintro e w2 ⟨v, rfl, x2, rfl⟩
  have hs32 : ((shaB (catB ps)).map bv).toArray.size = 32 := by simp [shaB_len]
  have hone : ((shaB (catB ps)).map bv).toArray.all (·.oneCell') = true := by simp [Value.oneCell']
  obtain ⟨cs, hcs⟩ : ∃ cs, cs = ((shaB (catB ps)).map bv).toArray := ⟨_, rfl⟩
  rw [← hcs] at hs32 hone ⊢
  have HC := Lib.hid hcs
  clear hcs
  iterate 2 first | go_values | go_skip | go_guarded | go_step | go_upon | go_back | go_simp
  refine wpList_alloc_row rfl 159 rfl (some 3) rfl 32 (by kernel_rfl) ?_
  intro w3 Z3 z3 h3 l3 x3
  refine wpList_store_rowE rfl 159 _ _ rfl rfl w2.heap.size cs rfl rfl 159 Z3 h3 (by rw [hs32]; kernel_rfl) (by rw [hs32]; exact z3) hone ?_
  intro w4 h4 l4 x4
  apply wpList_nil
  have f2 : Ext w w2 := x1.trans x2
  have f4 : Ext w w4 := (f2.trans x3).grown x4 (fun k hk => by cases hk; exact f2.size)
  have hB : w.heap.size ≤ w2.heap.size := f2.size
  generalize w2.heap.size = B at *
  clear x4 l4 l3 h3 x3 x2 x1 f2
  go_wp2_with fail
  go_ret
  refine ⟨_, rfl, f4, none, ?_⟩
  have hs := Sl.block (S := (w.heap.size ≤ ·)) (sz := 1) (n := 32) (c := 32) h4 hB (by rw [hs32]) (Nat.le_refl _) (by unfold maxLen; omega)
  rw [HC.out] at hs
  unfold OwB
  rw [shaB_len]
  exact ⟨by simp [shaB_len], .inl ⟨rfl, _, rfl, hs⟩⟩

end Go.Proofs.YtpdllgbfemnemaaGreat
