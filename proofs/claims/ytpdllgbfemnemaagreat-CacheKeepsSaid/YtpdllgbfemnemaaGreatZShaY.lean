import Derived.Test.YtpdllgbfemnemaaGreatZShaF
import Derived.Test.YtpdllgbfemnemaaGreatZWireC
section
namespace Go.Proofs.YtpdllgbfemnemaaGreat
set_option linter.unusedVariables false
open Go.RowKit

def s8 (s : H8) : Array Value := (s.list.map u32v).toArray
def k64 : Array Value := (kInts.map (Value.int .u32)).toArray
def w64 (b : List UInt8) : Array Value := ((wTo b 64).map u32v).toArray
theorem k64_len : k64.size = 64 := rfl
theorem w64_len (b : List UInt8) : (w64 b).size = 64 := by simp [w64, wTo_len]
theorem k64_get {t : Nat} (ht : t < 64) : k64[t]? = some (.int .u32 ((kTab.getD t 0 : Nat) : Int)) := by
  have h : t < kTab.length := ht
  unfold k64 kInts
  rw [List.getElem?_toArray, List.getElem?_map, List.getElem?_map, List.getElem?_eq_getElem h, List.getD_eq_getElem?_getD, List.getElem?_eq_getElem h]
  rfl
theorem w64_get (b : List UInt8) {t : Nat} (ht : t < 64) : (w64 b)[t]? = some (.int .u32 (((wTo b 64).getD t 0 : Nat) : Int)) := by
  have h : t < (wTo b 64).length := by rw [wTo_len]; exact ht
  unfold w64
  rw [List.getElem?_toArray, List.getElem?_map, List.getElem?_eq_getElem h, List.getD_eq_getElem?_getD, List.getElem?_eq_getElem h]
  rfl
theorem s8_one (s : H8) : (s8 s).all (·.oneCell') = true := by simp [s8, u32v, Value.oneCell']
theorem s8_len (s : H8) : (s8 s).size = 8 := rfl
theorem s8_cells {w : World} {G : Nat} {s : H8} (h : w.heap[G]? = some (.cells (s8 s) 184 (0, 0))) :
    w.cell? ⟨G, 0, none⟩ = some (.int .u32 (s.a : Int)) ∧ w.cell? ⟨G, 1, none⟩ = some (.int .u32 (s.b : Int)) ∧ w.cell? ⟨G, 2, none⟩ = some (.int .u32 (s.c : Int)) ∧ w.cell? ⟨G, 3, none⟩ = some (.int .u32 (s.d : Int)) ∧
    w.cell? ⟨G, 4, none⟩ = some (.int .u32 (s.e : Int)) ∧ w.cell? ⟨G, 5, none⟩ = some (.int .u32 (s.f : Int)) ∧ w.cell? ⟨G, 6, none⟩ = some (.int .u32 (s.g : Int)) ∧ w.cell? ⟨G, 7, none⟩ = some (.int .u32 (s.h : Int)) := by
  refine ⟨?_, ?_, ?_, ?_, ?_, ?_, ?_, ?_⟩ <;> (rw [cell_of_row w _ _ _ _ _ h]; rfl)

theorem sright_q (n x : Nat) (N : Int) (hN : N = (n : Int)) (hx : x < 4294967296) (hn : n = 2 ∨ n = 6 ∨ n = 7 ∨ n = 11 ∨ n = 13 ∨ n = 17 ∨ n = 18 ∨ n = 19 ∨ n = 22 ∨ n = 25) (w : World) :
    Calls Tryz.prog 195 #[.int .u32 (x : Int), .int .i64 N] w fun e w' => e = .returned (.int .u32 (rotr n x : Int)) ∧ w' = w := by
  subst hN
  exact (sright_any n x hx hn w).mono fun _ _ ⟨h1, h2⟩ => ⟨h1, h2.symm⟩

theorem s8_set {w : World} {G : Nat} {s s' : H8} (h : w.heap[G]? = some (.cells (s8 s) 184 (0, 0))) {j : Nat} {v : Value} (hv : (s8 s).setIfInBounds j v = s8 s') :
    (w.setCell ⟨G, j, none⟩ v).heap[G]? = some (.cells (s8 s') 184 (0, 0)) := by
  rw [setCell_eq_setRow _ _ _ _ _ _ _ h, setRow_heap _ _ _ _ _ _ h, hv]

theorem s8_head {y : H8} {j : Nat} {v : Value} (h : ([y.a, y.b, y.c, y.d, y.e, y.f, y.g].map u32v)[j]? = some v) : (s8 y)[j]? = some v := by
  match j, h with
  | 0, h => exact h
  | 1, h => exact h
  | 2, h => exact h
  | 3, h => exact h
  | 4, h => exact h
  | 5, h => exact h
  | 6, h => exact h
  | n + 7, h => simp at h

def addTo (s x : H8) (i : Nat) : Array Value := (((addH s x).list.take i ++ s.list.drop i).map u32v).toArray
theorem addTo_get (s x : H8) {i : Nat} (hi : i < 8) : (addTo s x i)[i]? = some (.int .u32 ((s.list.getD i 0 : Nat) : Int)) ∧ (s8 x)[i]? = some (.int .u32 ((x.list.getD i 0 : Nat) : Int)) ∧
    (addTo s x i).setIfInBounds i (.int .u32 (((s.list.getD i 0 + x.list.getD i 0) % 4294967296 : Nat) : Int)) = addTo s x (i + 1) := by
  match i, hi with
  | 0, _ => exact ⟨rfl, rfl, rfl⟩
  | 1, _ => exact ⟨rfl, rfl, rfl⟩
  | 2, _ => exact ⟨rfl, rfl, rfl⟩
  | 3, _ => exact ⟨rfl, rfl, rfl⟩
  | 4, _ => exact ⟨rfl, rfl, rfl⟩
  | 5, _ => exact ⟨rfl, rfl, rfl⟩
  | 6, _ => exact ⟨rfl, rfl, rfl⟩
  | 7, _ => exact ⟨rfl, rfl, rfl⟩

def AddRel (G : Nat) (s x : H8) (i : Value) (w wr : World) : Prop :=
  ∃ t : Nat, i = .int .i64 (t : Int) ∧ t ≤ 8 ∧ w.grownBy wr (some G) ∧ wr.heap[G]? = some (.cells (addTo s x t) 184 (0, 0))

def StepRel (B3 : Nat) (b : List UInt8) (s : H8) (i : Value) (w wr : World) : Prop :=
  ∃ t : Nat, i = .int .i64 (t : Int) ∧ t ≤ 64 ∧ w.grownBy wr (some B3) ∧ wr.heap[B3]? = some (.cells (s8 (roundsH b s t)) 184 (0, 0))

theorem k64_one : k64.all (·.oneCell') = true := by kernel_rfl
theorem w64_one (b : List UInt8) : (w64 b).all (·.oneCell') = true := by simp [w64, u32v, Value.oneCell']

set_option maxRecDepth 100000 in
set_option maxHeartbeats 600000 in
/-- sha.step -/
theorem step_any (p : AC) (b : List UInt8) {S : Nat → Prop} (w : World) (hp : By w S p b) (hl : b.length = 64) (G : Nat) (s : H8) (hs : s.ok) (hG : w.heap[G]? = some (.cells (s8 s) 184 (0, 0))) :
    Calls Tryz.prog 170 #[.pointer (some ⟨G, 0, none⟩), .slice p.a b.length p.c] w fun e w' => e = .returned (.tuple #[]) ∧ w.grownBy w' (some G) ∧ w'.heap[G]? = some (.cells (s8 (stepH s b)) 184 (0, 0)) := by
  obtain ⟨n, hn⟩ : ∃ n, n = b.length := ⟨_, rfl⟩
  rw [← hn]
  have HN := Lib.hid hn
  have HL := Lib.hid hl
  clear hl hn
  go_enter Tryz.func170, Tryz.ntmps170
  go_wp2_with fail
  rw [HN.out]
  refine (words_any p b w hp HL.out).mono ?_
  rintro e w1 ⟨v, rfl, hb1, rfl⟩
  rw [← w64]
  go_wp2_with fail
  refine (consts_any w1).mono ?_
  rintro e w2 ⟨v, rfl, hb2, rfl⟩
  rw [← k64]
  iterate 2 first | go_values | go_skip | go_guarded | go_step | go_upon | go_back | go_simp
  refine wpList_alloc_row rfl 206 rfl (some 4) rfl 64 (by kernel_rfl) ?_
  intro w3 Z3 z3 h3 l3 x3
  refine wpList_alloc_row rfl 206 rfl (some 5) rfl 64 (by kernel_rfl) ?_
  intro w4 Z4 z4 h4 l4 x4
  refine wpList_store_rowE rfl 206 _ _ rfl rfl w2.heap.size (w64 b) rfl rfl 206 Z3 ((x4.block _ (by omega)).trans h3) (by rw [w64_len]; kernel_rfl) (by rw [w64_len]; exact z3) (w64_one b) ?_
  intro w5 h5 l5 x5
  refine wpList_store_rowE rfl 206 _ _ rfl rfl w3.heap.size k64 rfl rfl 206 Z4 ((x5.block _ (by omega) (by simp; omega)).trans h4) (by rw [k64_len]; kernel_rfl) (by rw [k64_len]; exact z4) k64_one ?_
  intro w6 h6 l6 x6
  apply wpList_nil
  go_upto_region 1 with fail
  have f2 : Ext w w2 := hb1.trans hb2
  have f3 : Ext w w3 := f2.trans x3
  have f4 : Ext w w4 := f3.trans x4
  have f5 : Ext w w5 := f4.grown x5 (fun k hk => by cases hk; exact f2.size)
  have f6 : Ext w w6 := f5.grown x6 (fun k hk => by cases hk; exact f3.size)
  have hGl : G < w.heap.size := (Array.getElem?_eq_some_iff.1 hG).1
  have hG6 : w6.heap[G]? = some (.cells (s8 s) 184 (0, 0)) := (f6.block G hGl).trans hG
  have q1 : w6.heap[w2.heap.size]? = some (.cells (w64 b) 206 (0, 0)) := (x6.block _ (by omega) (by simp; omega)).trans h5
  have s8s : (s8 s).size = 8 := rfl
  apply wp_region_lit
  refine Great.wpList_runTo rfl (some 16) rfl (.pointer (some ⟨G, 0, none⟩)) w6 rfl ?_
  refine Great.wpList_runTo rfl (some 17) rfl (.pointer (some ⟨G, 0, none⟩)) w6 rfl ?_
  refine wpList_load_rowTo rfl 184 _ rfl (some 18) rfl G (s8 s) rfl 184 (0, 0) _ hG6 Tryz.underlying184 rfl (by rw [s8s]; kernel_rfl) ?_
  refine wpList_alloc_row rfl 184 rfl (some 6) rfl 8 (by kernel_rfl) ?_
  intro w7 Z7 z7 h7 l7 x7
  refine wpList_store_rowE rfl 184 _ _ rfl rfl w6.heap.size (s8 s) rfl rfl 184 Z7 h7 (by rw [s8s]; kernel_rfl) (by rw [s8s]; exact z7) (s8_one s) ?_
  intro w8 h8 l8 x8
  apply wpList_nil
  have f7 : Ext w w7 := f6.trans x7
  have f8 : Ext w w8 := f7.grown x8 (fun k hk => by cases hk; exact f6.size)
  have hB1 : w8.heap[w2.heap.size]? = some (.cells (w64 b) 206 (0, 0)) := (x8.block _ (by omega) (by simp; omega)).trans ((x7.block _ (by omega)).trans q1)
  have hB2 : w8.heap[w3.heap.size]? = some (.cells k64 206 (0, 0)) := (x8.block _ (by omega) (by simp; omega)).trans ((x7.block _ (by omega)).trans h6)
  have hG8 : w8.heap[G]? = some (.cells (s8 s) 184 (0, 0)) := (f8.block G hGl).trans hG
  obtain ⟨B1, e1⟩ : ∃ B1, B1 = w2.heap.size := ⟨_, rfl⟩
  obtain ⟨B2, e2⟩ : ∃ B2, B2 = w3.heap.size := ⟨_, rfl⟩
  obtain ⟨B3, e3⟩ : ∃ B3, B3 = w6.heap.size := ⟨_, rfl⟩
  have n1 : B1 ≠ B3 := by omega
  have n2 : B2 ≠ B3 := by omega
  have n3 : w.heap.size ≤ B3 := by rw [e3]; exact f6.size
  have n4 : B3 < w8.heap.size := by omega
  have n5 : B1 < w8.heap.size := by omega
  have n6 : B2 < w8.heap.size := by omega
  have n7 : G < w8.heap.size := Nat.lt_of_lt_of_le hGl f8.size
  rw [← e1] at hB1 ⊢
  rw [← e2] at hB2 ⊢
  rw [← e3] at h8 ⊢
  clear e1 e2 e3 h3 l3 x3 h4 l4 x4 h5 l5 x5 h6 l6 x6 h7 l7 x7 l8 x8 q1 hG6 z3 z4 z7 f2 f3 f4 f5 f6 f7 hb1 hb2
  generalize p.c = pc
  generalize p.a = pa
  have d8 : Hid (w8 = w8) := Lib.hid rfl
  go_wp2_with fail
  go_loopw [19] (fun i wr => StepRel B3 b s i w8 wr) (fun i _ => 64 - (intOf i).toNat)
  case atStart => exact ⟨0, rfl, by omega, World.grownBy.refl _ _, h8⟩
  case round =>
    obtain ⟨t, rfl, e1, e2, e3⟩ := hrel
    by_cases ht : t < 64
    · have ht2 : (t : Int) < 64 := by omega
      have ht0 : (0 : Int) ≤ t := by omega
      have hy := roundsH_ok (b := b) hs t
      have hck := (cell_of_row wr B2 t _ _ _ ((e2.block B2 n6 (by simp; omega)).trans hB2)).trans (k64_get ht)
      have hcw := (cell_of_row wr B1 t _ _ _ ((e2.block B1 n5 (by simp; omega)).trans hB1)).trans (w64_get b ht)
      have hnx : roundsH b s (t + 1) = roundH (kTab.getD t 0) ((wTo b 64).getD t 0) (roundsH b s t) := rfl
      obtain ⟨c0, c1, c2, c3, c4, c5, c6, c7⟩ := s8_cells e3
      generalize kTab.getD t 0 = kt at *
      generalize (wTo b 64).getD t 0 = wt at *
      generalize roundsH b s t = y at *
      have be : y.e < 4294967296 := hy.2.2.2.2.1
      have ba : y.a < 4294967296 := hy.1
      have R6 := sright_q 6 y.e 6 rfl be (by omega)
      have R11 := sright_q 11 y.e 11 rfl be (by omega)
      have R25 := sright_q 25 y.e 25 rfl be (by omega)
      have R2 := sright_q 2 y.a 2 rfl ba (by omega)
      have R13 := sright_q 13 y.a 13 rfl ba (by omega)
      have R22 := sright_q 22 y.a 22 rfl ba (by omega)
      obtain ⟨X1, A1, NE, A2, CH, S1, S2, S3, T1, g1, g2, g3, g4, g5, g6, g7, g8, g9, g10, g11, g12, g13, g14, g15⟩ := t1_fact (k := kt) (w := wt) hy
      obtain ⟨X1', A1', A2', A3', M1', MJ', T2, k1, k2, k3, k4, k5, k6, k7, k8, k9⟩ := t2_fact hy
      have HT1 := Lib.hid g11
      have HT2 := Lib.hid k9
      have HNX := Lib.hid hnx
      have HY := Lib.hid hy
      clear g11 k9 hnx hy be ba
      go_wp2_with fail
      go_quiet (fail)
      revert nq; intro nq1
      go_wp2_with fail
      go_quiet (first | (go_at_call_of 195 (Value.int IntKind.i64 6); exact (R6 _).mono fun _ _ h => ⟨h.1, _, h.2⟩) | (go_at_call_of 195 (Value.int IntKind.i64 11); exact (R11 _).mono fun _ _ h => ⟨h.1, _, h.2⟩) | (go_at_call_of 195 (Value.int IntKind.i64 25); exact (R25 _).mono fun _ _ h => ⟨h.1, _, h.2⟩))
      revert nq; intro nq2
      go_wp2_with fail
      go_quiet (first | (go_at_call_of 195 (Value.int IntKind.i64 2); exact (R2 _).mono fun _ _ h => ⟨h.1, _, h.2⟩) | (go_at_call_of 195 (Value.int IntKind.i64 13); exact (R13 _).mono fun _ _ h => ⟨h.1, _, h.2⟩) | (go_at_call_of 195 (Value.int IntKind.i64 22); exact (R22 _).mono fun _ _ h => ⟨h.1, _, h.2⟩))
      revert nq; intro nq3
      go_wp2_with fail
      have e2' := grown_drewN (grown_drewN e2 (nq1 + nq2)) nq3
      have e3' : ((wr.drewN (nq1 + nq2)).drewN nq3).heap[B3]? = some (.cells (s8 y) 184 (0, 0)) := e3
      clear e2 e3 c0 c1 c2 c3 c4 c5 c6 c7 hck hcw R6 R11 R25 R2 R13 R22 g1 g2 g3 g4 g5 g6 g7 g8 g9 g10 g12 g13 g14 g15 k1 k2 k3 k4 k5 k6 k7 k8
      generalize (wr.drewN (nq1 + nq2)).drewN nq3 = w9 at *
      go_still_tail 2, (by kernel_rfl)
      change wpList _ _ _ _ _ w9.drew
      have e2 := grown_drew e2'
      have e3 : w9.drew.heap[B3]? = some (.cells (s8 y) 184 (0, 0)) := e3'
      clear e2' e3'
      generalize w9.drew = w10 at *
      obtain ⟨c0, c1, c2, c3, c4, c5, c6, c7⟩ := s8_cells e3
      refine wpList_copy_row rfl _ _ _ _ 162 rfl Tryz.underlying210 (by kernel_rfl) B3 1 7 7 ⟨B3, 0, none⟩ 7 8 (s8 y) 184 ([y.a, y.b, y.c, y.d, y.e, y.f, y.g].map u32v) rfl rfl e3 rfl ?_ (by rw [s8_len]; exact Nat.le_refl _) (by simp [u32v, Value.oneCell']) ?_
      · intro j v hj
        rw [addr_add, cell_of_row w10 B3 _ _ _ _ e3, Nat.zero_add]
        exact s8_head hj
      intro w11 h11 l11 x11
      have e4 : w11.heap[B3]? = some (.cells (s8 ⟨y.a, y.a, y.b, y.c, y.d, y.e, y.f, y.g⟩) 184 (0, 0)) := h11
      have e5 := grown_trans e2 x11
      clear h11 e2 e3 c0 c1 c2 c3 c4 c5 c6 c7 x11
      obtain ⟨c0, c1, c2, c3, c4, c5, c6, c7⟩ := s8_cells e4
      have z0 : w11.frozen? ⟨B3, 0, none⟩ = false := by simp [World.frozen?, e4]
      have z4 : w11.frozen? ⟨B3, 4, none⟩ = false := by simp [World.frozen?, e4]
      obtain ⟨E', hE⟩ : ∃ E' : Nat, E' = (y.d + T1) % 4294967296 := ⟨_, rfl⟩
      obtain ⟨A', hA⟩ : ∃ A' : Nat, A' = (T1 + T2) % 4294967296 := ⟨_, rfl⟩
      have v1 : IntKind.u32.wrap ((y.d : Int) + (T1 : Int)) = (E' : Int) := by rw [hE, wrap_u32 (n := y.d + T1) (by omega)]
      have v2 : IntKind.u32.wrap ((T1 : Int) + (T2 : Int)) = (A' : Int) := by rw [hA, wrap_u32 (n := T1 + T2) (by omega)]
      have v3 : ((y.d : Int) + (T1 : Int)) % 4294967296 = (E' : Int) := by rw [hE]; omega
      have v4 : ((T1 : Int) + (T2 : Int)) % 4294967296 = (A' : Int) := by rw [hA]; omega
      have HE := Lib.hid hE
      have HA := Lib.hid hA
      clear hE hA
      apply wpList_nil
      go_wp2_with fail
      refine ⟨⟨t + 1, by simp, by omega, grown_set (grown_set e5 rfl _) rfl _, ?_⟩, by (first | omega | (simp [intOf]; done) | (simp [intOf]; omega))⟩
      have hfin : (⟨A', y.a, y.b, y.c, E', y.e, y.f, y.g⟩ : H8) = roundsH b s (t + 1) := by
        rw [HNX.out, roundH, HA.out, HE.out, HT1.out, HT2.out]
        congr 1 <;> omega
      rw [← hfin]
      exact s8_set (s8_set e4 (s' := ⟨y.a, y.a, y.b, y.c, E', y.e, y.f, y.g⟩) rfl) rfl
    · have h64 : t = 64 := by omega
      have H64 := Lib.hid h64
      have f9 : Ext w wr := f8.grown e2 (fun k hk => by cases hk; exact n3)
      have q3 : wr.heap[G]? = some (.cells (s8 s) 184 (0, 0)) := (f9.block G hGl).trans hG
      have e3' : wr.heap[B3]? = some (.cells (s8 (roundsH b s 64)) 184 (0, 0)) := by rw [← H64.out]; exact e3
      have hw : stepH s b = addH s (roundsH b s 64) := rfl
      have n8 : G ≠ B3 := by omega
      have n9 : B3 < wr.heap.size := Nat.lt_of_lt_of_le n4 e2.size
      have HX := Lib.hid hw
      clear h64 e2 e3 hw hB1 hB2 h8 hG8
      generalize roundsH b s 64 = x at *
      go_wp2_with fail
      go_loopw [93] (fun i wr' => AddRel G s x i wr wr') (fun i _ => 8 - (intOf i).toNat)
      case atStart => exact ⟨0, rfl, by omega, World.grownBy.refl _ _, q3⟩
      case round =>
        rename_i K0 _
        obtain ⟨t, rfl, e1, e2, e3⟩ := hrel
        by_cases ht : t < 8
        · have ht2 : (t : Int) < 8 := by omega
          have ht0 : (0 : Int) ≤ t := by omega
          obtain ⟨a1, a2, a3⟩ := addTo_get s x ht
          have hc0 := (cell_of_row _ G t _ _ _ e3).trans a1
          have hc1 := (cell_of_row _ B3 t _ _ _ ((e2.block B3 n9 (by simp; omega)).trans e3')).trans a2
          clear a1 a2
          generalize s.list.getD t 0 = X at *
          generalize x.list.getD t 0 = Y at *
          obtain ⟨R, hR⟩ : ∃ R : Nat, R = (X + Y) % 4294967296 := ⟨_, rfl⟩
          have v1 : IntKind.u32.wrap ((X : Int) + (Y : Int)) = (R : Int) := by rw [hR, wrap_u32 (n := X + Y) (by omega)]
          have v3 : ((X : Int) + (Y : Int)) % 4294967296 = (R : Int) := by rw [hR]; omega
          rw [← hR] at a3
          have A3 := Lib.hid a3
          clear hR a3
          go_wp2_with fail
          go_still_tail 11, (by kernel_rfl)
          change wpList _ _ _ _ _ wr.drew
          have e2' := grown_drew e2
          have e3'' : wr.drew.heap[G]? = some (.cells (addTo s x t) 184 (0, 0)) := e3
          have hc0' : wr.drew.cell? ⟨G, t, none⟩ = some (.int .u32 (X : Int)) := hc0
          have z0 : wr.drew.frozen? ⟨G, t, none⟩ = false := by simp [World.frozen?, e3'']
          clear e2 e3 hc0 hc1
          generalize wr.drew = w9 at *
          go_wp2_with fail
          refine ⟨⟨t + 1, by simp, by omega, grown_set e2' rfl _, ?_⟩, by (first | omega | (simp [intOf]; done) | (simp [intOf]; omega))⟩
          rw [setCell_eq_setRow _ _ _ _ _ _ _ e3'', setRow_heap _ _ _ _ _ _ e3'', A3.out]
        · have h8 : t = 8 := by omega
          subst h8
          have hz : addTo s x 8 = s8 (addH s x) := rfl
          go_wp2_with fail
          go_end0
          exact ⟨rfl, grown_trans (grown_of_ext f9 (some G)) e2, by rw [HX.out, ← hz]; exact e3⟩

end Go.Proofs.YtpdllgbfemnemaaGreat
end

section
namespace Go.Proofs.YtpdllgbfemnemaaGreat
set_option linter.unusedVariables false
open Go.RowKit

def TailRel (n : Nat) (w : World) (v : Value) (wr : World) : Prop :=
  ∃ (k : Nat) (g : Option Nat), k ≤ zerosN n ∧ OwB wr w.heap.size v (128 :: List.replicate k 0) g ∧ Ext w wr
def TailRel2 (n : Nat) (w : World) (v i : Value) (wr : World) : Prop :=
  ∃ (j : Nat) (done : List UInt8) (g : Option Nat), i = .int .i64 ((j : Int) - 1) ∧ j ≤ 8 ∧ done.length + j = 9 + zerosN n ∧ tailB n = done ++ beB j (n * 8) ∧ OwB wr w.heap.size v done g ∧ Ext w wr

theorem zeros_more {n k : Nat} (h : k ≤ zerosN n) : ((n + (k + 1)) % 64 = 56 ↔ k = zerosN n) := by
  unfold zerosN at *; omega

/-- sha.tail -/
theorem tail_any (n : Nat) (w : World) (hn : n ≤ 1000000000000) :
    Calls Tryz.prog 169 #[.int .i64 (n : Int)] w (Ret w fun w' v => ∃ g, OwB w' w.heap.size v (tailB n) g) := by
  go_enter Tryz.func169, Tryz.ntmps169
  go_wp2_with fail
  go_loopw [3] (fun v wr => TailRel n w v wr) (fun v _ => 100 - (match v with | .slice _ k _ => k | _ => 0))
  case atStart => exact ⟨0, some w.heap.size, Nat.zero_le _, OwB.ofNew (l := [128]) (Nat.le_refl _) rfl rfl (by decide), by (repeat (first | exact Ext.refl _ | refine Ext.drew ?_ | refine Ext.drewN ?_ _ | refine Ext.alloc ?_ _ | (refine Ext.setCell ?_ (by first | omega | (simp; done) | (simp; omega)) _) | refine Ext.trans ?_ (by assumption)))⟩
  case round =>
    obtain ⟨k, g, e1, e2, e3⟩ := hrel
    have hk : k < 64 := Nat.lt_of_le_of_lt e1 (zerosN_lt n)
    obtain ⟨a, c, rfl⟩ := e2.form
    have hlen : (128 :: List.replicate k (0 : UInt8)).length = k + 1 := by simp
    have hiff := zeros_more e1
    have hsnoc : (128 :: List.replicate k (0 : UInt8)) ++ [0] = 128 :: List.replicate (k + 1) 0 := by simp [List.replicate_succ']
    have HS := Lib.hid hsnoc
    have E1 := Lib.hid e1
    clear hsnoc
    obtain ⟨L, hL⟩ : ∃ L, L = 128 :: List.replicate k (0 : UInt8) := ⟨_, rfl⟩
    rw [← hL] at e2 hlen ⊢
    have HL := Lib.hid hL
    clear hL e1
    have hL64 : L.length ≤ 64 := by omega
    by_cases hz : k = zerosN n
    · have h56 : ((n : Int) + (L.length : Int)) % 64 = 56 := by have := hiff.2 hz; omega
      have HZ := Lib.hid hz
      have HN := Lib.hid hlen
      clear hiff hz hlen
      go_wp2_with fail
      go_loopw [3, 4] (fun v i wr' => TailRel2 n w v i wr') (fun _ i _ => (intOf i + 1).toNat)
      case atStart =>
        refine ⟨8, L, g, rfl, by omega, by have h1 := HN.out; have h2 := HZ.out; omega, ?_, e2, e3⟩
        rw [HL.out, HZ.out]; rfl
      case round =>
        clear e2 e3 h56 hk
        obtain ⟨j, done, g, rfl, e1, e2, e3, e4, e5⟩ := hrel
        have E3 := Lib.hid e3
        have E2' := Lib.hid e2
        have E2 : done.length ≤ 73 := by have := zerosN_lt n; omega
        obtain ⟨a, c, rfl⟩ := e4.form
        clear e3 e2
        by_cases h0 : j = 0
        · subst h0
          go_wp2_with fail
          go_ret
          exact ⟨_, rfl, (by (repeat (first | exact Ext.refl _ | refine Ext.drew ?_ | refine Ext.drewN ?_ _ | refine Ext.alloc ?_ _ | (refine Ext.setCell ?_ (by first | omega | (simp; done) | (simp; omega)) _) | refine Ext.trans ?_ (by assumption)))), g, by rw [E3.out]; simpa [beB] using e4⟩
        · obtain ⟨k, rfl⟩ : ∃ k, j = k + 1 := ⟨j - 1, by omega⟩
          have ek : ((k + 1 : Nat) : Int) - 1 = (k : Int) := by omega
          rw [ek]
          clear h0 ek
          go_wp2_with (first | (at_builtin; refine stop_ ?_))
          refine go_on (wpList_appB (l2 := [UInt8.ofNat (n * 8 / 256 ^ k)]) rfl (.tmp 19) (.tmp 27) rfl rfl (e4.alloc _) rfl rfl (one_u8 _ ?_) ?_ ?_ ?_)
          · rw [u8_ofNat, ← pow256]; simp
          · simp; omega
          · have := e5.le; simp; omega
          intro a' c' g' w' r1 r2 r3
          have r4 := (e4.alloc _).grown r2 (e5.alloc _) (Nat.le_refl _)
          go_wp2_with fail
          go_roundw
          case rel => exact ⟨k, _, g', rfl, by omega, by have := E2'.out; simp; omega, by rw [E3.out, beB, List.append_assoc]; rfl, r1, r4⟩
          case measure => (first | omega | (simp [intOf]; done) | (simp [intOf]; omega))
    · have h56 : ¬ ((n : Int) + (L.length : Int)) % 64 = 56 := by intro h; exact hz (hiff.1 (by omega))
      have HZ := Lib.hid hz
      have HN := Lib.hid hlen
      clear hiff hz hlen
      go_wp2_with (first | (at_builtin; refine stop_ ?_))
      refine go_on (wpList_appB (l2 := [0]) rfl (.tmp 12) (.tmp 13) rfl rfl (e2.alloc _) rfl rfl (one_u8 _ rfl) ?_ ?_ ?_)
      · simp; omega
      · have := e3.le; simp; omega
      intro a' c' g' w' r1 r2 r3
      have r4 := (e2.alloc _).grown r2 (e3.alloc _) (Nat.le_refl _)
      go_wp2_with fail
      go_roundw
      case rel => exact ⟨k + 1, g', by have h1 := E1.out; have h2 := HZ.out; omega, by rw [← HS.out, ← HL.out]; exact r1, r4⟩
      case measure => have h1 := HN.out; show 100 - (L.length + 1) < 100 - L.length; omega

end Go.Proofs.YtpdllgbfemnemaaGreat
end
