import Derived.Test.YtpdllgbfemnemaaGreatZShaY
namespace Go.Proofs.YtpdllgbfemnemaaGreat
set_option linter.unusedVariables false
open Go.RowKit

theorem begin_any' (w : World) : Calls Tryz.prog 168 #[] w (Ret w fun _ v => v = .agg (s8 h0Tab)) :=
  (begin_any w).mono fun _ _ ⟨v, h1, h2, h3⟩ => ⟨v, h1, h2, h3⟩

theorem step_any' (p : AC) (b : List UInt8) {S : Nat → Prop} (w : World) (hp : By w S p b) (hl : b.length = 64) (G : Nat) (s : H8) (hs : s.ok) (hG : w.heap[G]? = some (.cells (s8 s) 184 (0, 0))) :
    Calls Tryz.prog 170 #[.pointer (some ⟨G, 0, none⟩), .slice p.a 64 p.c] w fun e w' => e = .returned (.tuple #[]) ∧ w.grownBy w' (some G) ∧ w'.heap[G]? = some (.cells (s8 (stepH s b)) 184 (0, 0)) := by
  have := step_any p b w hp hl G s hs hG
  rwa [hl] at this
theorem By.take {w : World} {S : Nat → Prop} {p : AC} {l : List UInt8} (h : By w S p l) {k : Nat} (hk : k ≤ l.length) : By w S p (l.take k) := by
  have hl := h.lens
  have := Sl.cut (a := p.a) (c := p.c) h (Nat.zero_le k) hk (by omega) (fun _ b o e => by simpa using e)
  unfold By
  rw [List.length_take, Nat.min_eq_left hk]
  simpa using this
theorem By.drop {w : World} {S : Nat → Prop} {p : AC} {l : List UInt8} (h : By w S p l) {k : Nat} (hk : k ≤ l.length) {a : Option Addr} (ha : k < l.length → ∀ b o, p.a = some ⟨b, o, none⟩ → a = some ⟨b, o + k, none⟩) : By w S ⟨a, p.c - k⟩ (l.drop k) := by
  have hl := h.lens
  have := Sl.cut (a := a) (c := p.c - k) h hk (Nat.le_refl _) (by omega) (fun h b o e => by simpa using ha h b o e)
  unfold By
  rw [List.length_drop]
  have e : ((l.map bv).drop (k * 1)).take ((l.length - k) * 1) = (l.drop k).map bv := by
    rw [Nat.mul_one, Nat.mul_one, List.take_of_length_le (by simp), List.map_drop]
  rwa [e] at this

def Spare32 (w : World) (B : Nat) : Prop := ∃ Z : Array Value, w.heap[B]? = some (.cells Z 159 (0, 0)) ∧ Z.size = 32

/-- At the label: m blocks have gone in. -/
def SumF (L R : List UInt8) (m n G : Nat) (q : AC) (w w' : World) : Prop :=
  64 * m ≤ L.length ∧ R = L.drop (64 * m) ∧ n = R.length ∧ w.heap.size < G ∧ G < w'.heap.size ∧ By w' (fun k => k ≠ G) q R ∧ w'.heap[G]? = some (.cells (s8 (runH m h0Tab L)) 184 (0, 0)) ∧ Ext w w' ∧ Spare32 w' w.heap.size

theorem SumF.next {L R : List UInt8} {m n G : Nat} {q : AC} {w w7 w8 : World} (h : SumF L R m n G q w w7) (hR : 64 ≤ R.length) (x8 : w7.grownBy w8 (some G))
    (h8 : w8.heap[G]? = some (.cells (s8 (stepH (runH m h0Tab L) (R.take 64))) 184 (0, 0))) {a : Option Addr} {c : Nat} (hc : c = q.c - 64)
    (ha : q.c ≠ 64 → ∀ b o, q.a = some ⟨b, o, none⟩ → a = some ⟨b, o + 64, none⟩) : SumF L (R.drop 64) (m + 1) (n - 64) G ⟨a, c⟩ w w8 := by
  obtain ⟨h1, h2, h3, h4, h5, h6, h7, h9, Z, z1, z2⟩ := h
  have hlen : R.length = L.length - 64 * m := by rw [h2, List.length_drop]
  have hl := h6.lens
  refine ⟨by omega, ?_, ?_, h4, Nat.lt_of_lt_of_le h5 x8.size, ?_, ?_, h9.grown x8 (fun k hk => by cases hk; omega), Z, ?_, z2⟩
  · rw [h2, List.drop_drop]; congr 1
  · rw [List.length_drop, h3]
  · subst hc
    have := h6.drop hR (a := a) (fun hlt b o e => ha (by omega) b o e)
    exact this.same (Same.of_grown x8 (fun b hb e => hb (Option.some.inj e)))
  · rw [h8, runH_snoc, h2]
  · rw [x8.block _ (by have := h9.size; omega) (by simp; omega)]; exact z1

def outTo (s : H8) (Z : Array Value) (t : Nat) : Array Value := (((outH s).take (4 * t)).map bv ++ Z.toList.drop (4 * t)).toArray
theorem out_more (s : H8) {t : Nat} (ht : t < 8) : (outH s).take (4 * (t + 1)) = (outH s).take (4 * t) ++ beB 4 (s.list.getD t 0) := by
  match t, ht with
  | 0, _ => rfl
  | 1, _ => rfl
  | 2, _ => rfl
  | 3, _ => rfl
  | 4, _ => rfl
  | 5, _ => rfl
  | 6, _ => rfl
  | 7, _ => rfl
theorem set_mid (A : List Value) (z v : Value) (R : List Value) {k : Nat} (hk : k = A.length) : (A ++ z :: R).set k v = (A ++ [v]) ++ R := by subst hk; simp
theorem out_step (s : H8) {Z : Array Value} (hZ : Z.size = 32) {t : Nat} (ht : t < 8) (x : Nat) (hx : s.list.getD t 0 = x) :
    ((((outTo s Z t).setIfInBounds (4 * t) (bv (UInt8.ofNat (x / 256 ^ 3)))).setIfInBounds (4 * t + 1) (bv (UInt8.ofNat (x / 256 ^ 2)))).setIfInBounds (4 * t + 2) (bv (UInt8.ofNat (x / 256 ^ 1)))).setIfInBounds (4 * t + 3) (bv (UInt8.ofNat (x / 256 ^ 0))) = outTo s Z (t + 1) := by
  have hlen : ((outH s).take (4 * t)).length = 4 * t := by rw [List.length_take, outH_len]; omega
  have hzl : Z.toList.length = 32 := by simpa using hZ
  obtain ⟨z0, z1, z2, z3, hz⟩ : ∃ z0 z1 z2 z3, Z.toList.drop (4 * t) = z0 :: z1 :: z2 :: z3 :: Z.toList.drop (4 * (t + 1)) := by
    refine ⟨Z.toList[4 * t], Z.toList[4 * t + 1], Z.toList[4 * t + 2], Z.toList[4 * t + 3], ?_⟩
    rw [List.drop_eq_getElem_cons (by omega), List.drop_eq_getElem_cons (i := 4 * t + 1) (by omega), List.drop_eq_getElem_cons (i := 4 * t + 1 + 1) (by omega), List.drop_eq_getElem_cons (i := 4 * t + 1 + 1 + 1) (by omega)]
    rw [show 4 * (t + 1) = 4 * t + 1 + 1 + 1 + 1 by omega]
  apply Array.ext'
  simp only [outTo, Array.toList_setIfInBounds, out_more s ht, hz, hx, beB]
  rw [set_mid _ _ _ _ (by rw [List.length_map, hlen]), set_mid _ _ _ _ (by simp [outH_len]; omega), set_mid _ _ _ _ (by simp [outH_len]; omega), set_mid _ _ _ _ (by simp [outH_len]; omega)]
  simp

theorem run_index_u32 (w : World) (n : Nat) (T : TypeId) (cs : Array Value) (i : Nat) (v : Value) (hT : Tryz.prog.underlying T = some (.array n 162)) (hi : i < n) (hv : cs[i]? = some v) :
    (Instr.index T (.agg cs) (.int .i64 (i : Int))).run Tryz.prog w = .ok v w := by
  have h1 : (0 : Int) ≤ (i : Int) ∧ (i : Int) < (n : Int) := by omega
  have hs : (Tryz.prog.info? 162).map (·.size) = some 1 := by kernel_rfl
  cases hq : Tryz.prog.info? 162 with
  | none => simp [hq] at hs
  | some q =>
    have hq1 : q.size = 1 := by simpa [hq] using hs
    simp [Instr.index, run_underlying hT, asIntOf, h1, part, isAgg, run_underlying Tryz.underlying162, sizeOf, typeInfo, hq, hq1, hv, Result.andThen, go_sem]
    intro h; omega

theorem arr_set {w : World} {B : Nat} {c : Array Value} {T : TypeId} {fr : Nat × Nat} (h : w.heap[B]? = some (.cells c T fr)) (j : Nat) (v : Value) : (w.setCell ⟨B, j, none⟩ v).heap[B]? = some (.cells (c.setIfInBounds j v) T fr) := by
  rw [setCell_eq_setRow _ _ _ _ _ _ _ h, setRow_heap _ _ _ _ _ _ h]

def OutRel (s : H8) (Z : Array Value) (B : Nat) (i : Value) (w wr : World) : Prop :=
  ∃ t : Nat, i = .int .i64 (t : Int) ∧ t ≤ 8 ∧ w.grownBy wr (some B) ∧ wr.heap[B]? = some (.cells (outTo s Z t) 159 (0, 0))

theorem u8_fact (x : Nat) (k : Nat) {D : Int} (hD : D = ((256 ^ k : Nat) : Int)) : ∃ Y : Int, IntKind.u8.wrap ((x : Int) / D) = Y ∧ ((x : Int) / D) % 256 = Y ∧ Value.int .u8 Y = bv (UInt8.ofNat (x / 256 ^ k)) := by
  refine ⟨((x : Int) / D) % 256, by rw [IntKind.wrap_u8'], rfl, ?_⟩
  rw [bv, u8_ofNat, hD]; simp

def SumJ (L : List UInt8) (pv : Value) (w : World) (a' : Act) (w' : World) : Prop :=
  ∃ (m n G : Nat) (q : AC) (R : List UInt8) (u8 u9 u10 u11 u12 u13 u14 u15 u16 u17 u18 u19 u20 u21 u22 : Value),
    a' = { tmps := #[pv, undef, .pointer (some ⟨w.heap.size, 0, none⟩), .pointer (some ⟨G, 0, none⟩), .slice q.a n q.c, undef, undef, undef, u8, u9, u10, u11, u12, u13, u14, u15, u16, u17, u18, u19, u20, u21, u22, undef, undef, undef, undef, undef, undef, undef, undef, undef, undef, undef, undef, undef, undef, undef, undef, undef, undef, undef, undef, undef, undef, undef, undef, undef, undef, undef, undef, undef, undef, undef, undef, undef], defers := [] } ∧
    SumF L R m n G q w w'
def SumM (a' : Act) (_ : World) : Nat := match a'.tmps.getD 4 undef with | .slice _ k _ => k | _ => 0

set_option maxRecDepth 100000 in
/-- sha.Sum -/
theorem sum_any (p : AC) (b : List UInt8) {S : Nat → Prop} (w : World) (hp : By w S p b) (hb : b.length ≤ 100000000000) :
    Calls Tryz.prog 132 #[.slice p.a b.length p.c] w (Ret w fun _ v => v = .agg ((shaB b).map bv).toArray) := by
  go_enter Tryz.func132, Tryz.ntmps132
  go_upto_region 0 with fail
  apply wp_region_lit
  refine wpList_alloc_row rfl 159 rfl (some 2) rfl 32 (by kernel_rfl) ?_
  intro w1 Z1 z1 h1 l1 x1
  apply wpList_nil
  have hs1 : Spare32 w1 w.heap.size := ⟨Z1, h1, z1⟩
  clear h1 z1
  obtain ⟨L, hL⟩ : ∃ L, L = b ++ tailB b.length := ⟨_, rfl⟩
  have HL := Lib.hid hL
  have hz := zerosN_lt b.length
  have hLl : L.length = b.length + (9 + zerosN b.length) := by rw [hL, List.length_append, tailB_len]
  have hmod : L.length % 64 = 0 := by rw [hLl]; exact padB_len _
  have HT := Lib.hid (tailB_len b.length)
  clear hL
  generalize zerosN b.length = z at *
  have HM := Lib.hid hmod
  have HLl := Lib.hid hLl
  have hL1 : 64 ≤ L.length := by omega
  have hL2 : L.length ≤ 100000000100 := by omega
  clear hmod hLl
  go_wp2_with fail
  refine wp_scope_jumps 0 (SumJ L (.slice p.a b.length p.c) w) SumM rfl ?_ ?_
  rotate_left
  · rintro a' w7 ⟨m, n, G, q, R, u8, u9, u10, u11, u12, u13, u14, u15, u16, u17, u18, u19, u20, u21, u22, rfl, SF⟩
    have hn0 : n % 64 = 0 := by
      obtain ⟨g1, g2, g3, _⟩ := id SF
      have := HM.out
      rw [g3, g2, List.length_drop]; omega
    have hL3 : n ≤ 100000000100 := by
      obtain ⟨g1, g2, g3, _⟩ := id SF
      rw [g3, g2, List.length_drop]; omega
    by_cases hz0 : n = 0
    · obtain ⟨g1, g2, g3, g4, g5, g6, g7, g8, Z, g9, g10⟩ := id SF
      have hm : m = L.length / 64 := by
        rw [hz0] at g3
        have := HM.out
        have : (L.drop (64 * m)).length = 0 := by rw [← g2, ← g3]
        rw [List.length_drop] at this
        omega
      have hsh : shaB b = outH (runH m h0Tab L) := by unfold shaB; rw [← HL.out, hm]
      generalize runH m h0Tab L = s at *
      subst hz0
      have HS := Lib.hid hsh
      clear hsh hm g1 g2 g3 g6 SF hn0
      go_upto_region 6 with fail
      apply wp_region_lit
      refine wpList_alloc_row rfl 159 rfl (some 5) rfl 32 (by kernel_rfl) ?_
      intro w8 Y hY h8 l8 x8
      apply wpList_nil
      go_upto_region 7 with fail
      apply wp_region_lit
      refine wpList_load_rowTo rfl 184 _ rfl (some 23) rfl G (s8 s) rfl 184 (0, 0) _ ((x8.block G g5).trans g7) Tryz.underlying184 rfl (by rw [s8_len]; kernel_rfl) ?_
      have f8 : Ext w w8 := g8.trans x8
      have g9' : w8.heap[w.heap.size]? = some (.cells Z 159 (0, 0)) := (x8.block _ (by omega)).trans g9
      obtain ⟨B, hB⟩ : ∃ B, B = w7.heap.size := ⟨_, rfl⟩
      rw [← hB] at h8 ⊢
      have hB1 : w.heap.size < B := by omega
      have hB2 : B < w8.heap.size := by omega
      have h80 : w8.heap[B]? = some (.cells (outTo s Y 0) 159 (0, 0)) := by rw [h8]; simp [outTo]
      clear hB l8 x8 h8 g9 g8 g7 g5
      go_wp2_with fail
      go_loopw [24] (fun i wr => OutRel s Y B i w8 wr) (fun i _ => 8 - (intOf i).toNat)
      case atStart => exact ⟨0, rfl, by omega, World.grownBy.refl _ _, h80⟩
      case round =>
        obtain ⟨t, rfl, e1, e2, e3⟩ := hrel
        by_cases ht : t < 8
        · have ht2 : (t : Int) < 8 := by omega
          have ht0 : (0 : Int) ≤ t := by omega
          have hget := run_index_u32 wr 8 184 (s8 s) t _ Tryz.underlying184 ht (addTo_get s s ht).2.1
          have hcellE : ∀ k, k < 32 → ∃ v, wr.cell? ⟨B, k, none⟩ = some v := fun k hk => by
            have hsz : (outTo s Y t).size = 32 := by
              have hYl : Y.toList.length = 32 := by simpa using hY
              simp only [outTo, List.size_toArray, List.length_append, List.length_map, List.length_take, List.length_drop, outH_len, hYl]; omega
            exact ⟨(outTo s Y t)[k], by rw [cell_of_row wr _ k _ _ _ e3]; simp [hsz, hk]⟩
          obtain ⟨v0, hc0⟩ := hcellE (4 * t) (by omega)
          obtain ⟨v1, hc1⟩ := hcellE (4 * t + 1) (by omega)
          obtain ⟨v2, hc2⟩ := hcellE (4 * t + 2) (by omega)
          obtain ⟨v3, hc3⟩ := hcellE (4 * t + 3) (by omega)
          have hfz : ∀ k, wr.frozen? ⟨B, k, none⟩ = false := fun k => by simp [World.frozen?, e3]
          have z0 := hfz (4 * t)
          have z1 := hfz (4 * t + 1)
          have z2 := hfz (4 * t + 2)
          have z3 := hfz (4 * t + 3)
          have hstep := out_step s hY ht _ rfl
          clear hcellE hfz
          generalize s.list.getD t 0 = X at *
          obtain ⟨Y0, y0, y0', y0''⟩ := u8_fact X 3 (D := 16777216) rfl
          obtain ⟨Y1, y1, y1', y1''⟩ := u8_fact X 2 (D := 65536) rfl
          obtain ⟨Y2, y2, y2', y2''⟩ := u8_fact X 1 (D := 256) rfl
          obtain ⟨Y3, y3, y3', y3''⟩ := u8_fact X 0 (D := 1) rfl
          rw [Int.ediv_one] at y3 y3'
          rw [← y0'', ← y1'', ← y2'', ← y3''] at hstep
          have HST := Lib.hid hstep
          clear hstep y0'' y1'' y2'' y3''
          have a0 : (0 : Int) ≤ 4 * (t : Int) := by omega
          have a1 : (0 : Int) ≤ 4 * (t : Int) + 1 := by omega
          have a2 : (0 : Int) ≤ 4 * (t : Int) + 2 := by omega
          have a3 : (0 : Int) ≤ 4 * (t : Int) + 3 := by omega
          have b0 : 4 * (t : Int) < 32 := by omega
          have b1 : 4 * (t : Int) + 1 < 32 := by omega
          have b2 : 4 * (t : Int) + 2 < 32 := by omega
          have b3 : 4 * (t : Int) + 3 < 32 := by omega
          have n0 : (4 * (t : Int)).toNat = 4 * t := by omega
          have n1 : (4 * (t : Int) + 1).toNat = 4 * t + 1 := by omega
          have n2 : (4 * (t : Int) + 2).toNat = 4 * t + 2 := by omega
          have n3 : (4 * (t : Int) + 3).toNat = 4 * t + 3 := by omega
          go_wp2_with fail
          refine ⟨⟨t + 1, by simp, by omega, grown_set (grown_set (grown_set (grown_set e2 rfl _) rfl _) rfl _) rfl _, ?_⟩, by (first | omega | (simp [intOf]; done) | (simp [intOf]; omega))⟩
          rw [arr_set (arr_set (arr_set (arr_set e3 _ _) _ _) _ _) _ _, HST.out]
        · have h8 : t = 8 := by omega
          subst h8
          have hfin : outTo s Y 8 = ((shaB b).map bv).toArray := by
            have hYl : Y.toList.length = 32 := by simpa using hY
            unfold outTo
            rw [HS.out, List.take_of_length_le (by rw [outH_len]; omega), List.drop_of_length_le (by omega), List.append_nil]
          have hs32 : (outTo s Y 8).size = 32 := by rw [hfin]; simp [shaB_len]
          have hone : (outTo s Y 8).all (·.oneCell') = true := by rw [hfin]; simp [Value.oneCell']
          have f9 : Ext w wr := f8.grown e2 (fun k hk => by cases hk; omega)
          have hZ : wr.heap[w.heap.size]? = some (.cells Z 159 (0, 0)) := (e2.block _ (by omega) (by simp; omega)).trans g9'
          generalize outTo s Y 8 = cs at *
          go_upto_region 12 with fail
          apply wp_region_lit
          refine wpList_load_rowTo rfl 159 _ rfl (some 55) rfl B cs rfl 159 (0, 0) _ e3 Tryz.underlying159 rfl (by rw [hs32]; kernel_rfl) ?_
          refine wpList_store_rowE rfl 159 _ _ rfl rfl w.heap.size cs rfl rfl 159 Z hZ (by rw [hs32]; kernel_rfl) (by rw [hs32]; exact g10) hone ?_
          intro w9 h9 l9 x9
          apply wpList_nil
          go_wp2_with fail
          refine bodyPost_ret (results_cell_row rfl _ _ w.heap.size 159 _ (0, 0) _ rfl h9 Tryz.underlying159 rfl (by rw [hs32]; kernel_rfl)) rfl ?_
          exact ⟨_, rfl, f9.grown x9 (fun k hk => by cases hk; exact Nat.le_refl _), by rw [hfin]⟩
    · have hz1 : 64 ≤ n := by omega

      obtain ⟨g1, g2, g3, g4, g5, g6, g7, g8, g9⟩ := id SF
      have SG := Lib.hid SF
      have hR1 : 64 ≤ R.length := by omega
      have hn1 : 64 ≤ n := by omega
      have hc := g6.lens
      have hpos : (0 : Int) < (n : Int) := by omega
      have hc64 : (64 : Int) ≤ (q.c : Int) := by omega
      have hnc : n ≤ q.c := by omega
      obtain ⟨qb, qo, hqa, _⟩ := g6.form (by omega)
      rw [hqa]
      have hq : q = ⟨some ⟨qb, qo, none⟩, q.c⟩ := by rw [← hqa]
      have hst := step_any' ⟨some ⟨qb, qo, none⟩, q.c⟩ (R.take 64) w7 (by rw [← hq]; exact g6.take hR1) (by rw [List.length_take]; omega) G _ (runH_ok m h0Tab L h0_ok) g7
      have HQ := Lib.hid hqa
      clear hq g1 g2 g3 g4 g5 g6 g7 g8 g9 hqa SF
      go_wp2_with fail
      refine hst.mono ?_
      rintro e w8 ⟨rfl, x8, h8⟩
      clear hst
      go_wp2_with fail
      · go_step3
        exact ⟨rfl, ⟨m + 1, n - 64, G, ⟨some ⟨qb, qo, none⟩, 0⟩, R.drop 64, _, _, _, _, _, _, _, _, _, _, _, _, _, _, _, rfl, SG.out.next hR1 x8 h8 (by omega) (fun h' => absurd h h')⟩, by simp [SumM]; omega⟩
      · go_step3
        exact ⟨rfl, ⟨m + 1, n - 64, G, ⟨some ⟨qb, qo + 64, none⟩, q.c - 64⟩, R.drop 64, _, _, _, _, _, _, _, _, _, _, _, _, _, _, _, rfl, SG.out.next hR1 x8 h8 rfl (fun _ b o e => by rw [HQ.out] at e; cases e; rfl)⟩, by simp [SumM]; omega⟩
  · go_wp2_with fail
    refine (begin_any' w1).mono ?_
    rintro e w2 ⟨v, rfl, x2, rfl⟩
    iterate 2 first | go_values | go_skip | go_guarded | go_step | go_upon | go_back | go_simp
    refine wpList_alloc_row rfl 184 rfl (some 3) rfl 8 (by kernel_rfl) ?_
    intro w3 Z3 z3 h3 l3 x3
    refine wpList_store_rowE rfl 184 _ _ rfl rfl w2.heap.size (s8 h0Tab) rfl rfl 184 Z3 h3 (by rw [s8_len]; kernel_rfl) (by rw [s8_len]; exact z3) (s8_one _) ?_
    intro w4 h4 l4 x4
    apply wpList_nil
    have f2 : Ext w w2 := x1.trans x2
    have f3 : Ext w w3 := f2.trans x3
    have f4 : Ext w w4 := f3.grown x4 (fun k hk => by cases hk; exact f2.size)
    have n1 : w.heap.size < w2.heap.size := by have := x2.size; omega
    have n2 : w2.heap.size < w4.heap.size := by omega
    have hs4 : Spare32 w4 w.heap.size := by
      obtain ⟨Z, q1, q2⟩ := hs1
      exact ⟨Z, (x4.block _ (by omega) (by simp; omega)).trans ((x3.block _ n1).trans ((x2.block _ (by omega)).trans q1)), q2⟩
    obtain ⟨G, hG⟩ : ∃ G, G = w2.heap.size := ⟨_, rfl⟩
    rw [← hG] at h4 n1 n2 ⊢
    clear hs1 l3 x3 l4 x4 h3 z3 hG l1 x1 x2 f2 f3
    go_wp2_with fail
    refine (cloneB_any p b _ (hp.ext f4) (by omega)).mono ?_
    rintro e w5 ⟨v, rfl, x5, g5, o5⟩
    obtain ⟨a5, c5, rfl⟩ := o5.form
    go_wp2_with fail
    refine (tail_any b.length _ (by omega)).mono ?_
    rintro e w6 ⟨v, rfl, x6, g6, o6⟩
    obtain ⟨p6, rfl, b6⟩ := o6.by_
    rw [HT.out] at o6 ⊢
    go_wp2_with (first | (at_builtin; refine stop_ ?_))
    refine go_on (wpList_appB (l2 := tailB b.length) rfl (.tmp 10) (.tmp 13) rfl rfl (o5.ext x6) rfl HT.out.symm b6 ?_ ?_ ?_)
    · rw [HT.out]; omega
    · have h1 := x5.size; have h2 := x6.size; omega
    intro a7 c7 g7 w7 r1 r2 r3
    have x7 : Ext w4 w7 := (o5.ext x6).grown r2 (x5.trans x6) (Nat.le_refl _)
    rw [← HL.out, ← HLl.out] at r1
    rw [← HLl.out]
    have f7 : Ext w w7 := f4.trans x7
    have h7 : w7.heap[G]? = some (.cells (s8 h0Tab) 184 (0, 0)) := (x7.block G n2).trans h4
    have hs7 : Spare32 w7 w.heap.size := by
      obtain ⟨Z, q1, q2⟩ := hs4
      exact ⟨Z, (x7.block _ (by omega)).trans q1, q2⟩
    obtain ⟨q, hq, b7⟩ := r1.by_
    injection hq with e1 _ e2
    subst e1; subst e2
    have b7' : By w7 (fun k => k ≠ G) q L := b7.mono fun k hk _ => by have := f4.size; omega
    clear r1 r2 r3 b7 o5 x5 x6 b6 o6 hs4 h4
    go_wp2_with fail
    go_step3
    obtain ⟨R, hR⟩ : ∃ R, R = L := ⟨_, rfl⟩
    obtain ⟨m, hm⟩ : ∃ m : Nat, m = 0 := ⟨_, rfl⟩
    obtain ⟨n, hn⟩ : ∃ n, n = L.length := ⟨_, rfl⟩
    have SF : SumF L R m n G q w w7 := by
      subst hm; subst hR; subst hn
      exact ⟨by omega, by simp, rfl, n1, Nat.lt_of_lt_of_le n2 x7.size, b7', h7, f7, hs7⟩
    rw [← hn]
    rw [← hn] at hL1 hL2
    clear hR hm hn b7' h7 f7 hs7
    obtain ⟨g1, g2, g3, g4, g5, g6, g7, g8, g9⟩ := id SF
    have SG := Lib.hid SF
    have hR1 : 64 ≤ R.length := by omega
    have hn1 : 64 ≤ n := by omega
    have hc := g6.lens
    have hpos : (0 : Int) < (n : Int) := by omega
    have hc64 : (64 : Int) ≤ (q.c : Int) := by omega
    have hnc : n ≤ q.c := by omega
    obtain ⟨qb, qo, hqa, _⟩ := g6.form (by omega)
    rw [hqa]
    have hq : q = ⟨some ⟨qb, qo, none⟩, q.c⟩ := by rw [← hqa]
    have hst := step_any' ⟨some ⟨qb, qo, none⟩, q.c⟩ (R.take 64) w7 (by rw [← hq]; exact g6.take hR1) (by rw [List.length_take]; omega) G _ (runH_ok m h0Tab L h0_ok) g7
    have HQ := Lib.hid hqa
    clear hq g1 g2 g3 g4 g5 g6 g7 g8 g9 hqa SF
    go_wp2_with fail
    refine hst.mono ?_
    rintro e w8 ⟨rfl, x8, h8⟩
    clear hst
    go_wp2_with fail
    · go_step3
      exact ⟨rfl, ⟨m + 1, n - 64, G, ⟨some ⟨qb, qo, none⟩, 0⟩, R.drop 64, _, _, _, _, _, _, _, _, _, _, _, _, _, _, _, rfl, SG.out.next hR1 x8 h8 (by omega) (fun h' => absurd h h')⟩⟩
    · go_step3
      exact ⟨rfl, ⟨m + 1, n - 64, G, ⟨some ⟨qb, qo + 64, none⟩, q.c - 64⟩, R.drop 64, _, _, _, _, _, _, _, _, _, _, _, _, _, _, _, rfl, SG.out.next hR1 x8 h8 rfl (fun _ b o e => by rw [HQ.out] at e; cases e; rfl)⟩⟩

end Go.Proofs.YtpdllgbfemnemaaGreat
