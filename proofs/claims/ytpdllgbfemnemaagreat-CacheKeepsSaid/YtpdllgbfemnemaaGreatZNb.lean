import Derived.Test.YtpdllgbfemnemaaGreatZKb
import Derived.Test.YtpdllgbfemnemaaGreatZSxY
import Derived.Shelf.RegionOpenPlain
import Derived.Lib.Walk
import Derived.Lib.SliceRun
import Derived.Lib.Overlaps
import Derived.Laws.Externs
import Derived.Laws.IdiomCopy
import Derived.Lib.AppendZerosOnto
import Derived.Laws.NewBlocks
import Derived.Test.YtpdllgbfemnemaaGreatZMk
section
namespace Go.Proofs.YtpdllgbfemnemaaGreat.Sx
open Go.RowKit Go.Lib

section
variable {P : Program}
theorem run_copy_rowN (w : World) (dT sT ty elem : TypeId) (sz g o dLen dCap : Nat) (a : Addr) (sLen sCap m : Nat) (cur : Array Value) (t : TypeId) (cs : List Value)
    (hu : P.underlying dT = some (.slice elem)) (hs : (P.info? elem).map (·.size) = some sz)
    (hg : w.heap[g]? = some (.cells cur t (0, 0))) (hm : Nat.min sLen dLen = m) (hn : cs.length = m * sz)
    (hsrc : ∀ j v, cs[j]? = some v → w.cell? (a.add j) = some v) (hfit : o + cs.length ≤ cur.size) (h1 : ∀ v ∈ cs, v.oneCell' = true) :
    (Builtin.copy_ #[dT, sT] ty #[.slice (some ⟨g, o, none⟩) dLen dCap, .slice (some a) sLen sCap]).run P w =
      .ok (goInt (m : Int)) (w.setRow g (cur.toList.take o ++ cs ++ cur.toList.drop (o + cs.length)).toArray) := by
  subst hm
  have hl := run_loadCells_list (P := P) w a cs hsrc
  have hst := run_storeCells_at P g o t cs 0 cur w hg (by simpa using hfit) h1
  cases hq : P.info? elem with
  | none => simp [hq] at hs
  | some i =>
    have hi : i.size = sz := by simpa [hq] using hs
    simp [Builtin.copy_, run_underlying hu, Builtin.lenOf, Builtin.firstCells, sizeOf, typeInfo, hq, hi, ← hn, hl, hst]
theorem row_at {w : World} {b : Nat} {cur : Array Value} {e : TypeId} {p n : Nat} (hh : w.heap[b]? = some (.cells cur e (0, 0))) {j : Nat} {v : Value} (h : ((cur.toList.drop p).take n)[j]? = some v) : w.cell? ⟨b, p + j, none⟩ = some v := by
  rw [cell_of_row w b (p + j) cur e (0, 0) hh]
  rw [List.getElem?_take] at h
  split at h
  · rw [List.getElem?_drop] at h
    simpa using h
  · cases h
theorem wpList_copyRun {ops : Array Oper} {rest : List Oper} {o : Oper} {a : Act} {w : World} {Q : Exit → Act → World → Prop} (hgd : o.guard = none) (d s : Operand) (t t' : TypeId)
    (ho : o.op = .call { callee := .builtin .copy, args := #[d, s], argTypes := #[t, t'] }) {v u : Value} (hd : a.eval d = v) (hs : a.eval s = u) {v' : Value} {w' : World}
    (hr : (Builtin.copy_ #[t, t'] o.type #[v, u]).run P w = .ok v' w') (h : wpList P ops Q rest (a.put o.dst v') w') : wpList P ops Q (o :: rest) a w :=
  wpList_plain hgd fun K hK => by
    unfold Oper.wp execOp
    simp only [ho, resolve, invoke, builtin, Sem.run_bind, Sem.run_pure, Result.andThen_ok, List.map_toArray, List.map_cons, List.map_nil, hd, hs, hr]
    exact hK _ _ h
theorem step_copyRun {ops : Array Oper} {o : Oper} {a : Act} {w : World} {K : Act → World → Prop} {Q : Exit → Act → World → Prop} {E : Prop}
    (hg : o.guard = none) (d x : Operand) (dT sT : TypeId) (hop : o.op = Op.call { callee := Callee.builtin Builtin.copy, args := #[d, x], argTypes := #[dT, sT] })
    (v u : Value) (hd : a.eval d = v) (hx : a.eval x = u) {v' : Value} {w' : World} (hr : (Builtin.copy_ #[dT, sT] o.type #[v, u]).run P w = .ok v' w') (hK : K (a.put o.dst v') w') :
    if Region.wanted o (yielded ops a.tmps) = true then Oper.wp P o a w K Q else E := by
  have hw : Region.wanted o (yielded ops a.tmps) = true := by simp [Region.wanted, hg]
  rw [if_pos hw]
  unfold Oper.wp
  simp [execOp, hop, resolve, invoke, builtin, hd, hx, hr, Result.andThen]
  exact hK
end

theorem ins_list {α : Type} (L vs : List α) (p q : Nat) (hv : vs.length = 2) (hl : p + 2 + q ≤ L.length) :
    ((L.take (p + 2) ++ (L.drop p).take q ++ L.drop (p + 2 + q)).take p ++ vs ++ (L.take (p + 2) ++ (L.drop p).take q ++ L.drop (p + 2 + q)).drop (p + 2)).take (p + 2 + q) = (L.take (p + q)).take p ++ vs ++ (L.take (p + q)).drop p := by
  have h1 : (L.take (p + 2)).length = p + 2 := by rw [List.length_take]; omega
  have h2 : ((L.drop p).take q).length = q := by rw [List.length_take, List.length_drop]; omega
  have e1 : (L.take (p + 2) ++ (L.drop p).take q ++ L.drop (p + 2 + q)).take p = L.take p := by
    rw [List.append_assoc, List.take_append_of_le_length (by omega), List.take_take, Nat.min_eq_left (by omega)]
  have e2 : (L.take (p + 2) ++ (L.drop p).take q ++ L.drop (p + 2 + q)).drop (p + 2) = (L.drop p).take q ++ L.drop (p + 2 + q) := by
    rw [List.append_assoc]
    exact List.drop_left' h1
  rw [e1, e2, List.take_take, Nat.min_eq_left (by omega), List.drop_take, Nat.add_sub_cancel_left]
  rw [← List.append_assoc]
  have h3 : (L.take p ++ vs ++ (L.drop p).take q).length = p + 2 + q := by rw [List.length_append, List.length_append, h2, hv, List.length_take]; omega
  exact List.take_left' h3
/-- What Insert comes to, whatever its road. -/
def InsPost (w : World) (ob : Option Nat) (n : Nat) (ys : List Value) (e : Ending) (w' : World) : Prop :=
  ∃ b cap cur, e = .returned (.slice (some ⟨b, 0, none⟩) (n + 1) cap) ∧ w'.heap[b]? = some (.cells cur 79 (0, 0)) ∧ n + 1 ≤ cap ∧ cap ≤ maxLen ∧ cur.size = cap * 2 ∧
    cur.toList.take ((n + 1) * 2) = ys ∧ w.grownBy w' ob ∧ (ob = some b ∨ b = w.heap.size)
theorem info_stub : ∃ i z, Tryz.prog.info? 79 = some i ∧ i.size = 2 ∧ i.bytes = 32 ∧ i.zero = some z ∧ z.cells.size = 2 := by
  obtain ⟨q, hq⟩ := Tab_ok.get (t := 79) rfl
  obtain ⟨i, hi, h1, h2, z, hz, hzc⟩ := q.info
  exact ⟨i, z, hi, h1, h2, hz, by rw [← Array.length_toList, hzc]; rfl⟩
theorem size_stub : (Tryz.prog.info? 79).map (·.size) = some 2 := by
  obtain ⟨i, z, hi, h1, _⟩ := info_stub
  rw [hi]; simp [h1]
theorem sizeOf_stub (w : World) : (Go.sizeOf 79).run Tryz.prog w = .ok 2 w := by
  obtain ⟨q, hq⟩ := Tab_ok.get (t := 79) rfl
  exact run_sizeOf_ti q hq

set_option maxHeartbeats 4000000 in
set_option maxRecDepth 100000 in
/-- There is room, i < n: in place. -/
theorem ins_shift (b n c i vb vc : Nat) (cur vcur : Array Value) (tv : TypeId) (vs : List Value) (w : World) (hi : i < n) (hroom : n + 1 ≤ c) (hc63 : c ≤ 9223372036854775807) (hvb : vb ≠ b)
    (hh : w.heap[b]? = some (.cells cur 79 (0, 0))) (hcs : cur.size = c * 2) (hv : w.heap[vb]? = some (.cells vcur tv (0, 0))) (hvs : vcur.toList.take 2 = vs) (hvl : vs.length = 2)
    (h1c : ∀ v ∈ cur.toList.take (n * 2), v.oneCell' = true) (h1v : ∀ v ∈ vs, v.oneCell' = true) (ys : List Value) (hys : ys = (cur.toList.take (n * 2)).take (i * 2) ++ vs ++ (cur.toList.take (n * 2)).drop (i * 2)) :
    Calls Tryz.prog 108 #[.slice (some ⟨b, 0, none⟩) n c, .int .i64 i, .slice (some ⟨vb, 0, none⟩) 1 vc] w
      (InsPost w (some b) n ys) := by
  have hz2 : ¬ ((i : Int) = (n : Int)) := by omega
  have hov : ∀ lb cb, (callFunc 145 #[.slice (some ⟨vb, 0, none⟩) 1 vc, .slice (some ⟨b, (i + 1) * 2, none⟩) lb cb]).run Tryz.prog w = .ok (.value (.bool false)) w := fun lb cb => by
    rw [run_callFunc_extern Tryz.func145 (by kernel_rfl) (by kernel_rfl) (by kernel_rfl) (e := Extern.SlicesOverlaps.overlaps #[23, 23] #[4]) (by kernel_rfl),
      Lib.run_overlaps_apart w 23 4 79 Tryz.underlying23 2 sizeOf_stub ⟨vb, 0, none⟩ ⟨b, (i + 1) * 2, none⟩ 1 vc lb cb hvb tv 79 vcur.size cur.size (by simp [World.shape?, hv]) (by simp [World.shape?, hh]) (by omega) (by simp [World.frozen?, hv]) (by simp [World.frozen?, hv])]
    rfl
  have hw1 : IntKind.i64.wrap ((i : Int) + 1) = (i : Int) + 1 := by rw [IntKind.wrap_i64]; omega
  have hb1 : (0 : Int) ≤ (i : Int) + 1 := by omega
  have hin : i ≤ n := by omega
  have htn : ((i : Int) + 1).toNat = i + 1 := by omega
  have hb2 : ¬ (c = i + 1) := by omega
  have hb3 : (i : Int) ≤ (n : Int) + 1 := by omega
  have hb4 : ¬ (c = i) := by omega
  obtain ⟨cs, hcs0⟩ : ∃ cs, cs = (cur.toList.drop (i * 2)).take ((n - i) * 2) := ⟨_, rfl⟩
  have hcl : cs.length = (n - i) * 2 := by rw [hcs0, List.length_take, List.length_drop, Array.length_toList]; omega
  have h1 : ∀ v ∈ cs, v.oneCell' = true := fun v hv => by
    refine h1c v ?_
    rw [hcs0, ← Nat.add_sub_cancel_left (n := i * 2) (m := (n - i) * 2), ← List.drop_take, show i * 2 + (n - i) * 2 = n * 2 by omega] at hv
    exact List.mem_of_mem_drop hv
  obtain ⟨cur1, hc1⟩ : ∃ cur1, cur1 = (cur.toList.take ((i + 1) * 2) ++ cs ++ cur.toList.drop ((i + 1) * 2 + cs.length)).toArray := ⟨_, rfl⟩
  have hcp1 : ∀ ty dc sc, (Builtin.copy_ #[23, 23] ty #[.slice (some ⟨b, (i + 1) * 2, none⟩) (n - i) dc, .slice (some ⟨b, i * 2, none⟩) (n + 1 - i) sc]).run Tryz.prog w.drew = .ok (goInt ((n - i : Nat) : Int)) (w.drew.setRow b cur1) := fun ty dc sc => by
    rw [hc1]
    exact run_copy_rowN w.drew 23 23 ty 79 2 b ((i + 1) * 2) (n - i) dc ⟨b, i * 2, none⟩ (n + 1 - i) sc (n - i) cur 79 cs Tryz.underlying23 size_stub hh
      (by simp only [Nat.min_def]; split <;> omega) hcl (fun j v hj => by rw [Addr.add_lit]; rw [hcs0] at hj; exact row_at (w := w.drew) hh hj) (by omega) h1
  obtain ⟨W1, hW1⟩ : ∃ W1, W1 = w.drew.setRow b cur1 := ⟨_, rfl⟩
  have hr1 : W1.heap[b]? = some (.cells cur1 79 (0, 0)) := by rw [hW1]; exact setRow_heap w.drew b cur cur1 _ (0, 0) hh
  have hr2 : W1.heap[vb]? = some (.cells vcur tv (0, 0)) := by rw [hW1, setRow_other w.drew b vb cur1 hvb]; exact hv
  have hcz : cur1.size = cur.size := by
    rw [hc1]
    simp only [List.size_toArray, List.length_append, List.length_take, List.length_drop, Array.length_toList, hcl]
    omega
  obtain ⟨cur2, hc2⟩ : ∃ cur2, cur2 = (cur1.toList.take (i * 2) ++ vs ++ cur1.toList.drop (i * 2 + vs.length)).toArray := ⟨_, rfl⟩
  have hcp2 : ∀ (W : World), W.heap = W1.heap → ∀ ty dc, (Builtin.copy_ #[23, 23] ty #[.slice (some ⟨b, i * 2, none⟩) (n + 1 - i) dc, .slice (some ⟨vb, 0, none⟩) 1 vc]).run Tryz.prog W = .ok (goInt 1) (W.setRow b cur2) := fun W hW ty dc => by
    rw [hc2]
    exact run_copy_rowN W 23 23 ty 79 2 b (i * 2) (n + 1 - i) dc ⟨vb, 0, none⟩ 1 vc 1 cur1 79 vs Tryz.underlying23 size_stub (by rw [hW]; exact hr1)
      (by simp only [Nat.min_def]; split <;> omega) hvl (fun j v hj => by
        rw [Addr.add_lit]
        rw [← hvs] at hj
        exact row_at (w := W) (p := 0) (n := 2) (by rw [hW]; exact hr2) (by simpa using hj)) (by omega) h1v
  rw [← hW1] at hcp1
  have hfin : ∀ W : World, W.heap = W1.heap → W.os = w.os → W.tape = w.tape → W.output = w.output → InsPost w (some b) n ys (.returned (.slice (some ⟨b, 0, none⟩) (n + 1) c)) (W.setRow b cur2) := fun W hW e1 e2 e3 => by
    have hlen : i * 2 ≤ cur.toList.length := by rw [Array.length_toList]; omega
    refine ⟨b, c, cur2, rfl, setRow_heap W b cur1 cur2 _ (0, 0) (by rw [hW]; exact hr1), hroom, by unfold maxLen; omega, ?_, ?_, ⟨by simpa [World.setRow] using e1, by simpa [World.setRow] using e2, by simpa [World.setRow] using e3, ?_, fun x hx hne => ?_⟩, .inl rfl⟩
    · rw [hc2]
      simp only [List.size_toArray, List.length_append, List.length_take, List.length_drop, Array.length_toList, hcz, hvl]
      omega
    · rw [hys, hc2, List.toList_toArray, hc1, List.toList_toArray, hcs0]
      have := ins_list cur.toList vs (i * 2) ((n - i) * 2) hvl (by rw [Array.length_toList]; omega)
      rw [show (i + 1) * 2 = i * 2 + 2 by omega, hvl, show (n + 1) * 2 = i * 2 + 2 + (n - i) * 2 by omega, show n * 2 = i * 2 + (n - i) * 2 by omega]
      rw [show ((cur.toList.drop (i * 2)).take ((n - i) * 2)).length = (n - i) * 2 by rw [← hcs0]; exact hcl]
      exact this
    · simp only [World.setRow, Array.size_modify, hW, hW1]
      exact Nat.le_refl _
    · have hxb : x ≠ b := fun e => hne (by rw [e])
      rw [setRow_other W b x cur2 hxb, hW, hW1, setRow_other w.drew b x cur1 hxb]
      rfl
  have hmixed : Tryz.prog.follows .mixedOrders = true := mixed
  clear hys h1 hc2 hcz hc1 hcs0 hcl
  go_enter Tryz.func108, Tryz.ntmps108
  go_wp2_with (simp only [hov])
  go_region_law_o (refine step_copyRun rfl _ _ 23 23 rfl _ _ (by simp [Act.eval, Act.put]) (by simp [Act.eval, Act.put]) (hcp1 _ _ _) ?_)
  go_wp2_with (at_builtin; refine wpList_copyRun rfl _ _ 23 23 rfl rfl rfl (hcp2 _ rfl _ _) ?_)
  go_ret
  exact hfin _ (by rw [hW1]) rfl rfl rfl

set_option maxHeartbeats 4000000 in
set_option maxRecDepth 100000 in
/-- At the end: an append. -/
theorem ins_end (base : Option Addr) (n c vb vc : Nat) (w w1 : World) (v : Value) (hnc : n ≤ c) (hc63 : c ≤ 9223372036854775807) (h0 : base = none → n = 0 ∧ c = 0)
    (hr : (Builtin.append_ #[23, 23] 23 #[.slice base n c, .slice (some ⟨vb, 0, none⟩) 1 vc]).run Tryz.prog w = .ok v w1) :
    Calls Tryz.prog 108 #[.slice base n c, .int .i64 n, .slice (some ⟨vb, 0, none⟩) 1 vc] w fun e w' => e = .returned v ∧ w' = w1 := by
  cases base with
  | none =>
    obtain ⟨rfl, rfl⟩ := h0 rfl
    clear h0
    go_enter Tryz.func108, Tryz.ntmps108
    go_wp2_with (at_builtin; refine Go.Proofs.YtpdllgbfemnemaaGreat.wpList_appRun rfl _ _ _ _ rfl rfl rfl hr ?_)
    go_ret
    exact ⟨rfl, rfl⟩
  | some a =>
    clear h0
    obtain ⟨ab, ao, asp⟩ := a
    go_enter Tryz.func108, Tryz.ntmps108
    go_wp2_with (at_builtin; refine Go.Proofs.YtpdllgbfemnemaaGreat.wpList_appRun rfl _ _ _ _ rfl rfl rfl hr ?_)
    all_goals (go_ret; exact ⟨rfl, rfl⟩)

set_option maxHeartbeats 4000000 in
set_option maxRecDepth 100000 in
/-- No room, i < n: a new row. -/
theorem ins_grow (b n i vb vc : Nat) (cur vcur : Array Value) (tv : TypeId) (vs : List Value) (w : World) (hi : i < n) (hbig : (n + 1) * 32 ≤ 140737488355328) (c : Nat) (hnc : n ≤ c) (hroom : c < n + 1)
    (hh : w.heap[b]? = some (.cells cur 79 (0, 0))) (hcs : cur.size = c * 2) (hv : w.heap[vb]? = some (.cells vcur tv (0, 0))) (hvs : vcur.toList.take 2 = vs) (hvl : vs.length = 2)
    (h1c : ∀ v ∈ cur.toList.take (n * 2), v.oneCell' = true) (h1v : ∀ v ∈ vs, v.oneCell' = true) (ys : List Value) (hys : ys = (cur.toList.take (n * 2)).take (i * 2) ++ vs ++ (cur.toList.take (n * 2)).drop (i * 2)) :
    Calls Tryz.prog 108 #[.slice (some ⟨b, 0, none⟩) n c, .int .i64 i, .slice (some ⟨vb, 0, none⟩) 1 vc] w
      (InsPost w (some b) n ys) := by
  have hz2 : ¬ ((i : Int) = (n : Int)) := by omega
  have hz3 : (c : Int) < (n : Int) + 1 := by omega
  obtain ⟨i0, z, hi0, hzs, hzb, hz0, hzc⟩ := info_stub
  have hbw : b < w.heap.size := (Array.getElem?_eq_some_iff.1 hh).1
  have hvw : vb < w.heap.size := (Array.getElem?_eq_some_iff.1 hv).1
  have hkk : (n : Int) + 1 - (i : Int) = ((n + 1 - i : Nat) : Int) := by omega
  have hik : i + (n + 1 - i) = n + 1 := by omega
  obtain ⟨os, hos⟩ : ∃ os, os = cur.toList.take (i * 2) := ⟨_, rfl⟩
  have hol : os.length = i * 2 := by rw [hos, List.length_take, Array.length_toList]; omega
  have hold : (Builtin.firstCells i0.size i (.slice (some ⟨b, 0, none⟩) i c)).run Tryz.prog w.drew = .ok os.toArray w.drew := by
    rw [hzs]
    exact run_firstCells_some w.drew 2 i ⟨b, 0, none⟩ i c os hol (fun j v hj => by
      rw [Addr.add_lit]
      rw [hos] at hj
      exact row_at (w := w.drew) (p := 0) (n := i * 2) hh (by simpa using hj))
  obtain ⟨G, hG⟩ : ∃ G, G = grownCap w (n + 1) c 79 := ⟨_, rfl⟩
  have hGn : n + 1 ≤ G := by rw [hG]; exact grownCap_ge w _ _ _
  have hG64 : G ≤ maxLen := by
    rw [hG]; exact grownCap_le_maxLen w (n + 1) c 79 (by unfold maxLen; omega)
  have hG63 : G ≤ 9223372036854775807 := by unfold maxLen at hG64; omega
  obtain ⟨ROW, hROW⟩ : ∃ ROW : Array Value, ROW = os.toArray ++ Builtin.zeroCells z.cells (n + 1 - i) ++ Builtin.zeroCells z.cells (G - (n + 1)) := ⟨_, rfl⟩
  have hrz : ∀ ty, (Builtin.append_ #[23, 3] ty #[.slice (some ⟨b, 0, none⟩) i c, .int .i64 ((n : Int) + 1 - (i : Int))]).run Tryz.prog w =
      .ok (.slice (some ⟨w.heap.size, 0, none⟩) (n + 1) G) (w.drew.alloc (.cells ROW 79)) := fun ty => by
    have h := Lib.run_append_grow_zeros w 23 3 ty 79 i0 z .i64 .i64 Tryz.underlying23 Tryz.underlying3 hi0 hz0 (some ⟨b, 0, none⟩) i c os hold (n + 1 - i) (by omega) (by omega) (by omega) (by omega) (by rw [hzb]; omega) (by rw [hzb, hik]; exact growslice_fits hroom hbig)
    rw [hik] at h
    rw [hkk, hROW, hG]
    exact h
  have hRl : ROW.size = G * 2 := by
    rw [hROW]
    simp only [Array.size_append, List.size_toArray, size_zeroCells, hzc, hol]
    omega
  obtain ⟨W1, hW1⟩ : ∃ W1, W1 = w.drew.alloc (.cells ROW 79) := ⟨_, rfl⟩
  rw [← hW1] at hrz
  obtain ⟨N, hN⟩ : ∃ N, N = w.heap.size := ⟨_, rfl⟩
  rw [← hN] at hrz hbw hvw
  have hr1 : W1.heap[N]? = some (.cells ROW 79 (0, 0)) := by rw [hW1, hN]; exact heap_alloc_new w.drew _
  have hrest : ∀ x, x < N → W1.heap[x]? = w.heap[x]? := fun x hx => by rw [hW1]; exact Below.heap_alloc w.drew _ x (by rw [hN] at hx; exact hx)
  have hsz1 : W1.heap.size = N + 1 := by rw [hW1, hN]; simp
  obtain ⟨cs, hcs0⟩ : ∃ cs, cs = (cur.toList.drop (i * 2)).take ((n - i) * 2) := ⟨_, rfl⟩
  have hcl : cs.length = (n - i) * 2 := by rw [hcs0, List.length_take, List.length_drop, Array.length_toList]; omega
  have h1 : ∀ v ∈ cs, v.oneCell' = true := fun v hv => by
    refine h1c v ?_
    rw [hcs0, ← Nat.add_sub_cancel_left (n := i * 2) (m := (n - i) * 2), ← List.drop_take, show i * 2 + (n - i) * 2 = n * 2 by omega] at hv
    exact List.mem_of_mem_drop hv
  obtain ⟨R1, hR1⟩ : ∃ R1, R1 = (ROW.toList.take (i * 2) ++ vs ++ ROW.toList.drop (i * 2 + vs.length)).toArray := ⟨_, rfl⟩
  have hR1s : R1.size = G * 2 := by
    rw [hR1]
    simp only [List.size_toArray, List.length_append, List.length_take, List.length_drop, Array.length_toList, hRl, hvl]
    omega
  obtain ⟨R2, hR2⟩ : ∃ R2, R2 = (R1.toList.take ((i + 1) * 2) ++ cs ++ R1.toList.drop ((i + 1) * 2 + cs.length)).toArray := ⟨_, rfl⟩
  have hcpA : ∀ (W : World), W.heap = W1.heap → ∀ ty dc, (Builtin.copy_ #[23, 23] ty #[.slice (some ⟨N, i * 2, none⟩) (n + 1 - i) dc, .slice (some ⟨vb, 0, none⟩) 1 vc]).run Tryz.prog W = .ok (goInt 1) (W.setRow N R1) := fun W hW ty dc => by
    rw [hR1]
    exact run_copy_rowN W 23 23 ty 79 2 N (i * 2) (n + 1 - i) dc ⟨vb, 0, none⟩ 1 vc 1 ROW 79 vs Tryz.underlying23 size_stub (by rw [hW]; exact hr1)
      (by simp only [Nat.min_def]; split <;> omega) hvl (fun j v hj => by
        rw [Addr.add_lit]
        rw [← hvs] at hj
        exact row_at (w := W) (p := 0) (n := 2) (by rw [hW, hrest vb hvw]; exact hv) (by simpa using hj)) (by omega) h1v
  have hcpB : ∀ (W : World), W.heap = (W1.setRow N R1).heap → ∀ ty dc sc, (Builtin.copy_ #[23, 23] ty #[.slice (some ⟨N, (i + 1) * 2, none⟩) (n - i) dc, .slice (some ⟨b, i * 2, none⟩) (n - i) sc]).run Tryz.prog W = .ok (goInt ((n - i : Nat) : Int)) (W.setRow N R2) := fun W hW ty dc sc => by
    rw [hR2]
    exact run_copy_rowN W 23 23 ty 79 2 N ((i + 1) * 2) (n - i) dc ⟨b, i * 2, none⟩ (n - i) sc (n - i) R1 79 cs Tryz.underlying23 size_stub (by rw [hW]; exact setRow_heap W1 N ROW R1 _ (0, 0) hr1)
      (by simp only [Nat.min_def]; split <;> omega) hcl (fun j v hj => by
        rw [Addr.add_lit]
        rw [hcs0] at hj
        exact row_at (w := W) (by rw [hW, setRow_other W1 N b R1 (by omega), hrest b hbw]; exact hh) hj) (by omega) h1
  have hfin : ∀ W : World, W.heap = (W1.setRow N R1).heap → W.os = w.os → W.tape = w.tape → W.output = w.output → InsPost w (some b) n ys (.returned (.slice (some ⟨N, 0, none⟩) (n + 1) G)) (W.setRow N R2) := fun W hW e1 e2 e3 => by
    refine ⟨N, G, R2, rfl, setRow_heap W N R1 R2 _ (0, 0) (by rw [hW]; exact setRow_heap W1 N ROW R1 _ (0, 0) hr1), hGn, hG64, ?_, ?_, ⟨by simpa [World.setRow] using e1, by simpa [World.setRow] using e2, by simpa [World.setRow] using e3, ?_, fun x hx hne => ?_⟩, .inr hN⟩
    · rw [hR2]
      simp only [List.size_toArray, List.length_append, List.length_take, List.length_drop, Array.length_toList, hR1s, hcl]
      omega
    · rw [hys, hR2, List.toList_toArray, hR1, List.toList_toArray, hcl, hvl]
      have e3 : ROW.toList.take (i * 2) = os := by
        rw [hROW, Array.toList_append, Array.toList_append, List.append_assoc]
        exact List.take_left' hol
      rw [e3]
      have e4 : (os ++ vs ++ ROW.toList.drop (i * 2 + 2)).take ((i + 1) * 2) = os ++ vs := List.take_left' (by rw [List.length_append, hol, hvl]; omega)
      rw [e4, List.take_left' (by rw [List.length_append, List.length_append, hol, hvl, hcl]; omega), hos, hcs0]
      rw [List.take_take, Nat.min_eq_left (by omega), show n * 2 = i * 2 + (n - i) * 2 by omega, List.drop_take, Nat.add_sub_cancel_left]
    · simp only [World.setRow, Array.size_modify, hW, hsz1, hN]
      omega
    · have hx' : x < N := by rw [hN]; exact hx
      rw [setRow_other W N x R2 (by omega), hW, setRow_other W1 N x R1 (by omega), hrest x hx']
  have hw1 : IntKind.i64.wrap ((i : Int) + 1) = (i : Int) + 1 := by rw [IntKind.wrap_i64]; omega
  have hb1 : (0 : Int) ≤ (i : Int) + 1 := by omega
  have hin : i ≤ n := by omega
  have htn : ((i : Int) + 1).toNat = i + 1 := by omega
  have hb3 : (i : Int) ≤ (n : Int) := by omega
  have hGi : ¬ (G = i) := by omega
  have hGim : ¬ (G = i + 1) := by omega
  have hci : ¬ (c = i) := by omega
  have hmixed : Tryz.prog.follows .mixedOrders = true := mixed
  have q1 : W1.os = w.os := by rw [hW1]; rfl
  have q2 : W1.tape = w.tape := by rw [hW1]; rfl
  have q3 : W1.output = w.output := by rw [hW1]; rfl
  clear hW1 hN hrest hsz1 hkk hik hold hROW hG hRl hys h1 hR1 hR2 hR1s hcs0 hcl hos hol
  go_enter Tryz.func108, Tryz.ntmps108
  go_wp2_with (first
    | (at_builtin; refine Go.Proofs.YtpdllgbfemnemaaGreat.wpList_appRun rfl _ _ _ _ rfl rfl rfl (hrz _) ?_)
    | (at_builtin; refine wpList_copyRun rfl _ _ 23 23 rfl rfl rfl (hcpA _ rfl _ _) ?_))
  go_region_law_o (refine step_copyRun rfl _ _ 23 23 rfl (.slice (some ⟨N, (i + 1) * 2, none⟩) (n - i) (G - (i + 1))) (.slice (some ⟨b, i * 2, none⟩) (n - i) (c - i)) (by simp [Act.eval, Act.put]) (by simp [Act.eval, Act.put]) (hcpB (W1.setRow N R1).drew rfl 3 (G - (i + 1)) (c - i)) ?_)
  go_wp2
  go_ret
  exact hfin _ rfl q1 q2 q3
end Go.Proofs.YtpdllgbfemnemaaGreat.Sx
end

section
namespace Go.Proofs.YtpdllgbfemnemaaGreat.Sx
open Go.RowKit

/-- What is left behind Insert. -/
def InsOut (w : World) (k : Kp) (ob : Option Nat) (m : Nat) (out : List RV) (e : Ending) (w' : World) : Prop :=
  ∃ v, e = .returned v ∧ Keep ob.toList w w' ∧ ∃ k' : Kp, (∀ b, b < w.heap.size → some b ≠ ob → k' b = k b) ∧ ∃ ob', chAt w' k' 79 2 m out false v ob' ∧ ∀ b, ob' = some b → (w.heap.size ≤ b ∨ ob = some b) ∧ b < w'.heap.size
theorem insOut_of {w : World} {k : Kp} {ob : Option Nat} {n : Nat} {ys : List Value} {out : List RV} {e : Ending} {w' : World} (h : InsPost w ob n ys e w') (hl : RV.listAt w k out ys) (hol : out.length = (n + 1) * 2) (hk : ∀ b, ob = some b → k b = 0) :
    InsOut w k ob (n + 1) out e w' := by
  obtain ⟨b, cap, cur, rfl, hh, h1, h2, h3, h4, hg, hb⟩ := h
  have hbs : b < w'.heap.size := (Array.getElem?_eq_some_iff.1 hh).1
  have hkk : ∀ x, x < w.heap.size → some x ≠ ob → kset k b 0 x = k x := fun x hx hne => by
    have : x ≠ b := by
      rcases hb with h | h
      · exact fun e => hne (by rw [h, e])
      · omega
    simp [kset, this]
  have hw : Wrote w k w' (kset k b 0) ob := by
    refine ⟨hg.os, hg.tape, hg.output, hg.size, fun x hx hne => ⟨hg.block x hx hne, hkk x hx hne⟩, fun x hx => ?_⟩
    have hk0 := hk x hx.symm
    exact ⟨by omega, fun o ho => by omega, fun h => by omega⟩
  refine ⟨_, rfl, ⟨hg.os, hg.tape, hg.output, hg.size, fun x hx hne => hg.block x hx fun e => hne (by rw [← e]; simp)⟩, kset k b 0, hkk, some b, ⟨hol, .inr ⟨b, cap, cur, rfl, rfl, hh, h1, h2, h3, by simp [kset_new], ?_⟩⟩, fun x hx => ?_⟩
  · rw [h4]
    exact RV.list_mono hw.le _ _ hl
  · cases hx
    exact ⟨hb.symm.imp (fun h => Nat.le_of_eq h.symm) fun h => h, hbs⟩
theorem ins_any {w : World} {k : Kp} {n i : Nat} {cells cells2 : List RV} {u uv : Value} {ob ob2 : Option Nat} (hch : chAt w k 79 2 n cells false u ob) (hch2 : chAt w k 79 2 1 cells2 false uv ob2)
    (hap : ∀ b, ob = some b → ob2 ≠ some b) (hi : i ≤ n) (hn : n ≤ 1000000000000) :
    Calls Tryz.prog 108 #[u, .int .i64 (i : Int), uv] w (InsOut w k ob (n + 1) (cells.take (i * 2) ++ cells2 ++ cells.drop (i * 2))) := by
  obtain ⟨hcl, hch'⟩ := id hch
  obtain ⟨hcl2, hch2⟩ := hch2
  rcases hch2 with ⟨_, ⟨h, _⟩ | ⟨_, h, _⟩⟩ | ⟨vb, vc, vcur, rfl, rfl, hv, hv1, hv2, hv3, hv4, hv5⟩
  · omega
  · cases h
  have hvl : (vcur.toList.take (1 * 2)).length = 2 := by rw [List.length_take, Array.length_toList]; omega
  have hone : ∀ {fs : List RV} {us : List Value}, RV.listAt w k fs us → ∀ v ∈ us, v.oneCell' = true := fun {fs us} h v hm => by
    rw [RV.listAt_iff] at h
    obtain ⟨j, hj⟩ := List.getElem?_of_mem hm
    have hjl : j < fs.length := by rw [← h.1]; exact (List.getElem?_eq_some_iff.1 hj).1
    exact (h.2 j _ v (List.getElem?_eq_getElem hjl) hj).1
  have hk0 : ∀ b, ob = some b → k b = 0 := fun b hb => by
    have := (hch.blk hb).1
    simpa using this
  have hol : (cells.take (i * 2) ++ cells2 ++ cells.drop (i * 2)).length = (n + 1) * 2 := by
    simp only [List.length_append, List.length_take, List.length_drop, hcl, hcl2]
    omega
  by_cases hin : i = n
  · subst hin
    obtain ⟨i0, z, hi0, hzs, hzb, hz0, hzc⟩ := info_stub
    obtain ⟨xs, b, cap, cur, w', hrun, hxs, hh, h1, h2, h3, h4, hgr, hbb, hb0⟩ := app_run (ty := 23) (qb := vb) (qo := 0) (m := 1) (c := vc) (news := vcur.toList.take (1 * 2)) Tryz.underlying23 hi0 hz0 hzs hzb hzc hch hvl
      (fun j u hj => row_at (p := 0) (n := 1 * 2) hv (by simpa using hj)) (hone hv5) (by omega) (by unfold maxLen; omega) (by omega)
    have hxl : xs.length = i * 2 := (listAt_len hxs).trans hcl
    have hout : RV.listAt w k (cells.take (i * 2) ++ cells2 ++ cells.drop (i * 2)) (xs ++ vcur.toList.take (1 * 2)) := by
      rw [List.take_of_length_le (by omega), List.drop_eq_nil_of_le (by omega), List.append_nil]
      exact listAt_append hxs hv5
    have hpost : ∀ (base : Option Addr) (c : Nat), u = .slice base i c → i ≤ c → c ≤ maxLen → (base = none → i = 0 ∧ c = 0) → Calls Tryz.prog 108 #[u, .int .i64 (i : Int), .slice (some ⟨vb, 0, none⟩) 1 vc] w (InsOut w k ob (i + 1) (cells.take (i * 2) ++ cells2 ++ cells.drop (i * 2))) := fun base c hu hic hcm hb => by
      subst hu
      refine (ins_end base i c vb vc w w' _ hic (by unfold maxLen at hcm; omega) hb hrun).mono ?_
      rintro e w'' ⟨rfl, rfl⟩
      refine insOut_of ⟨b, cap, cur, rfl, hh, h1, h2, h3, h4, hgr, hbb⟩ hout hol hk0
    rcases hch' with ⟨_, ⟨rfl, p, rfl⟩ | ⟨_, h, _⟩⟩ | ⟨b, cap, cur, rfl, rfl, _, g1, g2, _⟩
    · exact hpost p 0 rfl (Nat.le_refl _) (by unfold maxLen; omega) fun _ => ⟨rfl, rfl⟩
    · cases h
    · exact hpost _ cap rfl g1 g2 fun h => by cases h
  · have hlt : i < n := by omega
    rcases hch' with ⟨_, ⟨h, _⟩ | ⟨_, h, _⟩⟩ | ⟨b, cap, cur, rfl, rfl, hh, g1, g2, g3, g4, g5⟩
    · omega
    · cases h
    have hne : vb ≠ b := fun e => hap b rfl (by rw [e])
    have hout : RV.listAt w k (cells.take (i * 2) ++ cells2 ++ cells.drop (i * 2)) ((cur.toList.take (n * 2)).take (i * 2) ++ vcur.toList.take (1 * 2) ++ (cur.toList.take (n * 2)).drop (i * 2)) :=
      listAt_append (listAt_append (listAt_take g5 _) hv5) (listAt_drop g5 _)
    have hm : cap ≤ 9223372036854775807 := by unfold maxLen at g2; omega
    by_cases hroom : n + 1 ≤ cap
    · exact (ins_shift b n cap i vb vc cur vcur _ _ w hlt hroom hm hne hh g3 hv rfl hvl (hone g5) (hone hv5) _ rfl).mono fun e w' h => insOut_of h hout hol hk0
    · exact (ins_grow b n i vb vc cur vcur _ _ w hlt (by omega) cap g1 (by omega) hh g3 hv rfl hvl (hone g5) (hone hv5) _ rfl).mono fun e w' h => insOut_of h hout hol hk0

/-- Insert as an operation. -/
theorem Vstep.ins {S : St} {o : Oper} {x y z : Operand} {ts : Array TypeId} {id id2 n i : Nat} {cells cells2 : List RV} {K : St → Prop}
    (hop : o.op = .call { callee := .value (.func 108), args := #[x, y, z], argTypes := ts }) (hx : opr S x = some (.own id)) (ho : oget S.O id = some (.ch 79 2 n cells false))
    (hy : opr S y = some (.r (.i .i64 (i : Int)))) (hz : opr S z = some (.own id2)) (ho2 : oget S.O id2 = some (.ch 79 2 1 cells2 false)) (hne : id ≠ id2) (hi : i ≤ n) (hn : n ≤ 1000000000000)
    (hK : newK (S.set id none) o.dst (.own S.nx) (some (.ch 79 2 (n + 1) (cells.take (i * 2) ++ cells2 ++ cells.drop (i * 2)) false)) K) : Vstep Tryz.prog S o K := by
  rw [newK_eq] at hK
  refine ⟨_, fun B N a w k Q ⟨g, hs⟩ hd => ?_, hK⟩
  have hxv := (opr_at hs hx).2
  have hyv := (opr_at hs hy).2
  have hzv := (opr_at hs hz).2
  simp only [TF.at_, RV.at_] at hxv hyv hzv
  obtain ⟨q1, q2, q3, q4⟩ := hs.owns id _ ho
  obtain ⟨r1, r2, r3, r4⟩ := hs.owns id2 _ ho2
  simp only [Ow.at_] at q3 r3
  obtain ⟨fn, c, hf, hb, hnm⟩ : Known Tryz.prog 108 := known_of Tryz.func108 rfl (by kernel_rfl)
  unfold Oper.wp
  rw [show (execOp a.eval o).run Tryz.prog w = (callFunc 108 #[a.eval x, a.eval y, a.eval z]).run Tryz.prog w by simp [execOp, hop, resolve, Deferred.ofValue, invoke, Act.eval], callFunc_run hf hb hnm]
  simp only [Oper.upon]
  rw [hxv, hyv, hzv]
  refine (ins_any q3 r3 (fun b hb => hs.apart id id2 _ _ b ho ho2 hne hb) hi hn).mono ?_
  rintro en w' ⟨v, rfl, hkeep, k', hk', ob', hch, hob⟩
  simp only
  have hw : Wrote w k w' k' (g id).2 := by
    refine ⟨hkeep.os, hkeep.tape, hkeep.output, hkeep.size, fun b hb hne => ⟨hkeep.block b hb (fun hm => hne ?_), hk' b hb hne⟩, fun b hb => ?_⟩
    · rw [Option.mem_toList] at hm; exact hm.symm
    · have hkb := (q3.blk hb.symm).1
      simp only [Bool.false_eq_true, if_false] at hkb
      exact ⟨by omega, fun o' ho' => by omega, fun h => by omega⟩
  have h1 := hs.wrote hw (id := some id) ⟨⟨_, ho⟩, rfl⟩
  refine ⟨k', _, h1.adopt hd (o := .ch 79 2 (n + 1) _ false) (vb := (v, ob')) trivial hch (fun b hb => ⟨?_, (hob b hb).2⟩) fun i o' b hi hb hgi => ?_⟩
  · rcases (hob b hb).1 with h | h
    · left; have := hs.keep.size; omega
    · exact (q4 b h).1
  · rcases oget_cons hi with ⟨_, e'⟩ | ⟨hne, hi⟩
    · cases e'
    · rcases (hob b hb).1 with h | h
      · have := ((hs.owns i o' hi).2.2.2 b hgi).2; omega
      · exact hs.apart id i _ o' b ho hi hne h hgi
end Go.Proofs.YtpdllgbfemnemaaGreat.Sx
end
