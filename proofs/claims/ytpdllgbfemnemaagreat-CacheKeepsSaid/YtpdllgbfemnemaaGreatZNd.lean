import Derived.Test.YtpdllgbfemnemaaGreatZNb
section
namespace Go.Proofs.YtpdllgbfemnemaaGreat.Sx
open Go.RowKit

def lOff : Nat → Nat
  | 0 => 0 | 1 => 1 | 2 => 2 | 3 => 4 | _ => 5
def lPtrs (b : Nat) : Array Value := #[.pointer (some ⟨b, 0, none⟩), .pointer (some ⟨b, 1, none⟩), .pointer (some ⟨b, 2, none⟩), .pointer (some ⟨b, 4, none⟩), .pointer (some ⟨b, 5, none⟩)]
/-- Ahead of a round. -/
def ClRel (l : Leaf) (w : World) (k : Kp) (t : Value) (wr : World) : Prop :=
  ∃ (j : Nat) (k' : Kp) (cur z : Array Value) (e e2 e3 : TypeId), t = .int .i64 j ∧ j ≤ 5 ∧ Go.Proofs.YtpdllgbfemnemaaGreat.Ext w wr ∧ (∀ b, b < w.heap.size → k' b = k b) ∧ wr.heap[w.heap.size]? = some (.cells cur e (0, 0)) ∧ k' w.heap.size = 0 ∧ k' (w.heap.size + 1) = 0 ∧
    RV.listAt wr k' l.c cur.toList ∧ wr.heap[w.heap.size + 1]? = some (.cells z e2 (0, 0)) ∧ z.size = 6 ∧ wr.heap[w.heap.size + 2]? = some (.cells (lPtrs w.heap.size) e3 (0, 0))

theorem copyleaf_any (l : Leaf) (hl : l.fit) (w : World) (k : Kp) (us : Array Value) (hus : RV.listAt w k l.c us.toList) :
    Calls Tryz.prog 143 #[.agg us] w (Ret w fun w' v => ∃ k' : Kp, (∀ b, b < w.heap.size → k' b = k b) ∧ (RV.ag l.c).at_ w' k' v) := by
  have hz : us.size = 6 := by rw [← Array.length_toList]; exact listAt_len hus
  go_enter Tryz.func143, Tryz.ntmps143
  go_wp2_with fail
  go_loopw [12] (fun t wr => ClRel l w k t wr) (fun t _ => (5 - intOf t).toNat)
  case atStart =>
    have f1 : ∀ o1 o2 o3 : Obj, (((w.alloc o1).alloc o2).alloc o3).heap[w.heap.size]? = some o1 := fun o1 o2 o3 => by
      rw [Below.heap_alloc _ _ _ (by simp; omega), Below.heap_alloc _ _ _ (by simp), heap_alloc_new]
    have f2 : ∀ o1 o2 o3 : Obj, (((w.alloc o1).alloc o2).alloc o3).heap[w.heap.size + 1]? = some o2 := fun o1 o2 o3 => by
      rw [Below.heap_alloc _ _ _ (by simp)]
      have := heap_alloc_new (w.alloc o1) o2
      rwa [size_alloc] at this
    have f3 : ∀ o1 o2 o3 : Obj, (((w.alloc o1).alloc o2).alloc o3).heap[w.heap.size + 2]? = some o3 := fun o1 o2 o3 => by
      have := heap_alloc_new ((w.alloc o1).alloc o2) o3
      rwa [size_alloc, size_alloc] at this
    have hx : Go.Proofs.YtpdllgbfemnemaaGreat.Ext w (((w.alloc (.cells us 56)).alloc (.cells #[.slice none 0 0, .slice none 0 0, .slice none 0 0, .int .u8 0, .slice none 0 0, .slice none 0 0] 56)).alloc (.cells (lPtrs w.heap.size) 188)) := (by (repeat (first | exact Ext.refl _ | refine Ext.drew ?_ | refine Ext.drewN ?_ _ | refine Ext.alloc ?_ _ | (refine Ext.setCell ?_ (by first | omega | (simp; done) | (simp; omega)) _) | refine Ext.trans ?_ (by assumption))))
    have ko : ∀ b, b < w.heap.size → kset (kset k w.heap.size 0) (w.heap.size + 1) 0 b = k b := fun b hb => by rw [kset_old b (by omega), kset_old b hb]
    exact ⟨0, kset (kset k w.heap.size 0) (w.heap.size + 1) 0, us, _, _, _, _, rfl, by omega, hx, ko, f1 _ _ _, by rw [kset_old _ (by omega), kset_new], kset_new, RV.list_mono (Ext.le hx ko) _ _ hus, f2 _ _ _, rfl, f3 _ _ _⟩
  case round =>
    obtain ⟨j, k', cur, z, e, e2, e3, rfl, hj, hx, hk, hc, hk0, hk1, hlist, hz2, hzs, hp⟩ := hrel
    have hcs : cur.size = 6 := by rw [← Array.length_toList]; exact listAt_len hlist
    by_cases h5 : j = 5
    · subst h5
      simp only [RV.listAt] at hlist
      obtain ⟨x0, r0, q0, y0, z0, x1, r1, rfl, y1, z1, x2, r2, rfl, y2, z2, x3, r3, rfl, y3, z3, x4, r4, rfl, y4, z4, x5, r5, rfl, y5, z5, rfl⟩ := hlist
      have hcur : cur = #[x0, x1, x2, x3, x4, x5] := by apply Array.ext'; exact q0
      have c0 : wr.cell? ⟨w.heap.size, 0, none⟩ = some x0 := by rw [cell_of_row wr _ 0 cur e (0, 0) hc, hcur]; rfl
      have c1 : wr.cell? ⟨w.heap.size, 1, none⟩ = some x1 := by rw [cell_of_row wr _ 1 cur e (0, 0) hc, hcur]; rfl
      have c2 : wr.cell? ⟨w.heap.size, 2, none⟩ = some x2 := by rw [cell_of_row wr _ 2 cur e (0, 0) hc, hcur]; rfl
      have c3 : wr.cell? ⟨w.heap.size, 3, none⟩ = some x3 := by rw [cell_of_row wr _ 3 cur e (0, 0) hc, hcur]; rfl
      have c4 : wr.cell? ⟨w.heap.size, 4, none⟩ = some x4 := by rw [cell_of_row wr _ 4 cur e (0, 0) hc, hcur]; rfl
      have c5 : wr.cell? ⟨w.heap.size, 5, none⟩ = some x5 := by rw [cell_of_row wr _ 5 cur e (0, 0) hc, hcur]; rfl
      obtain ⟨v0, v1, v2, v3, v4, v5, hzz⟩ : ∃ v0 v1 v2 v3 v4 v5, z = #[v0, v1, v2, v3, v4, v5] := by
        obtain ⟨L⟩ := z
        match L, hzs with
        | [a, b, c, d, e, f], _ => exact ⟨a, b, c, d, e, f, rfl⟩
      have d0 : wr.cell? ⟨w.heap.size + 1, 0, none⟩ = some v0 := by rw [cell_of_row wr _ 0 z e2 (0, 0) hz2, hzz]; rfl
      have d1 : wr.cell? ⟨w.heap.size + 1, 1, none⟩ = some v1 := by rw [cell_of_row wr _ 1 z e2 (0, 0) hz2, hzz]; rfl
      have d2 : wr.cell? ⟨w.heap.size + 1, 2, none⟩ = some v2 := by rw [cell_of_row wr _ 2 z e2 (0, 0) hz2, hzz]; rfl
      have d3 : wr.cell? ⟨w.heap.size + 1, 3, none⟩ = some v3 := by rw [cell_of_row wr _ 3 z e2 (0, 0) hz2, hzz]; rfl
      have d4 : wr.cell? ⟨w.heap.size + 1, 4, none⟩ = some v4 := by rw [cell_of_row wr _ 4 z e2 (0, 0) hz2, hzz]; rfl
      have d5 : wr.cell? ⟨w.heap.size + 1, 5, none⟩ = some v5 := by rw [cell_of_row wr _ 5 z e2 (0, 0) hz2, hzz]; rfl
      have st : ∀ (W : World) (i : Nat) (x old : Value), x.oneCell' = true → W.cell? ⟨w.heap.size + 1, i, none⟩ = some old → W.frozen? ⟨w.heap.size + 1, i, none⟩ = false → (store ⟨w.heap.size + 1, i, none⟩ x).run Tryz.prog W = .ok () (W.setCell ⟨w.heap.size + 1, i, none⟩ x) := fun W i x old hx hc hf => by
        rw [run_store Tryz.prog W _ x _ hx]
        simp [hc, hf]
      have fz : ∀ j, wr.frozen? ⟨w.heap.size + 1, j, none⟩ = false := fun j => by simp [World.frozen?, hz2]
      have s0 := st wr 0 x0 v0 y0 d0 (fz 0)
      have s1 := st (wr.setCell ⟨w.heap.size + 1, 0, none⟩ x0) 1 x1 v1 y1 (by rw [World.cell?_setCell_other _ _ _ _ (by simp)]; exact d1) (by simp only [World.frozen?_setCell]; exact fz 1)
      have s2 := st ((wr.setCell ⟨w.heap.size + 1, 0, none⟩ x0).setCell ⟨w.heap.size + 1, 1, none⟩ x1) 2 x2 v2 y2 (by rw [World.cell?_setCell_other _ _ _ _ (by simp), World.cell?_setCell_other _ _ _ _ (by simp)]; exact d2) (by simp only [World.frozen?_setCell]; exact fz 2)
      have s3 := st (((wr.setCell ⟨w.heap.size + 1, 0, none⟩ x0).setCell ⟨w.heap.size + 1, 1, none⟩ x1).setCell ⟨w.heap.size + 1, 2, none⟩ x2) 3 x3 v3 y3 (by rw [World.cell?_setCell_other _ _ _ _ (by simp), World.cell?_setCell_other _ _ _ _ (by simp), World.cell?_setCell_other _ _ _ _ (by simp)]; exact d3) (by simp only [World.frozen?_setCell]; exact fz 3)
      have s4 := st ((((wr.setCell ⟨w.heap.size + 1, 0, none⟩ x0).setCell ⟨w.heap.size + 1, 1, none⟩ x1).setCell ⟨w.heap.size + 1, 2, none⟩ x2).setCell ⟨w.heap.size + 1, 3, none⟩ x3) 4 x4 v4 y4 (by rw [World.cell?_setCell_other _ _ _ _ (by simp), World.cell?_setCell_other _ _ _ _ (by simp), World.cell?_setCell_other _ _ _ _ (by simp), World.cell?_setCell_other _ _ _ _ (by simp)]; exact d4) (by simp only [World.frozen?_setCell]; exact fz 4)
      have s5 := st (((((wr.setCell ⟨w.heap.size + 1, 0, none⟩ x0).setCell ⟨w.heap.size + 1, 1, none⟩ x1).setCell ⟨w.heap.size + 1, 2, none⟩ x2).setCell ⟨w.heap.size + 1, 3, none⟩ x3).setCell ⟨w.heap.size + 1, 4, none⟩ x4) 5 x5 v5 y5 (by rw [World.cell?_setCell_other _ _ _ _ (by simp), World.cell?_setCell_other _ _ _ _ (by simp), World.cell?_setCell_other _ _ _ _ (by simp), World.cell?_setCell_other _ _ _ _ (by simp), World.cell?_setCell_other _ _ _ _ (by simp)]; exact d5) (by simp only [World.frozen?_setCell]; exact fz 5)
      clear st
      obtain ⟨Wf, hWf⟩ : ∃ Wf, Wf = wr.setRow (w.heap.size + 1) #[x0, x1, x2, x3, x4, x5] := ⟨_, rfl⟩
      have hfe : (((((wr.setCell ⟨w.heap.size + 1, 0, none⟩ x0).setCell ⟨w.heap.size + 1, 1, none⟩ x1).setCell ⟨w.heap.size + 1, 2, none⟩ x2).setCell ⟨w.heap.size + 1, 3, none⟩ x3).setCell ⟨w.heap.size + 1, 4, none⟩ x4).setCell ⟨w.heap.size + 1, 5, none⟩ x5 = Wf := by
        rw [hWf, setCell_eq_setRow wr (w.heap.size + 1) 0 z e2 (0, 0) x0 hz2, setCell_eq_setRow _ (w.heap.size + 1) 1 _ e2 (0, 0) x1 (setRow_heap wr _ z _ e2 (0, 0) hz2), setRow_setRow,
          setCell_eq_setRow _ (w.heap.size + 1) 2 _ e2 (0, 0) x2 (setRow_heap wr _ z _ e2 (0, 0) hz2), setRow_setRow, setCell_eq_setRow _ (w.heap.size + 1) 3 _ e2 (0, 0) x3 (setRow_heap wr _ z _ e2 (0, 0) hz2), setRow_setRow,
          setCell_eq_setRow _ (w.heap.size + 1) 4 _ e2 (0, 0) x4 (setRow_heap wr _ z _ e2 (0, 0) hz2), setRow_setRow, setCell_eq_setRow _ (w.heap.size + 1) 5 _ e2 (0, 0) x5 (setRow_heap wr _ z _ e2 (0, 0) hz2), setRow_setRow, hzz]
        rfl
      have hfh : Wf.heap[w.heap.size + 1]? = some (.cells #[x0, x1, x2, x3, x4, x5] e2 (0, 0)) := by rw [hWf]; exact setRow_heap wr _ z _ e2 (0, 0) hz2
      have e0 : Wf.cell? ⟨w.heap.size + 1, 0, none⟩ = some x0 := by rw [cell_of_row Wf _ 0 _ e2 (0, 0) hfh]; rfl
      have e1' : Wf.cell? ⟨w.heap.size + 1, 1, none⟩ = some x1 := by rw [cell_of_row Wf _ 1 _ e2 (0, 0) hfh]; rfl
      have e2' : Wf.cell? ⟨w.heap.size + 1, 2, none⟩ = some x2 := by rw [cell_of_row Wf _ 2 _ e2 (0, 0) hfh]; rfl
      have e3' : Wf.cell? ⟨w.heap.size + 1, 3, none⟩ = some x3 := by rw [cell_of_row Wf _ 3 _ e2 (0, 0) hfh]; rfl
      have e4' : Wf.cell? ⟨w.heap.size + 1, 4, none⟩ = some x4 := by rw [cell_of_row Wf _ 4 _ e2 (0, 0) hfh]; rfl
      have e5' : Wf.cell? ⟨w.heap.size + 1, 5, none⟩ = some x5 := by rw [cell_of_row Wf _ 5 _ e2 (0, 0) hfh]; rfl
      have hle : Le wr k' Wf k' := by
        refine (Wrote.le (ob := some (w.heap.size + 1)) ⟨by rw [hWf]; rfl, by rw [hWf]; rfl, by rw [hWf]; rfl, by rw [hWf]; simp [World.setRow], fun x hx hne => ⟨?_, rfl⟩, fun x hx => ?_⟩)
        · rw [hWf]; exact setRow_other wr _ x _ fun e => hne (by rw [e])
        · cases hx
          exact ⟨Nat.le_refl _, fun o ho => by omega, fun h => by omega⟩
      have hxf : Go.Proofs.YtpdllgbfemnemaaGreat.Ext w Wf := by
        refine ⟨by rw [hWf]; exact hx.os, by rw [hWf]; exact hx.tape, by rw [hWf]; exact hx.output, Nat.le_trans hx.size hle.size, fun x hxx => ?_⟩
        rw [hWf, setRow_other wr _ x _ (by omega)]
        exact hx.block x hxx
      have hres : (RV.ag l.c).at_ Wf k' (.agg #[x0, x1, x2, x3, x4, x5]) := by
        simp only [RV.at_]
        refine ⟨_, rfl, RV.list_mono hle _ _ ?_⟩
        simp only [RV.listAt]
        exact ⟨x0, _, rfl, y0, z0, x1, _, rfl, y1, z1, x2, _, rfl, y2, z2, x3, _, rfl, y3, z3, x4, _, rfl, y4, z4, x5, _, rfl, y5, z5, rfl⟩
      clear hWf
      go_wp2_with fail
      refine ⟨rfl, .agg #[x0, x1, x2, x3, x4, x5], ?_, _, rfl, hxf, k', hk, hres⟩
      have hr := run_loadAt_agg (P := Tryz.prog) (w := Wf) (b := w.heap.size + 1) (off := 0) (us := [x0, x1, x2, x3, x4, x5]) (Tab_ok.get (t := 56) rfl).1 rfl rfl rfl (fun j u hu => by
        rw [Nat.zero_add, cell_of_row Wf _ j _ e2 (0, 0) hfh]
        simpa using hu)
      rw [results_eq, Array.mapM_eq_mapM_toList]
      simp only [Instr.loadAt, Instr.sureAddr, Sem.run_bind, Sem.run_pure, Result.andThen_ok] at hr
      show (do
        let vs ← List.toArray <$> List.mapM (rvSem _) [ResultVar.cell 2 56]
        pure (if h : vs.size = 1 then vs[0] else .tuple vs)).run Tryz.prog Wf = _
      simp [rvSem, asAddr]
      exact hr
    · have hj5 : j < 5 := by omega
      have hll : l.box.length ≤ 1000000000000 ∧ l.sign.length ≤ 1000000000000 ∧ l.ident.length ≤ 1000000000000 ∧ l.parent.length ≤ 1000000000000 ∧ l.sig.length ≤ 1000000000000 := by
        obtain ⟨h1, h2, h3, h4, h5⟩ := hl
        omega
      obtain ⟨lj, hlj, hll, ho, hpt⟩ : ∃ lj : List UInt8, l.c[lOff j]? = some (bs lj) ∧ lj.length ≤ 1000000000000 ∧ lOff j < 6 ∧ (lPtrs w.heap.size)[j]? = some (.pointer (some ⟨w.heap.size, lOff j, none⟩)) := by
        match j, hj5 with
        | 0, _ => exact ⟨l.box, rfl, hll.1, by decide, rfl⟩
        | 1, _ => exact ⟨l.sign, rfl, hll.2.1, by decide, rfl⟩
        | 2, _ => exact ⟨l.ident, rfl, hll.2.2.1, by decide, rfl⟩
        | 3, _ => exact ⟨l.parent, rfl, hll.2.2.2.1, by decide, rfl⟩
        | 4, _ => exact ⟨l.sig, rfl, hll.2.2.2.2, by decide, rfl⟩
      obtain ⟨o, hoo⟩ : ∃ o, o = lOff j := ⟨_, rfl⟩
      rw [← hoo] at hlj ho hpt
      clear hoo
      obtain ⟨u, hu, hu1, hcu⟩ : ∃ u, (bs lj).at_ wr k' u ∧ u.oneCell' = true ∧ wr.cell? ⟨w.heap.size, o, none⟩ = some u := by
        have hoc : o < cur.toList.length := by rw [Array.length_toList]; omega
        have := (RV.listAt_iff _ _).1 hlist |>.2 o _ cur.toList[o] hlj (List.getElem?_eq_getElem hoc)
        exact ⟨_, this.2, this.1, by rw [cell_of_row wr _ o cur e (0, 0) hc, ← Array.getElem?_toList]; exact List.getElem?_eq_getElem hoc⟩
      have hcp : wr.cell? ⟨w.heap.size + 1 + 1, j, none⟩ = some (.pointer (some ⟨w.heap.size, o, none⟩)) := by
        rw [cell_of_row wr _ j _ e3 (0, 0) hp]; exact hpt
      obtain ⟨p, rfl, hby⟩ := by_in hu
      clear h5 hpt
      go_wp2_with fail
      refine (bclone_any p lj _ hby (by omega)).mono ?_
      rintro e' w1 ⟨v, rfl, hb, g1, hov⟩
      obtain ⟨k1, hk1', hch⟩ := by_out (k := k') hov
      have hvat : (bs lj).at_ w1 k1 v := by
        obtain ⟨_, h, _⟩ := hch
        exact h.sl
      have hv1 : v.oneCell' = true := by
        obtain ⟨_, h, _⟩ := hch
        exact h.one
      have hsw : w.heap.size + 2 < wr.heap.size := (Array.getElem?_eq_some_iff.1 hp).1
      have hle1 : Le wr k' w1 k1 := Ext.le hb hk1'
      have hc1 : w1.heap[w.heap.size]? = some (.cells cur e (0, 0)) := (hb.block _ (by omega)).trans hc
      obtain ⟨cur2, hcur2⟩ : ∃ cur2, cur2 = (cur.toList.take o ++ [v] ++ cur.toList.drop (o + 1)).toArray := ⟨_, rfl⟩
      obtain ⟨W2, hW2⟩ : ∃ W2, W2 = w1.setRow w.heap.size cur2 := ⟨_, rfl⟩
      have hst : (storeCells ⟨w.heap.size, o, none⟩ [v]).run Tryz.prog w1 = .ok () W2 := by
        rw [hW2, hcur2]
        exact run_storeCells_at Tryz.prog w.heap.size o e [v] 0 cur w1 hc1 (by simp; omega) (by simpa using hv1)
      have hc2 : W2.heap[w.heap.size]? = some (.cells cur2 e (0, 0)) := by rw [hW2]; exact setRow_heap w1 _ cur _ e (0, 0) hc1
      have hrest : ∀ x, x ≠ w.heap.size → W2.heap[x]? = w1.heap[x]? := fun x hx => by rw [hW2]; exact setRow_other w1 _ x _ hx
      have hle2 : Le w1 k1 W2 k1 := by
        refine (Wrote.le (ob := some w.heap.size) ⟨by rw [hW2]; rfl, by rw [hW2]; rfl, by rw [hW2]; rfl, by rw [hW2]; simp [World.setRow], fun x hx hne => ⟨hrest x fun e => hne (by rw [e]), rfl⟩, fun x hx => ?_⟩)
        cases hx
        have : k1 w.heap.size = 0 := (hk1' _ (by omega)).trans hk0
        exact ⟨Nat.le_refl _, fun o ho => by omega, fun h => by omega⟩
      have hxf : Go.Proofs.YtpdllgbfemnemaaGreat.Ext w W2 := by
        refine ⟨by rw [hW2]; exact hb.os.trans hx.os, by rw [hW2]; exact hb.tape.trans hx.tape, by rw [hW2]; exact hb.output.trans hx.output, Nat.le_trans hx.size (Nat.le_trans hb.size hle2.size), fun x hxx => ?_⟩
        rw [hrest x (by omega), hb.block x (by omega)]
        exact hx.block x hxx
      have hlist2 : RV.listAt W2 k1 l.c cur2.toList := by
        have h1 := RV.list_mono (hle1.trans hle2) _ _ hlist
        have h2 : RV.listAt W2 k1 [bs lj] [v] := by
          simp only [RV.listAt]
          exact ⟨v, _, rfl, hv1, RV.mono hle2 _ _ hvat, rfl⟩
        have h3 : l.c = l.c.take o ++ [bs lj] ++ l.c.drop (o + 1) := by
          have hoc : o < l.c.length := ho
          have h4 : l.c[o] = bs lj := by rw [List.getElem?_eq_getElem hoc] at hlj; exact Option.some.inj hlj
          rw [← h4, List.append_assoc, List.singleton_append, ← List.drop_eq_getElem_cons hoc, List.take_append_drop]
        rw [h3, hcur2, List.toList_toArray]
        exact listAt_append (listAt_append (listAt_take h1 o) h2) (listAt_drop h1 (o + 1))
      have hz2' : W2.heap[w.heap.size + 1]? = some (.cells z e2 (0, 0)) := by rw [hrest _ (by omega), hb.block _ (by omega)]; exact hz2
      have hp' : W2.heap[w.heap.size + 2]? = some (.cells (lPtrs w.heap.size) e3 (0, 0)) := by rw [hrest _ (by omega), hb.block _ (by omega)]; exact hp
      clear hW2 hrest
      go_wp2_with fail
      rw [hst]
      go_wp2_with fail
      go_roundw
      case rel => exact ⟨j + 1, k1, cur2, z, e, e2, e3, rfl, by omega, hxf, fun b hb => (hk1' b (by omega)).trans (hk b hb), hc2, (hk1' _ (by omega)).trans hk0, (hk1' _ (by omega)).trans hk1, hlist2, hz2', hzs, hp'⟩
      case measure => (first | omega | (simp [intOf]; done) | (simp [intOf]; omega))
theorem g_copyleaf (l : Leaf) (hl : l.fit) : Gives Tryz.prog 143 [.ag l.c] (.r (.ag l.c)) :=
  gives_old (known_of Tryz.func143 rfl (by kernel_rfl)) fun w k vs hp => by
    obtain ⟨a, rfl, h1⟩ := parts1 hp
    simp only [RV.at_] at h1
    obtain ⟨us, rfl, h2⟩ := h1
    exact copyleaf_any l hl w k us h2
end Go.Proofs.YtpdllgbfemnemaaGreat.Sx
end

section
namespace Go.Proofs.YtpdllgbfemnemaaGreat.Sx
open Go.RowKit

abbrev stubChF (L : List Stub) : Ow := .ch 79 2 L.length (L.flatMap Stub.c) false
theorem take_flat {α β : Type} {f : α → List β} {sz : Nat} (hf : ∀ x, (f x).length = sz) : ∀ (l : List α) (j : Nat), (l.flatMap f).take (j * sz) = (l.take j).flatMap f
  | [], j => by simp
  | x :: l, 0 => by simp
  | x :: l, j + 1 => by
    rw [List.flatMap_cons, List.take_succ_cons, List.flatMap_cons, Nat.add_mul, Nat.one_mul, Nat.add_comm, ← take_flat hf l j]
    rw [List.take_append, hf x, List.take_of_length_le (by rw [hf x]; omega), Nat.add_sub_cancel_left]
theorem shut_cells (own : Stub) (F : List Stub) : RV.sl 2 (F.length + 1) ((F.flatMap Stub.c).take (insAt own F * 2) ++ own.c ++ (F.flatMap Stub.c).drop (insAt own F * 2)) = stubs (insL own F) := by
  rw [take_flat (sz := 2) (fun _ => rfl), drop_flat (sz := 2) (fun _ => rfl), ← insL_eq]
  have hle := insAt_le own F
  unfold stubs
  rw [show (F.take (insAt own F) ++ own :: F.drop (insAt own F)).length = F.length + 1 by rw [List.length_append, List.length_cons, List.length_take, List.length_drop]; omega]
  simp
theorem g_cshut (s : Lean_) (hs : s.fitN) (hl : s.lookOk = true) (x : Int) (h0 : List UInt8) (hcl : ∀ l : Leaf, l.fit → Gives Tryz.prog 143 [.ag l.c] (.r (.ag l.c)))
    (hho : Gives Tryz.prog 52 [.ag (lookC s), I x] (.r (bs h0))) :
    Gives Tryz.prog 63 [.ag s.c, I x] (.r (.ag (shutR s x h0).c)) := by
  refine gives_of_vcg (T := Tab) mixed Tab_ok Tryz.func63 rfl (by kernel_rfl) ?_
  have glook := g_lookof s (by have := hs.1; omega) (by have := hs.2.1; omega)
  simp only [lookR, hl, if_true] at glook
  obtain ⟨hs1, hs2, hs3, hs4⟩ := id hs
  obtain ⟨p, hp⟩ : ∃ p : Int → Bool, p = fun y => !underI y x := ⟨_, rfl⟩
  refine VloadN.mk' rfl rfl ?_
  refine Vcall.go glook ?_
  refine Vloop.mk' (fun j : Nat => { F := [(2, .own 0), (3, .own 1), (4, .own 2), (5, .own 3), (7, .own 4), (24, .r (spots s.opn)), (25, .r (I s.opn.length)), (26, .r (I j))], O := [(0, some (.box (s.c.map .r))), (1, some (.box [.r (I x)])), (2, some (.box (zero4.map .r))), (3, some (.box ((lookC s).map .r))), (4, some (.box [.r (I s.leaves), .r (I s.own), .own 5, .own 6])), (5, some (spotCh ((s.opn.take j).filter fun y => p y.at_))), (6, some (stubChF []))], nx := 7 })
    (fun j => j ≤ s.opn.length) (fun j => s.opn.length - j) 0 (by omega)
    ((sub_adopt_cellP true 4 2 77 11 (cells := [.r (I s.leaves), .r (I s.own), .r (.x (.slice none 0 0)), .r (.x (.slice none 0 0))]) rfl rfl).trans ((sub_adopt_cellP false 4 3 79 2 (cells := [.r (I s.leaves), .r (I s.own), .own 5, .r (.x (.slice none 0 0))]) rfl rfl).trans (sub_of [(0, 0), (1, 1), (2, 2), (3, 3), (4, 4), (5, 5), (6, 6)] rfl ⟨rfl, rfl, rfl, rfl, rfl, Cv.refl _, Cv.refl _, Cv.refl _, trivial⟩ ⟨cvCells_refl _, cvCells_refl [I x], cvCells_refl zero4, cvCells_refl (lookC s), cvc (cvTF_refl _) (cvc (cvTF_refl _) (cvc rfl (cvc rfl rfl))), ⟨rfl, rfl, rfl, rfl, Cvs.refl _⟩, ⟨rfl, rfl, rfl, rfl, Cvs.refl _⟩, trivial⟩))) ?_
  intro j hj
  refine Vcmp.split (fun h => Vif.t ?_) (fun h => Vif.f ?_)
  · simp only [beq_iff_eq, bne_iff_ne, beq_eq_false_iff_ne, bne_eq_false_iff_eq, decide_eq_true_eq, decide_eq_false_iff_not, Bool.not_eq_true', Bool.not_eq_false', ne_eq] at h
    have hj' : j < s.opn.length := by omega
    refine Vidx.mk' (by omega) (by omega) (idx_spot rfl hj') ?_
    refine VloadN.mk' rfl rfl ?_
    refine Vcall.go (g_under _ _) ?_
    have hsn := filter_snocA (p := fun y : Spot => p y.at_) hj'
    have hfl := filter_take_leA (p := fun y : Spot => p y.at_) (l := s.opn) (j := j)
    have hpj : p s.opn[j].at_ = !underI s.opn[j].at_ x := by rw [hp]
    cases hu : underI s.opn[j].at_ x with
    | true =>
      rw [hpj, hu, if_neg (by simp)] at hsn
      refine Vcmp.f rfl (Vif.f ?_)
      refine Vint.i64 (m := ((j + 1 : Nat) : Int)) (by omega) (by omega) ?_
      rw [← hsn]
      exact ⟨j + 1, hj', by omega, sub_of [(0, 0), (1, 1), (2, 2), (3, 3), (4, 4), (5, 5), (6, 6)] rfl ⟨rfl, rfl, rfl, rfl, rfl, Cv.refl _, Cv.refl _, Cv.refl _, trivial⟩ ⟨cvCells_refl _, cvCells_refl [I x], cvCells_refl zero4, cvCells_refl (lookC s), cvc (cvTF_refl _) (cvc (cvTF_refl _) (cvc rfl (cvc rfl rfl))), ⟨rfl, rfl, rfl, rfl, Cvs.refl _⟩, ⟨rfl, rfl, rfl, rfl, Cvs.refl _⟩, trivial⟩⟩
    | false =>
      rw [hpj, hu, if_pos (by simp)] at hsn
      refine Vcmp.t rfl (Vif.t ?_)
      refine Vdraw.mk' (by kernel_rfl) ?_
      refine VloadN.mk' rfl rfl ?_
      refine Vcall.go (g_copyC s.opn[j].node (hs3 _ (List.getElem_mem hj')) (hcl _ (hs3 _ (List.getElem_mem hj')).1)) ?_
      refine Vpub.pub ?_
      refine Vapp.mk' (j := ((s.opn.take (j + 1)).filter fun y => p y.at_).length) (zs := ((s.opn.take (j + 1)).filter fun y => p y.at_).flatMap Spot.c) (by simp only [maxLen]; omega) (by simp; omega) (by rw [hsn]; simp) (by rw [hsn]; simp [fillR, cellsOf]) ?_
      refine Vint.i64 (m := ((j + 1 : Nat) : Int)) (by omega) (by omega) ?_
      exact ⟨j + 1, hj', by omega, sub_of [(0, 0), (1, 1), (2, 2), (3, 3), (4, 4), (5, _), (6, 6)] rfl ⟨rfl, rfl, rfl, rfl, rfl, Cv.refl _, Cv.refl _, Cv.refl _, trivial⟩ ⟨cvCells_refl _, cvCells_refl [I x], cvCells_refl zero4, cvCells_refl (lookC s), cvc (cvTF_refl _) (cvc (cvTF_refl _) (cvc rfl (cvc rfl rfl))), ⟨rfl, rfl, rfl, rfl, Cvs.refl _⟩, ⟨rfl, rfl, rfl, rfl, Cvs.refl _⟩, trivial⟩⟩
  simp only [beq_iff_eq, bne_iff_ne, beq_eq_false_iff_ne, bne_eq_false_iff_eq, decide_eq_true_eq, decide_eq_false_iff_not, Bool.not_eq_true', Bool.not_eq_false', ne_eq] at h
  rw [List.take_of_length_le (by omega)]
  clear h hj
  refine Vloop.mk' (fun j : Nat => { F := [(2, .own 0), (3, .own 1), (4, .own 2), (5, .own 3), (7, .own 4), (48, .r (stubs s.shut)), (49, .r (I s.shut.length)), (50, .r (I j))], O := [(0, some (.box (s.c.map .r))), (1, some (.box [.r (I x)])), (2, some (.box (zero4.map .r))), (3, some (.box ((lookC s).map .r))), (4, some (.box [.r (I s.leaves), .r (I s.own), .own 5, .own 6])), (5, some (spotCh (s.opn.filter fun y => p y.at_))), (6, some (stubChF ((s.shut.take j).filter fun y => p y.at_)))], nx := 7 })
    (fun j => j ≤ s.shut.length) (fun j => s.shut.length - j) 0 (by omega) (sub_of [(0, 0), (1, 1), (2, 2), (3, 3), (4, 4), (5, 5), (6, 6)] rfl ⟨rfl, rfl, rfl, rfl, rfl, Cv.refl _, Cv.refl _, Cv.refl _, trivial⟩ ⟨cvCells_refl _, cvCells_refl [I x], cvCells_refl zero4, cvCells_refl (lookC s), cvc (cvTF_refl _) (cvc (cvTF_refl _) (cvc rfl (cvc rfl rfl))), ⟨rfl, rfl, rfl, rfl, Cvs.refl _⟩, ⟨rfl, rfl, rfl, rfl, Cvs.refl _⟩, trivial⟩) ?_
  intro j hj
  refine Vcmp.split (fun h => Vif.t ?_) (fun h => Vif.f ?_)
  · simp only [beq_iff_eq, bne_iff_ne, beq_eq_false_iff_ne, bne_eq_false_iff_eq, decide_eq_true_eq, decide_eq_false_iff_not, Bool.not_eq_true', Bool.not_eq_false', ne_eq] at h
    have hj' : j < s.shut.length := by omega
    refine Vidx.mk' (by omega) (by omega) (idx_stub rfl hj') ?_
    refine VloadN.mk' rfl rfl ?_
    refine Vcall.go (g_under _ _) ?_
    have hsn := filter_snocA (p := fun y : Stub => p y.at_) hj'
    have hfl := filter_take_leA (p := fun y : Stub => p y.at_) (l := s.shut) (j := j)
    have hpj : p s.shut[j].at_ = !underI s.shut[j].at_ x := by rw [hp]
    cases hu : underI s.shut[j].at_ x with
    | true =>
      rw [hpj, hu, if_neg (by simp)] at hsn
      refine Vcmp.f rfl (Vif.f ?_)
      refine Vint.i64 (m := ((j + 1 : Nat) : Int)) (by omega) (by omega) ?_
      rw [← hsn]
      exact ⟨j + 1, hj', by omega, sub_of [(0, 0), (1, 1), (2, 2), (3, 3), (4, 4), (5, 5), (6, 6)] rfl ⟨rfl, rfl, rfl, rfl, rfl, Cv.refl _, Cv.refl _, Cv.refl _, trivial⟩ ⟨cvCells_refl _, cvCells_refl [I x], cvCells_refl zero4, cvCells_refl (lookC s), cvc (cvTF_refl _) (cvc (cvTF_refl _) (cvc rfl (cvc rfl rfl))), ⟨rfl, rfl, rfl, rfl, Cvs.refl _⟩, ⟨rfl, rfl, rfl, rfl, Cvs.refl _⟩, trivial⟩⟩
    | false =>
      rw [hpj, hu, if_pos (by simp)] at hsn
      refine Vcmp.t rfl (Vif.t ?_)
      refine Vdraw.mk' (by kernel_rfl) ?_
      refine Vcall.go (g_bclone s.shut[j].hash (by have := hs4 _ (List.getElem_mem hj'); omega)) ?_
      refine Vpub.pub ?_
      refine Vapp.mk' (j := ((s.shut.take (j + 1)).filter fun y => p y.at_).length) (zs := ((s.shut.take (j + 1)).filter fun y => p y.at_).flatMap Stub.c) (by simp only [maxLen]; omega) (by simp; omega) (by rw [hsn]; simp) (by rw [hsn]; simp [fillR, cellsOf, bs]) ?_
      refine Vint.i64 (m := ((j + 1 : Nat) : Int)) (by omega) (by omega) ?_
      exact ⟨j + 1, hj', by omega, sub_of [(0, 0), (1, 1), (2, 2), (3, 3), (4, 4), (5, 5), (6, _)] rfl ⟨rfl, rfl, rfl, rfl, rfl, Cv.refl _, Cv.refl _, Cv.refl _, trivial⟩ ⟨cvCells_refl _, cvCells_refl [I x], cvCells_refl zero4, cvCells_refl (lookC s), cvc (cvTF_refl _) (cvc (cvTF_refl _) (cvc rfl (cvc rfl rfl))), ⟨rfl, rfl, rfl, rfl, Cvs.refl _⟩, ⟨rfl, rfl, rfl, rfl, Cvs.refl _⟩, trivial⟩⟩
  simp only [beq_iff_eq, bne_iff_ne, beq_eq_false_iff_ne, bne_eq_false_iff_eq, decide_eq_true_eq, decide_eq_false_iff_not, Bool.not_eq_true', Bool.not_eq_false', ne_eq] at h
  rw [List.take_of_length_le (by omega)]
  clear h hj
  obtain ⟨F, hF⟩ : ∃ F, F = s.shut.filter fun y => p y.at_ := ⟨_, rfl⟩
  have hFl : F.length ≤ 1000000 := by
    have := List.length_filter_le (fun y : Stub => p y.at_) s.shut
    rw [hF]; omega
  rw [← hF]
  refine Vstep.sub (sub_pub (t := 3) [I x] rfl rfl) (Vstep.mkfun stubRV (fun _ => True) (fun y => decide (x < y.at_)) rfl rfl (fun y _ => g_shut1 y x) ?_)
  refine Vstep.peek rfl rfl rfl rfl rfl (fun _ _ _ _ _ h => by simpa [RV.at_] using h) (g_indexstub F (fun _ => True) _ (by omega) fun _ _ => trivial) ?_
  by_cases hneg : idxG (fun y : Stub => decide (x < y.at_)) 0 F < 0
  · refine Vcmp.t (by simpa using hneg) (Vif.t ?_)
    have hat : insAt ⟨x, h0⟩ F = F.length := by simp only [insAt]; rw [if_pos hneg]
    refine Vdraw.cut 9 (by kernel_rfl) ?_
    refine Vload1.mk' rfl ?_
    refine VloadN.mk' rfl rfl ?_
    refine Vload1.mk' rfl ?_
    refine Vcall.go hho ?_
    refine Vpub.own ?_
    refine Vstep.thenSub (Vstep.ins (i := insAt ⟨x, h0⟩ F) rfl rfl rfl (by rw [hat]; rfl) rfl rfl (show (6 : Nat) ≠ 7 by decide) (insAt_le _ _) (by omega) ?_)
    refine ⟨_, sub_pubch (id := 8) rfl, ?_⟩
    refine VloadN.mk' rfl rfl ?_
    refine VloadN.mk' rfl rfl ?_
    refine Cv.of_eq ?_
    have e1 := shut_cells ⟨x, h0⟩ F
    refine Eq.trans (b := RV.ag [I s.leaves, I s.own, spots (s.opn.filter fun y => p y.at_), stubs (insL ⟨x, h0⟩ F)]) (congrArg (fun z => RV.ag [I s.leaves, I s.own, spots (s.opn.filter fun y => p y.at_), z]) e1) ?_
    rw [hF, hp]
    rfl
  · refine Vcmp.f (by simpa using hneg) (Vif.f ?_)
    have hat : ((insAt ⟨x, h0⟩ F : Nat) : Int) = idxG (fun y : Stub => decide (x < y.at_)) 0 F := by simp only [insAt]; rw [if_neg hneg]; omega
    refine Vdraw.cut 9 (by kernel_rfl) ?_
    refine Vload1.mk' rfl ?_
    refine VloadN.mk' rfl rfl ?_
    refine Vload1.mk' rfl ?_
    refine Vcall.go hho ?_
    refine Vpub.own ?_
    refine Vstep.thenSub (Vstep.ins (i := insAt ⟨x, h0⟩ F) rfl rfl rfl (by rw [hat]; rfl) rfl rfl (show (6 : Nat) ≠ 7 by decide) (insAt_le _ _) (by omega) ?_)
    refine ⟨_, sub_pubch (id := 8) rfl, ?_⟩
    refine VloadN.mk' rfl rfl ?_
    refine VloadN.mk' rfl rfl ?_
    refine Cv.of_eq ?_
    have e1 := shut_cells ⟨x, h0⟩ F
    refine Eq.trans (b := RV.ag [I s.leaves, I s.own, spots (s.opn.filter fun y => p y.at_), stubs (insL ⟨x, h0⟩ F)]) (congrArg (fun z => RV.ag [I s.leaves, I s.own, spots (s.opn.filter fun y => p y.at_), z]) e1) ?_
    rw [hF, hp]
    rfl
end Go.Proofs.YtpdllgbfemnemaaGreat.Sx
end

section
namespace Go.Proofs.YtpdllgbfemnemaaGreat.Sx
open Go.RowKit

end Go.Proofs.YtpdllgbfemnemaaGreat.Sx
end
