import Derived.Test.YtpdllgbfemnemaaGreatZSxG
section
namespace Go.Proofs.YtpdllgbfemnemaaGreat.Sx
open Go.RowKit

section
variable {P : Program} {T : TT} {B : Bs} {N : Nat} {S : St} {a : Act} {w : World} {k : Kp} {g : Env} {o : Oper} {Q : Exit → Act → World → Prop}

/-- An owner's block is written into: the owner has other cells. -/
theorem SatE.redo (hs : SatE B N S a w k g) {id b : Nat} {ow ow' : Ow} {w' : World} (ho : oget S.O id = some ow) (hb : (g id).2 = some b) (hw : Wrote w k w' k (some b)) (hl : ow'.lt S.nx) (hat : ow'.at_ w' k g (g id)) :
    SatE B N (S.set id (some ow')) a w' k g := by
  have g1 := hs.wrote hw (id := some id) ⟨⟨ow, ho⟩, hb⟩
  have hid := hs.owns id ow ho
  have up : ∀ i o', oget (S.set id (some ow')).O i = some o' → (i = id ∧ o' = ow') ∨ (id ≠ i ∧ oget (S.set id none).O i = some o') := fun i o' h => by
    rcases oget_cons h with ⟨rfl, e⟩ | ⟨hne, h⟩
    · cases e; exact .inl ⟨rfl, rfl⟩
    · refine .inr ⟨hne, ?_⟩
      simp only [St.set, oget]
      split
      · rename_i hb; exact absurd (Nat.eq_of_beq_eq_true hb) hne
      · exact h
  refine ⟨g1.size, g1.defers, g1.keep, g1.kk, g1.facts, fun i o' h => ?_, fun i j o1 o2 b' hi hj hne hbi => ?_⟩
  · rcases up i o' h with ⟨rfl, rfl⟩ | ⟨hne, h⟩
    · exact ⟨hid.1, hl, hat, fun b' hb' => ⟨(hid.2.2.2 b' hb').1, Nat.lt_of_lt_of_le (hid.2.2.2 b' hb').2 hw.size⟩⟩
    · exact g1.owns i o' h
  · have old : ∀ x ox, oget (S.set id (some ow')).O x = some ox → ∃ ox', oget S.O x = some ox' := fun x ox hx => by
      rcases oget_cons hx with ⟨rfl, _⟩ | ⟨_, hx⟩
      · exact ⟨ow, ho⟩
      · exact ⟨ox, hx⟩
    obtain ⟨p1, hp1⟩ := old i o1 hi
    obtain ⟨p2, hp2⟩ := old j o2 hj
    exact hs.apart i j p1 p2 b' hp1 hp2 hne hbi

/-- Cells, one by one. -/
def AllAt (p : TF → Value → Prop) (cells : List TF) (us : List Value) : Prop := us.length = cells.length ∧ ∀ (j : Nat) (f : TF) (u : Value), cells[j]? = some f → us[j]? = some u → p f u
theorem AllAt.append {p : TF → Value → Prop} {c d : List TF} {us vs : List Value} (h : AllAt p c us) (h' : AllAt p d vs) : AllAt p (c ++ d) (us ++ vs) := by
  refine ⟨by simp [h.1, h'.1], fun j f u hf hu => ?_⟩
  rw [List.getElem?_append] at hf hu
  rw [h.1] at hu
  split at hf
  · rename_i hj; rw [if_pos hj] at hu; exact h.2 j f u hf hu
  · rename_i hj; rw [if_neg hj] at hu; exact h'.2 _ f u hf hu
theorem AllAt.take {p : TF → Value → Prop} {c : List TF} {us : List Value} (h : AllAt p c us) (n : Nat) : AllAt p (c.take n) (us.take n) := by
  refine ⟨by simp [h.1], fun j f u hf hu => ?_⟩
  rw [List.getElem?_take] at hf hu
  split at hf
  · rename_i hj; rw [if_pos hj] at hu; exact h.2 j f u hf hu
  · cases hf
theorem AllAt.drop {p : TF → Value → Prop} {c : List TF} {us : List Value} (h : AllAt p c us) (n : Nat) : AllAt p (c.drop n) (us.drop n) := by
  refine ⟨by simp [h.1], fun j f u hf hu => ?_⟩
  rw [List.getElem?_drop] at hf hu
  exact h.2 _ f u hf hu
theorem AllAt.mono {p q : TF → Value → Prop} {c : List TF} {us : List Value} (h : AllAt p c us) (hpq : ∀ f u, p f u → q f u) : AllAt q c us := ⟨h.1, fun j f u hf hu => hpq f u (h.2 j f u hf hu)⟩

/-- Stored into a block. -/
theorem run_store_at {t : TypeId} {ti : TI} {b off : Nat} {cur : Array Value} {ty : TypeId} {v : Value} (hti : TIOk P ti) (ht : ti.id = t) (hh : w.heap[b]? = some (.cells cur ty (0, 0))) (hsz : v.cells.size = ti.sz) (hfit : off + ti.sz ≤ cur.size) (h1 : ∀ x ∈ v.cells.toList, x.oneCell' = true) :
    (Instr.storeAt t (.pointer (some ⟨b, off, none⟩)) v).run P w = .ok () (w.setRow b (cur.toList.take off ++ v.cells.toList ++ cur.toList.drop (off + ti.sz)).toArray) := by
  have hs := run_sizeOf_ti (w := w) hti ht
  have hst := run_storeCells_at P b off ty v.cells.toList 0 cur w hh (by rw [Nat.add_zero, Array.length_toList, hsz]; exact hfit) h1
  simp only [Nat.add_zero] at hst
  rw [Array.length_toList, hsz] at hst
  simp only [Instr.storeAt, Instr.sureAddr, storeVar, Sem.run_bind, Sem.run_pure, Result.andThen_ok, hs, Sem.run_ite, hsz]
  simp [hst]

theorem wrote_row {b : Nat} {cur cs : Array Value} {ty : TypeId} (_hh : w.heap[b]? = some (.cells cur ty (0, 0))) (hk : k b = 0) : Wrote w k (w.setRow b cs) k (some b) :=
  ⟨rfl, rfl, rfl, by simp [World.setRow], fun x _ hne => ⟨setRow_other w b x cs (fun h => hne (by rw [h])), rfl⟩, fun x hx => by
    cases hx
    exact ⟨Nat.le_refl _, fun o ho => by omega, fun h => by omega⟩⟩

/-- Into a box. -/
theorem store_box (hs : SatE B N S a w k g) {t : TypeId} {ti : TI} {id b off : Nat} {cells new : List TF} {v : Value} (hti : TIOk P ti) (ht : ti.id = t) (ho : oget S.O id = some (.box cells)) (hb : (g id).2 = some b)
    (hfit : off + ti.sz ≤ cells.length) (hlen : new.length = ti.sz) (hlt : ∀ f ∈ new, f.lt S.nx) (hnew : AllAt (fun f u => u.oneCell' = true ∧ f.at_ w k g u) new v.cells.toList) :
    ∃ w', (Instr.storeAt t (.pointer (some ⟨b, off, none⟩)) v).run P w = .ok () w' ∧ SatE B N (S.set id (some (.box (cells.take off ++ new ++ cells.drop (off + ti.sz))))) a w' k g := by
  obtain ⟨hid, hlo, hat, _⟩ := hs.owns id _ ho
  simp only [Ow.at_] at hat
  obtain ⟨b', cur, ty, e, hh, hk, hsz, hc⟩ := hat
  rw [e] at hb
  cases hb
  have hvs : v.cells.size = ti.sz := by rw [← Array.length_toList, hnew.1, hlen]
  have hr := run_store_at hti ht hh hvs (by rw [hsz]; exact hfit) (fun x hx => by
    obtain ⟨j, hj⟩ := List.getElem?_of_mem hx
    have hjl : j < new.length := by rw [← hnew.1]; exact (List.getElem?_eq_some_iff.1 hj).1
    exact (hnew.2 j _ x (List.getElem?_eq_getElem hjl) hj).1)
  have hw := wrote_row (k := k) (cs := (cur.toList.take off ++ v.cells.toList ++ cur.toList.drop (off + ti.sz)).toArray) hh hk
  refine ⟨_, hr, hs.redo ho (by rw [e]) hw ?_ ?_⟩
  · intro f hf
    rcases List.mem_append.1 hf with hf | hf
    · rcases List.mem_append.1 hf with hf | hf
      · exact hlo f (List.mem_of_mem_take hf)
      · exact hlt f hf
    · exact hlo f (List.mem_of_mem_drop hf)
  · have hold : AllAt (fun f u => u.oneCell' = true ∧ f.at_ w k g u) cells cur.toList := ⟨by rw [Array.length_toList, hsz], fun j f u hf hu => hc j f u hf (by simpa using hu)⟩
    have hall := (((hold.take off).append hnew).append (hold.drop (off + ti.sz))).mono (q := fun f u => u.oneCell' = true ∧ f.at_ (w.setRow b (cur.toList.take off ++ v.cells.toList ++ cur.toList.drop (off + ti.sz)).toArray) k g u) fun f u h => ⟨h.1, TF.mono hw.le h.2⟩
    simp only [Ow.at_]
    refine ⟨b, _, ty, e, setRow_heap w b cur _ ty (0, 0) hh, hk, by have := hall.1; simpa using this, fun j f u hf hu => hall.2 j f u hf (by simpa using hu)⟩

/-- Into a slice of the call's own. -/
theorem store_ch (hs : SatE B N S a w k g) {t e : TypeId} {ti : TI} {id b off sz n : Nat} {cells : List RV} {v : Value} {r : RV} (hti : TIOk P ti) (ht : ti.id = t) (ho : oget S.O id = some (.ch e sz n cells false)) (hb : (g id).2 = some b)
    (hfit : off + ti.sz ≤ cells.length) (hlen : (cellsOf r).length = ti.sz) (hnew : RV.listAt w k (cellsOf r) v.cells.toList) :
    ∃ w', (Instr.storeAt t (.pointer (some ⟨b, off, none⟩)) v).run P w = .ok () w' ∧ SatE B N (S.set id (some (.ch e sz n (fillR cells off (cellsOf r)) false))) a w' k g := by
  obtain ⟨hid, hlo, hat, _⟩ := hs.owns id _ ho
  simp only [Ow.at_] at hat
  obtain ⟨hcl, hat⟩ := hat
  rcases hat with ⟨hno, _⟩ | ⟨b', cap, cur, e1, e2, hh, h1, h2, h3, h4, h5⟩
  · rw [hno] at hb; cases hb
  rw [e1] at hb
  cases hb
  have hk : k b = 0 := by simpa using h4
  have hcc : n * sz ≤ cap * sz := Nat.mul_le_mul_right _ h1
  have hvs : v.cells.size = ti.sz := by rw [← Array.length_toList, listAt_len hnew, hlen]
  have hr := run_store_at hti ht hh hvs (off := off) (by omega) (fun x hx => by
    obtain ⟨j, hj⟩ := List.getElem?_of_mem hx
    have hjl : j < (cellsOf r).length := by rw [← listAt_len hnew]; exact (List.getElem?_eq_some_iff.1 hj).1
    exact (((RV.listAt_iff _ _).1 hnew).2 j _ x (List.getElem?_eq_getElem hjl) hj).1)
  have hw := wrote_row (k := k) (cs := (cur.toList.take off ++ v.cells.toList ++ cur.toList.drop (off + ti.sz)).toArray) hh hk
  refine ⟨_, hr, hs.redo ho e1 hw trivial ?_⟩
  simp only [Ow.at_]
  have hvl : v.cells.toList.length = ti.sz := by rw [Array.length_toList, hvs]
  refine ⟨by simp [fillR]; omega, .inr ⟨b, cap, _, e1, e2, setRow_heap w b cur _ e (0, 0) hh, h1, h2, ?_, by simpa using hk, ?_⟩⟩
  · simp only [List.size_toArray, List.length_append, List.length_take, List.length_drop, Array.length_toList, hvs]; omega
  · have hnew' := RV.list_mono hw.le _ _ hnew
    have h5' := RV.list_mono hw.le _ _ h5
    have hlo2 := listAt_take h5' off
    have hhi := listAt_drop h5' (off + ti.sz)
    have hall := listAt_append (listAt_append hlo2 hnew') hhi
    unfold fillR
    rw [hlen]
    rw [List.take_take, Nat.min_eq_left (by omega)] at hall
    have hA : (List.take off cur.toList ++ v.cells.toList).length = off + ti.sz := by rw [List.length_append, List.length_take, hvl, Array.length_toList]; omega
    have e : (List.take off cur.toList ++ v.cells.toList ++ List.drop (off + ti.sz) cur.toList).take (n * sz) = List.take off cur.toList ++ v.cells.toList ++ (cur.toList.take (n * sz)).drop (off + ti.sz) := by
      rw [List.take_append, hA, List.drop_take]
      congr 1
      exact List.take_of_length_le (by omega)
    rw [List.toList_toArray, e]
    exact hall

theorem sto_sound (hT : TOk P T) (hs : SatE B N S a w k g) {t : TypeId} {x y : Operand} {K : St → Prop} (hop : o.op = .store t x y) (h : sto T S o.dst t x y K) :
    o.wp P a w (fun a' w' => ∃ S' k', K S' ∧ Sat B N S' a' w' k') Q := by
  have fin : ∀ {S' : St} {w' : World}, K (S'.put o.dst (.r .any)) → (Instr.storeAt t (a.eval x) (a.eval y)).run P w = .ok () w' → SatE B N S' a w' k g →
      o.wp P a w (fun a' w' => ∃ S' k', K S' ∧ Sat B N S' a' w' k') Q := fun {S' w'} hK hr h1 =>
    wp_skip_ (by simp [execOp, hop, hr]) ⟨_, k, hK, g, h1.drop⟩
  unfold sto at h
  split at h
  · rename_i f g' hf hg'
    have hx := (opr_at hs hf).2
    have hy := opr_at hs hg'
    split at h
    · rename_i id2
      have go2 : ∀ {ow2 : Ow} {j off b : Nat} {cells : List TF} {ti : TI}, oget S.O id2 = some ow2 → oget S.O j = some (.box cells) → (g j).2 = some b → a.eval x = .pointer (some ⟨b, off, none⟩) → tget T t = some ti → ti.sz = 1 → off + 1 ≤ cells.length →
          K ((S.set j (some (.box (cells.take off ++ [.own id2] ++ cells.drop (off + 1))))).put o.dst (.r .any)) → o.wp P a w (fun a' w' => ∃ S' k', K S' ∧ Sat B N S' a' w' k') Q := by
        intro ow2 j off b cells ti h2 ho hb he hti h1 hfit hK
        obtain ⟨q, hq⟩ := hT.get hti
        have hone : (a.eval y).oneCell' = true := by have := hy.2; simp only [TF.at_] at this; rw [this]; exact own_one hs h2
        obtain ⟨w', hr, h3⟩ := store_box hs q hq ho hb (off := off) (new := [.own id2]) (v := a.eval y) (by omega) (by simp [h1]) (by simpa using hy.1) ⟨by simp [cells_one hone], fun j f u hf hu => by
          cases j with
          | zero => simp [cells_one hone] at hf hu; subst hf; subst hu; exact ⟨hone, hy.2⟩
          | succ j => simp at hf⟩
        rw [← he] at hr
        rw [h1] at h3
        exact fin hK hr h3
      split at h
      · rename_i ow2 j off h2
        split at h
        · rename_i cells ho
          split at h
          · exact h.elim
          · rename_i hfit
            simp only [Nat.ble_eq] at hfit
            split at h
            · rename_i ti hti
              split at h
              · rename_i h1
                simp only [TF.at_] at hx
                obtain ⟨b, hb, e⟩ := hx
                rw [setK_eq] at h
                exact go2 h2 ho hb e hti (Nat.eq_of_beq_eq_true h1) hfit h
              · exact h.elim
            · exact h.elim
        · exact h.elim
      · rename_i ow2 j h2
        split at h
        · rename_i cells ho
          split at h
          · exact h.elim
          · rename_i hfit
            simp only [Nat.ble_eq] at hfit
            split at h
            · rename_i ti hti
              split at h
              · rename_i h1
                simp only [TF.at_] at hx
                have hat := (hs.owns _ _ ho).2.2.1
                simp only [Ow.at_] at hat
                obtain ⟨b, cur, ty, e, _⟩ := hat
                rw [setK_eq] at h
                exact go2 (off := 0) (b := b) h2 ho (by rw [e]) (by rw [hx, e]) hti (Nat.eq_of_beq_eq_true h1) (by simpa using hfit) (by simpa using h)
              · exact h.elim
            · exact h.elim
        · exact h.elim
      · exact h.elim
    · rename_i v
      unfold stv at h
      split at h
      · rename_i ti hti
        obtain ⟨q, hq⟩ := hT.get hti
        have go : ∀ (id off b : Nat), (g id).2 = some b → a.eval x = .pointer (some ⟨b, off, none⟩) →
            stAt S ti v (fun S' => newK S' o.dst (.r .any) none K) id off → o.wp P a w (fun a' w' => ∃ S' k', K S' ∧ Sat B N S' a' w' k') Q := by
          intro id off b hb he h
          unfold stAt at h
          split at h
          · rename_i cells ho
            split at h
            · exact h.elim
            · rename_i hc
              simp only [Bool.and_eq_true, Nat.beq_eq, Nat.ble_eq] at hc
              obtain ⟨hok, hlen, hfit⟩ := hc
              have hcells := cells_at hy.2 hok
              have hall : AllAt (fun f u => u.oneCell' = true ∧ f.at_ w k g u) ((cellsOf v).map .r) (a.eval y).cells.toList := by
                refine ⟨by rw [List.length_map, listAt_len hcells], fun j f u hf hu => ?_⟩
                rw [List.getElem?_map] at hf
                cases hv : (cellsOf v)[j]? with
                | none => simp [hv] at hf
                | some rv =>
                  simp only [hv, Option.map_some, Option.some.injEq] at hf
                  subst hf
                  exact ((RV.listAt_iff _ _).1 hcells).2 j rv u hv hu
              obtain ⟨w', hr, h1⟩ := store_box hs q hq ho hb hfit (by rw [List.length_map, hlen]) (by simp [TF.lt]) hall
              rw [← he] at hr
              rw [setK_eq, newK_eq] at h
              exact fin h hr h1
          · rename_i e sz n cells ho
            split at h
            · exact h.elim
            · rename_i hc
              simp only [Bool.and_eq_true, Nat.beq_eq] at hc
              obtain ⟨hok, hlen⟩ := hc
              obtain ⟨hfit, zs, rfl, hK⟩ := h
              obtain ⟨w', hr, h1⟩ := store_ch hs q hq ho hb hfit hlen (cells_at hy.2 hok)
              rw [← he] at hr
              rw [setK_eq, newK_eq] at hK
              exact fin hK hr h1
          · exact h.elim
        split at h
        · rename_i id
          simp only [TF.at_] at hx
          split at h
          · rename_i cells ho
            have hat := (hs.owns _ _ ho).2.2.1
            simp only [Ow.at_] at hat
            obtain ⟨b, cur, ty, e, _⟩ := hat
            exact go id 0 b (by rw [e]) (by rw [hx, e]) h
          · exact h.elim
        · rename_i id off
          simp only [TF.at_] at hx
          obtain ⟨b, hb, e⟩ := hx
          exact go id off b hb e h
        · exact h.elim
      · exact h.elim
    · exact h.elim
  · exact h.elim
end

end Go.Proofs.YtpdllgbfemnemaaGreat.Sx
end

section
namespace Go.Proofs.YtpdllgbfemnemaaGreat.Sx
open Go.RowKit

section
variable {P : Program} {T : TT} {B : Bs} {N : Nat} {S : St} {a : Act} {w : World} {k : Kp} {g : Env} {o : Oper} {Q : Exit → Act → World → Prop}

theorem stepv_sound (hT : TOk P T) (hs : Sat B N S a w k) (hd : ∀ d, o.dst = some d → d < N) {K : St → Prop} (h : stepv P T S o K) :
    o.wp P a w (fun a' w' => ∃ S' k', K S' ∧ Sat B N S' a' w' k') Q := by
  obtain ⟨g, hs⟩ := hs
  have val : (valv P T S o fun f ow => K (S.new o.dst f ow)) → o.wp P a w (fun a' w' => ∃ S' k', K S' ∧ Sat B N S' a' w' k') Q := fun h =>
    Oper.wp_mono (fun a' w' ⟨f, ow, k', hK, hs'⟩ => ⟨_, k', hK, hs'⟩) (valv_sound hT hs hd h)
  unfold stepv at h
  have val2 : (valv P T S o fun f ow => newK S o.dst f ow K) → o.wp P a w (fun a' w' => ∃ S' k', K S' ∧ Sat B N S' a' w' k') Q := fun h => val (by simpa only [newK_eq] using h)
  have step : Vstep P S o K → o.wp P a w (fun a' w' => ∃ S' k', K S' ∧ Sat B N S' a' w' k') Q := fun ⟨S', hy, hK⟩ =>
    Oper.wp_mono (fun a' w' ⟨k', hs'⟩ => ⟨S', k', hK, hs'⟩) (hy B N a w k Q ⟨g, hs⟩ hd)
  cases hop : o.op with
  | store t x y => rw [hop] at h; exact sto_sound hT hs hop h
  | call c =>
    rw [hop] at h
    simp only [stepO] at h
    split at h
    · rename_i b hcal
      split at h
      · unfold appo at h
        split at h
        · rename_i x y t t' hxs hts
          split at h
          · rename_i htt
            obtain rfl := Nat.eq_of_beq_eq_true htt
            split at h
            · rename_i f f2 hf hf2
              simp only [newK_eq] at h
              obtain ⟨id, ow, v, w', k', hK, hr, hs'⟩ := appv_sound (o := o) (ty := o.type) hT hs hd (opr_at hs hf).2 (opr_at hs hf2).2 h
              have hxs' : c.args = #[x, y] := by apply Array.ext'; simpa using hxs
              have hts' : c.argTypes = #[t', t'] := by apply Array.ext'; simpa using hts
              exact wp_val (by simp [execOp, hop, resolve, hcal, hxs', hts', invoke, builtin, hr]) ⟨_, k', hK, hs'⟩
            · exact h.elim
          · exact h.elim
        · exact h.elim
      · exact val2 h
      · exact val2 h
      · exact val2 h
      · exact val2 h
      · exact step h
    · split at h
      · split at h
        · exact val2 h
        · exact step h
      · exact step h
    · exact val2 h
  | makeFunc _ _ _ => rw [hop] at h; exact step h
  | makeMap _ _ => rw [hop] at h; exact step h
  | slice _ _ _ _ _ =>
    rw [hop] at h
    simp only [stepO] at h
    split at h
    · exact val2 h
    · exact step h
  | mapUpdate _ _ _ _ => rw [hop] at h; exact step h
  | lookup _ _ _ _ => rw [hop] at h; exact step h
  | _ => rw [hop] at h; exact val2 h

theorem guard_at (hs : SatE B N S a w k g) {ops : Array Oper} {j d : Nat} {oj : Oper} {β : Bool} (hj : ops[j]? = some oj) (hd : oj.dst = some d) (hf : fget S.F d = some (.r (.b β))) : yielded ops a.tmps j = some β := by
  have := (hs.facts d _ hf).2
  simp only [TF.at_, RV.at_] at this
  unfold yielded
  simp only [hj, Option.bind_some, hd]
  cases ht : a.tmps[d]? with
  | none => simp [ht, undef] at this
  | some v => simp [ht] at this; subst this; rfl

theorem guard_tu (hs : SatE B N S a w k g) {ops : Array Oper} {j d : Nat} {oj : Oper} {l : List RV} (hj : ops[j]? = some oj) (hd : oj.dst = some d) (hf : fget S.F d = some (.r (.tu l))) : yielded ops a.tmps j = none := by
  have := (hs.facts d _ hf).2
  simp only [TF.at_, RV.at_] at this
  obtain ⟨us, hu, _⟩ := this
  unfold yielded
  simp only [hj, Option.bind_some, hd]
  cases ht : a.tmps[d]? with
  | none => rfl
  | some v => simp [ht] at hu; subst hu; rfl

theorem runv_head (hT : TOk P T) {l : List Oper} (hd : ∀ d, o.dst = some d → d < N) {r : List Oper} {K : St → Prop} (hs : Sat B N S a w k) (h : runv P T l (o :: r) S K) :
    if Region.wanted o (yielded l.toArray a.tmps) then o.wp P a w (fun a' w' => ∃ S' k', runv P T l r S' K ∧ Sat B N S' a' w' k') Q
    else ∃ S' k', runv P T l r S' K ∧ Sat B N S' (a.put o.dst undef) w k' := by
  have go : stepv P T S o (fun S' => runv P T l r S' K) → o.wp P a w (fun a' w' => ∃ S' k', runv P T l r S' K ∧ Sat B N S' a' w' k') Q := fun h => stepv_sound hT hs hd h
  have skip : runv P T l r (S.put o.dst (.r (.tu []))) K → ∃ S' k', runv P T l r S' K ∧ Sat B N S' (a.put o.dst undef) w k' := fun h => by
    obtain ⟨g, hs⟩ := hs
    exact ⟨_, k, h, g, hs.skipped⟩
  simp only [runv, newK_eq] at h
  cases hg : o.guard with
  | none =>
    simp only [hg] at h
    rw [if_pos (by simp [Region.wanted, hg])]
    exact go h
  | some jw =>
    obtain ⟨j, want⟩ := jw
    simp only [hg, lget_eq] at h
    split at h
    · rename_i oj hj
      split at h
      · rename_i d hod
        split at h
        · rename_i β hf
          obtain ⟨g, hs'⟩ := hs
          have hy := guard_at hs' (ops := l.toArray) (j := j) (by simpa using hj) hod hf
          have hw : Region.wanted o (yielded l.toArray a.tmps) = (β == want) := by simp [Region.wanted, hg, hy]
          rw [hw]
          cases β <;> cases want <;> simp only at h
          · exact go h
          · exact skip h
          · exact skip h
          · exact go h
        · rename_i lu hf
          obtain ⟨g, hs'⟩ := hs
          have hy := guard_tu hs' (ops := l.toArray) (j := j) (by simpa using hj) hod hf
          rw [if_neg (by simp [Region.wanted, hg, hy])]
          exact skip h
        · exact h.elim
      · exact h.elim
    · exact h.elim

theorem runv_sound (hT : TOk P T) {l : List Oper} (hN : ∀ o ∈ l, ∀ d, o.dst = some d → d < N) : ∀ {rest : List Oper} {S : St} {a : Act} {w : World} {k : Kp} {K : St → Prop}, (∀ o ∈ rest, o ∈ l) → Sat B N S a w k → runv P T l rest S K →
    (∀ S' a' w' k', K S' → Sat B N S' a' w' k' → Q .normal a' w') → wpList P l.toArray Q rest a w
  | [], S, a, w, k, K, _, hs, h, hQ => wpList_nil (hQ S a w k h hs)
  | o :: r, S, a, w, k, K, hin, hs, h, hQ => by
    have hr : ∀ o' ∈ r, o' ∈ l := fun o' ho => hin o' (by simp [ho])
    have := runv_head (Q := Q) hT (hN o (hin o (by simp))) hs h
    unfold wpList
    split at this
    · rename_i hw
      rw [if_pos hw]
      exact .inl (Oper.wp_mono (fun a' w' ⟨S', k', h', hs'⟩ => runv_sound hT hN hr hs' h' hQ) this)
    · rename_i hw
      rw [if_neg hw]
      obtain ⟨S', k', h', hs'⟩ := this
      exact runv_sound hT hN hr hs' h' hQ
end

end Go.Proofs.YtpdllgbfemnemaaGreat.Sx
end
