import Derived.Test.YtpdllgbfemnemaaGreatZSxK
namespace Go.Proofs.YtpdllgbfemnemaaGreat.Sx
open Go.RowKit
section
section
variable {P : Program} {T : TT} {B : Bs} {N : Nat} {S : St} {a : Act} {w : World} {k : Kp} {g : Env} {o : Oper} {Q : Exit -> Act -> World -> Prop}
def cloS {α : Type} (P : Program) (arg : α -> RV) (D : α -> Prop) (q : α -> Bool) : Stable where
 at_ w k v := ∃ f rvs cap, v = .func (.func f) #[] cap /\ RV.partsAt w k rvs cap.toList /\ ∀ x, D x -> zae P f (arg x :: rvs) (.r (.b (q x)))
 mono := λ h ⟨f, rvs, cap, e, hp, hg⟩ => ⟨f, rvs, cap, e, RV.parts_mono h rvs _ hp, hg⟩
 one := by rintro w k v ⟨f, rvs, cap, rfl, _⟩; rfl
theorem Vstep.sub {S' : St} {K : St -> Prop} (hs : Sub S S') (h : Vstep P S' o K) : Vstep P S o K := by
 obtain ⟨ι, S2, hy, hK⟩ := h
 refine ⟨ι, S2, λ B N a w k Q hs0 hd => ?_, hK⟩
 obtain ⟨k', hs'⟩ := hs B N a w k hs0
 exact hy B N a w k' Q hs' hd
theorem Vstep.clo {α : Type} {arg : α -> RV} {D : α -> Prop} {q : α -> Bool} {t : Nat} {x : Operand} {ts : Array TypeId} {f : TF} {v : RV} {K : St -> Prop} (y : α)
  (hop : o.op = .call { callee := .value (.tmp t), args := #[x], argTypes := ts }) (hf : fget S.F t = some (.r (.s (cloS P arg D q)))) (hx : opr S x = some f) (hv : S.rv f = some v) (hc : Cv v (arg y)) (hD : D y)
  (hK : newK S o.dst (.r (.b (q y))) none K) : Vstep P S o K := by
 rw [zco] at hK
 refine Vstep.one (λ B N a w k Q ⟨g, hs⟩ hd => ?_) hK
 have hfv := (hs.facts t _ hf).2
 simp only [TF.at_, RV.at_] at hfv
 obtain ⟨fn, rvs, cap, e, hp, hg⟩ := hfv
 have hxv := zgt hs hv (zal hs hx).2
 have hus : RV.partsAt w k (v :: rvs) (a.eval x :: cap.toList) := by simp only [RV.partsAt]; exact ⟨_, _, rfl, hxv, hp⟩
 have := zrx (o := o) (Q := Q) (K := λ f ow => f = .r (.b (q y)) /\ ow = none) hs hus (zk hc (zn rvs)) (hg y hD) (by
  have e2 : a.eval (.tmp t) = .func (.func fn) #[] cap := by
   have : a.eval (.tmp t) = a.tmps.getD t undef := by simp [Act.eval]
   rw [this, e]
  have e3 : #[a.eval x] ++ cap = (a.eval x :: cap.toList).toArray := by apply Array.ext'; simp
  simp [execOp, hop, resolve, e2, Deferred.ofValue, invoke, e3]) ⟨rfl, rfl⟩
 refine Oper.wp_mono ?_ this
 rintro a' w' ⟨f', ow, u, k', ⟨rfl, rfl⟩, rfl, hl⟩
 exact ⟨k', hl.sat hs hd⟩
theorem Vstep.cloB {α : Type} {arg : α -> RV} {D : α -> Prop} {q : α -> Bool} {t : Nat} {x : Operand} {ts : Array TypeId} {f : TF} {v : RV} {K : St -> Prop} (y : α)
  (hop : o.op = .call { callee := .value (.tmp t), args := #[x], argTypes := ts }) (hf : fget S.F t = some (.r (.s (cloS P arg D q)))) (hx : opr S x = some f) (hv : S.rv f = some v) (hc : Cv v (arg y)) (hD : D y)
  (h1 : q y = true -> newK S o.dst (.r (.b true)) none K) (h0 : q y = false -> newK S o.dst (.r (.b false)) none K) : Vstep P S o K := by
 refine Vstep.clo y hop hf hx hv hc hD ?_
 cases hq : q y
 ·exact h0 hq
 ·exact h1 hq
theorem SatE.pub (hs : SatE B N S a w k g) {id : Nat} {vs : List RV} (ho : oget S.O id = some (.box (vs.map .r))) :
  ∃ b k', g id = (.pointer (some ⟨b, 0, none⟩), some b) /\ Le w k w k' /\ b < w.heap.size /\ RV.cellsAt w k' b 0 vs /\ SatE B N (S.set id none) a w k' g := by
 obtain ⟨_, _, hat, _⟩ := hs.owns id _ ho
 simp only [Ow.at_] at hat
 obtain ⟨b, cur, ty, e, hh, hk, hsz, hc⟩ := hat
 have hw : Wrote w k w (kset k b vs.length) (some b) := ⟨rfl, rfl, rfl, Nat.le_refl _, λ x _ hne => ⟨rfl, by simp [kset, show x ≠ b from λ h => hne (by rw [h])]⟩, λ x hx => by
  cases hx
  exact ⟨by omega, λ _ _ => rfl, λ h => by omega⟩⟩
 refine ⟨b, kset k b vs.length, e, hw.le, (Array.getElem?_eq_some_iff.1 hh).1, ?_, hs.wrote hw (id := some id) ⟨⟨_, ho⟩, by rw [e]⟩⟩
 rw [RV.cellsAt_iff]
 intro j f hf
 have hj := (List.getElem?_eq_some_iff.1 hf).1
 rw [List.length_map] at hsz
 have hcj : cur[j]? = some cur[j] := Array.getElem?_eq_getElem (by omega)
 have h1 := hc j (.r f) cur[j] (by simp [hf]) hcj
 refine ⟨by rw [zcx]; omega, cur[j], ?_, h1.1, RV.mono hw.le f _ h1.2⟩
 rw [Nat.zero_add, cell_of_row w b j cur ty (0, 0) hh]
 exact hcj
theorem zg5 {id t : Nat} (vs : List RV) (hf : fget S.F t = some (.own id)) (ho : oget S.O id = some (.box (vs.map .r))) : Sub S ⟨(t, .r (.ptr vs)) :: S.F, (id, none) :: S.O, S.nx⟩ := by
 rintro B N a w k ⟨g, hs⟩
 obtain ⟨b, k', hg, hle, hb, hc, h⟩ := hs.pub ho
 have hv := (hs.facts t _ hf).2
 simp only [TF.at_] at hv
 refine ⟨k', g, h.size, h.defers, h.keep, h.kk, λ t' f hf' => ?_, h.owns, h.apart⟩
 rcases zb5 hf' with ⟨rfl, rfl⟩ | ⟨_, hf'⟩
 ·refine ⟨trivial, ?_⟩
  simp only [TF.at_, RV.at_]
  exact ⟨b, 0, by rw [hv, hg], hb, hc⟩
 ·exact h.facts t' f hf'
theorem zrq (hs : SatE B N S a w k g) : ∀ {xs : List Operand} {vs : List RV}, oprs S xs = some vs -> RV.partsAt w k vs (xs.map a.eval)
 | [], vs, h => by simp only [oprs] at h; cases h; rfl
 | x :: xs, vs, h => by
  simp only [oprs] at h
  split at h
  ·rename_i f hf
   split at h
   ·rename_i v vs' hv hvs
    cases h
    simp only [List.map_cons, RV.partsAt]
    exact ⟨_, _, rfl, zgt hs hv (zal hs hf).2, zrq hs hvs⟩
   ·cases h
  ·cases h
theorem Vstep.mkfun {α : Type} (arg : α -> RV) (D : α -> Prop) (q : α -> Bool) {f : FuncId} {cap : Array Operand} {rvs : List RV} {K : St -> Prop} (hop : o.op = .makeFunc (.func f) #[] cap) (hc : oprs S cap.toList = some rvs)
  (hg : ∀ x, D x -> zae P f (arg x :: rvs) (.r (.b (q x)))) (hK : newK S o.dst (.r (.s (cloS P arg D q))) none K) : Vstep P S o K := by
 rw [zco] at hK
 refine Vstep.one (λ B N a w k Q ⟨g, hs⟩ hd => ?_) hK
 have hp := zrq hs hc
 refine zb0 (v := .func (.func f) #[] (cap.map a.eval)) (w' := w) (by simp [execOp, hop, Instr.makeFunc]) ⟨k, g, hs.put hd trivial ?_⟩
 simp only [TF.at_, RV.at_]
 exact ⟨f, rvs, _, rfl, by simpa using hp, hg⟩
def entsAt (w : World) (k : Kp) (ents : List (Int × RV)) (es : List MapEntry) : Prop := es.length = ents.length /\ ∀ (j : Nat) (x : Int × RV) (e : MapEntry), ents[j]? = some x -> es[j]? = some e -> e.key = .int .i64 x.1 /\ x.2.at_ w k e.val
theorem entsAt.mono {w' : World} {k' : Kp} (h : Le w k w' k') {ents : List (Int × RV)} {es : List MapEntry} (he : entsAt w k ents es) : entsAt w' k' ents es :=
 ⟨he.1, λ j x e h1 h2 => ⟨(he.2 j x e h1 h2).1, RV.mono h _ _ (he.2 j x e h1 h2).2⟩⟩
def stampE (es : Array MapEntry) (c : Nat) : Prop := (∀ x ∈ es.toList, x.born < c) /\ (es.toList.map (·.born)).Nodup /\ (es.toList.map (·.key)).Nodup
theorem stampE.nil : stampE #[] 0 := ⟨λ x h => by simp at h, by simp, by simp⟩
theorem stampE.push {es : Array MapEntry} {c : Nat} {key val : Value} (h : stampE es c) (hk : ∀ x ∈ es.toList, x.key ≠ key) : stampE (es.push { key := key, val := val, born := c }) (c + 1) := by
 refine ⟨λ x hx => ?_, ?_, ?_⟩
 ·rw [Array.toList_push] at hx
  rcases List.mem_append.1 hx with hx | hx
  ·have := h.1 x hx; omega
  ·rw [List.mem_singleton.1 hx]; exact Nat.lt_succ_self _
 ·rw [Array.toList_push, List.map_append, List.nodup_append]
  refine ⟨h.2.1, by simp, λ x hx y hy e => ?_⟩
  obtain ⟨z, hz, rfl⟩ := List.mem_map.1 hx
  have := h.1 z hz
  simp at hy
  omega
 ·rw [Array.toList_push, List.map_append, List.nodup_append]
  refine ⟨h.2.2, by simp, λ x hx y hy e => ?_⟩
  obtain ⟨z, hz, rfl⟩ := List.mem_map.1 hx
  simp at hy
  exact hk z hz (e.trans hy)
def mapS (ents : List (Int × RV)) : Stable where
 at_ w k v := (v = .map none /\ ents = []) \/ ∃ b es c, v = .map (some b) /\ b < w.heap.size /\ 0 < k b /\ w.heap[b]? = some (.map es c) /\ entsAt w k ents es.toList /\ stampE es c
 mono := by
  rintro w k w' k' v h (h1 | ⟨b, es, c, e, hb, hk, hh, he, hst⟩)
  ·exact .inl h1
  ·exact .inr ⟨b, es, c, e, Nat.lt_of_lt_of_le hb h.size, Nat.lt_of_lt_of_le hk (h.keep b hb), h.map b hb hk es c hh, he.mono h, hst⟩
 one := by
  rintro w k v (⟨rfl, _⟩ | ⟨b, es, c, rfl, _⟩) <;> rfl
def mapO (ents : List (Int × RV)) : GOw where
 at_ w k vb := ∃ b es c, vb = (.map (some b), some b) /\ w.heap[b]? = some (.map es c) /\ k b = 0 /\ entsAt w k ents es.toList /\ stampE es c
 mono := by
  rintro w k w' k' vb h hb ⟨b, es, c, rfl, hh, hk, he, hst⟩
  have := hb b rfl
  exact ⟨b, es, c, rfl, this.1.trans hh, this.2.trans hk, he.mono h, hst⟩
 one := by rintro w k vb ⟨b, es, c, rfl, _⟩; rfl
def zch : List (Int × RV) -> Int -> Option RV
 | [], _ => none
 | (m, r) :: l, n => if m = n then some r else zch l n
theorem zsn : ∀ {ents : List (Int × RV)} {es : List MapEntry} {n : Int}, entsAt w k ents es -> zch ents n = none -> ∀ x ∈ es, x.key ≠ .int .i64 n
 | [], [], n, _, _, x, hx => by cases hx
 | [], e :: es, n, h, _, x, hx => by have := h.1; simp at this
 | x :: ents, [], n, h, _, y, hy => by cases hy
 | (m, r) :: ents, e :: es, n, h, hm, x, hx => by
  obtain ⟨h1, h2⟩ := h.2 0 (m, r) e (by simp) (by simp)
  simp only [zch] at hm
  split at hm
  ·cases hm
  ·rename_i hne
   rcases List.mem_cons.1 hx with rfl | hx
   ·rw [h1]
    intro e'
    simp at e'
    exact hne e'
   ·exact zsn ⟨by have := h.1; simpa using this, λ j x e h1 h2 => h.2 (j + 1) x e (by simpa using h1) (by simpa using h2)⟩ hm x hx
theorem zn1 {kd : IntKind} {n : Int} : ∀ {ents : List (Int × RV)} {es : List MapEntry} (i : Nat), entsAt w k ents es ->
  ∃ res, Instr.findNow (.int kd) (.int .i64 n) es i = some res /\ match zch ents n with
   | some r => ∃ j v, res = some (j, v) /\ r.at_ w k v
   | none => res = none
 | [], [], i, _ => ⟨none, rfl, rfl⟩
 | [], e :: es, i, h => by have := h.1; simp at this
 | x :: ents, [], i, h => by have := h.1; simp at this
 | (m, r) :: ents, e :: es, i, h => by
  obtain ⟨h1, h2⟩ := h.2 0 (m, r) e (by simp) (by simp)
  simp only [Instr.findNow, h1, Instr.sameNow, if_true, zch]
  by_cases hm : m = n
  ·rw [if_pos hm]
   subst hm
   exact ⟨some (i, e.val), by simp, i, e.val, rfl, h2⟩
  ·rw [if_neg hm]
   have : (n == m) = false := by simp; omega
   rw [this]
   simp only
   exact zn1 (i + 1) ⟨by have := h.1; simpa using this, λ j x e h1 h2 => h.2 (j + 1) x e (by simpa using h1) (by simpa using h2)⟩
theorem zig {kt : TypeId} {n : Int} {ents : List (Int × RV)} {es : List MapEntry} (hk : P.underlying kt = some (.int .i64)) (he : entsAt w k ents es) :
  ∃ res, (Instr.findKey kt (.int .i64 n) es).run P w = .ok res w /\ match zch ents n with
   | some r => ∃ j v, res = some (j, v) /\ r.at_ w k v
   | none => res = none := by
 obtain ⟨res, h1, h2⟩ := zn1 (kd := .i64) (n := n) 0 he
 exact ⟨res, by simp [Instr.findKey, run_underlying hk w, h1], h2⟩
theorem zu6 {kt : TypeId} {n : Int} {b : Bool} {m : Nat} (hk : P.underlying kt = some (.int .i64)) : (Instr.checkKey b (m + 1) kt (.int .i64 n)).run P w = .ok () w := by
 simp [Instr.checkKey, run_underlying hk w]
theorem zfv {kt : TypeId} {n : Int} {b : Bool} (hk : P.underlying kt = some (.int .i64)) : (Instr.checkKey b 10000 kt (.int .i64 n)).run P w = .ok () w := zu6 (m := 9999) hk
theorem zi3 {t kt et : TypeId} {v : Value} {n : Int} {ok : Bool} {ents : List (Int × RV)} {z : Value} {zr : RV} (hu : P.underlying t = some (.map kt et)) (hk : P.underlying kt = some (.int .i64)) (hz : (P.info? et).bind (·.zero) = some z) (hzr : zr.at_ w k z)
  (hv : (mapS ents).at_ w k v) : ∃ u b, (Instr.lookup t v (.int .i64 n) ok).run P w = .ok (if ok then .tuple #[u, .bool b] else u) w /\ match zch ents n with
   | some r => r.at_ w k u /\ b = true
   | none => zr.at_ w k u /\ b = false := by
 obtain ⟨i, hi, hz⟩ := Option.bind_eq_some_iff.1 hz
 have zv : (zeroValue et).run P w = .ok z w := by simp [zeroValue, typeInfo, hi, hz]
 rcases hv with ⟨rfl, rfl⟩ | ⟨b, es, c, rfl, _, _, hh, he, _⟩
 ·refine ⟨z, false, ?_, hzr, rfl⟩
  obtain ⟨res, h1, h2⟩ := zig (n := n) (k := k) hk (show entsAt w k [] [] from ⟨rfl, λ j x e h => by simp at h⟩)
  simp only [zch] at h2
  subst h2
  simp [Instr.lookup, run_underlying hu w, zfv hk, h1, zv]
 ·obtain ⟨res, h1, h2⟩ := zig (n := n) hk he
  cases hm : zch ents n with
  | none =>
   rw [hm] at h2
   simp only at h2
   subst h2
   exact ⟨z, false, by simp [Instr.lookup, run_underlying hu w, zfv hk, h1, zv, hh, getObj, Sem.run], hzr, rfl⟩
  | some r =>
   rw [hm] at h2
   obtain ⟨j, u, rfl, hr⟩ := h2
   exact ⟨u, true, by simp [Instr.lookup, run_underlying hu w, zfv hk, h1, hh, getObj, Sem.run], hr, rfl⟩
theorem Vstep.look2 {t kt et : TypeId} {x y : Operand} {n : Int} {ents : List (Int × RV)} {z : Value} {K : St -> Prop} (zr : RV) (hop : o.op = .lookup t x y true) (hx : opr S x = some (.r (.s (mapS ents)))) (hy : opr S y = some (.r (.i .i64 n)))
  (hu : P.underlying t = some (.map kt et)) (hk : P.underlying kt = some (.int .i64)) (hz : (P.info? et).bind (·.zero) = some z) (hzr : ∀ w k, zr.at_ w k z)
  (h1 : ∀ r, zch ents n = some r -> newK S o.dst (.r (.tu [r, .b true])) none K) (h0 : zch ents n = none -> newK S o.dst (.r (.tu [zr, .b false])) none K) : Vstep P S o K := by
 simp only [zco] at h1 h0
 cases hm : zch ents n with
 | some r =>
  refine Vstep.one (λ B N a w k Q ⟨g, hs⟩ hd => ?_) (h1 r hm)
  have hv := (zal hs hx).2
  have hn := (zal hs hy).2
  simp only [TF.at_, RV.at_] at hv hn
  obtain ⟨u, b, hr, h2⟩ := zi3 (n := n) (ok := true) hu hk hz (hzr w k) hv
  rw [hm] at h2
  refine zb0 (v := .tuple #[u, .bool b]) (w' := w) (by simp [execOp, hop, hn, hr]) ⟨k, g, hs.put hd trivial ?_⟩
  simp only [TF.at_, RV.at_]
  exact ⟨_, rfl, by simp only [RV.partsAt]; exact ⟨_, _, rfl, h2.1, _, _, rfl, by simp [RV.at_, h2.2], rfl⟩⟩
 | none =>
  refine Vstep.one (λ B N a w k Q ⟨g, hs⟩ hd => ?_) (h0 hm)
  have hv := (zal hs hx).2
  have hn := (zal hs hy).2
  simp only [TF.at_, RV.at_] at hv hn
  obtain ⟨u, b, hr, h2⟩ := zi3 (n := n) (ok := true) hu hk hz (hzr w k) hv
  rw [hm] at h2
  refine zb0 (v := .tuple #[u, .bool b]) (w' := w) (by simp [execOp, hop, hn, hr]) ⟨k, g, hs.put hd trivial ?_⟩
  simp only [TF.at_, RV.at_]
  exact ⟨_, rfl, by simp only [RV.partsAt]; exact ⟨_, _, rfl, h2.1, _, _, rfl, by simp [RV.at_, h2.2], rfl⟩⟩
theorem Vstep.look1 {t kt et : TypeId} {x y : Operand} {n : Int} {ents : List (Int × RV)} {z : Value} {K : St -> Prop} (zr : RV) (hop : o.op = .lookup t x y false) (hx : opr S x = some (.r (.s (mapS ents)))) (hy : opr S y = some (.r (.i .i64 n)))
  (hu : P.underlying t = some (.map kt et)) (hk : P.underlying kt = some (.int .i64)) (hz : (P.info? et).bind (·.zero) = some z) (hzr : ∀ w k, zr.at_ w k z)
  (h1 : ∀ r, zch ents n = some r -> newK S o.dst (.r r) none K) (h0 : zch ents n = none -> newK S o.dst (.r zr) none K) : Vstep P S o K := by
 simp only [zco] at h1 h0
 cases hm : zch ents n with
 | some r =>
  refine Vstep.one (λ B N a w k Q ⟨g, hs⟩ hd => ?_) (h1 r hm)
  have hv := (zal hs hx).2
  have hn := (zal hs hy).2
  simp only [TF.at_, RV.at_] at hv hn
  obtain ⟨u, b, hr, h2⟩ := zi3 (n := n) (ok := false) hu hk hz (hzr w k) hv
  rw [hm] at h2
  exact zb0 (v := u) (w' := w) (by simp [execOp, hop, hn, hr]) ⟨k, g, hs.put hd trivial h2.1⟩
 | none =>
  refine Vstep.one (λ B N a w k Q ⟨g, hs⟩ hd => ?_) (h0 hm)
  have hv := (zal hs hx).2
  have hn := (zal hs hy).2
  simp only [TF.at_, RV.at_] at hv hn
  obtain ⟨u, b, hr, h2⟩ := zi3 (n := n) (ok := false) hu hk hz (hzr w k) hv
  rw [hm] at h2
  exact zb0 (v := u) (w' := w) (by simp [execOp, hop, hn, hr]) ⟨k, g, hs.put hd trivial h2.1⟩
theorem Vstep.max {x y : Operand} {ts : Array TypeId} {m n : Int} {K : St -> Prop} (hop : o.op = .call { callee := .builtin .max, args := #[x, y], argTypes := ts }) (hx : opr S x = some (.r (.i .i64 m))) (hy : opr S y = some (.r (.i .i64 n)))
  (hK : newK S o.dst (.r (.i .i64 (if m < n then n else m))) none K) : Vstep P S o K := by
 rw [zco] at hK
 refine Vstep.one (λ B N a w k Q ⟨g, hs⟩ hd => ?_) hK
 have hv := (zal hs hx).2
 have hn := (zal hs hy).2
 simp only [TF.at_, RV.at_] at hv hn
 refine zb0 (v := .int .i64 (if m < n then n else m)) (w' := w) ?_ ⟨k, g, hs.put hd trivial (by simp [TF.at_, RV.at_])⟩
 simp [execOp, hop, resolve, invoke, builtin, hv, hn, Builtin.max_, Builtin.max2]
theorem Vstep.mapNew {t kt et : TypeId} {x y z : Operand} {id : Nat} {n : Int} {ents : List (Int × RV)} {f : TF} {r : RV} {K : St -> Prop} (hop : o.op = .mapUpdate t x y z) (hx : opr S x = some (.own id)) (ho : oget S.O id = some (.gen (mapO ents))) (hy : opr S y = some (.r (.i .i64 n))) (hz : opr S z = some f) (hr : S.rv f = some r)
  (hu : P.underlying t = some (.map kt et)) (hk : P.underlying kt = some (.int .i64)) (hm : zch ents n = none) (hK : setK S id (some (.gen (mapO (ents ++ [(n, r)])))) o.dst K) : Vstep P S o K := by
 rw [zd3] at hK
 refine Vstep.one (λ B N a w k Q ⟨g, hs⟩ hd => ?_) hK
 have hv := (zal hs hx).2
 have hn := (zal hs hy).2
 have hzv := zgt hs hr (zal hs hz).2
 simp only [TF.at_, RV.at_] at hv hn
 obtain ⟨_, _, hat, _⟩ := hs.owns id _ ho
 simp only [Ow.at_] at hat
 obtain ⟨b, es, c, e, hh, hkb, he, hst⟩ := hat
 obtain ⟨res, h1, h2⟩ := zig (n := n) hk he
 rw [hm] at h2
 simp only at h2
 subst h2
 rw [e] at hv
 have hb : b < w.heap.size := (Array.getElem?_eq_some_iff.1 hh).1
 let ob : Obj := .map (es.push { key := .int .i64 n, val := a.eval z, born := c }) (c + 1)
 let w' : World := { w with heap := w.heap.setIfInBounds b ob }
 have hrun : (Instr.mapUpdate t (.map (some b)) (.int .i64 n) (a.eval z)).run P w = .ok () w' := by
  simp [Instr.mapUpdate, run_underlying hu w, zfv hk, h1, hh, getObj, setObj, Sem.run, w', ob]
 have hw : Wrote w k w' k (some b) := ⟨rfl, rfl, rfl, by simp [w'], λ x _ hne => ⟨by simp only [w']; rw [Array.getElem?_setIfInBounds_ne (λ h => hne (by rw [h]))], rfl⟩, λ x hx => by
  cases hx
  exact ⟨Nat.le_refl _, λ o ho => by omega, λ h => by omega⟩⟩
 have hnew : (Ow.gen (mapO (ents ++ [(n, r)]))).at_ w' k g (g id) := by
  simp only [Ow.at_]
  refine ⟨b, _, c + 1, e, by simp only [w', ob]; rw [Array.getElem?_setIfInBounds_self_of_lt hb], hkb, ?_, hst.push (zsn he hm)⟩
  have he' := he.mono hw.le
  refine ⟨by simp [he'.1], λ j x en hj hen => ?_⟩
  rw [Array.toList_push] at hen
  rcases Nat.lt_or_ge j ents.length with hlt | hge
  ·rw [List.getElem?_append_left hlt] at hj
   rw [List.getElem?_append_left (by rw [he'.1]; exact hlt)] at hen
   exact he'.2 j x en hj hen
  ·rw [List.getElem?_append_right hge] at hj
   rw [List.getElem?_append_right (by rw [he'.1]; exact hge), he'.1] at hen
   have : j - ents.length = 0 := by have := (List.getElem?_eq_some_iff.1 hj).1; simp at this; omega
   rw [this] at hj hen
   simp at hj hen
   subst hj; subst hen
   exact ⟨rfl, RV.mono hw.le _ _ hzv⟩
 exact zlz (w' := w') (by simp [execOp, hop, hv, hn, hrun]) ⟨k, g, (hs.redo (ow' := .gen (mapO (ents ++ [(n, r)]))) ho (by rw [e]) hw trivial hnew).drop⟩
theorem Yld.mapMk {t : TypeId} (hop : o.op = .makeMap t none) : Yld P S o (S.new o.dst (.own S.nx) (some (.gen (mapO [])))) := by
 intro B N a w k Q ⟨g, hs⟩ hd
 refine zb0 (v := .map (some w.heap.size)) (w' := w.alloc (.map #[] 0)) (by simp [execOp, hop, Instr.makeMap, newObj]; rfl) ⟨kset k w.heap.size 0, _, hs.make hd (zaw w _) (λ b hb => zc7 b hb) (vb := (.map (some w.heap.size), some w.heap.size)) (o := .gen (mapO [])) trivial ?_ λ b hb => ?_⟩
 ·simp only [Ow.at_]
  exact ⟨w.heap.size, #[], 0, rfl, heap_alloc_new w _, zcx, ⟨rfl, λ j x e h => by simp at h⟩, stampE.nil⟩
 ·cases hb
  exact ⟨Nat.le_refl _, by simp⟩
theorem zq3 {id j i : Nat} {ents : List (Int × RV)} {cells : List TF} (ho : oget S.O id = some (.gen (mapO ents))) (hj : oget S.O j = some (.box cells)) (hi : cells[i]? = some (.own id)) :
  Sub S ⟨S.F, (j, some (.box (cells.set i (.r (.s (mapS ents)))))) :: (id, none) :: S.O, S.nx⟩ := by
 rintro B N a w k ⟨g, hs⟩
 obtain ⟨_, _, hat, hblk⟩ := hs.owns id _ ho
 simp only [Ow.at_] at hat
 obtain ⟨b, es, c, e, hh, hkb, he, hst⟩ := hat
 have hb : b < w.heap.size := (Array.getElem?_eq_some_iff.1 hh).1
 have hw : Wrote w k w (kset k b 1) (some b) := ⟨rfl, rfl, rfl, Nat.le_refl _, λ x _ hne => ⟨rfl, by simp [kset, show x ≠ b from λ h => hne (by rw [h])]⟩, λ x hx => by
  cases hx
  exact ⟨by omega, λ _ _ => rfl, λ h => by omega⟩⟩
 have h := hs.wrote hw (id := some id) ⟨⟨_, ho⟩, by rw [e]⟩
 have hjid : j ≠ id := λ hji => by rw [hji, ho] at hj; cases hj
 have hj' : oget (S.strike (some id)).O j = some (.box cells) := by
  simp only [St.strike, St.set, oget]
  split
  ·rename_i hb'; exact absurd (Nat.eq_of_beq_eq_true hb').symm hjid
  ·exact hj
 obtain ⟨q1, q2, q3, q4⟩ := h.owns j _ hj'
 have hnew : (Ow.box (cells.set i (.r (.s (mapS ents))))).at_ w (kset k b 1) g (g j) := by
  simp only [Ow.at_] at q3 ⊢
  obtain ⟨bj, cur, ty, ej, hhj, hkj, hsz, hc⟩ := q3
  refine ⟨bj, cur, ty, ej, hhj, hkj, by rw [List.length_set]; exact hsz, λ x f u hf hu => ?_⟩
  by_cases hx : i = x
  ·subst hx
   have hil := (List.getElem?_eq_some_iff.1 hi).1
   rw [List.getElem?_set_self hil] at hf
   cases hf
   have h0 := hc i _ u hi hu
   refine ⟨h0.1, ?_⟩
   have h1 := h0.2
   simp only [TF.at_] at h1
   rw [e] at h1
   simp only [TF.at_, RV.at_]
   exact .inr ⟨b, es, c, h1, hb, by rw [zcx]; omega, hh, he.mono hw.le, hst⟩
  ·rw [List.getElem?_set_ne hx] at hf
   exact hc x f u hf hu
 have hlt : (Ow.box (cells.set i (.r (.s (mapS ents))))).lt S.nx := λ f hf => by
  rcases List.mem_or_eq_of_mem_set hf with hf | rfl
  ·exact q2 f hf
  ·trivial
 have up : ∀ x o', oget ((j, some (.box (cells.set i (.r (.s (mapS ents)))))) :: (id, none) :: S.O) x = some o' -> (x = j /\ o' = .box (cells.set i (.r (.s (mapS ents))))) \/ (j ≠ x /\ oget (S.strike (some id)).O x = some o') := λ x o' h => by
  rcases za2 h with ⟨rfl, e⟩ | ⟨hne, h⟩
  ·cases e; exact .inl ⟨rfl, rfl⟩
  ·exact .inr ⟨hne, h⟩
 refine ⟨kset k b 1, g, h.size, h.defers, h.keep, h.kk, h.facts, λ x o' hx => ?_, λ x y o1 o2 b' hx hy hne hbx => ?_⟩
 ·rcases up x o' hx with ⟨rfl, rfl⟩ | ⟨_, hx⟩
  ·exact ⟨q1, hlt, hnew, q4⟩
  ·exact h.owns x o' hx
 ·have old : ∀ x ox, oget ((j, some (.box (cells.set i (.r (.s (mapS ents)))))) :: (id, none) :: S.O) x = some ox -> ∃ ox', oget (S.strike (some id)).O x = some ox' := λ x ox hx => by
   rcases up x ox hx with ⟨rfl, _⟩ | ⟨_, hx⟩
   ·exact ⟨_, hj'⟩
   ·exact ⟨ox, hx⟩
  obtain ⟨p1, hp1⟩ := old x o1 hx
  obtain ⟨p2, hp2⟩ := old y o2 hy
  exact h.apart x y p1 p2 b' hp1 hp2 hne hbx
end
end
section
section
variable {P : Program} {T : TT} {B : Bs} {N : Nat} {S : St} {a : Act} {w : World} {k : Kp} {g : Env} {o : Oper} {Q : Exit -> Act -> World -> Prop}
theorem zhd {m n : Nat} (h : m ≠ n) : Nat.beq m n = false := by
 cases hb : Nat.beq m n
 ·rfl
 ·exact absurd (Nat.eq_of_beq_eq_true hb) h
theorem wpl {ops : Array Oper} {rest : List Oper} (hg : o.guard = none) (h : o.wp P a w (wpList P ops Q rest) Q) : wpList P ops Q (o :: rest) a w := by
 unfold wpList; rw [if_pos (by simp [Region.wanted, hg])]; exact .inl h
theorem zzu (hs : SatE B N S a w k g) {id : Nat} {ents : List (Int × RV)} (ho : oget S.O id = some (.gen (mapO ents))) : ∃ b, g id = (.map (some b), some b) := by
 have := (hs.owns id _ ho).2.2.1
 simp only [Ow.at_] at this
 obtain ⟨b, es, c, e, _⟩ := this
 exact ⟨b, e⟩
theorem z6d (hT : TOk P T) {id : Nat} {ops : Array Oper} {d0 d1 d2 d3 ta tb ts : Nat} {ti : TI} {fs : List (Nat × TypeId)} {o0 o1 o2 o3 o4 : Oper} (hops : ops = #[o0, o1, o2, o3, o4])
  (h0 : o0.op = .makeMap ta none /\ o0.dst = some d0 /\ o0.guard = none) (h1 : o1.op = .makeMap tb none /\ o1.dst = some d1 /\ o1.guard = none)
  (h2 : o2.op = .build ts #[(0, .tmp d0), (1, .tmp d1)] /\ o2.dst = some d2 /\ o2.guard = none) (h3 : o3.op = .alloc ts /\ o3.dst = some d3 /\ o3.guard = none)
  (h4 : o4.op = .store ts (.tmp d3) (.tmp d2) /\ o4.dst = none /\ o4.guard = none) (hti : tget T ts = some ti) (hk : ti.k = .struct fs) (hsz : ti.sz = 2) (hzero : ti.zero = [.map none, .map none])
  (hp0 : zee T fs 0 = some (0, 1)) (hp1 : zee T fs 1 = some (1, 1)) (hne : d0 ≠ d1 /\ d0 ≠ d2 /\ d1 ≠ d2 /\ d2 ≠ d3) {QS : Exit -> St -> Prop}
  (hK : QS .normal ⟨(d3, .own (S.nx + 2)) :: (d2, .r .any) :: (d1, .own (S.nx + 1)) :: (d0, .own S.nx) :: S.F, (S.nx + 2, some (.box [.own S.nx, .own (S.nx + 1)])) :: (S.nx + 2, some (.box [.r (ofC (.map none)), .r (ofC (.map none))])) :: (S.nx + 1, some (.gen (mapO []))) :: (S.nx, some (.gen (mapO []))) :: S.O, S.nx + 3⟩) :
  Vcode P (.region id ops false) S QS := by
 subst hops
 refine ⟨λ B N a w k Q' hs hd hQ => wp_region_list ?_⟩
 obtain ⟨h0, h0d, h0g⟩ := h0
 obtain ⟨h1, h1d, h1g⟩ := h1
 obtain ⟨h2, h2d, h2g⟩ := h2
 obtain ⟨h3, h3d, h3g⟩ := h3
 obtain ⟨h4, h4d, h4g⟩ := h4
 have hdd : d0 < N /\ d1 < N /\ d2 < N /\ d3 < N := by
  simp [zcn, h0d, h1d, h2d, h3d, h4d, Nat.blt] at hd
  omega
 obtain ⟨l0, l1, l2, l3⟩ := hdd
 refine wpl h0g (Oper.wp_mono ?_ (Yld.mapMk h0 B N a w k Q' hs λ d e => by rw [h0d] at e; cases e; exact l0))
 rintro a1 w1 ⟨k1, hs1⟩
 refine wpl h1g (Oper.wp_mono ?_ (Yld.mapMk h1 B N a1 w1 k1 Q' hs1 λ d e => by rw [h1d] at e; cases e; exact l1))
 rintro a2 w2 ⟨k2, g2, hs2⟩
 simp only [St.new, St.mk_, h0d, h1d] at hs2
 obtain ⟨b0, e0⟩ := zzu hs2 (id := S.nx) (ents := []) (by
  have : Nat.beq (S.nx + 1) S.nx = false := zhd (by omega)
  simp [oget, this])
 obtain ⟨b1, e1⟩ := zzu hs2 (id := S.nx + 1) (ents := []) (by simp [oget])
 have v1 : a2.tmps.getD d1 undef = .map (some b1) := by
  have := (hs2.facts d1 (.own (S.nx + 1)) (by simp [fget])).2
  simp only [TF.at_] at this
  rw [this, e1]
 have v0 : a2.tmps.getD d0 undef = .map (some b0) := by
  have hb : Nat.beq d1 d0 = false := zhd λ h => hne.1 h.symm
  have := (hs2.facts d0 (.own S.nx) (by simp [fget, hb])).2
  simp only [TF.at_] at this
  rw [this, e0]
 obtain ⟨q, hq⟩ := hT.get hti
 obtain ⟨i, hi, hisz, _, z, hz, hzc⟩ := q.info
 rw [hq] at hi
 have hzcs : z.cells = #[.map none, .map none] := by apply Array.ext'; rw [hzc, hzero]
 have hbuild : (execOp a2.eval o2).run P w2 = .ok (.value (.agg #[.map (some b0), .map (some b1)])) w2 := by
  have ev0 : a2.eval (.tmp d0) = .map (some b0) := by rw [<- v0]; simp [Act.eval]
  have ev1 : a2.eval (.tmp d1) = .map (some b1) := by rw [<- v1]; simp [Act.eval]
  have := zt2 (w := w2) (parts := #[(0, .map (some b0)), (1, .map (some b1))]) (vs := #[.map (some b0), .map (some b1)]) hT q hq hk hi hz (by
   rw [hzcs]
   simp [Instr.fill, hp0, hp1, Value.cells])
  simp [execOp, h2, ev0, ev1, this]
 refine wpl h2g (zb0 hbuild ?_)
 have hs3 := hs2.put (dst := o2.dst) (λ d e => by rw [h2d] at e; cases e; exact l2) (f := .r (.x (.agg #[.map (some b0), .map (some b1)]))) (v := .agg #[.map (some b0), .map (some b1)]) trivial (by simp [TF.at_, RV.at_])
 generalize hS3 : St.put _ o2.dst _ = S3 at hs3
 generalize ha3 : a2.put o2.dst _ = a3 at hs3 ⊢
 obtain ⟨k4, hext, hkk, ob, _, hlt4, hat4, hblk4⟩ := zia hs3 (cells := ti.zero.map λ v => .r (ofC v)) (cs := z.cells) (t := ts) (by simp [TF.lt]) (by rw [<- Array.length_toList, hzc]; simp) (λ j f u hf hu => by
  have hl := zpx (w := w2) (k := k2) q hzc
  rw [RV.listAt_iff] at hl
  rw [List.getElem?_map] at hf
  cases hv : ti.zero[j]? with
  | none => simp [hv] at hf
  | some v =>
   simp only [hv, Option.map_some, Option.some.injEq] at hf
   subst hf
   exact hl.2 j (ofC v) u (by simp [hv]) (by simpa using hu))
 refine wpl h3g (zb0 (v := .pointer (some ⟨w2.heap.size, 0, none⟩)) (w' := w2.alloc (.cells z.cells ts)) (by simp [execOp, h3, Instr.alloc, zeroValue, typeInfo, hi, hz, newVar, newRow]) ?_)
 have hs4 := hs3.make (dst := o3.dst) (λ d e => by rw [h3d] at e; cases e; exact l3) hext hkk (vb := (.pointer (some ⟨w2.heap.size, 0, none⟩), ob)) hlt4 hat4 hblk4
 have hob : ob = some w2.heap.size := by
  simp only [Ow.at_] at hat4
  obtain ⟨b, cur, t, e, _⟩ := hat4
  simp only [Prod.mk.injEq, Value.pointer.injEq, Option.some.injEq, Addr.mk.injEq] at e
  rw [e.2, e.1.1]
 subst hob
 have hn3 : S3.nx = S.nx + 2 := by rw [<- hS3, h2d]; rfl
 have hF3 : S3.F = (d2, .r (.x (.agg #[.map (some b0), .map (some b1)]))) :: (d1, .own (S.nx + 1)) :: (d0, .own S.nx) :: S.F := by rw [<- hS3, h2d]; rfl
 have hO3 : S3.O = (S.nx + 1, some (.gen (mapO []))) :: (S.nx, some (.gen (mapO []))) :: S.O := by rw [<- hS3, h2d]; rfl
 simp only [St.mk_, h3d, hn3, hF3, hO3, hzero, List.map_cons, List.map_nil] at hs4
 generalize ha4 : a3.put (some d3) (Value.pointer (some ⟨w2.heap.size, 0, none⟩)) = a4 at hs4
 have hbeq : Nat.beq d3 d2 = false := zhd λ h => hne.2.2.2 h.symm
 have v2 : a4.eval (.tmp d2) = .agg #[.map (some b0), .map (some b1)] := by
  have := (hs4.facts d2 (.r (.x (.agg #[.map (some b0), .map (some b1)]))) (by simp [fget, hbeq])).2
  simp only [TF.at_, RV.at_] at this
  simp only [Act.eval]
  simpa using this
 have v3 : a4.eval (.tmp d3) = .pointer (some ⟨w2.heap.size, 0, none⟩) := by
  have := (hs4.facts d3 (.own (S.nx + 2)) (by simp [fget])).2
  simp only [TF.at_, Env.set_eq] at this
  simp only [Act.eval]
  simpa using this
 have g0 : (Env.set g2 (S.nx + 2) (.pointer (some ⟨w2.heap.size, 0, none⟩), some w2.heap.size)) S.nx = (.map (some b0), some b0) := by rw [Env.set_lt _ (by omega), e0]
 have g1 : (Env.set g2 (S.nx + 2) (.pointer (some ⟨w2.heap.size, 0, none⟩), some w2.heap.size)) (S.nx + 1) = (.map (some b1), some b1) := by rw [Env.set_lt _ (by omega), e1]
 obtain ⟨w5, hr5, hs5⟩ := zm8 hs4 q hq (id := S.nx + 2) (b := w2.heap.size) (off := 0) (cells := [.r (ofC (.map none)), .r (ofC (.map none))]) (new := [.own S.nx, .own (S.nx + 1)]) (v := .agg #[.map (some b0), .map (some b1)]) (by simp [oget]) (by rw [Env.set_eq]) (by simp [hsz]) (by simp [hsz])
  (by simp [TF.lt]; omega) ⟨by simp [Value.cells], λ j f u hf hu => by
   simp only [Value.cells] at hu
   rcases j with _ | _ | j
   ·simp at hf hu; subst hf; subst hu; exact ⟨rfl, by simp only [TF.at_]; rw [g0]⟩
   ·simp at hf hu; subst hf; subst hu; exact ⟨rfl, by simp only [TF.at_]; rw [g1]⟩
   ·simp at hf⟩
 rw [h3d, ha4]
 refine wpl h4g (zlz (w' := w5) (by simp [execOp, h4, v2, v3, hr5]) ?_)
 rw [h4d]
 refine hQ .normal _ a4 w5 k4 hK ⟨Env.set g2 (S.nx + 2) (.pointer (some ⟨w2.heap.size, 0, none⟩), some w2.heap.size), hs5.size, hs5.defers, hs5.keep, hs5.kk, λ t f hf => ?_, ?_, ?_⟩
 ·rcases zb5 hf with ⟨rfl, rfl⟩ | ⟨hn1, hf⟩
  ·exact hs5.facts _ _ (by simp [St.set, fget])
  ·rcases zb5 hf with ⟨rfl, rfl⟩ | ⟨hn2, hf⟩
   ·exact ⟨trivial, by simp [TF.at_, RV.at_]⟩
   ·refine hs5.facts t f ?_
    have n1 : Nat.beq d3 t = false := zhd hn1
    have n2 : Nat.beq d2 t = false := zhd hn2
    simp only [St.set]
    rw [fget, n1, fget, n2]
    exact hf
 ·simpa [St.set, hsz] using hs5.owns
 ·simpa [St.set, hsz] using hs5.apart
end
end
section
section
variable {P : Program} {T : TT} {B : Bs} {N : Nat} {S : St} {a : Act} {w : World} {k : Kp} {g : Env} {o : Oper} {Q : Exit -> Act -> World -> Prop}
theorem chAt.blk {e : TypeId} {sz n : Nat} {cells : List RV} {pub : Bool} {u : Value} {ob : Option Nat} (h : chAt w k e sz n cells pub u ob) {b : Nat} (hb : ob = some b) : k b = (if pub then n * sz else 0) /\ (∃ cur, w.heap[b]? = some (.cells cur e (0, 0))) := by
 rcases h.2 with ⟨h, _⟩ | ⟨b', cap, cur, h, _, hh, _, _, _, h', _⟩
 ·rw [h] at hb; cases hb
 ·rw [h] at hb; cases hb; exact ⟨h', cur, hh⟩
end
end
end Go.Proofs.YtpdllgbfemnemaaGreat.Sx
