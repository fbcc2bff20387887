import Derived.Test.YtpdllgbfemnemaaGreatZSxO
import Derived.Deep.LoopGhost
namespace Go.Proofs.YtpdllgbfemnemaaGreat.Sx
open Go.RowKit

section
variable {P : Program} {T : TT} {B : Bs} {N : Nat} {S : St} {a : Act} {w : World} {k : Kp} {g : Env} {o : Oper} {Q : Exit → Act → World → Prop}

/-! ### Weaker states -/
def renv (ρ : List (Nat × Nat)) (g : Env) : Env := fun i => match rlook ρ i with
  | some j => g j
  | none => g i

theorem cvTF_at {ρ : List (Nat × Nat)} (hs : SatE B N S a w k g) {f f' : TF} {u : Value} (h : cvTF ρ S f f') (hf : f.at_ w k g u) : f'.at_ w k (renv ρ g) u := by
  cases f' with
  | r v =>
    unfold cvTF at h
    simp only at h
    split at h
    · simp [TF.at_, RV.at_]
    · split at h
      · rename_i v' hv
        exact h w k u (rv_at hs hv hf)
      · exact h.elim
  | own id =>
    simp only [cvTF] at h
    split at h
    · rename_i j i hj
      subst h
      simp only [TF.at_, renv, hj] at *
      exact hf
    · exact h.elim
  | adr id off =>
    simp only [cvTF] at h
    split at h
    · rename_i j i o hj
      obtain ⟨rfl, rfl⟩ := h
      simp only [TF.at_, renv, hj] at *
      exact hf
    · exact h.elim
theorem cvCells_at {ρ : List (Nat × Nat)} (hs : SatE B N S a w k g) : ∀ {cs ds : List TF} {us : List Value}, cvCells ρ S cs ds → AllAt (fun f u => u.oneCell' = true ∧ f.at_ w k g u) cs us → AllAt (fun f u => u.oneCell' = true ∧ f.at_ w k (renv ρ g) u) ds us
  | [], ds, us, h, hu => by simp only [cvCells] at h; subst h; exact ⟨hu.1, fun j f u hf => by simp at hf⟩
  | f :: cs, ds, us, h, hu => by
    simp only [cvCells] at h
    obtain ⟨f', ds', rfl, h1, h2⟩ := h
    cases us with
    | nil => have := hu.1; simp at this
    | cons u us =>
      have h0 := hu.2 0 f u (by simp) (by simp)
      have ih := cvCells_at hs h2 ⟨by simpa using hu.1, fun j f u hf hv => hu.2 (j + 1) f u (by simpa using hf) (by simpa using hv)⟩
      refine ⟨by simp [ih.1], fun j f2 v hf hv => ?_⟩
      cases j with
      | zero => simp at hf hv; subst hf; subst hv; exact ⟨h0.1, cvTF_at hs h1 h0.2⟩
      | succ j => exact ih.2 j f2 v (by simpa using hf) (by simpa using hv)
theorem factsOk_get {ρ : List (Nat × Nat)} : ∀ {F : List (Nat × TF)} {t : Nat} {f : TF}, factsOk ρ S F → fget F t = some f → (∃ f', fget S.F t = some f' ∧ cvTF ρ S f' f) ∧ (t, f) ∈ F
  | [], t, f, _, h => by simp [fget] at h
  | (u, f0) :: r, t, f, hok, h => by
    simp only [factsOk] at hok
    rcases fget_cons h with ⟨rfl, rfl⟩ | ⟨_, h⟩
    · refine ⟨?_, by simp⟩
      have := hok.1
      split at this
      · rename_i f' hf'; exact ⟨f', hf', this⟩
      · exact this.elim
    · have := factsOk_get hok.2 h
      exact ⟨this.1, List.mem_cons_of_mem _ this.2⟩
theorem ownsOk_get {ρ : List (Nat × Nat)} : ∀ {O : List (Nat × Option Ow)} {id : Nat} {o : Ow}, ownsOk ρ S O → oget O id = some o → (∃ j o', rlook ρ id = some j ∧ oget S.O j = some o' ∧ cvOw ρ S o' o) ∧ (id, some o) ∈ O
  | [], id, o, _, h => by simp [oget] at h
  | (u, o0) :: r, id, o, hok, h => by
    simp only [ownsOk] at hok
    rcases oget_cons h with ⟨rfl, rfl⟩ | ⟨_, h⟩
    · refine ⟨?_, by simp⟩
      have := hok.1
      split at this
      · rename_i o1 j he hj
        cases he
        split at this
        · rename_i o' ho'; exact ⟨j, o', hj, ho', this⟩
        · exact this.elim
      · exact this.elim
    · have := ownsOk_get hok.2 h
      exact ⟨this.1, List.mem_cons_of_mem _ this.2⟩
theorem ltB_lt {n : Nat} : ∀ {f : TF}, ltB n f = true → f.lt n
  | .r _, _ => trivial
  | .own id, h => by simp [ltB, Nat.blt] at h; simp [TF.lt]; omega
  | .adr id _, h => by simp [ltB, Nat.blt] at h; simp [TF.lt]; omega
theorem owLtB_lt {n : Nat} : ∀ {o : Ow}, owLtB n o = true → o.lt n
  | .box cells, h => fun f hf => ltB_lt (by simp [owLtB] at h; exact h f hf)
  | .ch .., _ => trivial
  | .gen _, _ => trivial
theorem rlook_mem : ∀ {ρ : List (Nat × Nat)} {i j : Nat}, rlook ρ i = some j → (i, j) ∈ ρ
  | [], i, j, h => by simp [rlook] at h
  | (u, f) :: r, i, j, h => by
    simp only [rlook] at h
    split at h
    · rename_i hb; cases h; rw [← Nat.eq_of_beq_eq_true hb]; simp
    · exact List.mem_cons_of_mem _ (rlook_mem h)
theorem nodupB_nodup : ∀ {l : List Nat}, nodupB l = true → l.Nodup
  | [], _ => List.nodup_nil
  | x :: r, h => by
    simp only [nodupB, Bool.and_eq_true, Bool.not_eq_true', List.any_eq_false] at h
    refine List.nodup_cons.2 ⟨fun hx => ?_, nodupB_nodup h.2⟩
    have := h.1 x hx
    simp at this
theorem pair_inj : ∀ {ρ : List (Nat × Nat)} {i i' j : Nat}, (ρ.map (·.2)).Nodup → (i, j) ∈ ρ → (i', j) ∈ ρ → i = i'
  | [], _, _, _, _, m, _ => by cases m
  | x :: r, i, i', j, hn, m, m' => by
    simp only [List.map_cons, List.nodup_cons] at hn
    rcases List.mem_cons.1 m with e | m1
    · rcases List.mem_cons.1 m' with e' | m1'
      · rw [← e] at e'; cases e'; rfl
      · exact absurd (by rw [← e]; exact List.mem_map.2 ⟨(i', j), m1', rfl⟩) hn.1
    · rcases List.mem_cons.1 m' with e' | m1'
      · exact absurd (by rw [← e']; exact List.mem_map.2 ⟨(i, j), m1, rfl⟩) hn.1
      · exact pair_inj hn.2 m1 m1'
theorem rlook_inj {ρ : List (Nat × Nat)} (hn : (ρ.map (·.2)).Nodup) {i i' j : Nat} (h : rlook ρ i = some j) (h' : rlook ρ i' = some j) : i = i' :=
  pair_inj hn (rlook_mem h) (rlook_mem h')

theorem Cvs.length : ∀ {cs ds : List RV}, Cvs cs ds → ds.length = cs.length
  | [], ds, h => by simp only [Cvs] at h; subst h; rfl
  | x :: cs, ds, h => by
    simp only [Cvs] at h
    obtain ⟨g, r, rfl, _, h⟩ := h
    simp [Cvs.length h]

theorem sub_of (ρ : List (Nat × Nat)) {S S' : St} (h0 : stOk ρ S' = true) (h1 : factsOk ρ S S'.F) (h2 : ownsOk ρ S S'.O) : Sub S S' := by
  intro B N a w k ⟨g, hs⟩
  simp only [stOk, Bool.and_eq_true, List.all_eq_true] at h0
  obtain ⟨⟨⟨hF, hO⟩, hn2⟩, _⟩ := h0
  refine ⟨k, renv ρ g, hs.size, hs.defers, hs.keep, hs.kk, fun t f hf => ?_, fun id o ho => ?_, fun i j o o' b hi hj hne hbi hbj => ?_⟩
  · obtain ⟨⟨f', hf', hc⟩, hm⟩ := factsOk_get h1 hf
    exact ⟨ltB_lt (hF _ hm), cvTF_at hs hc (hs.facts t f' hf').2⟩
  · obtain ⟨⟨j, o', hj, ho', hc⟩, hm⟩ := ownsOk_get h2 ho
    have hlt := hO _ hm
    obtain ⟨q1, q2, q3, q4⟩ := hs.owns j o' ho'
    have hren : renv ρ g id = g j := by simp [renv, hj]
    refine ⟨by have := hlt.1; simp [Nat.blt] at this; omega, owLtB_lt hlt.2, ?_, by rw [hren]; exact q4⟩
    rw [hren]
    cases o' with
    | box cs =>
      cases o with
      | box ds =>
        simp only [Ow.at_] at q3 ⊢
        obtain ⟨b, cur, t, e, hh, hk, hsz, hall⟩ := q3
        have hds := cvCells_at (us := cur.toList) hs hc ⟨by rw [Array.length_toList, hsz], fun j f u hf hu => hall j f u hf (by simpa using hu)⟩
        exact ⟨b, cur, t, e, hh, hk, by rw [← Array.length_toList, hds.1], fun j f u hf hu => hds.2 j f u hf (by simpa using hu)⟩
      | ch => exact hc.elim
      | gen => exact hc.elim
    | gen p =>
      cases o with
      | gen q => exact hc w k _ q3
      | box => exact hc.elim
      | ch => exact hc.elim
    | ch e sz n cs pub =>
      cases o with
      | box => exact hc.elim
      | gen => exact hc.elim
      | ch e' sz' n' ds pub' =>
        obtain ⟨rfl, rfl, rfl, rfl, hcs⟩ := hc
        simp only [Ow.at_] at q3 ⊢
        obtain ⟨r1, r2⟩ := q3
        have hlen : ds.length = cs.length := Cvs.length hcs
        refine ⟨by rw [hlen]; exact r1, ?_⟩
        rcases r2 with ⟨h0, r2 | ⟨hn, hp, b, o, e, hm, hb, hc⟩⟩ | ⟨b, cap, cur, e1, e2, hh, s1, s2, s3, s4, s5⟩
        · exact .inl ⟨h0, .inl r2⟩
        · exact .inl ⟨h0, .inr ⟨hn, hp, b, o, e, hm, hb, hcs.cells hc⟩⟩
        · exact .inr ⟨b, cap, cur, e1, e2, hh, s1, s2, s3, s4, hcs.list s5⟩
  · obtain ⟨⟨i', oi, hi', hoi, _⟩, _⟩ := ownsOk_get h2 hi
    obtain ⟨⟨j', oj, hj', hoj, _⟩, _⟩ := ownsOk_get h2 hj
    simp only [renv, hi'] at hbi
    simp only [renv, hj'] at hbj
    refine hs.apart i' j' oi oj b hoi hoj (fun e => ?_) hbi hbj
    subst e
    exact hne (rlook_inj (nodupB_nodup hn2) hi' hj')

/-! ### Code -/
theorem vcg_sound (hm : P.follows .mixedOrders = true) (hT : TOk P T) : ∀ (c : Code) (S : St) (Q : Exit → St → Prop), vcg P T c S Q → CodeSem P c S Q
  | .skip, S, Q, h => fun B N a w k Q' hs _ hQ => wp_skip (hQ _ S a w k h hs)
  | .region id ops draw, S, Q, h => fun B N a w k Q' hs hd hQ => by
    have hN : ∀ o ∈ ops.toList, ∀ d, o.dst = some d → d < N := fun o ho d hod => by
      simp only [dstsOk, List.all_eq_true] at hd
      have h1 := hd o ho
      simp only [hod] at h1
      exact Nat.le_of_ble_eq_true h1
    cases draw with
    | false =>
      simp only [vcg] at h
      split at h
      · have := runv_sound (Q := Q') hT hN (fun _ h => h) hs h fun S' a' w' k' hq hs' => hQ _ S' a' w' k' hq hs'
        exact wp_region_list this
      · exact h.out B N a w k Q' hs hd hQ
    | true =>
      simp only [vcg] at h
      split at h
      · obtain ⟨hok, h⟩ | h := h
        · exact wp_draw_sound hm hT hN hs hok h fun S' a' w' k' hq hs' => hQ _ S' a' w' k' hq hs'
        · exact wp_cut_sound hm hT hN hs h fun S' a' w' k' hq hs' => hQ _ S' a' w' k' hq hs'
      · rename_i l d v hfree
        obtain ⟨hok, h⟩ | h := h
        case inr => exact h.elim
        exact wp_free_sound hm hT hN hs hfree hok h fun S' a' w' k' hq hs' => hQ _ S' a' w' k' hq hs'
  | .seq x y, S, Q, h => fun B N a w k Q' hs hd hQ => by
    simp only [dstsOk, Bool.and_eq_true] at hd
    simp only [vcg] at h
    refine wp_seq (vcg_sound hm hT x S _ h B N a w k _ hs hd.1 fun e S' a' w' k' hq hs' => ?_)
    cases e with
    | normal => exact vcg_sound hm hT y S' Q hq B N a' w' k' Q' hs' hd.2 hQ
    | _ => exact hQ _ S' a' w' k' hq hs'
  | .cond c x y, S, Q, h => fun B N a w k Q' hs hd hQ => by
    simp only [dstsOk, Bool.and_eq_true] at hd
    simp only [vcg] at h
    split at h
    · rename_i β hc
      obtain ⟨g, hs'⟩ := hs
      have hev := (opr_at hs' hc).2
      simp only [TF.at_, RV.at_] at hev
      refine wp_cond_split hev (fun ht => ?_) fun hf => ?_
      · exact vcg_sound hm hT x S Q (h.out.1 ht) B N a w k Q' ⟨g, hs'⟩ hd.1 hQ
      · exact vcg_sound hm hT y S Q (h.out.2 hf) B N a w k Q' ⟨g, hs'⟩ hd.2 hQ
    · exact h.elim
  | .block id c, S, Q, h => fun B N a w k Q' hs hd hQ => by
    simp only [vcg] at h
    refine wp_block (vcg_sound hm hT c S _ h B N a w k _ hs hd fun e S' a' w' k' hq hs' => ?_)
    cases e with
    | exit id' =>
      simp only [Exit.inBlock]
      simp only at hq
      split at hq
      · rename_i hb; rw [if_pos (Nat.eq_of_beq_eq_true hb)]; exact hQ _ S' a' w' k' hq hs'
      · rename_i hb; rw [if_neg (Nat.ne_of_beq_eq_false hb)]; exact hQ _ S' a' w' k' hq hs'
    | _ => exact hQ _ S' a' w' k' hq hs'
  | .loop c, S, Q, h => fun B N a w k Q' hs hd hQ => by
    simp only [vcg] at h
    obtain ⟨ι, inv, R, μ, ⟨i0, hR0, hsub⟩, hround⟩ := h
    obtain ⟨k0, hs0⟩ := hsub B N a w k hs
    refine wp_loop_ghost (fun n a w => ∃ i k, R i ∧ μ i = n ∧ Sat B N (inv i) a w k) (μ i0) ⟨i0, k0, hR0, rfl, hs0⟩ ?_
    rintro n a' w' ⟨i, k', hR, rfl, hs'⟩
    rcases hround with hround | hround
    · refine vcg_sound hm hT c (inv i) _ (hround i hR) B N a' w' k' _ hs' hd fun e S' a2 w2 k2 hq hs2 => ?_
      cases e with
      | normal =>
        obtain ⟨i', hR', hlt, hsub'⟩ := hq
        obtain ⟨k3, hs3⟩ := hsub' B N a2 w2 k2 hs2
        exact ⟨μ i', hlt, i', k3, hR', rfl, hs3⟩
      | _ => exact hQ _ S' a2 w2 k2 hq hs2
    · refine vcg_sound hm hT c (inv i) _ (hround i hR) B N a' w' k' _ hs' hd fun e S' a2 w2 k2 hq hs2 => ?_
      cases e with
      | normal =>
        obtain ⟨i', hR', hlt, hsub'⟩ := hq
        obtain ⟨k3, hs3⟩ := hsub' B N a2 w2 k2 hs2
        exact ⟨μ i', hlt, i', k3, hR', rfl, hs3⟩
      | _ =>
        obtain ⟨S2, hsub2, hq⟩ := hq
        obtain ⟨k3, hs3⟩ := hsub2 B N a2 w2 k2 hs2
        exact hQ _ S2 a2 w2 k3 hq hs3
  | .exit id, S, Q, h => fun B N a w k Q' hs _ hQ => wp_exit (hQ _ S a w k h hs)
  | .ret, S, Q, h => fun B N a w k Q' hs _ hQ => wp_ret (hQ _ S a w k h hs)
  | .label l, S, Q, h => fun B N a w k Q' hs _ hQ => wp_label (hQ _ S a w k h hs)
  | .goto l, S, Q, h => fun B N a w k Q' hs _ hQ => wp_goto (hQ _ S a w k h hs)
  | .scope c, S, Q, h => h.out
  | .rangeFunc _ _ _ _, S, Q, h => h.out
  | .refuse _, S, Q, h => h.elim
end

section
variable {P : Program} {T : TT} {B : Bs} {N : Nat} {S : St} {a : Act} {w : World} {k : Kp} {g : Env}

theorem argsF_get : ∀ {l : List RV} {n t : Nat} {f : TF} {us : List Value}, RV.partsAt w k l us → fget (argsF n l) t = some f → ∃ v, f = .r v ∧ n ≤ t ∧ ∃ u, us[t - n]? = some u ∧ v.at_ w k u
  | [], _, _, _, _, _, h => by simp [argsF, fget] at h
  | v :: r, n, t, f, us, hp, h => by
    simp only [RV.partsAt] at hp
    obtain ⟨u, us', rfl, h1, h2⟩ := hp
    simp only [argsF] at h
    rcases fget_cons h with ⟨rfl, rfl⟩ | ⟨hne, h⟩
    · exact ⟨v, rfl, Nat.le_refl _, u, by simp, h1⟩
    · obtain ⟨v', e, hle, u', hu', h3⟩ := argsF_get h2 h
      refine ⟨v', e, by omega, u', ?_, h3⟩
      rw [show t - n = (t - (n + 1)) + 1 by omega]
      simpa using hu'
theorem partsAt_len : ∀ {l : List RV} {us : List Value}, RV.partsAt w k l us → us.length = l.length
  | [], us, h => by simp only [RV.partsAt] at h; subst h; rfl
  | v :: r, us, h => by
    simp only [RV.partsAt] at h
    obtain ⟨u, us', rfl, _, h2⟩ := h
    simp [partsAt_len h2]

/-- Where a call begins. -/
theorem sat_start {args : List RV} {vs : List Value} (hp : RV.partsAt w k args vs) {n : Nat} (hn : args.length ≤ n) :
    Sat ⟨w, k, []⟩ n (St.args args) { tmps := vs.toArray ++ Array.replicate (n - vs.toArray.size) undef, defers := [] } w k := by
  have hl := partsAt_len hp
  refine ⟨fun _ => (undef, none), by simp; omega, rfl, ⟨rfl, rfl, rfl, Nat.le_refl _, fun _ _ _ => rfl⟩, fun _ _ _ => rfl, fun t f hf => ?_, fun id o ho => by simp [St.args, oget] at ho, fun i j o o' b hi => by simp [St.args, oget] at hi⟩
  obtain ⟨v, rfl, _, u, hu, hat⟩ := argsF_get hp hf
  rw [Nat.sub_zero] at hu
  refine ⟨trivial, ?_⟩
  have hlt : t < vs.length := (List.getElem?_eq_some_iff.1 hu).1
  have : (vs.toArray ++ Array.replicate (n - vs.toArray.size) undef)[t]? = some u := by
    rw [Array.getElem?_append_left (by simpa using hlt)]
    simpa using hu
  simp only [TF.at_, Array.getD_eq_getD_getElem?, this, Option.getD_some]
  exact hat

def rvSem (tmps : Array Value) (x : ResultVar) : Sem Value :=
  match x with
  | .tmp t => pure (tmps.getD t undef)
  | .cell p t => do loadVar t (← asAddr (tmps.getD p undef))
theorem results_eq (fn : Func) (tmps : Array Value) : results fn tmps = (do
    let vs ← fn.results.mapM (rvSem tmps)
    pure (if h : vs.size = 1 then vs[0] else .tuple vs)) := by
  unfold results
  congr 2

theorem resv_sound (hT : TOk P T) (hs : SatE B N S a w k g) {x : ResultVar} {K : TF → Prop} (h : resv T S x K) :
    ∃ f v, K f ∧ f.at_ w k g v ∧ (rvSem a.tmps x).run P w = .ok v w := by
  cases x with
  | tmp t =>
    simp only [resv] at h
    split at h
    · rename_i f hf
      exact ⟨f, _, h, (hs.facts t f hf).2, rfl⟩
    · exact h.elim
  | cell p t =>
    simp only [resv] at h
    split at h
    · rename_i f ti hf hti
      obtain ⟨q, hq⟩ := hT.get hti
      obtain ⟨f', v, hK, _, hat, hr⟩ := ldv_sound hs q hq (hs.facts p f hf).2 h
      refine ⟨f', v, hK, hat, ?_⟩
      cases hv : a.tmps.getD p undef with
      | pointer ad =>
        cases ad with
        | some ad => rw [hv] at hr; simp only [Instr.loadAt, Instr.sureAddr, Sem.run_bind, Sem.run_pure, Result.andThen_ok] at hr; simp only [rvSem, hv, asAddr, Sem.run_bind, Sem.run_pure, Result.andThen_ok]; exact hr
        | none => rw [hv] at hr; simp [Instr.loadAt, Instr.sureAddr] at hr
      | _ => rw [hv] at hr; simp [Instr.loadAt, Instr.sureAddr] at hr
    · exact h.elim

theorem resvs_sound (hT : TOk P T) (hs : SatE B N S a w k g) : ∀ {xs : List ResultVar} {K : List RV → Prop}, resvs T S xs K →
    ∃ rs vs, K rs ∧ RV.partsAt w k rs vs ∧ vs.length = xs.length ∧ (xs.mapM (rvSem a.tmps)).run P w = .ok vs w
  | [], K, h => ⟨[], [], h, by simp [RV.partsAt], rfl, by simp⟩
  | x :: r, K, h => by
    simp only [resvs] at h
    obtain ⟨f, v, h1, hat, hr⟩ := resv_sound hT hs h
    split at h1
    · rename_i rv hrv
      obtain ⟨rs, vs, hK, hp, hlen, hr2⟩ := resvs_sound hT hs h1
      refine ⟨_, v :: vs, hK, by simp only [RV.partsAt]; exact ⟨v, vs, rfl, rv_at hs hrv hat, hp⟩, by simp [hlen], ?_⟩
      rw [List.mapM_cons, Sem.run_bind, hr]
      simp [hr2]
    · exact h1.elim

theorem vret_fin (hT : TOk P T) {fn : Func} {res : Res} {e : Exit} {S' : St} {a' : Act} {w' : World} {k' : Kp} (hq : finv T fn.results res e S') (hs' : Sat ⟨w, k, []⟩ N S' a' w' k') :
    bodyPost P fn (fun e w' => ∃ v, e = Ending.returned v ∧ Ext w w' ∧ ∃ k' : Kp, (∀ b, b < w.heap.size → k' b = k b) ∧ res.at_ w.heap.size w' k' v) e a' w' := by
  have fin : finv T fn.results res .ret S' → a'.defers = [] ∧ ∃ v, (results fn a'.tmps).run P w' = .ok v w' ∧
      (fun e w' => ∃ v, e = Ending.returned v ∧ Ext w w' ∧ ∃ k' : Kp, (∀ b, b < w.heap.size → k' b = k b) ∧ res.at_ w.heap.size w' k' v) (.returned v) w' := by
    intro hq
    obtain ⟨g, hs'⟩ := hs'
    have hext : Ext w w' := ⟨hs'.keep.os, hs'.keep.tape, hs'.keep.output, hs'.keep.size, fun b hb => hs'.keep.block b hb (by simp)⟩
    have hkk : ∀ b, b < w.heap.size → k' b = k b := fun b hb => hs'.kk b hb (by simp)
    refine ⟨hs'.defers, ?_⟩
    simp only [finv] at hq
    unfold retv at hq
    split at hq
    · rename_i x hx
      obtain ⟨fr, v, hret, hat, hr⟩ := resv_sound hT hs' hq
      refine ⟨v, ?_, v, rfl, hext, k', hkk, ?_⟩
      · have hx' : fn.results = #[x] := by apply Array.ext'; simpa using hx
        rw [results_eq, hx', Array.mapM_eq_mapM_toList]
        simp only [Sem.run_bind, Sem.run_map, List.mapM_cons, List.mapM_nil, hr]
        simp
      · unfold Vret at hret
        split at hret
        · split at hret
          · rename_i v' hv'
            exact hret w' k' v (rv_at hs' hv' hat)
          · exact hret.elim
        · split at hret
          · rename_i e sz n cells id
            have ho := hs'.owns id _ hret
            simp only [Ow.at_] at ho
            simp only [TF.at_] at hat
            subst hat
            refine ⟨_, ho.2.2.1, fun b hb => ?_⟩
            rcases (ho.2.2.2 b hb).1 with h | h
            · exact h
            · simp at h
          · exact hret.elim
        · split at hret
          · rename_i e sz n cells id
            have ho := hs'.owns id _ hret
            simp only [Ow.at_] at ho
            simp only [TF.at_] at hat
            subst hat
            refine ⟨_, ho.2.2.1, fun b hb => ?_⟩
            rcases (ho.2.2.2 b hb).1 with h | h
            · exact h
            · simp at h
          · exact hret.elim
    · rename_i hxs
      obtain ⟨rs, vs, ⟨rv, rfl, hcv⟩, hp', hlen, hr⟩ := resvs_sound hT hs' hq
      refine ⟨.tuple vs.toArray, ?_, .tuple vs.toArray, rfl, hext, k', hkk, ?_⟩
      · rw [results_eq, Array.mapM_eq_mapM_toList]
        simp only [Sem.run_bind, Sem.run_map, hr]
        have hne : vs.length ≠ 1 := by
          intro he
          rw [hlen] at he
          obtain ⟨x, hx⟩ := List.length_eq_one_iff.1 he
          exact hxs x hx
        simp [hne]
      · exact hcv w' k' _ (by simp only [RV.at_]; exact ⟨vs.toArray, rfl, hp'⟩)
  cases e with
  | ret => exact fin hq
  | normal => exact fin hq
  | _ => exact hq.elim
/-- What a walk of the code comes to is the function's contract; at the end less may be kept. -/
theorem gives_of_vcgx {f : FuncId} {fn : Func} {args : List RV} {res : Res} {c : Code} (hm : P.follows .mixedOrders = true) (hT : TOk P T) (hf : P.funcs[f]? = some fn) (hb : fn.body = some c)
    (hk : (Nat.ble args.length fn.ntmps && (dstsOk fn.ntmps c && !(fn.name == "runtime.NumGoroutine"))) = true)
    (h : vcg P T c (St.args args) fun e S => ∃ S', Sub S S' ∧ finv T fn.results res e S') : Gives P f args res := by
  simp only [Bool.and_eq_true, Nat.ble_eq, Bool.not_eq_true', beq_eq_false_iff_ne] at hk
  obtain ⟨hn, hd, hname⟩ := hk
  refine ⟨⟨fn, c, hf, hb, hname⟩, fun w k vs hp => ?_⟩
  refine calls_of_wp hf hb ?_
  refine vcg_sound hm hT c _ _ h ⟨w, k, []⟩ fn.ntmps _ w k _ (sat_start hp hn) hd fun e S0 a' w' k0 ⟨S', hsub, hq⟩ hs0 => ?_
  obtain ⟨k', hs'⟩ := hsub _ _ _ _ _ hs0
  exact vret_fin hT hq hs'
theorem gives_of_vcg {f : FuncId} {fn : Func} {args : List RV} {res : Res} {c : Code} (hm : P.follows .mixedOrders = true) (hT : TOk P T) (hf : P.funcs[f]? = some fn) (hb : fn.body = some c)
    (hk : (Nat.ble args.length fn.ntmps && (dstsOk fn.ntmps c && !(fn.name == "runtime.NumGoroutine"))) = true)
    (h : vcg P T c (St.args args) (finv T fn.results res)) : Gives P f args res := by
  simp only [Bool.and_eq_true, Nat.ble_eq, Bool.not_eq_true', beq_eq_false_iff_ne] at hk
  obtain ⟨hn, hd, hname⟩ := hk
  refine ⟨⟨fn, c, hf, hb, hname⟩, fun w k vs hp => ?_⟩
  refine calls_of_wp hf hb ?_
  refine vcg_sound hm hT c _ _ h ⟨w, k, []⟩ fn.ntmps _ w k _ (sat_start hp hn) hd fun e S' a' w' k' hq hs' => ?_
  exact vret_fin hT hq hs'
end

end Go.Proofs.YtpdllgbfemnemaaGreat.Sx
