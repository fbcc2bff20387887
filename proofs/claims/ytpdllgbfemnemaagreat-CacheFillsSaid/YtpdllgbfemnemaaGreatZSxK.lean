import Derived.Test.YtpdllgbfemnemaaGreatZSxM
import Derived.Test.YtpdllgbfemnemaaGreatZSxJ
import Derived.Deep.LoopGhost
namespace Go.Proofs.YtpdllgbfemnemaaGreat.Sx
open Go.RowKit
section
section
variable {P : Program} {T : TT} {B : Bs} {N : Nat} {a : Act} {w : World} {k : Kp} {g : Env} {Q : Exit -> Act -> World -> Prop}
variable {l : List Oper} {S0 : St} {res : RS} {m : Nat} {F : Nat -> Option TF} {O : Nat -> Option Ow}
def zoy (S : St) : List Nat -> List (Nat × TF)
 | [] => []
 | t :: r => match fget S.F t with
  | some f => (t, f) :: zoy S r
  | none => zoy S r
def zrh (S : St) : List Nat -> List (Nat × Option Ow)
 | [] => []
 | i :: r => (i, oget S.O i) :: zrh S r
theorem zix {S : St} : ∀ {ts : List Nat} {t : Nat}, fget (zoy S ts) t = if t ∈ ts then fget S.F t else none
 | [], t => by simp [zoy, fget]
 | u :: r, t => by
  simp only [zoy]
  by_cases hu : u = t
  ·subst hu
   cases hf : fget S.F u with
   | some f => simp [fget]
   | none => simp [zix, hf]
  ·have hb : Nat.beq u t = false := by
    cases hb : Nat.beq u t
    ·rfl
    ·exact absurd (Nat.eq_of_beq_eq_true hb) hu
   have hmem : t ∈ u :: r ↔ t ∈ r := by simp [Ne.symm hu]
   cases hf : fget S.F u with
   | some f => simp only [fget, hb]; rw [zix]; simp only [hmem]
   | none => simp only; rw [zix]; simp only [hmem]
theorem zke {S : St} : ∀ {ts : List Nat} {t : Nat}, oget (zrh S ts) t = if t ∈ ts then oget S.O t else none
 | [], t => by simp [zrh, oget]
 | u :: r, t => by
  simp only [zrh]
  by_cases hu : u = t
  ·subst hu; simp [oget]
  ·have hb : Nat.beq u t = false := by
    cases hb : Nat.beq u t
    ·rfl
    ·exact absurd (Nat.eq_of_beq_eq_true hb) hu
   have hmem : t ∈ u :: r ↔ t ∈ r := by simp [Ne.symm hu]
   simp only [oget, hb]; rw [zke]; simp only [hmem]
def isCh (S : St) (id : Nat) : Bool := match oget S.O id with
 | some (.ch ..) => true
 | _ => false
def zte (S : St) (o : Oper) : List Nat := ids1 S o ++ (ids2 S (ids1 S o)).filter (isCh S)
def foot (S : St) (o : Oper) : St := { F := zoy S (zek o), O := zrh S (zte S o), nx := S.nx }
theorem z0r (S : St) (o : Oper) : Agree S (foot S o) o := by
 refine ⟨rfl, λ x hx => ?_, λ id hid => ?_, λ id hid e sz n cells => ?_⟩
 ·cases x with
  | tmp t =>
   have : t ∈ zek o := List.mem_filterMap.2 ⟨.tmp t, hx, rfl⟩
   simp only [opr, foot, zix, if_pos this]
  | _ => rfl
 ·simp only [foot, zke]
  rw [if_pos (show id ∈ zte S o from List.mem_append_left _ hid)]
 ·simp only [foot, zke]
  by_cases hm : id ∈ zte S o
  ·rw [if_pos hm]
  ·rw [if_neg hm]
   constructor
   ·intro h
    exact absurd (List.mem_append_right _ (List.mem_filter.2 ⟨hid, by simp [isCh, h]⟩)) hm
   ·intro h; cases h
def Kn (l : List Oper) (S0 : St) (res : RS) (m : Nat) (D : Nat -> Prop) (id : Nat) : Prop := id < S0.nx \/ ∃ j, D j /\ j < m /\ (res j).2.isSome = true /\ idAt l S0 res j = id
def ovr (xo : Option (Nat × Ow)) (O : Nat -> Option Ow) : Nat -> Option Ow :=
 match xo with
 | none => O
 | some (x, o) => updO O x o
theorem z4m {xo : Option (Nat × Ow)} {O : Nat -> Option Ow} {id : Nat} (h : ∀ x o, xo = some (x, o) -> x ≠ id) : ovr xo O id = O id := by
 cases xo with
 | none => rfl
 | some q => simp only [ovr, updO]; rw [if_neg λ e => h q.1 q.2 rfl e.symm]
theorem z82 {xo : Option (Nat × Ow)} {O : Nat -> Option Ow} {id : Nat} {ow : Ow} (h : ∀ x o, xo = some (x, o) -> x ≠ id) : ovr xo (updO O id ow) = updO (ovr xo O) id ow := by
 cases xo with
 | none => rfl
 | some q =>
  funext j
  simp only [ovr, updO]
  have := h q.1 q.2 rfl
  by_cases h1 : j = q.1
  ·rw [if_pos h1, if_neg (λ e => this (h1.symm.trans e)), if_pos h1]
  ·by_cases h2 : j = id
   ·rw [if_neg h1, if_pos h2, if_pos h2]
   ·rw [if_neg h1, if_neg h2, if_neg h2, if_neg h1]
structure Mid (B : Bs) (N : Nat) (l : List Oper) (S0 : St) (res : RS) (m : Nat) (D : Nat -> Prop) (xo : Option (Nat × Ow)) (a : Act) (w : World) (k : Kp) (g : Env) (F : Nat -> Option TF) (O : Nat -> Option Ow) : Prop where
 sat : SatF B N F (ovr xo O) (idAt l S0 res m) a w k g
 lk : Lk l S0 res m D F O
 kF : ∀ t f, F t = some f -> ∀ id ∈ zam f, Kn l S0 res m D id
 kO : ∀ i o, O i = some o -> ∀ id ∈ zcs o, Kn l S0 res m D id
 kx : ∀ x o, xo = some (x, o) -> Kn l S0 res m D x /\ ∀ id ∈ zcs o, Kn l S0 res m D id
 below : ∀ i, m <= i -> D i -> i = m /\ xo.isSome = true
theorem Mid.kOv {D : Nat -> Prop} {xo : Option (Nat × Ow)} (h : Mid B N l S0 res m D xo a w k g F O) : ∀ i o, ovr xo O i = some o -> ∀ id ∈ zcs o, Kn l S0 res m D id := by
 intro i o hi id hid
 cases xo with
 | none => exact h.kO i o hi id hid
 | some q =>
  simp only [ovr, updO] at hi
  split at hi
  ·cases hi; exact (h.kx q.1 q.2 rfl).2 id hid
  ·exact h.kO i o hi id hid
end
theorem zqu {l : List Oper} {S0 : St} {res : RS} : ∀ {i : Nat} {id j : Nat}, (id, j) ∈ Cs l S0 res i -> j < i /\ (res j).2.isSome = true /\ idAt l S0 res j = id
 | 0, id, j, h => by simp [Cs] at h
 | i + 1, id, j, h => by
  simp only [Cs, zgm] at h
  split at h
  ·rename_i o ho
   rcases List.mem_cons.1 h with e | h
   ·cases e; exact ⟨by omega, by simp [ho], rfl⟩
   ·have := zqu h; exact ⟨by omega, this.2⟩
  ·have := zqu h; exact ⟨by omega, this.2⟩
theorem zmc : ∀ {ρ : List (Nat × Nat)} {i j : Nat}, zdd ρ i = some j -> (i, j) ∈ ρ
 | [], i, j, h => by simp [zdd] at h
 | (u, f) :: r, i, j, h => by
  simp only [zdd] at h
  split at h
  ·rename_i hb; cases h; rw [<- Nat.eq_of_beq_eq_true hb]; simp
  ·exact List.mem_cons_of_mem _ (zmc h)
section
variable {P : Program} {T : TT} {B : Bs} {N : Nat} {a : Act} {w : World} {k : Kp} {g : Env} {Q : Exit -> Act -> World -> Prop}
variable {l : List Oper} {S0 : St} {res : RS} {m : Nat} {F : Nat -> Option TF} {O : Nat -> Option Ow} {D : Nat -> Prop}
structure Looks (l : List Oper) (ws : List (List Nat)) (m : Nat) : Prop where
 le : m <= l.length
 edge : ∀ i o, l[i]? = some o -> ∀ e ∈ za1 o, e < i
 back : ∀ i, m < i -> i < l.length -> ∀ j, j < i -> j ∈ (lget ws i).getD []
 late : ∀ o, l[m]? = some o -> (∀ j, j < m -> j ∈ (lget ws m).getD []) \/ ∃ t x y, o.op = .store t x y /\ o.dst = none /\ o.guard = none /\ ∀ j s, j < m -> zca l j = some s -> s ∈ zek o -> j ∈ (lget ws m).getD []
 dst : ∀ i j t, i < m -> j < i -> zca l j = some t -> zca l i ≠ some t
 grd : ∀ i o j want, i < m -> l[i]? = some o -> o.guard = some (j, want) -> j ∈ (lget ws i).getD [] /\ j < i
 rd : ∀ i j o t, i < m -> j < i -> l[i]? = some o -> zca l j = some t -> t ∈ zek o -> j ∈ (lget ws i).getD []
 wr : ∀ i j p t, i < m -> j < i -> l[j]? = some p -> zca l i = some t -> t ∈ zek p -> j ∈ (lget ws i).getD []
theorem Kn.mono {D D' : Nat -> Prop} (h : ∀ j, D j -> D' j) {id : Nat} (hk : Kn l S0 res m D id) : Kn l S0 res m D' id := hk.imp (λ x => x) λ ⟨j, h1, h2⟩ => ⟨j, h j h1, h2⟩
theorem zwk (hm : P.follows .mixedOrders = true) (hT : TOk P T) (hN : ∀ o ∈ l, ∀ d, o.dst = some d -> d < N) {ws : List (List Nat)} (hL : Looks l ws m) (hstp : ∀ j, j < m -> Stp P T l ws S0 res j)
  (h0 : ∀ id o, oget S0.O id = some o -> id < S0.nx) {xo : Option (Nat × Ow)} (h : Mid B N l S0 res m D xo a w k g F O) {i : Nat} (hxo : ∀ x o' o, xo = some (x, o') -> l[i]? = some o -> x ∉ zbg (Ls l S0 res i) o) (him : i < m) (hni : ¬ D i) (hws : ∀ j ∈ (lget ws i).getD [], D j) (hcl : ∀ j, D j -> ∀ x ∈ (lget ws j).getD [], D x)
  {K : Act -> World -> Prop} (hK : ∀ a' w' k' g' F' O', Mid B N l S0 res m (λ j => D j \/ j = i) xo a' w' k' g' F' O' -> K a' w') :
  wpOp P l.toArray Q i K a w := by
 have hil : i < l.length := Nat.lt_of_lt_of_le him hL.le
 obtain ⟨o, hoi, hrd, hst⟩ := hstp i him
 have hod : ∀ d, o.dst = some d -> d < N := hN o (List.mem_of_getElem? hoi)
 have hdsti : zca l i = o.dst := by simp [zca, hoi]
 have hlex := Lk.lex (S0 := S0) (res := res) hL.le hL.dst i (by omega)
 have hfacts : ∀ t ∈ zek o, F t = fget (Ls l S0 res i).F t := by
  intro t ht
  by_cases hx : ∃ j, j < i /\ zca l j = some t
  ·obtain ⟨j, hj, hjt⟩ := hx
   rw [h.lk.hit j t (hws j (hL.rd i j o t him hj hoi hjt ht)) (by omega) hjt, hlex.hit j t hj (by omega) hjt]
  ·rw [hlex.miss t λ j hj _ hjt => hx ⟨j, hj, hjt⟩, h.lk.miss t λ j hj hjm hjt => ?_]
   rcases Nat.lt_trichotomy j i with hlt | rfl | hgt
   ·exact hx ⟨j, hlt, hjt⟩
   ·exact hni hj
   ·exact hni (hcl j hj i (hL.wr j i o t hjm hgt hoi hjt ht))
 have hd2 : ∀ j t, D j -> j < m -> zca l j = some t -> zca l i ≠ some t := λ j t hj hjm hjt hit => by
  rcases Nat.lt_trichotomy j i with hlt | rfl | hgt
  ·exact hL.dst i j t him hlt hjt hit
  ·exact hni hj
  ·exact hL.dst j i t hjm hgt hit hjt
 have hi2 : ∀ j o o', D j -> j < m -> (res j).2 = some o -> (res i).2 = some o' -> idAt l S0 res j ≠ idAt l S0 res i := λ j o o' hj hjm ho ho' =>
  z4a (by have := hL.le; omega) hil (λ e => hni (e ▸ hj)) ho ho'
 have hlk := h.lk.step him hd2 hi2
 have hbelow : ∀ x, m <= x -> (D x \/ x = i) -> x = m /\ xo.isSome = true := λ x hx hh => hh.elim (h.below x hx) (λ e => by omega)
 have hkx : ∀ x o, xo = some (x, o) -> Kn l S0 res m (λ j => D j \/ j = i) x /\ ∀ id ∈ zcs o, Kn l S0 res m (λ j => D j \/ j = i) id := λ x o e => ⟨(h.kx x o e).1.mono λ j hj => .inl hj, λ id hid => ((h.kx x o e).2 id hid).mono λ j hj => .inl hj⟩
 have hgrd : ∀ b, Grd l (Ls l S0 res i) o b -> Region.wanted o (yielded l.toArray a.tmps) = b := by
  intro b hg
  unfold Grd at hg
  cases hgd : o.guard with
  | none => simp only [hgd] at hg; simp [Region.wanted, hgd, hg]
  | some jw =>
   obtain ⟨j, want⟩ := jw
   simp only [hgd] at hg
   obtain ⟨oj, d, hj, hjd, hgb⟩ := hg
   have hw := hL.grd i o j want him hoi hgd
   have hjt : zca l j = some d := by simp [zca, hj, hjd]
   have hFe : F d = fget (Ls l S0 res i).F d := by
    rw [h.lk.hit j d (hws j hw.1) (by omega) hjt, <- hlex.hit j d hw.2 (by omega) hjt]
   rcases hgb with ⟨β, hf, rfl⟩ | ⟨us, hf, rfl⟩
   ·have := (h.sat.facts d _ (hFe.trans hf)).2
    simp only [TF.at_, RV.at_] at this
    have hy : yielded l.toArray a.tmps j = some β := by
     unfold yielded
     simp only [List.getElem?_toArray, hj, Option.bind_some, hjd]
     cases ht : a.tmps[d]? with
     | none => simp [ht, undef] at this
     | some v => simp [ht] at this; subst this; rfl
    simp [Region.wanted, hgd, hy]
   ·have := (h.sat.facts d _ (hFe.trans hf)).2
    simp only [TF.at_, RV.at_] at this
    obtain ⟨vs, hv, _⟩ := this
    have hy : yielded l.toArray a.tmps j = none := by
     unfold yielded
     simp only [List.getElem?_toArray, hj, Option.bind_some, hjd]
     cases ht : a.tmps[d]? with
     | none => rfl
     | some v => simp [ht] at hv; subst hv; rfl
    simp [Region.wanted, hgd, hy]
 unfold wpOp
 simp only [List.getElem?_toArray, hoi]
 rcases hst with ⟨hg, hr⟩ | ⟨hg, hneed, hv, hids⟩
 ·rw [hgrd false hg]
  simp only [Bool.false_eq_true, if_false]
  refine hK _ _ k g _ _ ⟨h.sat.skipped (dst := o.dst), ?_, ?_, ?_, ?_, hbelow⟩
  ·have := hlk
   simp only [hr, ffAt, hdsti] at this
   exact this
  ·intro t f hf id hid
   simp only [updF] at hf
   split at hf
   ·cases hf; simp [zam] at hid
   ·exact (h.kF t f hf id hid).mono λ j hj => .inl hj
  ·intro x o' ho' id hid
   exact (h.kO x o' ho' id hid).mono λ j hj => .inl hj
  ·exact hkx
 ·rw [hgrd true hg]
  simp only [if_true]
  left
  have hknown : ∀ id ∈ zbg (Ls l S0 res i) o, id < idAt l S0 res i /\ Kn l S0 res m D id := by
   intro id hid
   have := (zbd.1 hneed) id hid
   split at this
   ·rename_i hb
    have hb : id < S0.nx := Nat.le_of_ble_eq_true hb
    exact ⟨Nat.lt_of_lt_of_le hb (zha (S0 := S0) (res := res) (Nat.zero_le i) (by omega)), .inl hb⟩
   ·split at this
    ·rename_i j hj
     obtain ⟨h1, h2, h3⟩ := zqu (zmc hj)
     obtain ⟨oj, hoj⟩ := Option.isSome_iff_exists.1 h2
     exact ⟨h3 ▸ zvf h1 (by omega) hoj, .inr ⟨j, hws j (zbk.1 this), by omega, h2, h3⟩⟩
    ·cases this
  have howns : ∀ id ∈ zbg (Ls l S0 res i) o, O id = oget (Ls l S0 res i).O id := by
   intro id hid
   rcases (hknown id hid).2 with hlt | ⟨j, hj, hjm, hjs, rfl⟩
   ·have old : ∀ j o, (res j).2 = some o -> j < m -> idAt l S0 res j ≠ id := λ j o ho hjm e => by
     have := zha (l := l) (S0 := S0) (res := res) (Nat.zero_le j) (by have := hL.le; omega)
     simp only [idAt, Ls] at this e
     omega
    rw [h.lk.omiss id λ j o _ hjm ho => old j o ho hjm, hlex.omiss id λ j o _ hjm ho => old j o ho hjm]
   ·obtain ⟨oj, hoj⟩ := Option.isSome_iff_exists.1 hjs
    have hji : j < i := by
     rcases Nat.lt_or_ge j i with h1 | h1
     ·exact h1
     ·have := (hknown _ hid).1
      have h2 := zha (l := l) (S0 := S0) (res := res) h1 (by have := hL.le; omega)
      omega
    rw [h.lk.ohit j oj hj hjm hoj, hlex.ohit j oj hji hjm hoj]
  have hov : ∀ id ∈ zbg (Ls l S0 res i) o, ovr xo O id = O id := λ id hid => z4m λ x o' e hx => hxo x o' o e hoi (hx ▸ hid)
  have hsat : SatE B N (foot (Ls l S0 res i) o) a w k g := by
   have hget : ∀ id o', oget (foot (Ls l S0 res i) o).O id = some o' -> id ∈ zbg (Ls l S0 res i) o /\ ovr xo O id = some o' /\ (id ∈ ids1 (Ls l S0 res i) o \/ isCh (Ls l S0 res i) id = true) := λ id o' ho' => by
    simp only [foot, zke] at ho'
    split at ho'
    ·rename_i hmem
     rcases List.mem_append.1 hmem with h1 | h1
     ·have hh : id ∈ zbg (Ls l S0 res i) o := List.mem_append_left _ h1
      exact ⟨hh, (hov id hh).trans ((howns id hh).trans ho'), .inl h1⟩
     ·have hh : id ∈ zbg (Ls l S0 res i) o := List.mem_append_right _ (List.mem_filter.1 h1).1
      exact ⟨hh, (hov id hh).trans ((howns id hh).trans ho'), .inr (List.mem_filter.1 h1).2⟩
    ·cases ho'
   refine ⟨h.sat.size, h.sat.defers, h.sat.keep, h.sat.kk, λ t f hf => ?_, λ id o' ho' => ?_, λ x y o1 o2 b hx hy => h.sat.apart x y o1 o2 b (hget x o1 hx).2.1 (hget y o2 hy).2.1⟩
   ·simp only [foot, zix] at hf
    split at hf
    ·rename_i ht
     have hFt := (hfacts t ht).trans hf
     refine ⟨?_, (h.sat.facts t f hFt).2⟩
     have hin : ∀ id ∈ zam f, id < idAt l S0 res i := λ id hid => (hknown id (List.mem_append_left _ (by
      obtain ⟨x, hx, he⟩ := List.mem_filterMap.1 ht
      cases x <;> simp at he
      subst he
      exact zmb hx (by simp only [opr]; exact hf) hid))).1
     cases f with
     | r => trivial
     | own id => exact hin id (by simp [zam])
     | adr id off => exact hin id (by simp [zam])
     | nm id v => exact hin id (by simp [zam])
    ·cases hf
   ·obtain ⟨h1, h2, h3⟩ := hget id o' ho'
    obtain ⟨_, _, q3, q4⟩ := h.sat.owns id o' h2
    refine ⟨(hknown id h1).1, ?_, q3, q4⟩
    cases o' with
    | ch => trivial
    | gen => trivial
    | box cells =>
     have hlo : oget (Ls l S0 res i).O id = some (.box cells) := (howns id h1).symm.trans ((hov id h1).symm.trans h2)
     rcases h3 with h3 | h3
     ·intro f hf
      have hin : ∀ x ∈ zam f, x < idAt l S0 res i := λ x hx => (hknown x (List.mem_append_right _ (zwr h3 hlo hf hx))).1
      cases f with
      | r => trivial
      | own x => exact hin x (by simp [zam])
      | adr x off => exact hin x (by simp [zam])
      | nm x v => exact hin x (by simp [zam])
     ·simp [isCh, hlo] at h3
  obtain ⟨f0, ow0, he, hp⟩ := znf hrd (z0r _ _) (hv (λ f ow => f = (res i).1 /\ ow = (res i).2) ⟨rfl, rfl⟩)
  obtain ⟨rfl, rfl⟩ := he
  have hloc := zwh (Q := Q) hT hsat hrd (hp (λ f ow => f = (res i).1 /\ ow = (res i).2) ⟨rfl, rfl⟩)
  refine Oper.wp_mono ?_ hloc
  rintro a' w' ⟨f, ow, v, k', ⟨rfl, rfl⟩, rfl, hext, hkk, hres⟩
  have hidm : idAt l S0 res i <= idAt l S0 res m := zha (by omega) hL.le
  have hs1 := h.sat.ext hext hkk
  have hmem : ∀ id ∈ ziq (res i).1 (res i).2, id = idAt l S0 res i \/ id ∈ zbg (Ls l S0 res i) o := λ id hid => by
   have := zbk.1 ((zbd.1 hids) id hid)
   exact (List.mem_cons.1 this)
  cases hr : (res i).2 with
  | none =>
   simp only [hr] at hres hlk
   obtain ⟨hl1, hat⟩ := hres
   have hff : ffAt l S0 res i = (res i).1 := by simp [ffAt, hr]
   rw [hff, hdsti] at hlk
   refine hK _ _ k' g _ _ ⟨hs1.put hod (TF.lt_mono hidm hl1) hat, hlk, λ t f hf id hid => ?_, λ x o' ho' id hid => (h.kO x o' ho' id hid).mono λ j hj => .inl hj, hkx, hbelow⟩
   simp only [updF] at hf
   split at hf
   ·cases hf
    have hne : id ≠ idAt l S0 res i := λ e => by
     subst e
     have : ∀ (f : TF), f.lt (idAt l S0 res i) -> idAt l S0 res i ∉ zam f := λ f hf hm => by
      cases f <;> simp [zam] at hm <;> subst hm <;> simp [TF.lt] at hf
     exact this _ hl1 hid
    rcases hmem id (by rw [hr]; simpa [ziq] using hid) with e | hall
    ·exact absurd e hne
    ·exact (hknown id hall).2.mono λ j hj => .inl hj
   ·exact (h.kF t f hf id hid).mono λ j hj => .inl hj
  | some ow =>
   simp only [hr] at hres hlk
   obtain ⟨ob, hfe, hl1, hat, hblk⟩ := hres
   have hff : ffAt l S0 res i = .own (idAt l S0 res i) := by simp [ffAt, hr]
   rw [hff, hdsti] at hlk
   have hnk : ¬ Kn l S0 res m D (idAt l S0 res i) := by
    rintro (hlt | ⟨j, hj, hjm, hjs, he⟩)
    ·have := zha (l := l) (S0 := S0) (res := res) (Nat.zero_le i) (by omega)
     simp only [idAt, Ls] at this hlt
     omega
    ·obtain ⟨oj, hoj⟩ := Option.isSome_iff_exists.1 hjs
     exact hi2 j oj ow hj hjm hoj hr he
   have hidlt : idAt l S0 res i < idAt l S0 res m := zvf him hL.le hr
   have hnone : O (idAt l S0 res i) = none := by
    cases hO : O (idAt l S0 res i) with
    | none => rfl
    | some o' =>
     exfalso
     rw [h.lk.omiss _ λ j o hj hjm ho => hi2 j o ow hj hjm ho hr] at hO
     exact hnk (.inl (h0 _ _ hO))
   have howl : ∀ {o' : Ow} {n : Nat}, o'.lt n -> n ∉ zcs o' := λ {o' n} hl hm => by
    cases o' with
    | ch => simp [zcs] at hm
    | gen => simp [zcs] at hm
    | box cells =>
     obtain ⟨f, hf, hid⟩ := List.mem_flatMap.1 hm
     have := hl f hf
     cases f <;> simp [zam] at hid <;> subst hid <;> simp [TF.lt] at this
   have hxi : ∀ x o, xo = some (x, o) -> x ≠ idAt l S0 res i := λ x o e hx => hnk (hx ▸ (h.kx x o e).1)
   have hnone' : ovr xo O (idAt l S0 res i) = none := by rw [z4m hxi]; exact hnone
   have hmk := hs1.make hod (vb := (v, ob)) hidlt hnone' (λ t f hf hm => hnk (h.kF t f hf _ hm)) (λ x o' ho' hm => hnk (h.kOv x o' ho' _ hm)) (Ow.lt_mono hidm hl1) (howl hl1) hat
    (λ b hb => ⟨.inl (by have := (hblk b hb).1; have := h.sat.keep.size; omega), (hblk b hb).2⟩) (λ x o' b ho' hb hgb => by
     have := (hblk b hb).1
     have := ((h.sat.owns x o' ho').2.2.2 b hgb).2
     omega)
   rw [<- z82 hxi] at hmk
   refine hK _ _ k' _ _ _ ⟨hmk, hlk, λ t f hf id hid => ?_, λ x o' ho' id hid => ?_, hkx, hbelow⟩
   ·simp only [updF] at hf
    split at hf
    ·cases hf
     simp only [zam, List.mem_singleton] at hid
     subst hid
     exact .inr ⟨i, .inr rfl, him, by simp [hr], rfl⟩
    ·exact (h.kF t f hf id hid).mono λ j hj => .inl hj
   ·simp only [updO] at ho'
    split at ho'
    ·cases ho'
     have hne : id ≠ idAt l S0 res i := λ e => howl (n := idAt l S0 res i) hl1 (by rw [<- e]; exact hid)
     rcases hmem id (by
      rw [hr]
      cases ow with
      | ch => simp [zcs] at hid
      | gen => simp [zcs] at hid
      | box cells => simp only [ziq]; exact List.mem_append_right _ hid) with e | hall
     ·exact absurd e hne
     ·exact (hknown id hall).2.mono λ j hj => .inl hj
    ·exact (h.kO x o' ho' id hid).mono λ j hj => .inl hj
end
end
section
def stF (F : Nat -> Option TF) : List Nat -> List (Nat × TF)
 | [] => []
 | t :: r => match F t with
  | some f => (t, f) :: stF F r
  | none => stF F r
def stO (O : Nat -> Option Ow) : List Nat -> List (Nat × Option Ow)
 | [] => []
 | i :: r => (i, O i) :: stO O r
theorem zos {F : Nat -> Option TF} : ∀ {ts : List Nat} {t : Nat}, fget (stF F ts) t = if t ∈ ts then F t else none
 | [], t => by simp [stF, fget]
 | u :: r, t => by
  simp only [stF]
  by_cases hu : u = t
  ·subst hu
   cases hf : F u with
   | some f => simp [fget]
   | none => simp [zos, hf]
  ·have hb : Nat.beq u t = false := by
    cases hb : Nat.beq u t
    ·rfl
    ·exact absurd (Nat.eq_of_beq_eq_true hb) hu
   have hmem : t ∈ u :: r ↔ t ∈ r := by simp [Ne.symm hu]
   cases hf : F u with
   | some f => simp only [fget, hb]; rw [zos]; simp only [hmem]
   | none => simp only; rw [zos]; simp only [hmem]
theorem zzs {O : Nat -> Option Ow} : ∀ {ts : List Nat} {t : Nat}, oget (stO O ts) t = if t ∈ ts then O t else none
 | [], t => by simp [stO, oget]
 | u :: r, t => by
  simp only [stO]
  by_cases hu : u = t
  ·subst hu; simp [oget]
  ·have hb : Nat.beq u t = false := by
    cases hb : Nat.beq u t
    ·rfl
    ·exact absurd (Nat.eq_of_beq_eq_true hb) hu
   have hmem : t ∈ u :: r ↔ t ∈ r := by simp [Ne.symm hu]
   simp only [oget, hb]; rw [zzs]; simp only [hmem]
section
variable {P : Program} {T : TT} {S S' : St} {t : TypeId} {x y : Operand} {K : St -> Prop}
theorem zun {ti : TI} {v : RV} {id off : Nat} (ho : oget S'.O id = oget S.O id) (h : stAt S ti v K id off) :
  ∃ o', K (S.set id (some o')) /\ zcs o' ⊆ (match oget S.O id with | some o => zcs o | none => []) /\ ∀ K' : St -> Prop, K' (S'.set id (some o')) -> stAt S' ti v K' id off := by
 unfold stAt at h
 unfold stAt
 rw [ho]
 split at h
 ·rename_i cells hc
  split at h
  ·exact h.elim
  ·rw [zd3] at h
   refine ⟨_, h, ?_, λ K' hK' => ?_⟩
   ·intro i hi
    simp only [zcs, List.flatMap_append, List.mem_append] at hi
    simp only [hc, zcs]
    rcases hi with (hi | hi) | hi
    ·obtain ⟨f, hf, hfi⟩ := List.mem_flatMap.1 hi
     exact List.mem_flatMap.2 ⟨f, List.mem_of_mem_take hf, hfi⟩
    ·obtain ⟨f, hf, hfi⟩ := List.mem_flatMap.1 hi
     obtain ⟨r, _, rfl⟩ := List.mem_map.1 hf
     simp [zam] at hfi
    ·obtain ⟨f, hf, hfi⟩ := List.mem_flatMap.1 hi
     exact List.mem_flatMap.2 ⟨f, List.mem_of_mem_drop hf, hfi⟩
   ·rw [zd3]
    exact hK'
 ·rename_i e sz n cells hc
  split at h
  ·exact h.elim
  ·obtain ⟨hfit, zs, hz, h⟩ := h
   rw [zd3] at h
   refine ⟨_, h, by simp [zcs], λ K' hK' => ?_⟩
   exact ⟨hfit, zs, hz, by rw [zd3]; exact hK'⟩
 ·exact h.elim
theorem z6f {f : TF} {v : RV} (ho : ∀ id ∈ zam f, oget S'.O id = oget S.O id) (h : stv S T t f v K) :
  ∃ id o', id ∈ zam f /\ K (S.set id (some o')) /\ zcs o' ⊆ (match oget S.O id with | some o => zcs o | none => []) /\ ∀ K' : St -> Prop, K' (S'.set id (some o')) -> stv S' T t f v K' := by
 unfold stv at h
 split at h
 ·rename_i ti hti
  split at h
  ·rename_i id
   split at h
   ·rename_i cells hc
    obtain ⟨o', h1, h2, h3⟩ := zun (ho id (by simp [zam])) h
    refine ⟨id, o', by simp [zam], h1, h2, λ K' hK' => ?_⟩
    unfold stv
    simp only [hti]
    rw [ho id (by simp [zam]), hc]
    exact h3 K' hK'
   ·exact h.elim
  ·rename_i id off
   obtain ⟨o', h1, h2, h3⟩ := zun (ho id (by simp [zam])) h
   refine ⟨id, o', by simp [zam], h1, h2, λ K' hK' => ?_⟩
   unfold stv
   simp only [hti]
   exact h3 K' hK'
  ·exact h.elim
 ·exact h.elim
theorem zzn {cells : List TF} {off i id2 : Nat} (h : i ∈ zcs (.box (cells.take off ++ [.own id2] ++ cells.drop (off + 1)))) : i ∈ zcs (.box cells) \/ i = id2 := by
 simp only [zcs, List.flatMap_append, List.mem_append] at h
 rcases h with (h | h) | h
 ·obtain ⟨f, hf, hfi⟩ := List.mem_flatMap.1 h
  exact .inl (List.mem_flatMap.2 ⟨f, List.mem_of_mem_take hf, hfi⟩)
 ·simp [zam] at h; exact .inr h
 ·obtain ⟨f, hf, hfi⟩ := List.mem_flatMap.1 h
  exact .inl (List.mem_flatMap.2 ⟨f, List.mem_of_mem_drop hf, hfi⟩)
theorem z6c (hx : opr S' x = opr S x) (hy : opr S' y = opr S y) (ho : ∀ f, (opr S x = some f \/ opr S y = some f) -> ∀ id ∈ zam f, oget S'.O id = oget S.O id) (h : sto T S none t x y K) :
  ∃ id o', stId S x = some id /\ K (S.set id (some o')) /\ (∀ i ∈ zcs o', (∃ o, oget S.O id = some o /\ i ∈ zcs o) \/ ∃ g, opr S y = some g /\ i ∈ zam g) /\ ∀ K' : St -> Prop, K' (S'.set id (some o')) -> sto T S' none t x y K' := by
 unfold sto at h
 unfold sto
 rw [hx, hy]
 split at h
 ·rename_i f g' hf hg
  have hof := ho f (.inl hf)
  have hog := ho g' (.inr hg)
  split at h
  ·rename_i id2
   have e2 := hog id2 (by simp [zam])
   rw [e2]
   split at h
   ·rename_i ow2 j off h2
    have ej := hof j (by simp [zam])
    rw [ej]
    split at h
    ·rename_i cells hc
     split at h
     ·exact h.elim
     ·split at h
      ·rename_i ti hti
       split at h
       ·rename_i h1
        rw [zd3] at h
        refine ⟨j, _, by simp [stId, hf], h, λ i hi => ?_, λ K' hK' => ?_⟩
        ·rcases zzn hi with hi | rfl
         ·exact .inl ⟨_, hc, hi⟩
         ·exact .inr ⟨_, hg, by simp [zam]⟩
        ·rw [zd3]
         exact hK'
       ·exact h.elim
      ·exact h.elim
    ·exact h.elim
   ·rename_i ow2 j h2
    have ej := hof j (by simp [zam])
    rw [ej]
    split at h
    ·rename_i cells hc
     split at h
     ·exact h.elim
     ·split at h
      ·rename_i ti hti
       split at h
       ·rename_i h1
        rw [zd3] at h
        refine ⟨j, _, by simp [stId, hf], h, λ i hi => ?_, λ K' hK' => ?_⟩
        ·rcases zzn (off := 0) hi with hi | rfl
         ·exact .inl ⟨_, hc, hi⟩
         ·exact .inr ⟨_, hg, by simp [zam]⟩
        ·rw [zd3]
         exact hK'
       ·exact h.elim
      ·exact h.elim
    ·exact h.elim
   ·exact h.elim
  ·rename_i v
   obtain ⟨id, o', h1, h2, h3, h4⟩ := z6f hof h
   rw [zco] at h2
   refine ⟨id, o', ?_, h2, λ i hi => .inl ?_, λ K' hK' => h4 _ (by rw [zco]; exact hK')⟩
   ·cases f with
    | r => simp [zam] at h1
    | own j => simp [zam] at h1; subst h1; simp [stId, hf]
    | adr j off => simp [zam] at h1; subst h1; simp [stId, hf]
    | nm j u => exact absurd h (by unfold stv; split <;> exact λ h => h)
   ·have := h3 hi
    cases hq : oget S.O id with
    | none => simp [hq] at this
    | some o => simp only [hq] at this; exact ⟨o, rfl, this⟩
  ·exact h.elim
 ·exact h.elim
end
section
variable {P : Program} {T : TT} {B : Bs} {N : Nat} {a : Act} {w : World} {k : Kp} {g : Env} {Q : Exit -> Act -> World -> Prop}
variable {l : List Oper} {S0 : St} {res : RS} {m : Nat} {F : Nat -> Option TF} {O : Nat -> Option Ow} {D : Nat -> Prop}
theorem zqc : ∀ {L : List (Nat × TF)} {t : Nat} {f : TF}, fget L t = some f -> t ∈ L.map (·.1)
 | [], t, f, h => by simp [fget] at h
 | (u, f0) :: r, t, f, h => by
  rcases zb5 h with ⟨rfl, _⟩ | ⟨_, h⟩
  ·simp
  ·exact List.mem_cons_of_mem _ (zqc h)
theorem zql : ∀ {L : List (Nat × Option Ow)} {t : Nat} {f : Ow}, oget L t = some f -> t ∈ L.map (·.1)
 | [], t, f, h => by simp [oget] at h
 | (u, f0) :: r, t, f, h => by
  rcases za2 h with ⟨rfl, _⟩ | ⟨_, h⟩
  ·simp
  ·exact List.mem_cons_of_mem _ (zql h)
structure LateSt (l : List Oper) (ws : List (List Nat)) (S0 : St) (res : RS) (m : Nat) (o : Oper) (t : TypeId) (x y : Operand) : Prop where
 at_ : l[m]? = some o
 op : o.op = .store t x y
 dst : o.dst = none
 grd : o.guard = none
 need : zjv (Ls l S0 res m) o S0.nx (Cs l S0 res m) ((lget ws m).getD []) = true
 rd : ∀ j s, j < m -> zca l j = some s -> s ∈ zek o -> j ∈ (lget ws m).getD []
theorem z2s (hT : TOk P T) {ws : List (List Nat)} (hL : Looks l ws m) {o : Oper} {t : TypeId} {x y : Operand} (hst : LateSt l ws S0 res m o t x y) (h : Mid B N l S0 res m D none a w k g F O) (hni : ¬ D m) (hws : ∀ j ∈ (lget ws m).getD [], D j)
  {K : St -> Prop} (hsto : sto T (Ls l S0 res m) none t x y K) :
  ∃ id o', stId (Ls l S0 res m) x = some id /\ K ((Ls l S0 res m).set id (some o')) /\ o.wp P a w (λ a' w' => ∃ k' g', Mid B N l S0 res m (λ j => D j \/ j = m) (some (id, o')) a' w' k' g' F O) Q := by
 have hlex := Lk.lex (S0 := S0) (res := res) hL.le hL.dst m (Nat.le_refl _)
 have hfacts : ∀ s ∈ zek o, F s = fget (Ls l S0 res m).F s := by
  intro s hs
  by_cases hx : ∃ j, j < m /\ zca l j = some s
  ·obtain ⟨j, hj, hjt⟩ := hx
   rw [h.lk.hit j s (hws j (hst.rd j s hj hjt hs)) hj hjt, hlex.hit j s hj hj hjt]
  ·rw [hlex.miss s λ j hj _ hjt => hx ⟨j, hj, hjt⟩, h.lk.miss s λ j _ hjm hjt => hx ⟨j, hjm, hjt⟩]
 have hknown : ∀ id ∈ zbg (Ls l S0 res m) o, Kn l S0 res m D id := by
  intro id hid
  have := (zbd.1 hst.need) id hid
  split at this
  ·rename_i hb
   exact .inl (Nat.le_of_ble_eq_true hb)
  ·split at this
   ·rename_i j hj
    obtain ⟨h1, h2, h3⟩ := zqu (zmc hj)
    exact .inr ⟨j, hws j (zbk.1 this), h1, h2, h3⟩
   ·cases this
 have howns : ∀ id ∈ zbg (Ls l S0 res m) o, O id = oget (Ls l S0 res m).O id := by
  intro id hid
  rcases hknown id hid with hlt | ⟨j, hj, hjm, hjs, rfl⟩
  ·have old : ∀ j o, (res j).2 = some o -> j < m -> idAt l S0 res j ≠ id := λ j o ho hjm e => by
    have := zha (l := l) (S0 := S0) (res := res) (Nat.zero_le j) (by have := hL.le; omega)
    simp only [idAt, Ls] at this e
    omega
   rw [h.lk.omiss id λ j o _ hjm ho => old j o ho hjm, hlex.omiss id λ j o _ hjm ho => old j o ho hjm]
  ·obtain ⟨oj, hoj⟩ := Option.isSome_iff_exists.1 hjs
   rw [h.lk.ohit j oj hj hjm hoj, hlex.ohit j oj hjm hjm hoj]
 have hkeyF : ∀ s f, F s = some f -> s ∈ (Ls l S0 res m).F.map (·.1) := by
  intro s f hs
  by_cases hx : ∃ j, j < m /\ zca l j = some s
  ·obtain ⟨j, hj, hjt⟩ := hx
   exact zqc (hlex.hit j s hj hj hjt)
  ·rw [h.lk.miss s λ j _ hjm hjt => hx ⟨j, hjm, hjt⟩] at hs
   exact zqc ((hlex.miss s λ j hj _ hjt => hx ⟨j, hj, hjt⟩).trans hs)
 have hkeyO : ∀ i q, O i = some q -> i ∈ (Ls l S0 res m).O.map (·.1) := by
  intro i q hi
  by_cases hx : ∃ j q', j < m /\ (res j).2 = some q' /\ idAt l S0 res j = i
  ·obtain ⟨j, q', hj, hr, rfl⟩ := hx
   exact zql (hlex.ohit j q' hj hj hr)
  ·rw [h.lk.omiss i λ j q' _ hjm hr he => hx ⟨j, q', hjm, hr, he⟩] at hi
   exact zql ((hlex.omiss i λ j q' hj _ hr he => hx ⟨j, q', hj, hr, he⟩).trans hi)
 obtain ⟨S', hS'⟩ : ∃ S' : St, S' = { F := stF F ((Ls l S0 res m).F.map (·.1)), O := stO O ((Ls l S0 res m).O.map (·.1)), nx := idAt l S0 res m } := ⟨_, rfl⟩
 have eF : fget S'.F = F := by
  funext s
  rw [hS', zos]
  split
  ·rfl
  ·rename_i hn
   cases hs : F s with
   | none => rfl
   | some f => exact absurd (hkeyF s f hs) hn
 have eO : oget S'.O = O := by
  funext s
  rw [hS', zzs]
  split
  ·rfl
  ·rename_i hn
   cases hs : O s with
   | none => rfl
   | some f => exact absurd (hkeyO s f hs) hn
 have enx : S'.nx = idAt l S0 res m := by rw [hS']
 have hsat : SatE B N S' a w k g := SatF.toE (by rw [eF, eO, enx]; exact h.sat)
 have hmem : ∀ z, z = x \/ z = y -> z ∈ o.op.operands.toList := by
  intro z hz
  rw [hst.op]
  rcases hz with rfl | rfl <;> simp [Op.operands]
 have hopr : ∀ z, z ∈ o.op.operands.toList -> opr S' z = opr (Ls l S0 res m) z := by
  intro z hz
  cases z with
  | tmp s => simp only [opr]; rw [eF]; exact hfacts s (List.mem_filterMap.2 ⟨.tmp s, hz, rfl⟩)
  | _ => rfl
 have hids : ∀ z ∈ o.op.operands.toList, ∀ f, opr (Ls l S0 res m) z = some f -> ∀ id ∈ zam f, id ∈ zbg (Ls l S0 res m) o := λ z hz f hf id hid => List.mem_append_left _ (zmb hz hf hid)
 have hmx := hmem x (.inl rfl)
 have hmy := hmem y (.inr rfl)
 obtain ⟨id, o', h1, h2, h3, h4⟩ := z6c (S' := S') (hopr x hmx) (hopr y hmy) (λ f hf id hid => by
  rw [eO]
  rcases hf with hf | hf
  ·exact howns id (hids x hmx f hf id hid)
  ·exact howns id (hids y hmy f hf id hid)) hsto
 have hidx : id ∈ zbg (Ls l S0 res m) o := by
  unfold stId at h1
  split at h1
  ·rename_i j hj; cases h1; exact hids x hmx _ hj _ (by simp [zam])
  ·rename_i j off hj; cases h1; exact hids x hmx _ hj _ (by simp [zam])
  ·cases h1
 refine ⟨id, o', h1, h2, ?_⟩
 have hw := zug (Q := Q) hT hsat hst.op (K := λ S'' => S'' = S'.set id (some o')) (h := by rw [hst.dst]; exact h4 _ rfl)
 refine Oper.wp_mono ?_ hw
 rintro a' w' ⟨S'', k', rfl, g', hs'⟩
 refine ⟨k', g', ?_, h.lk.congr λ j hj => ⟨.inl, λ hh => hh.elim (λ q => q) λ e => by omega⟩, λ s f hf i hi => (h.kF s f hf i hi).mono λ j hj => .inl hj, λ i q hq j hj => (h.kO i q hq j hj).mono λ j hj => .inl hj, λ i q e => ?_, λ i hi hd => ?_⟩
 ·have hh := hs'.toF (Nat.le_refl _)
  have e1 : fget (S'.set id (some o')).F = F := eF
  have e2 : oget (S'.set id (some o')).O = ovr (some (id, o')) O := by
   funext j
   simp only [St.set, ovr, updO, oget]
   by_cases hj : j = id
   ·subst hj; simp
   ·have hb : Nat.beq id j = false := by
     cases hb : Nat.beq id j
     ·rfl
     ·exact absurd (Nat.eq_of_beq_eq_true hb).symm hj
    rw [hb, if_neg hj, eO]
  have e3 : (S'.set id (some o')).nx = idAt l S0 res m := enx
  rw [e1, e2, e3] at hh
  exact hh
 ·cases e
  refine ⟨(hknown id hidx).mono λ j hj => .inl hj, λ i hi => ?_⟩
  refine Kn.mono (λ j hj => .inl hj) ?_
  rcases h3 i hi with ⟨q, hq, hiq⟩ | ⟨f, hf, hif⟩
  ·exact h.kO id q ((howns id hidx).trans hq) i hiq
  ·exact hknown i (hids y hmy f hf i hif)
 ·rcases hd with hd | rfl
  ·have := (h.below i hi hd).2; simp at this
  ·exact ⟨rfl, rfl⟩
end
end
section
section
variable {P : Program} {T : TT} {B : Bs} {N : Nat} {a : Act} {w : World} {k : Kp} {g : Env} {Q : Exit -> Act -> World -> Prop}
variable {l : List Oper} {S0 : St} {res : RS} {m : Nat}
theorem ztz (h : zjf m l = true) : Looks l (zaq [] l) m := by
 simp only [zjf, Bool.and_eq_true, Nat.ble_eq] at h
 obtain ⟨hle, h⟩ := h
 have at_ : ∀ i o, l[i]? = some o -> zjj l (zaq [] l) (m) i o = true := λ i o ho => by
  have := (zbd.1 h) i (List.mem_range.2 (List.getElem?_eq_some_iff.1 ho).1)
  rw [zbp, ho] at this
  exact this
 have blt : ∀ {x y : Nat}, Nat.blt x y = true ↔ x < y := λ {x y} => by simp [Nat.blt]; omega
 have front : ∀ i o, i < m -> l[i]? = some o -> (match o.guard with | none => true | some (g, _) => memB g ((lget (zaq [] l) i).getD []) && Nat.blt g i) = true /\ ∀ j, j < i -> ∃ p, l[j]? = some p /\
   (match p.dst, o.dst with | some d, some e => !(Nat.beq d e) | _, _ => true) = true /\
   (memB j ((lget (zaq [] l) i).getD []) || ((match p.dst with | none => true | some d => !(memB d (zek o))) && (match o.dst with | none => true | some d => !(memB d (zek p))))) = true := by
  intro i o hi ho
  have := at_ i o ho
  simp only [zjj, Bool.and_eq_true] at this
  have h2 := this.2
  rw [if_pos (blt.2 hi)] at h2
  simp only [Bool.and_eq_true] at h2
  refine ⟨h2.1.2, λ j hj => ?_⟩
  have h3 := (zbd.1 h2.2) j (List.mem_range.2 hj)
  rw [zbp] at h3
  split at h3
  ·cases h3
  ·rename_i p hp
   simp only [Bool.and_eq_true] at h3
   exact ⟨p, hp, h3.1, h3.2⟩
 refine ⟨hle, λ i o ho e he => ?_, λ i hi hil j hj => ?_, λ o ho => ?_, λ i j t hi hj hjt hit => ?_, λ i o j want hi ho hg => ?_, λ i j o t hi hj ho hjt ht => ?_, λ i j p t hi hj hp hit ht => ?_⟩
 ·have := at_ i o ho
  simp only [zjj, Bool.and_eq_true] at this
  exact blt.1 ((zbd.1 this.1) e he)
 ·have := at_ i _ (List.getElem?_eq_getElem hil)
  simp only [zjj, Bool.and_eq_true] at this
  have h2 := this.2
  rw [if_neg (by rw [blt]; omega)] at h2
  simp only [Bool.or_eq_true, Bool.and_eq_true] at h2
  rcases h2 with h2 | ⟨h2, _⟩
  ·exact zbk.1 ((zbd.1 h2) j (List.mem_range.2 hj))
  ·have := Nat.eq_of_beq_eq_true h2; omega
 ·have := at_ _ o ho
  simp only [zjj, Bool.and_eq_true] at this
  have h2 := this.2
  rw [if_neg (by rw [blt]; omega)] at h2
  simp only [Bool.or_eq_true, Bool.and_eq_true] at h2
  rcases h2 with h2 | ⟨_, h2⟩
  ·exact .inl λ j hj => zbk.1 ((zbd.1 h2) j (List.mem_range.2 hj))
  ·right
   simp only [z39, Bool.and_eq_true] at h2
   obtain ⟨q1, q2, q3, q4⟩ := h2
   split at q1
   ·rename_i t x y hop
    refine ⟨t, x, y, hop, ?_, ?_, λ j s hj hjs hs => ?_⟩
    ·cases hd : o.dst with
     | none => rfl
     | some d => simp [hd] at q2
    ·cases hg : o.guard with
     | none => rfl
     | some d => simp [hg] at q3
    ·have h3 := (zbd.1 q4) j (List.mem_range.2 hj)
     simp only [Bool.or_eq_true] at h3
     rcases h3 with h3 | h3
     ·exact zbk.1 h3
     ·rw [zbp] at h3
      split at h3
      ·rename_i p hp
       simp only [zca, hp, Option.bind_some] at hjs
       simp [hjs, zbk.2 hs] at h3
      ·cases h3
   ·cases q1
 ·have hil : i < l.length := Nat.lt_of_lt_of_le hi hle
  obtain ⟨p, hp, h1, _⟩ := (front i _ hi (List.getElem?_eq_getElem hil)).2 j hj
  simp only [zca, hp, List.getElem?_eq_getElem hil, Option.bind_some] at hjt hit
  simp [hjt, hit] at h1
 ·have := (front i o hi ho).1
  simp only [hg, Bool.and_eq_true] at this
  exact ⟨zbk.1 this.1, blt.1 this.2⟩
 ·obtain ⟨p, hp, _, h2⟩ := (front i o hi ho).2 j hj
  simp only [zca, hp, Option.bind_some] at hjt
  simp only [hjt, zbk.2 ht, Bool.not_true, Bool.false_and, Bool.or_false] at h2
  exact zbk.1 h2
 ·have hil : i < l.length := Nat.lt_of_lt_of_le hi hle
  obtain ⟨p', hp', _, h2⟩ := (front i _ hi (List.getElem?_eq_getElem hil)).2 j hj
  rw [hp] at hp'
  cases hp'
  simp only [zca, List.getElem?_eq_getElem hil, Option.bind_some] at hit
  simp only [hit, zbk.2 ht, Bool.not_true, Bool.and_false, Bool.or_false] at h2
  exact zbk.1 h2
theorem z61 (h : zjp l = true) : Looks l (zaq [] l) (zcl l) := ztz h
theorem z7e (hL : Looks l (zaq [] l) m) {i : Nat} {o : Oper} (ho : l[i]? = some o) : lget (zaq [] l) i = some (za1 o ++ (za1 o).flatMap λ e => (lget (zaq [] l) e).getD []) := by
 have := zmw (r := l) (acc := []) (j := i) (o := o) (λ k p hp e he => by simpa using hL.edge k p hp e he) ho
 simp only [List.length_nil, Nat.zero_add] at this
 rw [zbp, this]
 simp only [zbp]
theorem zzf {i : Nat} (hi : l.length <= i) : (lget (zaq [] l) i).getD [] = [] := by
 have hlen : ∀ (r : List Oper) (acc : List (List Nat)), (zaq acc r).length = acc.length + r.length := λ r => by
  induction r with
  | nil => intro acc; simp [zaq]
  | cons o r ih => intro acc; simp only [zaq]; rw [ih]; simp; omega
 rw [zbp, List.getElem?_eq_none (by rw [hlen]; simpa using hi)]
 rfl
theorem zna (hL : Looks l (zaq [] l) m) {D : Nat -> Prop} (hc : ∀ i o, D i -> l[i]? = some o -> ∀ e ∈ za1 o, D e) : ∀ i, D i -> ∀ j ∈ (lget (zaq [] l) i).getD [], D j := by
 intro i
 induction i using Nat.strongRecOn with
 | _ i ih =>
  intro hi j hj
  rcases Nat.lt_or_ge i l.length with hil | hil
  ·have ho := List.getElem?_eq_getElem hil
   rw [z7e hL ho] at hj
   simp only [Option.getD_some] at hj
   rcases List.mem_append.1 hj with hj | hj
   ·exact hc i _ hi ho j hj
   ·obtain ⟨e, he, hj⟩ := List.mem_flatMap.1 hj
    exact ih e (hL.edge i _ ho e he) (hc i _ hi ho e he) j hj
  ·rw [zzf hil] at hj; cases hj
theorem z6g (hL : Looks l (zaq [] l) m) {D : Nat -> Prop} (hc : ∀ i o, D i -> l[i]? = some o -> ∀ e ∈ za1 o, D e) {i : Nat} {o : Oper} (ho : l[i]? = some o) (he : ∀ e ∈ za1 o, D e) : ∀ j ∈ (lget (zaq [] l) i).getD [], D j := by
 intro j hj
 rw [z7e hL ho] at hj
 simp only [Option.getD_some] at hj
 rcases List.mem_append.1 hj with hj | hj
 ·exact he j hj
 ·obtain ⟨e, he', hj⟩ := List.mem_flatMap.1 hj
  exact zna hL hc e (he e he') j hj
theorem zm3 {p : Nat -> Prop} (h : ∃ n, p n) : ∃ n, p n /\ ∀ m, p m -> n <= m := by
 obtain ⟨n, hn⟩ := h
 induction n using Nat.strongRecOn with
 | _ n ih =>
  by_cases hm : ∃ m, m < n /\ p m
  ·obtain ⟨m, hlt, hp⟩ := hm
   exact ih m hlt hp
  ·exact ⟨n, hn, λ m hp => Nat.le_of_not_lt λ hlt => hm ⟨m, hlt, hp⟩⟩
def Now (P : Program) (T : TT) (B : Bs) (N : Nat) (l : List Oper) (S0 : St) (res : RS) (m : Nat) (K : St -> Prop) (D : Nat -> Prop) (a : Act) (w : World) : Prop :=
 (∃ k g F O, Mid B N l S0 res m D none a w k g F O) \/ (∃ k g F O id o', Mid B N l S0 res m D (some (id, o')) a w k g F O /\ D m /\ m < l.length /\ (∀ j oj, j < m -> ¬ D j -> l[j]? = some oj -> id ∉ zbg (Ls l S0 res j) oj) /\ runv P T l (l.drop (m + 1)) ((Ls l S0 res m).set id (some o')) K) \/ ∃ t S k, m <= t /\ t <= l.length /\ (∀ j, D j ↔ j < t) /\ Sat B N S a w k /\ runv P T l (l.drop t) S K
theorem z81 (hL : Looks l (zaq [] l) m) {D : Nat -> Prop} {F : Nat -> Option TF} {O : Nat -> Option Ow} (h : Mid B N l S0 res m D none a w k g F O) (hall : ∀ j, j < m -> D j) : Sat B N (Ls l S0 res m) a w k := by
 obtain ⟨e1, e2⟩ := (h.lk.congr (D' := λ j => j < m) λ j hj => ⟨λ _ => hj, λ _ => hall j hj⟩).unique (Lk.lex hL.le hL.dst m (Nat.le_refl _))
 have := h.sat
 rw [e1, e2] at this
 exact ⟨g, this.toE⟩
theorem z62 (hL : Looks l (zaq [] l) m) {D : Nat -> Prop} {F : Nat -> Option TF} {O : Nat -> Option Ow} {id : Nat} {o' : Ow} (h : Mid B N l S0 res m D (some (id, o')) a w k g F O) (hall : ∀ j, j < m -> D j) : Sat B N ((Ls l S0 res m).set id (some o')) a w k := by
 obtain ⟨e1, e2⟩ := (h.lk.congr (D' := λ j => j < m) λ j hj => ⟨λ _ => hj, λ _ => hall j hj⟩).unique (Lk.lex hL.le hL.dst m (Nat.le_refl _))
 have := h.sat
 rw [e1, e2] at this
 have e3 : ovr (some (id, o')) (oget (Ls l S0 res m).O) = oget ((Ls l S0 res m).set id (some o')).O := by
  funext j
  simp only [St.set, ovr, updO, oget]
  by_cases hj : j = id
  ·subst hj; simp
  ·have hb : Nat.beq id j = false := by
    cases hb : Nat.beq id j
    ·rfl
    ·exact absurd (Nat.eq_of_beq_eq_true hb).symm hj
   rw [hb, if_neg hj]
 rw [e3] at this
 exact ⟨g, SatF.toE (S := (Ls l S0 res m).set id (some o')) this⟩
theorem zxj (hL : Looks l (zaq [] l) m) {K : St -> Prop} (hrun : runv P T l (l.drop m) (Ls l S0 res m) K) {D : Nat -> Prop} (h : Now P T B N l S0 res m K D a w) :
  (∃ k g F O j0, Mid B N l S0 res m D none a w k g F O /\ j0 < m /\ ¬ D j0) \/ (∃ k g F O id o' j0, Mid B N l S0 res m D (some (id, o')) a w k g F O /\ D m /\ m < l.length /\ (∀ j oj, j < m -> ¬ D j -> l[j]? = some oj -> id ∉ zbg (Ls l S0 res j) oj) /\ runv P T l (l.drop (m + 1)) ((Ls l S0 res m).set id (some o')) K /\ j0 < m /\ ¬ D j0) \/ ∃ t S k, m <= t /\ t <= l.length /\ (∀ j, D j ↔ j < t) /\ Sat B N S a w k /\ runv P T l (l.drop t) S K := by
 rcases h with ⟨k, g, F, O, h⟩ | ⟨k, g, F, O, id, o', h, hDm, hml, hid, hrun'⟩ | h
 ·by_cases hx : ∃ j0, j0 < m /\ ¬ D j0
  ·obtain ⟨j0, h1, h2⟩ := hx
   exact .inl ⟨k, g, F, O, j0, h, h1, h2⟩
  ·have hall : ∀ j, j < m -> D j := λ j hj => Classical.byContradiction λ hn => hx ⟨j, hj, hn⟩
   refine .inr (.inr ⟨m, _, k, Nat.le_refl _, hL.le, λ j => ⟨λ hj => ?_, hall j⟩, z81 hL h hall, hrun⟩)
   exact Classical.byContradiction λ hn => absurd (h.below j (by omega) hj).2 (by simp)
 ·by_cases hx : ∃ j0, j0 < m /\ ¬ D j0
  ·obtain ⟨j0, h1, h2⟩ := hx
   exact .inr (.inl ⟨k, g, F, O, id, o', j0, h, hDm, hml, hid, hrun', h1, h2⟩)
  ·have hall : ∀ j, j < m -> D j := λ j hj => Classical.byContradiction λ hn => hx ⟨j, hj, hn⟩
   refine .inr (.inr ⟨m + 1, _, k, Nat.le_succ _, hml, λ j => ⟨λ hj => ?_, λ hj => ?_⟩, z62 hL h hall, hrun'⟩)
   ·rcases Nat.lt_or_ge j m with hlt | hge
    ·omega
    ·have := (h.below j hge hj).1; omega
   ·rcases Nat.lt_or_ge j m with hlt | hge
    ·exact hall j hlt
    ·obtain rfl : j = m := by omega
     exact hDm
 ·exact .inr (.inr h)
theorem z6m (hm : P.follows .mixedOrders = true) (hT : TOk P T) (hN : ∀ o ∈ l, ∀ d, o.dst = some d -> d < N) (hL : Looks l (zaq [] l) m) (hstp : ∀ j, j < m -> Stp P T l (zaq [] l) S0 res j)
  (h0 : ∀ id o, oget S0.O id = some o -> id < S0.nx) {K : St -> Prop} (hend : zih l (zaq [] l) S0 res m) (hrun : runv P T l (l.drop m) (Ls l S0 res m) K) (hQ : ∀ S' a' w' k', K S' -> Sat B N S' a' w' k' -> Q .normal a' w') :
  ∀ (fuel : Nat) (listed : Array Bool) (a : Act) (w : World), listed.size = l.length -> listed.toList.count false = fuel ->
   (∀ i o, listed.getD i false = true -> l[i]? = some o -> ∀ e ∈ za1 o, listed.getD e false = true) -> Now P T B N l S0 res m K (λ j => listed.getD j false = true) a w -> wpAny P .any l.toArray Q fuel listed a w := by
 intro fuel
 induction fuel with
 | zero =>
  intro listed a w hsz hcnt hcl hnow
  have hall : ∀ i, i < l.length -> listed.getD i false = true := λ i hi => by
   have hlt : i < listed.size := by omega
   have hne := List.count_eq_zero.1 hcnt
   have hmem : listed[i] ∈ listed.toList := by simp
   cases hb : listed[i] with
   | true => simp [hlt, hb]
   | false => rw [hb] at hmem; exact absurd hmem hne
  have hempty : Region.ready .any l.toArray listed = [] := by
   cases hr : Region.ready .any l.toArray listed with
   | nil => rfl
   | cons x xs =>
    have hx : x ∈ Region.ready .any l.toArray listed := by rw [hr]; simp
    obtain ⟨h1, o, ho, _⟩ := mem_ready.1 hx
    have hxl : x < l.length := by
     have := (Array.getElem?_eq_some_iff.1 ho).1
     simpa using this
    have := hall x hxl
    have hlt : x < listed.size := by omega
    simp [hlt] at h1 this
    rw [h1] at this; cases this
  refine ⟨hempty, ?_⟩
  rcases zxj hL hrun hnow with ⟨k, g, F, O, j0, h, h1, h2⟩ | ⟨k, g, F, O, id, o', j0, h, _, _, _, _, h1, h2⟩ | ⟨t, S, k, h1, h2, h3, h4, h5⟩
  ·exact absurd (hall j0 (by have := hL.le; omega)) h2
  ·exact absurd (hall j0 (by have := hL.le; omega)) h2
  ·obtain rfl : t = l.length := by
    rcases Nat.lt_or_ge t l.length with h | h
    ·have := (h3 t).1 (hall t h); omega
    ·omega
   rw [List.drop_length] at h5
   exact hQ S a w k h5 h4
 | succ fuel ih =>
  intro listed a w hsz hcnt hcl hnow
  have unl : ∀ i, i < l.length -> (listed.getD i true = false ↔ ¬ listed.getD i false = true) := λ i hi => by
   have hlt : i < listed.size := by omega
   simp [hlt]
  refine ⟨λ hempty => ?_, λ i hi => ?_⟩
  ·-- somebody is ready
   exfalso
   have hmem : false ∈ listed.toList := by
    rcases Classical.em (false ∈ listed.toList) with h | h
    ·exact h
    ·rw [List.count_eq_zero.2 h] at hcnt; cases hcnt
   obtain ⟨i, hi⟩ := List.getElem?_of_mem hmem
   have hex : ∃ i, i < l.length /\ ¬ listed.getD i false = true := by
    have hlt := (List.getElem?_eq_some_iff.1 hi).1
    rw [Array.length_toList] at hlt
    refine ⟨i, by omega, ?_⟩
    have : listed[i]? = some false := by simpa using hi
    simp [this]
   obtain ⟨i, ⟨hil, hin⟩, hleast⟩ := zm3 hex
   have hrd : i ∈ Region.ready .any l.toArray listed := by
    refine mem_ready.2 ⟨(unl i hil).2 hin, l[i], by simp [hil], λ e he hb => ?_⟩
    have hee : e.on ∈ za1 l[i] := List.mem_filterMap.2 ⟨e, by simpa using he, by simp [hb]⟩
    have hlt := hL.edge i _ (List.getElem?_eq_getElem hil) _ hee
    exact Classical.byContradiction λ hn => by
     have := hleast e.on ⟨by omega, hn⟩
     omega
   rw [hempty] at hrd
   cases hrd
  ·obtain ⟨h1, o, ho, hedge⟩ := mem_ready.1 hi
   have hoi : l[i]? = some o := by simpa using ho
   have hil : i < l.length := (List.getElem?_eq_some_iff.1 hoi).1
   have hni : ¬ listed.getD i false = true := (unl i hil).1 h1
   have hed : ∀ e ∈ za1 o, listed.getD e false = true := λ e he => by
    obtain ⟨x, hx, hxe⟩ := List.mem_filterMap.1 he
    split at hxe
    ·rename_i hb
     cases hxe
     exact hedge x (by simpa using hx) hb
    ·cases hxe
   have hws := z6g (D := λ j => listed.getD j false = true) hL hcl hoi hed
   have hget : ∀ j, (listed.setIfInBounds i true).getD j false = true ↔ (listed.getD j false = true \/ j = i) := λ j => by
    have hlt : i < listed.size := by omega
    by_cases hji : j = i
    ·subst hji; simp [hlt]
    ·have : i ≠ j := λ e => hji e.symm
     simp [Array.getElem?_setIfInBounds_ne this, hji]
   have hcl' : ∀ x p, (listed.setIfInBounds i true).getD x false = true -> l[x]? = some p -> ∀ e ∈ za1 p, (listed.setIfInBounds i true).getD e false = true := λ x p hx hp e he => by
    rw [hget]
    rcases (hget x).1 hx with hx | rfl
    ·exact .inl (hcl x p hx hp e he)
    ·rw [hoi] at hp; cases hp
     exact .inl (hed e he)
   have hcnt' : (listed.setIfInBounds i true).toList.count false = fuel := by
    have hlt : i < listed.toList.length := by rw [Array.length_toList]; omega
    have hlt' : i < listed.size := by omega
    have hv : listed.toList[i] = false := by
     have : listed[i]? = some listed[i] := Array.getElem?_eq_getElem hlt'
     simp [hlt'] at hni
     simpa using hni
    rw [Array.toList_setIfInBounds, List.count_set hlt, hcnt, hv]
    simp
   have next : ∀ a' w', Now P T B N l S0 res m K (λ j => (listed.setIfInBounds i true).getD j false = true) a' w' -> wpAny P .any l.toArray Q fuel (listed.setIfInBounds i true) a' w' :=
    λ a' w' h => ih _ a' w' (by simpa using hsz) hcnt' hcl' h
   rcases zxj hL hrun hnow with ⟨k, g, F, O, j0, h, hj0, hn0⟩ | ⟨k, g, F, O, id, o', j0, h, hDm, hml, hid, hrun2, hj0, hn0⟩ | ⟨t, S, k, ht1, ht2, ht3, hsat, hrv⟩
   ·rcases Nat.lt_or_ge i m with him | hge
    case inr =>
     obtain rfl : i = m := by
      rcases Nat.eq_or_lt_of_le hge with e | hlt
      ·exact e.symm
      ·exact absurd (hws j0 (hL.back i hlt hil j0 (by omega))) hn0
     rcases hL.late o hoi with hall | ⟨t, x, y, hop, hdst, hgrd, hrd⟩
     ·exact absurd (hws j0 (hall j0 hj0)) hn0
     have hE := hend o hoi
     simp only [Bool.or_eq_true] at hE
     rcases hE with hE | hE
     ·exact absurd (hws j0 (zbk.1 ((zbd.1 hE) j0 (List.mem_range.2 hj0)))) hn0
     simp only [zso, hop, Bool.and_eq_true] at hE
     obtain ⟨hneed, hE⟩ := hE
     have hdrop : l.drop i = o :: l.drop (i + 1) := by
      rw [List.drop_eq_getElem_cons hil]
      congr 1
      have := List.getElem?_eq_getElem hil
      rw [hoi] at this
      exact (Option.some.inj this).symm
     have hrun' := hrun
     rw [hdrop] at hrun'
     simp only [runv, hgrd, zil, zvg, hop, hdst] at hrun'
     obtain ⟨id, o', hid, hK, hwp⟩ := z2s (Q := Q) hT hL ⟨hoi, hop, hdst, hgrd, hneed, hrd⟩ h hni hws hrun'
     rw [hid] at hE
     simp only at hE
     unfold wpOp
     simp only [ho]
     rw [if_pos (by simp [Region.wanted, hgrd])]
     refine .inl (Oper.wp_mono ?_ hwp)
     rintro a' w' ⟨k', g', h'⟩
     refine next a' w' (.inr (.inl ⟨k', g', F, O, id, o', ⟨h'.sat, h'.lk.congr λ j _ => (hget j).symm, λ t f hf id hid => (h'.kF t f hf id hid).mono λ j hj => (hget j).2 hj, λ x o' ho' id hid => (h'.kO x o' ho' id hid).mono λ j hj => (hget j).2 hj, λ x q e => ⟨(h'.kx x q e).1.mono λ j hj => (hget j).2 hj, λ z hz => ((h'.kx x q e).2 z hz).mono λ j hj => (hget j).2 hj⟩, λ x hx hh => h'.below x hx ((hget x).1 hh)⟩, (hget i).2 (.inr rfl), hil, λ j oj hj hnj hoj => ?_, hK⟩))
     have := (zbd.1 hE) _ (z2k hj hoj)
     simp only [Bool.or_eq_true, Bool.not_eq_true'] at this
     rcases this with this | this
     ·exact absurd ((hget j).2 (.inl (hws j (zbk.1 this)))) hnj
     ·intro hm
      rw [zbk.2 hm] at this
      cases this
    refine zwk hm hT hN hL hstp h0 h (λ x o' o e => by cases e) him hni hws (zna hL hcl) λ a' w' k' g' F' O' h' => next a' w' (.inl ⟨k', g', F', O', ?_⟩)
    exact ⟨h'.sat, h'.lk.congr λ j _ => (hget j).symm, λ t f hf id hid => (h'.kF t f hf id hid).mono λ j hj => (hget j).2 hj, λ x o' ho' id hid => (h'.kO x o' ho' id hid).mono λ j hj => (hget j).2 hj, λ x o e => (by cases e), λ x hx hh => h'.below x hx ((hget x).1 hh)⟩
   ·have him : i < m := by
     rcases Nat.lt_or_ge i m with h1 | h1
     ·exact h1
     ·rcases Nat.eq_or_lt_of_le h1 with e | hlt
      ·exact absurd (e ▸ hDm) hni
      ·exact absurd (hws j0 (hL.back i hlt hil j0 (by omega))) hn0
    refine zwk hm hT hN hL hstp h0 h (λ x q o2 e ho2 => by cases e; exact hid i o2 him hni ho2) him hni hws (zna hL hcl) λ a' w' k' g' F' O' h' => next a' w' (.inr (.inl ⟨k', g', F', O', id, o', ?_, (hget m).2 (.inl hDm), hml, λ j oj hj hnj hoj => hid j oj hj (λ hh => hnj ((hget j).2 (.inl hh))) hoj, hrun2⟩))
    exact ⟨h'.sat, h'.lk.congr λ j _ => (hget j).symm, λ t f hf id hid => (h'.kF t f hf id hid).mono λ j hj => (hget j).2 hj, λ x o' ho' id hid => (h'.kO x o' ho' id hid).mono λ j hj => (hget j).2 hj, λ x q e => ⟨(h'.kx x q e).1.mono λ j hj => (hget j).2 hj, λ z hz => ((h'.kx x q e).2 z hz).mono λ j hj => (hget j).2 hj⟩, λ x hx hh => h'.below x hx ((hget x).1 hh)⟩
   ·have hit : i = t := by
     have h1 : ¬ i < t := λ hh => hni ((ht3 i).2 hh)
     rcases Nat.lt_or_ge t i with hlt | hge
     ·have h2 := (ht3 t).1 (hws t (hL.back i (by omega) hil t hlt))
      omega
     ·omega
    subst hit
    have hdrop : l.drop i = o :: l.drop (i + 1) := by
     rw [List.drop_eq_getElem_cons hil]
     congr 1
     have := List.getElem?_eq_getElem hil
     rw [hoi] at this
     exact (Option.some.inj this).symm
    rw [hdrop] at hrv
    have hhd := zn3 (Q := Q) hT (hN o (List.mem_of_getElem? hoi)) hsat hrv
    have nx2 : ∀ a' w', (∃ S' k', runv P T l (l.drop (i + 1)) S' K /\ Sat B N S' a' w' k') -> wpAny P .any l.toArray Q fuel (listed.setIfInBounds i true) a' w' := λ a' w' ⟨S', k', hr', hs'⟩ =>
     next a' w' (.inr (.inr ⟨i + 1, S', k', by omega, by omega, λ j => (hget j).trans ((or_congr (ht3 j) Iff.rfl).trans (by omega)), hs', hr'⟩))
    unfold wpOp
    simp only [ho]
    split at hhd
    ·rename_i hw
     rw [if_pos hw]
     exact .inl (Oper.wp_mono nx2 hhd)
    ·rename_i hw
     rw [if_neg hw]
     exact nx2 _ _ hhd
theorem zki (hm : P.follows .mixedOrders = true) (hT : TOk P T) {ops : Array Oper} {S : St} (hN : ∀ o ∈ ops.toList, ∀ d, o.dst = some d -> d < N) {K : St -> Prop} (hs : Sat B N S a w k) (hL : Looks ops.toList (zaq [] ops.toList) m) (hstp : ∀ j, j < m -> Stp P T ops.toList (zaq [] ops.toList) S res j) (hend : zih ops.toList (zaq [] ops.toList) S res m) (hrun : runv P T ops.toList (ops.toList.drop m) (Ls ops.toList S res m) K) (hQ : ∀ S' a' w' k', K S' -> Sat B N S' a' w' k' -> Q .normal a' w') : wpAny P .any ops Q ops.size (Array.replicate ops.size false) a { w with drawn := w.drawn + 1 } := by
 obtain ⟨g, hs⟩ := hs
 have h0 : ∀ i o, oget S.O i = some o -> i < S.nx := λ i o ho => (hs.owns i o ho).1
 have hs' : SatE B N S a { w with drawn := w.drawn + 1 } k g := hs.ext (w' := { w with drawn := w.drawn + 1 }) ⟨rfl, rfl, rfl, Nat.le_refl _, λ _ _ => rfl⟩ λ _ _ => rfl
 have hnx : S.nx <= idAt ops.toList S res m := by
  have := zha (l := ops.toList) (S0 := S) (res := res) (Nat.zero_le m) hL.le
  simpa only [idAt, Ls] using this
 have := z6m (Q := Q) (B := B) (N := N) hm hT hN hL hstp h0 hend hrun hQ ops.size (Array.replicate ops.size false) a { w with drawn := w.drawn + 1 } (by simp) (by simp) (λ i o hi => by
  exfalso
  rw [Array.getD_eq_getD_getElem?] at hi
  by_cases hlt : i < ops.size
  ·simp [hlt] at hi
  ·simp [hlt] at hi) (.inl ⟨k, g, fget S.F, oget S.O, ?_⟩)
 ·simpa using this
 ·refine ⟨hs'.toF hnx, ⟨λ j t hj => absurd hj (by by_cases hlt : j < ops.size <;> simp [hlt]), λ t _ => rfl, λ j o hj => absurd hj (by by_cases hlt : j < ops.size <;> simp [hlt]), λ i _ => rfl⟩, λ t f hf i hi => .inl ?_, λ i o ho j hj => .inl ?_, λ x o e => (by cases e), λ i _ hh => absurd hh (by by_cases hlt : i < ops.size <;> simp [hlt])⟩
  ·have := (hs.facts t f hf).1
   cases f <;> simp [zam] at hi <;> subst hi <;> exact this
  ·have := (hs.owns i o ho).2.1
   cases o with
   | ch => simp [zcs] at hj
   | gen => simp [zcs] at hj
   | box cells =>
    obtain ⟨f, hf, hid⟩ := List.mem_flatMap.1 hj
    have := this f hf
    cases f <;> simp [zam] at hid <;> subst hid <;> exact this
theorem zk9 (hm : P.follows .mixedOrders = true) (hT : TOk P T) {ops : Array Oper} {S : St} (hN : ∀ o ∈ ops.toList, ∀ d, o.dst = some d -> d < N) {K : St -> Prop} (hs : Sat B N S a w k) (hok : zjp ops.toList = true)
  (h : rund P T ops.toList (zaq [] ops.toList) S.nx 0 ops.toList S [] [] K) (hQ : ∀ S' a' w' k', K S' -> Sat B N S' a' w' k' -> Q .normal a' w') : wpAny P .any ops Q ops.size (Array.replicate ops.size false) a { w with drawn := w.drawn + 1 } := by
 obtain ⟨res, _, hstp, hend, hrun⟩ := zr9 (l := ops.toList) (S0 := S) (K := K) ops.toList 0 (λ _ => (.r .any, none)) rfl h
 simp only [Nat.zero_add] at hstp hrun hend
 exact zki hm hT hN hs (z61 hok) (λ j hj => hstp j (Nat.zero_le _) hj) hend hrun hQ
theorem zvv (hm : P.follows .mixedOrders = true) (hT : TOk P T) {id : Nat} {ops : Array Oper} {S : St} (hN : ∀ o ∈ ops.toList, ∀ d, o.dst = some d -> d < N) {K : St -> Prop} (hs : Sat B N S a w k)
  (h : Vcut_ P T ops.toList S K) (hQ : ∀ S' a' w' k', K S' -> Sat B N S' a' w' k' -> Q .normal a' w') : (Code.region id ops true).wp P Q a w := by
 obtain ⟨m, hok, h⟩ := h
 obtain ⟨res, _, hstp, hend, hrun⟩ := zpa (l := ops.toList) (S0 := S) (K := K) m ops.toList 0 (λ _ => (.r .any, none)) rfl h
 simp only [Nat.zero_add] at hstp hrun hend
 exact wp_region_any hm (zki hm hT hN hs (ztz hok) (λ j hj => hstp j (Nat.zero_le _) hj) hend hrun hQ)
theorem zvb (hm : P.follows .mixedOrders = true) (hT : TOk P T) {id : Nat} {ops : Array Oper} {S : St} (hN : ∀ o ∈ ops.toList, ∀ d, o.dst = some d -> d < N) {K : St -> Prop} (hs : Sat B N S a w k) (hok : zjp ops.toList = true)
  (h : rund P T ops.toList (zaq [] ops.toList) S.nx 0 ops.toList S [] [] K) (hQ : ∀ S' a' w' k', K S' -> Sat B N S' a' w' k' -> Q .normal a' w') : (Code.region id ops true).wp P Q a w :=
 wp_region_any hm (zk9 hm hT hN hs hok h hQ)
theorem znz : ∀ {l l' : List Oper} {o : Oper}, zg7 l = some (l', o) -> l = l' ++ [o]
 | [], _, _, h => by simp [zg7] at h
 | x :: r, l', o, h => by
  simp only [zg7] at h
  split at h
  ·rename_i l2 y hr
   cases h
   rw [znz hr]; rfl
  ·rename_i hr
   cases h
   cases r with
   | nil => rfl
   | cons y r =>
    simp only [zg7] at hr
    split at hr <;> cases hr
theorem z1e {l : List Oper} {o : Oper} {d : Nat} {v : Value} (h : z0f l o = some (d, v)) :
  o.op = .move (.const v) /\ o.dst = some d /\ o.guard = none /\ o.after = #[] /\ ∀ p ∈ l, d ∉ zek p /\ p.dst ≠ some d /\ (∀ cs b, p.op ≠ .select cs b) /\ ∀ g b, p.guard = some (g, b) -> g < l.length := by
 unfold z0f at h
 split at h
 ·rename_i v' d' h1 h2 h3 h4
  split at h
  ·rename_i hall
   cases h
   refine ⟨h1, h2, h3, by apply Array.ext'; simpa using h4, λ p hp => ?_⟩
   have := (zbd.1 hall) p hp
   simp only [Bool.and_eq_true, Bool.not_eq_true'] at this
   obtain ⟨q1, q2, q3, q4⟩ := this
   refine ⟨λ hm => ?_, λ e => ?_, λ cs b e => ?_, λ g b e => ?_⟩
   ·rw [zbk.2 hm] at q1; cases q1
   ·rw [e] at q2; simp at q2
   ·rw [e] at q3; simp [z65] at q3
   ·rw [e] at q4; simp [Nat.blt] at q4; omega
  ·cases h
 ·cases h
theorem z1u {l : List Oper} {o : Oper} (hed : ∀ (j : Nat) (p : Oper), l[j]? = some p -> ∀ e ∈ p.after, Region.binds .any e = true -> e.on < l.length) (hg : ∀ (j : Nat) (p : Oper), l[j]? = some p -> ∀ g b, p.guard = some (g, b) -> g < l.length) :
  ∀ (fuel : Nat) (listed : Array Bool) (a : Act) (w : World), listed.size = l.length -> wpAny P .any l.toArray Q fuel listed a w -> wpAny P .any (l ++ [o]).toArray Q fuel (listed.push true) a w := by
 have hready : ∀ (listed : Array Bool), listed.size = l.length -> ∀ j, j ∈ Region.ready .any (l ++ [o]).toArray (listed.push true) ↔ j ∈ Region.ready .any l.toArray listed := by
  intro listed hsz j
  rw [mem_ready, mem_ready]
  simp only [List.getElem?_toArray, Array.getD_eq_getD_getElem?, Array.getElem?_push, hsz]
  rcases Nat.lt_or_ge j l.length with hj | hj
  ·rw [if_neg (by omega), List.getElem?_append_left hj]
   constructor
   ·rintro ⟨h0, p, hp, hall⟩
    refine ⟨h0, p, hp, λ e he hb => ?_⟩
    have := hall e he hb
    rwa [if_neg (by have := hed j p hp e he hb; omega)] at this
   ·rintro ⟨h0, p, hp, hall⟩
    refine ⟨h0, p, hp, λ e he hb => ?_⟩
    rw [if_neg (by have := hed j p hp e he hb; omega)]
    exact hall e he hb
  ·constructor
   ·rintro ⟨h0, _⟩
    split at h0
    ·simp at h0
    ·rw [Array.getElem?_eq_none (by omega)] at h0; simp at h0
   ·rintro ⟨h0, p, hp, _⟩
    rw [List.getElem?_eq_none hj] at hp; cases hp
 intro fuel
 induction fuel with
 | zero =>
  intro listed a w hsz h
  refine ⟨?_, h.2⟩
  rw [List.eq_nil_iff_forall_not_mem]
  intro j hj
  have := (hready listed hsz j).1 hj
  rw [h.1] at this; simp at this
 | succ fuel ih =>
  intro listed a w hsz h
  refine ⟨λ he => h.1 ?_, λ j hj => ?_⟩
  ·rw [List.eq_nil_iff_forall_not_mem]
   intro j hj
   have := (hready listed hsz j).2 hj
   rw [he] at this; simp at this
  ·have hj' := (hready listed hsz j).1 hj
   have hw := h.2 j hj'
   have hlt : j < l.length := by
    obtain ⟨_, p, hp, _⟩ := mem_ready.1 hj'
    simpa using (Array.getElem?_eq_some_iff.1 hp).1
   have e1 : (listed.push true).setIfInBounds j true = (listed.setIfInBounds j true).push true := by
    apply Array.ext'
    simp only [Array.toList_setIfInBounds, Array.toList_push]
    rw [List.set_append_left _ _ (by rw [Array.length_toList]; omega)]
   rw [e1]
   obtain ⟨p, hp⟩ : ∃ p, l[j]? = some p := ⟨l[j], List.getElem?_eq_getElem hlt⟩
   unfold wpOp at hw ⊢
   have hp1 : l.toArray[j]? = some p := by simpa using hp
   have hp2 : (l ++ [o]).toArray[j]? = some p := by simpa [List.getElem?_append_left hlt] using hp
   rw [hp1] at hw
   rw [hp2]
   simp only at hw ⊢
   have hwant : Region.wanted p (yielded (l ++ [o]).toArray a.tmps) = Region.wanted p (yielded l.toArray a.tmps) := by
    unfold Region.wanted
    cases hpg : p.guard with
    | none => rfl
    | some gw =>
     obtain ⟨gi, b⟩ := gw
     have := hg j p hp gi b hpg
     simp only [yielded, List.getElem?_toArray, List.getElem?_append_left this]
   rw [hwant]
   split at hw
   ·rename_i hc
    rw [if_pos hc]
    rcases hw with hw | hw
    ·exact .inl (Oper.wp_mono (λ a' w' h' => ih _ a' w' (by simpa using hsz) h') hw)
    ·exact .inr hw
   ·rename_i hc
    rw [if_neg hc]
    exact ih _ _ _ (by simpa using hsz) hw
theorem zuy (hm : P.follows .mixedOrders = true) (hT : TOk P T) {id : Nat} {ops : Array Oper} {S : St} (hN : ∀ o ∈ ops.toList, ∀ d, o.dst = some d -> d < N) {K : St -> Prop} (hs : Sat B N S a w k)
  {l : List Oper} {d : Nat} {v : Value} (hf : zps ops.toList = some (l, d, v)) (hok : zjp l = true)
  (h : rund P T l (zaq [] l) S.nx 0 l (S.put (some d) (.r (ofC v))) [] [] K) (hQ : ∀ S' a' w' k', K S' -> Sat B N S' a' w' k' -> Q .normal a' w') : (Code.region id ops true).wp P Q a w := by
 unfold zps at hf
 split at hf
 ·rename_i l' o hsp
  split at hf
  ·rename_i d' v' hfb
   cases hf
   have hops : ops = (l ++ [o]).toArray := by apply Array.ext'; simpa using znz hsp
   subst hops
   obtain ⟨hop, hdst, hgd, haf, hall⟩ := z1e hfb
   have hlim : ∀ (j : Nat) (p : Oper), l[j]? = some p -> (∀ e ∈ p.after, Region.binds .any e = true -> e.on < l.length) /\ ∀ g b, p.guard = some (g, b) -> g < l.length := by
    intro j p hp
    have hj := (List.getElem?_eq_some_iff.1 hp).1
    simp only [zjp, zjf, Bool.and_eq_true] at hok
    have h1 := (zbd.1 hok.2) j (List.mem_range.2 hj)
    simp only [zbp, hp] at h1
    simp only [zjj, Bool.and_eq_true] at h1
    refine ⟨λ e he hb => ?_, λ g b hpg => ?_⟩
    ·have := (zbd.1 h1.1) e.on (List.mem_filterMap.2 ⟨e, by simpa using he, by simp [hb]⟩)
     simp [Nat.blt] at this
     omega
    ·exact (hall p (List.mem_of_getElem? hp)).2.2.2 g b hpg
   let Qn : Exit -> Act -> World -> Prop := λ e a w => match e with
    | .normal => Q .normal a w
    | _ => False
   obtain ⟨g, hs⟩ := hs
   have hd : d < N := hN o (by simp) d hdst
   have hput : Sat B N (S.put (some d) (.r (ofC v))) (a.put (some d) v) w k := ⟨g, hs.put (λ x hx => by cases hx; exact hd) trivial (zvu v)⟩
   have hstart := zk9 (Q := Qn) (ops := l.toArray) hm hT (λ p hp => hN p (by simp at hp ⊢; exact .inl hp)) hput (by simpa using hok) (by rw [List.toList_toArray]; exact h) hQ
   have hpush := z1u (Q := Qn) (o := o) (λ j p hp => (hlim j p hp).1) (λ j p hp => (hlim j p hp).2) _ _ _ _ (by simp) hstart
   have hoi : ((l ++ [o]).toArray)[l.length]? = some o := by simp
   have hfirst := wpAny_first (Q := Qn) (md := .any) (v := v) hoi (λ j p cs b hp e => by
    have hp' : (l ++ [o])[j]? = some p := by simpa using hp
    rcases Nat.lt_or_ge j l.length with hj | hj
    ·rw [List.getElem?_append_left hj] at hp'
     exact (hall p (List.mem_of_getElem? hp')).2.2.1 cs b e
    ·rw [List.getElem?_append_right hj] at hp'
     have : j - l.length = 0 := by have := (List.getElem?_eq_some_iff.1 hp').1; simp at this; omega
     rw [this] at hp'
     simp at hp'
     rw [<- hp', hop] at e; cases e) (λ c a w h => h.elim) l.length (Array.replicate (l.length + 1) false) a { w with drawn := w.drawn + 1 } (λ j p hp hne hun hno => by
    have hp' : (l ++ [o])[j]? = some p := by simpa using hp
    have hj : j < l.length := by have := (List.getElem?_eq_some_iff.1 hp').1; simp at this; omega
    rw [List.getElem?_append_left hj] at hp'
    obtain ⟨q1, q2, q3, q4⟩ := hall p (List.mem_of_getElem? hp')
    have hlook : d ∉ p.looksAt (l ++ [o]).toArray := by
     intro hm
     rcases List.mem_append.1 hm with hm | hm
     ·exact q1 hm
     ·cases hpg : p.guard with
      | none => simp [hpg] at hm
      | some gw =>
       obtain ⟨gi, b⟩ := gw
       have hgl := q4 gi b hpg
       simp only [hpg, List.getElem?_toArray, List.getElem?_append_left hgl, Option.mem_toList] at hm
       rw [List.getElem?_eq_getElem hgl] at hm
       exact (hall _ (List.getElem_mem hgl)).2.1 (by simpa using hm)
    have hlook0 : ∀ x, x ∉ o.looksAt (l ++ [o]).toArray := λ x hx => by
     simp [Oper.looksAt, hop, hgd, Op.operands] at hx
    unfold Oper.apart
    rw [hdst]
    simp only [Bool.and_eq_true, Bool.not_eq_true', bne_iff_ne, ne_eq]
    refine ⟨⟨by simpa using hlook, q2⟩, ?_⟩
    cases p.dst with
    | none => rfl
    | some x => simpa using hlook0 x) (by
    rw [mem_ready]
    exact ⟨by simp, o, hoi, λ e he => by rw [haf] at he; simp at he⟩) (.inl ⟨by simp [Region.wanted, hgd], λ w => by simp [execOp, hop, Act.eval]⟩) (by
    have e1 : (Array.replicate (l.length + 1) false).setIfInBounds l.length true = (Array.replicate l.toArray.size false).push true := by
     apply Array.ext'
     simp only [Array.toList_setIfInBounds, Array.toList_push, Array.toList_replicate, List.size_toArray]
     rw [List.replicate_succ', List.set_append_right _ _ (by simp)]
     simp
    rw [e1, hdst]
    exact hpush)
   have hreg : (Code.region id (l ++ [o]).toArray true).wp P Qn a w := wp_region_any hm (by simpa using hfirst)
   intro b kk cs
   obtain ⟨e, a', w', q, r⟩ := hreg b kk cs
   refine ⟨e, a', w', ?_, r⟩
   cases e with
   | normal => exact q
   | _ => exact q.elim
  ·cases hf
 ·cases hf
end
end
section
section
variable {P : Program} {T : TT} {B : Bs} {N : Nat} {S : St} {a : Act} {w : World} {k : Kp} {g : Env} {o : Oper} {Q : Exit -> Act -> World -> Prop}
def renv (ρ : List (Nat × Nat)) (g : Env) : Env := λ i => match zdd ρ i with
 | some j => g j
 | none => g i
theorem zsp {ρ : List (Nat × Nat)} (hs : SatE B N S a w k g) {f f' : TF} {u : Value} (h : cvTF ρ S f f') (hf : f.at_ w k g u) : f'.at_ w k (renv ρ g) u := by
 cases f' with
 | r v =>
  unfold cvTF at h
  simp only at h
  split at h
  ·simp [TF.at_, RV.at_]
  ·split at h
   ·rename_i v' hv
    exact h w k u (zgt hs hv hf)
   ·exact h.elim
 | own id =>
  simp only [cvTF] at h
  split at h
  ·rename_i j i hj
   subst h
   simp only [TF.at_, renv, hj] at *
   exact hf
  ·exact h.elim
 | adr id off =>
  simp only [cvTF] at h
  split at h
  ·rename_i j i o hj
   obtain ⟨rfl, rfl⟩ := h
   simp only [TF.at_, renv, hj] at *
   exact hf
  ·exact h.elim
 | nm id v =>
  simp only [cvTF] at h
  split at h
  ·rename_i j i u hj
   obtain ⟨rfl, rfl⟩ := h
   simp only [TF.at_, renv, hj] at *
   exact hf
  ·exact h.elim
theorem zmm {ρ : List (Nat × Nat)} (hs : SatE B N S a w k g) : ∀ {cs ds : List TF} {us : List Value}, zg9 ρ S cs ds -> AllAt (λ f u => u.oneCell' = true /\ f.at_ w k g u) cs us -> AllAt (λ f u => u.oneCell' = true /\ f.at_ w k (renv ρ g) u) ds us
 | [], ds, us, h, hu => by simp only [zg9] at h; subst h; exact ⟨hu.1, λ j f u hf => by simp at hf⟩
 | f :: cs, ds, us, h, hu => by
  simp only [zg9] at h
  obtain ⟨f', ds', rfl, h1, h2⟩ := h
  cases us with
  | nil => have := hu.1; simp at this
  | cons u us =>
   have h0 := hu.2 0 f u (by simp) (by simp)
   have ih := zmm hs h2 ⟨by simpa using hu.1, λ j f u hf hv => hu.2 (j + 1) f u (by simpa using hf) (by simpa using hv)⟩
   refine ⟨by simp [ih.1], λ j f2 v hf hv => ?_⟩
   cases j with
   | zero => simp at hf hv; subst hf; subst hv; exact ⟨h0.1, zsp hs h1 h0.2⟩
   | succ j => exact ih.2 j f2 v (by simpa using hf) (by simpa using hv)
theorem zo8 {ρ : List (Nat × Nat)} : ∀ {F : List (Nat × TF)} {t : Nat} {f : TF}, zlo ρ S F -> fget F t = some f -> (∃ f', fget S.F t = some f' /\ cvTF ρ S f' f) /\ (t, f) ∈ F
 | [], t, f, _, h => by simp [fget] at h
 | (u, f0) :: r, t, f, hok, h => by
  simp only [zlo] at hok
  rcases zb5 h with ⟨rfl, rfl⟩ | ⟨_, h⟩
  ·refine ⟨?_, by simp⟩
   have := hok.1
   split at this
   ·rename_i f' hf'; exact ⟨f', hf', this⟩
   ·exact this.elim
  ·have := zo8 hok.2 h
   exact ⟨this.1, List.mem_cons_of_mem _ this.2⟩
theorem zed {ρ : List (Nat × Nat)} : ∀ {O : List (Nat × Option Ow)} {id : Nat} {o : Ow}, zlk ρ S O -> oget O id = some o -> (∃ j o', zdd ρ id = some j /\ oget S.O j = some o' /\ cvOw ρ S o' o) /\ (id, some o) ∈ O
 | [], id, o, _, h => by simp [oget] at h
 | (u, o0) :: r, id, o, hok, h => by
  simp only [zlk] at hok
  rcases za2 h with ⟨rfl, rfl⟩ | ⟨_, h⟩
  ·refine ⟨?_, by simp⟩
   have := hok.1
   split at this
   ·rename_i o1 j he hj
    cases he
    split at this
    ·rename_i o' ho'; exact ⟨j, o', hj, ho', this⟩
    ·exact this.elim
   ·exact this.elim
  ·have := zed hok.2 h
   exact ⟨this.1, List.mem_cons_of_mem _ this.2⟩
theorem zqy {n : Nat} : ∀ {f : TF}, ltB n f = true -> f.lt n
 | .r _, _ => trivial
 | .own id, h => by simp [ltB, Nat.blt] at h; simp [TF.lt]; omega
 | .adr id _, h => by simp [ltB, Nat.blt] at h; simp [TF.lt]; omega
 | .nm id _, h => by simp [ltB, Nat.blt] at h; simp [TF.lt]; omega
theorem zwu {n : Nat} : ∀ {o : Ow}, zvh n o = true -> o.lt n
 | .box cells, h => λ f hf => zqy (by simp [zvh] at h; exact h f hf)
 | .ch .., _ => trivial
 | .gen _, _ => trivial
theorem zj7 : ∀ {ρ : List (Nat × Nat)} {i j : Nat}, zdd ρ i = some j -> (i, j) ∈ ρ
 | [], i, j, h => by simp [zdd] at h
 | (u, f) :: r, i, j, h => by
  simp only [zdd] at h
  split at h
  ·rename_i hb; cases h; rw [<- Nat.eq_of_beq_eq_true hb]; simp
  ·exact List.mem_cons_of_mem _ (zj7 h)
theorem zdc : ∀ {l : List Nat}, zhn l = true -> l.Nodup
 | [], _ => List.nodup_nil
 | x :: r, h => by
  simp only [zhn, Bool.and_eq_true, Bool.not_eq_true', List.any_eq_false] at h
  refine List.nodup_cons.2 ⟨λ hx => ?_, zdc h.2⟩
  have := h.1 x hx
  simp at this
theorem zxp : ∀ {ρ : List (Nat × Nat)} {i i' j : Nat}, (ρ.map (·.2)).Nodup -> (i, j) ∈ ρ -> (i', j) ∈ ρ -> i = i'
 | [], _, _, _, _, m, _ => by cases m
 | x :: r, i, i', j, hn, m, m' => by
  simp only [List.map_cons, List.nodup_cons] at hn
  rcases List.mem_cons.1 m with e | m1
  ·rcases List.mem_cons.1 m' with e' | m1'
   ·rw [<- e] at e'; cases e'; rfl
   ·exact absurd (by rw [<- e]; exact List.mem_map.2 ⟨(i', j), m1', rfl⟩) hn.1
  ·rcases List.mem_cons.1 m' with e' | m1'
   ·exact absurd (by rw [<- e']; exact List.mem_map.2 ⟨(i, j), m1, rfl⟩) hn.1
   ·exact zxp hn.2 m1 m1'
theorem ztf {ρ : List (Nat × Nat)} (hn : (ρ.map (·.2)).Nodup) {i i' j : Nat} (h : zdd ρ i = some j) (h' : zdd ρ i' = some j) : i = i' :=
 zxp hn (zj7 h) (zj7 h')
theorem Cvs.length : ∀ {cs ds : List RV}, Cvs cs ds -> ds.length = cs.length
 | [], ds, h => by simp only [Cvs] at h; subst h; rfl
 | x :: cs, ds, h => by
  simp only [Cvs] at h
  obtain ⟨g, r, rfl, _, h⟩ := h
  simp [Cvs.length h]
theorem zac (ρ : List (Nat × Nat)) {S S' : St} (h0 : stOk ρ S' = true) (h1 : zlo ρ S S'.F) (h2 : zlk ρ S S'.O) : Sub S S' := by
 intro B N a w k ⟨g, hs⟩
 simp only [stOk, Bool.and_eq_true, List.all_eq_true] at h0
 obtain ⟨⟨⟨hF, hO⟩, hn2⟩, _⟩ := h0
 refine ⟨k, renv ρ g, hs.size, hs.defers, hs.keep, hs.kk, λ t f hf => ?_, λ id o ho => ?_, λ i j o o' b hi hj hne hbi hbj => ?_⟩
 ·obtain ⟨⟨f', hf', hc⟩, hm⟩ := zo8 h1 hf
  exact ⟨zqy (hF _ hm), zsp hs hc (hs.facts t f' hf').2⟩
 ·obtain ⟨⟨j, o', hj, ho', hc⟩, hm⟩ := zed h2 ho
  have hlt := hO _ hm
  obtain ⟨q1, q2, q3, q4⟩ := hs.owns j o' ho'
  have hren : renv ρ g id = g j := by simp [renv, hj]
  refine ⟨by have := hlt.1; simp [Nat.blt] at this; omega, zwu hlt.2, ?_, by rw [hren]; exact q4⟩
  rw [hren]
  cases o' with
  | box cs =>
   cases o with
   | box ds =>
    simp only [Ow.at_] at q3 ⊢
    obtain ⟨b, cur, t, e, hh, hk, hsz, hall⟩ := q3
    have hds := zmm (us := cur.toList) hs hc ⟨by rw [Array.length_toList, hsz], λ j f u hf hu => hall j f u hf (by simpa using hu)⟩
    exact ⟨b, cur, t, e, hh, hk, by rw [<- Array.length_toList, hds.1], λ j f u hf hu => hds.2 j f u hf (by simpa using hu)⟩
   | ch => exact hc.elim
   | gen => exact hc.elim
  | gen p =>
   cases o with
   | gen q => exact hc w k _ q3
   | box => exact hc.elim
   | ch => exact hc.elim
  | ch e sz n cs pub =>
   cases o with
   | box => exact hc.elim
   | gen => exact hc.elim
   | ch e' sz' n' ds pub' =>
    obtain ⟨rfl, rfl, rfl, rfl, hcs⟩ := hc
    simp only [Ow.at_] at q3 ⊢
    obtain ⟨r1, r2⟩ := q3
    have hlen : ds.length = cs.length := Cvs.length hcs
    refine ⟨by rw [hlen]; exact r1, ?_⟩
    rcases r2 with ⟨h0, r2 | ⟨hn, hp, b, o, e, hm, hb, hc⟩⟩ | ⟨b, cap, cur, e1, e2, hh, s1, s2, s3, s4, s5⟩
    ·exact .inl ⟨h0, .inl r2⟩
    ·exact .inl ⟨h0, .inr ⟨hn, hp, b, o, e, hm, hb, hcs.cells hc⟩⟩
    ·exact .inr ⟨b, cap, cur, e1, e2, hh, s1, s2, s3, s4, hcs.list s5⟩
 ·obtain ⟨⟨i', oi, hi', hoi, _⟩, _⟩ := zed h2 hi
  obtain ⟨⟨j', oj, hj', hoj, _⟩, _⟩ := zed h2 hj
  simp only [renv, hi'] at hbi
  simp only [renv, hj'] at hbj
  refine hs.apart i' j' oi oj b hoi hoj (λ e => ?_) hbi hbj
  subst e
  exact hne (ztf (zdc hn2) hi' hj')
theorem zdk (hm : P.follows .mixedOrders = true) (hT : TOk P T) : ∀ (c : Code) (S : St) (Q : Exit -> St -> Prop), vcg P T c S Q -> zz6 P c S Q
 | .skip, S, Q, h => λ B N a w k Q' hs _ hQ => wp_skip (hQ _ S a w k h hs)
 | .region id ops draw, S, Q, h => λ B N a w k Q' hs hd hQ => by
  have hN : ∀ o ∈ ops.toList, ∀ d, o.dst = some d -> d < N := λ o ho d hod => by
   simp only [zcn, List.all_eq_true] at hd
   have h1 := hd o ho
   simp only [hod] at h1
   exact Nat.le_of_ble_eq_true h1
  cases draw with
  | false =>
   simp only [vcg] at h
   split at h
   ·have := zi8 (Q := Q') hT hN (λ _ h => h) hs h λ S' a' w' k' hq hs' => hQ _ S' a' w' k' hq hs'
    exact wp_region_list this
   ·exact h.out B N a w k Q' hs hd hQ
  | true =>
   simp only [vcg] at h
   split at h
   ·obtain ⟨hok, h⟩ | h | h := h
    ·exact zvb hm hT hN hs hok h λ S' a' w' k' hq hs' => hQ _ S' a' w' k' hq hs'
    ·exact zvv hm hT hN hs h λ S' a' w' k' hq hs' => hQ _ S' a' w' k' hq hs'
    ·exact h.out B N a w k Q' hs hd hQ
   ·rename_i l d v hfree
    obtain ⟨hok, h⟩ | h := h
    case inr => exact h.elim
    exact zuy hm hT hN hs hfree hok h λ S' a' w' k' hq hs' => hQ _ S' a' w' k' hq hs'
 | .seq x y, S, Q, h => λ B N a w k Q' hs hd hQ => by
  simp only [zcn, Bool.and_eq_true] at hd
  simp only [vcg] at h
  refine wp_seq (zdk hm hT x S _ h B N a w k _ hs hd.1 λ e S' a' w' k' hq hs' => ?_)
  cases e with
  | normal => exact zdk hm hT y S' Q hq B N a' w' k' Q' hs' hd.2 hQ
  | _ => exact hQ _ S' a' w' k' hq hs'
 | .cond c x y, S, Q, h => λ B N a w k Q' hs hd hQ => by
  simp only [zcn, Bool.and_eq_true] at hd
  simp only [vcg] at h
  split at h
  ·rename_i β hc
   obtain ⟨g, hs'⟩ := hs
   have hev := (zal hs' hc).2
   simp only [TF.at_, RV.at_] at hev
   refine wp_cond_split hev (λ ht => ?_) λ hf => ?_
   ·exact zdk hm hT x S Q (h.out.1 ht) B N a w k Q' ⟨g, hs'⟩ hd.1 hQ
   ·exact zdk hm hT y S Q (h.out.2 hf) B N a w k Q' ⟨g, hs'⟩ hd.2 hQ
  ·exact h.elim
 | .block id c, S, Q, h => λ B N a w k Q' hs hd hQ => by
  simp only [vcg] at h
  refine wp_block (zdk hm hT c S _ h B N a w k _ hs hd λ e S' a' w' k' hq hs' => ?_)
  cases e with
  | exit id' =>
   simp only [Exit.inBlock]
   simp only [z4d] at hq
   split at hq
   ·rename_i hb; rw [if_pos (Nat.eq_of_beq_eq_true hb)]; exact hQ _ S' a' w' k' hq hs'
   ·rename_i hb; rw [if_neg (Nat.ne_of_beq_eq_false hb)]; exact hQ _ S' a' w' k' hq hs'
  | _ => exact hQ _ S' a' w' k' hq hs'
 | .loop c, S, Q, h => λ B N a w k Q' hs hd hQ => by
  simp only [vcg] at h
  obtain ⟨ι, inv, R, μ, ⟨i0, hR0, hsub⟩, hround⟩ := h
  obtain ⟨k0, hs0⟩ := hsub B N a w k hs
  refine wp_loop_ghost (λ n a w => ∃ i k, R i /\ μ i = n /\ Sat B N (inv i) a w k) (μ i0) ⟨i0, k0, hR0, rfl, hs0⟩ ?_
  rintro n a' w' ⟨i, k', hR, rfl, hs'⟩
  rcases hround with hround | hround
  ·refine zdk hm hT c (inv i) _ (hround i hR) B N a' w' k' _ hs' hd λ e S' a2 w2 k2 hq hs2 => ?_
   cases e with
   | normal =>
    obtain ⟨i', hR', hlt, hsub'⟩ := hq
    obtain ⟨k3, hs3⟩ := hsub' B N a2 w2 k2 hs2
    exact ⟨μ i', hlt, i', k3, hR', rfl, hs3⟩
   | _ => exact hQ _ S' a2 w2 k2 hq hs2
  ·refine zdk hm hT c (inv i) _ (hround i hR) B N a' w' k' _ hs' hd λ e S' a2 w2 k2 hq hs2 => ?_
   cases e with
   | normal =>
    obtain ⟨i', hR', hlt, hsub'⟩ := hq
    obtain ⟨k3, hs3⟩ := hsub' B N a2 w2 k2 hs2
    exact ⟨μ i', hlt, i', k3, hR', rfl, hs3⟩
   | _ =>
    obtain ⟨S2, hsub2, hq⟩ := hq
    obtain ⟨k3, hs3⟩ := hsub2 B N a2 w2 k2 hs2
    exact hQ _ S2 a2 w2 k3 hq hs3
 | .exit id, S, Q, h => λ B N a w k Q' hs _ hQ => wp_exit (hQ _ S a w k h hs)
 | .ret, S, Q, h => λ B N a w k Q' hs _ hQ => wp_ret (hQ _ S a w k h hs)
 | .label l, S, Q, h => λ B N a w k Q' hs _ hQ => wp_label (hQ _ S a w k h hs)
 | .goto l, S, Q, h => λ B N a w k Q' hs _ hQ => wp_goto (hQ _ S a w k h hs)
 | .scope c, S, Q, h => h.out
 | .rangeFunc _ _ _ _, S, Q, h => h.out
 | .refuse _, S, Q, h => h.elim
end
section
variable {P : Program} {T : TT} {B : Bs} {N : Nat} {S : St} {a : Act} {w : World} {k : Kp} {g : Env}
theorem zus : ∀ {l : List RV} {n t : Nat} {f : TF} {us : List Value}, RV.partsAt w k l us -> fget (zqq n l) t = some f -> ∃ v, f = .r v /\ n <= t /\ ∃ u, us[t - n]? = some u /\ v.at_ w k u
 | [], _, _, _, _, _, h => by simp [zqq, fget] at h
 | v :: r, n, t, f, us, hp, h => by
  simp only [RV.partsAt] at hp
  obtain ⟨u, us', rfl, h1, h2⟩ := hp
  simp only [zqq] at h
  rcases zb5 h with ⟨rfl, rfl⟩ | ⟨hne, h⟩
  ·exact ⟨v, rfl, Nat.le_refl _, u, by simp, h1⟩
  ·obtain ⟨v', e, hle, u', hu', h3⟩ := zus h2 h
   refine ⟨v', e, by omega, u', ?_, h3⟩
   rw [show t - n = (t - (n + 1)) + 1 by omega]
   simpa using hu'
theorem zph : ∀ {l : List RV} {us : List Value}, RV.partsAt w k l us -> us.length = l.length
 | [], us, h => by simp only [RV.partsAt] at h; subst h; rfl
 | v :: r, us, h => by
  simp only [RV.partsAt] at h
  obtain ⟨u, us', rfl, _, h2⟩ := h
  simp [zph h2]
theorem ztw {args : List RV} {vs : List Value} (hp : RV.partsAt w k args vs) {n : Nat} (hn : args.length <= n) :
  Sat ⟨w, k, []⟩ n (St.args args) { tmps := vs.toArray ++ Array.replicate (n - vs.toArray.size) undef, defers := [] } w k := by
 have hl := zph hp
 refine ⟨λ _ => (undef, none), by simp; omega, rfl, ⟨rfl, rfl, rfl, Nat.le_refl _, λ _ _ _ => rfl⟩, λ _ _ _ => rfl, λ t f hf => ?_, λ id o ho => by simp [St.args, oget] at ho, λ i j o o' b hi => by simp [St.args, oget] at hi⟩
 obtain ⟨v, rfl, _, u, hu, hat⟩ := zus hp hf
 rw [Nat.sub_zero] at hu
 refine ⟨trivial, ?_⟩
 have hlt : t < vs.length := (List.getElem?_eq_some_iff.1 hu).1
 have : (vs.toArray ++ Array.replicate (n - vs.toArray.size) undef)[t]? = some u := by
  rw [Array.getElem?_append_left (by simpa using hlt)]
  simpa using hu
 simp only [TF.at_, Array.getD_eq_getD_getElem?, this, Option.getD_some]
 exact hat
def zoo (tmps : Array Value) (x : ResultVar) : Sem Value :=
 match x with
 | .tmp t => pure (tmps.getD t undef)
 | .cell p t => do loadVar t (<- asAddr (tmps.getD p undef))
theorem zhf (fn : Func) (tmps : Array Value) : results fn tmps = (do
  let vs <- fn.results.mapM (zoo tmps)
  pure (if h : vs.size = 1 then vs[0] else .tuple vs)) := by
 unfold results
 congr 2
theorem zmf (hT : TOk P T) (hs : SatE B N S a w k g) {x : ResultVar} {K : TF -> Prop} (h : resv T S x K) :
  ∃ f v, K f /\ f.at_ w k g v /\ (zoo a.tmps x).run P w = .ok v w := by
 cases x with
 | tmp t =>
  simp only [resv] at h
  split at h
  ·rename_i f hf
   exact ⟨f, _, h, (hs.facts t f hf).2, rfl⟩
  ·exact h.elim
 | cell p t =>
  simp only [resv] at h
  split at h
  ·rename_i f ti hf hti
   obtain ⟨q, hq⟩ := hT.get hti
   obtain ⟨f', v, hK, _, hat, hr⟩ := zuh hs q hq (hs.facts p f hf).2 h
   refine ⟨f', v, hK, hat, ?_⟩
   cases hv : a.tmps.getD p undef with
   | pointer ad =>
    cases ad with
    | some ad => rw [hv] at hr; simp only [Instr.loadAt, Instr.sureAddr, Sem.run_bind, Sem.run_pure, Result.andThen_ok] at hr; simp only [zoo, hv, asAddr, Sem.run_bind, Sem.run_pure, Result.andThen_ok]; exact hr
    | none => rw [hv] at hr; simp [Instr.loadAt, Instr.sureAddr] at hr
   | _ => rw [hv] at hr; simp [Instr.loadAt, Instr.sureAddr] at hr
  ·exact h.elim
theorem zkv (hT : TOk P T) (hs : SatE B N S a w k g) : ∀ {xs : List ResultVar} {K : List RV -> Prop}, zsg T S xs K ->
  ∃ rs vs, K rs /\ RV.partsAt w k rs vs /\ vs.length = xs.length /\ (xs.mapM (zoo a.tmps)).run P w = .ok vs w
 | [], K, h => ⟨[], [], h, by simp [RV.partsAt], rfl, by simp⟩
 | x :: r, K, h => by
  simp only [zsg] at h
  obtain ⟨f, v, h1, hat, hr⟩ := zmf hT hs h
  split at h1
  ·rename_i rv hrv
   obtain ⟨rs, vs, hK, hp, hlen, hr2⟩ := zkv hT hs h1
   refine ⟨_, v :: vs, hK, by simp only [RV.partsAt]; exact ⟨v, vs, rfl, zgt hs hrv hat, hp⟩, by simp [hlen], ?_⟩
   rw [List.mapM_cons, Sem.run_bind, hr]
   simp [hr2]
  ·exact h1.elim
theorem zxo (hT : TOk P T) {fn : Func} {res : Res} {e : Exit} {S' : St} {a' : Act} {w' : World} {k' : Kp} (hq : finv T fn.results res e S') (hs' : Sat ⟨w, k, []⟩ N S' a' w' k') :
  bodyPost P fn (λ e w' => ∃ v, e = Ending.returned v /\ Ext w w' /\ ∃ k' : Kp, (∀ b, b < w.heap.size -> k' b = k b) /\ res.at_ w.heap.size w' k' v) e a' w' := by
 have fin : finv T fn.results res .ret S' -> a'.defers = [] /\ ∃ v, (results fn a'.tmps).run P w' = .ok v w' /\
   (λ e w' => ∃ v, e = Ending.returned v /\ Ext w w' /\ ∃ k' : Kp, (∀ b, b < w.heap.size -> k' b = k b) /\ res.at_ w.heap.size w' k' v) (.returned v) w' := by
  intro hq
  obtain ⟨g, hs'⟩ := hs'
  have hext : Ext w w' := ⟨hs'.keep.os, hs'.keep.tape, hs'.keep.output, hs'.keep.size, λ b hb => hs'.keep.block b hb (by simp)⟩
  have hkk : ∀ b, b < w.heap.size -> k' b = k b := λ b hb => hs'.kk b hb (by simp)
  refine ⟨hs'.defers, ?_⟩
  simp only [finv] at hq
  unfold retv at hq
  split at hq
  ·rename_i x hx
   obtain ⟨fr, v, hret, hat, hr⟩ := zmf hT hs' hq
   refine ⟨v, ?_, v, rfl, hext, k', hkk, ?_⟩
   ·have hx' : fn.results = #[x] := by apply Array.ext'; simpa using hx
    rw [zhf, hx', Array.mapM_eq_mapM_toList]
    simp only [Sem.run_bind, Sem.run_map, List.mapM_cons, List.mapM_nil, hr]
    simp
   ·unfold Vret at hret
    split at hret
    ·split at hret
     ·rename_i v' hv'
      exact hret w' k' v (zgt hs' hv' hat)
     ·exact hret.elim
    ·split at hret
     ·rename_i e sz n cells id
      have ho := hs'.owns id _ hret
      simp only [Ow.at_] at ho
      simp only [TF.at_] at hat
      subst hat
      refine ⟨_, ho.2.2.1, λ b hb => ?_⟩
      rcases (ho.2.2.2 b hb).1 with h | h
      ·exact h
      ·simp at h
     ·exact hret.elim
    ·split at hret
     ·rename_i e sz n cells id
      have ho := hs'.owns id _ hret
      simp only [Ow.at_] at ho
      simp only [TF.at_] at hat
      subst hat
      refine ⟨_, ho.2.2.1, λ b hb => ?_⟩
      rcases (ho.2.2.2 b hb).1 with h | h
      ·exact h
      ·simp at h
     ·exact hret.elim
    ·split at hret
     ·rename_i cells id
      have ho := hs'.owns id _ hret
      simp only [Ow.at_] at ho
      obtain ⟨q1, q2, ⟨b, cur, t, e, hh, hkb, hsz, hc⟩, q4⟩ := ho
      simp only [TF.at_] at hat
      rw [e] at hat q4
      refine ⟨b, cur, t, hat, ?_, hh, hkb, by simpa using hsz, λ j f u hf hu => ?_⟩
      ·rcases (q4 b rfl).1 with h | h
       ·exact h
       ·simp at h
      ·exact hc j (.r f) u (by rw [List.getElem?_map, hf]; rfl) hu
     ·exact hret.elim
  ·rename_i hxs
   obtain ⟨rs, vs, ⟨rv, rfl, hcv⟩, hp', hlen, hr⟩ := zkv hT hs' hq
   refine ⟨.tuple vs.toArray, ?_, .tuple vs.toArray, rfl, hext, k', hkk, ?_⟩
   ·rw [zhf, Array.mapM_eq_mapM_toList]
    simp only [Sem.run_bind, Sem.run_map, hr]
    have hne : vs.length ≠ 1 := by
     intro he
     rw [hlen] at he
     obtain ⟨x, hx⟩ := List.length_eq_one_iff.1 he
     exact hxs x hx
    simp [hne]
   ·exact hcv w' k' _ (by simp only [RV.at_]; exact ⟨vs.toArray, rfl, hp'⟩)
 cases e with
 | ret => exact fin hq
 | normal => exact fin hq
 | _ => exact hq.elim
theorem z9a {f : FuncId} {fn : Func} {args : List RV} {res : Res} {c : Code} (hm : P.follows .mixedOrders = true) (hT : TOk P T) (hf : P.funcs[f]? = some fn) (hb : fn.body = some c)
  (hk : (Nat.ble args.length fn.ntmps && (zcn fn.ntmps c && !(fn.name == "runtime.NumGoroutine"))) = true)
  (h : vcg P T c (St.args args) λ e S => ∃ S', Sub S S' /\ finv T fn.results res e S') : zae P f args res := by
 simp only [Bool.and_eq_true, Nat.ble_eq, Bool.not_eq_true', beq_eq_false_iff_ne] at hk
 obtain ⟨hn, hd, hname⟩ := hk
 refine ⟨⟨fn, c, hf, hb, hname⟩, λ w k vs hp => ?_⟩
 refine calls_of_wp hf hb ?_
 refine zdk hm hT c _ _ h ⟨w, k, []⟩ fn.ntmps _ w k _ (ztw hp hn) hd λ e S0 a' w' k0 ⟨S', hsub, hq⟩ hs0 => ?_
 obtain ⟨k', hs'⟩ := hsub _ _ _ _ _ hs0
 exact zxo hT hq hs'
theorem zad {f : FuncId} {fn : Func} {args : List RV} {res : Res} {c : Code} (hm : P.follows .mixedOrders = true) (hT : TOk P T) (hf : P.funcs[f]? = some fn) (hb : fn.body = some c)
  (hk : (Nat.ble args.length fn.ntmps && (zcn fn.ntmps c && !(fn.name == "runtime.NumGoroutine"))) = true)
  (h : vcg P T c (St.args args) (finv T fn.results res)) : zae P f args res := by
 simp only [Bool.and_eq_true, Nat.ble_eq, Bool.not_eq_true', beq_eq_false_iff_ne] at hk
 obtain ⟨hn, hd, hname⟩ := hk
 refine ⟨⟨fn, c, hf, hb, hname⟩, λ w k vs hp => ?_⟩
 refine calls_of_wp hf hb ?_
 refine zdk hm hT c _ _ h ⟨w, k, []⟩ fn.ntmps _ w k _ (ztw hp hn) hd λ e S' a' w' k' hq hs' => ?_
 exact zxo hT hq hs'
end
end
end Go.Proofs.YtpdllgbfemnemaaGreat.Sx
