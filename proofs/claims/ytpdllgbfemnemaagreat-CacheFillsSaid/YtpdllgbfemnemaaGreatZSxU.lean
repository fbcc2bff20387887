import Derived.Test.YtpdllgbfemnemaaGreatZSxX
import Derived.ScopeJumps
namespace Go.Proofs.YtpdllgbfemnemaaGreat.Sx
open Go.RowKit
section
def zdw (w : World) (k : Kp) (g : Env) : List TF -> List Value -> Prop
 | [], us => us = []
 | f :: fs, us => ∃ u r, us = u :: r /\ f.at_ w k g u /\ zdw w k g fs r
def lift (O : List (Nat × Ow)) : List (Nat × Option Ow) := O.map λ x => (x.1, some x.2)
structure Own (w : World) (k : Kp) (g : Env) (n : Nat) (O : List (Nat × Option Ow)) : Prop where
 owns : ∀ id o, oget O id = some o -> id < n /\ o.lt n /\ o.at_ w k g (g id) /\ ∀ b, (g id).2 = some b -> b < w.heap.size
 apart : ∀ i j o o' b, oget O i = some o -> oget O j = some o' -> i ≠ j -> (g i).2 = some b -> (g j).2 ≠ some b
def blks (g : Env) (O : List (Nat × Ow)) : List Nat := O.filterMap λ x => (g x.1).2
def Acts (P : Program) (f : FuncId) (n0 : Nat) (O0 : List (Nat × Ow)) (args : List TF) (names : List (Nat × Value)) (n1 : Nat) (O1 : List (Nat × Ow)) (res : TF) : Prop :=
 zmh P f /\ ∀ w k g us, Own w k g n0 (lift O0) -> (∀ x ∈ names, (g x.1).1 = x.2) -> zdw w k g args us ->
  Calls P f us.toArray w λ e w' => ∃ v, e = .returned v /\ Keep (blks g O0) w w' /\ ∃ (k' : Kp) (g' : Env), (∀ b, b < w.heap.size -> b ∉ blks g O0 -> k' b = k b) /\
   Own w' k' g' n1 (lift O1) /\ (∀ id o b, oget (lift O1) id = some o -> (g' id).2 = some b -> w.heap.size <= b \/ b ∈ blks g O0) /\ (∀ x ∈ names, g' x.1 = g x.1) /\ res.lt n1 /\ res.at_ w' k' g' v
def blk : Value -> Option Nat
 | .pointer (some a) => some a.block
 | .map (some b) => some b
 | _ => none
def Nmd (o : Ow) : Prop := ∀ w k g vb, o.at_ w k g vb -> vb.2 = blk vb.1
theorem zan {cells : List TF} : Nmd (.box cells) := λ w k g vb h => by
 simp only [Ow.at_] at h
 obtain ⟨b, cur, t, rfl, _⟩ := h
 rfl
theorem zh0 {ents : List (Int × RV)} : Nmd (.gen (mapO ents)) := λ w k g vb h => by
 simp only [Ow.at_] at h
 obtain ⟨b, cur, t, rfl, _⟩ := h
 rfl
def Zero (o : Ow) : Prop := ∀ w k g vb b, o.at_ w k g vb -> vb.2 = some b -> k b = 0
theorem zaa {cells : List TF} : Zero (.box cells) := λ w k g vb b h hb => by
 simp only [Ow.at_] at h
 obtain ⟨b', cur, t, rfl, _, hk, _⟩ := h
 cases hb
 exact hk
theorem zea {ents : List (Int × RV)} : Zero (.gen (mapO ents)) := λ w k g vb b h hb => by
 simp only [Ow.at_] at h
 obtain ⟨b', es, c, rfl, _, hk, _⟩ := h
 cases hb
 exact hk
theorem zcj {e : TypeId} {sz n : Nat} {cells : List RV} : Zero (.ch e sz n cells false) := λ w k g vb b h hb => by
 simp only [Ow.at_] at h
 have := (h.blk hb).1
 simpa using this
def z1t : List (Nat × Ow) -> Prop
 | [] => True
 | x :: r => Zero x.2 /\ z1t r
theorem zuf : ∀ {O : List (Nat × Ow)}, z1t O -> ∀ x ∈ O, Zero x.2
 | [], _, x, h => by cases h
 | y :: r, h, x, hx => by
  rcases List.mem_cons.1 hx with rfl | hx
  ·exact h.1
  ·exact zuf h.2 x hx
theorem zgu : ∀ {O : List (Nat × Ow)} {i : Nat} {o : Ow}, oget (lift O) i = some o -> (i, o) ∈ O
 | [], i, o, h => by simp [lift, oget] at h
 | x :: r, i, o, h => by
  rcases za2 (show oget ((x.1, some x.2) :: lift r) i = some o from h) with ⟨e, e'⟩ | ⟨_, h⟩
  ·cases e'; subst e; simp
  ·exact List.mem_cons_of_mem _ (zgu h)
theorem zm7 : ∀ {O : List (Nat × Ow)} {x : Nat × Ow}, x ∈ O -> ∃ o, oget (lift O) x.1 = some o
 | [], x, h => by cases h
 | y :: r, x, h => by
  show ∃ o, oget ((y.1, some y.2) :: lift r) x.1 = some o
  rcases List.mem_cons.1 h with rfl | h
  ·exact ⟨x.2, by simp [oget]⟩
  ·obtain ⟨o, ho⟩ := zm7 h
   by_cases e : y.1 = x.1
   ·exact ⟨y.2, by simp [oget, e]⟩
   ·refine ⟨o, ?_⟩
    rw [oget, zhd e]
    exact ho
theorem zeu : ∀ {O : List (Nat × Ow)} {x : Nat × Ow}, (O.map (·.1)).Nodup -> x ∈ O -> oget (lift O) x.1 = some x.2
 | [], x, _, h => by cases h
 | y :: r, x, hn, h => by
  show oget ((y.1, some y.2) :: lift r) x.1 = some x.2
  simp only [List.map_cons, List.nodup_cons] at hn
  rcases List.mem_cons.1 h with rfl | h
  ·simp [oget]
  ·have : y.1 ≠ x.1 := λ e => hn.1 (by rw [e]; exact List.mem_map.2 ⟨x, h, rfl⟩)
   rw [oget, zhd this]
   exact zeu hn.2 h
theorem zvr {g : Env} {O : List (Nat × Ow)} {b : Nat} : b ∈ blks g O ↔ ∃ i o, oget (lift O) i = some o /\ (g i).2 = some b := by
 constructor
 ·intro h
  obtain ⟨x, hx, hb⟩ := List.mem_filterMap.1 h
  obtain ⟨o, ho⟩ := zm7 hx
  exact ⟨x.1, o, ho, hb⟩
 ·rintro ⟨i, o, ho, hb⟩
  exact List.mem_filterMap.2 ⟨(i, o), zgu ho, hb⟩
def zon : Nat -> List TF -> List (Nat × TF)
 | _, [] => []
 | n, f :: r => (n, f) :: zon (n + 1) r
def nmsT : List (Nat × Value) -> List (Nat × TF)
 | [] => []
 | x :: r => (1000000 + x.1, .nm x.1 x.2) :: nmsT r
def zvm (S : St) : List (Nat × Value) -> Prop
 | [] => True
 | x :: r => (∃ t, fget S.F t = some (.nm x.1 x.2)) /\ zvm S r
def zi4 (O0 O1 : List (Nat × Ow)) : List (Nat × Value) -> Prop
 | [] => True
 | x :: r => (∃ o o', oget (lift O0) x.1 = some o /\ oget (lift O1) x.1 = some o' /\ Nmd o /\ Nmd o') /\ zi4 O0 O1 r
def retT (T : TT) (results : List ResultVar) (S : St) (res : TF) : Prop :=
 match results with
 | [x] => resv T S x λ f => match res with
  | .r v => match S.rv f with
   | some v' => Cv v' v
   | none => False
  | res => f = res
 | xs => zsg T S xs λ vs => ∃ v, res = .r v /\ Cv (.tu vs) v
section
variable {P : Program} {T : TT} {B : Bs} {N : Nat} {S : St} {a : Act} {w : World} {k : Kp} {g : Env} {o : Oper} {Q : Exit -> Act -> World -> Prop}
theorem ztl : ∀ {l : List TF} {n t : Nat} {f : TF} {us : List Value}, zdw w k g l us -> fget (zon n l) t = some f -> f ∈ l /\ n <= t /\ ∃ u, us[t - n]? = some u /\ f.at_ w k g u
 | [], _, _, _, _, _, h => by simp [zon, fget] at h
 | v :: r, n, t, f, us, hp, h => by
  simp only [zdw] at hp
  obtain ⟨u, us', rfl, h1, h2⟩ := hp
  simp only [zon] at h
  rcases zb5 h with ⟨rfl, rfl⟩ | ⟨hne, h⟩
  ·exact ⟨by simp, Nat.le_refl _, u, by simp, h1⟩
  ·obtain ⟨hm, hle, u', hu', h3⟩ := ztl h2 h
   refine ⟨List.mem_cons_of_mem _ hm, by omega, u', ?_, h3⟩
   rw [show t - n = (t - (n + 1)) + 1 by omega]
   simpa using hu'
theorem zul : ∀ {l : List TF} {us : List Value}, zdw w k g l us -> us.length = l.length
 | [], us, h => by simp only [zdw] at h; subst h; rfl
 | v :: r, us, h => by
  simp only [zdw] at h
  obtain ⟨u, us', rfl, _, h2⟩ := h
  simp [zul h2]
theorem zw6 : ∀ {l : List (Nat × Value)} {t : Nat} {f : TF}, fget (nmsT l) t = some f -> ∃ x ∈ l, f = .nm x.1 x.2
 | [], t, f, h => by simp [nmsT, fget] at h
 | x :: r, t, f, h => by
  simp only [nmsT] at h
  rcases zb5 h with ⟨rfl, rfl⟩ | ⟨_, h⟩
  ·exact ⟨x, by simp, rfl⟩
  ·obtain ⟨y, hy, e⟩ := zw6 h
   exact ⟨y, List.mem_cons_of_mem _ hy, e⟩
theorem zjb {F : List (Nat × TF)} {d t : Nat} {f : TF} (h : d ≠ t) : fget ((d, f) :: F) t = fget F t := by rw [fget, zhd h]
theorem zpi {F F' : List (Nat × TF)} {t : Nat} {f : TF} (h : fget (F ++ F') t = some f) : fget F t = some f \/ fget F' t = some f := by
 induction F with
 | nil => exact .inr h
 | cons x r ih =>
  rcases zb5 (show fget ((x.1, x.2) :: (r ++ F')) t = some f from h) with ⟨e, e'⟩ | ⟨hne, h⟩
  ·left; subst e'; obtain ⟨x1, x2⟩ := x; simp only at e; subst e; simp [fget]
  ·rcases ih h with h2 | h2
   ·exact .inl ((zjb (F := r) (f := x.2) hne).trans h2)
   ·exact .inr h2
theorem ztv : ∀ {l : List (Nat × Value)}, zvm S l -> ∀ x ∈ l, ∃ t, fget S.F t = some (.nm x.1 x.2)
 | [], _, x, h => by cases h
 | y :: r, h, x, hx => by
  rcases List.mem_cons.1 hx with rfl | hx
  ·exact h.1
  ·exact ztv h.2 x hx
theorem zth {O0 O1 : List (Nat × Ow)} : ∀ {l : List (Nat × Value)}, zi4 O0 O1 l -> ∀ x ∈ l, ∃ o o', oget (lift O0) x.1 = some o /\ oget (lift O1) x.1 = some o' /\ Nmd o /\ Nmd o'
 | [], _, x, h => by cases h
 | y :: r, h, x, hx => by
  rcases List.mem_cons.1 hx with rfl | hx
  ·exact h.1
  ·exact zth h.2 x hx
theorem z55 (hT : TOk P T) {fn : Func} {res : TF} (hs : SatE B N S a w k g) (h : retT T fn.results.toList S res) : ∃ v, (results fn a.tmps).run P w = .ok v w /\ res.at_ w k g v := by
 unfold retT at h
 split at h
 ·rename_i x hx
  obtain ⟨fr, v, hret, hat, hr⟩ := zmf hT hs h
  refine ⟨v, ?_, ?_⟩
  ·have hx' : fn.results = #[x] := by apply Array.ext'; simpa using hx
   rw [zhf, hx', Array.mapM_eq_mapM_toList]
   simp only [Sem.run_bind, Sem.run_map, List.mapM_cons, List.mapM_nil, hr]
   simp
  ·split at hret
   ·split at hret
    ·rename_i v' hv'
     exact hret w k v (zgt hs hv' hat)
    ·exact hret.elim
   ·rw [<- hret]; exact hat
 ·rename_i hxs
  obtain ⟨rs, vs, ⟨rv, rfl, hcv⟩, hp', hlen, hr⟩ := zkv hT hs h
  refine ⟨.tuple vs.toArray, ?_, ?_⟩
  ·rw [zhf, Array.mapM_eq_mapM_toList]
   simp only [Sem.run_bind, Sem.run_map, hr]
   have hne : vs.length ≠ 1 := by
    intro he
    rw [hlen] at he
    obtain ⟨x, hx⟩ := List.length_eq_one_iff.1 he
    exact hxs x hx
   simp [hne]
  ·exact hcv w k _ (by simp only [RV.at_]; exact ⟨vs.toArray, rfl, hp'⟩)
def endT (T : TT) (results : List ResultVar) (names : List (Nat × Value)) (n1 : Nat) (O1 : List (Nat × Ow)) (res : TF) (ex : Exit) (S : St) : Prop :=
 (ex = .ret \/ ex = .normal) /\ ∃ S1, Sub S S1 /\ S1.nx = n1 /\ (∃ E, S1.O = lift O1 ++ E) /\ zvm S1 names /\ retT T results S1 res
theorem zgi {O E : List (Nat × Option Ow)} {i : Nat} {o : Ow} (h : oget O i = some o) : oget (O ++ E) i = some o := by
 induction O with
 | nil => simp [oget] at h
 | cons x r ih =>
  obtain ⟨x1, x2⟩ := x
  rw [List.cons_append]
  simp only [oget] at h ⊢
  split at h
  ·exact h
  ·exact ih h
theorem zai {results : List ResultVar} {names : List (Nat × Value)} {n1 : Nat} {O1 : List (Nat × Ow)} {res : TF} {ex : Exit} (hex : ex = .ret \/ ex = .normal) (ρ : List (Nat × Nat)) (F1 : List (Nat × TF)) (E : List (Nat × Option Ow))
  (h0 : stOk ρ ⟨F1 ++ nmsT names, lift O1 ++ E, n1⟩ = true) (h1 : zlo ρ S (F1 ++ nmsT names)) (h2 : zlk ρ S (lift O1 ++ E)) (h3 : zvm ⟨F1 ++ nmsT names, lift O1 ++ E, n1⟩ names) (h4 : retT T results ⟨F1 ++ nmsT names, lift O1 ++ E, n1⟩ res) :
  endT T results names n1 O1 res ex S := ⟨hex, _, zac ρ h0 h1 h2, rfl, ⟨E, rfl⟩, h3, h4⟩
theorem zak {f : FuncId} {fn : Func} {n0 n1 : Nat} {O0 O1 : List (Nat × Ow)} {args : List TF} {names : List (Nat × Value)} {res : TF} {c : Code} (hm : P.follows .mixedOrders = true) (hT : TOk P T) (hf : P.funcs[f]? = some fn) (hb : fn.body = some c)
  (hk : (Nat.ble args.length fn.ntmps && (zcn fn.ntmps c && !(fn.name == "runtime.NumGoroutine"))) = true)
  (hlt : (args.all (ltB n0) && (names.all (λ x => Nat.blt x.1 n0) && ltB n1 res)) = true) (hnm : zi4 O0 O1 names)
  (h : vcg P T c { F := zon 0 args ++ nmsT names, O := lift O0, nx := n0 } (endT T fn.results.toList names n1 O1 res)) : Acts P f n0 O0 args names n1 O1 res := by
 simp only [Bool.and_eq_true, Nat.ble_eq, Bool.not_eq_true', beq_eq_false_iff_ne] at hk
 obtain ⟨hn, hd, hname⟩ := hk
 simp only [Bool.and_eq_true, List.all_eq_true] at hlt
 obtain ⟨hla, hln, hlr⟩ := hlt
 refine ⟨⟨fn, c, hf, hb, hname⟩, λ w k g us ho hnames hp => ?_⟩
 refine calls_of_wp hf hb ?_
 have hl := zul hp
 have hstart : Sat ⟨w, k, blks g O0⟩ fn.ntmps { F := zon 0 args ++ nmsT names, O := lift O0, nx := n0 } { tmps := us.toArray ++ Array.replicate (fn.ntmps - us.toArray.size) undef, defers := [] } w k := by
  refine ⟨g, by simp; omega, rfl, ⟨rfl, rfl, rfl, Nat.le_refl _, λ _ _ _ => rfl⟩, λ _ _ _ => rfl, λ t f hf => ?_, λ id o' ho' => ?_, ho.apart⟩
  ·rcases zpi hf with hf | hf
   ·obtain ⟨hmem, _, u', hu', hat⟩ := ztl hp hf
    refine ⟨zqy (hla _ hmem), ?_⟩
    rw [Nat.sub_zero] at hu'
    have hlt : t < us.length := (List.getElem?_eq_some_iff.1 hu').1
    have : (us.toArray ++ Array.replicate (fn.ntmps - us.toArray.size) undef)[t]? = some u' := by
     rw [Array.getElem?_append_left (by simpa using hlt)]
     simpa using hu'
    simp only [Array.getD_eq_getD_getElem?, this, Option.getD_some]
    exact hat
   ·obtain ⟨x, hx, rfl⟩ := zw6 hf
    exact ⟨by have := hln x hx; simp [Nat.blt] at this; simp only [TF.lt]; omega, hnames x hx⟩
  ·obtain ⟨q1, q2, q3, q4⟩ := ho.owns id o' ho'
   exact ⟨q1, q2, q3, λ b hb => ⟨.inr (zvr.2 ⟨id, o', ho', hb⟩), q4 b hb⟩⟩
 refine zdk hm hT c _ _ h ⟨w, k, blks g O0⟩ fn.ntmps _ w k _ hstart hd λ ex S' a' w' k' ⟨hex, S1, hsub, hn1, ⟨E, hO1⟩, hnms, hret⟩ hs' => ?_
 have fin : a'.defers = [] /\ ∃ v, (results fn a'.tmps).run P w' = .ok v w' /\ (λ (e : Ending) w' => ∃ v, e = .returned v /\ Keep (blks g O0) w w' /\ ∃ (k' : Kp) (g' : Env), (∀ b, b < w.heap.size -> b ∉ blks g O0 -> k' b = k b) /\
   Own w' k' g' n1 (lift O1) /\ (∀ id o b, oget (lift O1) id = some o -> (g' id).2 = some b -> w.heap.size <= b \/ b ∈ blks g O0) /\ (∀ x ∈ names, g' x.1 = g x.1) /\ res.lt n1 /\ res.at_ w' k' g' v) (.returned v) w' := by
  obtain ⟨k2, g2, h2⟩ := hsub _ _ _ _ _ hs'
  obtain ⟨v, hr, hat⟩ := z55 hT h2 hret
  refine ⟨h2.defers, v, hr, v, rfl, h2.keep, k2, g2, h2.kk, ⟨λ id o' ho' => ?_, λ i j oi oj b hi hj => h2.apart i j oi oj b (by rw [hO1]; exact zgi hi) (by rw [hO1]; exact zgi hj)⟩, λ id o' b ho' hb => ?_, λ x hx => ?_, zqy hlr, hat⟩
  ·obtain ⟨q1, q2, q3, q4⟩ := h2.owns id o' (by rw [hO1]; exact zgi ho')
   rw [hn1] at q1 q2
   exact ⟨q1, q2, q3, λ b hb => (q4 b hb).2⟩
  ·exact ((h2.owns id o' (by rw [hO1]; exact zgi ho')).2.2.2 b hb).1
  ·obtain ⟨t, ht⟩ := ztv hnms x hx
   have e1 := (h2.facts t _ ht).2
   simp only [TF.at_] at e1
   have e0 := hnames x hx
   obtain ⟨o0, o1, h0, h1, d0, d1⟩ := zth hnm x hx
   have b0 := d0 _ _ _ _ (ho.owns _ _ h0).2.2.1
   have b1 := d1 _ _ _ _ (h2.owns _ _ (by rw [hO1]; exact zgi h1)).2.2.1
   apply Prod.ext
   ·rw [e1, e0]
   ·rw [b1, b0, e1, e0]
 rcases hex with rfl | rfl
 ·exact fin
 ·exact fin
def ren (σ : List (Nat × Nat)) (names : List Nat) (m i : Nat) : Nat :=
 match memB i names with
 | true => match zdd σ i with
  | some j => j
  | none => m + i
 | false => m + i
def zin (τ : Nat -> Nat) : TF -> TF
 | .r v => .r v
 | .own i => .own (τ i)
 | .adr i o => .adr (τ i) o
 | .nm i v => .nm (τ i) v
def zka (τ : Nat -> Nat) : Ow -> Ow
 | .box cells => .box (cells.map (zin τ))
 | .ch e sz n cells pub => .ch e sz n cells pub
 | .gen p => .gen p
def zf8 : List (Nat × Nat) -> List (Nat × Option Ow) -> List (Nat × Option Ow)
 | [], O => O
 | x :: r, O => zf8 r ((x.2, none) :: O)
def zm0 (τ : Nat -> Nat) : List (Nat × Ow) -> List (Nat × Option Ow) -> List (Nat × Option Ow)
 | [], O => O
 | x :: r, O => zm0 τ r ((τ x.1, some (zka τ x.2)) :: O)
def renK (σ : List (Nat × Nat)) (names : List Nat) (m i : Nat) (K : Nat -> Prop) : Prop :=
 match memB i names with
 | true => match zdd σ i with
  | some j => K j
  | none => K (m + i)
 | false => K (m + i)
theorem zzj {σ : List (Nat × Nat)} {names : List Nat} {m i : Nat} {K : Nat -> Prop} : renK σ names m i K = K (ren σ names m i) := by
 unfold renK ren
 cases memB i names with
 | true => cases zdd σ i <;> rfl
 | false => rfl
def zrk (σ : List (Nat × Nat)) (names : List Nat) (m : Nat) (f : TF) (K : TF -> Prop) : Prop :=
 match f with
 | .r v => K (.r v)
 | .own i => renK σ names m i λ j => K (.own j)
 | .adr i o => renK σ names m i λ j => K (.adr j o)
 | .nm i v => renK σ names m i λ j => K (.nm j v)
theorem ztn {σ : List (Nat × Nat)} {names : List Nat} {m : Nat} {f : TF} {K : TF -> Prop} : zrk σ names m f K = K (zin (ren σ names m) f) := by
 cases f <;> simp only [zrk, zzj, zin]
def zvl (σ : List (Nat × Nat)) (names : List Nat) (m : Nat) : List TF -> (List TF -> Prop) -> Prop
 | [], K => K []
 | f :: r, K => zrk σ names m f λ f' => zvl σ names m r λ r' => K (f' :: r')
theorem zxq {σ : List (Nat × Nat)} {names : List Nat} {m : Nat} : ∀ {l : List TF} {K : List TF -> Prop}, zvl σ names m l K = K (l.map (zin (ren σ names m)))
 | [], K => rfl
 | f :: r, K => by simp only [zvl, ztn, zxq, List.map_cons]
def z1j (σ : List (Nat × Nat)) (names : List Nat) (m : Nat) (o : Ow) (K : Ow -> Prop) : Prop :=
 match o with
 | .box cells => zvl σ names m cells λ cs => K (.box cs)
 | .ch e sz n cells pub => K (.ch e sz n cells pub)
 | .gen p => K (.gen p)
theorem z51 {σ : List (Nat × Nat)} {names : List Nat} {m : Nat} {o : Ow} {K : Ow -> Prop} : z1j σ names m o K = K (zka (ren σ names m) o) := by
 cases o <;> simp only [z1j, zxq, zka]
def zve (σ : List (Nat × Nat)) (names : List Nat) (m : Nat) : List (Nat × Ow) -> List (Nat × Option Ow) -> (List (Nat × Option Ow) -> Prop) -> Prop
 | [], O, K => K O
 | (i, o) :: r, O, K => renK σ names m i λ j => z1j σ names m o λ o' => zve σ names m r ((j, some o') :: O) K
theorem zxt {σ : List (Nat × Nat)} {names : List Nat} {m : Nat} : ∀ {l : List (Nat × Ow)} {O : List (Nat × Option Ow)} {K : List (Nat × Option Ow) -> Prop}, zve σ names m l O K = K (zm0 (ren σ names m) l O)
 | [], O, K => rfl
 | (i, o) :: r, O, K => by simp only [zve, zzj, z51, zxt, zm0]
def zor : List (Nat × Nat) -> List (Nat × Option Ow) -> (List (Nat × Option Ow) -> Prop) -> Prop
 | [], O, K => K O
 | (_, j) :: r, O, K => zor r ((j, none) :: O) K
theorem zsh : ∀ {σ : List (Nat × Nat)} {O : List (Nat × Option Ow)} {K : List (Nat × Option Ow) -> Prop}, zor σ O K = K (zf8 σ O)
 | [], O, K => rfl
 | (_, j) :: r, O, K => by simp only [zor, zsh, zf8]
def zvp (σ : List (Nat × Nat)) (names : List Nat) (S : St) (n1 : Nat) (O1 : List (Nat × Ow)) (res : TF) (dst : Option Nat) : St :=
 ({ F := S.F, O := zm0 (ren σ names S.nx) O1 (zf8 σ S.O), nx := S.nx + n1 } : St).put dst (zin (ren σ names S.nx) res)
def zvw (σ : List (Nat × Nat)) (names : List Nat) (S : St) (n1 : Nat) (O1 : List (Nat × Ow)) (res : TF) (dst : Option Nat) (K : St -> Prop) : Prop :=
 match S with
 | ⟨F, O, nx⟩ => zor σ O λ O => zve σ names nx O1 O λ O => match dst with
  | some d => zrk σ names nx res λ f => K ⟨(d, f) :: F, O, nx + n1⟩
  | none => K ⟨F, O, nx + n1⟩
theorem z30 {σ : List (Nat × Nat)} {names : List Nat} {S : St} {n1 : Nat} {O1 : List (Nat × Ow)} {res : TF} {dst : Option Nat} {K : St -> Prop} : zvw σ names S n1 O1 res dst K = K (zvp σ names S n1 O1 res dst) := by
 cases S; cases dst <;> simp only [zvw, zsh, zxt, ztn, zvp, St.put]
theorem zno : ∀ {σ : List (Nat × Nat)} {O : List (Nat × Option Ow)} {c : Nat} {o : Ow}, oget (zf8 σ O) c = some o -> oget O c = some o /\ ∀ x ∈ σ, x.2 ≠ c
 | [], O, c, o, h => ⟨h, λ x hx => by cases hx⟩
 | y :: r, O, c, o, h => by
  obtain ⟨h1, h2⟩ := zno (show oget (zf8 r ((y.2, none) :: O)) c = some o from h)
  rcases za2 h1 with ⟨_, e⟩ | ⟨hne, h1⟩
  ·cases e
  ·refine ⟨h1, λ x hx => ?_⟩
   rcases List.mem_cons.1 hx with rfl | hx
   ·exact hne
   ·exact h2 x hx
theorem zho {τ : Nat -> Nat} : ∀ {l : List (Nat × Ow)} {O : List (Nat × Option Ow)} {c : Nat} {o : Ow}, oget (zm0 τ l O) c = some o -> (∃ x ∈ l, c = τ x.1 /\ o = zka τ x.2) \/ oget O c = some o
 | [], O, c, o, h => .inr h
 | y :: r, O, c, o, h => by
  rcases zho (show oget (zm0 τ r ((τ y.1, some (zka τ y.2)) :: O)) c = some o from h) with ⟨x, hx, e⟩ | h1
  ·exact .inl ⟨x, List.mem_cons_of_mem _ hx, e⟩
  ·rcases za2 h1 with ⟨e, e'⟩ | ⟨_, h1⟩
   ·cases e'; exact .inl ⟨y, by simp, e.symm, rfl⟩
   ·exact .inr h1
theorem zv3 {τ : Nat -> Nat} {g' g2 : Env} (h : ∀ i, g2 (τ i) = g' i) : ∀ {f : TF} {u : Value}, f.at_ w k g' u -> (zin τ f).at_ w k g2 u
 | .r v, u, hu => hu
 | .own i, u, hu => by simp only [zin, TF.at_] at *; rw [h]; exact hu
 | .adr i o, u, hu => by simp only [zin, TF.at_] at *; rw [h]; exact hu
 | .nm i v, u, hu => by simp only [zin, TF.at_] at *; rw [h]; exact hu
theorem z6q {τ : Nat -> Nat} {g' g2 : Env} (h : ∀ i, g2 (τ i) = g' i) {vb : Value × Option Nat} : ∀ {o : Ow}, o.at_ w k g' vb -> (zka τ o).at_ w k g2 vb
 | .box cells, hu => by
  simp only [zka, Ow.at_] at *
  obtain ⟨b, cur, t, e, hh, hk, hsz, hc⟩ := hu
  refine ⟨b, cur, t, e, hh, hk, by simpa using hsz, λ j f u hf hu => ?_⟩
  rw [List.getElem?_map] at hf
  cases hcj : cells[j]? with
  | none => rw [hcj] at hf; cases hf
  | some f0 =>
   rw [hcj] at hf
   simp only [Option.map_some, Option.some.injEq] at hf
   subst hf
   exact ⟨(hc j f0 u hcj hu).1, zv3 h (hc j f0 u hcj hu).2⟩
 | .ch .., hu => hu
 | .gen _, hu => hu
theorem zws {τ : Nat -> Nat} {n m : Nat} (h : ∀ i, i < n -> τ i < m) : ∀ {f : TF}, f.lt n -> (zin τ f).lt m
 | .r _, _ => trivial
 | .own i, hl => h i hl
 | .adr i _, hl => h i hl
 | .nm i _, hl => h i hl
theorem z5r {τ : Nat -> Nat} {n m : Nat} (h : ∀ i, i < n -> τ i < m) : ∀ {o : Ow}, o.lt n -> (zka τ o).lt m
 | .box cells, hl => λ f hf => by
  obtain ⟨f0, hf0, rfl⟩ := List.mem_map.1 hf
  exact zws h (hl f0 hf0)
 | .ch .., _ => trivial
 | .gen _, _ => trivial
theorem z75 {ρ : List (Nat × Nat)} (hs : SatE B N S a w k g) {o o' : Ow} {vb : Value × Option Nat} (hc : cvOw ρ S o' o) (q3 : o'.at_ w k g vb) : o.at_ w k (renv ρ g) vb := by
 cases o' with
 | box cs =>
  cases o with
  | box ds =>
   simp only [Ow.at_] at q3 ⊢
   obtain ⟨b, cur, t, e, hh, hk, hsz, hall⟩ := q3
   have hds := zmm (us := cur.toList) hs hc ⟨by rw [Array.length_toList, hsz], λ j f u hf hu => hall j f u hf (by simpa using hu)⟩
   exact ⟨b, cur, t, e, hh, hk, by rw [<- Array.length_toList, hds.1], λ j f u hf hu => hds.2 j f u hf (by simpa using hu)⟩
  | ch => exact hc.elim
  | gen => exact hc.elim
 | gen p =>
  cases o with
  | gen q => exact hc w k _ q3
  | box => exact hc.elim
  | ch => exact hc.elim
 | ch e sz n cs pub =>
  cases o with
  | box => exact hc.elim
  | gen => exact hc.elim
  | ch e' sz' n' ds pub' =>
   obtain ⟨rfl, rfl, rfl, rfl, hcs⟩ := hc
   simp only [Ow.at_] at q3 ⊢
   obtain ⟨r1, r2⟩ := q3
   have hlen : ds.length = cs.length := Cvs.length hcs
   refine ⟨by rw [hlen]; exact r1, ?_⟩
   rcases r2 with ⟨h0, r2 | ⟨hn, hp, b, o, e, hm, hb, hc⟩⟩ | ⟨b, cap, cur, e1, e2, hh, s1, s2, s3, s4, s5⟩
   ·exact .inl ⟨h0, .inl r2⟩
   ·exact .inl ⟨h0, .inr ⟨hn, hp, b, o, e, hm, hb, hcs.cells hc⟩⟩
   ·exact .inr ⟨b, cap, cur, e1, e2, hh, s1, s2, s3, s4, hcs.list s5⟩
def stA (σ : List (Nat × Nat)) (names : List Nat) (n0 : Nat) (O0 O1 : List (Nat × Ow)) : Bool :=
 O0.all (λ x => Nat.blt x.1 n0 && zvh n0 x.2) && (zhn (σ.map (·.2)) && (zhn (O1.map (·.1)) && names.all (λ i => (oget (lift O0) i).isSome)))
structure Handed (P : Program) (S : St) (o : Oper) (σ : List (Nat × Nat)) (f : FuncId) (args : List TF) : Prop where
 out : ∀ {B : Bs} {N : Nat} {a : Act} {w : World} {k : Kp} {g : Env}, SatE B N S a w k g -> ∃ us, (execOp a.eval o).run P w = (callFunc f us.toArray).run P w /\ zdw w k (renv σ g) args us
theorem Vstep.acts (σ : List (Nat × Nat)) (names : List Nat) {f : FuncId} {n0 n1 : Nat} {O0 O1 : List (Nat × Ow)} {args : List TF} {res : TF} {K : St -> Prop}
  (hA : ∀ vs : Nat -> Value, (∀ i j t v, zdd σ i = some j -> fget S.F t = some (.nm j v) -> vs i = v) -> Acts P f n0 O0 args (names.map λ i => (i, vs i)) n1 O1 res) (hcall : Handed P S o σ f args)
  (hst : stA σ names n0 O0 O1 = true) (ho : zlk σ S (lift O0)) (hz : z1t O0) (hK : zvw σ names S n1 O1 res o.dst K) : Vstep P S o K := by
 rw [z30] at hK
 refine Vstep.one (λ B N a w k Q ⟨g, hs⟩ hd => ?_) hK
 simp only [stA, Bool.and_eq_true, List.all_eq_true] at hst
 obtain ⟨hst0, hnd, hnd1, hnm0⟩ := hst
 obtain ⟨⟨fn, c, hf, hb, hn⟩, hA⟩ := hA (λ i => (renv σ g i).1) λ i j t v hi ht => by
  have := (hs.facts t _ ht).2
  simp only [TF.at_] at this
  simp only [renv, hi]
  exact this
 obtain ⟨us, hrun, hargs⟩ := hcall.out hs
 have hown : Own w k (renv σ g) n0 (lift O0) := by
  refine ⟨λ i o' hi => ?_, λ i j oi oj b hi hj hne hbi hbj => ?_⟩
  ·obtain ⟨⟨j, o2, hj, ho2, hc⟩, hm⟩ := zed ho hi
   have hlt := hst0 _ (zgu hi)
   obtain ⟨q1, q2, q3, q4⟩ := hs.owns j o2 ho2
   have hren : renv σ g i = g j := by simp [renv, hj]
   refine ⟨by have := hlt.1; simp [Nat.blt] at this; omega, zwu hlt.2, ?_, λ b hb => ?_⟩
   ·rw [hren]; exact z75 hs hc q3
   ·rw [hren] at hb; exact (q4 b hb).2
  ·obtain ⟨⟨i', oi', hi', hoi, _⟩, _⟩ := zed ho hi
   obtain ⟨⟨j', oj', hj', hoj, _⟩, _⟩ := zed ho hj
   simp only [renv, hi'] at hbi
   simp only [renv, hj'] at hbj
   refine hs.apart i' j' oi' oj' b hoi hoj (λ e => ?_) hbi hbj
   subst e
   exact hne (ztf (zdc hnd) hi' hj')
 have hX : ∀ b, b ∈ blks (renv σ g) O0 -> ∃ i j o', zdd σ i = some j /\ oget S.O j = some o' /\ (g j).2 = some b /\ k b = 0 := λ b hb => by
  obtain ⟨i, o1, hi, hgi⟩ := zvr.1 hb
  obtain ⟨⟨j, o2, hj, ho2, _⟩, _⟩ := zed ho hi
  have hren : renv σ g i = g j := by simp [renv, hj]
  have hzz := zuf hz _ (zgu hi) w k (renv σ g) (renv σ g i) b (hown.owns i o1 hi).2.2.1 hgi
  rw [hren] at hgi
  exact ⟨i, j, o2, hj, ho2, hgi, hzz⟩
 unfold Oper.wp
 rw [hrun, zne hf hb hn]
 simp only [Oper.upon]
 refine (hA w k (renv σ g) us hown (λ x hx => ?_) hargs).mono ?_
 ·obtain ⟨i, _, rfl⟩ := List.mem_map.1 hx
  rfl
 rintro en w' ⟨v, rfl, hkeep, k', g', hkk, hown', hblk, hnames, hrlt, hrat⟩
 simp only
 have hle : Le w k w' k' := by
  refine ⟨hkeep.size, λ b hb => ?_, λ b o' hb ho' => ?_, λ b hb hk es c e => ?_⟩
  ·by_cases hx : b ∈ blks (renv σ g) O0
   ·obtain ⟨_, _, _, _, _, _, h0⟩ := hX b hx; omega
   ·exact Nat.le_of_eq (hkk b hb hx).symm
  ·by_cases hx : b ∈ blks (renv σ g) O0
   ·obtain ⟨_, _, _, _, _, _, h0⟩ := hX b hx; omega
   ·exact World.cell?_of_block (a := ⟨b, o', none⟩) (hkeep.block b hb hx)
  ·by_cases hx : b ∈ blks (renv σ g) O0
   ·obtain ⟨_, _, _, _, _, _, h0⟩ := hX b hx; omega
   ·exact (hkeep.block b hb hx).trans e
 let g2 : Env := λ c => if c < S.nx then g c else g' (c - S.nx)
 have hg2 : ∀ i, i < S.nx -> g2 i = g i := λ i hi => by simp [g2, hi]
 have hτ : ∀ i, g2 (ren σ names S.nx i) = g' i /\ (i < n1 -> ren σ names S.nx i < S.nx + n1) := λ i => by
  have other : g2 (S.nx + i) = g' i /\ (i < n1 -> S.nx + i < S.nx + n1) := ⟨by simp only [g2]; rw [if_neg (by omega), Nat.add_sub_cancel_left], λ h => by omega⟩
  unfold ren
  cases hm : memB i names with
  | false => exact other
  | true =>
   cases hr : zdd σ i with
   | none => exact other
   | some j =>
    simp only
    have hmem := zbk.1 hm
    have hsome := hnm0 i hmem
    obtain ⟨o1, ho1⟩ := Option.isSome_iff_exists.1 hsome
    obtain ⟨⟨j', o2, hj', ho2, _⟩, _⟩ := zed ho ho1
    rw [hr] at hj'
    cases hj'
    have hjlt := (hs.owns j o2 ho2).1
    refine ⟨?_, λ _ => by omega⟩
    rw [hg2 j hjlt]
    have := hnames (i, (renv σ g i).1) (List.mem_map.2 ⟨i, hmem, rfl⟩)
    simp only at this
    rw [this]
    simp [renv, hr]
 have old : ∀ c o', oget (zf8 σ S.O) c = some o' -> oget S.O c = some o' /\ ∀ b, (g c).2 = some b -> b ∉ blks (renv σ g) O0 := λ c o' h => by
  obtain ⟨h1, h2⟩ := zno h
  refine ⟨h1, λ b hb hx => ?_⟩
  obtain ⟨i, j, o2, hj, ho2, hgj, _⟩ := hX b hx
  exact hs.apart c j o' o2 b h1 ho2 (λ e => h2 _ (zj7 hj) e.symm) hb hgj
 have hkeepB : Keep B.X B.w w' := ⟨hkeep.os.trans hs.keep.os, hkeep.tape.trans hs.keep.tape, hkeep.output.trans hs.keep.output, Nat.le_trans hs.keep.size hkeep.size, λ b hb hx => by
  refine (hkeep.block b (Nat.lt_of_lt_of_le hb hs.keep.size) λ hm => ?_).trans (hs.keep.block b hb hx)
  obtain ⟨i, j, o2, hj, ho2, hgj, _⟩ := hX b hm
  rcases ((hs.owns j o2 ho2).2.2.2 b hgj).1 with h | h
  ·omega
  ·exact hx h⟩
 have hs2 : SatE B N { F := S.F, O := zm0 (ren σ names S.nx) O1 (zf8 σ S.O), nx := S.nx + n1 } a w' k' g2 := by
  refine ⟨hs.size, hs.defers, hkeepB, λ b hb hx => ?_, λ t f hf => ?_, λ c o' hc => ?_, λ c d oc od b hc hd' hne hbc hbd => ?_⟩
  ·refine (hkk b (Nat.lt_of_lt_of_le hb hs.keep.size) λ hm => ?_).trans (hs.kk b hb hx)
   obtain ⟨i, j, o2, hj, ho2, hgj, _⟩ := hX b hm
   rcases ((hs.owns j o2 ho2).2.2.2 b hgj).1 with h | h
   ·omega
   ·exact hx h
  ·have := hs.facts t f hf
   exact ⟨TF.lt_mono (Nat.le_add_right _ _) this.1, TF.env hg2 this.1 (TF.mono hle this.2)⟩
  ·rcases zho hc with ⟨x, hx, rfl, rfl⟩ | hc
   ·have hx1 := zeu (zdc hnd1) hx
    obtain ⟨q1, q2, q3, q4⟩ := hown'.owns x.1 x.2 hx1
    refine ⟨(hτ x.1).2 q1, z5r (λ i hi => (hτ i).2 hi) q2, ?_, λ b hb => ?_⟩
    ·rw [(hτ x.1).1]
     exact z6q (λ i => (hτ i).1) q3
    ·rw [(hτ x.1).1] at hb
     refine ⟨?_, q4 b hb⟩
     rcases hblk x.1 x.2 b hx1 hb with h | h
     ·left; have := hs.keep.size; omega
     ·obtain ⟨i, j, o2, hj, ho2, hgj, _⟩ := hX b h
      exact ((hs.owns j o2 ho2).2.2.2 b hgj).1
   ·obtain ⟨hc, hnx⟩ := old c o' hc
    obtain ⟨q1, q2, q3, q4⟩ := hs.owns c o' hc
    refine ⟨Nat.lt_of_lt_of_le q1 (Nat.le_add_right _ _), Ow.lt_mono (Nat.le_add_right _ _) q2, ?_, λ b hb => ?_⟩
    ·rw [hg2 c q1]
     exact Ow.env hg2 q2 (Ow.mono hle (λ b hb => ⟨hkeep.block b (q4 b hb).2 (hnx b hb), hkk b (q4 b hb).2 (hnx b hb)⟩) q3)
    ·rw [hg2 c q1] at hb
     exact ⟨(q4 b hb).1, Nat.lt_of_lt_of_le (q4 b hb).2 hkeep.size⟩
  ·have newOld : ∀ x ∈ O1, ∀ d od, oget (zf8 σ S.O) d = some od -> (g2 (ren σ names S.nx x.1)).2 = some b -> (g2 d).2 = some b -> False := λ x hx d od hd' h1 h2 => by
    have hx1 := zeu (zdc hnd1) hx
    obtain ⟨hd', hnx⟩ := old d od hd'
    obtain ⟨q1, _, _, q4⟩ := hs.owns d od hd'
    rw [hg2 d q1] at h2
    rw [(hτ x.1).1] at h1
    rcases hblk x.1 x.2 b hx1 h1 with h | h
    ·have := (q4 b h2).2; omega
    ·exact hnx b h2 h
   rcases zho hc with ⟨x, hx, rfl, rfl⟩ | hc
   ·rcases zho hd' with ⟨y, hy, rfl, rfl⟩ | hd'
    ·have hx1 := zeu (zdc hnd1) hx
     have hy1 := zeu (zdc hnd1) hy
     rw [(hτ x.1).1] at hbc
     rw [(hτ y.1).1] at hbd
     exact hown'.apart x.1 y.1 x.2 y.2 b hx1 hy1 (λ e => hne (by rw [e])) hbc hbd
    ·exact newOld x hx d od hd' hbc hbd
   ·rcases zho hd' with ⟨y, hy, rfl, rfl⟩ | hd'
    ·exact newOld y hy c oc hc hbd hbc
    ·have hc1 := (old c oc hc).1
     have hd1 := (old d od hd').1
     rw [hg2 c (hs.owns c oc hc1).1] at hbc
     rw [hg2 d (hs.owns d od hd1).1] at hbd
     exact hs.apart c d oc od b hc1 hd1 hne hbc hbd
 refine ⟨k', g2, ?_⟩
 unfold zvp
 exact hs2.put hd (zws (λ i hi => (hτ i).2 hi) hrlt) (zv3 (λ i => (hτ i).1) hrat)
abbrev zj := @Vstep.acts
def zln (σ : List (Nat × Nat)) (S : St) : List Operand -> List TF -> Prop
 | [], fs => fs = []
 | x :: xs, fs => ∃ f r, fs = f :: r /\ (match opr S x with
  | some f' => cvTF σ S f' f
  | none => False) /\ zln σ S xs r
def znl (σ : List (Nat × Nat)) (S : St) : List Value -> List TF -> Prop
 | [], fs => fs = []
 | c :: cs, fs => ∃ f r, fs = f :: r /\ (match f with
  | .r v => ∀ w k, v.at_ w k c
  | .own i => ∃ j t, zdd σ i = some j /\ fget S.F t = some (.nm j c)
  | _ => False) /\ znl σ S cs r
theorem zn6 {σ : List (Nat × Nat)} (hs : SatE B N S a w k g) : ∀ {xs : List Operand} {fs : List TF}, zln σ S xs fs -> zdw w k (renv σ g) fs (xs.map a.eval)
 | [], fs, h => by simp only [zln] at h; subst h; simp [zdw]
 | x :: xs, fs, h => by
  simp only [zln] at h
  obtain ⟨f, r, rfl, h1, h2⟩ := h
  simp only [List.map_cons, zdw]
  refine ⟨_, _, rfl, ?_, zn6 hs h2⟩
  split at h1
  ·rename_i f' hf'
   exact zsp hs h1 (zal hs hf').2
  ·exact h1.elim
theorem zum {σ : List (Nat × Nat)} (hs : SatE B N S a w k g) : ∀ {cs : List Value} {fs : List TF}, znl σ S cs fs -> zdw w k (renv σ g) fs cs
 | [], fs, h => by simp only [znl] at h; subst h; simp [zdw]
 | c :: cs, fs, h => by
  simp only [znl] at h
  obtain ⟨f, r, rfl, h1, h2⟩ := h
  simp only [zdw]
  refine ⟨_, _, rfl, ?_, zum hs h2⟩
  split at h1
  ·exact h1 w k
  ·obtain ⟨j, t, hj, ht⟩ := h1
   have := (hs.facts t _ ht).2
   simp only [TF.at_] at this ⊢
   simp only [renv, hj]
   exact this.symm
  ·exact h1.elim
theorem zxd {fs fs' : List TF} {us us' : List Value} (h : zdw w k g fs us) (h' : zdw w k g fs' us') : zdw w k g (fs ++ fs') (us ++ us') := by
 induction fs generalizing us with
 | nil => simp only [zdw] at h; subst h; exact h'
 | cons f r ih =>
  simp only [zdw] at h
  obtain ⟨u, us2, rfl, h1, h2⟩ := h
  exact ⟨u, us2 ++ us', rfl, h1, ih h2⟩
theorem Handed.func {σ : List (Nat × Nat)} {f : FuncId} {xs : Array Operand} {ts : Array TypeId} {fs : List TF} (hop : o.op = .call { callee := .value (.func f), args := xs, argTypes := ts }) (h : zln σ S xs.toList fs) : Handed P S o σ f fs := by
 refine ⟨λ {B N a w k g} hs => ⟨xs.toList.map a.eval, ?_, zn6 hs h⟩⟩
 have hargs' : xs.map a.eval = (xs.toList.map a.eval).toArray := by apply Array.ext'; simp
 simp [execOp, hop, resolve, Deferred.ofValue, invoke, Act.eval, hargs']
abbrev zi := @Handed.func
theorem Handed.clo {σ : List (Nat × Nat)} {f : FuncId} {t : Nat} {cap : Array Value} {xs : Array Operand} {ts : Array TypeId} {fs cs : List TF} (hop : o.op = .call { callee := .value (.tmp t), args := xs, argTypes := ts })
  (ht : fget S.F t = some (.r (.x (.func (.func f) #[] cap)))) (h : zln σ S xs.toList fs) (hc : znl σ S cap.toList cs) : Handed P S o σ f (fs ++ cs) := by
 refine ⟨λ {B N a w k g} hs => ⟨xs.toList.map a.eval ++ cap.toList, ?_, zxd (zn6 hs h) (zum hs hc)⟩⟩
 have hfv := (hs.facts t _ ht).2
 simp only [TF.at_, RV.at_] at hfv
 have e2 : a.eval (.tmp t) = .func (.func f) #[] cap := by
  have : a.eval (.tmp t) = a.tmps.getD t undef := by simp [Act.eval]
  rw [this, hfv]
 have hargs' : xs.map a.eval ++ cap = (xs.toList.map a.eval ++ cap.toList).toArray := by apply Array.ext'; simp
 simp [execOp, hop, resolve, e2, Deferred.ofValue, invoke, hargs']
theorem zu3 {f : FuncId} {args : List RV} {v : RV} (h : zae P f args (.r v)) : Acts P f 0 [] (args.map .r) [] 0 [] (.r v) := by
 obtain ⟨hk, h⟩ := h
 refine ⟨hk, λ w k g us _ _ hp => ?_⟩
 have hp' : RV.partsAt w k args us := by
  clear h
  induction args generalizing us with
  | nil => simpa [zdw, RV.partsAt] using hp
  | cons x r ih =>
   simp only [List.map_cons, zdw] at hp
   obtain ⟨u, us', rfl, h1, h2⟩ := hp
   simp only [RV.partsAt]
   exact ⟨u, us', rfl, h1, ih us' h2⟩
 refine (h w k us hp').mono ?_
 rintro e w' ⟨v', rfl, hext, k', hk', hres⟩
 refine ⟨v', rfl, ⟨hext.os, hext.tape, hext.output, hext.size, λ b hb _ => hext.block b hb⟩, k', g, λ b hb _ => hk' b hb, ⟨λ id o h => by simp [lift, oget] at h, λ i j o o' b h => by simp [lift, oget] at h⟩, λ id o b h => by simp [lift, oget] at h, λ x hx => (by cases hx), trivial, hres⟩
end
end
section
section
variable {P : Program} {T : TT} {B : Bs} {N : Nat} {S : St} {a : Act} {w : World} {k : Kp} {g : Env} {o : Oper} {Q : Exit -> Act -> World -> Prop}
theorem zkt : ∀ {c rest : Code} {l : Nat}, findLabel c l = some rest -> zcn N c = true -> zcn N rest = true
 | .seq a b, rest, l, h, hd => by
  simp only [zcn, Bool.and_eq_true] at hd
  simp only [findLabel] at h
  split at h
  ·rename_i r hr
   cases h
   simp only [zcn, Bool.and_eq_true]
   exact ⟨zkt hr hd.1, hd.2⟩
  ·exact zkt h hd.2
 | .label l', rest, l, h, hd => by
  simp only [findLabel] at h
  split at h
  ·cases h; rfl
  ·cases h
 | .skip, _, _, h, _ => by simp [findLabel] at h
 | .region .., _, _, h, _ => by simp [findLabel] at h
 | .cond .., _, _, h, _ => by simp [findLabel] at h
 | .block .., _, _, h, _ => by simp [findLabel] at h
 | .loop .., _, _, h, _ => by simp [findLabel] at h
 | .exit .., _, _, h, _ => by simp [findLabel] at h
 | .ret, _, _, h, _ => by simp [findLabel] at h
 | .goto .., _, _, h, _ => by simp [findLabel] at h
 | .scope .., _, _, h, _ => by simp [findLabel] at h
 | .rangeFunc .., _, _, h, _ => by simp [findLabel] at h
 | .refuse .., _, _, h, _ => by simp [findLabel] at h
def zvn (l : Nat) (J : St -> Prop) (Q : Exit -> St -> Prop) (e : Exit) (S : St) : Prop :=
 match e with
 | .goto l' => match Nat.beq l' l with
  | true => J S
  | false => False
 | e => Q e S
theorem Vcode.scope (hm : P.follows .mixedOrders = true) (hT : TOk P T) {c rest : Code} {Q : Exit -> St -> Prop} (l : Nat) {ι : Type} (inv : ι -> St) (R : ι -> Prop) (μ : ι -> Nat) (hf : findLabel c l = some rest)
  (first : vcg P T c S (zvn l (λ S' => ∃ i, R i /\ Sub S' (inv i)) Q))
  (pass : ∀ i, R i -> vcg P T rest (inv i) (zvn l (λ S' => ∃ i', R i' /\ μ i' < μ i /\ Sub S' (inv i')) Q)) : Vcode P (.scope c) S Q := by
 refine ⟨λ B N a w k Q' hs hd hQ => ?_⟩
 have hd0 : zcn N c = true := by simpa only [zcn] using hd
 let J : Nat -> Act -> World -> Prop := λ n a w => ∃ i k, R i /\ μ i = n /\ Sat B N (inv i) a w k
 refine wp_scope_jumps l (λ a w => ∃ n, J n a w) (λ a w => leastOf (λ n => J n a w)) hf ?_ ?_
 ·refine zdk hm hT c S _ first B N a w k _ hs hd0 λ e S' a' w' k' hq hs' => ?_
  cases e with
  | goto l' =>
   simp only [zvn] at hq
   split at hq
   ·rename_i hb
    obtain ⟨i, hR, hsub⟩ := hq
    obtain ⟨k2, hs2⟩ := hsub B N a' w' k' hs'
    exact ⟨Nat.eq_of_beq_eq_true hb, μ i, i, k2, hR, rfl, hs2⟩
   ·exact hq.elim
  | _ => exact hQ _ S' a' w' k' hq hs'
 ·intro a1 w1 hJ
  obtain ⟨i, k1, hR, hμ, hs1⟩ := (leastOf_spec hJ).1
  refine zdk hm hT rest (inv i) _ (pass i hR) B N a1 w1 k1 _ hs1 (zkt hf hd0) λ e S' a' w' k' hq hs' => ?_
  cases e with
  | goto l' =>
   simp only [zvn] at hq
   split at hq
   ·rename_i hb
    obtain ⟨i', hR', hlt, hsub⟩ := hq
    obtain ⟨k2, hs2⟩ := hsub B N a' w' k' hs'
    have hJ' : J (μ i') a' w' := ⟨i', k2, hR', rfl, hs2⟩
    refine ⟨Nat.eq_of_beq_eq_true hb, ⟨μ i', hJ'⟩, ?_⟩
    exact Nat.lt_of_le_of_lt ((leastOf_spec ⟨_, hJ'⟩).2 _ hJ') (by rw [<- hμ]; exact hlt)
   ·exact hq.elim
  | _ => exact hQ _ S' a' w' k' hq hs'
theorem Vcode.run (hT : TOk P T) {id : Nat} {ops : Array Oper} {Q : Exit -> St -> Prop} (h : runv P T ops.toList ops.toList S (Q .normal)) : Vcode P (.region id ops false) S Q := by
 refine ⟨λ B N a w k Q' hs hd hQ => ?_⟩
 have hN : ∀ o ∈ ops.toList, ∀ d, o.dst = some d -> d < N := λ o ho d hod => by
  simp only [zcn, List.all_eq_true] at hd
  have h1 := hd o ho
  simp only [hod] at h1
  exact Nat.le_of_ble_eq_true h1
 exact wp_region_list (zi8 (Q := Q') hT hN (λ _ h => h) hs h λ S' a' w' k' hq hs' => hQ _ S' a' w' k' hq hs')
theorem Vstep.mapMk {t : TypeId} {K : St -> Prop} (gh : Nat) (hop : o.op = .makeMap t none) (hK : ∀ b : Nat, newK ⟨(gh, .nm S.nx (.map (some b))) :: S.F, (S.nx, some (.gen (mapO []))) :: S.O, S.nx + 1⟩ o.dst (.r (.x (.map (some b)))) none K) : Vstep P S o K := by
 simp only [zco] at hK
 refine ⟨Nat, _, λ B N a w k Q hs0 hd => Oper.wp_mono ?_ (show o.wp P a w (λ a' w' => ∃ b k', Sat B N (St.put ⟨(gh, .nm S.nx (.map (some b))) :: S.F, (S.nx, some (.gen (mapO []))) :: S.O, S.nx + 1⟩ o.dst (.r (.x (.map (some b))))) a' w' k') Q from ?_), hK⟩
 ·rintro a' w' ⟨b, k', h⟩; exact ⟨b, k', h⟩
 obtain ⟨g, hs⟩ := hs0
 refine zb0 (v := .map (some w.heap.size)) (w' := w.alloc (.map #[] 0)) (by simp [execOp, hop, Instr.makeMap, newObj]; rfl) ⟨w.heap.size, kset k w.heap.size 0, ?_⟩
 have hat : Ow.at_ (w.alloc (.map #[] 0)) (kset k w.heap.size 0) g (.map (some w.heap.size), some w.heap.size) (.gen (mapO [])) := by
  simp only [Ow.at_]
  exact ⟨w.heap.size, #[], 0, rfl, heap_alloc_new w _, zcx, ⟨rfl, λ j x e h => by simp at h⟩, stampE.nil⟩
 have h := hs.make (dst := none) (λ d e => by cases e) (zaw w (.map #[] 0)) (λ b hb => zc7 b hb) (vb := (.map (some w.heap.size), some w.heap.size)) (o := .gen (mapO [])) trivial hat (λ b hb => by
  cases hb
  exact ⟨Nat.le_refl _, by simp⟩)
 have h2 : SatE B N ⟨(gh, .nm S.nx (.map (some w.heap.size))) :: S.F, (S.nx, some (.gen (mapO []))) :: S.O, S.nx + 1⟩ a (w.alloc (.map #[] 0)) (kset k w.heap.size 0) (g.set S.nx (.map (some w.heap.size), some w.heap.size)) := by
  refine ⟨h.size, h.defers, h.keep, h.kk, λ t' f hf => ?_, h.owns, h.apart⟩
  rcases zb5 hf with ⟨rfl, rfl⟩ | ⟨_, hf⟩
  ·exact ⟨Nat.lt_succ_self _, by simp only [TF.at_, Env.set_eq]⟩
  ·exact h.facts t' f hf
 exact ⟨_, h2.put hd trivial (by simp only [TF.at_, RV.at_])⟩
theorem Vstep.mapPut {t kt et : TypeId} {x y z : Operand} (id gh : Nat) {n : Int} {ents : List (Int × RV)} {f : TF} {r : RV} {m : Value} {K : St -> Prop} (hop : o.op = .mapUpdate t x y z) (hx : opr S x = some (.r (.x m))) (hgh : fget S.F gh = some (.nm id m)) (ho : oget S.O id = some (.gen (mapO ents))) (hy : opr S y = some (.r (.i .i64 n))) (hz : opr S z = some f) (hr : S.rv f = some r)
  (hu : P.underlying t = some (.map kt et)) (hk : P.underlying kt = some (.int .i64)) (hm : zch ents n = none) (hK : setK S id (some (.gen (mapO (ents ++ [(n, r)])))) o.dst K) : Vstep P S o K := by
 rw [zd3] at hK
 refine Vstep.one (λ B N a w k Q ⟨g, hs⟩ hd => ?_) hK
 have hv := (zal hs hx).2
 have hn := (zal hs hy).2
 have hzv := zgt hs hr (zal hs hz).2
 have hnm := (hs.facts gh _ hgh).2
 simp only [TF.at_, RV.at_] at hv hn hnm
 obtain ⟨_, _, hat, _⟩ := hs.owns id _ ho
 simp only [Ow.at_] at hat
 obtain ⟨b, es, c, e, hh, hkb, he, hst⟩ := hat
 obtain ⟨res, h1, h2⟩ := zig (n := n) hk he
 rw [hm] at h2
 simp only at h2
 subst h2
 rw [<- hnm, e] at hv
 have hb : b < w.heap.size := (Array.getElem?_eq_some_iff.1 hh).1
 let ob : Obj := .map (es.push { key := .int .i64 n, val := a.eval z, born := c }) (c + 1)
 let w' : World := { w with heap := w.heap.setIfInBounds b ob }
 have hrun : (Instr.mapUpdate t (.map (some b)) (.int .i64 n) (a.eval z)).run P w = .ok () w' := by
  simp [Instr.mapUpdate, run_underlying hu w, zfv hk, h1, hh, getObj, setObj, Sem.run, w', ob]
 have hw : Wrote w k w' k (some b) := ⟨rfl, rfl, rfl, by simp [w'], λ x _ hne => ⟨by simp only [w']; rw [Array.getElem?_setIfInBounds_ne (λ h => hne (by rw [h]))], rfl⟩, λ x hx => by
  cases hx
  exact ⟨Nat.le_refl _, λ o ho => by omega, λ h => by omega⟩⟩
 have hnew : (Ow.gen (mapO (ents ++ [(n, r)]))).at_ w' k g (g id) := by
  simp only [Ow.at_]
  refine ⟨b, _, c + 1, e, by simp only [w', ob]; rw [Array.getElem?_setIfInBounds_self_of_lt hb], hkb, ?_, hst.push (zsn he hm)⟩
  have he' := he.mono hw.le
  refine ⟨by simp [he'.1], λ j x en hj hen => ?_⟩
  rw [Array.toList_push] at hen
  rcases Nat.lt_or_ge j ents.length with hlt | hge
  ·rw [List.getElem?_append_left hlt] at hj
   rw [List.getElem?_append_left (by rw [he'.1]; exact hlt)] at hen
   exact he'.2 j x en hj hen
  ·rw [List.getElem?_append_right hge] at hj
   rw [List.getElem?_append_right (by rw [he'.1]; exact hge), he'.1] at hen
   have : j - ents.length = 0 := by have := (List.getElem?_eq_some_iff.1 hj).1; simp at this; omega
   rw [this] at hj hen
   simp at hj hen
   subst hj; subst hen
   exact ⟨rfl, RV.mono hw.le _ _ hzv⟩
 exact zlz (w' := w') (by simp [execOp, hop, hv, hn, hrun]) ⟨k, g, (hs.redo (ow' := .gen (mapO (ents ++ [(n, r)]))) ho (by rw [e]) hw trivial hnew).drop⟩
theorem zyh {id gh : Nat} {m : Value} {ents : List (Int × RV)} (ho : oget S.O id = some (.gen (mapO ents))) (hgh : fget S.F gh = some (.nm id m)) :
  ∀ {B N a w k}, Sat B N S a w k -> ∃ k', Sat B N ⟨S.F, (id, none) :: S.O, S.nx⟩ a w k' /\ (mapS ents).at_ w k' m /\ Le w k w k' := by
 rintro B N a w k ⟨g, hs⟩
 obtain ⟨_, _, hat, hblk⟩ := hs.owns id _ ho
 simp only [Ow.at_] at hat
 obtain ⟨b, es, c, e, hh, hkb, he, hst⟩ := hat
 have hb : b < w.heap.size := (Array.getElem?_eq_some_iff.1 hh).1
 have hw : Wrote w k w (kset k b 1) (some b) := ⟨rfl, rfl, rfl, Nat.le_refl _, λ x _ hne => ⟨rfl, by simp [kset, show x ≠ b from λ h => hne (by rw [h])]⟩, λ x hx => by
  cases hx
  exact ⟨by omega, λ _ _ => rfl, λ h => by omega⟩⟩
 have h := hs.wrote hw (id := some id) ⟨⟨_, ho⟩, by rw [e]⟩
 have hnm := (hs.facts gh _ hgh).2
 simp only [TF.at_] at hnm
 refine ⟨kset k b 1, ⟨g, h⟩, ?_, hw.le⟩
 rw [<- hnm, e]
 exact .inr ⟨b, es, c, rfl, hb, by rw [zcx]; omega, hh, he.mono hw.le, hst⟩
end
end
end Go.Proofs.YtpdllgbfemnemaaGreat.Sx
