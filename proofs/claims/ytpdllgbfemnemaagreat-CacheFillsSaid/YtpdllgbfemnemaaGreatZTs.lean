import Derived.Test.YtpdllgbfemnemaaGreatZTn
import Derived.Test.YtpdllgbfemnemaaGreatZTg
import Derived.Test.YtpdllgbfemnemaaGreatZTe
import Derived.Test.YtpdllgbfemnemaaGreatZTk
import Derived.Test.YtpdllgbfemnemaaGreatZNd
namespace Go.Proofs.YtpdllgbfemnemaaGreat.Sx
open Go.RowKit
set_option linter.unusedVariables false
section
theorem z3i {l r : List UInt8} {x : Leaf} (hl : l.length <= 100000000) (h : zcv l = .ok x r) : x.fit := by
 unfold zcv at h
 cases hv : zbe 3 l with
 | err e' => rw [hv] at h; cases h
 | ok vs q =>
  rw [hv] at h
  obtain ⟨hvl, j, rfl, hj, hvb⟩ := zf0 3 hv
  obtain ⟨v0, v1, v2, rfl⟩ := len3 hvl
  have b0 := hvb v0 (by simp)
  have b1 := hvb v1 (by simp)
  have b2 := hvb v2 (by simp)
  simp only at h
  have hq : (l.drop j).length <= 100000000 := by rw [List.length_drop]; omega
  revert h hq
  generalize l.drop j = q
  intro h hq
  cases q with
  | nil => cases h
  | cons c q =>
   simp only [zfs] at h
   simp only [List.length_cons] at hq
   split at h
   ·cases h
   cases hp : zdi c q with
   | err e' => rw [hp] at h; cases h
   | ok par s =>
    rw [hp] at h
    simp only at h
    have hpar : par.length <= 100000000 /\ s.length <= 100000000 := by
     unfold zdi at hp
     split at hp
     ·obtain ⟨i, rfl, i1, i2, i3⟩ := zbz hp
      rw [List.length_drop]
      omega
     ·injection hp with h1 h2
      subst h1; subst h2
      simp only [List.length_nil]
      omega
    unfold zft at h
    cases hs : vecP s with
    | err e' => rw [hs] at h; cases h
    | ok sig t =>
     rw [hs] at h
     obtain ⟨i, rfl, i1, i2, i3⟩ := zbz hs
     simp only at h
     split at h
     ·injection h with h1 h2
      subst h1
      exact ⟨by show v0.length <= _; omega, by show v1.length <= _; omega, by show v2.length <= _; omega, by show par.length <= _; omega, by show sig.length <= _; omega⟩
     ·cases h
theorem z2u : zp.fit := ⟨by decide, by decide, by decide, λ x hx => by simp [zp] at hx⟩
theorem z4y : zl.fit := ⟨by decide, by decide, by decide, by decide, by decide⟩
theorem z6y {l r : List UInt8} {n : Node} (hl : l.length <= 100000000) (h : parP l = .ok n r) : n.fit := by
 unfold parP at h
 cases hv : zbe 3 l with
 | err e' => rw [hv] at h; cases h
 | ok vs q =>
  rw [hv] at h
  obtain ⟨hvl, j, rfl, hj, hvb⟩ := zf0 3 hv
  obtain ⟨v0, v1, v2, rfl⟩ := len3 hvl
  have b0 := hvb v0 (by simp)
  have b1 := hvb v1 (by simp)
  have b2 := hvb v2 (by simp)
  simp only at h
  split at h
  ·injection h with h1 h2
   subst h1
   refine ⟨z4y, by show v0.length <= _; omega, by show v1.length <= _; omega, ?_, λ y hy => ?_⟩
   ·show (zce v2 (v2.length / 4)).length <= _
    rw [late_len]; omega
   ·have := zxz v2 (v2.length / 4) y hy
    unfold Sx.i64; omega
  ·cases h
theorem zud {l r : List UInt8} {n : Node} (hl : l.length <= 100000000) (h : za4 l = .ok n r) : n.fit := by
 cases l with
 | nil => cases h
 | cons c q =>
  simp only [List.length_cons] at hl
  simp only [za4] at h
  split at h
  ·injection h with h1 h2
   subst h1
   exact ⟨z4y, z2u⟩
  split at h
  ·cases hq : zcv q with
   | err e' => rw [hq] at h; cases h
   | ok x s =>
    rw [hq] at h
    injection h with h1 h2
    subst h1
    exact ⟨z3i (by omega) hq, z2u⟩
  split at h
  ·exact z6y (by omega) h
  ·cases h
theorem zn7 : ∀ (h k : Nat) {l r : List UInt8} {y : List Spot × List Stub}, l.length <= 100000000 -> zbt h k l = .ok y r -> (∀ s ∈ y.1, s.node.fit) /\ (∀ s ∈ y.2, s.hash.length = 32) := by
 intro h
 induction h with
 | zero =>
  intro k l r y hl hq
  cases l with
  | nil => cases hq
  | cons c q =>
   simp only [List.length_cons] at hl
   simp only [zbt] at hq
   split at hq
   ·cases hq
   split at hq
   ·split at hq
    ·cases hq
    ·injection hq with h1 h2
     subst h1
     refine ⟨by simp, λ s hs => ?_⟩
     rw [List.mem_singleton.1 hs]
     simp; omega
   cases hn : za4 q with
   | err e' => rw [hn] at hq; cases hq
   | ok n s =>
    rw [hn] at hq
    simp only at hq
    split at hq
    ·cases hq
    ·injection hq with h1 h2
     subst h1
     refine ⟨λ s hs => ?_, by simp⟩
     rw [List.mem_singleton.1 hs]
     exact zud (by omega) hn
 | succ h ih =>
  intro k l r y hl hq
  cases l with
  | nil => cases hq
  | cons c q =>
   simp only [List.length_cons] at hl
   simp only [zbt] at hq
   split at hq
   ·cases hq
   split at hq
   ·split at hq
    ·cases hq
    ·injection hq with h1 h2
     subst h1
     refine ⟨by simp, λ s hs => ?_⟩
     rw [List.mem_singleton.1 hs]
     simp; omega
   cases hn : za4 q with
   | err e' => rw [hn] at hq; cases hq
   | ok n s =>
    rw [hn] at hq
    simp only at hq
    split at hq
    ·cases hq
    obtain ⟨j, hs, hj⟩ := zdz hn
    have hls : s.length <= 100000000 := by rw [hs, List.length_drop]; omega
    cases ha : zbt h (2 * k) s with
    | err e' => rw [ha] at hq; cases hq
    | ok a t =>
     rw [ha] at hq
     simp only at hq
     have hlt := (zhz h (2 * k) ha).2.2
     cases hb : zbt h (2 * k + 1) t with
     | err e' => rw [hb] at hq; cases hq
     | ok b u =>
      rw [hb] at hq
      injection hq with h1 h2
      subst h1
      obtain ⟨a1, a2⟩ := ih _ hls ha
      obtain ⟨b1, b2⟩ := ih _ (by omega) hb
      refine ⟨λ s hs => ?_, λ s hs => ?_⟩
      ·simp only [List.mem_append, List.mem_singleton] at hs
       rcases hs with (rfl | hs) | hs
       ·exact zud (by omega) hn
       ·exact a1 s hs
       ·exact b1 s hs
      ·simp only [List.mem_append] at hs
       rcases hs with hs | hs
       ·exact a2 s hs
       ·exact b2 s hs
theorem zky : ∀ (h k : Nat) {l r : List UInt8} {y : List Spot × List Stub}, zbt h k l = .ok y r -> y.1.length + y.2.length + 1 <= 2 ^ (h + 1) := by
 intro h
 induction h with
 | zero =>
  intro k l r y hq
  cases l with
  | nil => cases hq
  | cons c q =>
   simp only [zbt] at hq
   split at hq
   ·cases hq
   split at hq
   ·split at hq
    ·cases hq
    ·injection hq with h1 h2
     subst h1
     simp
   cases hn : za4 q with
   | err e' => rw [hn] at hq; cases hq
   | ok n s =>
    rw [hn] at hq
    simp only at hq
    split at hq
    ·cases hq
    ·injection hq with h1 h2
     subst h1
     simp
 | succ h ih =>
  intro k l r y hq
  have hp := zag (h + 1)
  have hs : 2 ^ (h + 1 + 1) = 2 * 2 ^ (h + 1) := by rw [Nat.pow_succ 2 (h + 1)]; omega
  cases l with
  | nil => cases hq
  | cons c q =>
   simp only [zbt] at hq
   split at hq
   ·cases hq
   split at hq
   ·split at hq
    ·cases hq
    ·injection hq with h1 h2
     subst h1
     simp only [List.length_nil, List.length_cons]; omega
   cases hn : za4 q with
   | err e' => rw [hn] at hq; cases hq
   | ok n s =>
    rw [hn] at hq
    simp only at hq
    split at hq
    ·cases hq
    cases ha : zbt h (2 * k) s with
    | err e' => rw [ha] at hq; cases hq
    | ok a t =>
     rw [ha] at hq
     simp only at hq
     cases hb : zbt h (2 * k + 1) t with
     | err e' => rw [hb] at hq; cases hq
     | ok b u =>
      rw [hb] at hq
      injection hq with h1 h2
      subst h1
      have i1 := ih _ ha
      have i2 := ih _ hb
      simp only [List.length_append, List.length_cons, List.length_nil]
      omega
theorem zlf {h k : Nat} {x : Int} (hh : h <= 16) (hk : k < 2 ^ (16 - h)) (hx : inR h k x) : Sx.i64 x := by
 have h1 : (k + 1) * 2 ^ (h + 1) <= 2 ^ (16 - h) * 2 ^ (h + 1) := Nat.mul_le_mul_right _ (by omega)
 rw [<- Nat.pow_add, show 16 - h + (h + 1) = 17 by omega, Nat.add_mul, Nat.one_mul] at h1
 unfold inR at hx
 unfold Sx.i64
 omega
end
section
theorem zo4 {S : St} {id i im gh : Nat} {m : Value} {ents : List (Int × RV)} {cells : List TF} (ho : oget S.O im = some (.gen (mapO ents))) (hgh : fget S.F gh = some (.nm im m)) (hb : oget S.O id = some (.box cells)) (hc : cells[i]? = some (.r (.x m))) (hne : id ≠ im) :
  Sub S ⟨S.F, (id, some (.box (cells.set i (.r (.s (mapS ents)))))) :: (im, none) :: S.O, S.nx⟩ := by
 intro B N a w k h0
 obtain ⟨k', ⟨g, hs⟩, hat, _⟩ := zyh ho hgh h0
 have hid : oget ((im, none) :: S.O) id = some (.box cells) := by
  simp only [oget]
  split
  ·rename_i hb; exact absurd (Nat.eq_of_beq_eq_true hb).symm hne
  ·exact hb
 have old : ∀ x ox, oget ((id, some (Ow.box (cells.set i (.r (.s (mapS ents)))))) :: (im, none) :: S.O) x = some ox -> ∃ ox', oget ((im, none) :: S.O) x = some ox' := λ x ox hx => by
  rcases za2 hx with ⟨rfl, _⟩ | ⟨_, h'⟩
  ·exact ⟨_, hid⟩
  ·exact ⟨_, h'⟩
 refine ⟨k', g, hs.size, hs.defers, hs.keep, hs.kk, hs.facts, λ j o' ho' => ?_, λ x y ox oy b hx hy hne hb => ?_⟩
 ·rcases za2 ho' with ⟨rfl, e'⟩ | ⟨_, h'⟩
  ·cases e'
   obtain ⟨q1, q2, q3, q4⟩ := hs.owns _ _ hid
   refine ⟨q1, λ f hf => ?_, ?_, q4⟩
   ·rcases List.mem_or_eq_of_mem_set hf with hf | rfl
    ·exact q2 f hf
    ·exact True.intro
   ·obtain ⟨b, cur, t, e1, e2, e3, e4, e5⟩ := q3
    refine ⟨b, cur, t, e1, e2, e3, by simpa using e4, λ j f u hf hu => ?_⟩
    rw [List.getElem?_set] at hf
    split at hf
    ·rename_i hij
     subst hij
     split at hf
     ·cases hf
      obtain ⟨u1, u2⟩ := e5 i _ u hc hu
      simp only [TF.at_, RV.at_] at u2
      refine ⟨u1, ?_⟩
      simp only [TF.at_]
      rw [u2]
      exact hat
     ·cases hf
    ·exact e5 j f u hf hu
  ·exact hs.owns j o' h'
 ·obtain ⟨ox', hx'⟩ := old x ox hx
  obtain ⟨oy', hy'⟩ := old y oy hy
  exact hs.apart x y ox' oy' b hx' hy' hne hb
structure Piece where
 leaves : Nat
 own : Nat
 opn : List Spot
 shut : List Stub
def Piece.R (p : Piece) : RV := zit p.leaves p.own p.opn p.shut
def endP (only : Bool) (n i : Nat) (y : List Spot × List Stub) (r : List UInt8) : PR Piece := if r.length = 0 then (if zdx n i y.1 y.2 only then .ok ⟨n, i, y.1, y.2⟩ [] else .err 3) else .err 5
def zlh (only : Bool) (n i : Nat) (r : List UInt8) : PR Piece := match zbt n.log2 0 r with
 | .err e => .err e
 | .ok y r => endP only n i y r
def zji (only : Bool) (n : Nat) (r : List UInt8) : PR Piece := match numP 4 (λ i => decide ((i : Int) < n)) r with
 | .err e => .err e
 | .ok i r => zlh only n i r
def ziv (only : Bool) (r : List UInt8) : PR Piece := match numP 4 (λ n => zau n) r with
 | .err e => .err e
 | .ok n r => zji only n r
def zbs (mark : Int) (b : List UInt8) : PR Piece := if 1048576 < b.length then .err 6 else match numP 1 (λ n => decide ((n : Int) = mark)) b with
 | .err e => .err e
 | .ok _ r => ziv (decide (mark = 2)) r
abbrev z38 : RV := .ag [I 0, I 0, .x (.map none), .x (.map none)]
def zmk (q : PR Piece) : RV := match q with
 | .err e => .tu [z38, Er e]
 | .ok p _ => .tu [p.R, Er 0]
theorem ze8 {size : Nat} {q : Nat -> Bool} {l : List UInt8} {e : Nat} (h : numP size q l = .err e) : e = 4 \/ e = 3 := by
 unfold numP at h
 split at h
 ·injection h with h; omega
 ·split at h
  ·cases h
  ·injection h with h; omega
theorem zeo {size : Nat} {q : Nat -> Bool} {l r : List UInt8} {n : Nat} (h : numP size q l = .ok n r) : q n = true /\ r = l.drop size := by
 unfold numP at h
 split at h
 ·cases h
 ·split at h
  ·rename_i hq
   injection h with h1 h2
   subst h1
   exact ⟨hq, h2.symm⟩
  ·cases h
set_option maxHeartbeats 4000000 in
theorem zxx (mark : Int) (b : List UInt8) (hb : 1048576 < b.length) : zae Tryz.prog 150 [bs b, I mark] (.r (.tu [z38, Er 6])) := by
 refine zad (T := Tab) zaf Tab_ok Tryz.func150 rfl (by kernel_rfl) ?_
 refine zu (by simp only [zb]; omega) (zq ?_)
 refine za rfl rfl ?_
 exact ⟨_, rfl, cr⟩
set_option maxHeartbeats 8000000 in
theorem z1r (mark : Int) (b : List UInt8) (hb : b.length <= 1048576) : zae Tryz.prog 150 [bs b, I mark] (.r (zmk (zbs mark b))) := by
 refine zad (T := Tab) zaf Tab_ok Tryz.func150 rfl (by kernel_rfl) ?_
 refine zw (by simp only [zb]; omega) (zt ?_)
 refine ze (zpb b) ?_
 refine Vcode.run Tab_ok ?_
 refine Vstep.mapMk 2000001 rfl λ b1 => ?_
 refine Vstep.mapMk 2000002 rfl λ b2 => ?_
 refine Vstep.nm 0 1000000 rfl λ p0 => Vstep.mkfunX [p0] rfl ⟨_, _, rfl, ⟨0, 1000000, rfl, rfl⟩, rfl⟩ ?_
 have e0 : zbs mark b = (match numP 1 (λ n => decide ((n : Int) = mark)) b with | .err e => .err e | .ok _ r => ziv (decide (mark = 2)) r) := by unfold zbs; rw [if_neg (by omega)]
 cases hq : numP 1 (λ n => decide ((n : Int) = mark)) b with
 | err e =>
  have he := ze8 hq
  have eR : zbs mark b = .err e := by rw [e0, hq]
  refine zj [(0, 2), (1, 0)] [0, 1] (λ vs hv => zbl (by simp only [List.map]; rw [hv 1 0 1000000 _ rfl rfl]) (zlb (vs 0) p0 mark 1 (.inl rfl) b (by omega) _ _ _ (by rw [hq]; exact ⟨rfl, rfl, rfl⟩))) (zi rfl ⟨_, _, rfl, rfl, _, _, rfl, cr, _, _, rfl, cr, rfl⟩) rfl ⟨⟨_, _, rfl, cr, _, _, rfl, cr, rfl⟩, ⟨_, _, rfl, cr, rfl⟩, trivial⟩ ⟨zaa, zaa, trivial⟩ ?_
  refine zw (by simp only [zb]; omega) (zt ?_)
  refine zw (by simp only [zb]; omega) (zt ?_)
  refine zw (by simp only [zb]; omega) (zt ?_)
  refine zw (by simp only [zb]; omega) (zt ?_)
  refine zu (by simp only [zb]; omega) (zq ?_)
  refine za rfl rfl ?_
  exact ⟨_, rfl, zf (by rw [eR]; rfl)⟩
 | ok m r0 =>
  obtain ⟨_, hr0⟩ := zeo hq
  have hl0 : r0.length <= 1048576 := by rw [hr0, List.length_drop]; omega
  replace e0 : zbs mark b = ziv (decide (mark = 2)) r0 := by rw [e0, hq]
  refine zj [(0, 2), (1, 0)] [0, 1] (λ vs hv => zbl (by simp only [List.map]; rw [hv 1 0 1000000 _ rfl rfl]) (zlb (vs 0) p0 mark 1 (.inl rfl) b (by omega) _ _ _ (by rw [hq]; exact ⟨rfl, rfl, rfl⟩))) (zi rfl ⟨_, _, rfl, rfl, _, _, rfl, cr, _, _, rfl, cr, rfl⟩) rfl ⟨⟨_, _, rfl, cr, _, _, rfl, cr, rfl⟩, ⟨_, _, rfl, cr, rfl⟩, trivial⟩ ⟨zaa, zaa, trivial⟩ ?_
  clear hq
  refine zu rfl (zq ?_)
  cases hq : numP 4 (λ n => zau n) r0 with
  | err e =>
   have he := ze8 hq
   have eR : zbs mark b = .err e := by rw [e0]; unfold ziv; rw [hq]
   refine zj [(0, 2)] [0] (λ vs _ => zlg (vs 0) r0 (by omega) _ _ _ (by rw [hq]; exact ⟨rfl, rfl, rfl⟩)) (zi rfl ⟨_, _, rfl, rfl, _, _, rfl, cr, _, _, rfl, cr, rfl⟩) rfl ⟨⟨_, _, rfl, cr, _, _, rfl, cr, rfl⟩, trivial⟩ ⟨zaa, trivial⟩ ?_
   refine zw (by simp only [zb]; omega) (zt ?_)
   refine zw (by simp only [zb]; omega) (zt ?_)
   refine zw (by simp only [zb]; omega) (zt ?_)
   refine zu (by simp only [zb]; omega) (zq ?_)
   refine za rfl rfl ?_
   exact ⟨_, rfl, zf (by rw [eR]; rfl)⟩
  | ok n r1 =>
   obtain ⟨hfn, hr1⟩ := zeo hq
   have hl1 : r1.length <= 1048576 := by rw [hr1, List.length_drop]; omega
   replace e0 : zbs mark b = zji (decide (mark = 2)) n r1 := by rw [e0]; unfold ziv; rw [hq]
   refine zj [(0, 2)] [0] (λ vs _ => zlg (vs 0) r0 (by omega) _ _ _ (by rw [hq]; exact ⟨rfl, rfl, rfl⟩)) (zi rfl ⟨_, _, rfl, rfl, _, _, rfl, cr, _, _, rfl, cr, rfl⟩) rfl ⟨⟨_, _, rfl, cr, _, _, rfl, cr, rfl⟩, trivial⟩ ⟨zaa, trivial⟩ ?_
   clear hq
   refine zu rfl (zq ?_)
   refine Vstep.nm 5 1000003 rfl λ p5 => Vstep.mkfunX [p5] rfl ⟨_, _, rfl, ⟨5, 1000003, rfl, rfl⟩, rfl⟩ ?_
   cases hq : numP 4 (λ i => decide ((i : Int) < n)) r1 with
   | err e =>
    have he := ze8 hq
    have eR : zbs mark b = .err e := by rw [e0]; unfold zji; rw [hq]
    refine zj [(0, 2), (1, 5)] [0, 1] (λ vs hv => zbl (by simp only [List.map]; rw [hv 1 5 1000003 _ rfl rfl]) (zkc (vs 0) p5 n 0 (.map (some b1)) (.map (some b2)) 4 (.inr rfl) r1 (by omega) _ _ _ (by rw [hq]; exact ⟨rfl, rfl, rfl⟩))) (zi rfl ⟨_, _, rfl, rfl, _, _, rfl, cr, _, _, rfl, cr, rfl⟩) rfl ⟨⟨_, _, rfl, cr, _, _, rfl, cr, rfl⟩, ⟨_, _, rfl, cr, _, _, rfl, cr, _, _, rfl, cr, _, _, rfl, cr, rfl⟩, trivial⟩ ⟨zaa, zaa, trivial⟩ ?_
    refine zw (by simp only [zb]; omega) (zt ?_)
    refine zw (by simp only [zb]; omega) (zt ?_)
    refine zu (by simp only [zb]; omega) (zq ?_)
    refine za rfl rfl ?_
    exact ⟨_, rfl, zf (by rw [eR]; rfl)⟩
   | ok i r2 =>
    obtain ⟨hin, hr2⟩ := zeo hq
    have hl2 : r2.length <= 1048576 := by rw [hr2, List.length_drop]; omega
    replace e0 : zbs mark b = zlh (decide (mark = 2)) n i r2 := by rw [e0]; unfold zji; rw [hq]
    refine zj [(0, 2), (1, 5)] [0, 1] (λ vs hv => zbl (by simp only [List.map]; rw [hv 1 5 1000003 _ rfl rfl]) (zkc (vs 0) p5 n 0 (.map (some b1)) (.map (some b2)) 4 (.inr rfl) r1 (by omega) _ _ _ (by rw [hq]; exact ⟨rfl, rfl, rfl⟩))) (zi rfl ⟨_, _, rfl, rfl, _, _, rfl, cr, _, _, rfl, cr, rfl⟩) rfl ⟨⟨_, _, rfl, cr, _, _, rfl, cr, rfl⟩, ⟨_, _, rfl, cr, _, _, rfl, cr, _, _, rfl, cr, _, _, rfl, cr, rfl⟩, trivial⟩ ⟨zaa, zaa, trivial⟩ ?_
    clear hq
    refine zu rfl (zq ?_)
    obtain ⟨d, hd, hnd⟩ := zdu hfn
    have hn2 : n = 2 ^ d := by omega
    have hdl : n.log2 = d := by rw [hn2, Nat.log2_two_pow]
    have hroot : zga (n : Int) = (nd d 0 : Int) := by rw [zga, hfn, if_pos rfl, hnd, zfo]
    have e1 : zbs mark b = (match zbt d 0 r2 with | .err e => .err e | .ok y r => endP (decide (mark = 2)) n i y r) := by rw [e0]; unfold zlh; rw [hdl]
    refine Vdraw.cut 5 (by kernel_rfl) ?_
    refine za rfl rfl ?_
    refine ze (zqz _) ?_
    rw [hroot]
    cases hQ : zbt d 0 r2 with
    | err e =>
     have he := zof _ _ hQ
     have eR : zbs mark b = .err e := by rw [e1, hQ]
     refine zj [(0, 2), (1, 3), (2, 4)] [0, 1, 2] (λ vs hv => zbl (by simp only [List.map]; rw [hv 1 3 2000001 _ rfl rfl, hv 2 4 2000002 _ rfl rfl]) (zs4 (.map (some b1)) (.map (some b2)) n i d 0 r2 [] [] _ _ hd (zag _) (by omega) (by simp) (by simp) (vs 0) (by rw [hQ]; exact ⟨rfl, rfl⟩))) (zi rfl ⟨_, _, rfl, cr, _, _, rfl, rfl, _, _, rfl, cr, rfl⟩) rfl ⟨⟨_, _, rfl, cr, _, _, rfl, cr, rfl⟩, λ _ _ _ hh => hh, λ _ _ _ hh => hh, trivial⟩ ⟨zaa, zea, zea, trivial⟩ ?_
     refine zw (by simp only [zb]; omega) (zt ?_)
     refine zu (by simp only [zb]; omega) (zq ?_)
     refine za rfl rfl ?_
     exact ⟨_, rfl, zf (by rw [eR]; rfl)⟩
    | ok y r3 =>
     replace e1 : zbs mark b = endP (decide (mark = 2)) n i y r3 := by rw [e1, hQ]
     refine zj [(0, 2), (1, 3), (2, 4)] [0, 1, 2] (λ vs hv => zbl (by simp only [List.map]; rw [hv 1 3 2000001 _ rfl rfl, hv 2 4 2000002 _ rfl rfl]) (zs4 (.map (some b1)) (.map (some b2)) n i d 0 r2 [] [] _ _ hd (zag _) (by omega) (by simp) (by simp) (vs 0) (by rw [hQ]; exact ⟨rfl, rfl⟩))) (zi rfl ⟨_, _, rfl, cr, _, _, rfl, rfl, _, _, rfl, cr, rfl⟩) rfl ⟨⟨_, _, rfl, cr, _, _, rfl, cr, rfl⟩, λ _ _ _ hh => hh, λ _ _ _ hh => hh, trivial⟩ ⟨zaa, zea, zea, trivial⟩ ?_
     refine zu rfl (zq ?_)
     have ge := λ v => z9h v r3
     by_cases h5 : r3.length = 0
     rotate_left
     ·simp only [if_neg h5] at ge
      have eR : zbs mark b = .err 5 := by rw [e1]; unfold endP; rw [if_neg h5]
      refine zj [(0, 2)] [0] (λ vs _ => ge (vs 0)) (zi rfl ⟨_, _, rfl, rfl, rfl⟩) rfl ⟨⟨_, _, rfl, cr, _, _, rfl, cr, rfl⟩, trivial⟩ ⟨zaa, trivial⟩ ?_
      refine zu (by simp only [zb]; omega) (zq ?_)
      refine za rfl rfl ?_
      exact ⟨_, rfl, zf (by rw [eR]; rfl)⟩
     simp only [if_pos h5] at ge
     replace e1 : zbs mark b = (if zdx n i y.1 y.2 (decide (mark = 2)) then .ok ⟨n, i, y.1, y.2⟩ [] else .err 3) := by rw [e1]; unfold endP; rw [if_pos h5]
     refine Vstep.thenSub (zj [(0, 2)] [0] (λ vs _ => ge (vs 0)) (zi rfl ⟨_, _, rfl, rfl, rfl⟩) rfl ⟨⟨_, _, rfl, cr, _, _, rfl, cr, rfl⟩, trivial⟩ ⟨zaa, trivial⟩ ⟨_, Sub.trans (zo4 (id := 5) (i := 2) (im := 3) (gh := 2000001) rfl rfl rfl rfl (by decide)) (zo4 (id := 5) (i := 3) (im := 4) (gh := 2000002) rfl rfl rfl rfl (by decide)), ?_⟩)
     refine zw rfl (zt ?_)
     refine za rfl rfl ?_
     refine Vcmp.mk' (m := decide (mark = 2)) (by rw [Bool.eq_iff_iff]; simp only [zb]) ?_
     have hbd := zd5 hfn
     simp only [decide_eq_true_eq] at hin
     obtain ⟨i1, i2, i3⟩ := zhz _ _ hQ
     obtain ⟨f1, f2⟩ := zn7 _ _ (by omega) hQ
     have hlen := zky _ _ hQ
     have hpw : 2 ^ (d + 1) <= 131072 := Nat.pow_le_pow_right (n := 2) (by omega) (show d + 1 <= 17 by omega)
     have gr := z5y n i (by unfold Sx.i64; omega) (by unfold Sx.i64; omega) y.1 y.2 (decide (mark = 2)) (by omega) (by omega) f1 (λ s hs => zlf hd (zag _) (i1 s hs)) (λ s hs => zlf hd (zag _) (i2 s hs)) (λ s hs => by rw [f2 s hs]; decide)
     refine Vcall.bool gr (λ hp => zw rfl (zt ?_)) (λ hp => zu rfl (zq ?_))
     ·refine za rfl rfl ?_
      refine za rfl rfl ?_
      exact ⟨_, rfl, zf (by rw [e1, if_pos hp]; rfl)⟩
     ·refine za rfl rfl ?_
      exact ⟨_, rfl, zf (by rw [e1, if_neg (by rw [hp]; simp)]; rfl)⟩
theorem z7y (mark : Int) (b : List UInt8) : zae Tryz.prog 150 [bs b, I mark] (.r (zmk (zbs mark b))) := by
 by_cases hb : 1048576 < b.length
 ·have := zxx mark b hb
  have e : zbs mark b = .err 6 := by unfold zbs; rw [if_pos hb]
  rw [e]
  exact this
 ·exact z1r mark b (by omega)
end
end Go.Proofs.YtpdllgbfemnemaaGreat.Sx
