import Derived.Test.YtpdllgbfemnemaaGreatZTe
import Derived.Test.YtpdllgbfemnemaaGreatZRf
namespace Go.Proofs.YtpdllgbfemnemaaGreat.Sx
open Go.RowKit
set_option linter.unusedVariables false
section
def lfC (y : Leaf) : List RV := [U8 1, bs y.box, bs y.sign, bs y.ident, U8 y.src, bs y.parent, bs y.sig, .x (.slice none 0 0), .x (.slice none 0 0), .x (.slice none 0 0)]
def prC (y : Par) : List RV := [U8 2, .x (.slice none 0 0), .x (.slice none 0 0), .x (.slice none 0 0), .i .u8 0, .x (.slice none 0 0), .x (.slice none 0 0), bs y.box, bs y.hash, is y.late]
theorem zww (P : Par) : Cv (.ag (prC P)) (.ag (Node.c ⟨2, zl, P⟩)) := zo5 P
theorem zva (L : Leaf) : Cv (.ag (lfC L)) (.ag (Node.c ⟨1, L, zp⟩)) := znc L
theorem zsy (l : List UInt8) : parP l = match zbe 3 l with
  | .err e => .err e
  | .ok vs r => if (vs.getD 2 []).length % 4 = 0 /\ (zhg vs).right = true then .ok ⟨2, zl, zhg vs⟩ r else .err 3 := rfl
theorem z5n {l : List UInt8} {e : Nat} (h : parP l = .err e) : e = 3 \/ e = 4 := by
 rw [zsy] at h
 cases hv : zbe 3 l with
 | err e' => rw [hv] at h; injection h with h; subst h; exact ze6 3 hv
 | ok vs s =>
  rw [hv] at h
  simp only at h
  split at h
  ·cases h
  ·injection h with h; omega
theorem z7a {l r : List UInt8} {vs : List (List UInt8)} (hv : zbe 3 l = .ok vs r) : ∃ x0 x1 x2 r0 r1, vecP l = .ok x0 r0 /\ vecP r0 = .ok x1 r1 /\ vecP r1 = .ok x2 r /\ vs = [x0, x1, x2] := by
 simp only [zbe] at hv
 cases h0 : vecP l with
 | err e' => rw [h0] at hv; cases hv
 | ok x0 r0 =>
  rw [h0] at hv
  simp only at hv
  cases h1 : vecP r0 with
  | err e' => rw [h1] at hv; cases hv
  | ok x1 r1 =>
   rw [h1] at hv
   simp only at hv
   cases h2 : vecP r1 with
   | err e' => rw [h2] at hv; cases hv
   | ok x2 r2 =>
    rw [h2] at hv
    simp only [PR.ok.injEq] at hv
    obtain ⟨rfl, rfl⟩ := hv
    exact ⟨x0, x1, x2, r0, r1, rfl, h1, h2, rfl⟩
theorem zu7 (v : Value) (l : List UInt8) (e : Nat) (hl : l.length <= 100000000) (h : parP l = .err e) : Acts Tryz.prog 216 1 (rdL l) [.own 0] [(0, v)] 2 rdZ (.r (.tu [.ag zp.c, Er e])) := by
 rw [zsy] at h
 cases hv : zbe 3 l with
 | err e' => rw [hv] at h; injection h with h; subst h; exact zss v l (by omega) e' hv
 | ok vs r =>
  rw [hv] at h
  obtain ⟨x0, x1, x2, r0, r1, h0, h1, h2, rfl⟩ := z7a hv
  simp only at h
  split at h
  ·cases h
  ·rename_i hn
   injection h with h
   subst h
   exact zld v l hl x0 x1 x2 r0 r1 r h0 h1 h2 _ _ _ (by rw [if_neg (show ¬(x2.length % 4 = 0 /\ (zhg [x0, x1, x2]).right = true) from hn)]; exact ⟨rfl, rfl, rfl⟩)
theorem zuj (v : Value) (l r : List UInt8) (n : Node) (hl : l.length <= 100000000) (h : parP l = .ok n r) : n = ⟨2, zl, n.par⟩ /\ Acts Tryz.prog 216 1 (rdL l) [.own 0] [(0, v)] 2 (rdL r) (.r (.tu [.ag n.par.c, Er 0])) := by
 rw [zsy] at h
 cases hv : zbe 3 l with
 | err e' => rw [hv] at h; cases h
 | ok vs q =>
  rw [hv] at h
  obtain ⟨x0, x1, x2, r0, r1, h0, h1, h2, rfl⟩ := z7a hv
  simp only at h
  split at h
  ·rename_i hn
   injection h with h3 h4
   subst h3; subst h4
   exact ⟨rfl, zld v l hl x0 x1 x2 r0 r1 q h0 h1 h2 _ _ _ (by rw [if_pos (show x2.length % 4 = 0 /\ (zhg [x0, x1, x2]).right = true from hn)]; exact ⟨rfl, rfl, rfl⟩)⟩
  ·cases h
set_option maxHeartbeats 2000000 in
theorem zq9 (v : Value) (l : List UInt8) (hl : l.length <= 100000000) (O1 : List (Nat × Ow)) (x : Node) (e : Nat)
  (h : match za4 l with
   | .err e' => O1 = rdZ /\ x = Node.zero /\ e = e'
   | .ok y r => O1 = rdL r /\ x = y /\ e = 0) : Acts Tryz.prog 202 1 (rdL l) [.own 0] [(0, v)] 2 O1 (.r (.tu [.ag x.c, Er e])) := by
 refine zak (T := Tab) zaf Tab_ok Tryz.func202 rfl (by kernel_rfl) rfl ?_ ?_
 ·cases hP : za4 l with
  | err e' => rw [hP] at h; obtain ⟨rfl, _, _⟩ := h; exact zj0 _ _ _
  | ok m r => rw [hP] at h; obtain ⟨rfl, _, _⟩ := h; exact zbn _ _ _ _ _
 cases l with
 | nil =>
  obtain ⟨rfl, rfl, rfl⟩ := h
  refine zj [(0, 0)] [0] (λ vs _ => zhk (vs 0) [] 1 (by omega) (by simp)) (zi rfl ⟨_, _, rfl, rfl, _, _, rfl, cr, rfl⟩) rfl ⟨⟨_, _, rfl, cr, _, _, rfl, cr, rfl⟩, trivial⟩ ⟨zaa, trivial⟩ ?_
  refine Vint.byte 0 rfl ?_
  refine zj [(0, 0)] [0] (λ vs _ => zck (vs 0) _) (zi rfl ⟨_, _, rfl, rfl, rfl⟩) rfl ⟨⟨_, _, rfl, trivial, _, _, rfl, cr, rfl⟩, trivial⟩ ⟨zaa, trivial⟩ ?_
  refine zu rfl (zq ?_)
  exact zai (.inl rfl) [(0, 0), (1, 1)] [(2, .own 1), (3, .r (Er _))] [(1, some (.box ((zc : List RV).map .r)))] rfl ⟨rfl, cr, ⟨rfl, rfl⟩, trivial⟩ ⟨⟨_, _, rfl, trivial, _, _, rfl, trivial, rfl⟩, ⟨_, _, rfl, cr, _, _, rfl, cr, _, _, rfl, cr, _, _, rfl, cr, _, _, rfl, cr, _, _, rfl, cr, _, _, rfl, cr, _, _, rfl, cr, _, _, rfl, cr, _, _, rfl, cr, rfl⟩, trivial⟩ ⟨⟨1000000, rfl⟩, trivial⟩ (za rfl rfl ⟨_, rfl, Cv.tu (zk ze4 (zn _))⟩)
 | cons c r =>
  have hcl := c.toNat_lt
  have hlr : r.length <= 100000000 := by simp only [List.length_cons] at hl; omega
  refine zj [(0, 0)] [0] (λ vs _ => zla (vs 0) (c :: r) 1 (by omega) (by simp)) (zi rfl ⟨_, _, rfl, rfl, _, _, rfl, cr, rfl⟩) rfl ⟨⟨_, _, rfl, cr, _, _, rfl, cr, rfl⟩, trivial⟩ ⟨zaa, trivial⟩ ?_
  rw [show List.take 1 (c :: r) = [c] from rfl, num1]
  refine Vint.byte c rfl ?_
  refine zj [(0, 0)] [0] (λ vs _ => ze3 (vs 0) r) (zi rfl ⟨_, _, rfl, rfl, rfl⟩) rfl ⟨⟨_, _, rfl, cr, _, _, rfl, cr, rfl⟩, trivial⟩ ⟨zaa, trivial⟩ ?_
  refine zw rfl (zt ?_)
  simp only [za4] at h
  by_cases hc0 : c.toNat = 0
  ·rw [if_pos hc0] at h
   obtain ⟨rfl, rfl, rfl⟩ := h
   refine zu (by simp only [zb]; omega) (zq ?_)
   refine za rfl rfl ?_
   obtain rfl : c = 0 := UInt8.toNat.inj hc0
   exact zai (.inl rfl) [(0, 0), (1, 1)] [(2, .own 1), (3, .r (Er 0))] [(1, some (.box ((zc : List RV).map .r)))] rfl ⟨rfl, cr, ⟨rfl, rfl⟩, trivial⟩ ⟨⟨_, _, rfl, cr, _, _, rfl, cr, rfl⟩, ⟨_, _, rfl, cr, _, _, rfl, cr, _, _, rfl, cr, _, _, rfl, cr, _, _, rfl, cr, _, _, rfl, cr, _, _, rfl, cr, _, _, rfl, cr, _, _, rfl, cr, _, _, rfl, cr, rfl⟩, trivial⟩ ⟨⟨1000000, rfl⟩, trivial⟩ (za rfl rfl ⟨_, rfl, Cv.tu (zk ze4 (zn _))⟩)
  rw [if_neg hc0] at h
  refine zw (by simp only [zb]; omega) (zt ?_)
  by_cases hc1 : c.toNat = 1
  ·rw [if_pos hc1] at h
   refine zu (by simp only [zb]; omega) (zq ?_)
   obtain rfl : c = 1 := UInt8.toNat.inj hc1
   cases hp : zcv r with
   | err e' =>
    rw [hp] at h
    obtain ⟨rfl, rfl, rfl⟩ := h
    have he := zm9 hp
    refine zj [(0, 0)] [0] (λ vs _ => zs1 (vs 0) r _ (by omega) hp) (zi rfl ⟨_, _, rfl, rfl, rfl⟩) rfl ⟨⟨_, _, rfl, cr, _, _, rfl, cr, rfl⟩, trivial⟩ ⟨zaa, trivial⟩ ?_
    refine zu (by simp only [zb]; omega) (zq ?_)
    exact zai (.inl rfl) [(0, 0), (1, 1)] [(2, .own 1), (3, .r (Er _))] [(1, some (.box ((zc : List RV).map .r)))] rfl ⟨rfl, cr, ⟨rfl, rfl⟩, trivial⟩ ⟨⟨_, _, rfl, trivial, _, _, rfl, trivial, rfl⟩, ⟨_, _, rfl, cr, _, _, rfl, cr, _, _, rfl, cr, _, _, rfl, cr, _, _, rfl, cr, _, _, rfl, cr, _, _, rfl, cr, _, _, rfl, cr, _, _, rfl, cr, _, _, rfl, cr, rfl⟩, trivial⟩ ⟨⟨1000000, rfl⟩, trivial⟩ (za rfl rfl ⟨_, rfl, Cv.tu (zk ze4 (zn _))⟩)
   | ok y q =>
    rw [hp] at h
    obtain ⟨rfl, rfl, rfl⟩ := h
    refine zj [(0, 0)] [0] (λ vs _ => z2d (vs 0) r q y (by omega) hp) (zi rfl ⟨_, _, rfl, rfl, rfl⟩) rfl ⟨⟨_, _, rfl, cr, _, _, rfl, cr, rfl⟩, trivial⟩ ⟨zaa, trivial⟩ ?_
    refine zw rfl (zt ?_)
    refine za rfl rfl ?_
    exact zai (.inl rfl) [(0, 0), (1, 1)] [(2, .own 1), (3, .r (Er 0))] [(1, some (.box ((lfC y : List RV).map .r)))] rfl ⟨rfl, cr, ⟨rfl, rfl⟩, trivial⟩ ⟨⟨_, _, rfl, cr, _, _, rfl, cr, rfl⟩, ⟨_, _, rfl, cr, _, _, rfl, cr, _, _, rfl, cr, _, _, rfl, cr, _, _, rfl, cr, _, _, rfl, cr, _, _, rfl, cr, _, _, rfl, cr, _, _, rfl, cr, _, _, rfl, cr, rfl⟩, trivial⟩ ⟨⟨1000000, rfl⟩, trivial⟩ (za rfl rfl ⟨_, rfl, Cv.tu (zk (zva y) (zn _))⟩)
  rw [if_neg hc1] at h
  refine zw (by simp only [zb]; omega) (zt ?_)
  by_cases hc2 : c.toNat = 2
  ·rw [if_pos hc2] at h
   refine zu (by simp only [zb]; omega) (zq ?_)
   obtain rfl : c = 2 := UInt8.toNat.inj hc2
   cases hp : parP r with
   | err e' =>
    rw [hp] at h
    obtain ⟨rfl, rfl, rfl⟩ := h
    have he := z5n hp
    refine zj [(0, 0)] [0] (λ vs _ => zu7 (vs 0) r _ hlr hp) (zi rfl ⟨_, _, rfl, rfl, rfl⟩) rfl ⟨⟨_, _, rfl, cr, _, _, rfl, cr, rfl⟩, trivial⟩ ⟨zaa, trivial⟩ ?_
    refine zu (by simp only [zb]; omega) (zq ?_)
    exact zai (.inl rfl) [(0, 0), (1, 1)] [(2, .own 1), (3, .r (Er _))] [(1, some (.box ((zc : List RV).map .r)))] rfl ⟨rfl, cr, ⟨rfl, rfl⟩, trivial⟩ ⟨⟨_, _, rfl, trivial, _, _, rfl, trivial, rfl⟩, ⟨_, _, rfl, cr, _, _, rfl, cr, _, _, rfl, cr, _, _, rfl, cr, _, _, rfl, cr, _, _, rfl, cr, _, _, rfl, cr, _, _, rfl, cr, _, _, rfl, cr, _, _, rfl, cr, rfl⟩, trivial⟩ ⟨⟨1000000, rfl⟩, trivial⟩ (za rfl rfl ⟨_, rfl, Cv.tu (zk ze4 (zn _))⟩)
   | ok y q =>
    rw [hp] at h
    obtain ⟨rfl, rfl, rfl⟩ := h
    have hg := (zuj v r q x hlr hp).1
    refine zj [(0, 0)] [0] (λ vs _ => (zuj (vs 0) r q x hlr hp).2) (zi rfl ⟨_, _, rfl, rfl, rfl⟩) rfl ⟨⟨_, _, rfl, cr, _, _, rfl, cr, rfl⟩, trivial⟩ ⟨zaa, trivial⟩ ?_
    refine zw rfl (zt ?_)
    refine za rfl rfl ?_
    have hcv : Cv (.ag (prC x.par)) (.ag x.c) := by rw [hg]; exact zww x.par
    exact zai (.inl rfl) [(0, 0), (1, 1)] [(2, .own 1), (3, .r (Er 0))] [(1, some (.box ((prC x.par : List RV).map .r)))] rfl ⟨rfl, cr, ⟨rfl, rfl⟩, trivial⟩ ⟨⟨_, _, rfl, cr, _, _, rfl, cr, rfl⟩, ⟨_, _, rfl, cr, _, _, rfl, cr, _, _, rfl, cr, _, _, rfl, cr, _, _, rfl, cr, _, _, rfl, cr, _, _, rfl, cr, _, _, rfl, cr, _, _, rfl, cr, _, _, rfl, cr, rfl⟩, trivial⟩ ⟨⟨1000000, rfl⟩, trivial⟩ (za rfl rfl ⟨_, rfl, Cv.tu (zk hcv (zn _))⟩)
  rw [if_neg hc2] at h
  obtain ⟨rfl, rfl, rfl⟩ := h
  refine zw (by simp only [zb]; omega) (zt ?_)
  refine zu rfl (zq ?_)
  exact zai (.inl rfl) [(0, 0), (1, 1)] [(2, .own 1), (3, .r (Er _))] [(1, some (.box ((zc : List RV).map .r)))] rfl ⟨rfl, cr, ⟨rfl, rfl⟩, trivial⟩ ⟨⟨_, _, rfl, trivial, _, _, rfl, trivial, rfl⟩, ⟨_, _, rfl, cr, _, _, rfl, cr, _, _, rfl, cr, _, _, rfl, cr, _, _, rfl, cr, _, _, rfl, cr, _, _, rfl, cr, _, _, rfl, cr, _, _, rfl, cr, _, _, rfl, cr, rfl⟩, trivial⟩ ⟨⟨1000000, rfl⟩, trivial⟩ (za rfl rfl ⟨_, rfl, Cv.tu (zk ze4 (zn _))⟩)
theorem zpe (v : Value) (l : List UInt8) (e : Nat) (hl : l.length <= 100000000) (h : za4 l = .err e) : Acts Tryz.prog 202 1 (rdL l) [.own 0] [(0, v)] 2 rdZ (.r (.tu [.ag Node.zero.c, Er e])) :=
 zq9 v l hl _ _ _ (by rw [h]; exact ⟨rfl, rfl, rfl⟩)
theorem zzi (v : Value) (l r : List UInt8) (n : Node) (hl : l.length <= 100000000) (h : za4 l = .ok n r) : Acts Tryz.prog 202 1 (rdL l) [.own 0] [(0, v)] 2 (rdL r) (.r (.tu [.ag n.c, Er 0])) :=
 zq9 v l hl _ _ _ (by rw [h]; exact ⟨rfl, rfl, rfl⟩)
end
section
def zbt : Nat -> Nat -> List UInt8 -> PR (List Spot × List Stub)
 | _, _, [] => .err 4
 | h, k, c :: r =>
  if 1 < c.toNat then .err 3 else if c.toNat = 0 then (if r.length < 32 then .err 4 else .ok ([], [⟨(nd h k : Int), r.take 32⟩]) (r.drop 32))
  else match za4 r with
   | .err e => .err e
   | .ok n s =>
    match h with
    | 0 => if n.kind.toNat = 2 then .err 3 else .ok ([⟨(nd 0 k : Int), n⟩], []) s
    | h + 1 => if n.kind.toNat = 1 then .err 3 else match zbt h (2 * k) s with
     | .err e => .err e
     | .ok a s => match zbt h (2 * k + 1) s with
      | .err e => .err e
      | .ok b s => .ok ([⟨(nd (h + 1) k : Int), n⟩] ++ a.1 ++ b.1, a.2 ++ b.2) s
def zrv (p q : PR (List Spot × List Stub)) : Prop := match p with
 | .err e => q = .err e
 | .ok x r => ∃ y, q = .ok (y, x.2) r /\ y.Perm x.1
theorem zsw : ∀ (h k : Nat) (l : List UInt8), zrv (zav h k l) (zbt h k l) := by
 intro h
 induction h with
 | zero =>
  intro k l
  cases l with
  | nil => rfl
  | cons c r =>
   simp only [zav, zbt]
   split
   ·rfl
   ·split
    ·split
     ·rfl
     ·exact ⟨_, rfl, List.Perm.refl _⟩
    ·cases za4 r with
     | err e => rfl
     | ok n s =>
      simp only
      split
      ·rfl
      ·exact ⟨_, rfl, List.Perm.refl _⟩
 | succ h ih =>
  intro k l
  cases l with
  | nil => rfl
  | cons c r =>
   simp only [zav, zbt]
   split
   ·rfl
   ·split
    ·split
     ·rfl
     ·exact ⟨_, rfl, List.Perm.refl _⟩
    ·cases za4 r with
     | err e => rfl
     | ok n s =>
      simp only
      split
      ·rfl
      ·have h1 := ih (2 * k) s
       cases ha : zav h (2 * k) s with
       | err e => rw [ha] at h1; simp only [zrv] at h1; rw [h1]; rfl
       | ok a s1 =>
        rw [ha] at h1
        obtain ⟨y, hy, py⟩ := h1
        rw [hy]
        simp only
        have h2 := ih (2 * k + 1) s1
        cases hb : zav h (2 * k + 1) s1 with
        | err e => rw [hb] at h2; simp only [zrv] at h2; rw [h2]; rfl
        | ok b s2 =>
         rw [hb] at h2
         obtain ⟨z, hz, pz⟩ := h2
         rw [hz]
         refine ⟨_, rfl, ?_⟩
         simp only [List.singleton_append, List.append_assoc, List.cons_append]
         exact (((py.append pz).cons _)).trans List.perm_middle.symm
theorem zhz : ∀ (h k : Nat) {l r : List UInt8} {y : List Spot × List Stub}, zbt h k l = .ok y r -> (∀ s ∈ y.1, inR h k s.at_) /\ (∀ s ∈ y.2, inR h k s.at_) /\ r.length <= l.length := by
 intro h
 induction h with
 | zero =>
  intro k l r y hl
  cases l with
  | nil => cases hl
  | cons c q =>
   simp only [zbt] at hl
   split at hl
   ·cases hl
   ·split at hl
    ·split at hl
     ·cases hl
     ·injection hl with h1 h2; subst h1; subst h2
      exact ⟨λ s hs => (by cases hs), λ s hs => by rw [List.mem_singleton.1 hs]; exact zd6 _ _, by simp; omega⟩
    ·cases hn : za4 q with
     | err e => rw [hn] at hl; cases hl
     | ok n s =>
      rw [hn] at hl
      obtain ⟨j, rfl, hj⟩ := zdz hn
      simp only at hl
      split at hl
      ·cases hl
      ·injection hl with h1 h2; subst h1; subst h2
       exact ⟨λ s hs => by rw [List.mem_singleton.1 hs]; exact zd6 _ _, λ s hs => by (cases hs), by simp; omega⟩
 | succ h ih =>
  intro k l r y hl
  cases l with
  | nil => cases hl
  | cons c q =>
   simp only [zbt] at hl
   split at hl
   ·cases hl
   ·split at hl
    ·split at hl
     ·cases hl
     ·injection hl with h1 h2; subst h1; subst h2
      exact ⟨λ s hs => (by cases hs), λ s hs => by rw [List.mem_singleton.1 hs]; exact zd6 _ _, by simp; omega⟩
    ·cases hn : za4 q with
     | err e => rw [hn] at hl; cases hl
     | ok n s =>
      rw [hn] at hl
      obtain ⟨j, rfl, hj⟩ := zdz hn
      simp only at hl
      split at hl
      ·cases hl
      ·cases ha : zbt h (2 * k) (q.drop j) with
       | err e => rw [ha] at hl; cases hl
       | ok a s1 =>
        rw [ha] at hl
        simp only at hl
        cases hb : zbt h (2 * k + 1) s1 with
        | err e => rw [hb] at hl; cases hl
        | ok b s2 =>
         rw [hb] at hl
         injection hl with h1 h2; subst h1; subst h2
         obtain ⟨a1, a2, a3⟩ := ih _ ha
         obtain ⟨b1, b2, b3⟩ := ih _ hb
         refine ⟨λ s hs => ?_, λ s hs => ?_, by rw [List.length_drop] at a3; simp; omega⟩
         ·rcases List.mem_append.1 hs with hs | hs
          ·rcases List.mem_append.1 hs with hs | hs
           ·rw [List.mem_singleton.1 hs]; exact zd6 _ _
           ·exact (zbu (a1 s hs)).1
          ·exact (zbx (b1 s hs)).1
         ·rcases List.mem_append.1 hs with hs | hs
          ·exact (zbu (a2 s hs)).1
          ·exact (zbx (b2 s hs)).1
def mapZ : GOw where
 at_ w k vb := ∃ ents, (mapO ents).at_ w k vb
 mono := λ h hb ⟨e, he⟩ => ⟨e, (mapO e).mono h hb he⟩
 one := λ ⟨e, he⟩ => (mapO e).one he
theorem zxr : Nmd (.gen mapZ) := λ w k g vb ⟨e, he⟩ => zh0 (ents := e) w k g vb he
theorem zbl {P : Program} {f : FuncId} {n0 n1 : Nat} {O0 O1 : List (Nat × Ow)} {args : List TF} {names names' : List (Nat × Value)} {res : TF} (e : names = names') (h : Acts P f n0 O0 args names n1 O1 res) : Acts P f n0 O0 args names' n1 O1 res := e ▸ h
theorem zj5 {A : List Spot} {x : Int} (h : ∀ s ∈ A, s.at_ ≠ x) : zch (zay A) x = none := by
 rw [zgc, Option.map_eq_none_iff]
 unfold zaj
 rw [Option.map_eq_none_iff, List.find?_eq_none]
 intro s hs
 simpa using h s hs
theorem zj9 {A : List Stub} {x : Int} (h : ∀ s ∈ A, s.at_ ≠ x) : zch (za0 A) x = none := by
 rw [zf6, Option.map_eq_none_iff]
 unfold zdl
 rw [Option.map_eq_none_iff, List.find?_eq_none]
 intro s hs
 simpa using h s hs
abbrev pcR (leaves own : Int) (m1 m2 : Value) : RV := .ag [I leaves, I own, .x m1, .x m2]
abbrev tkO (l : List UInt8) (A : List Spot) (B : List Stub) : List (Nat × Ow) := [(0, rdO (bs l) 0), (1, .gen (mapO (zay A))), (2, .gen (mapO (za0 B)))]
abbrev tkZ : List (Nat × Ow) := [(0, .box [.r .any, .r .any]), (1, .gen mapZ), (2, .gen mapZ)]
abbrev tkN (v m1 m2 : Value) : List (Nat × Value) := [(0, v), (1, m1), (2, m2)]
theorem z8b (l l' : List UInt8) (A A' : List Spot) (B B' : List Stub) (v m1 m2 : Value) : zi4 (tkO l A B) (tkO l' A' B') (tkN v m1 m2) := ⟨⟨_, _, rfl, rfl, zan, zan⟩, ⟨_, _, rfl, rfl, zh0, zh0⟩, ⟨_, _, rfl, rfl, zh0, zh0⟩, trivial⟩
theorem z42 (l : List UInt8) (A : List Spot) (B : List Stub) (v m1 m2 : Value) : zi4 (tkO l A B) tkZ (tkN v m1 m2) := ⟨⟨_, _, rfl, rfl, zan, zan⟩, ⟨_, _, rfl, rfl, zh0, zxr⟩, ⟨_, _, rfl, rfl, zh0, zxr⟩, trivial⟩
def zni (q : PR (List Spot × List Stub)) (A : List Spot) (B : List Stub) (O1 : List (Nat × Ow)) (e : Nat) : Prop := match q with
 | .err e' => O1 = tkZ /\ e = e'
 | .ok y r => O1 = tkO r (A ++ y.1) (B ++ y.2) /\ e = 0
theorem z3p {q : PR (List Spot × List Stub)} {l : List UInt8} {A : List Spot} {B : List Stub} {O1 : List (Nat × Ow)} {e : Nat} (v m1 m2 : Value) (h : zni q A B O1 e) : zi4 (tkO l A B) O1 (tkN v m1 m2) := by
 cases q with
 | err e' => obtain ⟨rfl, _⟩ := h; exact z42 _ _ _ _ _ _
 | ok y r => obtain ⟨rfl, _⟩ := h; exact z8b _ _ _ _ _ _ _ _ _
theorem zof (h k : Nat) {l : List UInt8} {e : Nat} (hq : zbt h k l = .err e) : e = 3 \/ e = 4 := by
 have := zsw h k l
 cases hp : zav h k l with
 | err e' => rw [hp] at this; simp only [zrv] at this; rw [this] at hq; injection hq with hq; subst hq; exact zir h k hp
 | ok x r => rw [hp] at this; obtain ⟨y, hy, _⟩ := this; rw [hy] at hq; cases hq
set_option maxHeartbeats 4000000 in
theorem zvy (v m1 m2 : Value) (leaves own : Int) (k : Nat) (hk : k < 2 ^ (16 - 0)) (l : List UInt8) (hl : l.length <= 100000000) (A : List Spot) (B : List Stub) (hA : ∀ s ∈ A, ¬ inR 0 k s.at_) (hB : ∀ s ∈ B, ¬ inR 0 k s.at_) (O1 : List (Nat × Ow)) (e : Nat)
  (hq : zni (zbt 0 k l) A B O1 e) : Acts Tryz.prog 182 3 (tkO l A B) [.r (pcR leaves own m1 m2), .own 0, .r (I (nd 0 k))] (tkN v m1 m2) 3 O1 (.r (Er e)) := by
 refine zak (T := Tab) zaf Tab_ok Tryz.func182 rfl (by kernel_rfl) rfl (z3p v m1 m2 hq) ?_
 have hnA : zch (zay A) (nd 0 k : Int) = none := zj5 λ s hs e => hA s hs (by rw [e]; exact zd6 _ _)
 have hnB : zch (za0 B) (nd 0 k : Int) = none := zj9 λ s hs e => hB s hs (by rw [e]; exact zd6 _ _)
 cases l with
 | nil =>
  obtain ⟨rfl, rfl⟩ := hq
  refine zj [(0, 0)] [0] (λ vs _ => zpc (vs 0)) (zi rfl ⟨_, _, rfl, rfl, rfl⟩) rfl ⟨⟨_, _, rfl, cr, _, _, rfl, cr, rfl⟩, trivial⟩ ⟨zaa, trivial⟩ ?_
  refine zj [(0, 0)] [0] (λ vs _ => zck (vs 0) 4) (zi rfl ⟨_, _, rfl, rfl, rfl⟩) rfl ⟨⟨_, _, rfl, trivial, _, _, rfl, cr, rfl⟩, trivial⟩ ⟨zaa, trivial⟩ ?_
  refine zu rfl (zq ?_)
  exact zai (.inl rfl) [(0, 0), (1, 1), (2, 2)] [(6, .r (Er 4))] [] rfl ⟨cr, ⟨rfl, rfl⟩, ⟨rfl, rfl⟩, ⟨rfl, rfl⟩, trivial⟩ ⟨⟨_, _, rfl, trivial, _, _, rfl, trivial, rfl⟩, λ _ _ _ hh => ⟨_, hh⟩, λ _ _ _ hh => ⟨_, hh⟩, trivial⟩ ⟨⟨1000000, rfl⟩, ⟨1000001, rfl⟩, ⟨1000002, rfl⟩, trivial⟩ (cr)
 | cons c s =>
  have hcl := c.toNat_lt
  have hls : s.length <= 100000000 := by simp only [List.length_cons] at hl; omega
  simp only [zbt] at hq
  by_cases h1 : 1 < c.toNat
  ·rw [if_pos h1] at hq
   obtain ⟨rfl, rfl⟩ := hq
   refine zj [(0, 0)] [0] (λ vs _ => zpj (vs 0) c s h1) (zi rfl ⟨_, _, rfl, rfl, rfl⟩) rfl ⟨⟨_, _, rfl, cr, _, _, rfl, cr, rfl⟩, trivial⟩ ⟨zaa, trivial⟩ ?_
   refine zj [(0, 0)] [0] (λ vs _ => zck (vs 0) 3) (zi rfl ⟨_, _, rfl, rfl, rfl⟩) rfl ⟨⟨_, _, rfl, trivial, _, _, rfl, cr, rfl⟩, trivial⟩ ⟨zaa, trivial⟩ ?_
   refine zu rfl (zq ?_)
   exact zai (.inl rfl) [(0, 0), (1, 1), (2, 2)] [(6, .r (Er 3))] [] rfl ⟨cr, ⟨rfl, rfl⟩, ⟨rfl, rfl⟩, ⟨rfl, rfl⟩, trivial⟩ ⟨⟨_, _, rfl, trivial, _, _, rfl, trivial, rfl⟩, λ _ _ _ hh => ⟨_, hh⟩, λ _ _ _ hh => ⟨_, hh⟩, trivial⟩ ⟨⟨1000000, rfl⟩, ⟨1000001, rfl⟩, ⟨1000002, rfl⟩, trivial⟩ (cr)
  rw [if_neg h1] at hq
  refine zj [(0, 0)] [0] (λ vs _ => zzo (vs 0) c s (by omega)) (zi rfl ⟨_, _, rfl, rfl, rfl⟩) rfl ⟨⟨_, _, rfl, cr, _, _, rfl, cr, rfl⟩, trivial⟩ ⟨zaa, trivial⟩ ?_
  refine zj [(0, 0)] [0] (λ vs _ => ze3 (vs 0) s) (zi rfl ⟨_, _, rfl, rfl, rfl⟩) rfl ⟨⟨_, _, rfl, cr, _, _, rfl, cr, rfl⟩, trivial⟩ ⟨zaa, trivial⟩ ?_
  refine zw rfl (zt ?_)
  by_cases h0 : c.toNat = 0
  ·rw [if_pos h0] at hq
   rw [show decide (c.toNat = 1) = false by simp; omega]
   refine zu rfl (zq ?_)
   refine Vdraw.code (Vcode.float zaf Tab_ok 5 [⟨0, 21, .adr 3 3, []⟩, ⟨1, 22, .r (.x m2), [0]⟩, ⟨2, 23, .r (I (nd 0 k)), []⟩] [(3, []), (4, [])] (by kernel_rfl) (F := [(1, .own 0), (2, .r (I (nd 0 k))), (3, .own 3), (1000000, .nm 0 v), (1000001, .nm 1 m1), (1000002, .nm 2 m2)]) (O := [(0, some (rdO (bs s) 0)), (1, some (.gen (mapO (zay A)))), (2, some (.gen (mapO (za0 B)))), (3, some (.box [.r (I leaves), .r (I own), .r (.x m1), .r (.x m2)]))]) (nx := 4) (zac [(0, 0), (1, 1), (2, 2), (3, 3)] rfl ⟨rfl, cr, rfl, ⟨rfl, rfl⟩, ⟨rfl, rfl⟩, ⟨rfl, rfl⟩, trivial⟩ ⟨⟨_, _, rfl, cr, _, _, rfl, cr, rfl⟩, λ _ _ _ hh => hh, λ _ _ _ hh => hh, ⟨_, _, rfl, cr, _, _, rfl, cr, _, _, rfl, cr, _, _, rfl, cr, rfl⟩, trivial⟩) ?_)
   refine ⟨rfl, ⟨λ Y => zo _, λ Y => zo _, λ Y => zo _, trivial⟩, (24, .own 0) :: [(1, .own 0), (2, .r (I (nd 0 k))), (3, .own 3), (1000000, .nm 0 v), (1000001, .nm 1 m1), (1000002, .nm 2 m2)], [(0, some (rdO (bs s) 0)), (1, some (.gen (mapO (zay A)))), (2, some (.gen (mapO (za0 B)))), (3, some (.box [.r (I leaves), .r (I own), .r (.x m1), .r (.x m2)]))], 4, λ Y => zo _, ?_⟩
   by_cases h32 : s.length < 32
   ·rw [if_pos h32] at hq
    obtain ⟨rfl, rfl⟩ := hq
    refine ⟨rfl, ⟨λ Y => zo _, λ Y => zo _, λ Y => zo _, trivial⟩, (25, .r (bs [])) :: (24, .own 0) :: [(1, .own 0), (2, .r (I (nd 0 k))), (3, .own 3), (1000000, .nm 0 v), (1000001, .nm 1 m1), (1000002, .nm 2 m2)], (0, some (rdO .any 4)) :: (0, none) :: [(0, some (rdO (bs s) 0)), (1, some (.gen (mapO (zay A)))), (2, some (.gen (mapO (za0 B)))), (3, some (.box [.r (I leaves), .r (I own), .r (.x m1), .r (.x m2)]))], 5, λ Y => ?_, ?_⟩
    ·exact zj [(0, 0)] [0] (λ vs _ => zjk (vs 0) s 32 h32) (zi rfl ⟨_, _, rfl, rfl, _, _, rfl, cr, rfl⟩) rfl ⟨⟨_, _, rfl, cr, _, _, rfl, cr, rfl⟩, trivial⟩ ⟨zaa, trivial⟩ (zo _)
    refine ⟨rfl, ⟨λ Y => zo _, λ Y => zo _, λ Y => zo _, trivial⟩, ?_⟩
    refine Vstep.mapPut 2 1000002 rfl rfl rfl rfl rfl rfl rfl zfx zgd hnB ?_
    refine zj [(0, 0)] [0] (λ vs _ => zck (vs 0) 4) (zi rfl ⟨_, _, rfl, rfl, rfl⟩) rfl ⟨⟨_, _, rfl, trivial, _, _, rfl, cr, rfl⟩, trivial⟩ ⟨zaa, trivial⟩ ?_
    exact zai (.inl rfl) [(0, 0), (1, 1), (2, 2)] [(6, .r (Er 4))] [] rfl ⟨cr, ⟨rfl, rfl⟩, ⟨rfl, rfl⟩, ⟨rfl, rfl⟩, trivial⟩ ⟨⟨_, _, rfl, trivial, _, _, rfl, trivial, rfl⟩, λ _ _ _ hh => ⟨_, hh⟩, λ _ _ _ hh => ⟨_, hh⟩, trivial⟩ ⟨⟨1000000, rfl⟩, ⟨1000001, rfl⟩, ⟨1000002, rfl⟩, trivial⟩ (cr)
   ·rw [if_neg h32] at hq
    obtain ⟨rfl, rfl⟩ := hq
    refine ⟨rfl, ⟨λ Y => zo _, λ Y => zo _, λ Y => zo _, trivial⟩, (25, .r (bs (s.take 32))) :: (24, .own 0) :: [(1, .own 0), (2, .r (I (nd 0 k))), (3, .own 3), (1000000, .nm 0 v), (1000001, .nm 1 m1), (1000002, .nm 2 m2)], (0, some (rdO (bs (s.drop 32)) 0)) :: (0, none) :: [(0, some (rdO (bs s) 0)), (1, some (.gen (mapO (zay A)))), (2, some (.gen (mapO (za0 B)))), (3, some (.box [.r (I leaves), .r (I own), .r (.x m1), .r (.x m2)]))], 5, λ Y => ?_, ?_⟩
    ·exact zj [(0, 0)] [0] (λ vs _ => zqh (vs 0) s 32 (by omega) (by omega)) (zi rfl ⟨_, _, rfl, rfl, _, _, rfl, cr, rfl⟩) rfl ⟨⟨_, _, rfl, cr, _, _, rfl, cr, rfl⟩, trivial⟩ ⟨zaa, trivial⟩ (zo _)
    refine ⟨rfl, ⟨λ Y => zo _, λ Y => zo _, λ Y => zo _, trivial⟩, ?_⟩
    refine Vstep.mapPut 2 1000002 rfl rfl rfl rfl rfl rfl rfl zfx zgd hnB ?_
    refine zj [(0, 0)] [0] (λ vs _ => ze3 (vs 0) (s.drop 32)) (zi rfl ⟨_, _, rfl, rfl, rfl⟩) rfl ⟨⟨_, _, rfl, cr, _, _, rfl, cr, rfl⟩, trivial⟩ ⟨zaa, trivial⟩ ?_
    have eA : zay (A ++ []) = zay A := by rw [List.append_nil]
    have eB : za0 (B ++ [⟨(nd 0 k : Int), s.take 32⟩]) = za0 B ++ [((nd 0 k : Int), bs (s.take 32))] := by simp [za0]
    exact zai (.inl rfl) [(0, 0), (1, 1), (2, 2)] [(6, .r (Er 0))] [] rfl ⟨cr, ⟨rfl, rfl⟩, ⟨rfl, rfl⟩, ⟨rfl, rfl⟩, trivial⟩ ⟨⟨_, _, rfl, cr, _, _, rfl, cr, rfl⟩, λ _ _ _ hh => by rw [eA]; exact hh, λ _ _ _ hh => by rw [eB]; exact hh, trivial⟩ ⟨⟨1000000, rfl⟩, ⟨1000001, rfl⟩, ⟨1000002, rfl⟩, trivial⟩ (cr)
  rw [if_neg h0] at hq
  rw [show decide (c.toNat = 1) = true by simp; omega]
  refine zw rfl (zt ?_)
  cases hn : za4 s with
  | err e' =>
   rw [hn] at hq
   obtain ⟨rfl, rfl⟩ := hq
   have he := zhc hn
   refine zj [(0, 0)] [0] (λ vs _ => zpe (vs 0) s _ (by omega) hn) (zi rfl ⟨_, _, rfl, rfl, rfl⟩) rfl ⟨⟨_, _, rfl, cr, _, _, rfl, cr, rfl⟩, trivial⟩ ⟨zaa, trivial⟩ ?_
   refine zu (by simp only [zb]; omega) (zq ?_)
   exact zai (.inl rfl) [(0, 0), (1, 1), (2, 2)] [(6, .r (Er _))] [] rfl ⟨cr, ⟨rfl, rfl⟩, ⟨rfl, rfl⟩, ⟨rfl, rfl⟩, trivial⟩ ⟨⟨_, _, rfl, trivial, _, _, rfl, trivial, rfl⟩, λ _ _ _ hh => ⟨_, hh⟩, λ _ _ _ hh => ⟨_, hh⟩, trivial⟩ ⟨⟨1000000, rfl⟩, ⟨1000001, rfl⟩, ⟨1000002, rfl⟩, trivial⟩ (cr)
  | ok n r =>
   rw [hn] at hq
   simp only at hq
   obtain ⟨jn, hr, hjn⟩ := zdz hn
   have hlr : r.length <= 100000000 := by rw [hr, List.length_drop]; omega
   refine zj [(0, 0)] [0] (λ vs _ => zzi (vs 0) s r n (by omega) hn) (zi rfl ⟨_, _, rfl, rfl, rfl⟩) rfl ⟨⟨_, _, rfl, cr, _, _, rfl, cr, rfl⟩, trivial⟩ ⟨zaa, trivial⟩ ?_
   refine zw rfl (zt ?_)
   refine ⟨by decide, _, rfl, ?_⟩
   refine zu (by rw [zb4]; rfl) ?_
   by_cases h2 : n.kind.toNat = 2
   ·rw [if_pos h2] at hq
    obtain ⟨rfl, rfl⟩ := hq
    refine zu (by simp only [zb]; omega) (zq ?_)
    exact zai (.inl rfl) [(0, 0), (1, 1), (2, 2)] [(6, .r (Er 3))] [] rfl ⟨cr, ⟨rfl, rfl⟩, ⟨rfl, rfl⟩, ⟨rfl, rfl⟩, trivial⟩ ⟨⟨_, _, rfl, trivial, _, _, rfl, trivial, rfl⟩, λ _ _ _ hh => ⟨_, hh⟩, λ _ _ _ hh => ⟨_, hh⟩, trivial⟩ ⟨⟨1000000, rfl⟩, ⟨1000001, rfl⟩, ⟨1000002, rfl⟩, trivial⟩ (cr)
   rw [if_neg h2] at hq
   obtain ⟨rfl, rfl⟩ := hq
   refine zw (by simp only [zb]; omega) ?_
   refine ⟨by decide, _, rfl, ?_⟩
   refine zw (by rw [zb4]; rfl) (zt ?_)
   refine za rfl rfl ?_
   refine Vstep.mapPut 1 1000001 rfl rfl rfl rfl rfl rfl rfl zjc zgd hnA ?_
   refine ⟨by decide, _, rfl, ?_⟩
   refine zu (by rw [zb4]; rfl) (zq ?_)
   have eA : zay (A ++ [⟨(nd 0 k : Int), n⟩]) = zay A ++ [((nd 0 k : Int), .ag n.c)] := by simp [zay]
   have eB : za0 (B ++ []) = za0 B := by rw [List.append_nil]
   exact zai (.inl rfl) [(0, 0), (1, 1), (2, 2)] [(6, .r (Er 0))] [] rfl ⟨cr, ⟨rfl, rfl⟩, ⟨rfl, rfl⟩, ⟨rfl, rfl⟩, trivial⟩ ⟨⟨_, _, rfl, cr, _, _, rfl, cr, rfl⟩, λ _ _ _ hh => by rw [eA]; exact hh, λ _ _ _ hh => by rw [eB]; exact hh, trivial⟩ ⟨⟨1000000, rfl⟩, ⟨1000001, rfl⟩, ⟨1000002, rfl⟩, trivial⟩ (cr)
set_option maxHeartbeats 4000000 in
theorem z04 (v m1 m2 : Value) (leaves own : Int) (h : Nat) (hh : h + 1 <= 16) (k : Nat) (hk : k < 2 ^ (16 - (h + 1))) (l : List UInt8) (hl : l.length <= 100000000) (A : List Spot) (B : List Stub) (hA : ∀ s ∈ A, ¬ inR (h + 1) k s.at_) (hB : ∀ s ∈ B, ¬ inR (h + 1) k s.at_) (O1 : List (Nat × Ow)) (e : Nat)
  (hq : zni (zbt (h + 1) k l) A B O1 e)
  (ih : ∀ (k : Nat) (l : List UInt8) (A : List Spot) (B : List Stub) (O1 : List (Nat × Ow)) (e : Nat), k < 2 ^ (16 - h) -> l.length <= 100000000 -> (∀ s ∈ A, ¬ inR h k s.at_) -> (∀ s ∈ B, ¬ inR h k s.at_) -> ∀ v, zni (zbt h k l) A B O1 e ->
   Acts Tryz.prog 182 3 (tkO l A B) [.r (pcR leaves own m1 m2), .own 0, .r (I (nd h k))] (tkN v m1 m2) 3 O1 (.r (Er e))) : Acts Tryz.prog 182 3 (tkO l A B) [.r (pcR leaves own m1 m2), .own 0, .r (I (nd (h + 1) k))] (tkN v m1 m2) 3 O1 (.r (Er e)) := by
 refine zak (T := Tab) zaf Tab_ok Tryz.func182 rfl (by kernel_rfl) rfl (z3p v m1 m2 hq) ?_
 have hnA : zch (zay A) (nd (h + 1) k : Int) = none := zj5 λ s hs e => hA s hs (by rw [e]; exact zd6 _ _)
 have hnB : zch (za0 B) (nd (h + 1) k : Int) = none := zj9 λ s hs e => hB s hs (by rw [e]; exact zd6 _ _)
 cases l with
 | nil =>
  obtain ⟨rfl, rfl⟩ := hq
  refine zj [(0, 0)] [0] (λ vs _ => zpc (vs 0)) (zi rfl ⟨_, _, rfl, rfl, rfl⟩) rfl ⟨⟨_, _, rfl, cr, _, _, rfl, cr, rfl⟩, trivial⟩ ⟨zaa, trivial⟩ ?_
  refine zj [(0, 0)] [0] (λ vs _ => zck (vs 0) 4) (zi rfl ⟨_, _, rfl, rfl, rfl⟩) rfl ⟨⟨_, _, rfl, trivial, _, _, rfl, cr, rfl⟩, trivial⟩ ⟨zaa, trivial⟩ ?_
  refine zu rfl (zq ?_)
  exact zai (.inl rfl) [(0, 0), (1, 1), (2, 2)] [(6, .r (Er 4))] [] rfl ⟨cr, ⟨rfl, rfl⟩, ⟨rfl, rfl⟩, ⟨rfl, rfl⟩, trivial⟩ ⟨⟨_, _, rfl, trivial, _, _, rfl, trivial, rfl⟩, λ _ _ _ hh => ⟨_, hh⟩, λ _ _ _ hh => ⟨_, hh⟩, trivial⟩ ⟨⟨1000000, rfl⟩, ⟨1000001, rfl⟩, ⟨1000002, rfl⟩, trivial⟩ (cr)
 | cons c s =>
  have hcl := c.toNat_lt
  have hls : s.length <= 100000000 := by simp only [List.length_cons] at hl; omega
  simp only [zbt] at hq
  by_cases h1 : 1 < c.toNat
  ·rw [if_pos h1] at hq
   obtain ⟨rfl, rfl⟩ := hq
   refine zj [(0, 0)] [0] (λ vs _ => zpj (vs 0) c s h1) (zi rfl ⟨_, _, rfl, rfl, rfl⟩) rfl ⟨⟨_, _, rfl, cr, _, _, rfl, cr, rfl⟩, trivial⟩ ⟨zaa, trivial⟩ ?_
   refine zj [(0, 0)] [0] (λ vs _ => zck (vs 0) 3) (zi rfl ⟨_, _, rfl, rfl, rfl⟩) rfl ⟨⟨_, _, rfl, trivial, _, _, rfl, cr, rfl⟩, trivial⟩ ⟨zaa, trivial⟩ ?_
   refine zu rfl (zq ?_)
   exact zai (.inl rfl) [(0, 0), (1, 1), (2, 2)] [(6, .r (Er 3))] [] rfl ⟨cr, ⟨rfl, rfl⟩, ⟨rfl, rfl⟩, ⟨rfl, rfl⟩, trivial⟩ ⟨⟨_, _, rfl, trivial, _, _, rfl, trivial, rfl⟩, λ _ _ _ hh => ⟨_, hh⟩, λ _ _ _ hh => ⟨_, hh⟩, trivial⟩ ⟨⟨1000000, rfl⟩, ⟨1000001, rfl⟩, ⟨1000002, rfl⟩, trivial⟩ (cr)
  rw [if_neg h1] at hq
  refine zj [(0, 0)] [0] (λ vs _ => zzo (vs 0) c s (by omega)) (zi rfl ⟨_, _, rfl, rfl, rfl⟩) rfl ⟨⟨_, _, rfl, cr, _, _, rfl, cr, rfl⟩, trivial⟩ ⟨zaa, trivial⟩ ?_
  refine zj [(0, 0)] [0] (λ vs _ => ze3 (vs 0) s) (zi rfl ⟨_, _, rfl, rfl, rfl⟩) rfl ⟨⟨_, _, rfl, cr, _, _, rfl, cr, rfl⟩, trivial⟩ ⟨zaa, trivial⟩ ?_
  refine zw rfl (zt ?_)
  by_cases h0 : c.toNat = 0
  ·rw [if_pos h0] at hq
   rw [show decide (c.toNat = 1) = false by simp; omega]
   refine zu rfl (zq ?_)
   refine Vdraw.code (Vcode.float zaf Tab_ok 5 [⟨0, 21, .adr 3 3, []⟩, ⟨1, 22, .r (.x m2), [0]⟩, ⟨2, 23, .r (I (nd (h + 1) k)), []⟩] [(3, []), (4, [])] (by kernel_rfl) (F := [(1, .own 0), (2, .r (I (nd (h + 1) k))), (3, .own 3), (1000000, .nm 0 v), (1000001, .nm 1 m1), (1000002, .nm 2 m2)]) (O := [(0, some (rdO (bs s) 0)), (1, some (.gen (mapO (zay A)))), (2, some (.gen (mapO (za0 B)))), (3, some (.box [.r (I leaves), .r (I own), .r (.x m1), .r (.x m2)]))]) (nx := 4) (zac [(0, 0), (1, 1), (2, 2), (3, 3)] rfl ⟨rfl, cr, rfl, ⟨rfl, rfl⟩, ⟨rfl, rfl⟩, ⟨rfl, rfl⟩, trivial⟩ ⟨⟨_, _, rfl, cr, _, _, rfl, cr, rfl⟩, λ _ _ _ hh => hh, λ _ _ _ hh => hh, ⟨_, _, rfl, cr, _, _, rfl, cr, _, _, rfl, cr, _, _, rfl, cr, rfl⟩, trivial⟩) ?_)
   refine ⟨rfl, ⟨λ Y => zo _, λ Y => zo _, λ Y => zo _, trivial⟩, (24, .own 0) :: [(1, .own 0), (2, .r (I (nd (h + 1) k))), (3, .own 3), (1000000, .nm 0 v), (1000001, .nm 1 m1), (1000002, .nm 2 m2)], [(0, some (rdO (bs s) 0)), (1, some (.gen (mapO (zay A)))), (2, some (.gen (mapO (za0 B)))), (3, some (.box [.r (I leaves), .r (I own), .r (.x m1), .r (.x m2)]))], 4, λ Y => zo _, ?_⟩
   by_cases h32 : s.length < 32
   ·rw [if_pos h32] at hq
    obtain ⟨rfl, rfl⟩ := hq
    refine ⟨rfl, ⟨λ Y => zo _, λ Y => zo _, λ Y => zo _, trivial⟩, (25, .r (bs [])) :: (24, .own 0) :: [(1, .own 0), (2, .r (I (nd (h + 1) k))), (3, .own 3), (1000000, .nm 0 v), (1000001, .nm 1 m1), (1000002, .nm 2 m2)], (0, some (rdO .any 4)) :: (0, none) :: [(0, some (rdO (bs s) 0)), (1, some (.gen (mapO (zay A)))), (2, some (.gen (mapO (za0 B)))), (3, some (.box [.r (I leaves), .r (I own), .r (.x m1), .r (.x m2)]))], 5, λ Y => ?_, ?_⟩
    ·exact zj [(0, 0)] [0] (λ vs _ => zjk (vs 0) s 32 h32) (zi rfl ⟨_, _, rfl, rfl, _, _, rfl, cr, rfl⟩) rfl ⟨⟨_, _, rfl, cr, _, _, rfl, cr, rfl⟩, trivial⟩ ⟨zaa, trivial⟩ (zo _)
    refine ⟨rfl, ⟨λ Y => zo _, λ Y => zo _, λ Y => zo _, trivial⟩, ?_⟩
    refine Vstep.mapPut 2 1000002 rfl rfl rfl rfl rfl rfl rfl zfx zgd hnB ?_
    refine zj [(0, 0)] [0] (λ vs _ => zck (vs 0) 4) (zi rfl ⟨_, _, rfl, rfl, rfl⟩) rfl ⟨⟨_, _, rfl, trivial, _, _, rfl, cr, rfl⟩, trivial⟩ ⟨zaa, trivial⟩ ?_
    exact zai (.inl rfl) [(0, 0), (1, 1), (2, 2)] [(6, .r (Er 4))] [] rfl ⟨cr, ⟨rfl, rfl⟩, ⟨rfl, rfl⟩, ⟨rfl, rfl⟩, trivial⟩ ⟨⟨_, _, rfl, trivial, _, _, rfl, trivial, rfl⟩, λ _ _ _ hh => ⟨_, hh⟩, λ _ _ _ hh => ⟨_, hh⟩, trivial⟩ ⟨⟨1000000, rfl⟩, ⟨1000001, rfl⟩, ⟨1000002, rfl⟩, trivial⟩ (cr)
   ·rw [if_neg h32] at hq
    obtain ⟨rfl, rfl⟩ := hq
    refine ⟨rfl, ⟨λ Y => zo _, λ Y => zo _, λ Y => zo _, trivial⟩, (25, .r (bs (s.take 32))) :: (24, .own 0) :: [(1, .own 0), (2, .r (I (nd (h + 1) k))), (3, .own 3), (1000000, .nm 0 v), (1000001, .nm 1 m1), (1000002, .nm 2 m2)], (0, some (rdO (bs (s.drop 32)) 0)) :: (0, none) :: [(0, some (rdO (bs s) 0)), (1, some (.gen (mapO (zay A)))), (2, some (.gen (mapO (za0 B)))), (3, some (.box [.r (I leaves), .r (I own), .r (.x m1), .r (.x m2)]))], 5, λ Y => ?_, ?_⟩
    ·exact zj [(0, 0)] [0] (λ vs _ => zqh (vs 0) s 32 (by omega) (by omega)) (zi rfl ⟨_, _, rfl, rfl, _, _, rfl, cr, rfl⟩) rfl ⟨⟨_, _, rfl, cr, _, _, rfl, cr, rfl⟩, trivial⟩ ⟨zaa, trivial⟩ (zo _)
    refine ⟨rfl, ⟨λ Y => zo _, λ Y => zo _, λ Y => zo _, trivial⟩, ?_⟩
    refine Vstep.mapPut 2 1000002 rfl rfl rfl rfl rfl rfl rfl zfx zgd hnB ?_
    refine zj [(0, 0)] [0] (λ vs _ => ze3 (vs 0) (s.drop 32)) (zi rfl ⟨_, _, rfl, rfl, rfl⟩) rfl ⟨⟨_, _, rfl, cr, _, _, rfl, cr, rfl⟩, trivial⟩ ⟨zaa, trivial⟩ ?_
    have eA : zay (A ++ []) = zay A := by rw [List.append_nil]
    have eB : za0 (B ++ [⟨(nd (h + 1) k : Int), s.take 32⟩]) = za0 B ++ [((nd (h + 1) k : Int), bs (s.take 32))] := by simp [za0]
    exact zai (.inl rfl) [(0, 0), (1, 1), (2, 2)] [(6, .r (Er 0))] [] rfl ⟨cr, ⟨rfl, rfl⟩, ⟨rfl, rfl⟩, ⟨rfl, rfl⟩, trivial⟩ ⟨⟨_, _, rfl, cr, _, _, rfl, cr, rfl⟩, λ _ _ _ hh => by rw [eA]; exact hh, λ _ _ _ hh => by rw [eB]; exact hh, trivial⟩ ⟨⟨1000000, rfl⟩, ⟨1000001, rfl⟩, ⟨1000002, rfl⟩, trivial⟩ (cr)
  rw [if_neg h0] at hq
  rw [show decide (c.toNat = 1) = true by simp; omega]
  refine zw rfl (zt ?_)
  cases hn : za4 s with
  | err e' =>
   rw [hn] at hq
   obtain ⟨rfl, rfl⟩ := hq
   have he := zhc hn
   refine zj [(0, 0)] [0] (λ vs _ => zpe (vs 0) s _ (by omega) hn) (zi rfl ⟨_, _, rfl, rfl, rfl⟩) rfl ⟨⟨_, _, rfl, cr, _, _, rfl, cr, rfl⟩, trivial⟩ ⟨zaa, trivial⟩ ?_
   refine zu (by simp only [zb]; omega) (zq ?_)
   exact zai (.inl rfl) [(0, 0), (1, 1), (2, 2)] [(6, .r (Er _))] [] rfl ⟨cr, ⟨rfl, rfl⟩, ⟨rfl, rfl⟩, ⟨rfl, rfl⟩, trivial⟩ ⟨⟨_, _, rfl, trivial, _, _, rfl, trivial, rfl⟩, λ _ _ _ hh => ⟨_, hh⟩, λ _ _ _ hh => ⟨_, hh⟩, trivial⟩ ⟨⟨1000000, rfl⟩, ⟨1000001, rfl⟩, ⟨1000002, rfl⟩, trivial⟩ (cr)
  | ok n r =>
   rw [hn] at hq
   simp only at hq
   obtain ⟨jn, hr, hjn⟩ := zdz hn
   have hlr : r.length <= 100000000 := by rw [hr, List.length_drop]; omega
   refine zj [(0, 0)] [0] (λ vs _ => zzi (vs 0) s r n (by omega) hn) (zi rfl ⟨_, _, rfl, rfl, rfl⟩) rfl ⟨⟨_, _, rfl, cr, _, _, rfl, cr, rfl⟩, trivial⟩ ⟨zaa, trivial⟩ ?_
   refine zw rfl (zt ?_)
   refine ⟨by decide, _, rfl, ?_⟩
   refine zw (by rw [zcr]; rfl) ?_
   refine ⟨by decide, _, rfl, ?_⟩
   refine zu (by rw [zcr]; rfl) ?_
   by_cases h2 : n.kind.toNat = 1
   ·rw [if_pos h2] at hq
    obtain ⟨rfl, rfl⟩ := hq
    refine zu (by simp only [zb]; omega) (zq ?_)
    exact zai (.inl rfl) [(0, 0), (1, 1), (2, 2)] [(6, .r (Er 3))] [] rfl ⟨cr, ⟨rfl, rfl⟩, ⟨rfl, rfl⟩, ⟨rfl, rfl⟩, trivial⟩ ⟨⟨_, _, rfl, trivial, _, _, rfl, trivial, rfl⟩, λ _ _ _ hh => ⟨_, hh⟩, λ _ _ _ hh => ⟨_, hh⟩, trivial⟩ ⟨⟨1000000, rfl⟩, ⟨1000001, rfl⟩, ⟨1000002, rfl⟩, trivial⟩ (cr)
   rw [if_neg h2] at hq
   refine zw (by simp only [zb]; omega) (zt ?_)
   refine za rfl rfl ?_
   refine Vstep.mapPut 1 1000001 rfl rfl rfl rfl rfl rfl rfl zjc zgd hnA ?_
   refine ⟨by decide, _, rfl, ?_⟩
   refine zw (by rw [zcr]; rfl) (zt ?_)
   have hleft := zdr (d := 16) (by omega) (show h + 1 <= 16 by omega) hk
   have hright := zda (d := 16) (by omega) (show h + 1 <= 16 by omega) hk
   have hk2 : 2 ^ (16 - h) = 2 * 2 ^ (16 - (h + 1)) := by rw [show 16 - h = (16 - (h + 1)) + 1 by omega, Nat.pow_succ]; omega
   obtain ⟨sp, hsp⟩ : ∃ sp : Spot, sp = ⟨(nd (h + 1) k : Int), n⟩ := ⟨_, rfl⟩
   rw [<- hsp] at hq
   have eA : zay (A ++ [sp]) = zay A ++ [((nd (h + 1) k : Int), .ag n.c)] := by simp [zay, hsp]
   have hleftA : ∀ s ∈ A ++ [sp], ¬ inR h (2 * k) s.at_ := λ s hs hi => by
    rcases List.mem_append.1 hs with hs | hs
    ·exact hA s hs (zbu hi).1
    ·rw [List.mem_singleton.1 hs, hsp] at hi; have h3 := (zbu hi).2; dsimp only at h3; omega
   have hleftB : ∀ s ∈ B, ¬ inR h (2 * k) s.at_ := λ s hs hi => hB s hs (zbu hi).1
   cases hQ : zbt h (2 * k) r with
   | err e' =>
    rw [hQ] at hq
    obtain ⟨rfl, rfl⟩ := hq
    have he := zof _ _ hQ
    refine Vdraw.cut 4 (by kernel_rfl) ?_
    refine za rfl rfl ?_
    refine ze (zhm _) ?_
    rw [hleft]
    refine zj [(0, 0), (1, 1), (2, 2)] [0, 1, 2] (λ vs hv => zbl (by simp only [List.map]; rw [hv 1 1 1000001 _ rfl rfl, hv 2 2 1000002 _ rfl rfl]) (ih (2 * k) r (A ++ [sp]) B _ _ (by omega) (by omega) hleftA hleftB (vs 0) (by rw [hQ]; exact ⟨rfl, rfl⟩))) (zi rfl ⟨_, _, rfl, cr, _, _, rfl, rfl, _, _, rfl, cr, rfl⟩) rfl ⟨⟨_, _, rfl, cr, _, _, rfl, cr, rfl⟩, λ _ _ _ hh => by rw [eA]; exact hh, λ _ _ _ hh => hh, trivial⟩ ⟨zaa, zea, zea, trivial⟩ ?_
    refine zu (by simp only [zb]; omega) (zq ?_)
    exact zai (.inl rfl) [(0, 0), (1, 1), (2, 2)] [(6, .r (Er _))] [] rfl ⟨cr, ⟨rfl, rfl⟩, ⟨rfl, rfl⟩, ⟨rfl, rfl⟩, trivial⟩ ⟨⟨_, _, rfl, trivial, _, _, rfl, trivial, rfl⟩, λ _ _ _ hh => hh, λ _ _ _ hh => hh, trivial⟩ ⟨⟨1000000, rfl⟩, ⟨1000001, rfl⟩, ⟨1000002, rfl⟩, trivial⟩ (cr)
   | ok y1 r1 =>
    rw [hQ] at hq
    simp only at hq
    obtain ⟨i1, i2, i3⟩ := zhz _ _ hQ
    refine Vdraw.cut 4 (by kernel_rfl) ?_
    refine za rfl rfl ?_
    refine ze (zhm _) ?_
    rw [hleft]
    refine zj [(0, 0), (1, 1), (2, 2)] [0, 1, 2] (λ vs hv => zbl (by simp only [List.map]; rw [hv 1 1 1000001 _ rfl rfl, hv 2 2 1000002 _ rfl rfl]) (ih (2 * k) r (A ++ [sp]) B _ 0 (by omega) (by omega) hleftA hleftB (vs 0) (by rw [hQ]; exact ⟨rfl, rfl⟩))) (zi rfl ⟨_, _, rfl, cr, _, _, rfl, rfl, _, _, rfl, cr, rfl⟩) rfl ⟨⟨_, _, rfl, cr, _, _, rfl, cr, rfl⟩, λ _ _ _ hh => by rw [eA]; exact hh, λ _ _ _ hh => hh, trivial⟩ ⟨zaa, zea, zea, trivial⟩ ?_
    refine zw rfl (zt ?_)
    have hrightA : ∀ s ∈ A ++ [sp] ++ y1.1, ¬ inR h (2 * k + 1) s.at_ := λ s hs hi => by
     rcases List.mem_append.1 hs with hs | hs
     ·rcases List.mem_append.1 hs with hs | hs
      ·exact hA s hs (zbx hi).1
      ·rw [List.mem_singleton.1 hs, hsp] at hi; have h3 := (zbx hi).2; dsimp only at h3; omega
     ·have a1 := (zbu (i1 s hs)).2; have a2 := (zbx hi).2; omega
    have hrightB : ∀ s ∈ B ++ y1.2, ¬ inR h (2 * k + 1) s.at_ := λ s hs hi => by
     rcases List.mem_append.1 hs with hs | hs
     ·exact hB s hs (zbx hi).1
     ·have a1 := (zbu (i2 s hs)).2; have a2 := (zbx hi).2; omega
    cases hQ2 : zbt h (2 * k + 1) r1 with
    | err e' =>
     rw [hQ2] at hq
     obtain ⟨rfl, rfl⟩ := hq
     refine Vdraw.cut 4 (by kernel_rfl) ?_
     refine za rfl rfl ?_
     refine ze (zf7 _) ?_
     rw [hright]
     refine zj [(0, 0), (1, 1), (2, 2)] [0, 1, 2] (λ vs hv => zbl (by simp only [List.map]; rw [hv 1 1 1000001 _ rfl rfl, hv 2 2 1000002 _ rfl rfl]) (ih (2 * k + 1) r1 (A ++ [sp] ++ y1.1) (B ++ y1.2) _ _ (by omega) (by omega) hrightA hrightB (vs 0) (by rw [hQ2]; exact ⟨rfl, rfl⟩))) (zi rfl ⟨_, _, rfl, cr, _, _, rfl, rfl, _, _, rfl, cr, rfl⟩) rfl ⟨⟨_, _, rfl, cr, _, _, rfl, cr, rfl⟩, λ _ _ _ hh => hh, λ _ _ _ hh => hh, trivial⟩ ⟨zaa, zea, zea, trivial⟩ ?_
     exact zai (.inl rfl) [(0, 0), (1, 1), (2, 2)] [(6, .r (Er _))] [] rfl ⟨cr, ⟨rfl, rfl⟩, ⟨rfl, rfl⟩, ⟨rfl, rfl⟩, trivial⟩ ⟨⟨_, _, rfl, trivial, _, _, rfl, trivial, rfl⟩, λ _ _ _ hh => hh, λ _ _ _ hh => hh, trivial⟩ ⟨⟨1000000, rfl⟩, ⟨1000001, rfl⟩, ⟨1000002, rfl⟩, trivial⟩ (cr)
    | ok y2 r2 =>
     rw [hQ2] at hq
     obtain ⟨rfl, rfl⟩ := hq
     refine Vdraw.cut 4 (by kernel_rfl) ?_
     refine za rfl rfl ?_
     refine ze (zf7 _) ?_
     rw [hright]
     refine zj [(0, 0), (1, 1), (2, 2)] [0, 1, 2] (λ vs hv => zbl (by simp only [List.map]; rw [hv 1 1 1000001 _ rfl rfl, hv 2 2 1000002 _ rfl rfl]) (ih (2 * k + 1) r1 (A ++ [sp] ++ y1.1) (B ++ y1.2) _ 0 (by omega) (by omega) hrightA hrightB (vs 0) (by rw [hQ2]; exact ⟨rfl, rfl⟩))) (zi rfl ⟨_, _, rfl, cr, _, _, rfl, rfl, _, _, rfl, cr, rfl⟩) rfl ⟨⟨_, _, rfl, cr, _, _, rfl, cr, rfl⟩, λ _ _ _ hh => hh, λ _ _ _ hh => hh, trivial⟩ ⟨zaa, zea, zea, trivial⟩ ?_
     have fA : zay (A ++ ([sp] ++ y1.1 ++ y2.1)) = zay (A ++ [sp] ++ y1.1 ++ y2.1) := by simp only [List.append_assoc]
     have fB : za0 (B ++ (y1.2 ++ y2.2)) = za0 (B ++ y1.2 ++ y2.2) := by simp only [List.append_assoc]
     exact zai (.inl rfl) [(0, 0), (1, 1), (2, 2)] [(6, .r (Er 0))] [] rfl ⟨cr, ⟨rfl, rfl⟩, ⟨rfl, rfl⟩, ⟨rfl, rfl⟩, trivial⟩ ⟨⟨_, _, rfl, cr, _, _, rfl, cr, rfl⟩, λ _ _ _ hh => by rw [fA]; exact hh, λ _ _ _ hh => by rw [fB]; exact hh, trivial⟩ ⟨⟨1000000, rfl⟩, ⟨1000001, rfl⟩, ⟨1000002, rfl⟩, trivial⟩ (cr)
theorem zs4 (m1 m2 : Value) (leaves own : Int) : ∀ (h k : Nat) (l : List UInt8) (A : List Spot) (B : List Stub) (O1 : List (Nat × Ow)) (e : Nat), h <= 16 -> k < 2 ^ (16 - h) -> l.length <= 100000000 -> (∀ s ∈ A, ¬ inR h k s.at_) -> (∀ s ∈ B, ¬ inR h k s.at_) -> ∀ v, zni (zbt h k l) A B O1 e ->
   Acts Tryz.prog 182 3 (tkO l A B) [.r (pcR leaves own m1 m2), .own 0, .r (I (nd h k))] (tkN v m1 m2) 3 O1 (.r (Er e))
 | 0, k, l, A, B, O1, e, _, hk, hl, hA, hB, v, hq => zvy v m1 m2 leaves own k hk l hl A B hA hB O1 e hq
 | h + 1, k, l, A, B, O1, e, hh, hk, hl, hA, hB, v, hq => z04 v m1 m2 leaves own h hh k hk l hl A B hA hB O1 e hq λ k l A B O1 e hk hl hA hB v hq => zs4 m1 m2 leaves own h k l A B O1 e (by omega) hk hl hA hB v hq
end
end Go.Proofs.YtpdllgbfemnemaaGreat.Sx
