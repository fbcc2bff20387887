import Derived.Test.YtpdllgbfemnemaaGreatZRb
namespace Go.Proofs.YtpdllgbfemnemaaGreat.Sx
open Go.RowKit
set_option linter.unusedVariables false
section
theorem z5c {l : List UInt8} {e : Nat} (h : lenP l = .err e) : e = 3 \/ e = 4 := by
 cases l with
 | nil => simp only [lenP, PR.err.injEq] at h; omega
 | cons c s =>
  simp only [lenP] at h
  split at h
  ·injection h with h; omega
  ·split at h
   ·injection h with h; omega
   ·split at h
    ·injection h with h; omega
    ·cases h
theorem zfd {l : List UInt8} {e : Nat} (h : vecP l = .err e) : e = 3 \/ e = 4 := by
 unfold vecP at h
 cases hq : lenP l with
 | err e' => rw [hq] at h; injection h with h; subst h; exact z5c hq
 | ok m s =>
  rw [hq] at h
  simp only at h
  split at h
  ·injection h with h; omega
  ·cases h
theorem ze6 : ∀ (n : Nat) {l : List UInt8} {e : Nat}, zbe n l = .err e -> e = 3 \/ e = 4
 | 0, l, e, h => by cases h
 | n + 1, l, e, h => by
  simp only [zbe] at h
  cases hv : vecP l with
  | err e' => rw [hv] at h; injection h with h; subst h; exact zfd hv
  | ok v r =>
   rw [hv] at h
   simp only at h
   cases hw : zbe n r with
   | err e' => rw [hw] at h; injection h with h; subst h; exact ze6 n hw
   | ok vs s => rw [hw] at h; cases h
theorem z7g (l : List UInt8) : zbe 1 l = match vecP l with | .err e => .err e | .ok v r => .ok [v] r := by
 simp only [zbe]
 cases vecP l <;> rfl
def zes (vs : List (List UInt8)) (c : UInt8) (par sig : List UInt8) : Leaf := ⟨vs.getD 0 [], vs.getD 1 [], vs.getD 2 [], c, par, sig⟩
def zdi (c : UInt8) (r : List UInt8) : PR (List UInt8) := if c.toNat = 3 then vecP r else .ok [] r
def zft (vs : List (List UInt8)) (c : UInt8) (par r : List UInt8) : PR Leaf := match vecP r with
 | .err e => .err e
 | .ok sig r => if (zes vs c par sig).right = true then .ok (zes vs c par sig) r else .err 3
def zfs (vs : List (List UInt8)) : List UInt8 -> PR Leaf
 | [] => .err 4
 | c :: r => if c.toNat = 0 \/ 3 < c.toNat then .err 3 else match zdi c r with
  | .err e => .err e
  | .ok par r => zft vs c par r
def zcv (l : List UInt8) : PR Leaf := match zbe 3 l with
 | .err e => .err e
 | .ok vs r => zfs vs r
def zl4 (b : List UInt8) (at_ : Nat) : List RV := match zcv (b.drop at_) with
 | .err e => [.ag zl.c, .any, I e]
 | .ok l r => [.ag l.c, I (nxt b r), I 0]
theorem zgs : Cv (.ag [.x (.slice none 0 0), .x (.slice none 0 0), .x (.slice none 0 0), .i .u8 0, .x (.slice none 0 0), .x (.slice none 0 0)]) (.ag zl.c) :=
 Cv.ag (zk (Cv.nil 1) (zk (Cv.nil 1) (zk (Cv.nil 1) (zk (cr) (zk (Cv.nil 1) (zk (Cv.nil 1) Cvs.nil))))))
theorem len3 {α : Type} {l : List α} (h : l.length = 3) : ∃ a b c, l = [a, b, c] := by
 match l, h with
 | [a, b, c], _ => exact ⟨a, b, c, rfl⟩
theorem zhv {b : List UInt8} {a j : Nat} {c : UInt8} {r : List UInt8} (h : b.drop (a + j) = c :: r) : a + j < b.length /\ r = b.drop (a + j + 1) /\ ∀ hh : a + j < b.length, b[a + j] = c := by
 have hl : a + j < b.length := by
  rcases Nat.lt_or_ge (a + j) b.length with h1 | h1
  ·exact h1
  ·rw [List.drop_of_length_le h1] at h; cases h
 have e := List.drop_eq_getElem_cons hl
 rw [e] at h
 injection h with h1 h2
 exact ⟨hl, h2.symm, λ _ => h1⟩
theorem zcz {l : List UInt8} {i : Int} {j : Nat} {c : UInt8} (h : i = j) (hj : j < l.length) (hc : l[j] = c) : ((l.map U8).drop (i.toNat * 1)).take 1 = [U8 c] := by rw [<- hc]; exact zah h hj
theorem zo1 {b : List UInt8} {a : Nat} (h : b.drop a = []) : b.length <= a := by
 have := congrArg List.length h
 rw [List.length_drop] at this
 simp at this
 omega
section
variable {b : List UInt8} {at_ n : Nat} {e : Nat} {vs : List (List UInt8)} {v r : List UInt8} {m : Int}
theorem zml (hb : b.length <= 1000000000) (ha : at_ <= b.length) (hn : n <= 10) (h : zbe n (b.drop at_) = .err e) : zae Tryz.prog 190 [bs b, I at_, I n] (.r (.tu [bss [], .any, I e])) := by
 have g := z3a b at_ n hb ha hn
 unfold zri at g
 rwa [h] at g
theorem zn4 (hb : b.length <= 1000000000) (ha : at_ <= b.length) (hn : n <= 10) (h : zbe n (b.drop at_) = .ok vs r) (hx : nxt b r = m) : zae Tryz.prog 190 [bs b, I at_, I n] (.r (.tu [bss vs, I m, I 0])) := by
 have g := z3a b at_ n hb ha hn
 unfold zri at g
 rw [h] at g
 rwa [<- hx]
theorem zl9 (hb : b.length <= 1000000000) (ha : at_ <= b.length) (h : vecP (b.drop at_) = .err e) : zae Tryz.prog 190 [bs b, I at_, I 1] (.r (.tu [bss [], .any, I e])) :=
 zml (n := 1) hb ha (by omega) (by rw [z7g, h])
theorem znp (hb : b.length <= 1000000000) (ha : at_ <= b.length) (h : vecP (b.drop at_) = .ok v r) (hx : nxt b r = m) : zae Tryz.prog 190 [bs b, I at_, I 1] (.r (.tu [bss [v], I m, I 0])) :=
 zn4 (n := 1) hb ha (by omega) (by rw [z7g, h]) hx
end
set_option maxHeartbeats 1000000 in
theorem zny (b : List UInt8) (at_ : Nat) (hb : b.length <= 1000000000) (ha : at_ <= b.length) : zae Tryz.prog 189 [bs b, I at_] (.r (.tu (zl4 b at_))) := by
 refine zad (T := Tab) zaf Tab_ok Tryz.func189 rfl (by kernel_rfl) ?_
 have bad : ∀ e : Nat, zcv (b.drop at_) = .err e -> ∀ x : RV, Cv (.tu [.ag [.x (.slice none 0 0), .x (.slice none 0 0), .x (.slice none 0 0), .i .u8 0, .x (.slice none 0 0), .x (.slice none 0 0)], x, I e]) (.tu (zl4 b at_)) := λ e h x => by
  unfold zl4
  rw [h]
  exact Cv.tu (zk zgs (zk Cv.any (zn _)))
 cases hv : zbe 3 (b.drop at_) with
 | err e =>
  have g3 := zml hb ha (by omega) hv
  have he := ze6 3 hv
  refine ze g3 ?_
  refine zu (by simp only [zb]; omega) (zq ?_)
  refine za rfl rfl ?_
  exact ⟨_, rfl, bad e (by unfold zcv; rw [hv]) _⟩
 | ok vs r =>
  obtain ⟨hl, j, hr, hj, hvb⟩ := zf0 3 hv
  obtain ⟨v0, v1, v2, rfl⟩ := len3 hl
  rw [List.length_drop] at hj
  have hnx := zh4 hr (by omega)
  rw [List.drop_drop] at hr
  have hP : zcv (b.drop at_) = zfs [v0, v1, v2] r := by unfold zcv; rw [hv]
  have g3 := zn4 hb ha (by omega) hv hnx
  refine ze g3 ?_
  refine zw rfl (zt ?_)
  cases r with
  | nil =>
   have := zo1 hr.symm
   refine zu (by simp only [zb]; omega) (zq ?_)
   refine za rfl rfl ?_
   exact ⟨_, rfl, bad 4 (by rw [hP]; rfl) _⟩
  | cons c s =>
   obtain ⟨hlt, hs, hat⟩ := zhv hr.symm
   have hcl := c.toNat_lt
   refine zw (by simp only [zb]; omega) (zt ?_)
   refine Vdraw.mk' (by kernel_rfl) ?_
   refine zm (by omega) (by simp) (zah (l := [v0, v1, v2]) (j := 0) rfl (by simp)) (zg rfl ?_)
   refine zm (by omega) (by simp) (zah (l := [v0, v1, v2]) (j := 1) rfl (by simp)) (zg rfl ?_)
   refine zm (by omega) (by simp) (zah (l := [v0, v1, v2]) (j := 2) rfl (by simp)) (zg rfl ?_)
   refine zm (by omega) (by omega) (zcz rfl hlt (hat hlt)) (zg rfl ?_)
   by_cases hc : c.toNat = 0 \/ 3 < c.toNat
   ·have hP1 : zcv (b.drop at_) = .err 3 := by rw [hP]; simp only [zfs]; rw [if_pos hc]
    by_cases hc0 : c.toNat = 0
    ·refine zu (by simp only [zb]; omega) (zq ?_)
     refine za rfl rfl ?_
     exact ⟨_, rfl, bad 3 hP1 _⟩
    ·refine zw (by simp only [zb]; omega) ?_
     refine zu (by simp only [zb]; omega) (zq ?_)
     refine za rfl rfl ?_
     exact ⟨_, rfl, bad 3 hP1 _⟩
   refine zw (by simp only [zb]; omega) ?_
   refine zw (by simp only [zb]; omega) (zt ?_)
   refine zd (m := ((at_ + j + 1 : Nat) : Int)) (by omega) (by omega) ?_
   have hP1 : zcv (b.drop at_) = match zdi c s with
    | .err e => .err e
    | .ok par r => zft [v0, v1, v2] c par r := by rw [hP]; simp only [zfs]; rw [if_neg hc]
   by_cases hc3 : c.toNat = 3
   ·have hpar : zdi c s = vecP s := by unfold zdi; rw [if_pos hc3]
    rw [hpar] at hP1
    refine zu (by simp only [zb]; omega) (zq ?_)
    cases hw : vecP s with
    | err e =>
     rw [hw] at hP1
     have g1 := zl9 (at_ := at_ + j + 1) hb (by omega) (by rw [<- hs]; exact hw)
     have he := zfd hw
     refine ze g1 ?_
     refine zu (by simp only [zb]; omega) (zq ?_)
     refine za rfl rfl ?_
     exact ⟨_, rfl, bad e hP1 _⟩
    | ok par r =>
     rw [hw] at hP1
     obtain ⟨i, hri, _, hi, _⟩ := zbz hw
     rw [hs, List.length_drop] at hi
     have hri2 : r = (b.drop (at_ + j + 1)).drop i := by rw [hri, hs]
     have hnx2 := zh4 hri2 (by omega)
     rw [List.drop_drop] at hri2
     have g1 := znp (at_ := at_ + j + 1) hb (by omega) (by rw [<- hs]; exact hw) hnx2
     refine ze g1 ?_
     refine zw rfl (zt ?_)
     refine zm (by omega) (by simp) (zah (l := [par]) (j := 0) rfl (by simp)) (zg rfl ?_)
     simp only [zft] at hP1
     cases hx : vecP r with
     | err e =>
      rw [hx] at hP1
      have g2 := zl9 (at_ := at_ + j + 1 + i) hb (by omega) (by rw [<- hri2]; exact hx)
      have he := zfd hx
      refine ze g2 ?_
      refine zu (by simp only [zb]; omega) (zq ?_)
      refine za rfl rfl ?_
      exact ⟨_, rfl, bad e hP1 _⟩
     | ok sig q =>
      rw [hx] at hP1
      have g2 := znp (at_ := at_ + j + 1 + i) hb (by omega) (by rw [<- hri2]; exact hx) rfl
      simp only at hP1
      refine ze g2 ?_
      refine zw rfl (zt ?_)
      refine zm (by omega) (by simp) (zah (l := [sig]) (j := 0) rfl (by simp)) (zg rfl ?_)
      refine za rfl rfl ?_
      have gr := znv (zes [v0, v1, v2] c par sig)
      have cvl : Cv (.ag [bs v0, bs v1, bs v2, U8 c, bs par, bs sig]) (.ag (zes [v0, v1, v2] c par sig).c) := cr
      cases hrt : (zes [v0, v1, v2] c par sig).right with
      | false =>
       rw [hrt] at gr
       rw [if_neg (by rw [hrt]; decide)] at hP1
       refine Vcall.mk' gr (zk cvl Cvs.nil) ?_
       refine zu rfl (zq ?_)
       refine za rfl rfl ?_
       exact ⟨_, rfl, bad 3 hP1 _⟩
      | true =>
       rw [hrt] at gr
       rw [if_pos hrt] at hP1
       refine Vcall.mk' gr (zk cvl Cvs.nil) ?_
       refine zw rfl (zt ?_)
       refine za rfl rfl ?_
       refine za rfl rfl ?_
       refine ⟨_, rfl, ?_⟩
       unfold zl4
       rw [hP1]
       exact Cv.tu (zk cvl (zn _))
   ·have hpar : zdi c s = .ok [] s := by unfold zdi; rw [if_neg hc3]
    rw [hpar] at hP1
    refine zw (by simp only [zb]; omega) (zt ?_)
    simp only [zft] at hP1
    cases hx : vecP s with
    | err e =>
     rw [hx] at hP1
     have g2 := zl9 (at_ := at_ + j + 1) hb (by omega) (by rw [<- hs]; exact hx)
     have he := zfd hx
     refine ze g2 ?_
     refine zu (by simp only [zb]; omega) (zq ?_)
     refine za rfl rfl ?_
     exact ⟨_, rfl, bad e hP1 _⟩
    | ok sig q =>
     rw [hx] at hP1
     have g2 := znp (at_ := at_ + j + 1) hb (by omega) (by rw [<- hs]; exact hx) rfl
     simp only at hP1
     refine ze g2 ?_
     refine zw rfl (zt ?_)
     refine zm (by omega) (by simp) (zah (l := [sig]) (j := 0) rfl (by simp)) (zg rfl ?_)
     refine za rfl rfl ?_
     have gr := znv (zes [v0, v1, v2] c [] sig)
     have cvl : Cv (.ag [bs v0, bs v1, bs v2, U8 c, .x (.slice none 0 0), bs sig]) (.ag (zes [v0, v1, v2] c [] sig).c) := Cv.ag (zk (cr) (zk (cr) (zk (cr) (zk (cr) (zk (Cv.nil 1) (zk (cr) Cvs.nil))))))
     cases hrt : (zes [v0, v1, v2] c [] sig).right with
     | false =>
      rw [hrt] at gr
      rw [if_neg (by rw [hrt]; decide)] at hP1
      refine Vcall.mk' gr (zk cvl Cvs.nil) ?_
      refine zu rfl (zq ?_)
      refine za rfl rfl ?_
      exact ⟨_, rfl, bad 3 hP1 _⟩
     | true =>
      rw [hrt] at gr
      rw [if_pos hrt] at hP1
      refine Vcall.mk' gr (zk cvl Cvs.nil) ?_
      refine zw rfl (zt ?_)
      refine za rfl rfl ?_
      refine za rfl rfl ?_
      refine ⟨_, rfl, ?_⟩
      unfold zl4
      rw [hP1]
      exact Cv.tu (zk cvl (zn _))
end
section
def zce (v : List UInt8) (j : Nat) : List Int := (List.range j).map λ i : Nat => ((numA 0 ((v.drop (4 * i)).take 4) : Nat) : Int)
def zhg (vs : List (List UInt8)) : Par := ⟨vs.getD 0 [], vs.getD 1 [], zce (vs.getD 2 []) ((vs.getD 2 []).length / 4)⟩
def parP (l : List UInt8) : PR Node := match zbe 3 l with
 | .err e => .err e
 | .ok vs r => if (vs.getD 2 []).length % 4 = 0 /\ (zhg vs).right = true then .ok ⟨2, zl, zhg vs⟩ r else .err 3
def za4 : List UInt8 -> PR Node
 | [] => .err 4
 | c :: r => if c.toNat = 0 then .ok Node.zero r else if c.toNat = 1 then (match zcv r with
  | .err e => .err e
  | .ok l s => .ok ⟨1, l, zp⟩ s) else if c.toNat = 2 then parP r else .err 3
theorem ztq (v : List UInt8) (j : Nat) : zce v (j + 1) = zce v j ++ [((numA 0 ((v.drop (4 * j)).take 4) : Nat) : Int)] := by
 unfold zce
 rw [List.range_succ, List.map_append]
 rfl
theorem late_len (v : List UInt8) (j : Nat) : (zce v j).length = j := by simp [zce]
theorem z10 {v : List UInt8} {i : Nat} (h : i + 4 <= v.length) : (v.drop i).take 4 = [v[i], v[i + 1], v[i + 2], v[i + 3]] := by
 rw [List.drop_eq_getElem_cons (by omega), List.drop_eq_getElem_cons (by omega), List.drop_eq_getElem_cons (by omega), List.drop_eq_getElem_cons (by omega)]
 rfl
theorem num4 (a b c d : UInt8) : numA 0 [a, b, c, d] = ((a.toNat * 256 + b.toNat) * 256 + c.toNat) * 256 + d.toNat := by
 simp only [numA, List.foldl_cons, List.foldl_nil]
 omega
def zkh (b : List UInt8) (at_ : Nat) : List RV := match za4 (b.drop at_) with
 | .err e => [.ag Node.zero.c, .any, I e]
 | .ok n r => [.ag n.c, I (nxt b r), I 0]
section
variable {b : List UInt8} {at_ : Nat} {e : Nat} {l : Leaf} {r : List UInt8} {m : Int}
theorem z08 (hb : b.length <= 1000000000) (ha : at_ <= b.length) (h : zcv (b.drop at_) = .err e) : zae Tryz.prog 189 [bs b, I at_] (.r (.tu [.ag zl.c, .any, I e])) := by
 have g := zny b at_ hb ha
 unfold zl4 at g
 rwa [h] at g
theorem z4v (hb : b.length <= 1000000000) (ha : at_ <= b.length) (h : zcv (b.drop at_) = .ok l r) (hx : nxt b r = m) : zae Tryz.prog 189 [bs b, I at_] (.r (.tu [.ag l.c, I m, I 0])) := by
 have g := zny b at_ hb ha
 unfold zl4 at g
 rw [h] at g
 rwa [<- hx]
end
theorem zm9 {l : List UInt8} {e : Nat} (h : zcv l = .err e) : e = 3 \/ e = 4 := by
 unfold zcv at h
 cases hv : zbe 3 l with
 | err e' => rw [hv] at h; injection h with h; subst h; exact ze6 3 hv
 | ok vs r =>
  rw [hv] at h
  simp only at h
  cases r with
  | nil => simp only [zfs, PR.err.injEq] at h; omega
  | cons c s =>
   simp only [zfs] at h
   split at h
   ·injection h with h; omega
   ·cases hp : zdi c s with
    | err e' =>
     rw [hp] at h
     injection h with h
     subst h
     unfold zdi at hp
     split at hp
     ·exact zfd hp
     ·cases hp
    | ok par q =>
     rw [hp] at h
     simp only [zft] at h
     cases hx : vecP q with
     | err e' => rw [hx] at h; injection h with h; subst h; exact zfd hx
     | ok sig z =>
      rw [hx] at h
      simp only at h
      split at h
      ·cases h
      ·injection h with h; omega
theorem z3e {l r : List UInt8} {x : Leaf} (h : zcv l = .ok x r) : ∃ j, r = l.drop j /\ j <= l.length := by
 unfold zcv at h
 cases hv : zbe 3 l with
 | err e' => rw [hv] at h; cases h
 | ok vs q =>
  rw [hv] at h
  obtain ⟨_, j, rfl, hj, _⟩ := zf0 3 hv
  simp only at h
  cases hq : l.drop j with
  | nil => rw [hq] at h; cases h
  | cons c s =>
   rw [hq] at h
   have hs : s = l.drop (j + 1) := (zhv (a := j) (j := 0) hq).2.1
   have hjl := (zhv (a := j) (j := 0) hq).1
   simp only [zfs] at h
   split at h
   ·cases h
   ·cases hp : zdi c s with
    | err e' => rw [hp] at h; cases h
    | ok par q =>
     rw [hp] at h
     have hq2 : ∃ i, q = s.drop i /\ i <= s.length := by
      unfold zdi at hp
      split at hp
      ·obtain ⟨i, h1, _, h2, _⟩ := zbz hp; exact ⟨i, h1, h2⟩
      ·injection hp with h1 h2; exact ⟨0, by simp [h2], by omega⟩
     obtain ⟨i, rfl, hi⟩ := hq2
     simp only [zft] at h
     cases hx : vecP (s.drop i) with
     | err e' => rw [hx] at h; cases h
     | ok sig z =>
      rw [hx] at h
      obtain ⟨k, rfl, _, hk, _⟩ := zbz hx
      simp only at h
      split at h
      ·injection h with h1 h2
       subst h2
       rw [hs, List.length_drop] at hi
       rw [hs, List.length_drop, List.length_drop] at hk
       exact ⟨j + 1 + i + k, by rw [hs, List.drop_drop, List.drop_drop]; congr 1; omega, by omega⟩
      ·cases h
theorem z1p (v0 v1 v2 : List UInt8) : zhg [v0, v1, v2] = ⟨v0, v1, zce v2 (v2.length / 4)⟩ := rfl
theorem zo5 (P : Par) : Cv (.ag ([.i .u8 2, .x (.slice none 0 0), .x (.slice none 0 0), .x (.slice none 0 0), .i .u8 0, .x (.slice none 0 0), .x (.slice none 0 0)] ++ P.c)) (.ag (Node.c ⟨2, zl, P⟩)) :=
 Cv.ag (zk (cr) (zk (Cv.nil 1) (zk (Cv.nil 1) (zk (Cv.nil 1) (zk (cr) (zk (Cv.nil 1) (zk (Cv.nil 1) (zn _))))))))
theorem znc (L : Leaf) : Cv (.ag ([.i .u8 1] ++ L.c ++ [.x (.slice none 0 0), .x (.slice none 0 0), .x (.slice none 0 0)])) (.ag (Node.c ⟨1, L, zp⟩)) :=
 Cv.ag (zk (cr) (zk (cr) (zk (cr) (zk (cr) (zk (cr) (zk (cr) (zk (cr) (zk (Cv.nil 1) (zk (Cv.nil 1) (zk (Cv.nil 1) Cvs.nil))))))))))
set_option maxHeartbeats 1000000 in
theorem zv0 (b : List UInt8) (at_ : Nat) (hb8 : b.length <= 100000000) (ha : at_ <= b.length) : zae Tryz.prog 156 [bs b, I at_] (.r (.tu (zkh b at_))) := by
 refine zad (T := Tab) zaf Tab_ok Tryz.func156 rfl (by kernel_rfl) ?_
 have hb : b.length <= 1000000000 := by omega
 have bad : ∀ e : Nat, za4 (b.drop at_) = .err e -> ∀ x : RV, Cv (.tu [.ag zc, x, I e]) (.tu (zkh b at_)) := λ e h x => by
  unfold zkh
  rw [h]
  exact Cv.tu (zk ze4 (zk Cv.any (zn _)))
 cases hd : b.drop at_ with
 | nil =>
  have := zo1 hd
  refine zu (by simp only [zb]; omega) (zq ?_)
  refine za rfl rfl ?_
  exact ⟨_, rfl, bad 4 (by rw [hd]; rfl) _⟩
 | cons c s =>
  obtain ⟨hlt, hs, hat⟩ := zhv (a := at_) (j := 0) hd
  simp only [Nat.add_zero] at hlt hs hat
  have hcl := c.toNat_lt
  have hP : za4 (b.drop at_) = za4 (c :: s) := by rw [hd]
  refine zw (by simp only [zb]; omega) (zt ?_)
  refine zm (by omega) (by omega) (zcz rfl hlt (hat hlt)) (zg rfl ?_)
  by_cases h0 : c.toNat = 0
  ·refine zu (by simp only [zb]; omega) (zq ?_)
   refine zd (m := ((at_ + 1 : Nat) : Int)) (by omega) (by omega) ?_
   refine za rfl rfl ?_
   refine ⟨_, rfl, ?_⟩
   unfold zkh
   rw [hP]
   simp only [za4]
   rw [if_pos h0]
   have : nxt b s = ((at_ + 1 : Nat) : Int) := by unfold nxt; rw [hs, List.length_drop]; omega
   exact Cv.tu (zk ze4 (zk (zf (by rw [this])) (zn _)))
  refine zw (by simp only [zb]; omega) (zt ?_)
  refine zm (by omega) (by omega) (zcz rfl hlt (hat hlt)) (zg rfl ?_)
  by_cases h1 : c.toNat = 1
  ·refine zu (by simp only [zb]; omega) (zq ?_)
   refine zd (m := ((at_ + 1 : Nat) : Int)) (by omega) (by omega) ?_
   cases hl : zcv s with
   | err e =>
    have he := zm9 hl
    refine ze (z08 (at_ := at_ + 1) hb (by omega) (by rw [<- hs]; exact hl)) ?_
    refine zu (by simp only [zb]; omega) (zq ?_)
    refine za rfl rfl ?_
    exact ⟨_, rfl, bad e (by rw [hP]; simp only [za4]; rw [if_neg h0, if_pos h1, hl]) _⟩
   | ok L q =>
    refine ze (z4v (at_ := at_ + 1) hb (by omega) (by rw [<- hs]; exact hl) rfl) ?_
    refine zw rfl (zt ?_)
    refine za rfl rfl ?_
    refine za rfl rfl ?_
    refine ⟨_, rfl, ?_⟩
    unfold zkh
    rw [hP]
    simp only [za4]
    rw [if_neg h0, if_pos h1, hl]
    exact Cv.tu (zk (znc L) (zn _))
  refine zw (by simp only [zb]; omega) (zt ?_)
  refine zm (by omega) (by omega) (zcz rfl hlt (hat hlt)) (zg rfl ?_)
  by_cases h2 : c.toNat = 2
  rotate_left
  ·refine zu (by simp only [zb]; omega) (zq ?_)
   refine za rfl rfl ?_
   exact ⟨_, rfl, bad 3 (by rw [hP]; simp only [za4]; rw [if_neg h0, if_neg h1, if_neg h2]) _⟩
  have hP2 : za4 (b.drop at_) = parP s := by rw [hP]; simp only [za4]; rw [if_neg h0, if_neg h1, if_pos h2]
  refine zw (by simp only [zb]; omega) (zt ?_)
  refine zd (m := ((at_ + 1 : Nat) : Int)) (by omega) (by omega) ?_
  unfold parP at hP2
  cases hv : zbe 3 s with
  | err e =>
   have he := ze6 3 hv
   rw [hv] at hP2
   refine ze (zml (at_ := at_ + 1) (n := 3) hb (by omega) (by omega) (by rw [<- hs]; exact hv)) ?_
   refine zu (by simp only [zb]; omega) (zq ?_)
   refine za rfl rfl ?_
   exact ⟨_, rfl, bad e hP2 _⟩
  | ok vs r =>
   rw [hv] at hP2
   obtain ⟨hl, j, hr, hj, hvb⟩ := zf0 3 hv
   obtain ⟨v0, v1, v2, rfl⟩ := len3 hl
   have hl2 : v2.length <= 100000000 := by have := hvb v2 (by simp); rw [hs, List.length_drop] at this; omega
   refine ze (zn4 (at_ := at_ + 1) (n := 3) hb (by omega) (by omega) (by rw [<- hs]; exact hv) rfl) ?_
   refine zw rfl (zt ?_)
   refine Vdraw.mk' (by kernel_rfl) ?_
   refine zm (by omega) (by simp) (zah (l := [v0, v1, v2]) (j := 0) rfl (by simp)) (zg rfl ?_)
   refine zm (by omega) (by simp) (zah (l := [v0, v1, v2]) (j := 1) rfl (by simp)) (zg rfl ?_)
   refine zy (λ i : Nat => { F := [(1, .r (I at_)), (4, .own 0), (10, .r (bss [v0, v1, v2])), (11, .r (I (nxt b r))), (13, .own 1), (14, .r (I ((4 * i : Nat) : Int)))], O := [(0, some (.box (zc.map .r))), (1, some (.box [.r (bs v0), .r (bs v1), .own 2])), (2, some (.ch 3 1 (zce v2 i).length ((zce v2 i).map I) true))], nx := 3 })
    (λ i => 4 * i <= v2.length) (λ i => v2.length - i) 0 (by omega)
    ((zd2 true 1 2 3 1 (cells := [.r (bs v0), .r (bs v1), .r (.x (.slice none 0 0))]) rfl rfl).trans (zac [(0, 0), (1, 1), (2, 2)] rfl ⟨cr, rfl, cr, cr, rfl, cr, trivial⟩ ⟨zab zc, cvc (zb3 _) (cvc (zb3 _) (cvc rfl rfl)), ⟨rfl, rfl, rfl, rfl, zn _⟩, trivial⟩)) ?_
   intro i hi
   refine zd (m := ((4 * i + 4 : Nat) : Int)) (by omega) (by omega) ?_
   refine zm (by omega) (by simp) (zah (l := [v0, v1, v2]) (j := 2) rfl (by simp)) (zg rfl ?_)
   refine zh (λ h => zq ?_) (λ h => zt ?_)
   ·simp only [zb] at h
    have hi4 : 4 * i + 4 <= v2.length := by
     have h' : ((4 * i + 4 : Nat) : Int) <= (v2.length : Int) := h
     omega
    obtain ⟨a, ha⟩ : ∃ a, a = v2[4 * i + 0] := ⟨_, rfl⟩
    obtain ⟨b', hb'⟩ : ∃ b', b' = v2[4 * i + 1] := ⟨_, rfl⟩
    obtain ⟨c', hc'⟩ : ∃ c', c' = v2[4 * i + 2] := ⟨_, rfl⟩
    obtain ⟨d', hd'⟩ : ∃ d', d' = v2[4 * i + 3] := ⟨_, rfl⟩
    have la := a.toNat_lt
    have lb := b'.toNat_lt
    have lc := c'.toNat_lt
    have ld := d'.toNat_lt
    have hnum : numA 0 ((v2.drop (4 * i)).take 4) = ((a.toNat * 256 + b'.toNat) * 256 + c'.toNat) * 256 + d'.toNat := by
     rw [z10 hi4, num4, ha, hb', hc', hd']
     rfl
    have hll := late_len v2 i
    have hsn := ztq v2 i
    refine Vdraw.mk' (by kernel_rfl) ?_
    refine zm (by omega) (by simp) (zah (l := [v0, v1, v2]) (j := 2) rfl (by simp)) (zg rfl ?_)
    refine zm (by omega) (by show ((4 * i + 0 : Nat) : Int) < ((v2.length : Nat) : Int); omega) (zcz (l := v2) (c := a) (j := 4 * i + 0) rfl (by omega) ha.symm) (zg rfl ?_)
    refine zd rfl (by omega) ?_
    refine zd rfl (by omega) ?_
    refine zm (by omega) (by simp) (zah (l := [v0, v1, v2]) (j := 2) rfl (by simp)) (zg rfl ?_)
    refine zd (m := ((4 * i + 1 : Nat) : Int)) (by omega) (by omega) ?_
    refine zm (by omega) (by show ((4 * i + 1 : Nat) : Int) < ((v2.length : Nat) : Int); omega) (zcz (l := v2) (c := b') (j := 4 * i + 1) rfl (by omega) hb'.symm) (zg rfl ?_)
    refine zd rfl (by omega) ?_
    refine zd rfl (by omega) ?_
    refine zd rfl (by omega) ?_
    refine zm (by omega) (by simp) (zah (l := [v0, v1, v2]) (j := 2) rfl (by simp)) (zg rfl ?_)
    refine zd (m := ((4 * i + 2 : Nat) : Int)) (by omega) (by omega) ?_
    refine zm (by omega) (by show ((4 * i + 2 : Nat) : Int) < ((v2.length : Nat) : Int); omega) (zcz (l := v2) (c := c') (j := 4 * i + 2) rfl (by omega) hc'.symm) (zg rfl ?_)
    refine zd rfl (by omega) ?_
    refine zd rfl (by omega) ?_
    refine zd rfl (by omega) ?_
    refine zm (by omega) (by simp) (zah (l := [v0, v1, v2]) (j := 2) rfl (by simp)) (zg rfl ?_)
    refine zd (m := ((4 * i + 3 : Nat) : Int)) (by omega) (by omega) ?_
    refine zm (by omega) (by show ((4 * i + 3 : Nat) : Int) < ((v2.length : Nat) : Int); omega) (zcz (l := v2) (c := d') (j := 4 * i + 3) rfl (by omega) hd'.symm) (zg rfl ?_)
    refine zd rfl (by omega) ?_
    refine zd rfl (by omega) ?_
    refine zx ?_
    refine Vapp.mk' (j := (zce v2 (i + 1)).length) (zs := (zce v2 (i + 1)).map I) (by simp only [maxLen]; omega) (by simp; omega) (by rw [hsn, List.length_append]; rfl) (by rw [hsn, List.map_append]; refine congrArg (List.map I (zce v2 i) ++ ·) ?_; rw [hnum]; simp [zbh, cellsOf]) ?_
    refine zd (m := ((4 * (i + 1) : Nat) : Int)) (by omega) (by omega) ?_
    exact ⟨i + 1, by omega, by omega, zac [(0, 0), (1, 1), (2, _)] rfl ⟨cr, rfl, cr, cr, rfl, cr, trivial⟩ ⟨zab zc, cvc (zb3 _) (cvc (zb3 _) (cvc rfl rfl)), ⟨rfl, rfl, rfl, rfl, zn _⟩, trivial⟩⟩
   ·simp only [zb] at h
    have hi4 : ¬ 4 * i + 4 <= v2.length := by
     have h' : ¬ ((4 * i + 4 : Nat) : Int) <= (v2.length : Int) := h
     omega
    have hie : i = v2.length / 4 := by omega
    subst hie
    have hmk : zhg [v0, v1, v2] = ⟨v0, v1, zce v2 (v2.length / 4)⟩ := rfl
    obtain ⟨Q, hQ⟩ : ∃ Q : Par, Q = ⟨v0, v1, zce v2 (v2.length / 4)⟩ := ⟨_, rfl⟩
    have h2l : [v0, v1, v2].getD 2 [] = v2 := rfl
    simp only [h2l, hmk, <- hQ] at hP2
    have hlat : ∀ x ∈ zce v2 (v2.length / 4), Sx.i64 x := λ x hx => by
     simp only [zce, List.mem_map, List.mem_range] at hx
     obtain ⟨k, hk, rfl⟩ := hx
     rw [z10 (by omega), num4]
     have l1 := (v2[4 * k]).toNat_lt
     have l2 := (v2[4 * k + 1]).toNat_lt
     have l3 := (v2[4 * k + 2]).toNat_lt
     have l4 := (v2[4 * k + 3]).toNat_lt
     unfold Sx.i64
     omega
    have b0 := hvb v0 (by simp)
    have b1 := hvb v1 (by simp)
    rw [hs, List.length_drop] at b0 b1
    have hqf : Q.fit := by
     rw [hQ]
     refine ⟨by show v0.length <= _; omega, by show v1.length <= _; omega, ?_, hlat⟩
     show (zce v2 (v2.length / 4)).length <= _
     rw [late_len]; omega
    have gp := zwt Q hqf
    refine zm (by omega) (by simp) (zah (l := [v0, v1, v2]) (j := 2) rfl (by simp)) (zg rfl ?_)
    refine ⟨by decide, ((v2.length % 4 : Nat) : Int), ?_, ?_⟩
    ·show _ = ((v2.length : Nat) : Int).tmod 4
     rw [Int.tmod_eq_emod_of_nonneg (by omega)]; omega
    by_cases h4 : v2.length % 4 = 0
    rotate_left
    ·rw [if_neg (λ hh => h4 hh.1)] at hP2
     refine zu (by simp only [zb]; omega) (zq ?_)
     refine za rfl rfl ?_
     exact ⟨_, rfl, bad 3 hP2 _⟩
    refine zw (by simp only [zb]; omega) ?_
    refine za rfl rfl ?_
    cases hrt : Q.right with
    | false =>
     rw [hrt] at gp
     rw [if_neg (λ hh => by rw [hrt] at hh; cases hh.2)] at hP2
     refine Vcall.mk' gp (zk (zf (by rw [hQ]; rfl)) Cvs.nil) ?_
     refine zu rfl (zq ?_)
     refine za rfl rfl ?_
     exact ⟨_, rfl, bad 3 hP2 _⟩
    | true =>
     rw [hrt] at gp
     rw [if_pos ⟨h4, hrt⟩] at hP2
     refine Vcall.mk' gp (zk (zf (by rw [hQ]; rfl)) Cvs.nil) ?_
     refine zw rfl (zt ?_)
     refine za rfl rfl ?_
     refine za rfl rfl ?_
     refine ⟨_, rfl, ?_⟩
     unfold zkh
     rw [hP2]
     simp only [hQ]
     exact Cv.tu (zk (zo5 ⟨v0, v1, zce v2 (v2.length / 4)⟩) (zn _))
end
section
theorem zhc {l : List UInt8} {e : Nat} (h : za4 l = .err e) : e = 3 \/ e = 4 := by
 cases l with
 | nil => simp only [za4, PR.err.injEq] at h; omega
 | cons c r =>
  simp only [za4] at h
  split at h
  ·cases h
  ·split at h
   ·cases hl : zcv r with
    | err e' => rw [hl] at h; injection h with h; subst h; exact zm9 hl
    | ok x s => rw [hl] at h; cases h
   ·split at h
    ·unfold parP at h
     cases hv : zbe 3 r with
     | err e' => rw [hv] at h; injection h with h; subst h; exact ze6 3 hv
     | ok vs s =>
      rw [hv] at h
      simp only at h
      split at h
      ·cases h
      ·injection h with h; omega
    ·injection h with h; omega
theorem zdz {l r : List UInt8} {n : Node} (h : za4 l = .ok n r) : ∃ j, r = l.drop j /\ j <= l.length := by
 cases l with
 | nil => cases h
 | cons c s =>
  simp only [za4] at h
  split at h
  ·injection h with h1 h2; exact ⟨1, by simp [h2], by simp⟩
  ·split at h
   ·cases hl : zcv s with
    | err e' => rw [hl] at h; cases h
    | ok x q =>
     rw [hl] at h
     injection h with h1 h2
     subst h2
     obtain ⟨j, rfl, hj⟩ := z3e hl
     exact ⟨j + 1, by simp, by simp; omega⟩
   ·split at h
    ·unfold parP at h
     cases hv : zbe 3 s with
     | err e' => rw [hv] at h; cases h
     | ok vs q =>
      rw [hv] at h
      simp only at h
      split at h
      ·injection h with h1 h2
       subst h2
       obtain ⟨_, j, rfl, hj, _⟩ := zf0 3 hv
       exact ⟨j + 1, by simp, by simp; omega⟩
      ·cases h
    ·cases h
def zav : Nat -> Nat -> List UInt8 -> PR (List Spot × List Stub)
 | _, _, [] => .err 4
 | h, k, c :: r =>
  if 1 < c.toNat then .err 3 else if c.toNat = 0 then (if r.length < 32 then .err 4 else .ok ([], [⟨(nd h k : Int), r.take 32⟩]) (r.drop 32))
  else match za4 r with
   | .err e => .err e
   | .ok n s =>
    match h with
    | 0 => if n.kind.toNat = 2 then .err 3 else .ok ([⟨(nd 0 k : Int), n⟩], []) s
    | h + 1 => if n.kind.toNat = 1 then .err 3 else match zav h (2 * k) s with
     | .err e => .err e
     | .ok a s => match zav h (2 * k + 1) s with
      | .err e => .err e
      | .ok b s => .ok (a.1 ++ [⟨(nd (h + 1) k : Int), n⟩] ++ b.1, a.2 ++ b.2) s
theorem zir : ∀ (h k : Nat) {l : List UInt8} {e : Nat}, zav h k l = .err e -> e = 3 \/ e = 4 := by
 intro h
 induction h with
 | zero =>
  intro k l e hl
  cases l with
  | nil => simp only [zav, PR.err.injEq] at hl; omega
  | cons c r =>
   simp only [zav] at hl
   split at hl
   ·injection hl with hl; omega
   ·split at hl
    ·split at hl
     ·injection hl with hl; omega
     ·cases hl
    ·cases hn : za4 r with
     | err e' => rw [hn] at hl; injection hl with hl; subst hl; exact zhc hn
     | ok n s =>
      rw [hn] at hl
      simp only at hl
      split at hl
      ·injection hl with hl; omega
      ·cases hl
 | succ h ih =>
  intro k l e hl
  cases l with
  | nil => simp only [zav, PR.err.injEq] at hl; omega
  | cons c r =>
   simp only [zav] at hl
   split at hl
   ·injection hl with hl; omega
   ·split at hl
    ·split at hl
     ·injection hl with hl; omega
     ·cases hl
    ·cases hn : za4 r with
     | err e' => rw [hn] at hl; injection hl with hl; subst hl; exact zhc hn
     | ok n s =>
      rw [hn] at hl
      simp only at hl
      split at hl
      ·injection hl with hl; omega
      ·cases ha : zav h (2 * k) s with
       | err e' => rw [ha] at hl; injection hl with hl; subst hl; exact ih _ ha
       | ok a q =>
        rw [ha] at hl
        simp only at hl
        cases hb : zav h (2 * k + 1) q with
        | err e' => rw [hb] at hl; injection hl with hl; subst hl; exact ih _ hb
        | ok b z => rw [hb] at hl; cases hl
theorem z4b : ∀ (h k : Nat) {l r : List UInt8} {x : List Spot × List Stub}, zav h k l = .ok x r -> ∃ j, r = l.drop j /\ j <= l.length := by
 intro h
 induction h with
 | zero =>
  intro k l r x hl
  cases l with
  | nil => cases hl
  | cons c q =>
   simp only [zav] at hl
   split at hl
   ·cases hl
   ·split at hl
    ·split at hl
     ·cases hl
     ·injection hl with h1 h2; subst h2; exact ⟨33, by simp, by simp; omega⟩
    ·cases hn : za4 q with
     | err e' => rw [hn] at hl; cases hl
     | ok n s =>
      rw [hn] at hl
      obtain ⟨j, rfl, hj⟩ := zdz hn
      simp only at hl
      split at hl
      ·cases hl
      ·injection hl with h1 h2; subst h2; exact ⟨j + 1, by simp, by simp; omega⟩
 | succ h ih =>
  intro k l r x hl
  cases l with
  | nil => cases hl
  | cons c q =>
   simp only [zav] at hl
   split at hl
   ·cases hl
   ·split at hl
    ·split at hl
     ·cases hl
     ·injection hl with h1 h2; subst h2; exact ⟨33, by simp, by simp; omega⟩
    ·cases hn : za4 q with
     | err e' => rw [hn] at hl; cases hl
     | ok n s =>
      rw [hn] at hl
      obtain ⟨j, rfl, hj⟩ := zdz hn
      simp only at hl
      split at hl
      ·cases hl
      ·cases ha : zav h (2 * k) (q.drop j) with
       | err e' => rw [ha] at hl; cases hl
       | ok a s =>
        rw [ha] at hl
        obtain ⟨i, rfl, hi⟩ := ih _ ha
        simp only at hl
        cases hb : zav h (2 * k + 1) ((q.drop j).drop i) with
        | err e' => rw [hb] at hl; cases hl
        | ok b s =>
         rw [hb] at hl
         obtain ⟨m, rfl, hm⟩ := ih _ hb
         injection hl with h1 h2
         subst h2
         rw [List.length_drop] at hi
         rw [List.length_drop, List.length_drop] at hm
         refine ⟨j + i + m + 1, ?_, by simp; omega⟩
         rw [List.drop_drop, List.drop_drop, List.drop_succ_cons]
         congr 1; omega
theorem zj3 : ∀ (h k : Nat) {l r : List UInt8} {x : List Spot × List Stub}, zav h k l = .ok x r -> x.1.length + x.2.length + r.length <= l.length := by
 intro h
 induction h with
 | zero =>
  intro k l r x hl
  cases l with
  | nil => cases hl
  | cons c q =>
   simp only [zav] at hl
   split at hl
   ·cases hl
   ·split at hl
    ·split at hl
     ·cases hl
     ·injection hl with h1 h2; subst h2; subst h1; simp; omega
    ·cases hn : za4 q with
     | err e' => rw [hn] at hl; cases hl
     | ok n s =>
      rw [hn] at hl
      obtain ⟨j, rfl, hj⟩ := zdz hn
      simp only at hl
      split at hl
      ·cases hl
      ·injection hl with h1 h2; subst h2; subst h1; simp; omega
 | succ h ih =>
  intro k l r x hl
  cases l with
  | nil => cases hl
  | cons c q =>
   simp only [zav] at hl
   split at hl
   ·cases hl
   ·split at hl
    ·split at hl
     ·cases hl
     ·injection hl with h1 h2; subst h2; subst h1; simp; omega
    ·cases hn : za4 q with
     | err e' => rw [hn] at hl; cases hl
     | ok n s =>
      rw [hn] at hl
      obtain ⟨j, rfl, hj⟩ := zdz hn
      simp only at hl
      split at hl
      ·cases hl
      ·cases ha : zav h (2 * k) (q.drop j) with
       | err e' => rw [ha] at hl; cases hl
       | ok a s =>
        rw [ha] at hl
        have i1 := ih _ ha
        simp only at hl
        cases hb : zav h (2 * k + 1) s with
        | err e' => rw [hb] at hl; cases hl
        | ok b s =>
         rw [hb] at hl
         have i2 := ih _ hb
         injection hl with h1 h2
         subst h2; subst h1
         rw [List.length_drop] at i1
         simp only [List.length_append, List.length_cons, List.length_nil]
         omega
end
section
def zfa (b : List UInt8) (at_ h k : Nat) : List RV := match zav h k (b.drop at_) with
 | .err e => [spots [], zoj [], .any, I e]
 | .ok x r => [spots x.1, zoj x.2, I (nxt b r), I 0]
section
variable {b : List UInt8} {at_ : Nat} {e : Nat} {n : Node} {r : List UInt8} {m : Int}
theorem zrr (hb : b.length <= 100000000) (ha : at_ <= b.length) (h : za4 (b.drop at_) = .err e) : zae Tryz.prog 156 [bs b, I at_] (.r (.tu [.ag Node.zero.c, .any, I e])) := by
 have g := zv0 b at_ hb ha
 unfold zkh at g
 rwa [h] at g
theorem zuq (hb : b.length <= 100000000) (ha : at_ <= b.length) (h : za4 (b.drop at_) = .ok n r) (hx : nxt b r = m) : zae Tryz.prog 156 [bs b, I at_] (.r (.tu [.ag n.c, I m, I 0])) := by
 have g := zv0 b at_ hb ha
 unfold zkh at g
 rw [h] at g
 rwa [<- hx]
end
set_option maxHeartbeats 1000000 in
theorem zu1 (b : List UInt8) (at_ k : Nat) (hb : b.length <= 100000000) (ha : at_ <= b.length) (hk : k < 65536) : zae Tryz.prog 119 [bs b, I at_, I (nd 0 k)] (.r (.tu (zfa b at_ 0 k))) := by
 refine zad (T := Tab) zaf Tab_ok Tryz.func119 rfl (by kernel_rfl) ?_
 have bad : ∀ e : Nat, zav 0 k (b.drop at_) = .err e -> ∀ x : RV, Cv (.tu [.x (.slice none 0 0), .x (.slice none 0 0), x, I e]) (.tu (zfa b at_ 0 k)) := λ e h x => by
  unfold zfa
  rw [h]
  exact Cv.tu (zk (Cv.nil 11) (zk (Cv.nil 2) (zk Cv.any (zn _))))
 have hnode := zen k
 cases hd : b.drop at_ with
 | nil =>
  have := zo1 hd
  refine zu (by simp only [zb]; omega) (zq ?_)
  exact ⟨_, rfl, bad 4 (by rw [hd]; simp only [zav]) _⟩
 | cons c s =>
  obtain ⟨hlt, hs, hat⟩ := zhv (a := at_) (j := 0) hd
  simp only [Nat.add_zero] at hlt hs hat
  have hcl := c.toNat_lt
  have hsl : s.length = b.length - (at_ + 1) := by rw [hs, List.length_drop]
  refine zw (by simp only [zb]; omega) (zt ?_)
  refine zm (by omega) (by omega) (zcz rfl hlt (hat hlt)) (zg rfl ?_)
  by_cases h1 : 1 < c.toNat
  ·refine zu (by simp only [zb]; omega) (zq ?_)
   exact ⟨_, rfl, bad 3 (by rw [hd]; simp only [zav]; rw [if_pos h1]) _⟩
  refine zw (by simp only [zb]; omega) (zt ?_)
  refine zm (by omega) (by omega) (zcz rfl hlt (hat hlt)) (zg rfl ?_)
  by_cases h0 : c.toNat = 0
  ·refine zu (by simp only [zb]; omega) (zq ?_)
   refine zd (m := ((b.length - at_ : Nat) : Int)) (by omega) (by omega) ?_
   refine zd (m := ((s.length : Nat) : Int)) (by omega) (by omega) ?_
   by_cases h32 : s.length < 32
   ·refine zu (by simp only [zb]; omega) (zq ?_)
    exact ⟨_, rfl, bad 4 (by rw [hd]; simp only [zav]; rw [if_neg h1, if_pos h0, if_pos h32]) _⟩
   refine zw (by simp only [zb]; omega) (zt ?_)
   refine Vdraw.mk' (by kernel_rfl) ?_
   refine zd (m := ((at_ + 1 : Nat) : Int)) (by omega) (by omega) ?_
   refine zd (m := ((at_ + 33 : Nat) : Int)) (by omega) (by omega) ?_
   refine ⟨by omega, by omega, by omega, 32, (s.take 32).map U8, by omega, ?_, ?_⟩
   ·rw [hs, Int.toNat_natCast, Nat.mul_one, Nat.mul_one, <- List.map_drop, <- List.map_take]
   refine zx ?_
   refine zd (m := ((at_ + 33 : Nat) : Int)) (by omega) (by omega) ?_
   refine ⟨_, rfl, ?_⟩
   unfold zfa
   rw [hd]
   simp only [zav]
   rw [if_neg h1, if_pos h0, if_neg h32]
   have e1 : nxt b (s.drop 32) = ((at_ + 33 : Nat) : Int) := by unfold nxt; rw [List.length_drop]; omega
   have e2 : (s.take 32).length = 32 := by rw [List.length_take]; omega
   refine Cv.tu (zk (Cv.nil 11) (zk (zf ?_) (zk (zf (by simp only [e1])) (zn _))))
   simp [zoj, bs, e2, zbh, cellsOf, Stub.c]
  refine zw (by simp only [zb]; omega) (zt ?_)
  refine zd (m := ((at_ + 1 : Nat) : Int)) (by omega) (by omega) ?_
  have hT : zav 0 k (b.drop at_) = match za4 s with
   | .err e => .err e
   | .ok n s => if n.kind.toNat = 2 then .err 3 else .ok ([⟨(nd 0 k : Int), n⟩], []) s := by rw [hd]; simp only [zav]; rw [if_neg h1, if_neg h0]; try rfl
  cases hn : za4 s with
  | err e =>
   rw [hn] at hT
   have he := zhc hn
   refine ze (zrr (at_ := at_ + 1) hb (by omega) (by rw [<- hs]; exact hn)) ?_
   refine zu (by simp only [zb]; omega) (zq ?_)
   exact ⟨_, rfl, bad e hT _⟩
  | ok n r =>
   rw [hn] at hT
   simp only at hT
   refine ze (zuq (at_ := at_ + 1) hb (by omega) (by rw [<- hs]; exact hn) rfl) ?_
   refine zw rfl (zt ?_)
   refine ⟨by decide, _, rfl, ?_⟩
   refine zu (by rw [zb4]; rfl) ?_
   by_cases h2 : n.kind.toNat = 2
   ·rw [if_pos h2] at hT
    refine zu (by simp only [zb]; omega) (zq ?_)
    exact ⟨_, rfl, bad 3 hT _⟩
   rw [if_neg h2] at hT
   refine zw (by simp only [zb]; omega) ?_
   refine ⟨by decide, _, rfl, ?_⟩
   refine zw (by rw [zb4]; rfl) (zt ?_)
   refine za rfl rfl ?_
   refine zx ?_
   refine ⟨by decide, _, rfl, ?_⟩
   refine zu (by rw [zb4]; rfl) (zq ?_)
   refine ⟨_, rfl, ?_⟩
   unfold zfa
   rw [hT]
   exact Cv.tu (zk (zf (by simp [spots, zbh, cellsOf])) (zk (Cv.nil 2) (zn _)))
set_option maxHeartbeats 1000000 in
theorem zx6 (b : List UInt8) (h : Nat) (hh : h + 1 <= 16) (hb : b.length <= 100000000)
  (ih : ∀ (at_ k : Nat), at_ <= b.length -> k < 2 ^ (16 - h) -> zae Tryz.prog 119 [bs b, I at_, I (nd h k)] (.r (.tu (zfa b at_ h k)))) (at_ k : Nat) (ha : at_ <= b.length) (hk : k < 2 ^ (16 - (h + 1))) :
  zae Tryz.prog 119 [bs b, I at_, I (nd (h + 1) k)] (.r (.tu (zfa b at_ (h + 1) k))) := by
 refine zad (T := Tab) zaf Tab_ok Tryz.func119 rfl (by kernel_rfl) ?_
 have bad : ∀ e : Nat, zav (h + 1) k (b.drop at_) = .err e -> ∀ x : RV, Cv (.tu [.x (.slice none 0 0), .x (.slice none 0 0), x, I e]) (.tu (zfa b at_ (h + 1) k)) := λ e hx x => by
  unfold zfa
  rw [hx]
  exact Cv.tu (zk (Cv.nil 11) (zk (Cv.nil 2) (zk Cv.any (zn _))))
 have hnode := zakb hh hk
 have hleft := zdr (d := 16) (by omega) (show h + 1 <= 16 by omega) hk
 have hright := zda (d := 16) (by omega) (show h + 1 <= 16 by omega) hk
 have hk2 : 2 ^ (16 - h) = 2 * 2 ^ (16 - (h + 1)) := by rw [show 16 - h = (16 - (h + 1)) + 1 by omega, Nat.pow_succ]; omega
 cases hd : b.drop at_ with
 | nil =>
  have := zo1 hd
  refine zu (by simp only [zb]; omega) (zq ?_)
  exact ⟨_, rfl, bad 4 (by rw [hd]; simp only [zav]) _⟩
 | cons c s =>
  obtain ⟨hlt, hs, hat⟩ := zhv (a := at_) (j := 0) hd
  simp only [Nat.add_zero] at hlt hs hat
  have hcl := c.toNat_lt
  have hsl : s.length = b.length - (at_ + 1) := by rw [hs, List.length_drop]
  refine zw (by simp only [zb]; omega) (zt ?_)
  refine zm (by omega) (by omega) (zcz rfl hlt (hat hlt)) (zg rfl ?_)
  by_cases h1 : 1 < c.toNat
  ·refine zu (by simp only [zb]; omega) (zq ?_)
   exact ⟨_, rfl, bad 3 (by rw [hd]; simp only [zav]; rw [if_pos h1]) _⟩
  refine zw (by simp only [zb]; omega) (zt ?_)
  refine zm (by omega) (by omega) (zcz rfl hlt (hat hlt)) (zg rfl ?_)
  by_cases h0 : c.toNat = 0
  ·refine zu (by simp only [zb]; omega) (zq ?_)
   refine zd (m := ((b.length - at_ : Nat) : Int)) (by omega) (by omega) ?_
   refine zd (m := ((s.length : Nat) : Int)) (by omega) (by omega) ?_
   by_cases h32 : s.length < 32
   ·refine zu (by simp only [zb]; omega) (zq ?_)
    exact ⟨_, rfl, bad 4 (by rw [hd]; simp only [zav]; rw [if_neg h1, if_pos h0, if_pos h32]) _⟩
   refine zw (by simp only [zb]; omega) (zt ?_)
   refine Vdraw.mk' (by kernel_rfl) ?_
   refine zd (m := ((at_ + 1 : Nat) : Int)) (by omega) (by omega) ?_
   refine zd (m := ((at_ + 33 : Nat) : Int)) (by omega) (by omega) ?_
   refine ⟨by omega, by omega, by omega, 32, (s.take 32).map U8, by omega, ?_, ?_⟩
   ·rw [hs, Int.toNat_natCast, Nat.mul_one, Nat.mul_one, <- List.map_drop, <- List.map_take]
   refine zx ?_
   refine zd (m := ((at_ + 33 : Nat) : Int)) (by omega) (by omega) ?_
   refine ⟨_, rfl, ?_⟩
   unfold zfa
   rw [hd]
   simp only [zav]
   rw [if_neg h1, if_pos h0, if_neg h32]
   have e1 : nxt b (s.drop 32) = ((at_ + 33 : Nat) : Int) := by unfold nxt; rw [List.length_drop]; omega
   have e2 : (s.take 32).length = 32 := by rw [List.length_take]; omega
   refine Cv.tu (zk (Cv.nil 11) (zk (zf ?_) (zk (zf (by simp only [e1])) (zn _))))
   simp [zoj, bs, e2, zbh, cellsOf, Stub.c]
  refine zw (by simp only [zb]; omega) (zt ?_)
  refine zd (m := ((at_ + 1 : Nat) : Int)) (by omega) (by omega) ?_
  have hT : zav (h + 1) k (b.drop at_) = match za4 s with
   | .err e => .err e
   | .ok n s => if n.kind.toNat = 1 then .err 3 else match zav h (2 * k) s with
     | .err e => .err e
     | .ok a s => match zav h (2 * k + 1) s with
      | .err e => .err e
      | .ok b s => .ok (a.1 ++ [⟨(nd (h + 1) k : Int), n⟩] ++ b.1, a.2 ++ b.2) s := by rw [hd]; simp only [zav]; rw [if_neg h1, if_neg h0]; try rfl
  cases hn : za4 s with
  | err e =>
   rw [hn] at hT
   have he := zhc hn
   refine ze (zrr (at_ := at_ + 1) hb (by omega) (by rw [<- hs]; exact hn)) ?_
   refine zu (by simp only [zb]; omega) (zq ?_)
   exact ⟨_, rfl, bad e hT _⟩
  | ok n r =>
   rw [hn] at hT
   simp only at hT
   obtain ⟨j, hr, hj⟩ := zdz hn
   rw [hs] at hr
   have hx1 : nxt b r = ((at_ + 1 + j : Nat) : Int) := zh4 hr (by omega)
   rw [List.drop_drop] at hr
   refine ze (zuq (at_ := at_ + 1) hb (by omega) (by rw [<- hs]; exact hn) hx1) ?_
   refine zw rfl (zt ?_)
   refine ⟨by decide, _, rfl, ?_⟩
   refine zw (by rw [zcr]; rfl) ?_
   refine ⟨by decide, _, rfl, ?_⟩
   refine zu (by rw [zcr]; rfl) ?_
   by_cases h2 : n.kind.toNat = 1
   ·rw [if_pos h2] at hT
    refine zu (by simp only [zb]; omega) (zq ?_)
    exact ⟨_, rfl, bad 3 hT _⟩
   rw [if_neg h2] at hT
   refine zw (by simp only [zb]; omega) (zt ?_)
   refine za rfl rfl ?_
   refine zx ?_
   refine ⟨by decide, _, rfl, ?_⟩
   refine zw (by rw [zcr]; rfl) (zt ?_)
   refine ze (zf2 _) ?_
   rw [hleft, hright]
   have g1 := ih (at_ + 1 + j) (2 * k) (by omega) (by omega)
   unfold zfa at g1
   rw [<- hr] at g1
   cases hA : zav h (2 * k) r with
   | err e =>
    rw [hA] at hT g1
    have he := zir _ _ hA
    refine ze g1 ?_
    refine zu (by simp only [zb]; omega) (zq ?_)
    exact ⟨_, rfl, bad e hT _⟩
   | ok x q =>
    rw [hA] at hT g1
    obtain ⟨i, hq, hi⟩ := z4b _ _ hA
    have lA := zj3 _ _ hA
    rw [hr] at hq hi lA
    rw [List.length_drop] at hi lA
    have hx2 : nxt b q = ((at_ + 1 + j + i : Nat) : Int) := zh4 hq (by omega)
    rw [List.drop_drop] at hq
    simp only [hx2] at g1
    refine ze g1 ?_
    refine zw rfl (zt ?_)
    have g2 := ih (at_ + 1 + j + i) (2 * k + 1) (by omega) (by omega)
    unfold zfa at g2
    rw [<- hq] at g2
    simp only at hT
    cases hB : zav h (2 * k + 1) q with
    | err e =>
     rw [hB] at hT g2
     have he := zir _ _ hB
     refine ze g2 ?_
     refine zu (by simp only [zb]; omega) (zq ?_)
     exact ⟨_, rfl, bad e hT _⟩
    | ok y z =>
     rw [hB] at hT g2
     simp only at hT
     have lB := zj3 _ _ hB
     rw [hq, List.length_drop] at lB
     refine ze g2 ?_
     refine zw rfl (zt ?_)
     obtain ⟨sp, hsp⟩ : ∃ sp : Spot, sp = ⟨(nd (h + 1) k : Int), n⟩ := ⟨_, rfl⟩
     rw [<- hsp] at hT
     refine zx ?_
     refine Vapp.mk' (j := x.1.length) (zs := x.1.flatMap Spot.c) (by simp only [maxLen]; omega) (by simp; omega) (by simp) (by simp) ?_
     refine Vapp.mk' (j := (x.1 ++ [sp]).length) (zs := (x.1 ++ [sp]).flatMap Spot.c) (by simp only [maxLen]; omega) (by simp; omega) (by simp) (by rw [List.flatMap_append, hsp]; exact congrArg (x.1.flatMap Spot.c ++ ·) (by simp [zbh, cellsOf])) ?_
     refine Vapp.mk' (j := (x.1 ++ [sp] ++ y.1).length) (zs := (x.1 ++ [sp] ++ y.1).flatMap Spot.c) (by simp only [maxLen, List.length_append, List.length_cons, List.length_nil]; omega) (by simp; omega) (by simp; omega) (by simp only [List.flatMap_append]) ?_
     refine zx ?_
     refine Vapp.mk' (j := x.2.length) (zs := x.2.flatMap Stub.c) (by simp only [maxLen]; omega) (by simp; omega) (by simp) (by simp) ?_
     refine Vapp.mk' (j := (x.2 ++ y.2).length) (zs := (x.2 ++ y.2).flatMap Stub.c) (by simp only [maxLen]; omega) (by simp; omega) (by simp) (by rw [List.flatMap_append]) ?_
     refine ⟨_, rfl, ?_⟩
     unfold zfa
     rw [hT]
     exact cr
theorem zw0 (b : List UInt8) (hb : b.length <= 100000000) : ∀ (h at_ k : Nat), h <= 16 -> at_ <= b.length -> k < 2 ^ (16 - h) -> zae Tryz.prog 119 [bs b, I at_, I (nd h k)] (.r (.tu (zfa b at_ h k)))
 | 0, at_, k, _, ha, hk => zu1 b at_ k hb ha (by simpa using hk)
 | h + 1, at_, k, hh, ha, hk => zx6 b h hh hb (λ at_ k ha hk => zw0 b hb h at_ k (by omega) ha hk) at_ k ha hk
end
end Go.Proofs.YtpdllgbfemnemaaGreat.Sx
