import Derived.Test.YtpdllgbfemnemaaGreatZKr
namespace Go.Proofs.YtpdllgbfemnemaaGreat.Sx
open Go.RowKit
def okR (n : Int) (x : Spot) : Bool := decide (0 <= x.at_) && (decide (x.at_ <= 2 * n - 2) && (x.node.right && (!(decide (x.at_.tmod 2 = 0) && decide (x.node.kind.toNat = 2)) && (!(decide (x.at_.tmod 2 = 1) && decide (x.node.kind.toNat = 1)) && x.node.par.late.all λ u => zar (2 * u) x.at_))))
def zat (O : List Spot) (n c : Int) : List Int × Bool := zas O n (lv c.toNat) (c.toNat / 2 ^ (lv c.toNat + 1))
def addK (all acc : List Int) (c : Int) : List Int := if 0 <= c /\ c ∉ all then acc ++ [c] else acc
def zem (all : List Int) (acc : List Int) (x : Int) : List Int := addK all (addK all acc (zba x)) (za6 x)
def ownL (s : Lean_) : List Int := 2 * s.own :: zbw (2 * s.own) s.leaves
def allL (s : Lean_) : List Int := ownL s ++ (zdh s true).flatMap λ c => (zat s.opn s.leaves c).1
def zii (s : Lean_) : List Int := (allL s).foldl (zem (allL s)) []
def zei (s : Lean_) : Bool :=
 zau s.leaves && (decide (0 <= s.own) && (decide (s.own < s.leaves) && (s.opn.all (okR s.leaves) && (s.shut.all (λ x => decide (x.hash.length = 32)) && ((ownL s).all (λ x => decide (x ∈ s.opn.map (·.at_))) && ((zdh s true).all (λ c => (zat s.opn s.leaves c).2) &&
  (zc2 s && (decide (s.opn.map (·.at_) = rise (allL s)) && decide (s.shut.map (·.at_) = rise (zii s))))))))))
theorem zxw (O : List Spot) (hO : O.length <= 1000000) (hOl : zf3 O) (n x : Int) (hx : za5 x = true) : zae Tryz.prog 48 [spots O, I x, I n] (.r (.tu [is (zat O n x).1, .b (zat O n x).2])) := by
 obtain ⟨h, k, hh, hk, e, e1, e2⟩ := zg2 hx
 unfold zat
 rw [e1] at e2 ⊢
 rw [e2]
 have := z8c O hO hOl n h k hh hk
 rw [<- e] at this
 exact this
theorem zme (O : List Spot) (hOl : zf3 O) (n x : Int) (hx : za5 x = true) : (zat O n x).1.length <= 190000000000 := by
 obtain ⟨h, k, hh, hk, e, e1, e2⟩ := zg2 hx
 unfold zat
 have := zhi O hOl n (lv x.toNat) (x.toNat / 2 ^ (lv x.toNat + 1))
 have := z0c (h := lv x.toNat) (by omega)
 omega
theorem z13 {O : List Spot} {x : Int} : ∀ (l : List Int) (a : List Int × Bool), (∀ z ∈ a.1, za5 z = true) -> ∀ z ∈ (l.foldl (zbm O x) a).1, za5 z = true := by
 intro l
 induction l with
 | nil => intro a h; exact h
 | cons y l ih =>
  intro a h
  refine ih _ ?_
  unfold zbm
  split
  ·rename_i hc
   intro z hz
   rcases List.mem_append.1 hz with hz | hz
   ·exact h z hz
   ·simp at hz; subst hz
    have := hc.2.1
    rw [zi5] at this
    exact this.1.1
  ·exact h
theorem zr8 {O : List Spot} {x n : Int} : ∀ (late : List Int) (a : List Int × Bool), (∀ z ∈ a.1, za5 z = true) -> ∀ z ∈ (zdp O x n late a).1, za5 z = true := by
 intro late
 induction late with
 | nil => intro a h; exact h
 | cons u late ih =>
  intro a h
  exact ih _ (z13 _ _ h)
theorem zk3 (O : List Spot) (n : Int) : ∀ (h k : Nat), h <= 16 -> k < 2 ^ (16 - h) -> ∀ z ∈ (zas O n h k).1, za5 z = true
 | 0, k, hh, hk => by
  unfold zas
  split
  ·simp
  ·exact zr8 _ _ (by intro z hz; simp at hz; subst hz; exact zew (d := 16) (by omega) hh hk)
 | h + 1, k, hh, hk => by
  have hk2 : 2 ^ (16 - h) = 2 * 2 ^ (16 - (h + 1)) := by rw [show 16 - h = (16 - (h + 1)) + 1 by omega, Nat.pow_succ]; omega
  have i1 := zk3 O n h (2 * k) (by omega) (by omega)
  have i2 := zk3 O n h (2 * k + 1) (by omega) (by omega)
  have i0 := zew (d := 16) (by omega) hh hk
  unfold zas
  split
  ·simp
  ·split
   ·intro z hz
    simp only [List.mem_append, List.mem_cons, List.not_mem_nil, or_false] at hz
    rcases hz with (rfl | hz) | hz
    ·exact i0
    ·exact i1 z hz
    ·exact i2 z hz
   ·exact zr8 _ _ (by intro z hz; simp at hz; subst hz; exact i0)
theorem zo6 (O : List Spot) (n x : Int) (hx : za5 x = true) : ∀ z ∈ (zat O n x).1, za5 z = true := by
 obtain ⟨h, k, hh, hk, e, e1, e2⟩ := zg2 hx
 unfold zat
 rw [e1] at e2 ⊢
 rw [e2]
 exact zk3 O n h k hh hk
theorem zpo {s : Lean_} (hf : zau s.leaves = true) (h0 : 0 <= s.own) (h1 : s.own < s.leaves) (b : Bool) : ∀ c ∈ zdh s b, za5 c = true := λ c hc =>
 zgj hf h0 h1 c (List.mem_filter.1 hc).1
theorem znx {s : Lean_} (hf : zau s.leaves = true) (h0 : 0 <= s.own) (h1 : s.own < s.leaves) : ∀ x ∈ ownL s, za5 x = true := by
 have hb := zd5 hf
 intro x hx
 rcases List.mem_cons.1 hx with rfl | hx
 ·rw [zcm]; omega
 ·have := zxa hx
  rw [zcm]; omega
theorem z4s {s : Lean_} (hf : zau s.leaves = true) (h0 : 0 <= s.own) (h1 : s.own < s.leaves) : ∀ x ∈ allL s, za5 x = true := by
 intro x hx
 rcases List.mem_append.1 hx with hx | hx
 ·exact znx hf h0 h1 x hx
 ·obtain ⟨c, hc, hx⟩ := List.mem_flatMap.1 hx
  exact zo6 _ _ c (zpo hf h0 h1 true c hc) x hx
theorem zwx (all acc : List Int) (c : Int) : (addK all acc c).length <= acc.length + 1 := by unfold addK; split <;> simp
theorem zzk {all acc : List Int} {c : Int} (h : ∀ x ∈ acc, 0 <= x) : ∀ x ∈ addK all acc c, 0 <= x := by
 unfold addK
 split
 ·rename_i hc
  intro x hx
  rcases List.mem_append.1 hx with hx | hx
  ·exact h x hx
  ·simp at hx; subst hx; exact hc.1
 ·exact h
theorem zpv {all : List Int} : ∀ (l acc : List Int), (∀ x ∈ acc, 0 <= x) -> (∀ x ∈ l.foldl (zem all) acc, 0 <= x) /\ (l.foldl (zem all) acc).length <= acc.length + 2 * l.length := by
 intro l
 induction l with
 | nil => intro acc h; exact ⟨h, by simp⟩
 | cons y l ih =>
  intro acc h
  have h1 := ih (zem all acc y) (zzk (zzk h))
  have h2 := zwx all (addK all acc (zba y)) (za6 y)
  have h3 := zwx all acc (zba y)
  refine ⟨h1.1, ?_⟩
  have := h1.2
  simp only [List.foldl_cons, List.length_cons, zem] at *
  omega
theorem zmx {f : Int -> List Int} {b : Nat} : ∀ (l : List Int), (∀ x ∈ l, (f x).length <= b) -> (l.flatMap f).length <= b * l.length
 | [], _ => by simp
 | x :: l, h => by
  have h1 := h x (by simp)
  have h2 := zmx l λ y hy => h y (by simp [hy])
  simp only [List.flatMap_cons, List.length_append, List.length_cons, Nat.mul_add]
  omega
theorem zuv {f : Int -> List Int} {l : List Int} {j : Nat} (hj : j < l.length) : (l.take (j + 1)).flatMap f = (l.take j).flatMap f ++ f l[j] := by
 rw [List.take_add_one, List.getElem?_eq_getElem hj, List.flatMap_append]; simp
theorem z00 (s : Lean_) (b : Bool) : (zdh s b).length <= 17 := by
 have h1 := List.length_filter_le (λ c => (zaj s.opn c).isSome == b) (zbb (2 * s.own) s.leaves)
 have h2 := zgn (2 * s.own) s.leaves
 have h3 := zeq (2 * s.own) s.leaves
 unfold zdh
 omega
theorem zzm {all : List Int} : ∀ (l acc : List Int), (∀ x ∈ acc, -1 <= x /\ x <= 1000000) -> (∀ x ∈ l, za5 x = true) -> ∀ x ∈ l.foldl (zem all) acc, -1 <= x /\ x <= 1000000 := by
 have one : ∀ (acc : List Int) (c : Int), (∀ x ∈ acc, -1 <= x /\ x <= 1000000) -> c <= 1000000 -> ∀ x ∈ addK all acc c, -1 <= x /\ x <= 1000000 := by
  intro acc c h hc
  unfold addK
  split
  ·intro x hx
   rcases List.mem_append.1 hx with hx | hx
   ·exact h x hx
   ·simp at hx; subst hx; omega
  ·exact h
 intro l
 induction l with
 | nil => intro acc h _; exact h
 | cons y l ih =>
  intro acc h hn
  have hy := hn y (by simp)
  have hb := zqj y
  rw [zcm] at hy
  refine ih _ (one _ _ (one _ _ h ?_) ?_) λ x hx => hn x (by simp [hx])
  ·unfold zba; split <;> omega
  ·unfold za6; split <;> omega
theorem z3r (s : Lean_) (hs : s.fitN) (hOl : ∀ x ∈ s.opn, x.node.par.late.length <= 1000) (hst : ∀ x ∈ s.shut, i64 x.at_) : zae Tryz.prog 11 [.ag s.c] (.r (.b (zei s))) := by
 refine zad (T := Tab) zaf Tab_ok Tryz.func11 rfl (by kernel_rfl) ?_
 obtain ⟨hs1, hs2, hs3, hs4⟩ := id hs
 refine Vcall.bool (zqd s.leaves) (λ hf => zw rfl ?_) (λ hf => zu rfl (zq ?_))
 rotate_left
 ·exact zf (by simp [zei, hf, ofC])
 have hn := zd5 hf
 refine zh (λ h0 => zq ?_) (λ h0 => ?_)
 ·simp only [zb] at h0
  refine zf (congrArg RV.b (Eq.symm ?_))
  have : ¬ 0 <= s.own := by omega
  simp [zei, this]
 simp only [zb] at h0
 have h0' : 0 <= s.own := by omega
 refine zh (λ h1 => zq ?_) (λ h1 => zt ?_)
 ·simp only [zb] at h1
  refine zf (congrArg RV.b (Eq.symm ?_))
  have : ¬ s.own < s.leaves := by omega
  simp [zei, this]
 simp only [zb] at h1
 have h1' : s.own < s.leaves := by omega
 have hR : zei s = (s.opn.all (okR s.leaves) && (s.shut.all (λ x => decide (x.hash.length = 32)) && ((ownL s).all (λ x => decide (x ∈ s.opn.map (·.at_))) && ((zdh s true).all (λ c => (zat s.opn s.leaves c).2) &&
  (zc2 s && (decide (s.opn.map (·.at_) = rise (allL s)) && decide (s.shut.map (·.at_) = rise (zii s)))))))) := by simp [zei, hf, h0', h1']
 refine zy (λ i : Nat => { F := [(1, .own 0), (3, .own 1), (4, .r (I i))], O := [(0, some (.box (s.c.map .r))), (1, some (.ch 3 1 ((s.opn.take i).map (·.at_)).length (((s.opn.take i).map (·.at_)).map I) true))], nx := 2 })
  (λ i => i <= s.opn.length /\ ∀ x ∈ s.opn.take i, okR s.leaves x = true) (λ i => s.opn.length - i) 0 ⟨by omega, by simp⟩
  ((zc1 3 3 1 rfl).trans (zac [(0, 0), (1, 1)] rfl ⟨rfl, rfl, cr, trivial⟩ ⟨zab _, ⟨rfl, rfl, rfl, rfl, zn _⟩, trivial⟩)) ?_
 rintro i ⟨hi, hok⟩
 refine zh (λ h2 => zq ?_) (λ h2 => zt ?_)
 ·simp only [zb] at h2
  have hi' : i < s.opn.length := by omega
  obtain ⟨sp, hsp⟩ : ∃ sp, sp = s.opn[i] := ⟨_, rfl⟩
  have hmem : sp ∈ s.opn := hsp ▸ List.getElem_mem hi'
  have bad : okR s.leaves sp = false -> zei s = false := λ h => by rw [hR, zcd hmem h]; rfl
  refine Vdraw.mk' (by kernel_rfl) ?_
  refine zm (by omega) (by omega) (zdt rfl hi') (zg rfl ?_)
  refine zm (by omega) (by omega) (zdt rfl hi') ?_
  refine za rfl rfl ?_
  rw [<- hsp]
  refine zh (λ h3 => zq ?_) (λ h3 => ?_)
  ·simp only [zb] at h3
   refine zf (congrArg RV.b (Eq.symm (bad ?_)))
   have : ¬ 0 <= sp.at_ := by omega
   simp [okR, this]
  simp only [zb] at h3
  have h3' : 0 <= sp.at_ := by omega
  refine zd rfl (by omega) ?_
  refine zd rfl (by omega) ?_
  refine zh (λ h4 => zq ?_) (λ h4 => ?_)
  ·simp only [zb] at h4
   refine zf (congrArg RV.b (Eq.symm (bad ?_)))
   have : ¬ sp.at_ <= 2 * s.leaves - 2 := by omega
   simp [okR, this]
  simp only [zb] at h4
  have h4' : sp.at_ <= 2 * s.leaves - 2 := by omega
  refine za rfl rfl ?_
  refine Vcall.bool (zut sp.node (hs3 sp hmem)) (λ hr16 => zw rfl ?_) (λ hr16 => zu rfl (zq ?_))
  rotate_left
  ·refine zf (congrArg RV.b (Eq.symm (bad ?_)))
   simp [okR, hr16]
  have hlateD := Node.right_late hr16
  have hll := hOl sp hmem
  have hmod : sp.at_.tmod 2 = 0 \/ sp.at_.tmod 2 = 1 := by rw [Int.tmod_eq_emod_of_nonneg h3']; omega
  refine ⟨by decide, _, rfl, ?_⟩
  refine zh (λ h5 => ?_) (λ h5 => ?_)
  ·simp only [zb] at h5
   refine zh (λ h6 => zq ?_) (λ h6 => ?_)
   ·simp only [zb] at h6
    refine zf (congrArg RV.b (Eq.symm (bad ?_)))
    have : sp.node.kind.toNat = 2 := by omega
    simp [okR, h5, this]
   simp only [zb] at h6
   refine ⟨by decide, _, rfl, ?_⟩
   refine zw (by simp only [zb]; omega) (zt ?_)
   refine zy (λ k : Nat => { F := [(1, .own 0), (3, .own 1), (4, .r (I i)), (5, .r (I sp.at_)), (6, .own 2), (7, .r (I k))], O := [(0, some (.box (s.c.map .r))), (1, some (.ch 3 1 ((s.opn.take i).map (·.at_)).length (((s.opn.take i).map (·.at_)).map I) true)), (2, some (.box (sp.node.c.map .r)))], nx := 3 })
    (λ k => k <= sp.node.par.late.length /\ ∀ u ∈ sp.node.par.late.take k, zar (2 * u) sp.at_ = true) (λ k => sp.node.par.late.length - k) 0 ⟨by omega, by simp⟩
    (zac [(0, 0), (1, 1), (2, 2)] rfl ⟨rfl, rfl, cr, zf (by rw [hsp]), rfl, cr, trivial⟩ ⟨zab _, zao rfl, (by rw [hsp]; exact zab s.opn[i].node.c), trivial⟩) ?_
   rintro k ⟨hk, hun⟩
   refine zh (λ h8 => zq ?_) (λ h8 => zt ?_)
   ·simp only [zb] at h8
    have hk' : k < sp.node.par.late.length := by omega
    have hu := hlateD _ (List.getElem_mem hk')
    unfold zax at hu
    refine zm (by omega) (by omega) (zah rfl hk') (zg rfl ?_)
    refine zd rfl (by omega) ?_
    refine Vcall.bool (zg3 _ _) (λ h9 => zw rfl (zt ?_)) (λ h9 => zu rfl (zq ?_))
    ·refine zd (m := ((k + 1 : Nat) : Int)) (by omega) (by omega) ?_
     exact ⟨k + 1, ⟨hk', zbr (p := λ u => zar (2 * u) sp.at_ = true) hk' hun h9⟩, by omega, zac [(0, 0), (1, 1), (2, 2)] rfl ⟨rfl, rfl, cr, cr, rfl, cr, trivial⟩ ⟨zab _, zao rfl, zab sp.node.c, trivial⟩⟩
    ·refine zf (congrArg RV.b (Eq.symm (bad ?_)))
     have : sp.node.par.late.all (λ u => zar (2 * u) sp.at_) = false := zcd (List.getElem_mem hk') h9
     simp [okR, this]
   simp only [zb] at h8
   rw [List.take_of_length_le (by omega)] at hun
   have hall : sp.node.par.late.all (λ u => zar (2 * u) sp.at_) = true := by rw [List.all_eq_true]; exact hun
   have hok2 : okR s.leaves sp = true := by
    simp only [okR, hall, hr16, zb, Bool.and_eq_true, Bool.and_true, Bool.true_and, Bool.and_eq_false_iff]
    exact ⟨h3', h4', by omega, by omega⟩
   refine zx ?_
   refine Vapp.mk' (j := ((s.opn.take (i + 1)).map (·.at_)).length) (zs := ((s.opn.take (i + 1)).map (·.at_)).map I) (by simp [maxLen]; omega) (by simp; omega) (by simp; omega) (by rw [List.take_add_one, List.getElem?_eq_getElem hi', <- hsp]; simp [zbh, cellsOf]) ?_
   refine zd (m := ((i + 1 : Nat) : Int)) (by omega) (by omega) ?_
   exact ⟨i + 1, ⟨hi', zbr (p := λ x => okR s.leaves x = true) hi' hok (by rw [<- hsp]; exact hok2)⟩, by omega, zac [(0, 0), (1, _)] rfl ⟨rfl, rfl, cr, trivial⟩ ⟨zab _, zao rfl, trivial⟩⟩
  ·simp only [zb] at h5
   refine ⟨by decide, _, rfl, ?_⟩
   have h5' : sp.at_.tmod 2 = 1 := by omega
   refine zu (by simp only [zb]; omega) ?_
   refine zh (λ h6 => zq ?_) (λ h6 => zt ?_)
   ·simp only [zb] at h6
    refine zf (congrArg RV.b (Eq.symm (bad ?_)))
    have : sp.node.kind.toNat = 1 := by omega
    simp [okR, h5', this]
   simp only [zb] at h6
   refine zy (λ k : Nat => { F := [(1, .own 0), (3, .own 1), (4, .r (I i)), (5, .r (I sp.at_)), (6, .own 2), (7, .r (I k))], O := [(0, some (.box (s.c.map .r))), (1, some (.ch 3 1 ((s.opn.take i).map (·.at_)).length (((s.opn.take i).map (·.at_)).map I) true)), (2, some (.box (sp.node.c.map .r)))], nx := 3 })
    (λ k => k <= sp.node.par.late.length /\ ∀ u ∈ sp.node.par.late.take k, zar (2 * u) sp.at_ = true) (λ k => sp.node.par.late.length - k) 0 ⟨by omega, by simp⟩
    (zac [(0, 0), (1, 1), (2, 2)] rfl ⟨rfl, rfl, cr, zf (by rw [hsp]), rfl, cr, trivial⟩ ⟨zab _, zao rfl, (by rw [hsp]; exact zab s.opn[i].node.c), trivial⟩) ?_
   rintro k ⟨hk, hun⟩
   refine zh (λ h8 => zq ?_) (λ h8 => zt ?_)
   ·simp only [zb] at h8
    have hk' : k < sp.node.par.late.length := by omega
    have hu := hlateD _ (List.getElem_mem hk')
    unfold zax at hu
    refine zm (by omega) (by omega) (zah rfl hk') (zg rfl ?_)
    refine zd rfl (by omega) ?_
    refine Vcall.bool (zg3 _ _) (λ h9 => zw rfl (zt ?_)) (λ h9 => zu rfl (zq ?_))
    ·refine zd (m := ((k + 1 : Nat) : Int)) (by omega) (by omega) ?_
     exact ⟨k + 1, ⟨hk', zbr (p := λ u => zar (2 * u) sp.at_ = true) hk' hun h9⟩, by omega, zac [(0, 0), (1, 1), (2, 2)] rfl ⟨rfl, rfl, cr, cr, rfl, cr, trivial⟩ ⟨zab _, zao rfl, zab sp.node.c, trivial⟩⟩
    ·refine zf (congrArg RV.b (Eq.symm (bad ?_)))
     have : sp.node.par.late.all (λ u => zar (2 * u) sp.at_) = false := zcd (List.getElem_mem hk') h9
     simp [okR, this]
   simp only [zb] at h8
   rw [List.take_of_length_le (by omega)] at hun
   have hall : sp.node.par.late.all (λ u => zar (2 * u) sp.at_) = true := by rw [List.all_eq_true]; exact hun
   have hok2 : okR s.leaves sp = true := by
    simp only [okR, hall, hr16, zb, Bool.and_eq_true, Bool.and_true, Bool.true_and, Bool.and_eq_false_iff]
    exact ⟨h3', h4', by omega, by omega⟩
   refine zx ?_
   refine Vapp.mk' (j := ((s.opn.take (i + 1)).map (·.at_)).length) (zs := ((s.opn.take (i + 1)).map (·.at_)).map I) (by simp [maxLen]; omega) (by simp; omega) (by simp; omega) (by rw [List.take_add_one, List.getElem?_eq_getElem hi', <- hsp]; simp [zbh, cellsOf]) ?_
   refine zd (m := ((i + 1 : Nat) : Int)) (by omega) (by omega) ?_
   exact ⟨i + 1, ⟨hi', zbr (p := λ x => okR s.leaves x = true) hi' hok (by rw [<- hsp]; exact hok2)⟩, by omega, zac [(0, 0), (1, _)] rfl ⟨rfl, rfl, cr, trivial⟩ ⟨zab _, zao rfl, trivial⟩⟩
 simp only [zb] at h2
 rw [List.take_of_length_le (by omega)] at hok
 rw [List.take_of_length_le (by omega)]
 have hallO : s.opn.all (okR s.leaves) = true := by rw [List.all_eq_true]; exact hok
 have hlateOk : zf3 s.opn := λ x hx => ⟨Nat.le_trans (hOl x hx) (by decide), by
  have := hok x hx
  simp only [okR, Bool.and_eq_true] at this
  exact Node.right_late this.2.2.1⟩
 have hA64 : ∀ x ∈ s.opn.map (·.at_), i64 x := λ x hx => by
  obtain ⟨y, hy, rfl⟩ := List.mem_map.1 hx
  have := hok y hy
  simp only [okR, Bool.and_eq_true, decide_eq_true_eq] at this
  unfold i64
  omega
 obtain ⟨A, hA⟩ : ∃ A, A = s.opn.map (·.at_) := ⟨_, rfl⟩
 have hAl : A.length = s.opn.length := by rw [hA, List.length_map]
 rw [<- hA] at hR hA64 ⊢
 rw [hallO, Bool.true_and] at hR
 refine zy (λ i : Nat => { F := [(1, .own 0), (3, .r (is A)), (8, .own 1), (9, .r (I i))], O := [(0, some (.box (s.c.map .r))), (1, some (.ch 3 1 ((s.shut.take i).map (·.at_)).length (((s.shut.take i).map (·.at_)).map I) true))], nx := 2 })
  (λ i => i <= s.shut.length /\ ∀ x ∈ s.shut.take i, x.hash.length = 32) (λ i => s.shut.length - i) 0 ⟨by omega, by simp⟩
  ((zc1 8 3 1 rfl).trans (zac [(0, 0), (1, 2)] rfl ⟨rfl, cr, rfl, cr, trivial⟩ ⟨zab _, ⟨rfl, rfl, rfl, rfl, zn _⟩, trivial⟩)) ?_
 rintro i2 ⟨hi2, hok2⟩
 refine zh (λ h3 => zq ?_) (λ h3 => zt ?_)
 ·simp only [zb] at h3
  have hi' : i2 < s.shut.length := by omega
  refine zm (by omega) (by omega) (zd7 rfl hi') (zg rfl ?_)
  refine zh (λ h4 => zq ?_) (λ h4 => zt ?_)
  ·simp only [zb] at h4
   refine zf (congrArg RV.b (Eq.symm ?_))
   rw [hR, zcd (List.getElem_mem hi') (by simp only [decide_eq_false_iff_not]; omega)]
   rfl
  ·simp only [zb] at h4
   refine zm (by omega) (by omega) (zd7 rfl hi') (zg rfl ?_)
   refine zx ?_
   refine Vapp.mk' (j := ((s.shut.take (i2 + 1)).map (·.at_)).length) (zs := ((s.shut.take (i2 + 1)).map (·.at_)).map I) (by simp [maxLen]; omega) (by simp; omega) (by simp; omega) (by rw [List.take_add_one, List.getElem?_eq_getElem hi', List.map_append, List.map_append]; rfl) ?_
   refine zd (m := ((i2 + 1 : Nat) : Int)) (by omega) (by omega) ?_
   exact ⟨i2 + 1, ⟨hi', zbr (p := λ x => x.hash.length = 32) hi' hok2 (by omega)⟩, by omega, zac [(0, 0), (1, _)] rfl ⟨rfl, cr, rfl, cr, trivial⟩ ⟨zab _, zao rfl, trivial⟩⟩
 simp only [zb] at h3
 rw [List.take_of_length_le (by omega)] at hok2
 rw [List.take_of_length_le (by omega)]
 have hallS : s.shut.all (λ x => decide (x.hash.length = 32)) = true := by rw [List.all_eq_true]; intro x hx; exact decide_eq_true (hok2 x hx)
 obtain ⟨ST, hST⟩ : ∃ ST, ST = s.shut.map (·.at_) := ⟨_, rfl⟩
 have hST64 : ∀ x ∈ ST, i64 x := λ x hx => by
  rw [hST] at hx
  obtain ⟨y, hy, rfl⟩ := List.mem_map.1 hx
  exact hst y hy
 rw [<- hST] at hR ⊢
 rw [hallS, Bool.true_and] at hR
 refine Vdraw.mk' (by kernel_rfl) ?_
 refine zd rfl (by omega) ?_
 refine zx ?_
 refine zd rfl (by omega) ?_
 refine ze (zmp _ _) ?_
 have hpl := zeq (2 * s.own) s.leaves
 obtain ⟨P, hP⟩ : ∃ P, P = ownL s := ⟨_, rfl⟩
 have hPl : P.length <= 18 := by rw [hP]; simp only [ownL, List.length_cons]; omega
 have hPn : ∀ x ∈ P, za5 x = true := by rw [hP]; exact znx hf h0' h1'
 rw [<- hP] at hR
 refine Vapp.mk' (j := P.length) (zs := P.map I) (by simp [maxLen]; omega) (by simp; omega) (by rw [hP]; simp [ownL]; omega) (by rw [hP]; rfl) ?_
 refine zx ?_
 refine Vapp.mk' (j := P.length) (zs := P.map I) (by simp [maxLen]; omega) (by simp; omega) (by simp) (by rfl) ?_
 refine zy (λ i : Nat => { F := [(1, .own 0), (3, .r (is A)), (8, .r (is ST)), (10, .r (is P)), (11, .own 1), (12, .r (I i))], O := [(0, some (.box (s.c.map .r))), (1, some (.ch 3 1 P.length (P.map I) true))], nx := 2 })
  (λ i => i <= P.length /\ ∀ x ∈ P.take i, x ∈ A) (λ i => P.length - i) 0 ⟨by omega, by simp⟩
  (zac [(0, 0), (1, _)] rfl ⟨rfl, cr, cr, cr, rfl, cr, trivial⟩ ⟨zab _, zao rfl, trivial⟩) ?_
 rintro i3 ⟨hi3, hok3⟩
 refine zh (λ h4 => zq ?_) (λ h4 => zt ?_)
 ·simp only [zb] at h4
  have hi' : i3 < P.length := by omega
  refine zm (by omega) (by omega) (zah rfl hi') (zg rfl ?_)
  refine Vcall.bool (zjg A _ (by omega)) (λ h5 => zw rfl (zt ?_)) (λ h5 => zu rfl (zq ?_))
  ·simp only [zb] at h5
   refine zd (m := ((i3 + 1 : Nat) : Int)) (by omega) (by omega) ?_
   exact ⟨i3 + 1, ⟨hi', zbr (p := λ x => x ∈ A) hi' hok3 h5⟩, by omega, zac [(0, 0), (1, 1)] rfl ⟨rfl, cr, cr, cr, rfl, cr, trivial⟩ ⟨zab _, zao rfl, trivial⟩⟩
  ·refine zf (congrArg RV.b (Eq.symm ?_))
   rw [hR, zcd (List.getElem_mem hi') h5]
   rfl
 simp only [zb] at h4
 rw [List.take_of_length_le (by omega)] at hok3
 have hallP : P.all (λ x => decide (x ∈ A)) = true := by rw [List.all_eq_true]; intro x hx; exact decide_eq_true (hok3 x hx)
 rw [hallP, Bool.true_and] at hR
 refine za rfl rfl ?_
 refine ze (z0v s true (by omega) (by omega)) ?_
 obtain ⟨C, hC⟩ : ∃ C, C = zdh s true := ⟨_, rfl⟩
 have hCl : C.length <= 17 := hC ▸ z00 s true
 have hCn : ∀ c ∈ C, za5 c = true := hC ▸ zpo hf h0' h1' true
 rw [<- hC] at hR ⊢
 have hWl : ∀ c ∈ C, (zat s.opn s.leaves c).1.length <= 190000000000 := λ c hc => zme _ hlateOk _ _ (hCn c hc)
 refine zy (λ i : Nat => { F := [(1, .own 0), (3, .r (is A)), (8, .r (is ST)), (11, .own 1), (13, .r (is C)), (14, .r (I i))], O := [(0, some (.box (s.c.map .r))), (1, some (.ch 3 1 (P ++ (C.take i).flatMap λ c => (zat s.opn s.leaves c).1).length ((P ++ (C.take i).flatMap λ c => (zat s.opn s.leaves c).1).map I) true))], nx := 2 })
  (λ i => i <= C.length /\ ∀ c ∈ C.take i, (zat s.opn s.leaves c).2 = true) (λ i => C.length - i) 0 ⟨by omega, by simp⟩
  (zac [(0, 0), (1, 1)] rfl ⟨rfl, cr, cr, rfl, cr, cr, trivial⟩ ⟨zab _, zao (by simp), trivial⟩) ?_
 rintro i4 ⟨hi4, hok4⟩
 have hfl4 := zmx (f := λ c => (zat s.opn s.leaves c).1) (b := 190000000000) (C.take i4) λ c hc => hWl c (List.mem_of_mem_take hc)
 have htl4 : (C.take i4).length <= 17 := by rw [List.length_take]; omega
 refine zh (λ h5 => zq ?_) (λ h5 => zt ?_)
 ·simp only [zb] at h5
  have hi' : i4 < C.length := by omega
  have hcn := hCn _ (List.getElem_mem hi')
  have hw := hWl _ (List.getElem_mem hi')
  have hsn := zuv (f := λ c => (zat s.opn s.leaves c).1) hi'
  refine Vdraw.mk' (by kernel_rfl) ?_
  refine zm (by omega) (by omega) (zah rfl hi') (zg rfl ?_)
  refine ze (zxw s.opn hs1 hlateOk s.leaves _ hcn) ?_
  cases hb : (zat s.opn s.leaves C[i4]).2 with
  | false =>
   refine zu rfl (zq ?_)
   refine zf (congrArg RV.b (Eq.symm ?_))
   rw [hR, zcd (List.getElem_mem hi') hb]
   rfl
  | true =>
   refine zw rfl (zt ?_)
   refine Vapp.mk' (j := (P ++ (C.take (i4 + 1)).flatMap λ c => (zat s.opn s.leaves c).1).length) (zs := (P ++ (C.take (i4 + 1)).flatMap λ c => (zat s.opn s.leaves c).1).map I) (by simp only [maxLen, List.length_append]; omega) (by simp only [List.length_append]; omega) (by rw [hsn]; simp only [List.length_append]; omega) (by rw [hsn, List.map_append, List.map_append, List.map_append, List.append_assoc]) ?_
   refine zd (m := ((i4 + 1 : Nat) : Int)) (by omega) (by omega) ?_
   exact ⟨i4 + 1, ⟨hi', zbr (p := λ c => (zat s.opn s.leaves c).2 = true) hi' hok4 hb⟩, by omega, zac [(0, 0), (1, _)] rfl ⟨rfl, cr, cr, rfl, cr, cr, trivial⟩ ⟨zab _, zao rfl, trivial⟩⟩
 simp only [zb] at h5
 rw [List.take_of_length_le (by omega)] at hok4 hfl4
 rw [List.take_of_length_le (by omega)]
 have hallC : C.all (λ c => (zat s.opn s.leaves c).2) = true := by rw [List.all_eq_true]; exact hok4
 rw [hallC, Bool.true_and] at hR
 obtain ⟨L, hL⟩ : ∃ L, L = allL s := ⟨_, rfl⟩
 have hLe : P ++ (C.flatMap λ c => (zat s.opn s.leaves c).1) = L := by rw [hL, hP, hC]; rfl
 have hLn : ∀ x ∈ L, za5 x = true := hL ▸ z4s hf h0' h1'
 have hLl : L.length <= 3300000000000 := by rw [<- hLe, List.length_append]; omega
 obtain ⟨SH, hSH⟩ : ∃ SH, SH = zii s := ⟨_, rfl⟩
 have hSHe : L.foldl (zem L) [] = SH := by rw [hSH, hL]; rfl
 rw [hLe]
 rw [<- hL, <- hSH] at hR
 refine zy (λ i : Nat × List Int => { F := [(1, .own 0), (3, .r (is A)), (8, .r (is ST)), (11, .r (is L)), (17, .own 1), (18, .r (I i.1))], O := [(0, some (.box (s.c.map .r))), (1, some (.ch 3 1 i.2.length (i.2.map I) true))], nx := 2 })
  (λ i => i.1 <= L.length /\ (L.take i.1).foldl (zem L) [] = i.2) (λ i => L.length - i.1) (0, []) ⟨by simp, rfl⟩
  ((zc1 17 3 1 rfl).trans (zac [(0, 0), (1, 2)] rfl ⟨rfl, cr, cr, cr, rfl, cr, trivial⟩ ⟨zab _, ⟨rfl, rfl, rfl, rfl, zn _⟩, trivial⟩)) ?_
 rintro ⟨i5, acc⟩ ⟨hi5, hacc⟩
 simp only at hi5 hacc
 refine zh (λ h6 => zq ?_) (λ h6 => zt ?_)
 ·simp only [zb] at h6
  have hi' : i5 < L.length := by omega
  have hinv := zpv (all := L) (L.take i5) [] (by simp)
  rw [hacc] at hinv
  have htl : (L.take i5).length <= L.length := by rw [List.length_take]; omega
  have hal : acc.length <= 6600000000000 := by have := hinv.2; simp at this; omega
  have hsn := zet (f := zem L) (b := []) hi'
  rw [hacc] at hsn
  obtain ⟨x, hx⟩ : ∃ x, x = L[i5] := ⟨_, rfl⟩
  rw [<- hx] at hsn
  refine zm (by omega) (by omega) (zah rfl hi') (zg rfl ?_)
  rw [<- hx]
  refine ze (zf2 x) ?_
  obtain ⟨a, ha⟩ : ∃ a, a = zba x := ⟨_, rfl⟩
  obtain ⟨b, hb⟩ : ∃ b, b = za6 x := ⟨_, rfl⟩
  have hsn2 : (L.take (i5 + 1)).foldl (zem L) [] = addK L (addK L acc a) b := by rw [hsn, ha, hb]; rfl
  rw [<- ha, <- hb]
  refine zh (λ h7 => ?_) (λ h7 => zt ?_)
  ·simp only [zb] at h7
   refine Vcall.bool (zjg L a (by omega)) (λ h8 => zw rfl (zt ?_)) (λ h8 => zu rfl (zq ?_))
   ·simp only [zb] at h8
    have e1 : addK L acc a = acc := by unfold addK; rw [if_neg (λ h => h.2 h8)]
    rw [e1] at hsn2
    refine zh (λ h9 => ?_) (λ h9 => zt ?_)
    ·simp only [zb] at h9
     refine Vcall.bool (zjg L b (by omega)) (λ h10 => zw rfl (zt ?_)) (λ h10 => zu rfl (zq ?_))
     ·simp only [zb] at h10
      have e2 : addK L (acc) b = acc := by unfold addK; rw [if_neg (λ h => h.2 h10)]
      rw [e2] at hsn2
      refine zd (m := ((i5 + 1 : Nat) : Int)) (by omega) (by omega) ?_
      exact ⟨(i5 + 1, acc), ⟨hi', hsn2⟩, by simp only; omega, zac [(0, 0), (1, _)] rfl ⟨rfl, cr, cr, cr, rfl, cr, trivial⟩ ⟨zab _, zao rfl, trivial⟩⟩
     ·simp only [zb] at h10
      have e2 : addK L (acc) b = acc ++ [b] := by unfold addK; rw [if_pos ⟨by omega, h10⟩]
      rw [e2] at hsn2
      refine zx ?_
      refine Vapp.mk' (j := (acc ++ [b]).length) (zs := (acc ++ [b]).map I) (by simp [maxLen]; omega) (by simp; omega) (by simp) (by simp [zbh, cellsOf]) ?_
      refine zd (m := ((i5 + 1 : Nat) : Int)) (by omega) (by omega) ?_
      exact ⟨(i5 + 1, acc ++ [b]), ⟨hi', hsn2⟩, by simp only; omega, zac [(0, 0), (1, _)] rfl ⟨rfl, cr, cr, cr, rfl, cr, trivial⟩ ⟨zab _, zao rfl, trivial⟩⟩
    ·simp only [zb] at h9
     have e2 : addK L (acc) b = acc := by unfold addK; rw [if_neg (λ h => by omega)]
     rw [e2] at hsn2
     refine zd (m := ((i5 + 1 : Nat) : Int)) (by omega) (by omega) ?_
     exact ⟨(i5 + 1, acc), ⟨hi', hsn2⟩, by simp only; omega, zac [(0, 0), (1, _)] rfl ⟨rfl, cr, cr, cr, rfl, cr, trivial⟩ ⟨zab _, zao rfl, trivial⟩⟩
   ·simp only [zb] at h8
    have e1 : addK L acc a = acc ++ [a] := by unfold addK; rw [if_pos ⟨by omega, h8⟩]
    rw [e1] at hsn2
    refine zx ?_
    refine Vapp.mk' (j := (acc ++ [a]).length) (zs := (acc ++ [a]).map I) (by simp only [maxLen]; omega) (by simp; omega) (by simp) (by simp [zbh, cellsOf]) ?_
    refine zh (λ h9 => ?_) (λ h9 => zt ?_)
    ·simp only [zb] at h9
     refine Vcall.bool (zjg L b (by omega)) (λ h10 => zw rfl (zt ?_)) (λ h10 => zu rfl (zq ?_))
     ·simp only [zb] at h10
      have e2 : addK L (acc ++ [a]) b = acc ++ [a] := by unfold addK; rw [if_neg (λ h => h.2 h10)]
      rw [e2] at hsn2
      refine zd (m := ((i5 + 1 : Nat) : Int)) (by omega) (by omega) ?_
      exact ⟨(i5 + 1, acc ++ [a]), ⟨hi', hsn2⟩, by simp only; omega, zac [(0, 0), (1, _)] rfl ⟨rfl, cr, cr, cr, rfl, cr, trivial⟩ ⟨zab _, zao rfl, trivial⟩⟩
     ·simp only [zb] at h10
      have e2 : addK L (acc ++ [a]) b = acc ++ [a] ++ [b] := by unfold addK; rw [if_pos ⟨by omega, h10⟩]
      rw [e2] at hsn2
      refine zx ?_
      refine Vapp.mk' (j := (acc ++ [a] ++ [b]).length) (zs := (acc ++ [a] ++ [b]).map I) (by simp [maxLen]; omega) (by simp; omega) (by simp) (by simp [zbh, cellsOf]) ?_
      refine zd (m := ((i5 + 1 : Nat) : Int)) (by omega) (by omega) ?_
      exact ⟨(i5 + 1, acc ++ [a] ++ [b]), ⟨hi', hsn2⟩, by simp only; omega, zac [(0, 0), (1, _)] rfl ⟨rfl, cr, cr, cr, rfl, cr, trivial⟩ ⟨zab _, zao rfl, trivial⟩⟩
    ·simp only [zb] at h9
     have e2 : addK L (acc ++ [a]) b = acc ++ [a] := by unfold addK; rw [if_neg (λ h => by omega)]
     rw [e2] at hsn2
     refine zd (m := ((i5 + 1 : Nat) : Int)) (by omega) (by omega) ?_
     exact ⟨(i5 + 1, acc ++ [a]), ⟨hi', hsn2⟩, by simp only; omega, zac [(0, 0), (1, _)] rfl ⟨rfl, cr, cr, cr, rfl, cr, trivial⟩ ⟨zab _, zao rfl, trivial⟩⟩
  ·simp only [zb] at h7
   have e1 : addK L acc a = acc := by unfold addK; rw [if_neg (λ h => by omega)]
   rw [e1] at hsn2
   refine zh (λ h9 => ?_) (λ h9 => zt ?_)
   ·simp only [zb] at h9
    refine Vcall.bool (zjg L b (by omega)) (λ h10 => zw rfl (zt ?_)) (λ h10 => zu rfl (zq ?_))
    ·simp only [zb] at h10
     have e2 : addK L (acc) b = acc := by unfold addK; rw [if_neg (λ h => h.2 h10)]
     rw [e2] at hsn2
     refine zd (m := ((i5 + 1 : Nat) : Int)) (by omega) (by omega) ?_
     exact ⟨(i5 + 1, acc), ⟨hi', hsn2⟩, by simp only; omega, zac [(0, 0), (1, _)] rfl ⟨rfl, cr, cr, cr, rfl, cr, trivial⟩ ⟨zab _, zao rfl, trivial⟩⟩
    ·simp only [zb] at h10
     have e2 : addK L (acc) b = acc ++ [b] := by unfold addK; rw [if_pos ⟨by omega, h10⟩]
     rw [e2] at hsn2
     refine zx ?_
     refine Vapp.mk' (j := (acc ++ [b]).length) (zs := (acc ++ [b]).map I) (by simp [maxLen]; omega) (by simp; omega) (by simp) (by simp [zbh, cellsOf]) ?_
     refine zd (m := ((i5 + 1 : Nat) : Int)) (by omega) (by omega) ?_
     exact ⟨(i5 + 1, acc ++ [b]), ⟨hi', hsn2⟩, by simp only; omega, zac [(0, 0), (1, _)] rfl ⟨rfl, cr, cr, cr, rfl, cr, trivial⟩ ⟨zab _, zao rfl, trivial⟩⟩
   ·simp only [zb] at h9
    have e2 : addK L (acc) b = acc := by unfold addK; rw [if_neg (λ h => by omega)]
    rw [e2] at hsn2
    refine zd (m := ((i5 + 1 : Nat) : Int)) (by omega) (by omega) ?_
    exact ⟨(i5 + 1, acc), ⟨hi', hsn2⟩, by simp only; omega, zac [(0, 0), (1, _)] rfl ⟨rfl, cr, cr, cr, rfl, cr, trivial⟩ ⟨zab _, zao rfl, trivial⟩⟩
 simp only [zb] at h6
 rw [List.take_of_length_le (by omega), hSHe] at hacc
 subst hacc
 have hinv := zpv (all := L) L [] (by simp)
 rw [hSHe] at hinv
 refine zd rfl (by omega) ?_
 refine ze (ze2 s.opn _ (by omega)) ?_
 have hrl := zlw L
 have hrs := zlw SH
 have hshb : ∀ x ∈ SH, -1 <= x /\ x <= 1000000 := λ x hx => by
  rw [<- hSHe] at hx
  exact zzm L [] (by simp) hLn x hx
 have hSHl : SH.length <= 6600000000000 := by have := hinv.2; simp at this; omega
 have hL0 : ∀ x ∈ L, 0 <= x := λ x hx => by have := hLn x hx; rw [zcm] at this; omega
 have hrise64 : ∀ x ∈ rise L, i64 x := λ x hx => by
  have := hLn x (zeh.1 hx)
  rw [zcm] at this
  unfold i64; omega
 have hsh64 : ∀ x ∈ rise SH, i64 x := λ x hx => by
  have := hshb x (zeh.1 hx)
  unfold i64; omega
 cases hfd : zaj s.opn (2 * s.own) with
 | none =>
  refine zw rfl ?_
  refine zf (congrArg RV.b (Eq.symm ?_))
  rw [hR]
  simp [zc2, hfd]
 | some m =>
  refine zh (λ h7 => ?_) (λ h7 => ?_)
  ·simp only [zb] at h7
   have hlk : zc2 s = true := by simp only [zc2, hfd, decide_eq_true_eq]; omega
   rw [hlk, Bool.true_and] at hR
   refine ze (zry L (by omega) hL0) ?_
   refine Vcall.bool (zjm A (rise L) hA64 hrise64) (λ h8 => ?_) (λ h8 => ?_)
   ·rw [h8, Bool.true_and] at hR
    refine ze (zry SH (by omega) hinv.1) ?_
    refine ze (zjm ST (rise SH) hST64 hsh64) ?_
    exact zf (congrArg RV.b hR.symm)
   ·rw [h8, Bool.false_and] at hR
    exact zf (congrArg RV.b hR.symm)
  ·simp only [zb] at h7
   have hlk : zc2 s = false := by simp only [zc2, hfd, decide_eq_false_iff_not]; omega
   rw [hlk, Bool.false_and] at hR
   exact zf (congrArg RV.b hR.symm)
end Go.Proofs.YtpdllgbfemnemaaGreat.Sx
