import Derived.Test.YtpdllgbfemnemaaGreatZKq
namespace Go.Proofs.YtpdllgbfemnemaaGreat.Sx
open Go.RowKit
def upL (n u : Int) : List Int := 2 * u :: zbw (2 * u) n
def zbm (O : List Spot) (x : Int) (a : List Int × Bool) (z : Int) : List Int × Bool := if z ≠ x /\ zar z x = true /\ z ∉ a.1 then (a.1 ++ [z], a.2 && (zaj O z).isSome) else a
def zdp (O : List Spot) (x n : Int) (late : List Int) (a : List Int × Bool) : List Int × Bool := late.foldl (λ a u => (upL n u).foldl (zbm O x) a) a
def zas (O : List Spot) (n : Int) : Nat -> Nat -> List Int × Bool
 | 0, k => match zaj O (nd 0 k) with
  | none => ([], false)
  | some y => zdp O (nd 0 k) n y.par.late ([(nd 0 k : Int)], true)
 | h + 1, k => match zaj O (nd (h + 1) k) with
  | none => ([], false)
  | some y => if y.kind.toNat = 0 then ([(nd (h + 1) k : Int)] ++ (zas O n h (2 * k)).1 ++ (zas O n h (2 * k + 1)).1, (zas O n h (2 * k)).2 && (zas O n h (2 * k + 1)).2)
   else zdp O (nd (h + 1) k) n y.par.late ([(nd (h + 1) k : Int)], true)
theorem zet {α β : Type} {f : β -> α -> β} {b : β} {l : List α} {j : Nat} (hj : j < l.length) : (l.take (j + 1)).foldl f b = f ((l.take j).foldl f b) l[j] := by
 rw [List.take_add_one, List.getElem?_eq_getElem hj, List.foldl_append]; rfl
theorem zs8 (n u : Int) : (upL n u).length <= 18 := by
 have := zeq (2 * u) n
 simp [upL]; omega
theorem znj (O : List Spot) (hO : O.length <= 1000000) (x n : Int) (y : Node) (hy : zaj O x = some y) (hk : ¬ (y.kind.toNat = 0 /\ x.tmod 2 = 1)) (hl : y.par.late.length <= 65536) (hd : ∀ u ∈ y.par.late, zax u) :
  zae Tryz.prog 48 [spots O, I x, I n] (.r (.tu [is (zdp O x n y.par.late ([x], true)).1, .b (zdp O x n y.par.late ([x], true)).2])) := by
 refine zad (T := Tab) zaf Tab_ok Tryz.func48 rfl (by kernel_rfl) ?_
 have hfind := ze2 O x (by omega)
 rw [hy] at hfind
 refine ze hfind ?_
 refine zw rfl (zt ?_)
 refine zx ?_
 refine zh (λ h0 => ?_) (λ h0 => zt ?_)
 ·simp only [zb] at h0
  refine ⟨by decide, _, rfl, ?_⟩
  have hodd : ¬ x.tmod 2 = 1 := λ e => hk ⟨by omega, e⟩
  refine zw (by simp only [zb]; exact hodd) (zt ?_)
  refine zy (λ i : Nat × List Int × Bool => { F := [(0, .r (spots O)), (1, .r (I x)), (2, .r (I n)), (8, .own 0), (9, .r (.b i.2.2)), (10, .own 1), (17, .r (I i.1))], O := [(0, some (.box (y.c.map .r))), (1, some (.ch 3 1 i.2.1.length (i.2.1.map I) true))], nx := 2 })
   (λ i => i.1 <= y.par.late.length /\ zdp O x n (y.par.late.take i.1) ([x], true) = (i.2.1, i.2.2) /\ i.2.1.length <= 1 + 18 * i.1) (λ i => y.par.late.length - i.1) (0, [x], true) ⟨by simp, rfl, by simp⟩
   (zac [(0, 0), (1, 1)] rfl ⟨cr, cr, cr, rfl, cr, rfl, cr, trivial⟩ ⟨zab y.c, ⟨rfl, rfl, rfl, rfl, zn _⟩, trivial⟩) ?_
  rintro ⟨i, out0, ok0⟩ ⟨hi, hacc0, hlen0⟩
  simp only at hi hacc0 hlen0
  refine zh (λ h1 => zq ?_) (λ h1 => zt ?_)
  ·simp only [zb] at h1
   have hi' : i < y.par.late.length := by omega
   have hu := hd _ (List.getElem_mem hi')
   unfold zax at hu
   refine zm (by omega) (by omega) (zah rfl hi') (zg rfl ?_)
   refine zd rfl (by omega) ?_
   refine zx ?_
   refine ze (zmp _ _) ?_
   obtain ⟨u, hue⟩ : ∃ u, u = y.par.late[i] := ⟨_, rfl⟩
   have hul := zs8 n u
   refine Vapp.mk' (j := (upL n u).length) (zs := (upL n u).map I) (by rw [<- hue]; simp only [upL, List.length_cons, maxLen] at *; omega) (by rw [<- hue]; simp only [upL, List.length_cons] at *; omega) (by rw [<- hue]; simp only [upL, List.length_cons]; omega) (by rw [<- hue]; rfl) ?_
   refine zy (λ q : Nat × List Int × Bool => { F := [(0, .r (spots O)), (1, .r (I x)), (2, .r (I n)), (8, .own 0), (9, .r (.b q.2.2)), (10, .own 1), (17, .r (I i)), (19, .r (is (upL n u))), (20, .r (I q.1))], O := [(0, some (.box (y.c.map .r))), (1, some (.ch 3 1 q.2.1.length (q.2.1.map I) true))], nx := 2 })
    (λ q => q.1 <= (upL n u).length /\ ((upL n u).take q.1).foldl (zbm O x) (out0, ok0) = (q.2.1, q.2.2) /\ q.2.1.length <= 1 + 18 * i + q.1) (λ q => (upL n u).length - q.1) (0, out0, ok0) ⟨by simp, rfl, by simp only; omega⟩
    (zac [(0, 0), (1, 1)] rfl ⟨cr, cr, cr, rfl, cr, rfl, cr, cr, cr, trivial⟩ ⟨zab y.c, zao rfl, trivial⟩) ?_
   rintro ⟨j, out, ok⟩ ⟨hj, hacc, hlen⟩
   simp only at hj hacc hlen
   refine zh (λ h2 => zq ?_) (λ h2 => zt ?_)
   ·simp only [zb] at h2
    have hj' : j < (upL n u).length := by omega
    have hsn := zet (f := zbm O x) (b := (out0, ok0)) hj'
    rw [hacc] at hsn
    obtain ⟨z, hz⟩ : ∃ z, z = (upL n u)[j] := ⟨_, rfl⟩
    rw [<- hz] at hsn
    refine zm (by omega) (by omega) (zah rfl hj') (zg rfl ?_)
    rw [<- hz]
    refine zh (λ h3 => ?_) (λ h3 => zt ?_)
    ·simp only [zb] at h3
     refine zm (by omega) (by omega) (zah rfl hj') (zg rfl ?_)
     rw [<- hz]
     refine Vcall.bool (zg3 z x) (λ h4 => ?_) (λ h4 => zt ?_)
     ·refine zm (by omega) (by omega) (zah rfl hj') (zg rfl ?_)
      rw [<- hz]
      refine Vcall.bool (zje out z (by omega)) (λ h5 => zw rfl (zt ?_)) (λ h5 => zu rfl (zq ?_))
      ·simp only [zb] at h5
       refine zd (m := ((j + 1 : Nat) : Int)) (by omega) (by omega) ?_
       exact ⟨(j + 1, out, ok), ⟨hj', by rw [hsn]; simp only [zbm]; rw [if_neg (λ h => h.2.2 h5)], by simp only; omega⟩, by simp only; omega, zac [(0, 0), (1, 1)] rfl ⟨cr, cr, cr, rfl, cr, rfl, cr, cr, cr, trivial⟩ ⟨zab y.c, zao rfl, trivial⟩⟩
      ·simp only [zb] at h5
       have hst : zbm O x (out, ok) z = (out ++ [z], ok && (zaj O z).isSome) := by simp only [zbm]; rw [if_pos ⟨h3, h4, h5⟩]
       rw [hst] at hsn
       refine zm (by omega) (by omega) (zah rfl hj') (zg rfl ?_)
       rw [<- hz]
       refine zx ?_
       refine Vapp.mk' (j := (out ++ [z]).length) (zs := (out ++ [z]).map I) (by simp only [maxLen]; omega) (by simp; omega) (by simp) (by simp [zbh, cellsOf]) ?_
       refine zm (by omega) (by omega) (zah rfl hj') (zg rfl ?_)
       rw [<- hz]
       refine ze (ze2 O z (by omega)) ?_
       have hle : (out ++ [z]).length <= 1 + 18 * i + (j + 1) := by simp; omega
       cases hfz : zaj O z with
       | none =>
        rw [hfz] at hsn
        cases ok with
        | false =>
         refine zd (m := ((j + 1 : Nat) : Int)) (by omega) (by omega) ?_
         exact ⟨(j + 1, out ++ [z], false), ⟨hj', hsn, hle⟩, by simp only; omega, zac [(0, 0), (1, _)] rfl ⟨cr, cr, cr, rfl, cr, rfl, cr, cr, cr, trivial⟩ ⟨zab y.c, zao rfl, trivial⟩⟩
        | true =>
         refine zd (m := ((j + 1 : Nat) : Int)) (by omega) (by omega) ?_
         exact ⟨(j + 1, out ++ [z], false), ⟨hj', hsn, hle⟩, by simp only; omega, zac [(0, 0), (1, _)] rfl ⟨cr, cr, cr, rfl, cr, rfl, cr, cr, cr, trivial⟩ ⟨zab y.c, zao rfl, trivial⟩⟩
       | some m =>
        rw [hfz] at hsn
        cases ok with
        | false =>
         refine zd (m := ((j + 1 : Nat) : Int)) (by omega) (by omega) ?_
         exact ⟨(j + 1, out ++ [z], false), ⟨hj', hsn, hle⟩, by simp only; omega, zac [(0, 0), (1, _)] rfl ⟨cr, cr, cr, rfl, cr, rfl, cr, cr, cr, trivial⟩ ⟨zab y.c, zao rfl, trivial⟩⟩
        | true =>
         refine zd (m := ((j + 1 : Nat) : Int)) (by omega) (by omega) ?_
         exact ⟨(j + 1, out ++ [z], true), ⟨hj', hsn, hle⟩, by simp only; omega, zac [(0, 0), (1, _)] rfl ⟨cr, cr, cr, rfl, cr, rfl, cr, cr, cr, trivial⟩ ⟨zab y.c, zao rfl, trivial⟩⟩
     ·refine zd (m := ((j + 1 : Nat) : Int)) (by omega) (by omega) ?_
      exact ⟨(j + 1, out, ok), ⟨hj', by rw [hsn]; simp only [zbm]; rw [if_neg (λ h => by rw [h4] at h; cases h.2.1)], by simp only; omega⟩, by simp only; omega, zac [(0, 0), (1, 1)] rfl ⟨cr, cr, cr, rfl, cr, rfl, cr, cr, cr, trivial⟩ ⟨zab y.c, zao rfl, trivial⟩⟩
    ·simp only [zb] at h3
     refine zd (m := ((j + 1 : Nat) : Int)) (by omega) (by omega) ?_
     exact ⟨(j + 1, out, ok), ⟨hj', by rw [hsn]; simp only [zbm]; rw [if_neg (λ h => h.1 h3)], by simp only; omega⟩, by simp only; omega, zac [(0, 0), (1, 1)] rfl ⟨cr, cr, cr, rfl, cr, rfl, cr, cr, cr, trivial⟩ ⟨zab y.c, zao rfl, trivial⟩⟩
   ·simp only [zb] at h2
    rw [List.take_of_length_le (by omega)] at hacc
    have hsn := zet (f := λ a u => (upL n u).foldl (zbm O x) a) (b := ([x], true)) hi'
    have hacc0' : (y.par.late.take i).foldl (λ a u => (upL n u).foldl (zbm O x) a) ([x], true) = (out0, ok0) := hacc0
    rw [hacc0', <- hue, hacc] at hsn
    refine zd (m := ((i + 1 : Nat) : Int)) (by omega) (by omega) ?_
    exact ⟨(i + 1, out, ok), ⟨hi', hsn, by simp only; omega⟩, by simp only; omega, zac [(0, 0), (1, 1)] rfl ⟨cr, cr, cr, rfl, cr, rfl, cr, trivial⟩ ⟨zab y.c, zao rfl, trivial⟩⟩
  ·simp only [zb] at h1
   rw [List.take_of_length_le (by omega)] at hacc0
   rw [hacc0]
   exact ⟨_, rfl, cr⟩
 ·refine zy (λ i : Nat × List Int × Bool => { F := [(0, .r (spots O)), (1, .r (I x)), (2, .r (I n)), (8, .own 0), (9, .r (.b i.2.2)), (10, .own 1), (17, .r (I i.1))], O := [(0, some (.box (y.c.map .r))), (1, some (.ch 3 1 i.2.1.length (i.2.1.map I) true))], nx := 2 })
   (λ i => i.1 <= y.par.late.length /\ zdp O x n (y.par.late.take i.1) ([x], true) = (i.2.1, i.2.2) /\ i.2.1.length <= 1 + 18 * i.1) (λ i => y.par.late.length - i.1) (0, [x], true) ⟨by simp, rfl, by simp⟩
   (zac [(0, 0), (1, 1)] rfl ⟨cr, cr, cr, rfl, cr, rfl, cr, trivial⟩ ⟨zab y.c, ⟨rfl, rfl, rfl, rfl, zn _⟩, trivial⟩) ?_
  rintro ⟨i, out0, ok0⟩ ⟨hi, hacc0, hlen0⟩
  simp only at hi hacc0 hlen0
  refine zh (λ h1 => zq ?_) (λ h1 => zt ?_)
  ·simp only [zb] at h1
   have hi' : i < y.par.late.length := by omega
   have hu := hd _ (List.getElem_mem hi')
   unfold zax at hu
   refine zm (by omega) (by omega) (zah rfl hi') (zg rfl ?_)
   refine zd rfl (by omega) ?_
   refine zx ?_
   refine ze (zmp _ _) ?_
   obtain ⟨u, hue⟩ : ∃ u, u = y.par.late[i] := ⟨_, rfl⟩
   have hul := zs8 n u
   refine Vapp.mk' (j := (upL n u).length) (zs := (upL n u).map I) (by rw [<- hue]; simp only [upL, List.length_cons, maxLen] at *; omega) (by rw [<- hue]; simp only [upL, List.length_cons] at *; omega) (by rw [<- hue]; simp only [upL, List.length_cons]; omega) (by rw [<- hue]; rfl) ?_
   refine zy (λ q : Nat × List Int × Bool => { F := [(0, .r (spots O)), (1, .r (I x)), (2, .r (I n)), (8, .own 0), (9, .r (.b q.2.2)), (10, .own 1), (17, .r (I i)), (19, .r (is (upL n u))), (20, .r (I q.1))], O := [(0, some (.box (y.c.map .r))), (1, some (.ch 3 1 q.2.1.length (q.2.1.map I) true))], nx := 2 })
    (λ q => q.1 <= (upL n u).length /\ ((upL n u).take q.1).foldl (zbm O x) (out0, ok0) = (q.2.1, q.2.2) /\ q.2.1.length <= 1 + 18 * i + q.1) (λ q => (upL n u).length - q.1) (0, out0, ok0) ⟨by simp, rfl, by simp only; omega⟩
    (zac [(0, 0), (1, 1)] rfl ⟨cr, cr, cr, rfl, cr, rfl, cr, cr, cr, trivial⟩ ⟨zab y.c, zao rfl, trivial⟩) ?_
   rintro ⟨j, out, ok⟩ ⟨hj, hacc, hlen⟩
   simp only at hj hacc hlen
   refine zh (λ h2 => zq ?_) (λ h2 => zt ?_)
   ·simp only [zb] at h2
    have hj' : j < (upL n u).length := by omega
    have hsn := zet (f := zbm O x) (b := (out0, ok0)) hj'
    rw [hacc] at hsn
    obtain ⟨z, hz⟩ : ∃ z, z = (upL n u)[j] := ⟨_, rfl⟩
    rw [<- hz] at hsn
    refine zm (by omega) (by omega) (zah rfl hj') (zg rfl ?_)
    rw [<- hz]
    refine zh (λ h3 => ?_) (λ h3 => zt ?_)
    ·simp only [zb] at h3
     refine zm (by omega) (by omega) (zah rfl hj') (zg rfl ?_)
     rw [<- hz]
     refine Vcall.bool (zg3 z x) (λ h4 => ?_) (λ h4 => zt ?_)
     ·refine zm (by omega) (by omega) (zah rfl hj') (zg rfl ?_)
      rw [<- hz]
      refine Vcall.bool (zje out z (by omega)) (λ h5 => zw rfl (zt ?_)) (λ h5 => zu rfl (zq ?_))
      ·simp only [zb] at h5
       refine zd (m := ((j + 1 : Nat) : Int)) (by omega) (by omega) ?_
       exact ⟨(j + 1, out, ok), ⟨hj', by rw [hsn]; simp only [zbm]; rw [if_neg (λ h => h.2.2 h5)], by simp only; omega⟩, by simp only; omega, zac [(0, 0), (1, 1)] rfl ⟨cr, cr, cr, rfl, cr, rfl, cr, cr, cr, trivial⟩ ⟨zab y.c, zao rfl, trivial⟩⟩
      ·simp only [zb] at h5
       have hst : zbm O x (out, ok) z = (out ++ [z], ok && (zaj O z).isSome) := by simp only [zbm]; rw [if_pos ⟨h3, h4, h5⟩]
       rw [hst] at hsn
       refine zm (by omega) (by omega) (zah rfl hj') (zg rfl ?_)
       rw [<- hz]
       refine zx ?_
       refine Vapp.mk' (j := (out ++ [z]).length) (zs := (out ++ [z]).map I) (by simp only [maxLen]; omega) (by simp; omega) (by simp) (by simp [zbh, cellsOf]) ?_
       refine zm (by omega) (by omega) (zah rfl hj') (zg rfl ?_)
       rw [<- hz]
       refine ze (ze2 O z (by omega)) ?_
       have hle : (out ++ [z]).length <= 1 + 18 * i + (j + 1) := by simp; omega
       cases hfz : zaj O z with
       | none =>
        rw [hfz] at hsn
        cases ok with
        | false =>
         refine zd (m := ((j + 1 : Nat) : Int)) (by omega) (by omega) ?_
         exact ⟨(j + 1, out ++ [z], false), ⟨hj', hsn, hle⟩, by simp only; omega, zac [(0, 0), (1, _)] rfl ⟨cr, cr, cr, rfl, cr, rfl, cr, cr, cr, trivial⟩ ⟨zab y.c, zao rfl, trivial⟩⟩
        | true =>
         refine zd (m := ((j + 1 : Nat) : Int)) (by omega) (by omega) ?_
         exact ⟨(j + 1, out ++ [z], false), ⟨hj', hsn, hle⟩, by simp only; omega, zac [(0, 0), (1, _)] rfl ⟨cr, cr, cr, rfl, cr, rfl, cr, cr, cr, trivial⟩ ⟨zab y.c, zao rfl, trivial⟩⟩
       | some m =>
        rw [hfz] at hsn
        cases ok with
        | false =>
         refine zd (m := ((j + 1 : Nat) : Int)) (by omega) (by omega) ?_
         exact ⟨(j + 1, out ++ [z], false), ⟨hj', hsn, hle⟩, by simp only; omega, zac [(0, 0), (1, _)] rfl ⟨cr, cr, cr, rfl, cr, rfl, cr, cr, cr, trivial⟩ ⟨zab y.c, zao rfl, trivial⟩⟩
        | true =>
         refine zd (m := ((j + 1 : Nat) : Int)) (by omega) (by omega) ?_
         exact ⟨(j + 1, out ++ [z], true), ⟨hj', hsn, hle⟩, by simp only; omega, zac [(0, 0), (1, _)] rfl ⟨cr, cr, cr, rfl, cr, rfl, cr, cr, cr, trivial⟩ ⟨zab y.c, zao rfl, trivial⟩⟩
     ·refine zd (m := ((j + 1 : Nat) : Int)) (by omega) (by omega) ?_
      exact ⟨(j + 1, out, ok), ⟨hj', by rw [hsn]; simp only [zbm]; rw [if_neg (λ h => by rw [h4] at h; cases h.2.1)], by simp only; omega⟩, by simp only; omega, zac [(0, 0), (1, 1)] rfl ⟨cr, cr, cr, rfl, cr, rfl, cr, cr, cr, trivial⟩ ⟨zab y.c, zao rfl, trivial⟩⟩
    ·simp only [zb] at h3
     refine zd (m := ((j + 1 : Nat) : Int)) (by omega) (by omega) ?_
     exact ⟨(j + 1, out, ok), ⟨hj', by rw [hsn]; simp only [zbm]; rw [if_neg (λ h => h.1 h3)], by simp only; omega⟩, by simp only; omega, zac [(0, 0), (1, 1)] rfl ⟨cr, cr, cr, rfl, cr, rfl, cr, cr, cr, trivial⟩ ⟨zab y.c, zao rfl, trivial⟩⟩
   ·simp only [zb] at h2
    rw [List.take_of_length_le (by omega)] at hacc
    have hsn := zet (f := λ a u => (upL n u).foldl (zbm O x) a) (b := ([x], true)) hi'
    have hacc0' : (y.par.late.take i).foldl (λ a u => (upL n u).foldl (zbm O x) a) ([x], true) = (out0, ok0) := hacc0
    rw [hacc0', <- hue, hacc] at hsn
    refine zd (m := ((i + 1 : Nat) : Int)) (by omega) (by omega) ?_
    exact ⟨(i + 1, out, ok), ⟨hi', hsn, by simp only; omega⟩, by simp only; omega, zac [(0, 0), (1, 1)] rfl ⟨cr, cr, cr, rfl, cr, rfl, cr, trivial⟩ ⟨zab y.c, zao rfl, trivial⟩⟩
  ·simp only [zb] at h1
   rw [List.take_of_length_le (by omega)] at hacc0
   rw [hacc0]
   exact ⟨_, rfl, cr⟩
theorem ztg (O : List Spot) (x n : Int) : ∀ (late : List Int) (a : List Int × Bool), (zdp O x n late a).1.length <= a.1.length + 18 * late.length := by
 have one : ∀ (l : List Int) (a : List Int × Bool), (l.foldl (zbm O x) a).1.length <= a.1.length + l.length := by
  intro l
  induction l with
  | nil => intro a; simp
  | cons z l ih =>
   intro a
   have := ih (zbm O x a z)
   have h1 : (zbm O x a z).1.length <= a.1.length + 1 := by unfold zbm; split <;> simp
   simp only [List.foldl_cons, List.length_cons]
   omega
 intro late
 induction late with
 | nil => intro a; simp [zdp]
 | cons u late ih =>
  intro a
  have h1 := ih ((upL n u).foldl (zbm O x) a)
  have h2 := one (upL n u) a
  have h3 := zs8 n u
  simp only [zdp, List.foldl_cons, List.length_cons] at *
  omega
def zf3 (O : List Spot) : Prop := ∀ s ∈ O, s.node.par.late.length <= 65536 /\ ∀ u ∈ s.node.par.late, zax u
theorem zhi (O : List Spot) (hO : zf3 O) (n : Int) : ∀ h k, (zas O n h k).1.length <= 1400000 * 2 ^ (h + 1) - 1400000
 | 0, k => by
  unfold zas
  split
  ·simp
  ·rename_i y hy
   obtain ⟨sp, hsp, _, rfl⟩ := zbf hy
   have := ztg O (nd 0 k) n sp.node.par.late ([(nd 0 k : Int)], true)
   have := (hO sp hsp).1
   simp at *; omega
 | h + 1, k => by
  have h1 := zhi O hO n h (2 * k)
  have h2 := zhi O hO n h (2 * k + 1)
  have hp := zag (h + 1)
  rw [Nat.pow_succ 2 (h + 1)]
  unfold zas
  split
  ·simp
  ·rename_i y hy
   obtain ⟨sp, hsp, _, rfl⟩ := zbf hy
   split
   ·simp; omega
   ·have := ztg O (nd (h + 1) k) n sp.node.par.late ([(nd (h + 1) k : Int)], true)
    have := (hO sp hsp).1
    simp at *; omega
theorem z0c {h : Nat} (hh : h <= 16) : 2 ^ (h + 1) <= 131072 := Nat.pow_le_pow_right (n := 2) (by omega) (show h + 1 <= 17 by omega)
theorem zu2 (O : List Spot) (hO : O.length <= 1000000) (hOl : zf3 O) (n : Int) (h : Nat) (hh : h + 1 <= 16) (ih : ∀ k, k < 2 ^ (16 - h) -> zae Tryz.prog 48 [spots O, I (nd h k), I n] (.r (.tu [is (zas O n h k).1, .b (zas O n h k).2])))
  (k : Nat) (hk : k < 2 ^ (16 - (h + 1))) (y : Node) (hy : zaj O (nd (h + 1) k) = some y) (hy0 : y.kind.toNat = 0) :
  zae Tryz.prog 48 [spots O, I (nd (h + 1) k), I n] (.r (.tu [is (zas O n (h + 1) k).1, .b (zas O n (h + 1) k).2])) := by
 refine zad (T := Tab) zaf Tab_ok Tryz.func48 rfl (by kernel_rfl) ?_
 have hleft := zdr (d := 16) (by omega) (show h + 1 <= 16 by omega) hk
 have hright := zda (d := 16) (by omega) (show h + 1 <= 16 by omega) hk
 have hk2 : 2 ^ (16 - h) = 2 * 2 ^ (16 - (h + 1)) := by rw [show 16 - h = (16 - (h + 1)) + 1 by omega, Nat.pow_succ]; omega
 have hfind := ze2 O (nd (h + 1) k) (by omega)
 rw [hy] at hfind
 have e : zas O n (h + 1) k = ([(nd (h + 1) k : Int)] ++ (zas O n h (2 * k)).1 ++ (zas O n h (2 * k + 1)).1, (zas O n h (2 * k)).2 && (zas O n h (2 * k + 1)).2) := by
  simp [zas, hy, hy0]
 rw [e]
 have l1 := zhi O hOl n h (2 * k)
 have l2 := zhi O hOl n h (2 * k + 1)
 have p17 := z0c (show h <= 16 by omega)
 have g1 := ih (2 * k) (by omega)
 have g2 := ih (2 * k + 1) (by omega)
 obtain ⟨p1, b1, e1⟩ : ∃ p b, zas O n h (2 * k) = (p, b) := ⟨_, _, rfl⟩
 obtain ⟨p2, b2, e2⟩ : ∃ p b, zas O n h (2 * k + 1) = (p, b) := ⟨_, _, rfl⟩
 rw [e1] at g1 l1
 rw [e2] at g2 l2
 rw [e1, e2]
 simp only at g1 g2 l1 l2 ⊢
 refine ze hfind ?_
 refine zw rfl (zt ?_)
 refine zx ?_
 refine zu (by simp only [zb]; omega) ?_
 refine ⟨by decide, _, rfl, ?_⟩
 refine zu (by rw [zcr]; rfl) (zq ?_)
 refine ze (zf2 _) ?_
 rw [hleft, hright]
 refine ze g1 ?_
 refine ze g2 ?_
 refine Vapp.mk' (j := ([(nd (h + 1) k : Int)] ++ p1).length) (zs := ([(nd (h + 1) k : Int)] ++ p1).map I) (by simp only [maxLen]; omega) (by simp; omega) (by simp; omega) (by simp [zbh, cellsOf]) ?_
 refine Vapp.mk' (j := ([(nd (h + 1) k : Int)] ++ p1 ++ p2).length) (zs := ([(nd (h + 1) k : Int)] ++ p1 ++ p2).map I) (by simp [maxLen]; omega) (by simp; omega) (by simp; omega) (by simp) ?_
 cases b1 <;> exact ⟨_, rfl, cr⟩
theorem z8c (O : List Spot) (hO : O.length <= 1000000) (hOl : zf3 O) (n : Int) : ∀ (h k : Nat), h <= 16 -> k < 2 ^ (16 - h) -> zae Tryz.prog 48 [spots O, I (nd h k), I n] (.r (.tu [is (zas O n h k).1, .b (zas O n h k).2])) := by
 have none_case : ∀ (x : Int), zaj O x = none -> zae Tryz.prog 48 [spots O, I x, I n] (.r (.tu [is [], .b false])) := λ x hx => by
  refine zad (T := Tab) zaf Tab_ok Tryz.func48 rfl (by kernel_rfl) ?_
  have hfind := ze2 O x (by omega)
  rw [hx] at hfind
  refine ze hfind ?_
  refine zu rfl (zq ?_)
  exact ⟨_, rfl, Cv.tu (zk (Cv.nil 1) (zn _))⟩
 intro h
 induction h with
 | zero =>
  intro k _ hk
  cases hy : zaj O (nd 0 k) with
  | none =>
   have e : zas O n 0 k = ([], false) := by simp [zas, hy]
   rw [e]; exact none_case _ hy
  | some y =>
   obtain ⟨sp, hsp, _, rfl⟩ := zbf hy
   have e : zas O n 0 k = zdp O (nd 0 k) n sp.node.par.late ([(nd 0 k : Int)], true) := by simp [zas, hy]
   rw [e]
   exact znj O hO _ n _ hy (λ h => by rw [zb4] at h; omega) (hOl sp hsp).1 (hOl sp hsp).2
 | succ h ih =>
  intro k hh hk
  cases hy : zaj O (nd (h + 1) k) with
  | none =>
   have e : zas O n (h + 1) k = ([], false) := by simp [zas, hy]
   rw [e]; exact none_case _ hy
  | some y =>
   by_cases h0 : y.kind.toNat = 0
   ·exact zu2 O hO hOl n h hh (λ k hk => ih k (by omega) hk) k hk y hy h0
   ·obtain ⟨sp, hsp, _, rfl⟩ := zbf hy
    have e : zas O n (h + 1) k = zdp O (nd (h + 1) k) n sp.node.par.late ([(nd (h + 1) k : Int)], true) := by simp [zas, hy, h0]
    rw [e]
    exact znj O hO _ n _ hy (λ h => h0 h.1) (hOl sp hsp).1 (hOl sp hsp).2
end Go.Proofs.YtpdllgbfemnemaaGreat.Sx
