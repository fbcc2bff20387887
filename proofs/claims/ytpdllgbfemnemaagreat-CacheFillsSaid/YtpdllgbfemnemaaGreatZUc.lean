import Derived.Test.YtpdllgbfemnemaaGreatZQe
import Derived.Test.YtpdllgbfemnemaaGreatZRf
import Derived.Test.YtpdllgbfemnemaaGreatZTs
import Derived.Test.YtpdllgbfemnemaaGreatZKv
namespace Go.Proofs.YtpdllgbfemnemaaGreat.Sx
open Go.RowKit
set_option linter.unusedVariables false
section
theorem zrb (b : List UInt8) (i : Nat) (hi4 : i + 4 <= b.length) (hb : b.length <= 100000000) : zae Tryz.prog 118 [bs b, I i] (.r (I ((numA 0 ((b.drop i).take 4) : Nat) : Int))) := by
 refine zad (T := Tab) zaf Tab_ok Tryz.func118 rfl (by kernel_rfl) ?_
 obtain ⟨c0, h0⟩ : ∃ c, c = b[i] := ⟨_, rfl⟩
 obtain ⟨c1, h1⟩ : ∃ c, c = b[i + 1] := ⟨_, rfl⟩
 obtain ⟨c2, h2⟩ : ∃ c, c = b[i + 2] := ⟨_, rfl⟩
 obtain ⟨c3, h3⟩ : ∃ c, c = b[i + 3] := ⟨_, rfl⟩
 have l0 := c0.toNat_lt
 have l1 := c1.toNat_lt
 have l2 := c2.toNat_lt
 have l3 := c3.toNat_lt
 have hnum : numA 0 ((b.drop i).take 4) = ((c0.toNat * 256 + c1.toNat) * 256 + c2.toNat) * 256 + c3.toNat := by
  rw [z10 hi4, num4, h0, h1, h2, h3]
 refine Vdraw.mk' (by kernel_rfl) ?_
 refine zm (by omega) (by omega) (zcz (l := b) (c := c0) (j := i) rfl (by omega) h0.symm) (zg rfl ?_)
 refine zd rfl (by omega) ?_
 refine zd rfl (by omega) ?_
 refine zd (m := ((i + 1 : Nat) : Int)) (by omega) (by omega) ?_
 refine zm (by omega) (by omega) (zcz (l := b) (c := c1) (j := i + 1) rfl (by omega) h1.symm) (zg rfl ?_)
 refine zd rfl (by omega) ?_
 refine zd rfl (by omega) ?_
 refine zd rfl (by omega) ?_
 refine zd (m := ((i + 2 : Nat) : Int)) (by omega) (by omega) ?_
 refine zm (by omega) (by omega) (zcz (l := b) (c := c2) (j := i + 2) rfl (by omega) h2.symm) (zg rfl ?_)
 refine zd rfl (by omega) ?_
 refine zd rfl (by omega) ?_
 refine zd rfl (by omega) ?_
 refine zd (m := ((i + 3 : Nat) : Int)) (by omega) (by omega) ?_
 refine zm (by omega) (by omega) (zcz (l := b) (c := c3) (j := i + 3) rfl (by omega) h3.symm) (zg rfl ?_)
 refine zd rfl (by omega) ?_
 refine zd (m := ((((c0.toNat * 256 + c1.toNat) * 256 + c2.toNat) * 256 + c3.toNat : Nat) : Int)) (by omega) (by omega) ?_
 exact zf (by rw [hnum])
theorem z50 (s : Lean_) (hs1 : s.opn.length <= 1000000) (hs2 : s.shut.length <= 1000000) : zae Tryz.prog 157 [.ag s.c] (.r (.tu [is (s.opn.map λ x => x.at_), is (s.shut.map λ x => x.at_)])) := by
 refine zad (T := Tab) zaf Tab_ok Tryz.func157 rfl (by kernel_rfl) ?_
 refine zy (λ i : Nat => { F := [(1, .own 0), (4, .own 1), (5, .own 2), (6, .r (I i))], O := [(0, some (.box (s.c.map .r))), (1, some (.ch 3 1 ((s.opn.take i).map (·.at_)).length (((s.opn.take i).map (·.at_)).map I) true)), (2, some (.ch 3 1 0 [] true))], nx := 3 })
  (λ i => i <= s.opn.length) (λ i => s.opn.length - i) 0 (by omega)
  ((zc1 4 3 1 rfl).trans ((zc1 5 3 1 rfl).trans (zac [(0, 0), (1, 1), (2, 2)] rfl ⟨rfl, rfl, rfl, cr, trivial⟩ ⟨zab _, ⟨rfl, rfl, rfl, rfl, zn _⟩, ⟨rfl, rfl, rfl, rfl, zn _⟩, trivial⟩))) ?_
 intro i hi
 refine zh (λ h3 => zq ?_) (λ h3 => zt ?_)
 ·simp only [zb] at h3
  have hi' : i < s.opn.length := by omega
  refine zm (by omega) (by omega) (zdt rfl hi') (zg rfl ?_)
  refine zx ?_
  refine Vapp.mk' (j := ((s.opn.take (i + 1)).map (·.at_)).length) (zs := ((s.opn.take (i + 1)).map (·.at_)).map I) (by simp [maxLen]; omega) (by simp; omega) (by simp; omega) (by rw [List.take_add_one, List.getElem?_eq_getElem hi', List.map_append, List.map_append]; rfl) ?_
  refine zd (m := ((i + 1 : Nat) : Int)) (by omega) (by omega) ?_
  exact ⟨i + 1, hi', by omega, zac [(0, 0), (1, _), (2, 2)] rfl ⟨rfl, rfl, rfl, cr, trivial⟩ ⟨zab _, zao rfl, ⟨rfl, rfl, rfl, rfl, zn _⟩, trivial⟩⟩
 simp only [zb] at h3
 rw [List.take_of_length_le (by omega)]
 clear h3 hi
 refine zy (λ i : Nat => { F := [(1, .own 0), (4, .own 1), (5, .own 2), (7, .r (I i))], O := [(0, some (.box (s.c.map .r))), (1, some (.ch 3 1 (s.opn.map (·.at_)).length ((s.opn.map (·.at_)).map I) true)), (2, some (.ch 3 1 ((s.shut.take i).map (·.at_)).length (((s.shut.take i).map (·.at_)).map I) true))], nx := 3 })
  (λ i => i <= s.shut.length) (λ i => s.shut.length - i) 0 (by omega)
  (zac [(0, 0), (1, 1), (2, 2)] rfl ⟨rfl, rfl, rfl, cr, trivial⟩ ⟨zab _, zao rfl, ⟨rfl, rfl, rfl, rfl, zn _⟩, trivial⟩) ?_
 intro i hi
 refine zh (λ h3 => zq ?_) (λ h3 => zt ?_)
 ·simp only [zb] at h3
  have hi' : i < s.shut.length := by omega
  refine zm (by omega) (by omega) (zd7 rfl hi') (zg rfl ?_)
  refine zx ?_
  refine Vapp.mk' (j := ((s.shut.take (i + 1)).map (·.at_)).length) (zs := ((s.shut.take (i + 1)).map (·.at_)).map I) (by simp [maxLen]; omega) (by simp; omega) (by simp; omega) (by rw [List.take_add_one, List.getElem?_eq_getElem hi', List.map_append, List.map_append]; rfl) ?_
  refine zd (m := ((i + 1 : Nat) : Int)) (by omega) (by omega) ?_
  exact ⟨i + 1, hi', by omega, zac [(0, 0), (1, 1), (2, _)] rfl ⟨rfl, rfl, rfl, cr, trivial⟩ ⟨zab _, zao rfl, zao rfl, trivial⟩⟩
 simp only [zb] at h3
 rw [List.take_of_length_le (by omega)]
 exact ⟨_, rfl, cr⟩
end
section
theorem zuk : ∀ (l : List Int) (a : Int), zey a l = true -> a < 65536 -> (l.length : Int) + a <= 65535
 | [], a, _, h => by simp; omega
 | x :: l, a, h, _ => by
  simp only [zey, Bool.and_eq_true, decide_eq_true_eq] at h
  have := zuk l x h.2 h.1.2
  simp only [List.length_cons]
  omega
theorem Node.late_len {n : Node} (h : n.right = true) : n.par.late.length <= 65536 := by
 unfold Node.right at h
 split at h
 ·simp only [Bool.and_eq_true, Par.none, decide_eq_true_eq] at h; omega
 ·split at h
  ·simp only [Bool.and_eq_true, Par.none, decide_eq_true_eq] at h; omega
  ·split at h
   ·simp only [Bool.and_eq_true, Par.right] at h
    have := zuk _ _ h.2.1 (by omega)
    omega
   ·cases h
def asR (s : Lean_) : Bool :=
 zau s.leaves && (decide (0 <= s.own) && (decide (s.own < s.leaves) && (s.opn.all (okR s.leaves) && (s.shut.all (λ x => decide (x.hash.length = 32)) &&
  (zc2 s && (zjy s.opn s.leaves s.own && (decide (s.opn.map (·.at_) = zci (zcu s.opn s.leaves s.own)) && decide (s.shut.map (·.at_) = zci (zfj s.opn s.leaves s.own)))))))))
theorem z3x {O : List Spot} {n own : Int} (hf : zau n = true) (h0 : 0 <= own) (h1 : own < n) : ∀ x ∈ zfj O n own, -1 <= x /\ x <= 1000000 := zzm _ [] (by simp) (zim hf h0 h1)
theorem zoc {l : List Int} {x : Int} : x ∈ zci l ↔ x ∈ l := by
 have h : ∀ (l a : List Int), x ∈ l.foldl (λ a x => insD x a) a ↔ x ∈ a \/ x ∈ l := by
  intro l
  induction l with
  | nil => intro a; simp
  | cons y l ih =>
   intro a
   rw [List.foldl_cons, ih, zh9]
   simp only [List.mem_cons]
   exact ⟨λ h => by rcases h with (h | h) | h <;> simp [h], λ h => by rcases h with h | h | h <;> simp [h]⟩
 unfold zci
 rw [h]
 simp
set_option maxHeartbeats 8000000 in
theorem z4r (s : Lean_) (hs : s.fitN) (hsi : ∀ x ∈ s.shut, i64 x.at_) : zae Tryz.prog 120 [.ag s.c, .b false] (.r (.b (asR s))) := by
 refine zad (T := Tab) zaf Tab_ok Tryz.func120 rfl (by kernel_rfl) ?_
 obtain ⟨hs1, hs2, hs3, hs4⟩ := id hs
 refine Vcall.bool (zqd s.leaves) (λ hf => zw rfl ?_) (λ hf => zu rfl (zq ?_))
 rotate_left
 ·exact zf (by simp [asR, hf, ofC])
 have hn := zd5 hf
 refine zh (λ h0 => zq ?_) (λ h0 => ?_)
 ·simp only [zb] at h0
  refine zf (congrArg RV.b (Eq.symm ?_))
  have : ¬ 0 <= s.own := by omega
  simp [asR, this]
 simp only [zb] at h0
 have h0' : 0 <= s.own := by omega
 refine zh (λ h1 => zq ?_) (λ h1 => zt ?_)
 ·simp only [zb] at h1
  refine zf (congrArg RV.b (Eq.symm ?_))
  have : ¬ s.own < s.leaves := by omega
  simp [asR, this]
 simp only [zb] at h1
 have h1' : s.own < s.leaves := by omega
 have hR : asR s = (s.opn.all (okR s.leaves) && (s.shut.all (λ x => decide (x.hash.length = 32)) && (zc2 s && (zjy s.opn s.leaves s.own && (decide (s.opn.map (·.at_) = zci (zcu s.opn s.leaves s.own)) && decide (s.shut.map (·.at_) = zci (zfj s.opn s.leaves s.own))))))) := by simp [asR, hf, h0', h1']
 refine zy (λ i : Nat => { F := [(1, .r (.b false)), (2, .own 0), (5, .r (I i))], O := [(0, some (.box (s.c.map .r)))], nx := 1 })
  (λ i => i <= s.opn.length /\ ∀ x ∈ s.opn.take i, okR s.leaves x = true) (λ i => s.opn.length - i) 0 ⟨by omega, by simp⟩
  (zac [(0, 0)] rfl ⟨cr, rfl, cr, trivial⟩ ⟨zab _, trivial⟩) ?_
 rintro i ⟨hi, hok⟩
 refine zh (λ h2 => zq ?_) (λ h2 => zt ?_)
 ·simp only [zb] at h2
  have hi' : i < s.opn.length := by omega
  obtain ⟨sp, hsp⟩ : ∃ sp, sp = s.opn[i] := ⟨_, rfl⟩
  have hmem : sp ∈ s.opn := hsp ▸ List.getElem_mem hi'
  have bad : okR s.leaves sp = false -> asR s = false := λ h => by rw [hR, zcd hmem h]; rfl
  refine Vdraw.mk' (by kernel_rfl) ?_
  refine zm (by omega) (by omega) (zdt rfl hi') (zg rfl ?_)
  refine zm (by omega) (by omega) (zdt rfl hi') ?_
  refine za rfl rfl ?_
  rw [<- hsp]
  refine zh (λ h3 => zq ?_) (λ h3 => ?_)
  ·simp only [zb] at h3
   refine zf (congrArg RV.b (Eq.symm (bad ?_)))
   have : ¬ 0 <= sp.at_ := by omega
   simp [okR, this]
  simp only [zb] at h3
  have h3' : 0 <= sp.at_ := by omega
  refine zd rfl (by omega) ?_
  refine zd rfl (by omega) ?_
  refine zh (λ h4 => zq ?_) (λ h4 => ?_)
  ·simp only [zb] at h4
   refine zf (congrArg RV.b (Eq.symm (bad ?_)))
   have : ¬ sp.at_ <= 2 * s.leaves - 2 := by omega
   simp [okR, this]
  simp only [zb] at h4
  have h4' : sp.at_ <= 2 * s.leaves - 2 := by omega
  refine za rfl rfl ?_
  refine Vcall.bool (zut sp.node (hs3 sp hmem)) (λ hr16 => zw rfl ?_) (λ hr16 => zu rfl (zq ?_))
  rotate_left
  ·refine zf (congrArg RV.b (Eq.symm (bad ?_)))
   simp [okR, hr16]
  have hlateD := Node.right_late hr16
  have hll := Node.late_len hr16
  have hmod : sp.at_.tmod 2 = 0 \/ sp.at_.tmod 2 = 1 := by rw [Int.tmod_eq_emod_of_nonneg h3']; omega
  refine ⟨by decide, _, rfl, ?_⟩
  refine zh (λ h5 => ?_) (λ h5 => ?_)
  ·simp only [zb] at h5
   refine zh (λ h6 => zq ?_) (λ h6 => ?_)
   ·simp only [zb] at h6
    refine zf (congrArg RV.b (Eq.symm (bad ?_)))
    have : sp.node.kind.toNat = 2 := by omega
    simp [okR, h5, this]
   simp only [zb] at h6
   refine ⟨by decide, _, rfl, ?_⟩
   refine zw (by simp only [zb]; omega) (zt ?_)
   refine zy (λ k : Nat => { F := [(1, .r (.b false)), (2, .own 0), (5, .r (I i)), (6, .r (I sp.at_)), (7, .own 1), (8, .r (I k))], O := [(0, some (.box (s.c.map .r))), (1, some (.box (sp.node.c.map .r)))], nx := 2 })
    (λ k => k <= sp.node.par.late.length /\ ∀ u ∈ sp.node.par.late.take k, zar (2 * u) sp.at_ = true) (λ k => sp.node.par.late.length - k) 0 ⟨by omega, by simp⟩
    (zac [(0, 0), (1, 1)] rfl ⟨cr, rfl, cr, zf (by rw [hsp]), rfl, cr, trivial⟩ ⟨zab _, (by rw [hsp]; exact zab s.opn[i].node.c), trivial⟩) ?_
   rintro k ⟨hk, hun⟩
   refine zh (λ h8 => zq ?_) (λ h8 => zt ?_)
   ·simp only [zb] at h8
    have hk' : k < sp.node.par.late.length := by omega
    have hu := hlateD _ (List.getElem_mem hk')
    unfold zax at hu
    refine zm (by omega) (by omega) (zah rfl hk') (zg rfl ?_)
    refine zd rfl (by omega) ?_
    refine Vcall.bool (zg3 _ _) (λ h9 => zw rfl (zt ?_)) (λ h9 => zu rfl (zq ?_))
    ·refine zd (m := ((k + 1 : Nat) : Int)) (by omega) (by omega) ?_
     exact ⟨k + 1, ⟨hk', zbr (p := λ u => zar (2 * u) sp.at_ = true) hk' hun h9⟩, by omega, zac [(0, 0), (1, 1)] rfl ⟨cr, rfl, cr, cr, rfl, cr, trivial⟩ ⟨zab _, zab sp.node.c, trivial⟩⟩
    ·refine zf (congrArg RV.b (Eq.symm (bad ?_)))
     have : sp.node.par.late.all (λ u => zar (2 * u) sp.at_) = false := zcd (List.getElem_mem hk') h9
     simp [okR, this]
   simp only [zb] at h8
   rw [List.take_of_length_le (by omega)] at hun
   have hall : sp.node.par.late.all (λ u => zar (2 * u) sp.at_) = true := by rw [List.all_eq_true]; exact hun
   have hok2 : okR s.leaves sp = true := by
    simp only [okR, hall, hr16, zb, Bool.and_eq_true, Bool.and_true, Bool.true_and, Bool.and_eq_false_iff]
    exact ⟨h3', h4', by omega, by omega⟩
   refine zd (m := ((i + 1 : Nat) : Int)) (by omega) (by omega) ?_
   exact ⟨i + 1, ⟨hi', zbr (p := λ x => okR s.leaves x = true) hi' hok (by rw [<- hsp]; exact hok2)⟩, by omega, zac [(0, 0)] rfl ⟨cr, rfl, cr, trivial⟩ ⟨zab _, trivial⟩⟩
  ·simp only [zb] at h5
   refine ⟨by decide, _, rfl, ?_⟩
   have h5' : sp.at_.tmod 2 = 1 := by omega
   refine zu (by simp only [zb]; omega) ?_
   refine zh (λ h6 => zq ?_) (λ h6 => zt ?_)
   ·simp only [zb] at h6
    refine zf (congrArg RV.b (Eq.symm (bad ?_)))
    have : sp.node.kind.toNat = 1 := by omega
    simp [okR, h5', this]
   simp only [zb] at h6
   refine zy (λ k : Nat => { F := [(1, .r (.b false)), (2, .own 0), (5, .r (I i)), (6, .r (I sp.at_)), (7, .own 1), (8, .r (I k))], O := [(0, some (.box (s.c.map .r))), (1, some (.box (sp.node.c.map .r)))], nx := 2 })
    (λ k => k <= sp.node.par.late.length /\ ∀ u ∈ sp.node.par.late.take k, zar (2 * u) sp.at_ = true) (λ k => sp.node.par.late.length - k) 0 ⟨by omega, by simp⟩
    (zac [(0, 0), (1, 1)] rfl ⟨cr, rfl, cr, zf (by rw [hsp]), rfl, cr, trivial⟩ ⟨zab _, (by rw [hsp]; exact zab s.opn[i].node.c), trivial⟩) ?_
   rintro k ⟨hk, hun⟩
   refine zh (λ h8 => zq ?_) (λ h8 => zt ?_)
   ·simp only [zb] at h8
    have hk' : k < sp.node.par.late.length := by omega
    have hu := hlateD _ (List.getElem_mem hk')
    unfold zax at hu
    refine zm (by omega) (by omega) (zah rfl hk') (zg rfl ?_)
    refine zd rfl (by omega) ?_
    refine Vcall.bool (zg3 _ _) (λ h9 => zw rfl (zt ?_)) (λ h9 => zu rfl (zq ?_))
    ·refine zd (m := ((k + 1 : Nat) : Int)) (by omega) (by omega) ?_
     exact ⟨k + 1, ⟨hk', zbr (p := λ u => zar (2 * u) sp.at_ = true) hk' hun h9⟩, by omega, zac [(0, 0), (1, 1)] rfl ⟨cr, rfl, cr, cr, rfl, cr, trivial⟩ ⟨zab _, zab sp.node.c, trivial⟩⟩
    ·refine zf (congrArg RV.b (Eq.symm (bad ?_)))
     have : sp.node.par.late.all (λ u => zar (2 * u) sp.at_) = false := zcd (List.getElem_mem hk') h9
     simp [okR, this]
   simp only [zb] at h8
   rw [List.take_of_length_le (by omega)] at hun
   have hall : sp.node.par.late.all (λ u => zar (2 * u) sp.at_) = true := by rw [List.all_eq_true]; exact hun
   have hok2 : okR s.leaves sp = true := by
    simp only [okR, hall, hr16, zb, Bool.and_eq_true, Bool.and_true, Bool.true_and, Bool.and_eq_false_iff]
    exact ⟨h3', h4', by omega, by omega⟩
   refine zd (m := ((i + 1 : Nat) : Int)) (by omega) (by omega) ?_
   exact ⟨i + 1, ⟨hi', zbr (p := λ x => okR s.leaves x = true) hi' hok (by rw [<- hsp]; exact hok2)⟩, by omega, zac [(0, 0)] rfl ⟨cr, rfl, cr, trivial⟩ ⟨zab _, trivial⟩⟩
 simp only [zb] at h2
 rw [List.take_of_length_le (by omega)] at hok
 have hallO : s.opn.all (okR s.leaves) = true := by rw [List.all_eq_true]; exact hok
 have hlateOk : zf3 s.opn := λ x hx => by
  have := hok x hx
  simp only [okR, Bool.and_eq_true] at this
  exact ⟨Node.late_len this.2.2.1, Node.right_late this.2.2.1⟩
 have hA64 : ∀ x ∈ s.opn.map (λ x => x.at_), i64 x := λ x hx => by
  obtain ⟨y, hy, rfl⟩ := List.mem_map.1 hx
  have := hok y hy
  simp only [okR, Bool.and_eq_true, decide_eq_true_eq] at this
  unfold i64
  omega
 have hS64 : ∀ x ∈ s.shut.map (λ x => x.at_), i64 x := λ x hx => by
  obtain ⟨y, hy, rfl⟩ := List.mem_map.1 hx
  exact hsi y hy
 rw [hallO, Bool.true_and] at hR
 refine zy (λ i : Nat => { F := [(1, .r (.b false)), (2, .own 0), (9, .r (I i))], O := [(0, some (.box (s.c.map .r)))], nx := 1 })
  (λ i => i <= s.shut.length /\ ∀ x ∈ s.shut.take i, x.hash.length = 32) (λ i => s.shut.length - i) 0 ⟨by omega, by simp⟩
  (zac [(0, 0)] rfl ⟨cr, rfl, cr, trivial⟩ ⟨zab _, trivial⟩) ?_
 rintro i2 ⟨hi2, hok2⟩
 refine zh (λ h3 => zq ?_) (λ h3 => zt ?_)
 ·simp only [zb] at h3
  have hi' : i2 < s.shut.length := by omega
  have hsl := hs4 _ (List.getElem_mem hi')
  refine zm (by omega) (by omega) (zd7 rfl hi') (zg rfl ?_)
  refine zh (λ h4 => zq ?_) (λ h4 => zt ?_)
  ·simp only [zb] at h4
   refine zf (congrArg RV.b (Eq.symm ?_))
   rw [hR, zcd (List.getElem_mem hi') (by simp only [decide_eq_false_iff_not]; omega)]
   rfl
  ·simp only [zb] at h4
   refine zd (m := ((i2 + 1 : Nat) : Int)) (by omega) (by omega) ?_
   exact ⟨i2 + 1, ⟨hi', zbr (p := λ x => x.hash.length = 32) hi' hok2 (by omega)⟩, by omega, zac [(0, 0)] rfl ⟨cr, rfl, cr, trivial⟩ ⟨zab _, trivial⟩⟩
 simp only [zb] at h3
 rw [List.take_of_length_le (by omega)] at hok2
 have hallS : s.shut.all (λ x => decide (x.hash.length = 32)) = true := by rw [List.all_eq_true]; intro x hx; exact decide_eq_true (hok2 x hx)
 rw [hallS, Bool.true_and] at hR
 refine zd rfl (by omega) ?_
 have gf := ze2 s.opn (2 * s.own) (by omega)
 have go := z8s s.opn s.leaves s.own hs1 hlateOk hf h0' h1'
 have gp := z50 s hs1 hs2
 have hO64 : ∀ x ∈ zci (zcu s.opn s.leaves s.own), i64 x := λ x hx => by
  have := zim (O := s.opn) hf h0' h1' x (zoc.1 hx)
  rw [zcm] at this
  unfold i64; omega
 have hSH64 : ∀ x ∈ zci (zfj s.opn s.leaves s.own), i64 x := λ x hx => by
  have := z3x (O := s.opn) hf h0' h1' x (zoc.1 hx)
  unfold i64; omega
 have gs1 := zjm _ _ hA64 hO64
 have gs2 := zjm _ _ hS64 hSH64
 generalize zci (zcu s.opn s.leaves s.own) = OL at *
 generalize zci (zfj s.opn s.leaves s.own) = SL at *
 cases hfd : zaj s.opn (2 * s.own) with
 | none =>
  have hl : zc2 s = false := by simp [zc2, hfd]
  rw [hl, Bool.false_and] at hR
  rw [hfd] at gf
  refine ze gf ?_
  refine ze go ?_
  refine za rfl rfl ?_
  refine ze gp ?_
  refine zw rfl ?_
  exact zf (congrArg RV.b hR.symm)
 | some m =>
  rw [hfd] at gf
  have hl : zc2 s = decide (m.kind.toNat = 1) := by simp [zc2, hfd]
  rw [hl] at hR
  refine ze gf ?_
  refine ze go ?_
  refine za rfl rfl ?_
  refine ze gp ?_
  refine zh (λ h5 => ?_) (λ h5 => ?_)
  ·simp only [zb] at h5
   have h5' : m.kind.toNat = 1 := by omega
   rw [decide_eq_true h5', Bool.true_and] at hR
   cases hB : zjy s.opn s.leaves s.own with
   | false =>
    rw [hB, Bool.false_and] at hR
    exact zf (congrArg RV.b hR.symm)
   | true =>
    rw [hB, Bool.true_and] at hR
    refine Vcall.bool gs1 (λ h6 => ?_) (λ h6 => ?_)
    ·rw [h6, Bool.true_and] at hR
     refine ze gs2 ?_
     exact zf (congrArg RV.b hR.symm)
    ·rw [h6, Bool.false_and] at hR
     exact zf (congrArg RV.b hR.symm)
  ·simp only [zb] at h5
   have h5' : ¬ m.kind.toNat = 1 := by omega
   rw [decide_eq_false h5', Bool.false_and] at hR
   exact zf (congrArg RV.b hR.symm)
end
section
def endR (n i : Nat) (x : List Spot × List Stub) (r : List UInt8) : PR Lean_ := if r.length = 0 then (if asR ⟨n, i, x.1, x.2⟩ then .ok ⟨n, i, x.1, x.2⟩ [] else .err 3) else .err 5
def ref2 (n i : Nat) (r : List UInt8) : PR Lean_ := match zav n.log2 0 r with
 | .err e => .err e
 | .ok x r => endR n i x r
def ref1 (n : Nat) (r : List UInt8) : PR Lean_ := match numP 4 (λ i => decide ((i : Int) < n)) r with
 | .err e => .err e
 | .ok i r => ref2 n i r
def ref0 (r : List UInt8) : PR Lean_ := match numP 4 (λ n => zau n) r with
 | .err e => .err e
 | .ok n r => ref1 n r
def refP (b : List UInt8) : PR Lean_ := if 1048576 < b.length then .err 6 else match numP 1 (λ n => decide ((n : Int) = 1)) b with
 | .err e => .err e
 | .ok _ r => ref0 r
def refS (q : PR Lean_) : RV := match q with
 | .err e => .tu [.ag zero4, I e]
 | .ok s _ => .tu [.ag s.c, I 0]
theorem zio {h k : Nat} {l r : List UInt8} {x : List Spot × List Stub} (hl : l.length <= 100000000) (hq : zav h k l = .ok x r) :
  (∀ s ∈ x.1, s.node.fit) /\ (∀ s ∈ x.2, s.hash.length = 32) /\ (∀ s ∈ x.1, inR h k s.at_) /\ (∀ s ∈ x.2, inR h k s.at_) /\ x.1.length + x.2.length + 1 <= 2 ^ (h + 1) := by
 have := zsw h k l
 rw [hq] at this
 obtain ⟨y, hy, hp⟩ := this
 obtain ⟨f1, f2⟩ := zn7 h k hl hy
 obtain ⟨i1, i2, _⟩ := zhz h k hy
 have hc := zky h k hy
 simp only [hp.length_eq] at hc
 exact ⟨λ s hs => f1 s (hp.mem_iff.2 hs), f2, λ s hs => i1 s (hp.mem_iff.2 hs), i2, hc⟩
theorem zahb (c : UInt8) (r : List UInt8) : numA 0 ((c :: r).take 1) = c.toNat := by simp [numA]
set_option maxHeartbeats 4000000 in
theorem z91 (b : List UInt8) : zae Tryz.prog 75 [bs b, .i .u8 1] (.r (refS (refP b))) := by
 refine zad (T := Tab) zaf Tab_ok Tryz.func75 rfl (by kernel_rfl) ?_
 by_cases h6 : 1048576 < b.length
 ·have eR : refP b = .err 6 := by unfold refP; rw [if_pos h6]
  refine zu (by simp only [zb]; omega) (zq ?_)
  refine za rfl rfl ?_
  exact ⟨_, rfl, zf (by rw [eR]; rfl)⟩
 refine zw (by simp only [zb]; omega) (zt ?_)
 cases b with
 | nil =>
  have eR : refP [] = .err 4 := rfl
  refine zu rfl (zq ?_)
  refine za rfl rfl ?_
  exact ⟨_, rfl, zf (by rw [eR]; rfl)⟩
 | cons c q =>
  obtain ⟨b, hb⟩ : ∃ b, b = c :: q := ⟨_, rfl⟩
  have hbl : b.length = q.length + 1 := by rw [hb]; rfl
  have hb0 : ∀ h : 0 < b.length, b[0] = c := λ h => by subst hb; rfl
  have hd1 : b.drop 1 = q := by rw [hb]; rfl
  have e0 : refP b = (if (c.toNat : Int) = 1 then ref0 q else .err 3) := by
   unfold refP numP
   rw [hb, if_neg h6, if_neg (by simp)]
   simp only [zahb]
   by_cases h1 : (c.toNat : Int) = 1
   ·rw [if_pos (decide_eq_true h1), if_pos h1]; rfl
   ·rw [if_neg (by simpa using h1), if_neg h1]
  rw [<- hb] at h6 ⊢
  clear hb
  refine zw (by simp only [zb]; omega) (zt ?_)
  refine zm (by omega) (by omega) (zcz (l := b) (c := c) (j := 0) rfl (by omega) (hb0 (by omega))) (zg rfl ?_)
  by_cases h1 : (c.toNat : Int) = 1
  rotate_left
  ·have eR : refP b = .err 3 := by rw [e0, if_neg h1]
   refine zu (by simp only [zb]; omega) (zq ?_)
   refine za rfl rfl ?_
   exact ⟨_, rfl, zf (by rw [eR]; rfl)⟩
  rw [if_pos h1] at e0
  refine zw (by simp only [zb]; omega) (zt ?_)
  by_cases h5 : b.length < 5
  ·have eR : refP b = .err 4 := by rw [e0]; unfold ref0 numP; rw [if_pos (by omega)]
   refine zu (by simp only [zb]; omega) (zq ?_)
   refine za rfl rfl ?_
   exact ⟨_, rfl, zf (by rw [eR]; rfl)⟩
  refine zw (by simp only [zb]; omega) (zt ?_)
  obtain ⟨n, hn⟩ : ∃ n, n = numA 0 (q.take 4) := ⟨_, rfl⟩
  have hnb := zrj (.inr rfl) q
  have gn := zrb b 1 (by omega) (by omega)
  rw [hd1, <- hn] at gn
  rw [<- hn] at hnb
  have e1 : refP b = (if zau n = true then ref1 n (q.drop 4) else .err 3) := by
   rw [e0]; unfold ref0 numP; rw [if_neg (by omega), <- hn]
   by_cases hf : zau n = true
   ·rw [if_pos hf, if_pos hf]
   ·rw [if_neg hf, if_neg hf]
  refine ze gn ?_
  refine Vcall.bool (zqd n) (λ hf => zw rfl (zt ?_)) (λ hf => zu rfl (zq ?_))
  rotate_left
  ·have eR : refP b = .err 3 := by rw [e1, if_neg (by rw [hf]; simp)]
   refine za rfl rfl ?_
   exact ⟨_, rfl, zf (by rw [eR]; rfl)⟩
  rw [if_pos hf] at e1
  have hbd := zd5 hf
  by_cases h9 : b.length < 9
  ·have eR : refP b = .err 4 := by rw [e1]; unfold ref1 numP; rw [if_pos (by rw [List.length_drop]; omega)]
   refine zu (by simp only [zb]; omega) (zq ?_)
   refine za rfl rfl ?_
   exact ⟨_, rfl, zf (by rw [eR]; rfl)⟩
  refine zw (by simp only [zb]; omega) (zt ?_)
  have hd5 : b.drop 5 = q.drop 4 := by rw [<- hd1, List.drop_drop]
  obtain ⟨i, hi⟩ : ∃ i, i = numA 0 ((q.drop 4).take 4) := ⟨_, rfl⟩
  have hib := zrj (.inr rfl) (q.drop 4)
  have gi := zrb b 5 (by omega) (by omega)
  rw [hd5, <- hi] at gi
  rw [<- hi] at hib
  have hd9 : b.drop 9 = (q.drop 4).drop 4 := by rw [<- hd5, List.drop_drop]
  obtain ⟨r2, hr2⟩ : ∃ r, r = b.drop 9 := ⟨_, rfl⟩
  have hl2 : r2.length = b.length - 9 := by rw [hr2, List.length_drop]
  have e2 : refP b = (if (i : Int) < n then ref2 n i r2 else .err 3) := by
   rw [e1]; unfold ref1 numP; rw [if_neg (by rw [List.length_drop]; omega), <- hi, hr2, hd9]
   by_cases hf : (i : Int) < n
   ·rw [if_pos (decide_eq_true hf), if_pos hf]
   ·rw [if_neg (by simpa using hf), if_neg hf]
  refine ze gi ?_
  by_cases hin : (i : Int) < n
  rotate_left
  ·have eR : refP b = .err 3 := by rw [e2, if_neg hin]
   refine zu (by simp only [zb]; omega) (zq ?_)
   refine za rfl rfl ?_
   exact ⟨_, rfl, zf (by rw [eR]; rfl)⟩
  rw [if_pos hin] at e2
  refine zw (by simp only [zb]; omega) (zt ?_)
  obtain ⟨d, hd, hnd⟩ := zdu hf
  have hn2 : n = 2 ^ d := by omega
  have hdl : n.log2 = d := by rw [hn2, Nat.log2_two_pow]
  have hroot : (n : Int) - 1 = (nd d 0 : Int) := by rw [zfo, hnd]
  have e3 : refP b = (match zav d 0 r2 with | .err e => .err e | .ok x r => endR n i x r) := by rw [e2]; unfold ref2; rw [hdl]
  have gr := zw0 b (by omega) d 9 0 hd (by omega) (zag _)
  unfold zfa at gr
  rw [<- hr2] at gr
  refine zd (m := (nd d 0 : Int)) (by omega) (by omega) ?_
  cases hQ : zav d 0 r2 with
  | err e =>
   have he := zir d 0 hQ
   have eR : refP b = .err e := by rw [e3, hQ]
   rw [hQ] at gr
   refine ze gr ?_
   refine zu (by simp only [zb]; omega) (zq ?_)
   refine za rfl rfl ?_
   exact ⟨_, rfl, zf (by rw [eR]; rfl)⟩
  | ok x r3 =>
   obtain ⟨f1, f2, f3, f4, f5⟩ := zio (by omega) hQ
   have hlen := zj3 d 0 hQ
   have hpw : 2 ^ (d + 1) <= 131072 := Nat.pow_le_pow_right (n := 2) (by omega) (show d + 1 <= 17 by omega)
   replace e3 : refP b = endR n i x r3 := by rw [e3, hQ]
   rw [hQ] at gr
   refine ze gr ?_
   refine zw rfl (zt ?_)
   by_cases h0 : r3.length = 0
   rotate_left
   ·have eR : refP b = .err 5 := by rw [e3]; unfold endR; rw [if_neg h0]
    refine zu (decide_eq_true (by show nxt b r3 < (b.length : Int); unfold nxt; omega)) (zq ?_)
    refine za rfl rfl ?_
    exact ⟨_, rfl, zf (by rw [eR]; rfl)⟩
   have e4 : refP b = (if asR ⟨n, i, x.1, x.2⟩ then .ok ⟨n, i, x.1, x.2⟩ [] else .err 3) := by rw [e3]; unfold endR; rw [if_pos h0]
   refine zw (decide_eq_false (by show ¬ nxt b r3 < (b.length : Int); unfold nxt; omega)) (zt ?_)
   refine za rfl rfl ?_
   refine zw rfl ?_
   have ga := z4r ⟨n, i, x.1, x.2⟩ ⟨by simp only; omega, by simp only; omega, f1, λ s hs => by rw [f2 s hs]; decide⟩ λ s hs => zlf hd (zag _) (f4 s hs)
   refine Vcall.bool ga (λ hp => zw rfl (zt ?_)) (λ hp => zu rfl (zq ?_))
   ·refine za rfl rfl ?_
    refine za rfl rfl ?_
    exact ⟨_, rfl, zf (by rw [e4, if_pos hp]; rfl)⟩
   ·refine za rfl rfl ?_
    exact ⟨_, rfl, zf (by rw [e4, if_neg (by rw [hp]; simp)]; rfl)⟩
theorem z7m {b r : List UInt8} {s : Lean_} (h : refP b = .ok s r) : ∃ (d n i : Nat) (l : List UInt8) (x : List Spot × List Stub), d <= 16 /\ n = 2 ^ d /\ i < n /\ l.length <= 1048576 /\ zav d 0 l = .ok x [] /\ s = ⟨n, i, x.1, x.2⟩ /\ asR s = true := by
 unfold refP at h
 split at h
 ·cases h
 rename_i hb
 cases h0 : numP 1 (λ n => decide ((n : Int) = 1)) b with
 | err e' => rw [h0] at h; cases h
 | ok m r0 =>
  rw [h0] at h
  simp only [ref0] at h
  obtain ⟨_, hr0⟩ := zeo h0
  cases h1 : numP 4 (λ n => zau n) r0 with
  | err e' => rw [h1] at h; cases h
  | ok n r1 =>
   rw [h1] at h
   simp only [ref1] at h
   obtain ⟨hf, hr1⟩ := zeo h1
   cases h2 : numP 4 (λ i => decide ((i : Int) < n)) r1 with
   | err e' => rw [h2] at h; cases h
   | ok i r2 =>
    rw [h2] at h
    simp only [ref2] at h
    obtain ⟨hi, hr2⟩ := zeo h2
    simp only [decide_eq_true_eq] at hi
    obtain ⟨d, hd, hn⟩ := zdu hf
    have hn2 : n = 2 ^ d := by omega
    have hdl : n.log2 = d := by rw [hn2, Nat.log2_two_pow]
    have hl2 : r2.length <= 1048576 := by rw [hr2, hr1, hr0, List.length_drop, List.length_drop, List.length_drop]; omega
    rw [hdl] at h
    cases h3 : zav d 0 r2 with
    | err e' => rw [h3] at h; cases h
    | ok y r3 =>
     rw [h3] at h
     simp only [endR] at h
     split at h
     ·rename_i h5
      split at h
      ·rename_i hp
       injection h with h4 h6
       subst h4
       rw [List.eq_nil_of_length_eq_zero h5] at h3
       exact ⟨d, n, i, r2, y, hd, hn2, by omega, hl2, h3, rfl, hp⟩
      ·cases h
     ·cases h
theorem z5j {b : List UInt8} {e : Nat} (h : refP b = .err e) : 3 <= e /\ e <= 6 := by
 unfold refP at h
 split at h
 ·injection h with h; omega
 cases h0 : numP 1 (λ n => decide ((n : Int) = 1)) b with
 | err e' => rw [h0] at h; injection h with h; have := ze8 h0; omega
 | ok m r0 =>
  rw [h0] at h
  simp only [ref0] at h
  cases h1 : numP 4 (λ n => zau n) r0 with
  | err e' => rw [h1] at h; injection h with h; have := ze8 h1; omega
  | ok n r1 =>
   rw [h1] at h
   simp only [ref1] at h
   cases h2 : numP 4 (λ i => decide ((i : Int) < n)) r1 with
   | err e' => rw [h2] at h; injection h with h; have := ze8 h2; omega
   | ok i r2 =>
    rw [h2] at h
    simp only [ref2] at h
    cases h3 : zav n.log2 0 r2 with
    | err e' => rw [h3] at h; injection h with h; have := zir _ _ h3; omega
    | ok y r3 =>
     rw [h3] at h
     simp only [endR] at h
     split at h
     ·split at h
      ·cases h
      ·injection h with h; omega
     ·injection h with h; omega
def lvS (s : Lean_) : Nat := s.leaves.toNat.log2
def ziu (b h : List UInt8) (i : Int) : PR Lean_ := match refP b with
 | .err e => .err e
 | .ok s r => if s.own = i then (if za3 s (lvS s) 0 = h then .ok s r else .err 17) else .err 7
set_option maxHeartbeats 2000000 in
theorem z4x (b h : List UInt8) (i : Int) : zae Tryz.prog 36 [bs b, bs h, I i, .i .u8 1] (.r (refS (ziu b h i))) := by
 have go := z91 b
 refine zad (T := Tab) zaf Tab_ok Tryz.func36 rfl (by kernel_rfl) ?_
 cases hq : refP b with
 | err e =>
  have he := z5j hq
  have eR : ziu b h i = .err e := by unfold ziu; rw [hq]
  rw [hq] at go
  simp only [refS] at go
  refine ze go ?_
  refine zu (by simp only [zb]; omega) (zq ?_)
  refine za rfl rfl ?_
  exact ⟨_, rfl, zf (by rw [eR]; rfl)⟩
 | ok s r =>
  obtain ⟨d, n, o, l, x, hd, hn, ho, hl, hx, hs, ha⟩ := z7m hq
  obtain ⟨f1, f2, f3, f4, f5⟩ := zio (by omega) hx
  have hpw : 2 ^ (d + 1) <= 131072 := Nat.pow_le_pow_right (n := 2) (by omega) (show d + 1 <= 17 by omega)
  have eR : ziu b h i = (if s.own = i then (if za3 s (lvS s) 0 = h then .ok s r else .err 17) else .err 7) := by unfold ziu; rw [hq]
  rw [hq] at go
  simp only [refS] at go
  have hfit : s.fitN := by rw [hs]; exact ⟨by simp only; omega, by simp only; omega, f1, λ s hs => by rw [f2 s hs]; decide⟩
  have hln : s.leaves = ((2 ^ d : Nat) : Int) := by rw [hs, hn]
  have hlv : lvS s = d := by unfold lvS; rw [hln, Int.toNat_natCast, Nat.log2_two_pow]
  have hrr : ∀ x ∈ s.opn, x.node.right = true := λ y hy => by
   simp only [asR, Bool.and_eq_true, List.all_eq_true] at ha
   have := ha.2.2.2.1 y hy
   simp only [okR, Bool.and_eq_true] at this
   exact this.2.2.1
  have gh := zwq (λ l hl => zv5 l hl) s hfit hrr d hd hln
  rw [hlv] at eR
  clear hs
  refine ze go ?_
  refine zw rfl (zt ?_)
  refine zh (λ h1 => zq ?_) (λ h1 => zt ?_)
  ·simp only [zb] at h1
   refine za rfl rfl ?_
   exact ⟨_, rfl, zf (by rw [eR, if_neg h1]; rfl)⟩
  simp only [zb] at h1
  rw [if_pos h1] at eR
  refine za rfl rfl ?_
  refine ze gh ?_
  refine Vcall.bool (zjt (za3 s d 0) h) (λ h2 => zw rfl (zt ?_)) (λ h2 => zu rfl (zq ?_))
  ·simp only [zb] at h2
   refine za rfl rfl ?_
   refine za rfl rfl ?_
   exact ⟨_, rfl, zf (by rw [eR, if_pos h2]; rfl)⟩
  ·simp only [zb] at h2
   refine za rfl rfl ?_
   exact ⟨_, rfl, zf (by rw [eR, if_neg h2]; rfl)⟩
end
end Go.Proofs.YtpdllgbfemnemaaGreat.Sx
