import Derived.Test.YtpdllgbfemnemaaGreatZKc
import Derived.Test.YtpdllgbfemnemaaGreatZRefC
import Derived.Test.YtpdllgbfemnemaaGreatZSxX
namespace Go.Proofs.YtpdllgbfemnemaaGreat.Sx
open Go.RowKit
section
theorem zwt (p : Par) (hp : p.fit) : zae Tryz.prog 84 [.ag p.c] (.r (.b p.right)) := by
 refine zad (T := Tab) zaf Tab_ok Tryz.func84 rfl (by kernel_rfl) ?_
 obtain ⟨hp1, hp2, hp3, hp4⟩ := hp
 refine zy (λ i : Nat × Int => { F := [(1, .own 0), (3, .r (I i.1))], O := [(0, some (.box (p.c.map .r)))], nx := 1 })
  (λ i => i.1 <= p.late.length /\ zey (-1) p.late = zey i.2 (p.late.drop i.1) /\ -1 <= i.2 /\ (i.1 = 0 -> i.2 = -1) /\ ∀ h : 0 < i.1 /\ i.1 - 1 < p.late.length, i.2 = p.late[i.1 - 1]) (λ i => p.late.length - i.1) (0, -1) ⟨by simp, by simp, by simp, by simp, by simp⟩ (zac [(0, 0)] rfl ⟨rfl, cr, trivial⟩ ⟨zab _, trivial⟩) ?_
 rintro ⟨j, last⟩ ⟨hj, hlate, hge, h0, hpos⟩
 simp only at hj hlate hge h0 hpos
 refine zh (λ h => zq ?_) (λ h => zt ?_)
 ·simp only [zb] at h
  have hj' : j < p.late.length := by omega
  have hx := hp4 _ (List.getElem_mem hj')
  rw [List.drop_eq_getElem_cons hj'] at hlate
  simp only [zey] at hlate
  refine Vdraw.mk' (by kernel_rfl) ?_
  refine zm (by omega) (by omega) (zah rfl hj') (zg rfl ?_)
  have bad : ¬ (last < p.late[j] /\ p.late[j] < 65536) -> RV.b false = RV.b p.right := λ hh => by simp [Par.right, hlate, hh]
  have good : last < p.late[j] /\ p.late[j] < 65536 -> ∃ i' : Nat × Int, (i'.1 <= p.late.length /\ zey (-1) p.late = zey i'.2 (p.late.drop i'.1) /\ -1 <= i'.2 /\ (i'.1 = 0 -> i'.2 = -1) /\ ∀ h : 0 < i'.1 /\ i'.1 - 1 < p.late.length, i'.2 = p.late[i'.1 - 1]) /\ i'.1 = j + 1 := λ hh => by
   rw [decide_eq_true hh, Bool.true_and] at hlate
   exact ⟨(j + 1, p.late[j]), ⟨by simp only; omega, hlate, by simp only; omega, by simp, λ _ => rfl⟩, rfl⟩
  refine zh (λ h1 => zq (zf (bad ?_))) (λ h1 => ?_)
  ·simp only [zb] at h1; omega
  ·simp only [zb] at h1
   refine zm (by omega) (by omega) (zah rfl hj') (zg rfl ?_)
   refine zh (λ h2 => zq (zf (bad ?_))) (λ h2 => ?_)
   ·simp only [zb] at h2; omega
   ·simp only [zb] at h2
    refine zh (λ h3 => ?_) (λ h3 => ?_)
    ·simp only [zb] at h3
     have hj0 : 0 < j := by omega
     have hlast := hpos ⟨hj0, by omega⟩
     refine zd (m := ((j - 1 : Nat) : Int)) (by omega) (by omega) ?_
     refine zm (by omega) (by omega) (zah rfl (show j - 1 < p.late.length by omega)) (zg rfl ?_)
     refine zm (by omega) (by omega) (zah rfl hj') (zg rfl ?_)
     refine zh (λ h4 => zq (zf (bad ?_))) (λ h4 => zt ?_)
     ·simp only [zb] at h4; omega
     ·simp only [zb] at h4
      refine zd (m := ((j + 1 : Nat) : Int)) (by omega) (by omega) ?_
      obtain ⟨i', hi, he⟩ := good (by omega)
      exact ⟨i', hi, by omega, he ▸ zac [(0, 0)] rfl ⟨rfl, cr, trivial⟩ ⟨zab _, trivial⟩⟩
    ·simp only [zb] at h3
     refine zt ?_
     refine zd (m := ((j + 1 : Nat) : Int)) (by omega) (by omega) ?_
     obtain ⟨i', hi, he⟩ := good (by have := h0 (by omega); omega)
     exact ⟨i', hi, by omega, he ▸ zac [(0, 0)] rfl ⟨rfl, cr, trivial⟩ ⟨zab _, trivial⟩⟩
 ·simp only [zb] at h
  have : p.late.drop j = [] := List.drop_eq_nil_of_le (by omega)
  rw [this] at hlate
  simp only [zey] at hlate
  (repeat' (first | refine zh (λ h => ?_) (λ h => ?_) | refine zf ?_ | refine zq ?_ | refine zt ?_))
  all_goals refine congrArg RV.b (Eq.symm ?_)
  all_goals simp only [Par.right, hlate, Bool.true_and, zb] at *
  all_goals omega
theorem z2i (l : Leaf) (hl : l.fit) : zae Tryz.prog 191 [.ag l.c] (bch (zdy l)) := by
 refine zad (T := Tab) zaf Tab_ok Tryz.func191 rfl (by kernel_rfl) ?_
 obtain ⟨l1, l2, l3, l4, l5⟩ := hl
 have w1 := za9 l.box
 have w2 := za9 l.sign
 have w3 := za9 l.ident
 have w4 := za9 l.parent
 refine Vdraw.mk' (by kernel_rfl) ?_
 refine ze (zef l.box (by omega)) ?_
 refine ze (zef l.sign (by omega)) ?_
 refine ze (zc6 (vecB l.box) (vecB l.sign) (by omega) (by omega)) ?_
 refine ze (zef l.ident (by omega)) ?_
 refine zx ?_
 refine ze (zc6 (vecB l.ident) [l.src] (by omega) (by simp)) ?_
 refine ze (zc6 (vecB l.box ++ vecB l.sign) (vecB l.ident ++ [l.src]) (by simp; omega) (by simp; omega)) ?_
 refine zh (λ h => zq ?_) (λ h => zt ?_)
 ·simp only [zb] at h
  have h' : l.src.toNat = 3 := by omega
  refine ze (zef l.parent (by omega)) ?_
  refine ze (zc6 (vecB l.box ++ vecB l.sign ++ (vecB l.ident ++ [l.src])) (vecB l.parent) (by simp; omega) (by omega)) ?_
  exact zhs (by simp [zdy, h'])
 ·simp only [zb] at h
  have h' : l.src.toNat ≠ 3 := by omega
  exact zhs (by simp [zdy, h'])
theorem zn0 (l : Leaf) (hl : l.fit) : (zdy l).length <= 5000000000 := by
 obtain ⟨l1, l2, l3, l4, l5⟩ := hl
 have w1 := za9 l.box
 have w2 := za9 l.sign
 have w3 := za9 l.ident
 have w4 := za9 l.parent
 simp only [zdy, List.length_append, List.length_cons, List.length_nil]
 split <;> simp <;> omega
theorem zu5 (l : Leaf) (hl : l.fit) : zae Tryz.prog 161 [.ag l.c] (bch (zdy l ++ vecB l.sig)) := by
 refine zad (T := Tab) zaf Tab_ok Tryz.func161 rfl (by kernel_rfl) ?_
 have w := za9 l.sig
 have w2 := zn0 l hl
 obtain ⟨_, _, _, _, l5⟩ := id hl
 refine Vdraw.mk' (by kernel_rfl) ?_
 refine za rfl rfl ?_
 refine ze (z2i l hl) ?_
 refine ze (zef l.sig (by omega)) ?_
 refine ze (zc6 (zdy l) (vecB l.sig) (by omega) (by omega)) ?_
 rfl
end
section
def z9p (n : Node) : Nat -> St
 | 0 => { F := [(1, .own 0), (3, .r (bs [])), (4, .r (I ((0 : Nat) : Int)))], O := [(0, some (.box (n.c.map .r)))], nx := 1 }
 | j + 1 => { F := [(1, .own 0), (3, .own 1), (4, .r (I ((j + 1 : Nat) : Int)))], O := [(0, some (.box (n.c.map .r))), (1, some (.ch 5 1 (zcw (n.par.late.take (j + 1))).length ((zcw (n.par.late.take (j + 1))).map U8) true))], nx := 2 }
theorem zro {l : List Int} {j : Nat} (hj : j < l.length) : zcw (l.take j) ++ beB 4 (l[j].toNat) = zcw (l.take (j + 1)) := by
 rw [List.take_add_one, List.getElem?_eq_getElem hj]
 simp only [zcw, Option.toList, List.flatMap_append, List.flatMap_cons, List.flatMap_nil, List.append_nil]
theorem zt5 (n : Node) (hn : n.fit) (hr : n.kind.toNat = 2 -> ∀ x ∈ n.par.late, 0 <= x /\ x < 65536) : zae Tryz.prog 123 [.ag n.c] (bch (zbv n)) := by
 refine zad (T := Tab) zaf Tab_ok Tryz.func123 rfl (by kernel_rfl) ?_
 have w2 := zn0 n.leaf hn.1
 have w3 := za9 n.leaf.sig
 obtain ⟨hl, h1, h2, h3, _⟩ := id hn
 obtain ⟨_, _, _, _, l5⟩ := id hl
 refine zh (λ h => zq ?_) (λ h => zt ?_)
 ·simp only [zb] at h
  have h' : n.kind.toNat = 1 := by omega
  refine zx ?_
  refine za rfl rfl ?_
  refine ze (zu5 n.leaf hl) ?_
  refine ze (zc6 [1] (zdy n.leaf ++ vecB n.leaf.sig) (by simp) (by simp; omega)) ?_
  exact zhs (by simp [zbv, h'])
 ·simp only [zb] at h
  have h' : n.kind.toNat ≠ 1 := by omega
  refine zh (λ hk => zq ?_) (λ hk => zt ?_)
  ·simp only [zb] at hk
   have hk' : n.kind.toNat = 2 := by omega
   have hr' := hr hk'
   have hll := zgz n.par.late
   have vd1 := za9 n.par.box
   have vd2 := za9 n.par.hash
   have hlen : ∀ j, j <= n.par.late.length -> (zcw (n.par.late.take j)).length = 4 * j := λ j hj => by rw [zgz, List.length_take]; omega
   refine zy (z9p n) (λ j => j <= n.par.late.length) (λ j => n.par.late.length - j) 0 (by omega) (zac [(0, 0)] rfl ⟨rfl, Cv.nil _, cr, trivial⟩ ⟨zab _, trivial⟩) ?_
   intro j hj
   rcases j with _ | j
   ·refine zh (λ h => zq ?_) (λ h => zt ?_)
    ·simp only [zb] at h
     have hj' : 0 < n.par.late.length := by omega
     refine zm (by omega) (by omega) (zah rfl hj') (zg rfl ?_)
     refine ⟨((n.par.late[0].toNat : Nat) : Int), (zg1 _ (hr' _ (List.getElem_mem hj'))).symm, ?_⟩
     refine ze (zsx 4 n.par.late[0].toNat (by omega) (by have := hr' _ (List.getElem_mem hj'); omega)) ?_
     refine ze (zc6 [] (beB 4 n.par.late[0].toNat) (by simp) (by rw [zbj]; omega)) ?_
     refine zd (m := ((0 + 1 : Nat) : Int)) (by omega) (by omega) ?_
     exact ⟨0 + 1, hj', by omega, zac [(0, 0), (1, 2)] rfl ⟨rfl, rfl, cr, trivial⟩ ⟨zab _, cvCh (zro hj'), trivial⟩⟩
    ·simp only [zb] at h
     have e : n.par.late = [] := List.eq_nil_of_length_eq_zero (by omega)
     refine Vdraw.mk' (by kernel_rfl) ?_
     refine zx ?_
     refine ze (zef n.par.box (by omega)) ?_
     refine ze (zc6 [2] (vecB n.par.box) (by simp) (by omega)) ?_
     refine ze (zef n.par.hash (by omega)) ?_
     refine ze (zef [] (by simp)) ?_
     refine ze (zc6 (vecB n.par.hash) (vecB []) (by omega) (by simp [zqe]; have := zjl 0; omega)) ?_
     refine ze (zc6 ([2] ++ vecB n.par.box) (vecB n.par.hash ++ vecB []) (by simp; omega) (by have := zjl 0; simp [zqe] at *; omega)) ?_
     exact zhs (by simp [zbv, hk', parB, e, zcw])
   ·refine zh (λ h => zq ?_) (λ h => zt ?_)
    ·simp only [zb] at h
     have hj' : j + 1 < n.par.late.length := by omega
     refine zm (by omega) (by omega) (zah rfl hj') (zg rfl ?_)
     refine ⟨((n.par.late[j + 1].toNat : Nat) : Int), (zg1 _ (hr' _ (List.getElem_mem hj'))).symm, ?_⟩
     refine ze (zsx 4 n.par.late[j + 1].toNat (by omega) (by have := hr' _ (List.getElem_mem hj'); omega)) ?_
     refine ze (zc6 (zcw (n.par.late.take (j + 1))) (beB 4 n.par.late[j + 1].toNat) (by rw [hlen _ hj]; omega) (by rw [zbj]; omega)) ?_
     refine zd (m := ((j + 1 + 1 : Nat) : Int)) (by omega) (by omega) ?_
     exact ⟨j + 1 + 1, hj', by omega, zac [(0, 0), (1, 3)] rfl ⟨rfl, rfl, cr, trivial⟩ ⟨zab _, cvCh (zro hj'), trivial⟩⟩
    ·simp only [zb] at h
     have e : n.par.late.take (j + 1) = n.par.late := List.take_of_length_le (by omega)
     have w4 := za9 (zcw (n.par.late.take (j + 1)))
     have w5 := hlen _ hj
     refine Vdraw.mk' (by kernel_rfl) ?_
     refine zx ?_
     refine ze (zef n.par.box (by omega)) ?_
     refine ze (zc6 [2] (vecB n.par.box) (by simp) (by omega)) ?_
     refine ze (zef n.par.hash (by omega)) ?_
     refine ze (zef (zcw (n.par.late.take (j + 1))) (by omega)) ?_
     refine ze (zc6 (vecB n.par.hash) (vecB (zcw (n.par.late.take (j + 1)))) (by omega) (by omega)) ?_
     refine ze (zc6 ([2] ++ vecB n.par.box) (vecB n.par.hash ++ vecB (zcw (n.par.late.take (j + 1)))) (by simp; omega) (by simp; omega)) ?_
     exact zhs (by simp [zbv, hk', parB, e])
  ·simp only [zb] at hk
   have hk' : n.kind.toNat ≠ 2 := by omega
   refine zx ?_
   exact zhs (m := zbv n) (l := [0]) (by simp [zbv, h', hk'])
def zkb (i : Int) (n : Node) : List UInt8 := 1 :: (beB 4 i.toNat ++ zbv n)
theorem zfz (n : Node) (hn : n.fit) : (zbv n).length <= 10000000000 := by
 have w2 := zn0 n.leaf hn.1
 have w3 := za9 n.leaf.sig
 obtain ⟨hl, h1, h2, h3, _⟩ := id hn
 obtain ⟨_, _, _, _, l5⟩ := id hl
 have hll := zgz n.par.late
 have vd1 := za9 n.par.box
 have vd2 := za9 n.par.hash
 have w4 := za9 (zcw n.par.late)
 unfold zbv parB
 split
 ·simp; omega
 ·split
  ·simp; omega
  ·simp
theorem z0o (i : Int) (n : Node) (hn : n.fit) : zae Tryz.prog 88 [I i, .ag n.c] (.r (if i < 0 \/ 65536 <= i then .tu [bs [], .i .u8 1] else if n.right = false \/ n.kind.toNat = 2 then .tu [bs [], .i .u8 3] else .tu [bs (zkb i n), .i .u8 0])) := by
 refine zad (T := Tab) zaf Tab_ok Tryz.func88 rfl (by kernel_rfl) ?_
 have hnl := zfz n hn
 have nil1 : ∀ (c : Int), Cv (.tu [ofC (.slice none 0 0), .i .u8 c]) (.tu [bs [], .i .u8 c]) := λ c => Cv.tu (zk (Cv.nil 1) (zn _))
 refine zh (λ h1 => zq ?_) (λ h1 => ?_)
 ·simp only [zb] at h1
  refine ⟨_, rfl, ?_⟩
  rw [if_pos (.inl h1)]
  exact nil1 1
 ·refine zh (λ h2 => zq ?_) (λ h2 => zt ?_)
  ·simp only [zb] at h1 h2
   refine ⟨_, rfl, ?_⟩
   rw [if_pos (.inr (by omega))]
   exact nil1 1
  ·simp only [zb] at h1 h2
   rw [if_neg (show ¬ (i < 0 \/ 65536 <= i) by omega)]
   refine za rfl rfl ?_
   refine ze (zms n hn) ?_
   cases hr : n.right with
   | false =>
    refine zu rfl (zq ?_)
    refine ⟨_, rfl, ?_⟩
    rw [if_pos (.inl rfl)]
    exact nil1 3
   | true =>
    refine zw rfl ?_
    refine zh (λ h3 => zq ?_) (λ h3 => zt ?_)
    ·simp only [zb] at h3
     refine ⟨_, rfl, ?_⟩
     rw [if_pos (.inr (by omega))]
     exact nil1 3
    ·simp only [zb] at h3
     refine zx ?_
     refine ⟨((i.toNat : Nat) : Int), (zg1 _ (by omega)).symm, ?_⟩
     refine ze (zp0 [1] 4 i.toNat (by simp) (by omega)) ?_
     refine Vapp.mk' (j := ([1] ++ beB 4 i.toNat ++ zbv n).length) (zs := ([1] ++ beB 4 i.toNat ++ zbv n).map U8) (by simp [maxLen, zbj]; omega) (by simp [zbj]; omega) (by simp; omega) (by simp) ?_
     refine ⟨_, rfl, zf ?_⟩
     rw [if_neg (by simp; omega)]
     rfl
end
section
theorem zpm (n : Int) : ∀ (f : Nat) (x : Int), (zds n f x).length = (zd1 n f x).length
 | 0, x => by simp [zds, zd1]
 | f + 1, x => by
  simp only [zds, zd1]
  split <;> simp [zpm n f]
theorem zgn (x n : Int) : (zbb x n).length = (zbw x n).length := zpm n 17 x
def zwo (n : Int) : Int := if zau n then 2 * (zbw 0 n).length + 1 else 0
theorem zy7 (n : Int) : zae Tryz.prog 13 [I n] (.r (I (zwo n))) := by
 refine zad (T := Tab) zaf Tab_ok Tryz.func13 rfl (by kernel_rfl) ?_
 have hp := zeq 0 n
 refine Vcall.bool (zsf n) (λ h => zw rfl (zt ?_)) (λ h => zu rfl (zq ?_))
 ·refine ze (z2r 0 n) ?_
  refine zd rfl (by omega) ?_
  refine zd rfl (by omega) ?_
  exact zf (by simp [zwo, h])
 ·exact zf (by simp [zwo, h, ofC])
theorem z86 : zae Tryz.prog 9 [] (.r (.b true)) := by
 refine zad (T := Tab) zaf Tab_ok Tryz.func9 rfl (by kernel_rfl) ?_
 refine ze (zy7 4) ?_
 refine zu (by decide) ?_
 refine ze (zy7 1) ?_
 refine zu (by decide) ?_
 exact cr
def Lean_.fit (s : Lean_) : Prop := s.opn.length <= 1000000 /\ s.shut.length <= 1000000
theorem z7t (s : Lean_) (hs : s.fit) : zae Tryz.prog 15 [.ag s.c] (.r (I (s.opn.length + s.shut.length))) := by
 refine zad (T := Tab) zaf Tab_ok Tryz.func15 rfl (by kernel_rfl) ?_
 obtain ⟨h1, h2⟩ := hs
 exact zd rfl (by omega) (cr)
theorem zm5 {l : List Int} {x : Int} {j : Nat} (hj : j < l.length) (h : x ∉ l.take j) (hx : l[j] ≠ x) : x ∉ l.take (j + 1) := by
 rw [List.take_add_one, List.getElem?_eq_getElem hj]
 simp only [Option.toList, List.mem_append, List.mem_cons, List.not_mem_nil, or_false]
 intro hh
 rcases hh with hh | hh
 ·exact h hh
 ·exact hx hh.symm
theorem zjg (l : List Int) (x : Int) (hl : l.length <= 10000000000000) : zae Tryz.prog 47 [is l, I x] (.r (.b (decide (x ∈ l)))) := by
 refine zad (T := Tab) zaf Tab_ok Tryz.func47 rfl (by kernel_rfl) ?_
 refine zy (λ j : Nat => { F := [(0, .r (is l)), (1, .r (I x)), (5, .r (I j))], O := [], nx := 0 }) (λ j => j <= l.length /\ x ∉ l.take j) (λ j => l.length - j) 0 ⟨by omega, by simp⟩ (zac [] rfl ⟨cr, cr, cr, trivial⟩ trivial) ?_
 rintro j ⟨hj, hn⟩
 refine zh (λ h => zq ?_) (λ h => zt ?_)
 ·simp only [zb] at h
  have hj' : j < l.length := by omega
  refine zm (by omega) (by omega) (zah rfl hj') (zg rfl ?_)
  refine zh (λ h2 => zq ?_) (λ h2 => zt ?_)
  ·simp only [zb] at h2
   exact zf (by simp [ofC, <- h2])
  ·simp only [zb] at h2
   refine zd (m := ((j + 1 : Nat) : Int)) (by omega) (by omega) ?_
   exact ⟨j + 1, ⟨hj', zm5 hj' hn h2⟩, by omega, zac [] rfl ⟨cr, cr, cr, trivial⟩ trivial⟩
 ·simp only [zb] at h
  rw [List.take_of_length_le (by omega)] at hn
  exact zf (by simp [ofC, hn])
theorem zje (l : List Int) (x : Int) (hl : l.length <= 10000000000000) : zae Tryz.prog 86 [is l, I x] (.r (.b (decide (x ∈ l)))) := by
 refine zad (T := Tab) zaf Tab_ok Tryz.func86 rfl (by kernel_rfl) ?_
 refine zy (λ j : Nat => { F := [(0, .r (is l)), (1, .r (I x)), (5, .r (I j))], O := [], nx := 0 }) (λ j => j <= l.length /\ x ∉ l.take j) (λ j => l.length - j) 0 ⟨by omega, by simp⟩ (zac [] rfl ⟨cr, cr, cr, trivial⟩ trivial) ?_
 rintro j ⟨hj, hn⟩
 refine zh (λ h => zq ?_) (λ h => zt ?_)
 ·simp only [zb] at h
  have hj' : j < l.length := by omega
  refine zm (by omega) (by omega) (zah rfl hj') (zg rfl ?_)
  refine zh (λ h2 => zq ?_) (λ h2 => zt ?_)
  ·simp only [zb] at h2
   exact zf (by simp [ofC, <- h2])
  ·simp only [zb] at h2
   refine zd (m := ((j + 1 : Nat) : Int)) (by omega) (by omega) ?_
   exact ⟨j + 1, ⟨hj', zm5 hj' hn h2⟩, by omega, zac [] rfl ⟨cr, cr, cr, trivial⟩ trivial⟩
 ·simp only [zb] at h
  rw [List.take_of_length_le (by omega)] at hn
  exact zf (by simp [ofC, hn])
def Node.zero : Node := ⟨0, ⟨[], [], [], 0, [], []⟩, ⟨[], [], []⟩⟩
def zc : List RV := [.i .u8 0, .x (.slice none 0 0), .x (.slice none 0 0), .x (.slice none 0 0), .i .u8 0, .x (.slice none 0 0), .x (.slice none 0 0), .x (.slice none 0 0), .x (.slice none 0 0), .x (.slice none 0 0)]
theorem Cv.ag {l m : List RV} (h : Cvs l m) : Cv (.ag l) (.ag m) := λ w k v hv => by
 simp only [RV.at_] at *
 obtain ⟨us, e, hp⟩ := hv
 exact ⟨us, e, h.list hp⟩
theorem ze4 : Cv (.ag zc) (.ag Node.zero.c) := Cv.ag (zk (cr) (zk (Cv.nil 1) (zk (Cv.nil 1) (zk (Cv.nil 1) (zk (cr) (zk (Cv.nil 1) (zk (Cv.nil 1) (zk (Cv.nil 1) (zk (Cv.nil 1) (zk (Cv.nil 1) Cvs.nil))))))))))
def zaj (l : List Spot) (x : Int) : Option Node := (l.find? λ s => decide (s.at_ = x)).map (·.node)
def zaeb : Option Node -> RV
 | some n => .tu [.ag n.c, .b true]
 | none => .tu [.ag Node.zero.c, .b false]
theorem ztx {l : List Spot} {x : Int} (h : ∀ s ∈ l, s.at_ ≠ x) : zaj l x = none := by
 simp only [zaj, Option.map_eq_none_iff, List.find?_eq_none, decide_eq_true_eq]
 exact h
theorem z7v {l : List Spot} {x : Int} {j : Nat} (hj : j < l.length) (h : ∀ s ∈ l.take j, s.at_ ≠ x) (hx : l[j].at_ = x) : zaj l x = some l[j].node := by
 obtain ⟨y, hy⟩ : ∃ y, y = l[j] := ⟨_, rfl⟩
 rw [<- hy] at hx ⊢
 have : l = l.take j ++ y :: l.drop (j + 1) := by rw [hy, <- List.drop_eq_getElem_cons hj, List.take_append_drop]
 simp only [zaj]
 rw [this, List.find?_append]
 have h1 : (l.take j).find? (λ s => decide (s.at_ = x)) = none := by simp only [List.find?_eq_none, decide_eq_true_eq]; exact h
 rw [h1]
 simp [hx]
theorem zdt {l : List Spot} {i : Int} {j : Nat} (h : i = j) (hj : j < l.length) : ((l.flatMap Spot.c).drop (i.toNat * 11)).take 11 = l[j].c := zqi (f := Spot.c) (sz := 11) (λ _ => rfl) h hj
theorem zd7 {l : List Stub} {i : Int} {j : Nat} (h : i = j) (hj : j < l.length) : ((l.flatMap Stub.c).drop (i.toNat * 2)).take 2 = l[j].c := zqi (f := Stub.c) (sz := 2) (λ _ => rfl) h hj
theorem ze2 (l : List Spot) (x : Int) (hl : l.length <= 1000000000) : zae Tryz.prog 34 [spots l, I x] (.r (zaeb (zaj l x))) := by
 refine zad (T := Tab) zaf Tab_ok Tryz.func34 rfl (by kernel_rfl) ?_
 refine zy (λ j : Nat => { F := [(0, .r (spots l)), (1, .r (I x)), (4, .own 0), (6, .r (I j))], O := [(0, some (.box (zc.map .r)))], nx := 1 }) (λ j => j <= l.length /\ ∀ s ∈ l.take j, s.at_ ≠ x) (λ j => l.length - j) 0 ⟨by omega, by simp⟩ (zac [(0, 0)] rfl ⟨cr, cr, rfl, cr, trivial⟩ ⟨zab zc, trivial⟩) ?_
 rintro j ⟨hj, hn⟩
 refine zh (λ h => zq ?_) (λ h => zt ?_)
 ·simp only [zb] at h
  have hj' : j < l.length := by omega
  refine zm (by omega) (by omega) (zdt rfl hj') (zg rfl ?_)
  refine zh (λ h2 => zq ?_) (λ h2 => zt ?_)
  ·simp only [zb] at h2
   refine zm (by omega) (by omega) (zdt rfl hj') ?_
   refine za rfl rfl ?_
   refine za rfl rfl ?_
   refine ⟨_, rfl, zf ?_⟩
   rw [z7v hj' hn h2]
   rfl
  ·simp only [zb] at h2
   refine zd (m := ((j + 1 : Nat) : Int)) (by omega) (by omega) ?_
   refine ⟨j + 1, ⟨hj', ?_⟩, by omega, zac [(0, 0)] rfl ⟨cr, cr, rfl, cr, trivial⟩ ⟨zab zc, trivial⟩⟩
   rw [List.take_add_one, List.getElem?_eq_getElem hj']
   simp only [Option.toList, List.mem_append, List.mem_cons, List.not_mem_nil, or_false]
   rintro s (hs | rfl)
   ·exact hn s hs
   ·exact h2
 ·simp only [zb] at h
  rw [List.take_of_length_le (by omega)] at hn
  refine za rfl rfl ?_
  refine ⟨_, rfl, ?_⟩
  rw [ztx hn]
  exact Cv.tu (zk ze4 (zn _))
end
section
theorem Sub.trans {S S' S'' : St} (h : Sub S S') (h' : Sub S' S'') : Sub S S'' := λ B N a w k hs => by
 obtain ⟨k', hs'⟩ := h B N a w k hs
 exact h' B N a w k' hs'
theorem zc1 {S : St} (t : Nat) (e : TypeId) (sz : Nat) (hf : fget S.F t = some (.r (.x (.slice none 0 0)))) : Sub S { F := (t, .own S.nx) :: S.F, O := (S.nx, some (.ch e sz 0 [] true)) :: S.O, nx := S.nx + 1 } := by
 rintro B N a w k ⟨g, hs⟩
 have hv := (hs.facts t _ hf).2
 simp only [TF.at_, RV.at_] at hv
 have hlt : t < a.tmps.size := by
  rcases Nat.lt_or_ge t a.tmps.size with h | h
  ·exact h
  ·rw [Array.getD_eq_getD_getElem?, Array.getElem?_eq_none h] at hv
   simp [undef] at hv
 have h := hs.adopt (dst := some t) (λ d hd => by cases hd; rw [<- hs.size]; exact hlt) (o := .ch e sz 0 [] true) (vb := (.slice none 0 0, none)) trivial ⟨by simp, .inl ⟨rfl, .inl ⟨rfl, none, rfl⟩⟩⟩ (λ b hb => by cases hb) (λ i o' b _ hb => by cases hb)
 have e1 : a.put (some t) (.slice none 0 0) = a := by
  simp only [Act.put]
  have : a.tmps.setIfInBounds t (.slice none 0 0) = a.tmps := by
   apply Array.ext
   ·simp
   ·intro i h1 h2
    by_cases hi : t = i
    ·subst hi
     rw [Array.getElem_setIfInBounds_self]
     rw [Array.getD_eq_getD_getElem?, Array.getElem?_eq_getElem hlt] at hv
     exact hv.symm
    ·rw [Array.getElem_setIfInBounds_ne _ hi]
  rw [this]
 rw [e1] at h
 exact ⟨k, _, h⟩
def zh7 (n : Node) (l r : List UInt8) : List UInt8 := 2 :: (zbv n ++ vecB l ++ vecB r)
theorem z3c (n : Node) (l r : List UInt8) (hn : n.fit) : zae Tryz.prog 89 [.ag n.c, bs l, bs r] (.r (if n.right = false \/ n.kind.toNat = 1 then .tu [bs [], .i .u8 3] else if l.length ≠ 32 \/ r.length ≠ 32 then .tu [bs [], .i .u8 1] else .tu [bs (zh7 n l r), .i .u8 0])) := by
 refine zad (T := Tab) zaf Tab_ok Tryz.func89 rfl (by kernel_rfl) ?_
 have hnl := zfz n hn
 have nil1 : ∀ (c : Int), Cv (.tu [ofC (.slice none 0 0), .i .u8 c]) (.tu [bs [], .i .u8 c]) := λ c => Cv.tu (zk (Cv.nil 1) (zn _))
 refine za rfl rfl ?_
 refine ze (zms n hn) ?_
 cases hr : n.right with
 | false =>
  refine zu rfl (zq ?_)
  refine ⟨_, rfl, ?_⟩
  rw [if_pos (.inl rfl)]
  exact nil1 3
 | true =>
  refine zw rfl ?_
  refine zh (λ h3 => zq ?_) (λ h3 => zt ?_)
  ·simp only [zb] at h3
   refine ⟨_, rfl, ?_⟩
   rw [if_pos (.inr (show n.kind.toNat = 1 by omega))]
   exact nil1 3
  ·simp only [zb] at h3
   rw [if_neg (show ¬ (true = false \/ n.kind.toNat = 1) by simp; omega)]
   refine zh (λ h4 => zq ?_) (λ h4 => ?_)
   ·simp only [zb] at h4
    refine ⟨_, rfl, ?_⟩
    rw [if_pos (.inl (show l.length ≠ 32 by omega))]
    exact nil1 1
   ·refine zh (λ h5 => zq ?_) (λ h5 => zt ?_)
    ·simp only [zb] at h5
     refine ⟨_, rfl, ?_⟩
     rw [if_pos (.inr (show r.length ≠ 32 by omega))]
     exact nil1 1
    ·simp only [zb] at h4 h5
     refine zx ?_
     refine Vapp.mk' (j := ([2] ++ zbv n).length) (zs := ([2] ++ zbv n).map U8) (by simp [maxLen]; omega) (by simp; omega) (by simp; omega) (by simp [zbh, cellsOf]; rfl) ?_
     have vl := za9 l
     refine ze (zdq ([2] ++ zbv n) l (by simp; omega) (by omega)) ?_
     refine ze (zdq ([2] ++ zbv n ++ vecB l) r (by simp; omega) (by omega)) ?_
     refine ⟨_, rfl, zf ?_⟩
     rw [if_neg (show ¬ (l.length ≠ 32 \/ r.length ≠ 32) by omega)]
     have : [2] ++ zbv n ++ vecB l ++ vecB r = zh7 n l r := by simp [zh7]
     rw [this]
     rfl
def ins (x : Int) : List Int -> List Int
 | [] => [x]
 | y :: r => if x < y then x :: y :: r else if x = y then y :: r else y :: ins x r
def rise (l : List Int) : List Int := l.foldr ins []
theorem ztd {x z : Int} : ∀ {l : List Int}, z ∈ ins x l ↔ z = x \/ z ∈ l
 | [] => by simp [ins]
 | y :: r => by
  simp only [ins]
  split
  ·simp
  ·split
   ·rename_i h; subst h; simp
   ·simp [ztd (l := r)]
    constructor
    ·rintro (h | h | h) <;> simp [h]
    ·rintro (h | h | h) <;> simp [h]
theorem zv2 {x : Int} : ∀ {l : List Int}, l.Pairwise (· < ·) -> (ins x l).Pairwise (· < ·)
 | [], _ => by simp [ins]
 | y :: r, h => by
  simp only [ins]
  rw [List.pairwise_cons] at h
  split
  ·rename_i hxy
   refine List.pairwise_cons.2 ⟨λ z hz => ?_, List.pairwise_cons.2 h⟩
   rcases List.mem_cons.1 hz with rfl | hz
   ·exact hxy
   ·exact Int.lt_trans hxy (h.1 z hz)
  ·split
   ·exact List.pairwise_cons.2 h
   ·refine List.pairwise_cons.2 ⟨λ z hz => ?_, zv2 h.2⟩
    rcases ztd.1 hz with rfl | hz
    ·omega
    ·exact h.1 z hz
theorem zeh {x : Int} : ∀ {l : List Int}, x ∈ rise l ↔ x ∈ l
 | [] => by simp [rise]
 | y :: r => by
  have := zeh (x := x) (l := r)
  simp only [rise, List.foldr_cons] at *
  rw [ztd, this]; simp
theorem zf9 : ∀ l : List Int, (rise l).Pairwise (· < ·)
 | [] => by simp [rise]
 | y :: r => zv2 (zf9 r)
theorem zfb : ∀ {l m : List Int}, l.Pairwise (· < ·) -> m.Pairwise (· < ·) -> (∀ x, x ∈ l ↔ x ∈ m) -> l = m
 | [], [], _, _, _ => rfl
 | [], y :: m, _, _, h => by have := (h y).2 (by simp); cases this
 | x :: l, [], _, _, h => by have := (h x).1 (by simp); cases this
 | x :: l, y :: m, hl, hm, h => by
  rw [List.pairwise_cons] at hl hm
  have hxy : x = y := by
   rcases List.mem_cons.1 ((h x).1 (by simp)) with e | hx
   ·exact e
   ·rcases List.mem_cons.1 ((h y).2 (by simp)) with e | hy
    ·exact e.symm
    ·have := hm.1 x hx; have := hl.1 y hy; omega
  subst hxy
  congr 1
  refine zfb hl.2 hm.2 λ z => ⟨λ hz => ?_, λ hz => ?_⟩
  ·rcases List.mem_cons.1 ((h z).1 (List.mem_cons_of_mem _ hz)) with e | hz'
   ·have := hl.1 z hz; omega
   ·exact hz'
  ·rcases List.mem_cons.1 ((h z).2 (List.mem_cons_of_mem _ hz)) with e | hz'
   ·have := hm.1 z hz; omega
   ·exact hz'
theorem zzd {x : Int} : ∀ {l : List Int}, (ins x l).length <= l.length + 1
 | [] => by simp [ins]
 | y :: r => by
  have := zzd (x := x) (l := r)
  simp only [ins]
  split
  ·simp
  ·split <;> simp; omega
theorem zlw : ∀ l : List Int, (rise l).length <= l.length
 | [] => by simp [rise]
 | y :: r => by
  have := zlw r
  have h2 := zzd (x := y) (l := rise r)
  simp only [rise, List.foldr_cons, List.length_cons] at *
  omega
end
section
theorem zao {ρ : List (Nat × Nat)} {S : St} {e : TypeId} {l m : List Int} (h : l = m) : cvOw ρ S (.ch e 1 l.length (l.map I) true) (.ch e 1 m.length (m.map I) true) := by
 subst h
 exact ⟨rfl, rfl, rfl, rfl, zn _⟩
theorem z2f {e : TypeId} {l m : List Int} (h : l = m) : some (Ow.ch e 1 l.length (l.map I) true) = some (Ow.ch e 1 m.length (m.map I) true) := by rw [h]
theorem zng {r : List Int} (hp : r.Pairwise (· < ·)) {j : Nat} (hj : j < r.length) : r[j] ∉ r.take j := by
 intro h
 obtain ⟨i, hi, e⟩ := List.getElem_of_mem h
 rw [List.length_take] at hi
 rw [List.getElem_take] at e
 have := List.pairwise_iff_getElem.1 hp i j (by omega) hj (by omega)
 omega
theorem zx9 {r : List Int} (hp : r.Pairwise (· < ·)) {j : Nat} (hj : j < r.length) {x : Int} (hx : x ∈ r) (hn : x ∉ r.take j) : r[j] <= x := by
 obtain ⟨i, hi, rfl⟩ := List.getElem_of_mem hx
 rcases Nat.lt_or_ge i j with h | h
 ·exact absurd (List.mem_take_iff_getElem.2 ⟨i, by omega, rfl⟩) hn
 ·rcases Nat.eq_or_lt_of_le h with rfl | h
  ·exact Int.le_refl _
  ·exact Int.le_of_lt (List.pairwise_iff_getElem.1 hp j i hj hi h)
theorem ze9 {l : List Int} {i : Nat} (hi : i < l.length) {y : Int} : y ∈ l.take (i + 1) ↔ y ∈ l.take i \/ y = l[i] := by
 rw [List.take_add_one, List.getElem?_eq_getElem hi]
 simp only [Option.toList, List.mem_append, List.mem_cons, List.not_mem_nil, or_false]
def zta (l out : List Int) (least : Int) : Prop := (least = -1 /\ ∀ y ∈ l, y ∈ out) \/ (0 <= least /\ least ∈ l /\ least ∉ out /\ ∀ y ∈ l, y ∉ out -> least <= y)
theorem zry (l : List Int) (hl : l.length <= 10000000000000) (h0 : ∀ x ∈ l, 0 <= x) : zae Tryz.prog 50 [is l] (ich (rise l)) := by
 refine zad (T := Tab) zaf Tab_ok Tryz.func50 rfl (by kernel_rfl) ?_
 obtain ⟨r, hr⟩ : ∃ r, r = rise l := ⟨_, rfl⟩
 have hp : r.Pairwise (· < ·) := hr ▸ zf9 l
 have hm : ∀ x, x ∈ r ↔ x ∈ l := λ x => hr ▸ zeh
 have hrl : r.length <= l.length := hr ▸ zlw l
 rw [<- hr]
 refine zy (λ j : Nat => { F := [(0, .r (is l)), (3, .own 0)], O := [(0, some (.ch 3 1 (r.take j).length ((r.take j).map I) true))], nx := 1 }) (λ j => j <= r.length) (λ j => r.length - j) 0 (by omega)
  ((zc1 3 3 1 rfl).trans (zac [(0, 0)] rfl ⟨cr, rfl, trivial⟩ ⟨⟨rfl, rfl, rfl, rfl, zn _⟩, trivial⟩)) ?_
 intro j hj
 have hlen : (r.take j).length = j := by rw [List.length_take]; omega
 refine zh (λ h => zq ?_) (λ h => zt ?_)
 ·simp only [zb, hlen] at h
  refine zy (λ i : Nat × Int => { F := [(0, .r (is l)), (3, .own 0), (4, .r (I i.2)), (5, .r (I i.1))], O := [(0, some (.ch 3 1 (r.take j).length ((r.take j).map I) true))], nx := 1 })
   (λ i => i.1 <= l.length /\ zta (l.take i.1) (r.take j) i.2) (λ i => l.length - i.1) (0, -1) ⟨by simp, .inl ⟨rfl, by simp⟩⟩ (zac [(0, 0)] rfl ⟨cr, rfl, cr, cr, trivial⟩ ⟨zao rfl, trivial⟩) ?_
  rintro ⟨i, least⟩ ⟨hi, hlst⟩
  simp only at hi hlst
  refine zh (λ h1 => zq ?_) (λ h1 => zt ?_)
  ·simp only [zb] at h1
   have hi' : i < l.length := by omega
   have hnn := h0 _ (List.getElem_mem hi')
   have next : ∀ least', zta (l.take (i + 1)) (r.take j) least' -> ((i + 1 : Nat), least').1 <= l.length /\ zta (l.take ((i + 1 : Nat), least').1) (r.take j) ((i + 1 : Nat), least').2 := λ _ hh => ⟨hi', hh⟩
   refine zm (by omega) (by omega) (zah rfl hi') (zg rfl ?_)
   refine Vcall.bool (zjg (r.take j) l[i] (by omega)) (λ hh => ?_) (λ hh => ?_)
   ·simp only [zb] at hh
    refine zw rfl (zt ?_)
    refine zd (m := ((i + 1 : Nat) : Int)) (by omega) (by omega) ?_
    refine ⟨(i + 1, least), next _ ?_, by simp only; omega, zac [(0, 0)] rfl ⟨cr, rfl, cr, cr, trivial⟩ ⟨zao rfl, trivial⟩⟩
    rcases hlst with ⟨e, ha⟩ | ⟨a1, a2, a3, a4⟩
    ·refine .inl ⟨e, λ y hy => ?_⟩
     rcases (ze9 hi').1 hy with hy | rfl
     ·exact ha y hy
     ·exact hh
    ·refine .inr ⟨a1, (ze9 hi').2 (.inl a2), a3, λ y hy hn => ?_⟩
     rcases (ze9 hi').1 hy with hy | rfl
     ·exact a4 y hy hn
     ·exact absurd hh hn
   ·simp only [zb] at hh
    refine zu rfl ?_
    refine zh (λ h2 => zq ?_) (λ h2 => ?_)
    ·simp only [zb] at h2
     refine zm (by omega) (by omega) (zah rfl hi') (zg rfl ?_)
     refine zd (m := ((i + 1 : Nat) : Int)) (by omega) (by omega) ?_
     refine ⟨(i + 1, l[i]), next _ ?_, by simp only; omega, zac [(0, 0)] rfl ⟨cr, rfl, cr, cr, trivial⟩ ⟨zao rfl, trivial⟩⟩
     rcases hlst with ⟨e, ha⟩ | ⟨a1, a2, a3, a4⟩
     ·refine .inr ⟨hnn, (ze9 hi').2 (.inr rfl), hh, λ y hy hn => ?_⟩
      rcases (ze9 hi').1 hy with hy | rfl
      ·exact absurd (ha y hy) hn
      ·exact Int.le_refl _
     ·omega
    ·simp only [zb] at h2
     refine zm (by omega) (by omega) (zah rfl hi') (zg rfl ?_)
     rcases hlst with ⟨e, ha⟩ | ⟨a1, a2, a3, a4⟩
     ·omega
     ·refine zh (λ h3 => zq ?_) (λ h3 => zt ?_)
      ·simp only [zb] at h3
       refine zm (by omega) (by omega) (zah rfl hi') (zg rfl ?_)
       refine zd (m := ((i + 1 : Nat) : Int)) (by omega) (by omega) ?_
       refine ⟨(i + 1, l[i]), next _ (.inr ⟨hnn, (ze9 hi').2 (.inr rfl), hh, λ y hy hn => ?_⟩), by simp only; omega, zac [(0, 0)] rfl ⟨cr, rfl, cr, cr, trivial⟩ ⟨zao rfl, trivial⟩⟩
       rcases (ze9 hi').1 hy with hy | rfl
       ·have := a4 y hy hn; omega
       ·exact Int.le_refl _
      ·simp only [zb] at h3
       refine zd (m := ((i + 1 : Nat) : Int)) (by omega) (by omega) ?_
       refine ⟨(i + 1, least), next _ (.inr ⟨a1, (ze9 hi').2 (.inl a2), a3, λ y hy hn => ?_⟩), by simp only; omega, zac [(0, 0)] rfl ⟨cr, rfl, cr, cr, trivial⟩ ⟨zao rfl, trivial⟩⟩
       rcases (ze9 hi').1 hy with hy | rfl
       ·exact a4 y hy hn
       ·omega
  ·simp only [zb] at h1
   rw [List.take_of_length_le (by omega)] at hlst
   refine zh (λ h2 => zq ?_) (λ h2 => zt ?_)
   ·simp only [zb] at h2
    rcases hlst with ⟨e, ha⟩ | ⟨a1, _⟩
    ·refine z2f ?_
     rcases Nat.lt_or_ge j r.length with hlt | hge
     ·exact absurd (ha _ ((hm _).1 (List.getElem_mem hlt))) (zng hp hlt)
     ·exact List.take_of_length_le hge
    ·omega
   ·simp only [zb] at h2
    rcases hlst with ⟨e, ha⟩ | ⟨a1, a2, a3, a4⟩
    ·omega
    ·have hlt : j < r.length := by
      rcases Nat.lt_or_ge j r.length with h | h
      ·exact h
      ·rw [List.take_of_length_le h] at a3
       exact absurd ((hm _).2 a2) a3
     have e1 := zx9 hp hlt ((hm _).2 a2) a3
     have e2 := a4 _ ((hm _).1 (List.getElem_mem hlt)) (zng hp hlt)
     have e3 : least = r[j] := by omega
     have e4 : r.take (j + 1) = r.take j ++ [least] := by
      rw [List.take_add_one, List.getElem?_eq_getElem hlt, e3]; rfl
     refine zx ?_
     refine Vapp.mk' (j := (r.take (j + 1)).length) (zs := (r.take (j + 1)).map I) (by simp [maxLen]; omega) (by simp; omega) (by rw [e4]; simp) (by rw [e4]; simp [zbh, cellsOf]) ?_
     exact ⟨j + 1, hlt, by omega, zac [(0, 2)] rfl ⟨cr, rfl, trivial⟩ ⟨zao rfl, trivial⟩⟩
 ·simp only [zb, hlen] at h
  exact z2f (List.take_of_length_le (by omega))
end
section
def bss (ls : List (List UInt8)) : RV := .sl 1 ls.length (ls.map bs)
theorem zz4 {w : World} {k : Kp} : ∀ {ls : List (List UInt8)} {us : List Value}, RV.listAt w k (ls.map bs) us -> ∃ ps : List (AC × List UInt8), ps.map (·.2) = ls /\ us = ps.map slv /\ ∀ q ∈ ps, By w (λ _ => True) q.1 q.2
 | [], us, h => by simp only [List.map_nil, RV.listAt] at h; exact ⟨[], rfl, h, by simp⟩
 | l :: ls, us, h => by
  simp only [List.map_cons, RV.listAt] at h
  obtain ⟨u, r, rfl, _, h1, h2⟩ := h
  obtain ⟨p, rfl, hp⟩ := ze7 h1
  obtain ⟨ps, e1, e2, e3⟩ := zz4 h2
  refine ⟨(p, l) :: ps, by simp [e1], by simp [e2, slv], λ q hq => ?_⟩
  rcases List.mem_cons.1 hq with rfl | hq
  ·exact hp
  ·exact e3 q hq
theorem zvk (ls : List (List UInt8)) (hl : (ls.flatMap id).length <= 100000000000) : zae Tryz.prog 92 [bss ls] (bch (shaB (ls.flatMap id))) :=
 zbo (za7 Tryz.func92 rfl (by kernel_rfl)) λ w k vs hp => by
  obtain ⟨a, rfl, h1⟩ := zhh hp
  simp only [bss, RV.at_] at h1
  obtain ⟨p, c, rfl, c1, c2, c3, c4⟩ := h1
  have key : ∃ ps : List (AC × List UInt8), ps.map (·.2) = ls /\ Pa w ⟨p, c⟩ ps := by
   rcases Nat.eq_zero_or_pos ls.length with h0 | hpos
   ·obtain rfl := List.eq_nil_of_length_eq_zero h0
    exact ⟨[], rfl, ⟨by simp, by simp, c2, λ h => by simp at h⟩, by simp⟩
   ·obtain ⟨b, o, rfl, hb, hc⟩ := c4 hpos
    obtain ⟨us, q1, q2, q3⟩ := RV.cells_list _ _ hc
    obtain ⟨ps, e1, e2, e3⟩ := zz4 q1
    have hlen : ps.length = ls.length := by rw [<- e1]; simp
    exact ⟨ps, e1, ⟨by simp, by rw [hlen]; exact c1, c2, λ _ => ⟨b, o, rfl, trivial, hb, λ j u hu => q3 j u (by rw [e2]; exact hu)⟩⟩, e3⟩
  obtain ⟨ps, e1, hpa⟩ := key
  have hcat : catB ps = ls.flatMap id := by rw [<- e1]; simp [catB, List.flatMap_map]
  have hlen : ps.length = ls.length := by rw [<- e1]; simp
  have := z2a ⟨p, c⟩ ps w hpa (by rw [hcat]; exact hl)
  rw [hlen] at this
  refine this.mono λ _ _ ⟨v, he, hx, _, hv⟩ => ⟨v, he, hx, ?_⟩
  rw [hcat] at hv
  exact zgp hv
end
section
abbrev U64 (n : Nat) : RV := .i .u64 (n : Int)
def us (l : List Nat) : RV := .sl 1 l.length (l.map U64)
theorem zjx {x : Nat} (h : x < 18446744073709551616) : IntKind.u64.wrap (x : Int) = (x : Int) := by
 have : ((x : Int) % 18446744073709551616) = x := by omega
 simp only [IntKind.wrap]
 simp [IntKind.bits, IntKind.signed]
 omega
theorem Vint.u64 {e : Int} {K : Int -> Prop} (n : Nat) (he : e = (n : Int)) (h : n < 18446744073709551616) (hK : K (n : Int)) : Vint .u64 e K := ⟨n, by rw [he, zjx h], hK⟩
theorem Vquo.nat {a b : Int} {K : Int -> Prop} (x y : Nat) (ha : a = (x : Int)) (hb : b = (y : Int)) (hy : 0 < y) (hx : x < 18446744073709551616) (hK : K ((x / y : Nat) : Int)) : Vquo .u64 a b K := by
 subst ha; subst hb
 refine ⟨by omega, _, ?_, hK⟩
 rw [Int.tdiv_eq_ediv_of_nonneg (by omega), <- Int.natCast_ediv, zjx (Nat.lt_of_le_of_lt (Nat.div_le_self _ _) hx)]
theorem Vrem.nat {a b : Int} {K : Int -> Prop} (x y : Nat) (ha : a = (x : Int)) (hb : b = (y : Int)) (hy : 0 < y) (hK : K ((x % y : Nat) : Int)) : Vrem a b K := by
 subst ha; subst hb
 refine ⟨by omega, _, ?_, hK⟩
 rw [Int.tmod_eq_emod_of_nonneg (by omega), <- Int.natCast_emod]
theorem Vint.u8 {e : Int} {K : Int -> Prop} (n : Nat) (he : e = (n : Int)) (hK : K (((UInt8.ofNat n).toNat : Nat) : Int)) : Vint .u8 e K := by
 refine ⟨_, ?_, hK⟩
 subst he
 simp only [IntKind.wrap]
 simp [IntKind.bits, IntKind.signed]
theorem Vbits.xor {a b : Int} {K : Int -> Prop} (x y : Nat) (ha : a = (x : Int)) (hb : b = (y : Int)) (hx : x < 18446744073709551616) (hy : y < 18446744073709551616) (hK : K ((x ^^^ y : Nat) : Int)) : Vbits .u64 .xor a b K := by
 subst ha; subst hb
 refine ⟨_, ?_, hK⟩
 have hxy : x ^^^ y < 18446744073709551616 := Nat.xor_lt_two_pow (n := 64) hx hy
 have e : ∀ z : Nat, z < 18446744073709551616 -> (BitVec.ofInt 64 (z : Int)).toNat = z := λ z hz => by
  rw [BitVec.toNat_ofInt]; omega
 show ((x ^^^ y : Nat) : Int) = IntKind.u64.wrap (((BitVec.ofInt 64 (x : Int) ^^^ BitVec.ofInt 64 (y : Int)).toNat : Nat) : Int)
 rw [BitVec.toNat_xor, e x hx, e y hy, zjx hxy]
theorem Vadr.mk' {i : Int} {n : Nat} {K : Nat -> Prop} (j : Nat) (h : i = (j : Int)) (hj : j < n) (hK : K j) : Vadr i n K := by
 subst h
 exact ⟨by omega, by omega, by rw [Int.toNat_natCast]; exact hK⟩
theorem zse {x : Nat} : rotr 0 x = x := by simp [rotr, Nat.mod_one]
theorem z1z {x i : Nat} (hi : i < 32) : rotr (i + 1) x = rotr i x / 2 + rotr i x % 2 * 2147483648 := by
 unfold rotr
 have h1 : x / 2 ^ (i + 1) = x / 2 ^ i / 2 := by rw [Nat.pow_succ, Nat.div_div_eq_div_mul]
 have h2 : x % 2 ^ (i + 1) = x % 2 ^ i + 2 ^ i * (x / 2 ^ i % 2) := by rw [Nat.pow_succ, Nat.mod_mul]
 have h3 : 2 ^ (32 - i) = 2 * 2 ^ (32 - (i + 1)) := by rw [show 32 - i = (32 - (i + 1)) + 1 by omega, Nat.pow_succ, Nat.mul_comm]
 have h4 : 2 ^ i * 2 ^ (32 - (i + 1)) = 2147483648 := by rw [<- Nat.pow_add, show i + (32 - (i + 1)) = 31 by omega]
 rw [h1, h2, h3]
 generalize x / 2 ^ i = r
 generalize x % 2 ^ i = m
 generalize 2 ^ (32 - (i + 1)) = p at *
 generalize 2 ^ i = q at *
 have e1 : m * (2 * p) = 2 * (m * p) := by rw [Nat.mul_left_comm]
 have e2 : (m + q * (r % 2)) * p = m * p + r % 2 * 2147483648 := by
  rw [Nat.add_mul, <- h4, Nat.mul_comm q, Nat.mul_assoc]
 rw [e1, e2]
 omega
theorem zb9 {x : Nat} (hx : x < 4294967296) : ∀ {n : Nat}, n <= 31 -> rotr n x < 4294967296
 | 0, _ => by rw [zse]; exact hx
 | n + 1, h => zcc hx (by omega) h
theorem zgh (x n : Nat) (hx : x < 4294967296) (hn : n <= 31) : zae Tryz.prog 162 [U64 x, I n] (.r (U64 (rotr n x))) := by
 refine zad (T := Tab) zaf Tab_ok Tryz.func162 rfl (by kernel_rfl) ?_
 refine zy (λ j : Nat => { F := [(0, .r (U64 (rotr j x))), (1, .r (I n)), (5, .r (I j))], O := [], nx := 0 }) (λ j => j <= n) (λ j => n - j) 0 (by omega) (zac [] rfl ⟨zf (by rw [zse]), cr, cr, trivial⟩ trivial) ?_
 intro j hj
 refine zh (λ h => zq ?_) (λ h => zt ?_)
 ·simp only [zb] at h
  have hr := zb9 hx (show j <= 31 by omega)
  refine Vquo.nat (rotr j x) 2 rfl rfl (by omega) (by omega) ?_
  refine Vrem.nat (rotr j x) 2 rfl rfl (by omega) ?_
  refine Vint.u64 (rotr j x % 2 * 2147483648) (by omega) (by omega) ?_
  refine Vint.u64 (rotr j x / 2 + rotr j x % 2 * 2147483648) (by omega) (by omega) ?_
  refine zd (m := ((j + 1 : Nat) : Int)) (by omega) (by omega) ?_
  exact ⟨j + 1, by omega, by omega, zac [] rfl ⟨zf (by rw [z1z (by omega)]), cr, cr, trivial⟩ trivial⟩
 ·simp only [zb] at h
  obtain rfl : j = n := by omega
  exact cr
theorem zzp (x n : Nat) (hx : x < 4294967296) (hn : n <= 31) : zae Tryz.prog 163 [U64 x, I n] (.r (U64 (x / 2 ^ n))) := by
 refine zad (T := Tab) zaf Tab_ok Tryz.func163 rfl (by kernel_rfl) ?_
 refine zy (λ j : Nat => { F := [(0, .r (U64 (x / 2 ^ j))), (1, .r (I n)), (5, .r (I j))], O := [], nx := 0 }) (λ j => j <= n) (λ j => n - j) 0 (by omega) (zac [] rfl ⟨zf (by simp), cr, cr, trivial⟩ trivial) ?_
 intro j hj
 refine zh (λ h => zq ?_) (λ h => zt ?_)
 ·simp only [zb] at h
  have hr := Nat.div_le_self x (2 ^ j)
  refine Vquo.nat (x / 2 ^ j) 2 rfl rfl (by omega) (by omega) ?_
  refine zd (m := ((j + 1 : Nat) : Int)) (by omega) (by omega) ?_
  exact ⟨j + 1, by omega, by omega, zac [] rfl ⟨zf (by rw [Nat.pow_succ, Nat.div_div_eq_div_mul]), cr, cr, trivial⟩ trivial⟩
 ·simp only [zb] at h
  obtain rfl : j = n := by omega
  exact cr
theorem z7j : zae Tryz.prog 124 [] (.r (.tu [us h0Tab.list, us kTab])) := by
 refine zad (T := Tab) zaf Tab_ok Tryz.func124 rfl (by kernel_rfl) ?_
 refine zx ?_
 refine zx ?_
 exact ⟨_, rfl, cr⟩
end
section
theorem Vcall.boolc {P : Program} {f : FuncId} {vs ps : List RV} {K : Res -> Prop} {β : Bool} (hg : zae P f ps (.r (.b β))) (hc : Cvs vs ps) (ht : β = true -> K (.r (.b true))) (hf : β = false -> K (.r (.b false))) : Vcall P f vs K := by
 cases β
 ·exact Vcall.mk' hg hc (hf rfl)
 ·exact Vcall.mk' hg hc (ht rfl)
def Node.small (n : Node) : Bool := decide (n.leaf.box.length <= 200 /\ n.leaf.sign.length <= 200 /\ n.leaf.ident.length <= 200 /\ n.leaf.parent.length <= 200 /\ n.leaf.sig.length <= 200 /\ n.par.box.length <= 200 /\ n.par.hash.length <= 200 /\ n.par.late.length <= 60)
theorem z3n (n : Node) : zae Tryz.prog 42 [.ag n.c] (.r (.b n.small)) := by
 refine zad (T := Tab) zaf Tab_ok Tryz.func42 rfl (by kernel_rfl) ?_
 refine Vdraw.mk' (by kernel_rfl) ?_
 refine za rfl rfl ?_
 refine za rfl rfl ?_
 (repeat' (first | refine zh (λ h => ?_) (λ h => ?_) | refine zf ?_ | refine zq ?_ | refine zt ?_))
 all_goals refine congrArg RV.b (Eq.symm ?_)
 all_goals simp only [Node.small, zb] at *
 all_goals omega
def zl : Leaf := ⟨[], [], [], 0, [], []⟩
def zp : Par := ⟨[], [], []⟩
theorem z4h (l : Leaf) : l.none = decide (l = zl) := by
 obtain ⟨a, b, c, d, e, f⟩ := l
 rw [Bool.eq_iff_iff]
 simp only [Leaf.none, zl, decide_eq_true_eq, Leaf.mk.injEq, List.length_eq_zero_iff]
 have : d.toNat = 0 ↔ d = 0 := ⟨λ h => UInt8.toNat_inj.1 (by simpa using h), λ h => by simp [h]⟩
 rw [this]
 constructor
 ·rintro ⟨h1, h2, h3, h4, h5, h6⟩; exact ⟨h2, h3, h4, h1, h5, h6⟩
 ·rintro ⟨h1, h2, h3, h4, h5, h6⟩; exact ⟨h4, h1, h2, h3, h5, h6⟩
theorem z5e (p : Par) : p.none = decide (p = zp) := by
 obtain ⟨a, b, c⟩ := p
 rw [Bool.eq_iff_iff]
 simp only [Par.none, zp, decide_eq_true_eq, Par.mk.injEq, List.length_eq_zero_iff]
def zju (n : Node) : Node := ⟨0, n.leaf, zp⟩
def zoq (n : Node) : Node := ⟨0, zl, n.par⟩
theorem z72 (n : Node) : Cv (.ag [.i .u8 0, bs n.leaf.box, bs n.leaf.sign, bs n.leaf.ident, U8 n.leaf.src, bs n.leaf.parent, bs n.leaf.sig, .x (.slice none 0 0), .x (.slice none 0 0), .x (.slice none 0 0)]) (.ag (zju n).c) :=
 Cv.ag (zk (cr) (zk (cr) (zk (cr) (zk (cr) (zk (cr) (zk (cr) (zk (cr) (zk (Cv.nil 1) (zk (Cv.nil 1) (zk (Cv.nil 1) Cvs.nil))))))))))
theorem z9i (n : Node) : Cv (.ag [.i .u8 0, .x (.slice none 0 0), .x (.slice none 0 0), .x (.slice none 0 0), .i .u8 0, .x (.slice none 0 0), .x (.slice none 0 0), bs n.par.box, bs n.par.hash, is n.par.late]) (.ag (zoq n).c) :=
 Cv.ag (zk (cr) (zk (Cv.nil 1) (zk (Cv.nil 1) (zk (Cv.nil 1) (zk (cr) (zk (Cv.nil 1) (zk (Cv.nil 1) (zk (cr) (zk (cr) (zk (cr) Cvs.nil))))))))))
theorem zj8 (n : Node) : zju n = Node.zero ↔ n.leaf.none = true := by
 rw [z4h, decide_eq_true_eq]
 simp [zju, Node.zero, zl, zp]
theorem zlu (n : Node) : zoq n = Node.zero ↔ n.par.none = true := by
 rw [z5e, decide_eq_true_eq]
 simp [zoq, Node.zero, zl, zp]
theorem zut (n : Node) (hn : n.fit) : zae Tryz.prog 44 [.ag n.c] (.r (.b n.right)) := by
 refine zad (T := Tab) zaf Tab_ok Tryz.func44 rfl (by kernel_rfl) ?_
 have sl := zp1 (zju n) Node.zero (by simp [zju, zp]) (by simp [Node.zero])
 have sp := zp1 (zoq n) Node.zero hn.2.2.2.2 (by simp [Node.zero])
 have cl := zk (z72 n) (zk ze4 Cvs.nil)
 have cp := zk (z9i n) (zk ze4 Cvs.nil)
 refine Vdraw.mk' (by kernel_rfl) ?_
 refine za rfl rfl ?_
 refine za rfl rfl ?_
 refine zh (λ h => zq ?_) (λ h => zt ?_)
 ·simp only [zb] at h
  have h0 : n.kind.toNat = 0 := by omega
  refine za rfl rfl ?_
  refine Vcall.boolc sl cl (λ h2 => ?_) (λ h2 => ?_)
  ·refine za rfl rfl ?_
   refine Vcall.boolc sp cp (λ h3 => ?_) (λ h3 => ?_)
   all_goals refine zf (congrArg RV.b (Eq.symm ?_))
   all_goals simp only [zb, zj8, zlu] at h2 h3
   all_goals simp [Node.right, h0, h2, h3]
  ·refine zf (congrArg RV.b (Eq.symm ?_))
   simp only [zb, zj8, zlu] at h2
   simp [Node.right, h0, h2]
 ·refine zh (λ h2 => zq ?_) (λ h2 => zt ?_)
  ·simp only [zb] at h2
   have h0 : n.kind.toNat = 1 := by omega
   refine za rfl rfl ?_
   refine Vcall.bool (znv n.leaf) (λ h3 => ?_) (λ h3 => ?_)
   ·refine za rfl rfl ?_
    refine Vcall.boolc sp cp (λ h4 => ?_) (λ h4 => ?_)
    all_goals refine zf (congrArg RV.b (Eq.symm ?_))
    all_goals simp only [zb, zj8, zlu] at h4
    all_goals simp [Node.right, h0, h3, h4]
   ·refine zf (congrArg RV.b (Eq.symm ?_))
    simp [Node.right, h0, h3]
  ·refine zh (λ h3 => zq ?_) (λ h3 => zt ?_)
   ·simp only [zb] at h3
    have h0 : n.kind.toNat = 2 := by omega
    refine za rfl rfl ?_
    refine Vcall.bool (zwt n.par hn.2) (λ h4 => ?_) (λ h4 => ?_)
    ·refine za rfl rfl ?_
     refine Vcall.boolc sl cl (λ h5 => ?_) (λ h5 => ?_)
     all_goals refine zf (congrArg RV.b (Eq.symm ?_))
     all_goals simp only [zb, zj8, zlu] at h5
     all_goals simp [Node.right, h0, h4, h5]
    ·refine zf (congrArg RV.b (Eq.symm ?_))
     simp [Node.right, h0, h4]
   ·simp only [zb] at h h2 h3
    refine zf (congrArg RV.b (Eq.symm ?_))
    have a0 : ¬ n.kind.toNat = 0 := by omega
    have a1 : ¬ n.kind.toNat = 1 := by omega
    have a2 : ¬ n.kind.toNat = 2 := by omega
    simp [Node.right, a0, a1, a2]
def Lean_.small (s : Lean_) : Bool := decide (s.opn.length <= 60 /\ s.shut.length <= 60 /\ (∀ x ∈ s.opn, x.node.small = true) /\ ∀ x ∈ s.shut, x.hash.length <= 100)
theorem zbr {α : Type} {p : α -> Prop} {l : List α} {j : Nat} (hj : j < l.length) (h : ∀ x ∈ l.take j, p x) (hx : p l[j]) : ∀ x ∈ l.take (j + 1), p x := by
 intro x hm
 rw [List.take_add_one, List.getElem?_eq_getElem hj] at hm
 simp only [Option.toList, List.mem_append, List.mem_cons, List.not_mem_nil, or_false] at hm
 rcases hm with hm | rfl
 ·exact h x hm
 ·exact hx
theorem z4z (s : Lean_) (h1 : s.opn.length <= maxL) (h2 : s.shut.length <= maxL) : zae Tryz.prog 10 [.ag s.c] (.r (.b s.small)) := by
 refine zad (T := Tab) zaf Tab_ok Tryz.func10 rfl (by kernel_rfl) ?_
 have no : (s.opn.length <= 60 -> s.shut.length <= 60 -> (∀ x ∈ s.opn, x.node.small = true) -> (∀ x ∈ s.shut, x.hash.length <= 100) -> False) -> s.small = false := λ h => by
  simp only [Lean_.small, decide_eq_false_iff_not]
  rintro ⟨a, b, c, d⟩
  exact h a b c d
 simp only [maxL] at h1 h2
 refine zh (λ h => ?_) (λ h => ?_)
 ·refine zq (zf (congrArg RV.b (Eq.symm (no λ a b c d => ?_))))
  simp only [zb] at h; omega
 refine zh (λ h3 => zq ?_) (λ h3 => zt ?_)
 ·refine zf (congrArg RV.b (Eq.symm (no λ a b c d => ?_)))
  simp only [zb] at h3; omega
 simp only [zb] at h h3
 refine zy (λ j : Nat => { F := [(1, .own 0), (3, .r (I j))], O := [(0, some (.box (s.c.map .r)))], nx := 1 }) (λ j => j <= s.opn.length /\ ∀ x ∈ s.opn.take j, x.node.small = true) (λ j => s.opn.length - j) 0 ⟨by omega, by simp⟩ (zac [(0, 0)] rfl ⟨rfl, cr, trivial⟩ ⟨zab _, trivial⟩) ?_
 rintro j ⟨hj, hn⟩
 refine zh (λ h4 => zq ?_) (λ h4 => zt ?_)
 ·simp only [zb] at h4
  have hj' : j < s.opn.length := by omega
  refine zm (by omega) (by omega) (zdt rfl hj') ?_
  refine za rfl rfl ?_
  refine Vcall.bool (z3n _) (λ h5 => zw rfl (zt ?_)) (λ h5 => zu rfl (zq ?_))
  ·refine zd (m := ((j + 1 : Nat) : Int)) (by omega) (by omega) ?_
   exact ⟨j + 1, ⟨hj', zbr hj' hn h5⟩, by omega, zac [(0, 0)] rfl ⟨rfl, cr, trivial⟩ ⟨zab _, trivial⟩⟩
  ·refine zf (congrArg RV.b (Eq.symm (no λ a b c d => ?_)))
   have := c _ (List.getElem_mem hj')
   rw [h5] at this; cases this
 simp only [zb] at h4
 rw [List.take_of_length_le (by omega)] at hn
 refine zy (λ j : Nat => { F := [(1, .own 0), (4, .r (I j))], O := [(0, some (.box (s.c.map .r)))], nx := 1 }) (λ j => j <= s.shut.length /\ ∀ x ∈ s.shut.take j, x.hash.length <= 100) (λ j => s.shut.length - j) 0 ⟨by omega, by simp⟩ (zac [(0, 0)] rfl ⟨rfl, cr, trivial⟩ ⟨zab _, trivial⟩) ?_
 rintro j2 ⟨hj2, hn2⟩
 refine zh (λ h5 => zq ?_) (λ h5 => zt ?_)
 ·simp only [zb] at h5
  have hj' : j2 < s.shut.length := by omega
  refine zm (by omega) (by omega) (zd7 rfl hj') ?_
  refine zg rfl ?_
  refine zh (λ h6 => zq ?_) (λ h6 => zt ?_)
  ·refine zf (congrArg RV.b (Eq.symm (no λ a b c d => ?_)))
   have := d _ (List.getElem_mem hj')
   simp only [zb] at h6
   omega
  ·simp only [zb] at h6
   refine zd (m := ((j2 + 1 : Nat) : Int)) (by omega) (by omega) ?_
   exact ⟨j2 + 1, ⟨hj', zbr hj' hn2 (by omega)⟩, by omega, zac [(0, 0)] rfl ⟨rfl, cr, trivial⟩ ⟨zab _, trivial⟩⟩
 ·simp only [zb] at h5
  rw [List.take_of_length_le (by omega)] at hn2
  refine zf (congrArg RV.b (Eq.symm ?_))
  simp only [Lean_.small, decide_eq_true_eq]
  exact ⟨by omega, by omega, hn, hn2⟩
def zcg (l : List Stub) (x : Int) : List UInt8 := ((l.find? λ s => decide (s.at_ = x)).map (·.hash)).getD []
theorem z21 {l : List Stub} {x : Int} (h : ∀ s ∈ l, s.at_ ≠ x) : zcg l x = [] := by
 have : l.find? (λ s => decide (s.at_ = x)) = none := by simp only [List.find?_eq_none, decide_eq_true_eq]; exact h
 simp [zcg, this]
theorem z7w {l : List Stub} {x : Int} {j : Nat} (hj : j < l.length) (h : ∀ s ∈ l.take j, s.at_ ≠ x) (hx : l[j].at_ = x) : zcg l x = l[j].hash := by
 obtain ⟨y, hy⟩ : ∃ y, y = l[j] := ⟨_, rfl⟩
 rw [<- hy] at hx ⊢
 have : l = l.take j ++ y :: l.drop (j + 1) := by rw [hy, <- List.drop_eq_getElem_cons hj, List.take_append_drop]
 simp only [zcg]
 rw [this, List.find?_append]
 have h1 : (l.take j).find? (λ s => decide (s.at_ = x)) = none := by simp only [List.find?_eq_none, decide_eq_true_eq]; exact h
 rw [h1]
 simp [hx]
theorem z6u (s : Lean_) (x : Int) (h2 : s.shut.length <= 1000000000) : zae Tryz.prog 103 [.ag s.c, I x] (.r (bs (zcg s.shut x))) := by
 refine zad (T := Tab) zaf Tab_ok Tryz.func103 rfl (by kernel_rfl) ?_
 refine zy (λ j : Nat => { F := [(1, .r (I x)), (2, .own 0), (5, .r (I j))], O := [(0, some (.box (s.c.map .r)))], nx := 1 }) (λ j => j <= s.shut.length /\ ∀ y ∈ s.shut.take j, y.at_ ≠ x) (λ j => s.shut.length - j) 0 ⟨by omega, by simp⟩ (zac [(0, 0)] rfl ⟨cr, rfl, cr, trivial⟩ ⟨zab _, trivial⟩) ?_
 rintro j ⟨hj, hn⟩
 refine zh (λ h5 => zq ?_) (λ h5 => zt ?_)
 ·simp only [zb] at h5
  have hj' : j < s.shut.length := by omega
  refine zm (by omega) (by omega) (zd7 rfl hj') ?_
  refine zg rfl ?_
  refine zh (λ h6 => zq ?_) (λ h6 => zt ?_)
  ·simp only [zb] at h6
   refine zm (by omega) (by omega) (zd7 rfl hj') ?_
   refine zg rfl ?_
   exact zf (by rw [z7w hj' hn h6])
  ·simp only [zb] at h6
   refine zd (m := ((j + 1 : Nat) : Int)) (by omega) (by omega) ?_
   exact ⟨j + 1, ⟨hj', zbr hj' hn h6⟩, by omega, zac [(0, 0)] rfl ⟨cr, rfl, cr, trivial⟩ ⟨zab _, trivial⟩⟩
 ·simp only [zb] at h5
  rw [List.take_of_length_le (by omega)] at hn
  rw [z21 hn]
  exact Cv.nil 1
end
section
theorem zgd : Tryz.prog.underlying 3 = some (.int .i64) := by kernel_rfl
theorem zjc : Tryz.prog.underlying 88 = some (.map 3 60) := by kernel_rfl
theorem zfx : Tryz.prog.underlying 89 = some (.map 3 28) := by kernel_rfl
def zay (l : List Spot) : List (Int × RV) := l.map λ s => (s.at_, RV.ag s.node.c)
def za0 (l : List Stub) : List (Int × RV) := l.map λ s => (s.at_, bs s.hash)
def zfq : Int -> List Int -> Bool
 | _, [] => true
 | last, x :: r => decide (last < x) && zfq x r
def Lean_.lookOk (s : Lean_) : Bool := zfq (-1) (s.opn.map (·.at_)) && zfq (-1) (s.shut.map (·.at_))
def zdo (s : Lean_) : List RV := [.s (mapS (zay s.opn)), .s (mapS (za0 s.shut))]
def zagb : List RV := [.s (mapS []), .s (mapS [])]
def zmj (s : Lean_) : RV := if s.lookOk then .tu [.ag (zdo s), .b true] else .tu [.ag zagb, .b false]
theorem zzb : Cv (.x (.map none)) (.s (mapS [])) := λ w k v h => by
 simp only [RV.at_] at *
 exact .inl ⟨h, rfl⟩
theorem zl0 : ∀ {l : List (Int × RV)} {n : Int}, (∀ x ∈ l, x.1 ≠ n) -> zch l n = none
 | [], _, _ => rfl
 | (m, r) :: l, n, h => by
  simp only [zch]
  rw [if_neg (h (m, r) (by simp)), zl0 λ x hx => h x (by simp [hx])]
theorem z1g {l : List Spot} {j : Nat} (hj : j < l.length) : zay (l.take j) ++ [(l[j].at_, RV.ag l[j].node.c)] = zay (l.take (j + 1)) := by
 rw [List.take_add_one, List.getElem?_eq_getElem hj]; unfold zay; rw [List.map_append]; rfl
theorem z12 {l : List Stub} {j : Nat} (hj : j < l.length) : za0 (l.take j) ++ [(l[j].at_, bs l[j].hash)] = za0 (l.take (j + 1)) := by
 rw [List.take_add_one, List.getElem?_eq_getElem hj]; unfold za0; rw [List.map_append]; rfl
theorem zgw {ρ : List (Nat × Nat)} {S : St} (p : GOw) : cvOw ρ S (.gen p) (.gen p) := λ _ _ _ h => h
theorem z2n {ρ : List (Nat × Nat)} {S : St} {l m : List (Int × RV)} (h : l = m) : cvOw ρ S (.gen (mapO l)) (.gen (mapO m)) := by subst h; exact zgw _
theorem zxn (s : Lean_) (h1 : s.opn.length <= 1000000000) (h2 : s.shut.length <= 1000000000) : zae Tryz.prog 51 [.ag s.c] (.r (zmj s)) := by
 refine zad (T := Tab) zaf Tab_ok Tryz.func51 rfl (by kernel_rfl) ?_
 have bad : s.lookOk = false -> Cv (.tu [.ag [.x (.map none), .x (.map none)], .b false]) (zmj s) := λ h => by
  rw [zmj, h]
  exact Cv.tu (zk (Cv.ag (zk zzb (zk zzb Cvs.nil))) (zn _))
 refine z6d Tab_ok rfl ⟨rfl, rfl, rfl⟩ ⟨rfl, rfl, rfl⟩ ⟨rfl, rfl, rfl⟩ ⟨rfl, rfl, rfl⟩ ⟨rfl, rfl, rfl⟩ rfl rfl rfl rfl rfl rfl (by decide) ?_
 refine zy (λ i : Nat × Int => { F := [(1, .own 0), (2, .own 1), (3, .r (.b false)), (4, .own 4), (5, .r (I i.2)), (14, .r (spots s.opn)), (15, .r (I s.opn.length)), (16, .r (I i.1))], O := [(0, some (.box (s.c.map .r))), (1, some (.box [.r (.x (.map none)), .r (.x (.map none))])), (2, some (.gen (mapO (zay (s.opn.take i.1))))), (3, some (.gen (mapO []))), (4, some (.box [.own 2, .own 3]))], nx := 5 })
  (λ i => i.1 <= s.opn.length /\ zfq (-1) (s.opn.map (·.at_)) = zfq i.2 ((s.opn.drop i.1).map (·.at_)) /\ ∀ y ∈ s.opn.take i.1, y.at_ <= i.2) (λ i => s.opn.length - i.1) (0, -1) ⟨by simp, by simp, by simp⟩
  (zac [(0, 0), (1, 1), (2, 2), (3, 3), (4, 4)] rfl ⟨rfl, rfl, cr, rfl, cr, cr, cr, cr, trivial⟩ ⟨zab _, zab [.x (.map none), .x (.map none)], zgw _, zgw _, ⟨_, _, rfl, rfl, _, _, rfl, rfl, rfl⟩, trivial⟩) ?_
 rintro ⟨j, last⟩ ⟨hj, hrise, hle⟩
 simp only at hj hrise hle
 refine zh (λ h => zq ?_) (λ h => zt ?_)
 ·simp only [zb] at h
  have hj' : j < s.opn.length := by omega
  rw [List.drop_eq_getElem_cons hj', List.map_cons] at hrise
  simp only [zfq] at hrise
  refine zm (by omega) (by omega) (zdt rfl hj') ?_
  refine za rfl rfl ?_
  refine zh (λ h3 => zq ?_) (λ h3 => zt ?_)
  ·simp only [zb] at h3
   refine za rfl rfl ⟨_, rfl, bad ?_⟩
   simp only [Lean_.lookOk, hrise]
   rw [decide_eq_false (by omega)]
   rfl
  ·simp only [zb] at h3
   refine za rfl rfl ?_
   refine Vstep.mapNew rfl rfl rfl rfl rfl rfl zjc zgd (zl0 λ x hx => ?_) ?_
   ·obtain ⟨y, hy, rfl⟩ := List.mem_map.1 hx
    have := hle y hy
    simp only; omega
   refine zd (m := ((j + 1 : Nat) : Int)) (by omega) (by omega) ?_
   rw [decide_eq_true (by omega), Bool.true_and] at hrise
   exact ⟨(j + 1, s.opn[j].at_), ⟨hj', hrise, zbr (p := λ y => y.at_ <= s.opn[j].at_) hj' (λ y hy => by have := hle y hy; omega) (Int.le_refl _)⟩, by simp only; omega,
    zac [(0, 0), (1, 1), (2, 2), (3, 3), (4, 4)] rfl ⟨rfl, rfl, cr, rfl, cr, cr, cr, cr, trivial⟩ ⟨zab _, zab [.x (.map none), .x (.map none)], z2n (z1g hj'), zgw _, ⟨_, _, rfl, rfl, _, _, rfl, rfl, rfl⟩, trivial⟩⟩
 simp only [zb] at h
 have hd : s.opn.drop j = [] := List.drop_eq_nil_of_le (by omega)
 rw [hd] at hrise
 rw [List.take_of_length_le (by omega)]
 simp only [List.map_nil, zfq] at hrise
 refine Vloop.mkx (λ i : Nat × Int => { F := [(1, .own 0), (2, .own 1), (3, .r (.b false)), (4, .own 4), (5, .r (I i.2)), (35, .r (zoj s.shut)), (36, .r (I s.shut.length)), (37, .r (I i.1))], O := [(0, some (.box (s.c.map .r))), (1, some (.box [.r (.x (.map none)), .r (.x (.map none))])), (2, some (.gen (mapO (zay s.opn)))), (3, some (.gen (mapO (za0 (s.shut.take i.1))))), (4, some (.box [.own 2, .own 3]))], nx := 5 })
  (λ i => i.1 <= s.shut.length /\ zfq (-1) (s.shut.map (·.at_)) = zfq i.2 ((s.shut.drop i.1).map (·.at_)) /\ ∀ y ∈ s.shut.take i.1, y.at_ <= i.2) (λ i => s.shut.length - i.1) (0, -1) ⟨by simp, by simp, by simp⟩
  (zac [(0, 0), (1, 1), (2, 2), (3, 3), (4, 4)] rfl ⟨rfl, rfl, cr, rfl, cr, cr, cr, cr, trivial⟩ ⟨zab _, zab [.x (.map none), .x (.map none)], zgw _, zgw _, ⟨_, _, rfl, rfl, _, _, rfl, rfl, rfl⟩, trivial⟩) ?_
 rintro ⟨j2, last2⟩ ⟨hj2, hrise2, hle2⟩
 simp only at hj2 hrise2 hle2
 refine zh (λ h3 => zq ?_) (λ h3 => zt ?_)
 ·simp only [zb] at h3
  have hj' : j2 < s.shut.length := by omega
  rw [List.drop_eq_getElem_cons hj', List.map_cons] at hrise2
  simp only [zfq] at hrise2
  refine zm (by omega) (by omega) (zd7 rfl hj') ?_
  refine za rfl rfl ?_
  refine zh (λ h4 => zq ?_) (λ h4 => zt ?_)
  ·simp only [zb] at h4
   refine ⟨_, zo _, ?_⟩
   refine za rfl rfl ⟨_, rfl, bad ?_⟩
   simp only [Lean_.lookOk, hrise2]
   rw [decide_eq_false (by omega)]
   simp
  ·simp only [zb] at h4
   refine Vstep.mapNew rfl rfl rfl rfl rfl rfl zfx zgd (zl0 λ x hx => ?_) ?_
   ·obtain ⟨y, hy, rfl⟩ := List.mem_map.1 hx
    have := hle2 y hy
    simp only; omega
   refine zd (m := ((j2 + 1 : Nat) : Int)) (by omega) (by omega) ?_
   rw [decide_eq_true (by omega), Bool.true_and] at hrise2
   exact ⟨(j2 + 1, s.shut[j2].at_), ⟨hj', hrise2, zbr (p := λ y => y.at_ <= s.shut[j2].at_) hj' (λ y hy => by have := hle2 y hy; omega) (Int.le_refl _)⟩, by simp only; omega,
    zac [(0, 0), (1, 1), (2, 2), (3, 3), (4, 4)] rfl ⟨rfl, rfl, cr, rfl, cr, cr, cr, cr, trivial⟩ ⟨zab _, zab [.x (.map none), .x (.map none)], zgw _, z2n (z12 hj'), ⟨_, _, rfl, rfl, _, _, rfl, rfl, rfl⟩, trivial⟩⟩
 simp only [zb] at h3
 have hd2 : s.shut.drop j2 = [] := List.drop_eq_nil_of_le (by omega)
 rw [hd2] at hrise2
 rw [List.take_of_length_le (by omega)]
 simp only [List.map_nil, zfq] at hrise2
 refine ⟨_, Sub.trans (zq3 (id := 2) (j := 4) (i := 0) rfl rfl rfl) (zq3 (id := 3) (j := 4) (i := 1) rfl rfl rfl), ?_⟩
 refine za rfl rfl ?_
 refine za rfl rfl ⟨_, rfl, zf ?_⟩
 rw [zmj, Lean_.lookOk, hrise, hrise2]
 rfl
end
section
def idxF (q : Int -> Bool) : Nat -> List Int -> Int
 | _, [] => -1
 | j, x :: r => if q x then (j : Int) else idxF q (j + 1) r
theorem zyw (q : Int -> Bool) : ∀ (l : List Int) (j : Nat), -1 <= idxF q j l /\ idxF q j l < (j + l.length : Nat) /\ (0 <= idxF q j l ↔ l.any q = true)
 | [], j => by simp [idxF]; omega
 | x :: r, j => by
  have ih := zyw q r (j + 1)
  rw [idxF, List.any_cons, List.length_cons]
  by_cases hq : q x = true
  ·rw [if_pos hq, hq]
   exact ⟨by omega, by omega, by simp⟩
  ·rw [if_neg hq, Bool.eq_false_iff.2 hq, Bool.false_or]
   exact ⟨ih.1, by omega, ih.2.2⟩
theorem zx8 (l : List Int) (D : Int -> Prop) (q : Int -> Bool) (hl : l.length <= 1000000000) (hD : ∀ x ∈ l, D x) : zae Tryz.prog 141 [is l, .s (cloS Tryz.prog I D q)] (.r (I (idxF q 0 l))) := by
 refine zad (T := Tab) zaf Tab_ok Tryz.func141 rfl (by kernel_rfl) ?_
 refine zy (λ j : Nat => { F := [(0, .r (is l)), (1, .r (.s (cloS Tryz.prog I D q))), (7, .r (I l.length)), (8, .r (I j))], O := [], nx := 0 }) (λ j => j <= l.length /\ idxF q 0 l = idxF q j (l.drop j)) (λ j => l.length - j) 0 ⟨by omega, by simp⟩ (zac [] rfl ⟨cr, cr, cr, cr, trivial⟩ trivial) ?_
 rintro j ⟨hj, he⟩
 refine zh (λ h => zq ?_) (λ h => zt ?_)
 ·simp only [zb] at h
  have hj' : j < l.length := by omega
  rw [List.drop_eq_getElem_cons hj'] at he
  simp only [idxF] at he
  refine zm (by omega) (by omega) (zah rfl hj') (zg rfl ?_)
  refine Vstep.cloB l[j] rfl rfl rfl rfl (cr) (hD _ (List.getElem_mem hj')) (λ hq => zq ?_) (λ hq => zt ?_)
  ·rw [hq] at he
   exact zf (by rw [he]; simp)
  ·rw [hq] at he
   refine zd (m := ((j + 1 : Nat) : Int)) (by omega) (by omega) ?_
   exact ⟨j + 1, ⟨hj', by rw [he]; simp⟩, by omega, zac [] rfl ⟨cr, cr, cr, cr, trivial⟩ trivial⟩
 ·simp only [zb] at h
  rw [List.drop_eq_nil_of_le (by omega)] at he
  exact zf (by rw [he]; rfl)
theorem zc0 (l : List Int) (D : Int -> Prop) (q : Int -> Bool) (hl : l.length <= 1000000000) (hD : ∀ x ∈ l, D x) : zae Tryz.prog 96 [is l, .s (cloS Tryz.prog I D q)] (.r (.b (l.any q))) := by
 refine zad (T := Tab) zaf Tab_ok Tryz.func96 rfl (by kernel_rfl) ?_
 refine ze (zx8 l D q hl hD) ?_
 exact Vcmp.mk' rfl (zf (congrArg RV.b (by rw [Bool.eq_iff_iff, decide_eq_true_eq]; exact (zyw q l 0).2.2)))
def zax (u : Int) : Prop := 0 <= u /\ u < 65536
theorem z7x (u x : Int) (hu : zax u) : zae Tryz.prog 97 [I u, .ptr [I x]] (.r (.b (!zar (2 * u) x))) := by
 refine zad (T := Tab) zaf Tab_ok Tryz.func97 rfl (by kernel_rfl) ?_
 unfold zax at hu
 refine zd rfl (by omega) ?_
 refine zg rfl ?_
 refine ze (zlq (2 * u) x) ?_
 exact Vcmp.mk' rfl (cr)
theorem zs6 (u x : Int) (hu : zax u) : zae Tryz.prog 100 [I u, .ptr [I x]] (.r (.b (zar (2 * u) x))) := by
 refine zad (T := Tab) zaf Tab_ok Tryz.func100 rfl (by kernel_rfl) ?_
 unfold zax at hu
 refine zd rfl (by omega) ?_
 refine zg rfl ?_
 refine ze (zlq (2 * u) x) ?_
 exact cr
def zcq (x : Int) : Nat := if x.tmod 2 = 1 then 1 else 2
def za8 (x : Int) (n : Node) : Bool := n.right && (decide (n.kind.toNat ≠ zcq x) && n.par.late.all λ u => zar (2 * u) x)
theorem zy2 (l : List Int) (q : Int -> Bool) : (!l.any λ u => !q u) = l.all q := by
 induction l with
 | nil => rfl
 | cons x r ih => simp [List.any_cons, List.all_cons, Bool.not_or, ih]
theorem Node.right_late {n : Node} (h : n.right = true) : ∀ u ∈ n.par.late, zax u := by
 unfold Node.right at h
 split at h
 ·simp only [Bool.and_eq_true] at h
  have := h.2
  simp only [Par.none, decide_eq_true_eq, List.length_eq_zero_iff] at this
  rw [this.2.2]; simp
 ·split at h
  ·simp only [Bool.and_eq_true] at h
   have := h.2
   simp only [Par.none, decide_eq_true_eq, List.length_eq_zero_iff] at this
   rw [this.2.2]; simp
  ·split at h
   ·simp only [Bool.and_eq_true] at h
    exact λ u hu => Par.right_bd h.2 u hu
   ·cases h
theorem zwa (x : Int) (n : Node) (hn : n.fit) : zae Tryz.prog 56 [I x, .ag n.c] (.r (.b (za8 x n))) := by
 refine zad (T := Tab) zaf Tab_ok Tryz.func56 rfl (by kernel_rfl) ?_
 refine za rfl rfl ?_
 refine ze (zms n hn) ?_
 have clo := λ (u : Int) (hu : zax u) => z7x u x hu
 cases hr : n.right with
 | false =>
  refine ⟨by decide, _, rfl, ?_⟩
  refine zh (λ h => zq ?_) (λ h => zt ?_)
  ·refine zw rfl ?_
   exact zf (congrArg RV.b (by simp [za8, hr]))
  ·refine zw rfl ?_
   exact zf (congrArg RV.b (by simp [za8, hr]))
 | true =>
  have hlate := Node.right_late hr
  have hll : n.par.late.length <= 1000000000 := by have := hn.2.2.2.1; omega
  have fin : ∀ {β : Bool}, β = n.par.late.any (λ u => !zar (2 * u) x) -> n.kind.toNat ≠ zcq x -> (!β) = za8 x n := λ hb hk => by
   subst hb
   rw [zy2]
   simp [za8, hr, hk]
  refine ⟨by decide, _, rfl, ?_⟩
  refine zh (λ h => zq ?_) (λ h => zt ?_)
  ·simp only [zb] at h
   refine zu rfl ?_
   refine zh (λ h2 => ?_) (λ h2 => ?_)
   ·simp only [zb] at h2
    refine Vstep.sub (zg5 (t := 2) [I x] rfl rfl) (Vstep.mkfun I zax _ rfl rfl clo ?_)
    refine ze (zc0 n.par.late zax _ hll hlate) ?_
    exact Vcmp.mk' rfl (zf (congrArg RV.b (fin rfl (by simp [zcq, h]; omega))))
   ·simp only [zb] at h2
    refine zf (congrArg RV.b ?_)
    have : n.kind.toNat = zcq x := by simp [zcq, h]; omega
    simp [za8, this]
  ·simp only [zb] at h
   refine zu rfl ?_
   refine zh (λ h2 => ?_) (λ h2 => ?_)
   ·simp only [zb] at h2
    refine Vstep.sub (zg5 (t := 2) [I x] rfl rfl) (Vstep.mkfun I zax _ rfl rfl clo ?_)
    refine ze (zc0 n.par.late zax _ hll hlate) ?_
    exact Vcmp.mk' rfl (zf (congrArg RV.b (fin rfl (by simp [zcq, h]; omega))))
   ·simp only [zb] at h2
    refine zf (congrArg RV.b ?_)
    have : n.kind.toNat = zcq x := by simp [zcq, h]; omega
    simp [za8, this]
end
section
theorem z3z : (Tryz.prog.info? 60).bind (·.zero) = some (.agg #[.int .u8 0, .slice none 0 0, .slice none 0 0, .slice none 0 0, .int .u8 0, .slice none 0 0, .slice none 0 0, .slice none 0 0, .slice none 0 0, .slice none 0 0]) := by kernel_rfl
theorem zzr : (Tryz.prog.info? 28).bind (·.zero) = some (.slice none 0 0) := by kernel_rfl
theorem z7d (w : World) (k : Kp) : (RV.ag zc).at_ w k (.agg #[.int .u8 0, .slice none 0 0, .slice none 0 0, .slice none 0 0, .int .u8 0, .slice none 0 0, .slice none 0 0, .slice none 0 0, .slice none 0 0, .slice none 0 0]) := by
 simp only [RV.at_]
 refine ⟨_, rfl, ?_⟩
 exact zi9 [.int .u8 0, .slice none 0 0, .slice none 0 0, .slice none 0 0, .int .u8 0, .slice none 0 0, .slice none 0 0, .slice none 0 0, .slice none 0 0, .slice none 0 0] (by simp [Value.oneCell'])
def zdl (l : List Stub) (x : Int) : Option (List UInt8) := (l.find? λ s => decide (s.at_ = x)).map (·.hash)
theorem zgc : ∀ (l : List Spot) (x : Int), zch (zay l) x = (zaj l x).map λ n => .ag n.c
 | [], x => rfl
 | s :: l, x => by
  have ih := zgc l x
  simp only [zay, zaj, List.map_cons, zch, List.find?_cons] at *
  by_cases h : s.at_ = x
  ·simp [h]
  ·simp [h, ih]
theorem zf6 : ∀ (l : List Stub) (x : Int), zch (za0 l) x = (zdl l x).map bs
 | [], x => rfl
 | s :: l, x => by
  have ih := zf6 l x
  simp only [za0, zdl, List.map_cons, zch, List.find?_cons] at *
  by_cases h : s.at_ = x
  ·simp [h]
  ·simp [h, ih]
section
variable {S : St} {o : Oper}
theorem Vstep.node2 {x y : Operand} {n : Int} {l : List Spot} {K : St -> Prop} (hop : o.op = .lookup 88 x y true) (hx : opr S x = some (.r (.s (mapS (zay l))))) (hy : opr S y = some (.r (.i .i64 n)))
  (h1 : ∀ m, zaj l n = some m -> newK S o.dst (.r (.tu [.ag m.c, .b true])) none K) (h0 : zaj l n = none -> newK S o.dst (.r (.tu [.ag zc, .b false])) none K) : Vstep Tryz.prog S o K := by
 refine Vstep.look2 (.ag zc) hop hx hy zjc zgd z3z z7d (λ r hr => ?_) (λ hr => ?_)
 ·rw [zgc, Option.map_eq_some_iff] at hr
  obtain ⟨m, hm, rfl⟩ := hr
  exact h1 m hm
 ·rw [zgc, Option.map_eq_none_iff] at hr
  exact h0 hr
theorem Vstep.node1 {x y : Operand} {n : Int} {l : List Spot} {K : St -> Prop} (hop : o.op = .lookup 88 x y false) (hx : opr S x = some (.r (.s (mapS (zay l))))) (hy : opr S y = some (.r (.i .i64 n)))
  (h1 : ∀ m, zaj l n = some m -> newK S o.dst (.r (.ag m.c)) none K) (h0 : zaj l n = none -> newK S o.dst (.r (.ag zc)) none K) : Vstep Tryz.prog S o K := by
 refine Vstep.look1 (.ag zc) hop hx hy zjc zgd z3z z7d (λ r hr => ?_) (λ hr => ?_)
 ·rw [zgc, Option.map_eq_some_iff] at hr
  obtain ⟨m, hm, rfl⟩ := hr
  exact h1 m hm
 ·rw [zgc, Option.map_eq_none_iff] at hr
  exact h0 hr
theorem Vstep.hash2 {x y : Operand} {n : Int} {l : List Stub} {K : St -> Prop} (hop : o.op = .lookup 89 x y true) (hx : opr S x = some (.r (.s (mapS (za0 l))))) (hy : opr S y = some (.r (.i .i64 n)))
  (h1 : ∀ m, zdl l n = some m -> newK S o.dst (.r (.tu [bs m, .b true])) none K) (h0 : zdl l n = none -> newK S o.dst (.r (.tu [.x (.slice none 0 0), .b false])) none K) : Vstep Tryz.prog S o K := by
 refine Vstep.look2 (.x (.slice none 0 0)) hop hx hy zfx zgd zzr (λ _ _ => by simp [RV.at_]) (λ r hr => ?_) (λ hr => ?_)
 ·rw [zf6, Option.map_eq_some_iff] at hr
  obtain ⟨m, hm, rfl⟩ := hr
  exact h1 m hm
 ·rw [zf6, Option.map_eq_none_iff] at hr
  exact h0 hr
theorem Vstep.hash1 {x y : Operand} {n : Int} {l : List Stub} {K : St -> Prop} (hop : o.op = .lookup 89 x y false) (hx : opr S x = some (.r (.s (mapS (za0 l))))) (hy : opr S y = some (.r (.i .i64 n)))
  (h1 : ∀ m, zdl l n = some m -> newK S o.dst (.r (bs m)) none K) (h0 : zdl l n = none -> newK S o.dst (.r (.x (.slice none 0 0))) none K) : Vstep Tryz.prog S o K := by
 refine Vstep.look1 (.x (.slice none 0 0)) hop hx hy zfx zgd zzr (λ _ _ => by simp [RV.at_]) (λ r hr => ?_) (λ hr => ?_)
 ·rw [zf6, Option.map_eq_some_iff] at hr
  obtain ⟨m, hm, rfl⟩ := hr
  exact h1 m hm
 ·rw [zf6, Option.map_eq_none_iff] at hr
  exact h0 hr
end
abbrev zbc : Int := -1099511627776
def zfc (H : List Stub) (x : Int) : Int := match zdl H x with
 | some h => if h.length = 32 then 1 else zbc
 | none => zbc
theorem zx0 (H : List Stub) (x : Int) : zfc H x = 1 \/ zfc H x = zbc := by
 unfold zfc
 split
 ·split <;> simp
 ·simp
theorem zrs (s : Lean_) (x : Int) : zae Tryz.prog 58 [.ag (zdo s), I x] (.r (I (zfc s.shut x))) := by
 refine zad (T := Tab) zaf Tab_ok Tryz.func58 rfl (by kernel_rfl) ?_
 refine Vstep.hash2 rfl rfl rfl (λ m hm => ?_) (λ hm => ?_)
 ·refine zh (λ h => zq ?_) (λ h => zt ?_)
  ·simp only [zb] at h
   exact zf (by simp only [zfc, hm]; rw [if_pos (by omega)]; rfl)
  ·simp only [zb] at h
   exact zf (by simp only [zfc, hm]; rw [if_neg (by omega)]; rfl)
 ·refine zt ?_
  exact zf (by simp [zfc, hm, ofC])
def kidP (H : List Stub) (p : Nat -> Bool -> List Int -> Int) (h : Nat) (all : Bool) (late : List Int) (j : Nat) : Int :=
 if all then p j true [] else if late.any (λ u => zar (2 * u) (nd h j)) then p j false late else zfc H (nd h j)
def zbi (O : List Spot) (H : List Stub) : Nat -> Nat -> Bool -> List Int -> Int
 | 0, k, _, _ => match zaj O (nd 0 k) with
  | none => zbc
  | some n => if za8 (nd 0 k) n then 1 else zbc
 | h + 1, k, whole, late => match zaj O (nd (h + 1) k) with
  | none => zbc
  | some n => if za8 (nd (h + 1) k) n then
    max (1 + kidP H (λ j w l => zbi O H h j w l) h (whole && decide (n.kind.toNat = 0)) (if whole then n.par.late else late) (2 * k) + kidP H (λ j w l => zbi O H h j w l) h (whole && decide (n.kind.toNat = 0)) (if whole then n.par.late else late) (2 * k + 1)) zbc
   else zbc
theorem zle {O : List Spot} {H : List Stub} {h : Nat} (ih : ∀ k w l, zbc <= zbi O H h k w l /\ zbi O H h k w l <= 2 ^ (h + 1) - 1) (all : Bool) (late : List Int) (j : Nat) :
  zbc <= kidP H (λ j w l => zbi O H h j w l) h all late j /\ kidP H (λ j w l => zbi O H h j w l) h all late j <= 2 ^ (h + 1) - 1 := by
 unfold kidP
 split
 ·exact ih _ _ _
 ·split
  ·exact ih _ _ _
  ·have hp : (1 : Int) <= 2 ^ h := by
    have := zag h
    have e : (2 : Int) ^ h = ((2 ^ h : Nat) : Int) := by simp
    omega
   rw [Int.pow_succ]
   rcases zx0 H (nd h j) with e | e <;> rw [e] <;> simp only [zbc] <;> omega
theorem zhx (O : List Spot) (H : List Stub) : ∀ (h k : Nat) (w : Bool) (l : List Int), zbc <= zbi O H h k w l /\ zbi O H h k w l <= 2 ^ (h + 1) - 1
 | 0, k, w, l => by
  unfold zbi
  split
  ·simp [zbc]
  ·split <;> simp [zbc]
 | h + 1, k, w, l => by
  have hp : (1 : Int) <= 2 ^ h := by
   have := zag h
   have e : (2 : Int) ^ h = ((2 ^ h : Nat) : Int) := by simp
   omega
  have e1 : (2 : Int) ^ (h + 1 + 1) = 4 * 2 ^ h := by rw [Int.pow_succ, Int.pow_succ]; omega
  have e2 : (2 : Int) ^ (h + 1) = 2 * 2 ^ h := by rw [Int.pow_succ]; omega
  unfold zbi
  split
  ·simp only [zbc]; omega
  ·rename_i n _
   split
   ·have k1 := zle (zhx O H h) (w && decide (n.kind.toNat = 0)) (if w then n.par.late else l) (2 * k)
    have k2 := zle (zhx O H h) (w && decide (n.kind.toNat = 0)) (if w then n.par.late else l) (2 * k + 1)
    generalize kidP H _ h _ _ (2 * k) = a at *
    generalize kidP H _ h _ _ (2 * k + 1) = b at *
    simp only [zbc] at *
    omega
   ·simp only [zbc]; omega
theorem zb4 (k : Nat) : (nd 0 k : Int).tmod 2 = 0 := by rw [zen, Int.tmod_eq_emod_of_nonneg (by omega)]; omega
theorem zcr (h k : Nat) : (nd (h + 1) k : Int).tmod 2 = 1 := by rw [z8k, Int.tmod_eq_emod_of_nonneg (by omega)]; omega
def Lean_.fitN (s : Lean_) : Prop := s.opn.length <= 1000000 /\ s.shut.length <= 1000000 /\ (∀ x ∈ s.opn, x.node.fit) /\ (∀ x ∈ s.shut, x.hash.length <= 1000000000)
theorem zbf {l : List Spot} {x : Int} {n : Node} (h : zaj l x = some n) : ∃ s ∈ l, s.at_ = x /\ s.node = n := by
 simp only [zaj, Option.map_eq_some_iff] at h
 obtain ⟨s, hs, rfl⟩ := h
 exact ⟨s, List.mem_of_find?_eq_some hs, by simpa using List.find?_some hs, rfl⟩
theorem maxI (a b : Int) : (if a < b then b else a) = max a b := by omega
theorem zyn (s : Lean_) (hs : s.fitN) (k : Nat) (hk : k < 65536) (whole : Bool) (late : List Int) :
  zae Tryz.prog 59 [.ag (zdo s), I (nd 0 k), .b whole, is late] (.r (I (zbi s.opn s.shut 0 k whole late))) := by
 refine zad (T := Tab) zaf Tab_ok Tryz.func59 rfl (by kernel_rfl) ?_
 refine Vstep.node2 rfl rfl rfl (λ n hn => ?_) (λ hn => ?_)
 ·obtain ⟨sp, hsp, _, rfl⟩ := zbf hn
  refine zw rfl ?_
  refine za rfl rfl ?_
  refine Vcall.bool (zwa _ _ (hs.2.2.1 sp hsp)) (λ h => zw rfl (zt ?_)) (λ h => zu rfl (zq ?_))
  ·refine ⟨by decide, _, rfl, ?_⟩
   refine zu (by rw [zb4]; rfl) (zq ?_)
   exact zf (by simp [zbi, hn, h, ofC])
  ·exact zf (by simp [zbi, hn, h, ofC])
 ·refine zu rfl (zq ?_)
  exact zf (by simp [zbi, hn, ofC])
end
end Go.Proofs.YtpdllgbfemnemaaGreat.Sx
