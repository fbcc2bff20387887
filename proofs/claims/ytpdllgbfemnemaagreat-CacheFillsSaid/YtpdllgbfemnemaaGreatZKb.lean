import Derived.Test.YtpdllgbfemnemaaGreatZSxW
import Derived.Test.YtpdllgbfemnemaaGreatZWireC
import Derived.Test.YtpdllgbfemnemaaGreatZWalkR14C
import Derived.Test.YtpdllgbfemnemaaGreatZShaC
namespace Go.Proofs.YtpdllgbfemnemaaGreat.Sx
open Go.RowKit
section
theorem zsf (n : Int) : zae Tryz.prog 54 [I n] (.r (.b (zau n))) :=
 zic (us := [.int .i64 n]) (u := .bool (zau n)) (za7 Tryz.func54 rfl (by kernel_rfl)) (λ _ _ _ h => zol h) (λ _ _ => by simp [RV.at_]) λ w => zid n w
theorem zhm (x : Int) : zae Tryz.prog 90 [I x] (.r (I (zba x))) :=
 zic (us := [.int .i64 x]) (u := .int .i64 (zba x)) (za7 Tryz.func90 rfl (by kernel_rfl)) (λ _ _ _ h => zol h) (λ _ _ => by simp [RV.at_]) λ w => zx4 x w
theorem zf7 (x : Int) : zae Tryz.prog 91 [I x] (.r (I (za6 x))) :=
 zic (us := [.int .i64 x]) (u := .int .i64 (za6 x)) (za7 Tryz.func91 rfl (by kernel_rfl)) (λ _ _ _ h => zol h) (λ _ _ => by simp [RV.at_]) λ w => ztp x w
theorem zqz (n : Int) : zae Tryz.prog 53 [I n] (.r (I (zga n))) :=
 zic (us := [.int .i64 n]) (u := .int .i64 (zga n)) (za7 Tryz.func53 rfl (by kernel_rfl)) (λ _ _ _ h => zol h) (λ _ _ => by simp [RV.at_]) λ w => z6a n w
theorem zlq (x y : Int) : zae Tryz.prog 98 [I x, I y] (.r (.b (zar x y))) :=
 zic (us := [.int .i64 x, .int .i64 y]) (u := .bool (zar x y)) (za7 Tryz.func98 rfl (by kernel_rfl)) (λ _ _ _ h => zok h) (λ _ _ => by simp [RV.at_]) λ w => z2y x y w
theorem zqd (n : Int) : zae Tryz.prog 43 [I n] (.r (.b (zau n))) :=
 zic (us := [.int .i64 n]) (u := .bool (zau n)) (za7 Tryz.func43 rfl (by kernel_rfl)) (λ _ _ _ h => zol h) (λ _ _ => by simp [RV.at_]) λ w => zgo n w
theorem zg3 (x y : Int) : zae Tryz.prog 45 [I x, I y] (.r (.b (zar x y))) :=
 zup (us := [.int .i64 x, .int .i64 y]) (u := .bool (zar x y)) (za7 Tryz.func45 rfl (by kernel_rfl)) (λ _ _ _ h => zok h) (λ _ _ => by simp [RV.at_]) λ w => zxs x y w
theorem zf2 (x : Int) : zae Tryz.prog 49 [I x] (.r (.tu [I (zba x), I (za6 x)])) :=
 zup (us := [.int .i64 x]) (u := .tuple #[.int .i64 (zba x), .int .i64 (za6 x)]) (za7 Tryz.func49 rfl (by kernel_rfl)) (λ _ _ _ h => zol h) (λ _ _ => by simp [RV.at_, RV.partsAt]) λ w => zjs x w
theorem z2r (x n : Int) : zae Tryz.prog 55 [I x, I n] (ich (zbw x n)) :=
 zbo (za7 Tryz.func55 rfl (by kernel_rfl)) λ w k vs hp => by
  rw [zok hp]
  exact (zxc x n w).mono λ _ _ ⟨v, he, hx, _, hv⟩ => ⟨v, he, hx, znm hv⟩
theorem z5h (x n : Int) : zae Tryz.prog 57 [I x, I n] (ich (zbb x n)) :=
 zbo (za7 Tryz.func57 rfl (by kernel_rfl)) λ w k vs hp => by
  rw [zok hp]
  exact (z0l x n w).mono λ _ _ ⟨v, he, hx, _, hv⟩ => ⟨v, he, hx, znm hv⟩
theorem zmp (x n : Int) : zae Tryz.prog 46 [I x, I n] (ich (zbw x n)) :=
 zbo (za7 Tryz.func46 rfl (by kernel_rfl)) λ w k vs hp => by
  rw [zok hp]
  exact (zyg x n w).mono λ _ _ ⟨v, he, hx, _, hv⟩ => ⟨v, he, hx, znm hv⟩
theorem zqw (x n : Int) : zae Tryz.prog 33 [I x, I n] (ich (zbb x n)) :=
 zbo (za7 Tryz.func33 rfl (by kernel_rfl)) λ w k vs hp => by
  rw [zok hp]
  exact (zuw x n w).mono λ _ _ ⟨v, he, hx, _, hv⟩ => ⟨v, he, hx, znm hv⟩
theorem zjm (l m : List Int) (hl : ∀ x ∈ l, i64 x) (hm : ∀ x ∈ m, i64 x) : zae Tryz.prog 21 [is l, is m] (.r (.b (decide (l = m)))) :=
 zbo (za7 Tryz.func21 rfl (by kernel_rfl)) λ w k vs hp => by
  obtain ⟨a, b, rfl, h1, h2⟩ := zip hp
  obtain ⟨p, rfl, hp1⟩ := z0j hl h1
  obtain ⟨q, rfl, hq1⟩ := z0j hm h2
  exact (zys p q l m w hp1 hq1).mono λ _ _ ⟨v, he, hx, hv⟩ => ⟨v, he, hx, k, λ _ _ => rfl, by simp only [Res.at_, RV.at_]; exact hv⟩
theorem zjt (l m : List UInt8) : zae Tryz.prog 19 [bs l, bs m] (.r (.b (decide (l = m)))) :=
 zbo (za7 Tryz.func19 rfl (by kernel_rfl)) λ w k vs hp => by
  obtain ⟨a, b, rfl, h1, h2⟩ := zip hp
  obtain ⟨p, rfl, hp1⟩ := ze7 h1
  obtain ⟨q, rfl, hq1⟩ := ze7 h2
  exact (zx7 p q l m w hp1 hq1).mono λ _ _ ⟨v, he, hx, hv⟩ => ⟨v, he, hx, k, λ _ _ => rfl, by simp only [Res.at_, RV.at_]; exact hv⟩
theorem zfe (l : List UInt8) (hl : l.length <= 8000000000000) : zae Tryz.prog 87 [bs l] (bch l) :=
 zbo (za7 Tryz.func87 rfl (by kernel_rfl)) λ w k vs hp => by
  obtain ⟨a, rfl, h1⟩ := zhh hp
  obtain ⟨p, rfl, hp1⟩ := ze7 h1
  exact (zq7 p l w hp1 hl).mono λ _ _ ⟨v, he, hx, _, hv⟩ => ⟨v, he, hx, zgp hv⟩
theorem zc6 (l m : List UInt8) (hl : l.length <= 1000000000000) (hm : m.length <= 1000000000000) : zae Tryz.prog 160 [bs l, bs m] (bch (l ++ m)) :=
 zbo (za7 Tryz.func160 rfl (by kernel_rfl)) λ w k vs hp => by
  obtain ⟨a, b, rfl, h1, h2⟩ := zip hp
  obtain ⟨p, rfl, hp1⟩ := ze7 h1
  obtain ⟨q, rfl, hq1⟩ := ze7 h2
  exact (z7r p q l m w hp1 hq1 hl hm).mono λ _ _ ⟨v, he, hx, _, hv⟩ => ⟨v, he, hx, zgp hv⟩
theorem zjr (l m : List UInt8) (hl : l.length <= 1000000000000) (hm : m.length <= 1000000000000) : zae Tryz.prog 77 [bs l, bs m] (bch (l ++ m)) :=
 zbo (za7 Tryz.func77 rfl (by kernel_rfl)) λ w k vs hp => by
  obtain ⟨a, b, rfl, h1, h2⟩ := zip hp
  obtain ⟨p, rfl, hp1⟩ := ze7 h1
  obtain ⟨q, rfl, hq1⟩ := ze7 h2
  exact (z74 p q l m w hp1 hq1 hl hm).mono λ _ _ ⟨v, he, hx, _, hv⟩ => ⟨v, he, hx, zgp hv⟩
theorem zp0 (l : List UInt8) (size m : Nat) (hl : l.length <= 1000000000000) (hs : size = 1 \/ size = 2 \/ size = 4 \/ size = 8) : zae Tryz.prog 129 [bs l, I size, .i .u64 m] (bch (l ++ beB size m)) :=
 zbo (za7 Tryz.func129 rfl (by kernel_rfl)) λ w k vs hp => by
  obtain ⟨a, b, c, rfl, h1, h2, h3⟩ := z90 hp
  obtain ⟨p, rfl, hp1⟩ := ze7 h1
  simp only [RV.at_] at h2 h3
  subst h2; subst h3
  exact (zi7 p l size m w hp1 hl hs).mono λ _ _ ⟨v, he, hx, _, hv⟩ => ⟨v, he, hx, zgp hv⟩
theorem zdq (l m : List UInt8) (hl : l.length <= 1000000000000) (hm : m.length <= 1073741823) : zae Tryz.prog 130 [bs l, bs m] (bch (l ++ vecB m)) :=
 zbo (za7 Tryz.func130 rfl (by kernel_rfl)) λ w k vs hp => by
  obtain ⟨a, b, rfl, h1, h2⟩ := zip hp
  obtain ⟨p, rfl, hp1⟩ := ze7 h1
  obtain ⟨q, rfl, hq1⟩ := ze7 h2
  exact (z11 p q l m w hp1 hq1 hl hm).mono λ _ _ ⟨v, he, hx, _, hv⟩ => ⟨v, he, hx, zgp hv⟩
theorem zef (m : List UInt8) (hm : m.length <= 1073741823) : zae Tryz.prog 128 [bs m] (bch (vecB m)) :=
 zbo (za7 Tryz.func128 rfl (by kernel_rfl)) λ w k vs hp => by
  obtain ⟨b, rfl, h2⟩ := zhh hp
  obtain ⟨q, rfl, hq1⟩ := ze7 h2
  exact (z18 q m w hq1 hm).mono λ _ _ ⟨v, he, hx, _, hv⟩ => ⟨v, he, hx, zgp hv⟩
theorem zsx (size m : Nat) (hs : size <= 8) (hm : m < 18446744073709551616) : zae Tryz.prog 78 [I size, .i .u64 m] (bch (beB size m)) :=
 zbo (za7 Tryz.func78 rfl (by kernel_rfl)) λ w k vs hp => by
  obtain ⟨b, c, rfl, h2, h3⟩ := zip hp
  simp only [RV.at_] at h2 h3
  subst h2; subst h3
  exact (z0t size m w hs hm).mono λ _ _ ⟨v, he, hx, _, hv⟩ => ⟨v, he, hx, zgp hv⟩
end
section
theorem Vcall.bool {P : Program} {f : FuncId} {vs : List RV} {K : Res -> Prop} {β : Bool} (hg : zae P f vs (.r (.b β))) (ht : β = true -> K (.r (.b true))) (hf : β = false -> K (.r (.b false))) : Vcall P f vs K := by
 cases β
 ·exact ze hg (hf rfl)
 ·exact ze hg (ht rfl)
def Leaf.right (l : Leaf) : Bool := decide (l.box.length = 32 /\ l.sign.length = 32 /\ 0 < l.ident.length /\ l.ident.length <= 64 /\ 0 < l.src.toNat /\ l.src.toNat < 4 /\ (l.parent.length = 0 \/ l.src.toNat = 3 /\ l.parent.length = 32) /\ l.sig.length = 64)
theorem znv (l : Leaf) : zae Tryz.prog 83 [.ag l.c] (.r (.b l.right)) := by
 refine zad (T := Tab) zaf Tab_ok Tryz.func83 rfl (by kernel_rfl) ?_
 (repeat' (first | refine zh (λ h => ?_) (λ h => ?_) | refine zf ?_ | refine zq ?_ | refine zt ?_))
 all_goals refine congrArg RV.b (Eq.symm ?_)
 all_goals simp only [Leaf.right, zb] at *
 all_goals omega
theorem z1q (a b : Leaf) : zae Tryz.prog 109 [.ag a.c, .ag b.c] (.r (.b (decide (a = b)))) := by
 refine zad (T := Tab) zaf Tab_ok Tryz.func109 rfl (by kernel_rfl) ?_
 obtain ⟨a1, a2, a3, a4, a5, a6⟩ := a
 obtain ⟨b1, b2, b3, b4, b5, b6⟩ := b
 repeat' (first | refine Vcall.bool (zjt _ _) (λ h => ?_) (λ h => ?_) | refine zh (λ h => ?_) (λ h => ?_) | refine zf ?_)
 all_goals simp only [zb, Int.natCast_inj, UInt8.toNat_inj] at *
 all_goals simp_all [ofC]
theorem zp1 (a b : Node) (ha : ∀ x ∈ a.par.late, i64 x) (hb : ∀ x ∈ b.par.late, i64 x) : zae Tryz.prog 64 [.ag a.c, .ag b.c] (.r (.b (decide (a = b)))) := by
 refine zad (T := Tab) zaf Tab_ok Tryz.func64 rfl (by kernel_rfl) ?_
 obtain ⟨a1, a2, a3⟩ := a
 obtain ⟨b1, b2, b3⟩ := b
 refine zh (λ h1 => ?_) (λ h1 => ?_)
 ·refine za rfl rfl ?_
  refine za rfl rfl ?_
  refine Vcall.bool (z1q a2 b2) (λ h2 => ?_) (λ h2 => ?_)
  ·refine Vcall.bool (zjt _ _) (λ h3 => ?_) (λ h3 => ?_)
   ·refine Vcall.bool (zjt _ _) (λ h4 => ?_) (λ h4 => ?_)
    ·refine Vcall.bool (zjm _ _ ha hb) (λ h5 => ?_) (λ h5 => ?_)
     ·refine zf ?_
      simp only [zb, Int.natCast_inj, UInt8.toNat_inj] at *
      obtain ⟨_, _, _⟩ := a3
      obtain ⟨_, _, _⟩ := b3
      simp_all [ofC]
     ·refine zf ?_
      simp only [zb, Int.natCast_inj, UInt8.toNat_inj] at *
      simp [ofC]
      intro _ _ e; exact h5 (by rw [e])
    ·refine zf ?_
     simp only [zb, Int.natCast_inj, UInt8.toNat_inj] at *
     simp [ofC]
     intro _ _ e; exact h4 (by rw [e])
   ·refine zf ?_
    simp only [zb, Int.natCast_inj, UInt8.toNat_inj] at *
    simp [ofC]
    intro _ _ e; exact h3 (by rw [e])
  ·refine zf ?_
   simp only [zb, Int.natCast_inj, UInt8.toNat_inj] at *
   simp [ofC, h2]
 ·refine zf ?_
  simp only [zb, Int.natCast_inj, UInt8.toNat_inj] at *
  simp [ofC, h1]
end
section
theorem zb3 {ρ : List (Nat × Nat)} {S : St} (v : RV) : cvTF ρ S (.r v) (.r v) := by
 cases v <;> first | trivial | exact cr
theorem zab {ρ : List (Nat × Nat)} {S : St} : ∀ l : List RV, zg9 ρ S (l.map .r) (l.map .r)
 | [] => rfl
 | v :: r => ⟨_, _, rfl, zb3 v, zab r⟩
def Leaf.fit (l : Leaf) : Prop := l.box.length <= 1000000000 /\ l.sign.length <= 1000000000 /\ l.ident.length <= 1000000000 /\ l.parent.length <= 1000000000 /\ l.sig.length <= 1000000000
def Par.fit (p : Par) : Prop := p.box.length <= 1000000000 /\ p.hash.length <= 1000000000 /\ p.late.length <= 100000000 /\ ∀ x ∈ p.late, i64 x
def zey : Int -> List Int -> Bool
 | _, [] => true
 | last, x :: r => decide (last < x /\ x < 65536) && zey x r
def Par.right (p : Par) : Bool := zey (-1) p.late && decide (p.box.length = 32 /\ (p.hash.length = 0 \/ p.hash.length = 32))
def Leaf.none (l : Leaf) : Bool := decide (l.src.toNat = 0 /\ l.box.length = 0 /\ l.sign.length = 0 /\ l.ident.length = 0 /\ l.parent.length = 0 /\ l.sig.length = 0)
def Par.none (p : Par) : Bool := decide (p.box.length = 0 /\ p.hash.length = 0 /\ p.late.length = 0)
theorem zvq (l : Leaf) (hl : l.fit) : zae Tryz.prog 172 [.ag l.c] (.r (.b l.none)) := by
 refine zad (T := Tab) zaf Tab_ok Tryz.func172 rfl (by kernel_rfl) ?_
 obtain ⟨h1, h2, h3, h4, h5⟩ := hl
 refine zh (λ h => ?_) (λ h => ?_)
 ·refine zd rfl (by omega) ?_
  refine zd rfl (by omega) ?_
  refine zd rfl (by omega) ?_
  refine zd rfl (by omega) ?_
  refine Vcmp.mk' rfl (zf (congrArg RV.b ?_))
  simp only [Leaf.none, zb] at *
  rw [Bool.eq_iff_iff]
  simp only [zb] at *
  omega
 ·refine zf (congrArg RV.b ?_)
  simp only [Leaf.none, zb] at *
  rw [eq_comm]
  simp only [zb] at *
  omega
theorem zyz (p : Par) (hp : p.fit) : zae Tryz.prog 173 [.ag p.c] (.r (.b p.none)) := by
 refine zad (T := Tab) zaf Tab_ok Tryz.func173 rfl (by kernel_rfl) ?_
 obtain ⟨h1, h2, h3, _⟩ := hp
 refine zd rfl (by omega) ?_
 refine zd rfl (by omega) ?_
 refine Vcmp.mk' rfl (zf (congrArg RV.b ?_))
 simp only [Par.none, zb] at *
 rw [Bool.eq_iff_iff]
 simp only [zb] at *
 omega
theorem zs0 (l : Leaf) : zae Tryz.prog 174 [.ag l.c] (.r (.b l.right)) := by
 refine zad (T := Tab) zaf Tab_ok Tryz.func174 rfl (by kernel_rfl) ?_
 (repeat' (first | refine zh (λ h => ?_) (λ h => ?_) | refine zf ?_ | refine zq ?_ | refine zt ?_))
 all_goals refine congrArg RV.b (Eq.symm ?_)
 all_goals simp only [Leaf.right, zb] at *
 all_goals omega
theorem z2o (p : Par) (hp : p.fit) : zae Tryz.prog 175 [.ag p.c] (.r (.b p.right)) := by
 refine zad (T := Tab) zaf Tab_ok Tryz.func175 rfl (by kernel_rfl) ?_
 obtain ⟨hp1, hp2, hp3, hp4⟩ := hp
 refine zy (λ i : Nat × Int => { F := [(1, .own 0), (2, .r (.b false)), (3, .r (I i.2)), (7, .r (is p.late)), (8, .r (I p.late.length)), (9, .r (I i.1))], O := [(0, some (.box (p.c.map .r)))], nx := 1 })
  (λ i => i.1 <= p.late.length /\ zey (-1) p.late = zey i.2 (p.late.drop i.1)) (λ i => p.late.length - i.1) (0, -1) ⟨by simp, by simp⟩ (zac [(0, 0)] rfl ⟨rfl, cr, cr, cr, cr, cr, trivial⟩ ⟨zab _, trivial⟩) ?_
 rintro ⟨j, last⟩ ⟨hj, hlate⟩
 simp only at hj hlate
 refine zh (λ h => zq ?_) (λ h => zt ?_)
 ·simp only [zb] at h
  have hj' : j < p.late.length := by omega
  have hx := hp4 _ (List.getElem_mem hj')
  rw [List.drop_eq_getElem_cons hj'] at hlate
  simp only [zey] at hlate
  refine zm (by omega) (by omega) (zah rfl hj') (zg rfl ?_)
  refine zh (λ h1 => ?_) (λ h1 => ?_)
  ·simp only [zb] at h1
   refine zq (zf (congrArg RV.b (Eq.symm ?_)))
   have : ¬ (last < p.late[j] /\ p.late[j] < 65536) := by omega
   simp [Par.right, hlate, this]
  ·refine zh (λ h2 => ?_) (λ h2 => ?_)
   ·simp only [zb] at h2
    refine zq (zf (congrArg RV.b (Eq.symm ?_)))
    have : ¬ (last < p.late[j] /\ p.late[j] < 65536) := by omega
    simp [Par.right, hlate, this]
   ·simp only [zb] at h1 h2
    refine zt ?_
    refine zd (m := ((j + 1 : Nat) : Int)) (by omega) (by omega) ?_
    have : last < p.late[j] /\ p.late[j] < 65536 := by omega
    rw [decide_eq_true this, Bool.true_and] at hlate
    exact ⟨(j + 1, p.late[j]), ⟨by simp only; omega, hlate⟩, by simp only; omega, zac [(0, 0)] rfl ⟨rfl, cr, cr, cr, cr, cr, trivial⟩ ⟨zab _, trivial⟩⟩
 ·simp only [zb] at h
  have : p.late.drop j = [] := List.drop_eq_nil_of_le (by omega)
  rw [this] at hlate
  simp only [zey] at hlate
  (repeat' (first | refine zh (λ h => ?_) (λ h => ?_) | refine zf ?_ | refine zq ?_ | refine zt ?_))
  all_goals refine congrArg RV.b (Eq.symm ?_)
  all_goals simp only [Par.right, hlate, Bool.true_and, zb] at *
  all_goals omega
end
end Go.Proofs.YtpdllgbfemnemaaGreat.Sx
