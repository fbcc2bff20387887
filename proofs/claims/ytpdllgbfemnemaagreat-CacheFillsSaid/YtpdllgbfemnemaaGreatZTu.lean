import Derived.Test.YtpdllgbfemnemaaGreatZKb
import Derived.Laws.BytesArg
import Derived.Lib.Bytes
import Derived.Test.YtpdllgbfemnemaaGreatZTn
import Derived.Test.YtpdllgbfemnemaaGreatZKq
import Derived.Test.YtpdllgbfemnemaaGreatZSxX
import Derived.Shelf.RegionOpenPlain
import Derived.Lib.Walk
import Derived.Lib.SliceRun
import Derived.Lib.Overlaps
import Derived.Laws.Externs
import Derived.Laws.IdiomCopy
import Derived.Lib.AppendZerosOnto
import Derived.Laws.NewBlocks
import Derived.Test.YtpdllgbfemnemaaGreatZNd
import Derived.Test.YtpdllgbfemnemaaGreatZTs
namespace Go.Proofs.YtpdllgbfemnemaaGreat.Sx
open Go.RowKit
set_option linter.unusedVariables false
section
def nums (l : List UInt8) : List Int := l.map λ b => (b.toNat : Int)
theorem zzy {S : Nat -> Prop} (p : AC) (l : List UInt8) (w : World) (hp : By w S p l) : (convert 28 9 (.slice p.a l.length p.c)).run Tryz.prog w = .ok (.string (strOfNums (nums l))) w := by
 rcases Nat.eq_zero_or_pos l.length with hn | hn
 ·have hl : l = [] := List.eq_nil_of_length_eq_zero hn
  subst hl
  rw [run_convert_bytes_string w _ _ _ _ _ _ Tryz.underlying28 Tryz.underlying5 Tryz.underlying9]
  simp only [List.length_nil]
  cases p.a <;> simp [Conv.bytesToString, loadCells]
  all_goals rfl
 ·obtain ⟨b, o, e, hc⟩ := hp.form hn
  rw [e]
  exact run_convert_bytes_arg w _ _ Tryz.underlying28 Tryz.underlying5 b o l.length p.c (nums l) (by simp [nums]) (λ i hi => by
   rw [hc i hi]
   simp [nums, hi]) _ Tryz.underlying9
theorem z8d (l m : List UInt8) : ((strOfNums (nums l)).toList == (strOfNums (nums m)).toList) = decide (l = m) := by
 have h : ∀ l : List UInt8, (strOfNums (nums l)).toList = l := λ l => by
  rw [Lib.strOfNums_toList]
  simp [Lib.bytesOf, nums, Function.comp_def]
 rw [h, h]
 by_cases e : l = m
 ·subst e
  simp
 ·simp [e]
theorem z1f (p q : AC) (l m : List UInt8) {S : Nat -> Prop} (w : World) (hp : By w S p l) (hq : By w S q m) :
  Calls Tryz.prog 151 #[.slice p.a l.length p.c, .slice q.a m.length q.c] w λ e w' => e = .returned (.bool (decide (l = m))) /\ w' = w := by
 have g1 := zzy p l w hp
 have g2 := zzy q m w hq
 rw [<- z8d]
 generalize strOfNums (nums l) = s1 at *
 generalize strOfNums (nums m) = s2 at *
 obtain ⟨a, c⟩ := p
 obtain ⟨a', c'⟩ := q
 go_enter Tryz.func151, Tryz.ntmps151
 go_wp2_with fail
 go_ret
 exact ⟨rfl, rfl⟩
theorem z5l (l m : List UInt8) : zae Tryz.prog 151 [bs l, bs m] (.r (.b (decide (l = m)))) :=
 zbo (za7 Tryz.func151 rfl (by kernel_rfl)) λ w k vs hp => by
  obtain ⟨a, b, rfl, h1, h2⟩ := zip hp
  obtain ⟨p, rfl, hp1⟩ := ze7 h1
  obtain ⟨q, rfl, hq1⟩ := ze7 h2
  exact (z1f p q l m w hp1 hq1).mono λ _ _ ⟨e, hw⟩ => ⟨_, e, hw ▸ Ext.refl _, k, λ _ _ => rfl, by simp [Res.at_, RV.at_]⟩
end
section
theorem znr (s : Lean_) (hs : s.fitN) (x : Int) (hx : zaj s.opn x = none) : zae Tryz.prog 152 [zit s.leaves s.own s.opn s.shut, I x] (.r (bs (zcg s.shut x))) := by
 refine zad (T := Tab) zaf Tab_ok Tryz.func152 rfl (by kernel_rfl) ?_
 obtain ⟨hs1, hs2, hs3, hs4⟩ := id hs
 refine Vstep.node2 rfl rfl rfl (λ n hn => by rw [hx] at hn; cases hn) (λ _ => ?_)
 refine zu rfl (zq ?_)
 refine Vstep.hash1 rfl rfl rfl (λ m hm => ?_) (λ hm => ?_)
 ·obtain ⟨e, sp, hsp, _, rfl⟩ := zer hm
  have := hs4 sp hsp
  refine ze (zfe _ (by omega)) ?_
  exact zf (by rw [e]; rfl)
 ·refine Vcall.mk' (zfe [] (by simp)) (zk (Cv.nil 1) Cvs.nil) ?_
  exact zf (by rw [zlv hm]; rfl)
theorem zx2 (s : Lean_) (hs : s.fitN) (k : Nat) (hk : k < 65536) : zae Tryz.prog 152 [zit s.leaves s.own s.opn s.shut, I (nd 0 k)] (.r (bs (zap s 0 k))) := by
 cases hx : zaj s.opn (nd 0 k) with
 | none =>
  have := znr s hs (nd 0 k) hx
  have e : zap s 0 k = zcg s.shut (nd 0 k) := by simp [zap, hx]
  rw [e]; exact this
 | some n =>
  have e : zap s 0 k = shaB (zfh k n) := by simp [zap, hx]
  rw [e]
  refine zad (T := Tab) zaf Tab_ok Tryz.func152 rfl (by kernel_rfl) ?_
  refine Vstep.node2 rfl rfl rfl (λ m hm => ?_) (λ hm => by rw [hx] at hm; cases hm)
  rw [hx] at hm
  cases hm
  obtain ⟨sp, hsp, _, rfl⟩ := zbf hx
  have hfit := hs.2.2.1 sp hsp
  refine zw rfl (zt ?_)
  refine ⟨by decide, _, rfl, ?_⟩
  refine zu (by rw [zb4]; rfl) (zq ?_)
  refine ⟨by decide, (k : Int), ?_, ?_⟩
  ·rw [zen, Int.tdiv_eq_ediv_of_nonneg (by omega)]
   rw [show (((2 * k : Nat) : Int)) / 2 = k by omega]
   exact wrap_i64 (by omega)
  refine za rfl rfl ?_
  refine ze (zpl k sp.node hfit) ?_
  have hle := zts k sp.node hfit
  refine zx ?_
  refine Vcall.mk' (zvk [zfh k sp.node] (by simp; omega)) (zk (zf (by rw [bss1]; rfl)) Cvs.nil) ?_
  exact zf (by simp [bs])
theorem z1v (s : Lean_) (hs : s.fitN) (h : Nat) (hh : h + 1 <= 16) (ih : ∀ k, k < 2 ^ (16 - h) -> zae Tryz.prog 152 [zit s.leaves s.own s.opn s.shut, I (nd h k)] (.r (bs (zap s h k)))) (k : Nat) (hk : k < 2 ^ (16 - (h + 1))) :
  zae Tryz.prog 152 [zit s.leaves s.own s.opn s.shut, I (nd (h + 1) k)] (.r (bs (zap s (h + 1) k))) := by
 have hleft := zdr (d := 16) (by omega) (show h + 1 <= 16 by omega) hk
 have hright := zda (d := 16) (by omega) (show h + 1 <= 16 by omega) hk
 have hk2 : 2 ^ (16 - h) = 2 * 2 ^ (16 - (h + 1)) := by rw [show 16 - h = (16 - (h + 1)) + 1 by omega, Nat.pow_succ]; omega
 cases hx : zaj s.opn (nd (h + 1) k) with
 | none =>
  have := znr s hs (nd (h + 1) k) hx
  have e : zap s (h + 1) k = zcg s.shut (nd (h + 1) k) := by simp [zap, hx]
  rw [e]; exact this
 | some n =>
  have e : zap s (h + 1) k = shaB (zfk n (zap s h (2 * k)) (zap s h (2 * k + 1))) := by simp [zap, hx]
  rw [e]
  refine zad (T := Tab) zaf Tab_ok Tryz.func152 rfl (by kernel_rfl) ?_
  refine Vstep.node2 rfl rfl rfl (λ m hm => ?_) (λ hm => by rw [hx] at hm; cases hm)
  rw [hx] at hm
  cases hm
  obtain ⟨sp, hsp, _, rfl⟩ := zbf hx
  have hfit := hs.2.2.1 sp hsp
  refine zw rfl (zt ?_)
  refine ⟨by decide, _, rfl, ?_⟩
  refine zw (by rw [zcr]; rfl) (zt ?_)
  refine Vdraw.mk' (by kernel_rfl) ?_
  refine za rfl rfl ?_
  refine za rfl rfl ?_
  refine ze (zhm _) ?_
  rw [hleft]
  refine ze (ih (2 * k) (by omega)) ?_
  refine za rfl rfl ?_
  refine ze (zf7 _) ?_
  rw [hright]
  refine ze (ih (2 * k + 1) (by omega)) ?_
  refine ze (zr2 sp.node _ _ hfit) ?_
  have hle := ztk sp.node (zap s h (2 * k)) (zap s h (2 * k + 1)) hfit
  refine zx ?_
  refine Vcall.mk' (zvk [zfk sp.node (zap s h (2 * k)) (zap s h (2 * k + 1))] (by simp; omega)) (zk (zf (by rw [bss1]; rfl)) Cvs.nil) ?_
  exact zf (by simp [bs])
theorem zze (s : Lean_) (hs : s.fitN) : ∀ (h k : Nat), h <= 16 -> k < 2 ^ (16 - h) -> zae Tryz.prog 152 [zit s.leaves s.own s.opn s.shut, I (nd h k)] (.r (bs (zap s h k)))
 | 0, k, _, hk => zx2 s hs k (by simpa using hk)
 | h + 1, k, hh, hk => z1v s hs h hh (λ k hk => zze s hs h k (by omega) hk) k hk
end
section
def putN (O : List Spot) (x : Int) : Spot := ⟨x, (zaj O x).getD Node.zero⟩
def putH (H : List Stub) (x : Int) : Stub := ⟨x, zcg H x⟩
def ze0 (leaves own : Int) (O : List Spot) (H : List Stub) : Lean_ := ⟨leaves, own, (zby (O.map λ s => s.at_)).map (putN O), (zby (H.map λ s => s.at_)).map (putH H)⟩
theorem ztu {l : List Int} {x : Int} : x ∈ zby l ↔ x ∈ l := by unfold zby; exact List.mem_mergeSort
theorem zkm (l : List Int) : (zby l).length = l.length := by unfold zby; exact List.length_mergeSort l
theorem z1n {O : List Spot} {x : Int} (h : x ∈ O.map λ s => s.at_) : ∃ s ∈ O, zaj O x = some s.node := by
 cases hf : zaj O x with
 | none =>
  simp only [zaj, Option.map_eq_none_iff, List.find?_eq_none, decide_eq_true_eq] at hf
  obtain ⟨s, hs, e⟩ := List.mem_map.1 h
  exact absurd e (hf s hs)
 | some n =>
  obtain ⟨s, hs, _, rfl⟩ := zbf hf
  exact ⟨s, hs, rfl⟩
theorem z0z {H : List Stub} {x : Int} (h : x ∈ H.map λ s => s.at_) : ∃ s ∈ H, zdl H x = some s.hash := by
 cases hf : zdl H x with
 | none =>
  simp only [zdl, Option.map_eq_none_iff, List.find?_eq_none, decide_eq_true_eq] at hf
  obtain ⟨s, hs, e⟩ := List.mem_map.1 h
  exact absurd e (hf s hs)
 | some n =>
  obtain ⟨_, s, hs, _, rfl⟩ := zer hf
  exact ⟨s, hs, rfl⟩
set_option maxHeartbeats 4000000 in
theorem z48 (leaves own : Int) (O : List Spot) (H : List Stub) (hOn : O.length <= 1000000) (hHn : H.length <= 1000000) (hOf : ∀ s ∈ O, s.node.fit) (hOi : ∀ s ∈ O, i64 s.at_) (hHi : ∀ s ∈ H, i64 s.at_) (hHl : ∀ s ∈ H, s.hash.length <= 1000000000) :
  zae Tryz.prog 117 [zit leaves own O H] (.r (.ag (ze0 leaves own O H).c)) := by
 refine zad (T := Tab) zaf Tab_ok Tryz.func117 rfl (by kernel_rfl) ?_
 have kN := zt3 (zay O) (by simpa [zay] using hOn) (λ x hx => by
  simp only [zay, List.mem_map] at hx
  obtain ⟨s, hs, rfl⟩ := hx
  exact hOi s hs)
 have kH := zt4 (za0 H) (by simpa [za0] using hHn) (λ x hx => by
  simp only [za0, List.mem_map] at hx
  obtain ⟨s, hs, rfl⟩ := hx
  exact hHi s hs)
 rw [zq1] at kN
 rw [zrz] at kH
 obtain ⟨K, hK⟩ : ∃ K, K = zby (O.map λ s => s.at_) := ⟨_, rfl⟩
 obtain ⟨M, hM⟩ : ∃ M, M = zby (H.map λ s => s.at_) := ⟨_, rfl⟩
 have hKl : K.length <= 1000000 := by rw [hK, zkm, List.length_map]; exact hOn
 have hMl : M.length <= 1000000 := by rw [hM, zkm, List.length_map]; exact hHn
 have hKm : ∀ x ∈ K, ∃ s ∈ O, zaj O x = some s.node := λ x hx => z1n (ztu.1 (hK ▸ hx))
 have hMm : ∀ x ∈ M, ∃ s ∈ H, zdl H x = some s.hash := λ x hx => z0z (ztu.1 (hM ▸ hx))
 rw [<- hK] at kN
 rw [<- hM] at kH
 have hL : ze0 leaves own O H = ⟨leaves, own, K.map (putN O), M.map (putH H)⟩ := by rw [hK, hM]; rfl
 rw [hL]
 clear hL hK hM
 refine ze (zyy (zay O)) ?_
 refine ze kN ?_
 refine zy (λ j : Nat => { F := [(1, .own 0), (2, .own 1), (3, .own 2), (16, .r (is K)), (17, .r (I K.length)), (18, .r (I j))], O := [(0, some (pbox leaves own O H)), (1, some (.box (zero4.map .r))), (2, some (.box [.r (I leaves), .r (I own), .own 3, .own 4])), (3, some (zd0 ((K.take j).map (putN O)))), (4, some (zeb []))], nx := 5 })
  (λ j => j <= K.length) (λ j => K.length - j) 0 (by omega)
  ((zd2 true 2 2 77 11 (cells := [.r (I leaves), .r (I own), .r (.x (.slice none 0 0)), .r (.x (.slice none 0 0))]) rfl rfl).trans ((zd2 true 2 3 79 2 (cells := [.r (I leaves), .r (I own), .own 4, .r (.x (.slice none 0 0))]) rfl rfl).trans (zac [(0, 0), (1, 1), (2, 2), (3, 4), (4, 5)] rfl ⟨rfl, rfl, rfl, cr, cr, cr, trivial⟩ ⟨⟨_, _, rfl, cr, _, _, rfl, cr, _, _, rfl, cr, _, _, rfl, cr, rfl⟩, zab zero4, cvc (zb3 _) (cvc (zb3 _) (cvc rfl (cvc rfl rfl))), ⟨rfl, rfl, rfl, rfl, zn _⟩, ⟨rfl, rfl, rfl, rfl, zn _⟩, trivial⟩))) ?_
 intro j hj
 refine zh (λ h => zq ?_) (λ h => zt ?_)
 ·simp only [zb] at h
  have hj' : j < K.length := by omega
  obtain ⟨s, hs, hfs⟩ := hKm K[j] (List.getElem_mem hj')
  refine zm (by omega) (by omega) (zah rfl hj') (zg rfl ?_)
  refine Vdraw.code (Vcode.float zaf Tab_ok 10 [⟨0, 22, .adr 2 2, []⟩, ⟨1, 23, .own 3, [0]⟩, ⟨2, 24, .r (I K[j]), []⟩, ⟨5, 27, .r (I K[j]), []⟩] [(3, []), (4, []), (6, [5]), (7, []), (8, [2]), (9, [])] (by kernel_rfl) (F := [(1, .own 0), (2, .own 1), (3, .own 2), (5, .r (I K[j])), (16, .r (is K)), (17, .r (I K.length)), (18, .r (I j))]) (O := [(0, some (pbox leaves own O H)), (1, some (.box (zero4.map .r))), (2, some (.box [.r (I leaves), .r (I own), .own 3, .own 4])), (3, some (zd0 ((K.take j).map (putN O)))), (4, some (zeb []))]) (nx := 5) (zac [(0, 0), (1, 1), (2, 2), (3, 3), (4, 4)] rfl ⟨rfl, rfl, rfl, cr, cr, cr, cr, trivial⟩ ⟨⟨_, _, rfl, cr, _, _, rfl, cr, _, _, rfl, cr, _, _, rfl, cr, rfl⟩, zab zero4, cvc (zb3 _) (cvc (zb3 _) (cvc rfl (cvc rfl rfl))), ⟨rfl, rfl, rfl, rfl, zn _⟩, ⟨rfl, rfl, rfl, rfl, zn _⟩, trivial⟩) ?_)
  refine ⟨rfl, ⟨λ Y => zo _, λ Y => zo _, λ Y => zo _, λ Y => zo _, trivial⟩, (25, .adr 0 2) :: [(1, .own 0), (2, .own 1), (3, .own 2), (5, .r (I K[j])), (16, .r (is K)), (17, .r (I K.length)), (18, .r (I j))], [(0, some (pbox leaves own O H)), (1, some (.box (zero4.map .r))), (2, some (.box [.r (I leaves), .r (I own), .own 3, .own 4])), (3, some (zd0 ((K.take j).map (putN O)))), (4, some (zeb []))], 5, λ Y => zo _, ?_⟩
  refine ⟨rfl, ⟨λ Y => zo _, λ Y => zo _, λ Y => zo _, λ Y => zo _, trivial⟩, (26, .r (.s (mapS (zay O)))) :: (25, .adr 0 2) :: [(1, .own 0), (2, .own 1), (3, .own 2), (5, .r (I K[j])), (16, .r (is K)), (17, .r (I K.length)), (18, .r (I j))], [(0, some (pbox leaves own O H)), (1, some (.box (zero4.map .r))), (2, some (.box [.r (I leaves), .r (I own), .own 3, .own 4])), (3, some (zd0 ((K.take j).map (putN O)))), (4, some (zeb []))], 5, λ Y => zo _, ?_⟩
  refine ⟨rfl, ⟨λ Y => zo _, λ Y => zo _, λ Y => zo _, λ Y => zo _, trivial⟩, (28, .r (.ag s.node.c)) :: (26, .r (.s (mapS (zay O)))) :: (25, .adr 0 2) :: [(1, .own 0), (2, .own 1), (3, .own 2), (5, .r (I K[j])), (16, .r (is K)), (17, .r (I K.length)), (18, .r (I j))], [(0, some (pbox leaves own O H)), (1, some (.box (zero4.map .r))), (2, some (.box [.r (I leaves), .r (I own), .own 3, .own 4])), (3, some (zd0 ((K.take j).map (putN O)))), (4, some (zeb []))], 5, λ Y => Vstep.node1 rfl rfl rfl (λ n hn => by rw [hfs] at hn; cases hn; exact zo _) (λ hn => by rw [hfs] at hn; cases hn), ?_⟩
  refine ⟨rfl, ⟨λ Y => zo _, λ Y => zo _, λ Y => zo _, λ Y => zo _, trivial⟩, (29, .r (.ag s.node.c)) :: (28, .r (.ag s.node.c)) :: (26, .r (.s (mapS (zay O)))) :: (25, .adr 0 2) :: [(1, .own 0), (2, .own 1), (3, .own 2), (5, .r (I K[j])), (16, .r (is K)), (17, .r (I K.length)), (18, .r (I j))], [(0, some (pbox leaves own O H)), (1, some (.box (zero4.map .r))), (2, some (.box [.r (I leaves), .r (I own), .own 3, .own 4])), (3, some (zd0 ((K.take j).map (putN O)))), (4, some (zeb []))], 5, λ Y => ze (z7s s.node (hOf s hs) (z0m _ (hOf s hs).1)) (zo _), ?_⟩
  refine ⟨rfl, ⟨λ Y => zo _, λ Y => zo _, λ Y => zo _, λ Y => zo _, trivial⟩, (30, .r (.ag (Spot.c ⟨K[j], s.node⟩))) :: (29, .r (.ag s.node.c)) :: (28, .r (.ag s.node.c)) :: (26, .r (.s (mapS (zay O)))) :: (25, .adr 0 2) :: [(1, .own 0), (2, .own 1), (3, .own 2), (5, .r (I K[j])), (16, .r (is K)), (17, .r (I K.length)), (18, .r (I j))], [(0, some (pbox leaves own O H)), (1, some (.box (zero4.map .r))), (2, some (.box [.r (I leaves), .r (I own), .own 3, .own 4])), (3, some (zd0 ((K.take j).map (putN O)))), (4, some (zeb []))], 5, λ Y => zo _, ?_⟩
  refine ⟨rfl, ⟨λ Y => zo _, λ Y => zo _, λ Y => zo _, λ Y => zo _, trivial⟩, (31, .own 5) :: (30, .r (.ag (Spot.c ⟨K[j], s.node⟩))) :: (29, .r (.ag s.node.c)) :: (28, .r (.ag s.node.c)) :: (26, .r (.s (mapS (zay O)))) :: (25, .adr 0 2) :: [(1, .own 0), (2, .own 1), (3, .own 2), (5, .r (I K[j])), (16, .r (is K)), (17, .r (I K.length)), (18, .r (I j))], (5, some (.ch 77 11 1 (Spot.c ⟨K[j], s.node⟩) true)) :: [(0, some (pbox leaves own O H)), (1, some (.box (zero4.map .r))), (2, some (.box [.r (I leaves), .r (I own), .own 3, .own 4])), (3, some (zd0 ((K.take j).map (putN O)))), (4, some (zeb []))], 6, λ Y => zx (zo _), ?_⟩
  refine ⟨rfl, ⟨λ Y => zo _, λ Y => zo _, λ Y => zo _, λ Y => zo _, trivial⟩, ?_⟩
  have hsn : (K.take (j + 1)).map (putN O) = (K.take j).map (putN O) ++ [⟨K[j], s.node⟩] := by
   rw [List.take_succ_eq_append_getElem hj', List.map_append]
   simp [putN, hfs]
  refine Vapp.mk' (j := ((K.take (j + 1)).map (putN O)).length) (zs := ((K.take (j + 1)).map (putN O)).flatMap Spot.c) (by simp only [maxLen, List.length_map, List.length_take]; omega) (by simp; omega) (by rw [hsn]; simp) (by rw [hsn]; simp [zbh, cellsOf]) ?_
  refine zd (m := ((j + 1 : Nat) : Int)) (by omega) (by omega) ?_
  exact ⟨j + 1, hj', by omega, zac [(0, 0), (1, 1), (2, 2), (3, _), (4, 4)] rfl ⟨rfl, rfl, rfl, cr, cr, cr, trivial⟩ ⟨⟨_, _, rfl, cr, _, _, rfl, cr, _, _, rfl, cr, _, _, rfl, cr, rfl⟩, zab zero4, cvc (zb3 _) (cvc (zb3 _) (cvc rfl (cvc rfl rfl))), ⟨rfl, rfl, rfl, rfl, zn _⟩, ⟨rfl, rfl, rfl, rfl, zn _⟩, trivial⟩⟩
 simp only [zb] at h
 rw [List.take_of_length_le (by omega)]
 clear h hj
 refine ze (zzh (za0 H)) ?_
 refine ze kH ?_
 refine zy (λ j : Nat => { F := [(1, .own 0), (2, .own 1), (3, .own 2), (38, .r (is M)), (39, .r (I M.length)), (40, .r (I j))], O := [(0, some (pbox leaves own O H)), (1, some (.box (zero4.map .r))), (2, some (.box [.r (I leaves), .r (I own), .own 3, .own 4])), (3, some (zd0 (K.map (putN O)))), (4, some (zeb ((M.take j).map (putH H))))], nx := 5 })
  (λ j => j <= M.length) (λ j => M.length - j) 0 (by omega)
  (zac [(0, 0), (1, 1), (2, 2), (3, 3), (4, 4)] rfl ⟨rfl, rfl, rfl, cr, cr, cr, trivial⟩ ⟨⟨_, _, rfl, cr, _, _, rfl, cr, _, _, rfl, cr, _, _, rfl, cr, rfl⟩, zab zero4, cvc (zb3 _) (cvc (zb3 _) (cvc rfl (cvc rfl rfl))), ⟨rfl, rfl, rfl, rfl, zn _⟩, ⟨rfl, rfl, rfl, rfl, zn _⟩, trivial⟩) ?_
 intro j hj
 refine zh (λ h => zq ?_) (λ h => zt ?_)
 ·simp only [zb] at h
  have hj' : j < M.length := by omega
  obtain ⟨s, hs, hfs⟩ := hMm M[j] (List.getElem_mem hj')
  have hsl := hHl s hs
  refine zm (by omega) (by omega) (zah rfl hj') (zg rfl ?_)
  refine Vdraw.code (Vcode.float zaf Tab_ok 10 [⟨0, 44, .adr 2 3, []⟩, ⟨1, 45, .own 4, [0]⟩, ⟨2, 46, .r (I M[j]), []⟩, ⟨5, 49, .r (I M[j]), []⟩] [(3, []), (4, []), (6, [5]), (7, []), (8, [2]), (9, [])] (by kernel_rfl) (F := [(1, .own 0), (2, .own 1), (3, .own 2), (7, .r (I M[j])), (38, .r (is M)), (39, .r (I M.length)), (40, .r (I j))]) (O := [(0, some (pbox leaves own O H)), (1, some (.box (zero4.map .r))), (2, some (.box [.r (I leaves), .r (I own), .own 3, .own 4])), (3, some (zd0 (K.map (putN O)))), (4, some (zeb ((M.take j).map (putH H))))]) (nx := 5) (zac [(0, 0), (1, 1), (2, 2), (3, 3), (4, 4)] rfl ⟨rfl, rfl, rfl, cr, cr, cr, cr, trivial⟩ ⟨⟨_, _, rfl, cr, _, _, rfl, cr, _, _, rfl, cr, _, _, rfl, cr, rfl⟩, zab zero4, cvc (zb3 _) (cvc (zb3 _) (cvc rfl (cvc rfl rfl))), ⟨rfl, rfl, rfl, rfl, zn _⟩, ⟨rfl, rfl, rfl, rfl, zn _⟩, trivial⟩) ?_)
  refine ⟨rfl, ⟨λ Y => zo _, λ Y => zo _, λ Y => zo _, λ Y => zo _, trivial⟩, (47, .adr 0 3) :: [(1, .own 0), (2, .own 1), (3, .own 2), (7, .r (I M[j])), (38, .r (is M)), (39, .r (I M.length)), (40, .r (I j))], [(0, some (pbox leaves own O H)), (1, some (.box (zero4.map .r))), (2, some (.box [.r (I leaves), .r (I own), .own 3, .own 4])), (3, some (zd0 (K.map (putN O)))), (4, some (zeb ((M.take j).map (putH H))))], 5, λ Y => zo _, ?_⟩
  refine ⟨rfl, ⟨λ Y => zo _, λ Y => zo _, λ Y => zo _, λ Y => zo _, trivial⟩, (48, .r (.s (mapS (za0 H)))) :: (47, .adr 0 3) :: [(1, .own 0), (2, .own 1), (3, .own 2), (7, .r (I M[j])), (38, .r (is M)), (39, .r (I M.length)), (40, .r (I j))], [(0, some (pbox leaves own O H)), (1, some (.box (zero4.map .r))), (2, some (.box [.r (I leaves), .r (I own), .own 3, .own 4])), (3, some (zd0 (K.map (putN O)))), (4, some (zeb ((M.take j).map (putH H))))], 5, λ Y => zo _, ?_⟩
  refine ⟨rfl, ⟨λ Y => zo _, λ Y => zo _, λ Y => zo _, λ Y => zo _, trivial⟩, (50, .r (bs s.hash)) :: (48, .r (.s (mapS (za0 H)))) :: (47, .adr 0 3) :: [(1, .own 0), (2, .own 1), (3, .own 2), (7, .r (I M[j])), (38, .r (is M)), (39, .r (I M.length)), (40, .r (I j))], [(0, some (pbox leaves own O H)), (1, some (.box (zero4.map .r))), (2, some (.box [.r (I leaves), .r (I own), .own 3, .own 4])), (3, some (zd0 (K.map (putN O)))), (4, some (zeb ((M.take j).map (putH H))))], 5, λ Y => Vstep.hash1 rfl rfl rfl (λ n hn => by rw [hfs] at hn; cases hn; exact zo _) (λ hn => by rw [hfs] at hn; cases hn), ?_⟩
  refine ⟨rfl, ⟨λ Y => zo _, λ Y => zo _, λ Y => zo _, λ Y => zo _, trivial⟩, (51, .own 5) :: (50, .r (bs s.hash)) :: (48, .r (.s (mapS (za0 H)))) :: (47, .adr 0 3) :: [(1, .own 0), (2, .own 1), (3, .own 2), (7, .r (I M[j])), (38, .r (is M)), (39, .r (I M.length)), (40, .r (I j))], (5, some (.ch 5 1 s.hash.length (s.hash.map U8) true)) :: [(0, some (pbox leaves own O H)), (1, some (.box (zero4.map .r))), (2, some (.box [.r (I leaves), .r (I own), .own 3, .own 4])), (3, some (zd0 (K.map (putN O)))), (4, some (zeb ((M.take j).map (putH H))))], 6, λ Y => ze (zfe s.hash (by omega)) (zo _), ?_⟩
  refine ⟨rfl, ⟨λ Y => zo _, λ Y => zo _, λ Y => zo _, λ Y => zo _, trivial⟩, (52, .r (.ag (Stub.c ⟨M[j], s.hash⟩))) :: (51, .own 5) :: (50, .r (bs s.hash)) :: (48, .r (.s (mapS (za0 H)))) :: (47, .adr 0 3) :: [(1, .own 0), (2, .own 1), (3, .own 2), (7, .r (I M[j])), (38, .r (is M)), (39, .r (I M.length)), (40, .r (I j))], (5, some (.ch 5 1 s.hash.length (s.hash.map U8) true)) :: [(0, some (pbox leaves own O H)), (1, some (.box (zero4.map .r))), (2, some (.box [.r (I leaves), .r (I own), .own 3, .own 4])), (3, some (zd0 (K.map (putN O)))), (4, some (zeb ((M.take j).map (putH H))))], 6, λ Y => zo _, ?_⟩
  refine ⟨rfl, ⟨λ Y => zo _, λ Y => zo _, λ Y => zo _, λ Y => zo _, trivial⟩, (53, .own 6) :: (52, .r (.ag (Stub.c ⟨M[j], s.hash⟩))) :: (51, .own 5) :: (50, .r (bs s.hash)) :: (48, .r (.s (mapS (za0 H)))) :: (47, .adr 0 3) :: [(1, .own 0), (2, .own 1), (3, .own 2), (7, .r (I M[j])), (38, .r (is M)), (39, .r (I M.length)), (40, .r (I j))], (6, some (.ch 79 2 1 (Stub.c ⟨M[j], s.hash⟩) true)) :: (5, some (.ch 5 1 s.hash.length (s.hash.map U8) true)) :: [(0, some (pbox leaves own O H)), (1, some (.box (zero4.map .r))), (2, some (.box [.r (I leaves), .r (I own), .own 3, .own 4])), (3, some (zd0 (K.map (putN O)))), (4, some (zeb ((M.take j).map (putH H))))], 7, λ Y => zx (zo _), ?_⟩
  refine ⟨rfl, ⟨λ Y => zo _, λ Y => zo _, λ Y => zo _, λ Y => zo _, trivial⟩, ?_⟩
  have hsn : (M.take (j + 1)).map (putH H) = (M.take j).map (putH H) ++ [⟨M[j], s.hash⟩] := by
   rw [List.take_succ_eq_append_getElem hj', List.map_append]
   simp [putH, (zer hfs).1]
  refine Vapp.mk' (j := ((M.take (j + 1)).map (putH H)).length) (zs := ((M.take (j + 1)).map (putH H)).flatMap Stub.c) (by simp only [maxLen, List.length_map, List.length_take]; omega) (by simp; omega) (by rw [hsn]; simp) (by rw [hsn]; simp [zbh, cellsOf, bs]) ?_
  refine zd (m := ((j + 1 : Nat) : Int)) (by omega) (by omega) ?_
  exact ⟨j + 1, hj', by omega, zac [(0, 0), (1, 1), (2, 2), (3, 3), (4, _)] rfl ⟨rfl, rfl, rfl, cr, cr, cr, trivial⟩ ⟨⟨_, _, rfl, cr, _, _, rfl, cr, _, _, rfl, cr, _, _, rfl, cr, rfl⟩, zab zero4, cvc (zb3 _) (cvc (zb3 _) (cvc rfl (cvc rfl rfl))), ⟨rfl, rfl, rfl, rfl, zn _⟩, ⟨rfl, rfl, rfl, rfl, zn _⟩, trivial⟩⟩
 simp only [zb] at h
 rw [List.take_of_length_le (by omega)]
 clear h hj
 refine za rfl rfl ?_
 refine za rfl rfl ?_
 exact zf rfl
end
section
def Piece.lean (p : Piece) : Lean_ := ⟨p.leaves, p.own, p.opn, p.shut⟩
structure Piece.Ok (p : Piece) (only : Bool) (d : Nat) (l : List UInt8) : Prop where
 hd : d <= 16
 leaves : p.leaves = 2 ^ d
 fits : zau p.leaves = true
 own : p.own < p.leaves
 len : l.length <= 1048576
 tree : zbt d 0 l = .ok (p.opn, p.shut) []
 right : zdx p.leaves p.own p.opn p.shut only = true
theorem z58 {only : Bool} {n i : Nat} {y : List Spot × List Stub} {r : List UInt8} {e : Nat} (h : endP only n i y r = .err e) : e = 3 \/ e = 5 := by
 unfold endP at h
 split at h
 ·split at h
  ·cases h
  ·injection h with h; omega
 ·injection h with h; omega
theorem zq4 {mark : Int} {b : List UInt8} {e : Nat} (h : zbs mark b = .err e) : 3 <= e /\ e <= 6 := by
 unfold zbs at h
 split at h
 ·injection h with h; omega
 cases h0 : numP 1 (λ n => decide ((n : Int) = mark)) b with
 | err e' => rw [h0] at h; injection h with h; have := ze8 h0; omega
 | ok m r0 =>
  rw [h0] at h
  simp only [ziv] at h
  cases h1 : numP 4 (λ n => zau n) r0 with
  | err e' => rw [h1] at h; injection h with h; have := ze8 h1; omega
  | ok n r1 =>
   rw [h1] at h
   simp only [zji] at h
   cases h2 : numP 4 (λ i => decide ((i : Int) < n)) r1 with
   | err e' => rw [h2] at h; injection h with h; have := ze8 h2; omega
   | ok i r2 =>
    rw [h2] at h
    simp only [zlh] at h
    cases h3 : zbt n.log2 0 r2 with
    | err e' => rw [h3] at h; injection h with h; have := zof _ _ h3; omega
    | ok y r3 =>
     rw [h3] at h
     have := z58 h; omega
theorem znh {mark : Int} {b r : List UInt8} {p : Piece} (h : zbs mark b = .ok p r) : r = [] /\ ∃ d l, p.Ok (decide (mark = 2)) d l := by
 unfold zbs at h
 split at h
 ·cases h
 rename_i hb
 cases h0 : numP 1 (λ n => decide ((n : Int) = mark)) b with
 | err e' => rw [h0] at h; cases h
 | ok m r0 =>
  rw [h0] at h
  simp only [ziv] at h
  obtain ⟨_, hr0⟩ := zeo h0
  cases h1 : numP 4 (λ n => zau n) r0 with
  | err e' => rw [h1] at h; cases h
  | ok n r1 =>
   rw [h1] at h
   simp only [zji] at h
   obtain ⟨hf, hr1⟩ := zeo h1
   cases h2 : numP 4 (λ i => decide ((i : Int) < n)) r1 with
   | err e' => rw [h2] at h; cases h
   | ok i r2 =>
    rw [h2] at h
    simp only [zlh] at h
    obtain ⟨hi, hr2⟩ := zeo h2
    simp only [decide_eq_true_eq] at hi
    obtain ⟨d, hd, hn⟩ := zdu hf
    have hn2 : n = 2 ^ d := by omega
    have hdl : n.log2 = d := by rw [hn2, Nat.log2_two_pow]
    have hl2 : r2.length <= 1048576 := by rw [hr2, hr1, hr0, List.length_drop, List.length_drop, List.length_drop]; omega
    rw [hdl] at h
    cases h3 : zbt d 0 r2 with
    | err e' => rw [h3] at h; cases h
    | ok y r3 =>
     rw [h3] at h
     simp only [endP] at h
     split at h
     ·rename_i h5
      split at h
      ·rename_i hp
       injection h with h4 h6
       subst h4
       rw [List.eq_nil_of_length_eq_zero h5] at h3
       exact ⟨h6.symm, d, r2, hd, hn2, hf, Int.ofNat_lt.1 hi, hl2, h3, hp⟩
      ·cases h
     ·cases h
section
variable {p : Piece} {only : Bool} {d : Nat} {l : List UInt8}
theorem Piece.Ok.spots (h : p.Ok only d l) : (∀ s ∈ p.opn, s.node.fit) /\ (∀ s ∈ p.shut, s.hash.length = 32) := zn7 d 0 (by have := h.len; omega) h.tree
theorem Piece.Ok.at_ (h : p.Ok only d l) : (∀ s ∈ p.opn, inR d 0 s.at_) /\ (∀ s ∈ p.shut, inR d 0 s.at_) := ⟨(zhz d 0 h.tree).1, (zhz d 0 h.tree).2.1⟩
theorem Piece.Ok.lens (h : p.Ok only d l) : p.opn.length + p.shut.length <= 131072 := by
 have h1 := zky d 0 h.tree
 have h2 : 2 ^ (d + 1) <= 131072 := Nat.pow_le_pow_right (n := 2) (by omega) (show d + 1 <= 17 by have := h.hd; omega)
 simp only at h1
 omega
theorem Piece.Ok.fitN (h : p.Ok only d l) : p.lean.fitN := by
 have h1 := h.lens
 have h2 := h.spots
 exact ⟨by simp only [Piece.lean]; omega, by simp only [Piece.lean]; omega, h2.1, λ s hs => by rw [h2.2 s hs]; decide⟩
end
def chkP (mark : Int) (b h : List UInt8) (i : Int) : PR Piece := match zbs mark b with
 | .err e => .err e
 | .ok p r => if (p.own : Int) = i then (if zap p.lean p.leaves.log2 0 = h then .ok p r else .err 17) else .err 7
set_option maxHeartbeats 2000000 in
theorem z5o (mark : Int) (b h : List UInt8) (i : Int) : zae Tryz.prog 116 [bs b, bs h, I i, I mark] (.r (zmk (chkP mark b h i))) := by
 have gr := z7y mark b
 refine zad (T := Tab) zaf Tab_ok Tryz.func116 rfl (by kernel_rfl) ?_
 cases hp : zbs mark b with
 | err e =>
  have he := zq4 hp
  have eR : chkP mark b h i = .err e := by unfold chkP; rw [hp]
  rw [hp] at gr
  simp only [zmk] at gr
  refine ze gr ?_
  refine zu (by simp only [zb]; omega) (zq ?_)
  refine za rfl rfl ?_
  exact ⟨_, rfl, zf (by rw [eR]; rfl)⟩
 | ok p r =>
  obtain ⟨hr, d, l, hk⟩ := znh hp
  have eR : chkP mark b h i = (if (p.own : Int) = i then (if zap p.lean p.leaves.log2 0 = h then .ok p r else .err 17) else .err 7) := by unfold chkP; rw [hp]
  rw [hp] at gr
  simp only [zmk, Piece.R] at gr
  refine ze gr ?_
  refine zw rfl (zt ?_)
  refine zh (λ h1 => zq ?_) (λ h1 => zt ?_)
  ·simp only [zb] at h1
   refine za rfl rfl ?_
   exact ⟨_, rfl, zf (by rw [eR, if_neg h1]; rfl)⟩
  simp only [zb] at h1
  rw [if_pos h1] at eR
  have hdl : p.leaves.log2 = d := by rw [hk.leaves, Nat.log2_two_pow]
  have hroot : zga (p.leaves : Int) = (nd d 0 : Int) := by rw [zga, hk.fits, if_pos rfl, hk.leaves, zfo]
  have gh := zze p.lean hk.fitN d 0 hk.hd (zag _)
  rw [hdl] at eR
  refine Vdraw.mk' (by kernel_rfl) ?_
  refine za rfl rfl ?_
  refine ze (zqz _) ?_
  rw [hroot]
  refine ze gh ?_
  refine Vcall.bool (z5l (zap p.lean d 0) h) (λ h2 => zw rfl (zt ?_)) (λ h2 => zu rfl (zq ?_))
  ·simp only [zb] at h2
   refine za rfl rfl ?_
   refine za rfl rfl ?_
   exact ⟨_, rfl, zf (by rw [eR, if_pos h2]; rfl)⟩
  ·simp only [zb] at h2
   refine za rfl rfl ?_
   exact ⟨_, rfl, zf (by rw [eR, if_neg h2]; rfl)⟩
theorem zxh {mark : Int} {b h : List UInt8} {i : Int} {e : Nat} (hc : chkP mark b h i = .err e) : 3 <= e /\ e <= 17 := by
 unfold chkP at hc
 cases hp : zbs mark b with
 | err e' => rw [hp] at hc; injection hc with hc; have := zq4 hp; omega
 | ok p r =>
  rw [hp] at hc
  simp only at hc
  split at hc
  ·split at hc
   ·cases hc
   ·injection hc with hc; omega
  ·injection hc with hc; omega
theorem zy4 {mark : Int} {b h r : List UInt8} {i : Int} {p : Piece} (hc : chkP mark b h i = .ok p r) : zbs mark b = .ok p r /\ (p.own : Int) = i /\ zap p.lean p.leaves.log2 0 = h := by
 unfold chkP at hc
 cases hp : zbs mark b with
 | err e' => rw [hp] at hc; cases hc
 | ok q s =>
  rw [hp] at hc
  simp only at hc
  split at hc
  ·rename_i h1
   split at hc
   ·rename_i h2
    cases hc
    exact ⟨rfl, h1, h2⟩
   ·cases hc
  ·cases hc
def Piece.sparse (p : Piece) : Lean_ := ze0 p.leaves p.own p.opn p.shut
def zh3 (q : PR Piece) : RV := match q with
 | .err e => .tu [.ag zero4, Er e]
 | .ok p _ => .tu [.ag p.sparse.c, Er 0]
theorem z5w (b h : List UInt8) (i : Int) : zae Tryz.prog 74 [bs b, bs h, I i] (.r (zh3 (chkP 1 b h i))) := by
 have gr := z5o 1 b h i
 refine zad (T := Tab) zaf Tab_ok Tryz.func74 rfl (by kernel_rfl) ?_
 cases hp : chkP 1 b h i with
 | err e =>
  have he := zxh hp
  rw [hp] at gr
  simp only [zmk] at gr
  refine ze gr ?_
  refine zu (by simp only [zb]; omega) (zq ?_)
  refine za rfl rfl ?_
  exact ⟨_, rfl, zf rfl⟩
 | ok p r =>
  obtain ⟨hp1, _, _⟩ := zy4 hp
  obtain ⟨hr, d, l, hk⟩ := znh hp1
  obtain ⟨hs1, hs2⟩ := hk.spots
  obtain ⟨ha1, ha2⟩ := hk.at_
  have hl := hk.lens
  rw [hp] at gr
  simp only [zmk, Piece.R] at gr
  refine ze gr ?_
  refine zw rfl (zt ?_)
  refine za rfl rfl ?_
  refine ze (z48 p.leaves p.own p.opn p.shut (by omega) (by omega) hs1 (λ s hs => zlf hk.hd (zag _) (ha1 s hs)) (λ s hs => zlf hk.hd (zag _) (ha2 s hs)) (λ s hs => by rw [hs2 s hs]; decide)) ?_
  refine za rfl rfl ?_
  exact ⟨_, rfl, zf rfl⟩
def zif (s : Lean_) (part : List UInt8) : PR Piece := if zbq s then chkP 1 part (zap s (lv (s.leaves - 1).toNat) 0) s.own else .err 3
theorem z9j (s : Lean_) (hs : s.fitN) (part : List UInt8) : zae Tryz.prog 35 [.ag s.c, bs part] (.r (zh3 (zif s part))) := by
 have gh := z7o s hs
 refine zad (T := Tab) zaf Tab_ok Tryz.func35 rfl (by kernel_rfl) ?_
 cases hr : zbq s with
 | false =>
  have eR : zif s part = .err 3 := by unfold zif; rw [hr]; rfl
  simp only [hr, Bool.false_eq_true, if_false] at gh
  refine za rfl rfl ?_
  refine ze gh ?_
  refine zu rfl (zq ?_)
  refine za rfl rfl ?_
  exact ⟨_, rfl, zf (by rw [eR]; rfl)⟩
 | true =>
  have eR : zif s part = chkP 1 part (zap s (lv (s.leaves - 1).toNat) 0) s.own := by unfold zif; rw [hr]; rfl
  simp only [hr, if_true] at gh
  refine za rfl rfl ?_
  refine ze gh ?_
  refine zw rfl (zt ?_)
  have gc := z5w part (zap s (lv (s.leaves - 1).toNat) 0) s.own
  rw [<- eR] at gc
  cases hq : zif s part with
  | err e =>
   rw [hq] at gc
   simp only [zh3] at gc
   refine ze gc ?_
   refine za rfl rfl ?_
   exact ⟨_, rfl, zf rfl⟩
  | ok p r =>
   rw [hq] at gc
   simp only [zh3] at gc
   refine ze gc ?_
   refine za rfl rfl ?_
   exact ⟨_, rfl, zf rfl⟩
end
end Go.Proofs.YtpdllgbfemnemaaGreat.Sx
