import Derived.Test.YtpdllgbfemnemaaGreatZUf
import Derived.Test.YtpdllgbfemnemaaGreatZKz
import Derived.Test.YtpdllgbfemnemaaGreatZNd
import Derived.Test.YtpdllgbfemnemaaGreatZVd
namespace Go.Proofs.YtpdllgbfemnemaaGreat.Sx
open Go.RowKit
set_option linter.unusedVariables false
section
theorem zqk : Cv (.ag zero4) (.ag empty_.c) := Cv.ag (zk (cr) (zk (cr) (zk (Cv.nil 11) (zk (Cv.nil 2) Cvs.nil))))
theorem z3h {p : Piece} {only : Bool} {d : Nat} {l : List UInt8} (h : p.Ok only d l) : p.sparse.opn.length <= 131072 /\ p.sparse.shut.length <= 131072 /\ ∀ x ∈ p.sparse.opn, ∀ u ∈ x.node.par.late, i64 u := by
 have hl := h.lens
 obtain ⟨f1, _⟩ := h.spots
 refine ⟨?_, ?_, λ x hx u hu => ?_⟩
 ·simp only [Piece.sparse, ze0, List.length_map, zkm]; omega
 ·simp only [Piece.sparse, ze0, List.length_map, zkm]; omega
 ·simp only [Piece.sparse, ze0, List.mem_map] at hx
  obtain ⟨z, hz, rfl⟩ := hx
  simp only [putN] at hu
  cases hf : zaj p.opn z with
  | none => rw [hf] at hu; cases hu
  | some n =>
   rw [hf] at hu
   obtain ⟨s, hs, _, rfl⟩ := zbf hf
   exact (f1 s hs).2.2.2.2 u hu
set_option maxHeartbeats 2000000 in
theorem zyj (s : Lean_) (part : List UInt8) (hi : s.input) : zae Tryz.prog 7 [.ag s.c, bs part] (.r (.b true)) := by
 refine zad (T := Tab) zaf Tab_ok Tryz.func7 rfl (by kernel_rfl) ?_
 refine ze z86 ?_
 refine zw rfl (zt ?_)
 refine za rfl rfl ?_
 refine Vcall.bool (z4z s hi.opn hi.shut) (λ hsm => zw rfl ?_) (λ hsm => zu rfl (zq (cr)))
 refine zh (λ hlen => zq (cr)) (λ hlen => zt ?_)
 obtain ⟨hs, hlate⟩ := s.small_fit hi hsm
 have gr29 := z3r s hs hlate hi.at_
 have gf := z9j s hs part
 cases hr : zei s with
 | false =>
  have hp : zbq s = false := by rw [zmo]; exact hr
  have e0 : zif s part = .err 3 := by unfold zif; rw [hp]; rfl
  rw [e0] at gf
  simp only [zh3] at gf
  rw [hr] at gr29
  refine za rfl rfl ?_
  refine ze gf ?_
  refine za rfl rfl ?_
  refine ze gr29 ?_
  refine zu rfl (zq ?_)
  refine zd (m := 3) rfl (by omega) ?_
  refine zu rfl ?_
  refine za rfl rfl ?_
  refine Vcall.mk' (z4t empty_ (by decide) (by decide) (λ x hx => by cases hx)) (zk zqk Cvs.nil) ?_
  exact zf (by simp)
 | true =>
  have hp : zbq s = true := by rw [zmo]; exact hr
  have hp' := hp
  simp only [zbq, Bool.and_eq_true, decide_eq_true_eq] at hp'
  obtain ⟨d, o, hd, hn, ho, he, _⟩ := zmq hp'.2.1 hp'.2.2.1 hp'.2.2.2.1
  have hlv : lv (s.leaves - 1).toNat = d := by rw [hn, <- zfo, Int.toNat_natCast, zo0 hd]
  obtain ⟨hh, _⟩ := zwz hd ho hn he hp
  have e0 : zif s part = chkP 1 part (za3 s d 0) s.own := by unfold zif; rw [hp, hlv, hh]; rfl
  rw [e0] at gf
  rw [hr] at gr29
  have gc := z4x part (za3 s d 0) s.own
  have gh := zwq zv5 s hs (zyp hp) d hd hn
  rcases z4i part (za3 s d 0) s.own with ⟨e, c1, c2⟩ | ⟨p, r, r', c1, c2⟩
  ·have hb := zxh c1
   rw [c1] at gf
   rw [c2] at gc
   simp only [zh3] at gf
   simp only [refS] at gc
   refine za rfl rfl ?_
   refine ze gf ?_
   refine za rfl rfl ?_
   refine ze gr29 ?_
   refine zw rfl (zt ?_)
   refine Vdraw.mk' (by kernel_rfl) ?_
   refine za rfl rfl ?_
   refine ze gh ?_
   refine ze gc ?_
   refine zd (m := (e : Int)) rfl (by omega) ?_
   refine zu (by simp) ?_
   refine za rfl rfl ?_
   refine za rfl rfl ?_
   refine Vcall.mk' (zp2 empty_ empty_ (by decide) (by decide) (by decide) (by decide) (λ x hx => by cases hx) (λ x hx => by cases hx)) (zk zqk (zk zqk Cvs.nil)) ?_
   exact zf (by simp)
  ·obtain ⟨q1, _, _⟩ := zy4 c1
   obtain ⟨_, d', l', hk⟩ := znh q1
   obtain ⟨b1, b2, b3⟩ := z3h hk
   rw [c1] at gf
   rw [c2] at gc
   simp only [zh3] at gf
   simp only [refS] at gc
   refine za rfl rfl ?_
   refine ze gf ?_
   refine za rfl rfl ?_
   refine ze gr29 ?_
   refine zw rfl (zt ?_)
   refine Vdraw.mk' (by kernel_rfl) ?_
   refine za rfl rfl ?_
   refine ze gh ?_
   refine ze gc ?_
   refine zd (m := 0) rfl (by omega) ?_
   refine zu rfl ?_
   refine za rfl rfl ?_
   refine za rfl rfl ?_
   refine ze (zp2 p.sparse p.sparse (by omega) (by omega) (by omega) (by omega) b3 b3) ?_
   exact zf (by simp)
end
section
open Go.ChangeShapes Go.WideShapes Go.ChangeAt Go.RowKit
set_option maxRecDepth 100000 in
theorem zxb (os : Os) (started : os.Started) (H : Type) (enc : TypeId × Value -> H) :
  ReturnsInHanded {} Tryz.checked os 7 .any (Rows.cacheFillsSpec.pre6 enc Tryz.prog Tryz.f7 Rows.cacheFillsRow.domain false) (Rows.cacheFillsSpec.post enc Tryz.prog Tryz.f7 false true false false) := by
 refine returnsInHanded_of_change_sized (C := Tryz.checked) z43 started (by kernel_rfl) Tryz.func7
  (ChangeSpec.witness6 (enc := enc) (C := Tryz.checked) false ⟨#[], #[.agg #[.int .i64 0, .int .i64 0, .slice none 0 0, .slice none 0 0], .slice none 0 0], []⟩ 8 (by kernel_rfl) (by kernel_rfl) (by kernel_rfl) (by kernel_rfl)) ?_
 intro W base args ds gs before hval0 hW hcnd hsz0 _
 have hval : ∀ (j : Nat) t v, Tryz.f7.params[j]? = some t -> args[j]? = some v -> Value.okWide Tryz.prog W .any base t v := hval0
 have hsz : (DataW.weightsEach Tryz.prog (Tryz.f7.params.toList ++ Rows.cacheFillsSpec.plain.varTypes Tryz.prog) (ds ++ gs)).all (· <= reachBytes) = true := hsz0
 have hW' := hW
 obtain ⟨p, q, hA0, hV, rfl, hfz, hnd⟩ := hW
 have hA : DataW.TrodAll enc Tryz.prog W 0 (λ _ => true) true Tryz.f7.params.toList args.toList ds p := hA0
 rw [Tryz.params7] at hA hval hsz
 obtain ⟨v0, vs0, d0, ds0, p0, q0, hargs, rfl, rfl, h0, r0⟩ := trodAll_cons hA
 obtain ⟨v1, vs1, d1, ds1, p1, q1, rfl, rfl, rfl, h1, r1⟩ := trodAll_cons r0
 obtain ⟨rfl, rfl, rfl⟩ := trodAll_nil r1
 obtain rfl : args = #[v0, v1] := by cases args; simp_all
 obtain ⟨rfl, rfl⟩ := trodVars_none hV
 have lt0 : ∀ x ∈ p0, x.block < W.heap.size := by obtain ⟨m, hm⟩ := h0; exact DataW.trod_lt m _ _ _ hm
 obtain ⟨s, hs, hv⟩ := z8l (hval 0 25 v0 rfl rfl) h0 λ n hn => by
  have := List.all_eq_true.1 hsz n (DataW.weights_mem_each (j := 0) rfl rfl n hn)
  simpa using this
 have lt1 : ∀ x ∈ p1, x.block < W.heap.size := by obtain ⟨m, hm⟩ := h1; exact DataW.trod_lt m _ _ _ hm
 obtain ⟨l1, hv1⟩ := z5p (hval 1 28 v1 rfl rfl) h1
 clear hA0 hval0 hsz0
 refine ((zyj s l1 ⟨hs.opn, hs.shut, hs.late, hs.at_⟩).2 W (allK W) [v0, v1] (by simp only [RV.partsAt]; exact ⟨_, _, rfl, hv, _, _, rfl, hv1, rfl⟩)).mono λ e W' ⟨v, he, bel, k', _, hr⟩ => ?_
 have hr' : v = .bool true := by simpa [Res.at_, RV.at_] using hr
 subst hr'; subst he
 exact ⟨_, rfl, _, _, _, [], _, [], hW', trodAll_mk1 (shut_bool Tryz.underlying4 _), (trodAll_cons_mk (Below.trod zv9 (by kernel_rfl) (of_decide_eq_true (by kernel_rfl)) h0 bel lt0) (trodAll_cons_mk (Below.trod zv9 (by kernel_rfl) (of_decide_eq_true (by kernel_rfl)) h1 bel lt1) trodAll_mk0)), rfl, bel.frame _, λ h => by cases h⟩
theorem cacheFills_holds : Rows.CacheFillsSaid :=
 OpenClaim.holds_of_wide 7 Tryz.f7 rfl rfl rfl rfl rfl rfl rfl ⟨rfl, rfl, rfl, rfl, rfl⟩ rfl rfl rfl rfl rfl (by kernel_rfl) Tryz.func7 (by kernel_rfl)
  (of_decide_eq_true (by kernel_rfl)) (by unfold Func.isWrapper; first | (rw [if_pos (by decide +kernel)]; kernel_rfl) | (rw [if_neg (by decide +kernel)]; exact ⟨rfl, rfl⟩))
  (λ os started H enc _ => zxb os started H enc)
#print axioms cacheFills_holds
end
end Go.Proofs.YtpdllgbfemnemaaGreat.Sx
