import Derived.Test.YtpdllgbfemnemaaGreatZVd
import Derived.Test.YtpdllgbfemnemaaGreatZQe
import Derived.Test.YtpdllgbfemnemaaGreatZQi
section
namespace Go.Proofs.YtpdllgbfemnemaaGreat.Sx
open Go.ChangeShapes Go.WideShapes Go.ChangeAt Go.RowKit

set_option maxRecDepth 100000 in
theorem nods_of {H : Type} {enc : TypeId × Value → H} {W : World} {base : Nat} {v : Value} {d : DataW H} {p : List MemPlace} (hval : Value.okWide Tryz.prog W .any base 49 v)
    (h : DataW.Trod enc Tryz.prog W 0 (fun _ => true) true 49 v d p) (hw : ∀ n ∈ d.weights Tryz.prog 49, n ≤ reachBytes) :
    ∃ l : List Node, (∀ x ∈ l, ∀ u ∈ x.par.late, Sx.i64 u) ∧ l.length ≤ maxL ∧ (nods l).at_ W (allK W) v := by
  obtain ⟨a, n, c, rfl⟩ := okWide_slice Tryz.underlying49 hval
  obtain ⟨fuel, hf⟩ := h
  obtain ⟨l, h1, h2, h3⟩ := Rd.slice (sz := 10) (r := ⟨H, enc, W, 0, fun _ => true, true⟩) (fuel := fuel) (cs := [.slice a n c]) (x := (d, p)) Tryz.underlying49 (by kernel_rfl) (by omega) (fun _ => rfl) Rd.node hf
  refine ⟨l, h1, ?_, ?_⟩
  · rcases h3 with rfl | ⟨E, Sp, he, hlen⟩
    · simp
    · have := hw ((E.length + Sp.length) * Tryz.prog.bytesOf 60) (by rw [show d = .slice E Sp from he]; simp [DataW.weights, Tryz.underlying49])
      rw [show Tryz.prog.bytesOf 60 = 208 by kernel_rfl] at this
      simp only [reachBytes] at this
      unfold maxL
      omega
  · simp only [RV.listAt] at h2
    obtain ⟨u, r, e, _, hat, rfl⟩ := h2
    simp only [List.cons.injEq, and_true] at e
    rw [e]
    exact hat
theorem u8_of {n : Int} (w : (Lit.int .u8 n).wf = true) : ∃ a : UInt8, (a.toNat : Int) = n := by
  simp only [Lit.wf, Bool.and_eq_true, decide_eq_true_eq] at w
  have h1 : (0 : Int) ≤ n := w.1
  have h2 : n ≤ 255 := w.2
  refine ⟨UInt8.ofNat n.toNat, ?_⟩
  rw [UInt8.toNat_ofNat']
  omega
end Go.Proofs.YtpdllgbfemnemaaGreat.Sx
end

section
namespace Go.Proofs.YtpdllgbfemnemaaGreat.Sx
open Go.ChangeShapes Go.WideShapes Go.ChangeAt Go.RowKit

set_option maxRecDepth 100000 in
theorem keeps_lifted (os : Os) (started : os.Started) (H : Type) (enc : TypeId × Value → H) :
    ReturnsInHanded {} Tryz.checked os 6 .any (Rows.cacheKeepsSpec.pre6 enc Tryz.prog Tryz.f6 Rows.cacheKeepsRow.domain false) (Rows.cacheKeepsSpec.post enc Tryz.prog Tryz.f6 false true false false) := by
  refine returnsInHanded_of_change_sized (C := Tryz.checked) own_knob started (by kernel_rfl) Tryz.func6
    (ChangeSpec.witness6 (enc := enc) (C := Tryz.checked) false ⟨#[], #[.slice none 0 0, .int .i64 0, .int .u8 0, .int .u8 0, .slice none 0 0, .slice none 0 0], []⟩ 8 (by kernel_rfl) (by kernel_rfl) (by kernel_rfl) (by kernel_rfl)) ?_
  intro W base args ds gs before hval0 hW hcnd hsz0 _
  have hval : ∀ (j : Nat) t v, Tryz.f6.params[j]? = some t → args[j]? = some v → Value.okWide Tryz.prog W .any base t v := hval0
  have hsz : (DataW.weightsEach Tryz.prog (Tryz.f6.params.toList ++ Rows.cacheKeepsSpec.plain.varTypes Tryz.prog) (ds ++ gs)).all (· ≤ reachBytes) = true := hsz0
  have hW' := hW
  obtain ⟨p, q, hA0, hV, rfl, hfz, hnd⟩ := hW
  have hA : DataW.TrodAll enc Tryz.prog W 0 (fun _ => true) true Tryz.f6.params.toList args.toList ds p := hA0
  rw [Tryz.params6] at hA hval hsz
  obtain ⟨v0, vs0, d0, ds0, p0, q0, hargs, rfl, rfl, h0, r0⟩ := trodAll_cons hA
  obtain ⟨v1, vs1, d1, ds1, p1, q1, rfl, rfl, rfl, h1, r1⟩ := trodAll_cons r0
  obtain ⟨v2, vs2, d2, ds2, p2, q2, rfl, rfl, rfl, h2, r2⟩ := trodAll_cons r1
  obtain ⟨v3, vs3, d3, ds3, p3, q3, rfl, rfl, rfl, h3, r3⟩ := trodAll_cons r2
  obtain ⟨v4, vs4, d4, ds4, p4, q4, rfl, rfl, rfl, h4, r4⟩ := trodAll_cons r3
  obtain ⟨v5, vs5, d5, ds5, p5, q5, rfl, rfl, rfl, h5, r5⟩ := trodAll_cons r4
  obtain ⟨rfl, rfl, rfl⟩ := trodAll_nil r5
  obtain rfl : args = #[v0, v1, v2, v3, v4, v5] := by cases args; simp_all
  obtain ⟨rfl, rfl⟩ := trodVars_none hV
  obtain ⟨a1, rfl, rfl, rfl, w1⟩ := open_int Tryz.underlying3 (hval 1 3 v1 rfl rfl) h1
  obtain ⟨a2, rfl, rfl, rfl, w2⟩ := open_int Tryz.underlying5 (hval 2 5 v2 rfl rfl) h2
  obtain ⟨a3, rfl, rfl, rfl, w3⟩ := open_int Tryz.underlying5 (hval 3 5 v3 rfl rfl) h3
  obtain ⟨u2, e2⟩ := u8_of w2
  obtain ⟨u3, e3⟩ := u8_of w3
  have lt0 : ∀ x ∈ p0, x.block < W.heap.size := by obtain ⟨m, hm⟩ := h0; exact DataW.trod_lt m _ _ _ hm
  obtain ⟨t0, i0, n0, hv0⟩ := nods_of (hval 0 49 v0 rfl rfl) h0 fun n hn => by
    have := List.all_eq_true.1 hsz n (DataW.weights_mem_each (j := 0) rfl rfl n hn)
    simpa using this
  have lt4 : ∀ x ∈ p4, x.block < W.heap.size := by obtain ⟨m, hm⟩ := h4; exact DataW.trod_lt m _ _ _ hm
  obtain ⟨l4, i4, n4, hv4⟩ := ints_of (hval 4 34 v4 rfl rfl) h4 fun n hn => by
    have := List.all_eq_true.1 hsz n (DataW.weights_mem_each (j := 4) rfl rfl n hn)
    simpa using this
  have lt5 : ∀ x ∈ p5, x.block < W.heap.size := by obtain ⟨m, hm⟩ := h5; exact DataW.trod_lt m _ _ _ hm
  obtain ⟨l5, i5, n5, hv5⟩ := ints_of (hval 5 34 v5 rfl rfl) h5 fun n hn => by
    have := List.all_eq_true.1 hsz n (DataW.weights_mem_each (j := 5) rfl rfl n hn)
    simpa using this
  clear hA0 hval0 hsz0
  refine ((g_keeps_law t0 a1 u2 u3 l4 l5 n0 i0 n4 n5 i4 i5).2 W (allK W) [v0, .int .i64 a1, .int .u8 a2, .int .u8 a3, v4, v5] (by
    simp only [RV.partsAt]
    exact ⟨_, _, rfl, hv0, _, _, rfl, rfl, _, _, rfl, by rw [← e2]; rfl, _, _, rfl, by rw [← e3]; rfl, _, _, rfl, hv4, _, _, rfl, hv5, rfl⟩)).mono fun e W' ⟨v, he, bel, k', _, hr⟩ => ?_
  have hr' : v = .bool true := by simpa [Res.at_, RV.at_] using hr
  subst hr'; subst he
  exact ⟨_, rfl, _, _, _, [], _, [], hW', trodAll_mk1 (shut_bool Tryz.underlying4 _), (trodAll_cons_mk (Below.trod laid_out (by kernel_rfl) (of_decide_eq_true (by kernel_rfl)) h0 bel lt0) (trodAll_cons_mk (shut_int Tryz.underlying3 w1) (trodAll_cons_mk (shut_int Tryz.underlying5 w2) (trodAll_cons_mk (shut_int Tryz.underlying5 w3) (trodAll_cons_mk (Below.trod laid_out (by kernel_rfl) (of_decide_eq_true (by kernel_rfl)) h4 bel lt4) (trodAll_cons_mk (Below.trod laid_out (by kernel_rfl) (of_decide_eq_true (by kernel_rfl)) h5 bel lt5) trodAll_mk0)))))), rfl, bel.frame _, fun h => by cases h⟩

theorem cacheKeeps_holds : Rows.CacheKeepsSaid :=
  OpenClaim.holds_of_wide 6 Tryz.f6 rfl rfl rfl rfl rfl rfl rfl ⟨rfl, rfl, rfl, rfl, rfl⟩ rfl rfl rfl rfl rfl (by kernel_rfl) Tryz.func6 (by kernel_rfl)
    (of_decide_eq_true (by kernel_rfl)) (by unfold Func.isWrapper; first | (rw [if_pos (by decide +kernel)]; kernel_rfl) | (rw [if_neg (by decide +kernel)]; exact ⟨rfl, rfl⟩))
    (fun os started H enc _ => keeps_lifted os started H enc)
#print axioms cacheKeeps_holds
end Go.Proofs.YtpdllgbfemnemaaGreat.Sx
end
