import Derived.Test.YtpdllgbfemnemaaGreatZKo
section
namespace Go.Proofs.YtpdllgbfemnemaaGreat.Sx
open Go.RowKit

def ltextR (i : Int) (n : Node) : List UInt8 := if i < 0 ∨ 65536 ≤ i then [] else if n.right = false ∨ n.kind.toNat = 2 then [] else leafTextB i n
def ltextE (i : Int) (n : Node) : Int := if i < 0 ∨ 65536 ≤ i then 1 else if n.right = false ∨ n.kind.toNat = 2 then 3 else 0
def ptextR (n : Node) (l r : List UInt8) : List UInt8 := if n.right = false ∨ n.kind.toNat = 1 then [] else if l.length ≠ 32 ∨ r.length ≠ 32 then [] else parTextB n l r
def ptextE (n : Node) (l r : List UInt8) : Int := if n.right = false ∨ n.kind.toNat = 1 then 3 else if l.length ≠ 32 ∨ r.length ≠ 32 then 1 else 0
theorem g_leaftext' (i : Int) (n : Node) (hn : n.fit) : Gives Tryz.prog 88 [I i, .ag n.c] (.r (.tu [bs (ltextR i n), .i .u8 (ltextE i n)])) := by
  have := g_leaftext i n hn
  unfold ltextR ltextE
  by_cases h1 : i < 0 ∨ 65536 ≤ i
  · rw [if_pos h1] at this; rw [if_pos h1, if_pos h1]; exact this
  · rw [if_neg h1] at this; rw [if_neg h1, if_neg h1]
    by_cases h2 : n.right = false ∨ n.kind.toNat = 2
    · rw [if_pos h2] at this; rw [if_pos h2, if_pos h2]; exact this
    · rw [if_neg h2] at this; rw [if_neg h2, if_neg h2]; exact this
theorem g_partext' (n : Node) (l r : List UInt8) (hn : n.fit) : Gives Tryz.prog 89 [.ag n.c, bs l, bs r] (.r (.tu [bs (ptextR n l r), .i .u8 (ptextE n l r)])) := by
  have := g_partext n l r hn
  unfold ptextR ptextE
  by_cases h1 : n.right = false ∨ n.kind.toNat = 1
  · rw [if_pos h1] at this; rw [if_pos h1, if_pos h1]; exact this
  · rw [if_neg h1] at this; rw [if_neg h1, if_neg h1]
    by_cases h2 : l.length ≠ 32 ∨ r.length ≠ 32
    · rw [if_pos h2] at this; rw [if_pos h2, if_pos h2]; exact this
    · rw [if_neg h2] at this; rw [if_neg h2, if_neg h2]; exact this
theorem ltextR_le (i : Int) (n : Node) (hn : n.fit) : (ltextR i n).length ≤ 50000000000 := by
  have := nodeB_le n hn
  unfold ltextR leafTextB
  split
  · simp
  · split
    · simp
    · simp [beB_len]; omega
theorem ptextR_le (n : Node) (l r : List UInt8) (hn : n.fit) : (ptextR n l r).length ≤ 50000000000 := by
  have := nodeB_le n hn
  unfold ptextR parTextB
  split
  · simp
  · split
    · simp
    · have a := vecB_le l
      have b := vecB_le r
      simp; omega

def hashP (s : Lean_) : Nat → Nat → List UInt8
  | 0, k => match findS s.opn (nd 0 k) with
    | some n => shaB (ltextR k n)
    | none => stubB s.shut (nd 0 k)
  | h + 1, k => match findS s.opn (nd (h + 1) k) with
    | some n => shaB (ptextR n (hashP s h (2 * k)) (hashP s h (2 * k + 1)))
    | none => stubB s.shut (nd (h + 1) k)
theorem shutF_mem {l : List Stub} {x : Int} {m : List UInt8} (h : shutF l x = some m) : stubB l x = m ∧ ∃ s ∈ l, s.at_ = x ∧ s.hash = m := by
  simp only [shutF] at h
  refine ⟨by simp [stubB, h], ?_⟩
  rw [Option.map_eq_some_iff] at h
  obtain ⟨s, hs, rfl⟩ := h
  exact ⟨s, List.mem_of_find?_eq_some hs, by simpa using List.find?_some hs, rfl⟩
theorem shutF_none {l : List Stub} {x : Int} (h : shutF l x = none) : stubB l x = [] := by
  simp only [shutF] at h
  simp [stubB, h]
theorem bss1 (l : List UInt8) : bss [l] = .sl 1 1 [bs l] := rfl

theorem g_hashof_none (s : Lean_) (hs : s.fitN) (x : Int) (hx : findS s.opn x = none) : Gives Tryz.prog 52 [.ag (lookC s), I x] (.r (bs (stubB s.shut x))) := by
  refine gives_of_vcg (T := Tab) mixed Tab_ok Tryz.func52 rfl (by kernel_rfl) ?_
  obtain ⟨hs1, hs2, hs3, hs4⟩ := id hs
  refine Vstep.node2 rfl rfl rfl (fun n hn => by rw [hx] at hn; cases hn) (fun _ => ?_)
  refine Vcmp.t rfl (Vif.t ?_)
  refine Vstep.hash1 rfl rfl rfl (fun m hm => ?_) (fun hm => ?_)
  · obtain ⟨e, sp, hsp, _, rfl⟩ := shutF_mem hm
    have := hs4 sp hsp
    refine Vcall.go (g_bclone _ (by omega)) ?_
    exact Cv.of_eq (by rw [e]; rfl)
  · refine Vcall.mk' (g_bclone [] (by simp)) (Cvs.cons (Cv.nil 1) Cvs.nil) ?_
    exact Cv.of_eq (by rw [shutF_none hm]; rfl)
theorem g_hashof_leaf (s : Lean_) (hs : s.fitN) (k : Nat) (hk : k < 65536) : Gives Tryz.prog 52 [.ag (lookC s), I (nd 0 k)] (.r (bs (hashP s 0 k))) := by
  cases hx : findS s.opn (nd 0 k) with
  | none =>
    have := g_hashof_none s hs (nd 0 k) hx
    have e : hashP s 0 k = stubB s.shut (nd 0 k) := by simp [hashP, hx]
    rw [e]; exact this
  | some n =>
    have e : hashP s 0 k = shaB (ltextR k n) := by simp [hashP, hx]
    rw [e]
    refine gives_of_vcg (T := Tab) mixed Tab_ok Tryz.func52 rfl (by kernel_rfl) ?_
    refine Vstep.node2 rfl rfl rfl (fun m hm => ?_) (fun hm => by rw [hx] at hm; cases hm)
    rw [hx] at hm
    cases hm
    obtain ⟨sp, hsp, _, rfl⟩ := findS_mem hx
    have hfit := hs.2.2.1 sp hsp
    refine Vcmp.f rfl (Vif.f ?_)
    refine ⟨by decide, _, rfl, ?_⟩
    refine Vcmp.t (by rw [tmod_even]; rfl) (Vif.t ?_)
    refine ⟨by decide, (k : Int), ?_, ?_⟩
    · rw [nd_zero, Int.tdiv_eq_ediv_of_nonneg (by omega)]
      rw [show (((2 * k : Nat) : Int)) / 2 = k by omega]
      exact wrap_i64 (by omega)
    refine VloadN.mk' rfl rfl ?_
    refine Vcall.go (g_leaftext' k sp.node hfit) ?_
    have hle := ltextR_le k sp.node hfit
    refine Vpub.pub ?_
    refine Vcall.mk' (g_sha [ltextR k sp.node] (by simp; omega)) (Cvs.cons (Cv.of_eq (by rw [bss1]; rfl)) Cvs.nil) ?_
    exact Cv.of_eq (by simp [bs])
theorem g_hashof_up (s : Lean_) (hs : s.fitN) (h : Nat) (hh : h + 1 ≤ 16) (ih : ∀ k, k < 2 ^ (16 - h) → Gives Tryz.prog 52 [.ag (lookC s), I (nd h k)] (.r (bs (hashP s h k)))) (k : Nat) (hk : k < 2 ^ (16 - (h + 1))) :
    Gives Tryz.prog 52 [.ag (lookC s), I (nd (h + 1) k)] (.r (bs (hashP s (h + 1) k))) := by
  have hleft := left_nd (d := 16) (by omega) (show h + 1 ≤ 16 by omega) hk
  have hright := right_nd (d := 16) (by omega) (show h + 1 ≤ 16 by omega) hk
  have hk2 : 2 ^ (16 - h) = 2 * 2 ^ (16 - (h + 1)) := by rw [show 16 - h = (16 - (h + 1)) + 1 by omega, Nat.pow_succ]; omega
  cases hx : findS s.opn (nd (h + 1) k) with
  | none =>
    have := g_hashof_none s hs (nd (h + 1) k) hx
    have e : hashP s (h + 1) k = stubB s.shut (nd (h + 1) k) := by simp [hashP, hx]
    rw [e]; exact this
  | some n =>
    have e : hashP s (h + 1) k = shaB (ptextR n (hashP s h (2 * k)) (hashP s h (2 * k + 1))) := by simp [hashP, hx]
    rw [e]
    refine gives_of_vcg (T := Tab) mixed Tab_ok Tryz.func52 rfl (by kernel_rfl) ?_
    refine Vstep.node2 rfl rfl rfl (fun m hm => ?_) (fun hm => by rw [hx] at hm; cases hm)
    rw [hx] at hm
    cases hm
    obtain ⟨sp, hsp, _, rfl⟩ := findS_mem hx
    have hfit := hs.2.2.1 sp hsp
    refine Vcmp.f rfl (Vif.f ?_)
    refine ⟨by decide, _, rfl, ?_⟩
    refine Vcmp.f (by rw [tmod_odd]; rfl) (Vif.f ?_)
    refine Vdraw.mk' (by kernel_rfl) ?_
    refine VloadN.mk' rfl rfl ?_
    refine VloadN.mk' rfl rfl ?_
    refine Vcall.go (g_left _) ?_
    rw [hleft]
    refine Vcall.go (ih (2 * k) (by omega)) ?_
    refine VloadN.mk' rfl rfl ?_
    refine Vcall.go (g_right _) ?_
    rw [hright]
    refine Vcall.go (ih (2 * k + 1) (by omega)) ?_
    refine Vcall.go (g_partext' sp.node _ _ hfit) ?_
    have hle := ptextR_le sp.node (hashP s h (2 * k)) (hashP s h (2 * k + 1)) hfit
    refine Vpub.pub ?_
    refine Vcall.mk' (g_sha [ptextR sp.node (hashP s h (2 * k)) (hashP s h (2 * k + 1))] (by simp; omega)) (Cvs.cons (Cv.of_eq (by rw [bss1]; rfl)) Cvs.nil) ?_
    exact Cv.of_eq (by simp [bs])
theorem g_hashof (s : Lean_) (hs : s.fitN) : ∀ (h k : Nat), h ≤ 16 → k < 2 ^ (16 - h) → Gives Tryz.prog 52 [.ag (lookC s), I (nd h k)] (.r (bs (hashP s h k)))
  | 0, k, _, hk => g_hashof_leaf s hs k (by simpa using hk)
  | h + 1, k, hh, hk => g_hashof_up s hs h hh (fun k hk => g_hashof s hs h k (by omega) hk) k hk

theorem g_chash (s : Lean_) (hs : s.fitN) : Gives Tryz.prog 12 [.ag s.c] (.r (.tu [bs (if rightP s then hashP s (lv (s.leaves - 1).toNat) 0 else []), .i .u8 (if rightP s then 0 else 3)])) := by
  refine gives_of_vcg (T := Tab) mixed Tab_ok Tryz.func12 rfl (by kernel_rfl) ?_
  refine VloadN.mk' rfl rfl ?_
  refine Vcall.bool (g_cright s hs) (fun h => Vcmp.f rfl (Vif.f ?_)) (fun h => Vcmp.t rfl (Vif.t ?_))
  · have hl : s.lookOk = true ∧ fitsI s.leaves = true := by
      simp only [rightP, Bool.and_eq_true] at h
      exact ⟨h.1, h.2.1⟩
    have glook := g_lookof s (by have := hs.1; omega) (by have := hs.2.1; omega)
    simp only [lookR, hl.1, if_true] at glook
    refine VloadN.mk' rfl rfl ?_
    refine Vcall.go glook ?_
    refine Vdraw.mk' (by kernel_rfl) ?_
    refine VloadN.mk' rfl rfl ?_
    refine Vcall.go (g_root _) ?_
    obtain ⟨d, hd, hn⟩ := fits_pow hl.2
    have hroot : rootI s.leaves = (nd d 0 : Int) := by rw [rootI, hl.2, if_pos rfl, hn, nd_root]
    have hlv : lv (s.leaves - 1).toNat = d := by rw [hn, ← nd_root, Int.toNat_natCast, lv_nd hd]
    rw [hroot]
    refine Vcall.go (g_hashof s hs d 0 hd (pow_pos' _)) ?_
    refine ⟨_, rfl, Cv.of_eq ?_⟩
    rw [if_pos h, if_pos h, hlv]
    rfl
  · refine ⟨_, rfl, ?_⟩
    rw [if_neg (by simp [h]), if_neg (by simp [h])]
    exact Cv.tu (Cvs.cons (Cv.nil 1) (Cvs.refl _))
end Go.Proofs.YtpdllgbfemnemaaGreat.Sx
end

section
namespace Go.Proofs.YtpdllgbfemnemaaGreat.Sx
open Go.RowKit

def openedF (s : Lean_) (b : Bool) : List Int := (copathI (2 * s.own) s.leaves).filter fun c => (findS s.opn c).isSome == b
end Go.Proofs.YtpdllgbfemnemaaGreat.Sx
end
