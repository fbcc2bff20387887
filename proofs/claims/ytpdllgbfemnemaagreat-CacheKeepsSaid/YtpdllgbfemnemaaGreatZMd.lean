import Derived.Test.YtpdllgbfemnemaaGreatZKz
section
namespace Go.Proofs.YtpdllgbfemnemaaGreat.Sx
open Go.RowKit

end Go.Proofs.YtpdllgbfemnemaaGreat.Sx
end

section
namespace Go.Proofs.YtpdllgbfemnemaaGreat.Sx
open Go.RowKit

/-- A cell that holds no slice yet becomes a slice of the call's own. -/
theorem sub_adopt_cellP {S : St} (pub : Bool) (id i : Nat) (e : TypeId) (sz : Nat) {cells : List TF} (ho : oget S.O id = some (.box cells)) (hc : cells[i]? = some (.r (.x (.slice none 0 0)))) :
    Sub S { F := S.F, O := (id, some (.box (cells.set i (.own S.nx)))) :: (S.nx, some (.ch e sz 0 [] pub)) :: S.O, nx := S.nx + 1 } := by
  rintro B N a w k ⟨g, hs⟩
  have h := hs.adopt (dst := none) (fun d hd => by cases hd) (o := .ch e sz 0 [] pub) (vb := (.slice none 0 0, none)) trivial ⟨by simp, .inl ⟨rfl, .inl ⟨rfl, none, rfl⟩⟩⟩ (fun b hb => by cases hb) (fun i o' b _ hb => by cases hb)
  have e0 : a.put none (.slice none 0 0) = a := rfl
  simp only [St.mk_] at h
  rw [e0] at h
  obtain ⟨p1, p2, p3, p4⟩ := hs.owns id _ ho
  have hid : oget ((S.nx, some (Ow.ch e sz 0 [] pub)) :: S.O) id = some (.box cells) := by
    simp only [oget]
    split
    · rename_i hb; have := Nat.eq_of_beq_eq_true hb; omega
    · exact ho
  have hg : (g.set S.nx ((Value.slice none 0 0), none)) S.nx = ((Value.slice none 0 0), none) := by rw [Env.set_eq]
  have old : ∀ x ox, oget ((id, some (Ow.box (cells.set i (.own S.nx)))) :: (S.nx, some (Ow.ch e sz 0 [] pub)) :: S.O) x = some ox → ∃ ox', oget ((S.nx, some (Ow.ch e sz 0 [] pub)) :: S.O) x = some ox' := fun x ox hx => by
    rcases oget_cons hx with ⟨rfl, _⟩ | ⟨_, h'⟩
    · exact ⟨_, hid⟩
    · exact ⟨_, h'⟩
  refine ⟨k, _, h.size, h.defers, h.keep, h.kk, h.facts, fun j o' ho' => ?_, fun x y ox oy b hx hy hne hb => ?_⟩
  · rcases oget_cons ho' with ⟨rfl, e'⟩ | ⟨hne, h'⟩
    · cases e'
      obtain ⟨q1, q2, q3, q4⟩ := h.owns _ _ hid
      refine ⟨q1, fun f hf => ?_, ?_, q4⟩
      · rcases List.mem_or_eq_of_mem_set hf with hf | rfl
        · exact q2 f hf
        · exact Nat.lt_succ_self _
      · obtain ⟨b, cur, t, e1, e2, e3, e4, e5⟩ := q3
        refine ⟨b, cur, t, e1, e2, e3, by simpa using e4, fun j f u hf hu => ?_⟩
        rw [List.getElem?_set] at hf
        split at hf
        · rename_i hij
          subst hij
          split at hf
          · cases hf
            obtain ⟨u1, u2⟩ := e5 i _ u hc hu
            simp only [TF.at_, RV.at_] at u2
            exact ⟨u1, by simp only [TF.at_]; rw [hg]; exact u2⟩
          · cases hf
        · exact e5 j f u hf hu
    · exact h.owns j o' h'
  · obtain ⟨ox', hx'⟩ := old x ox hx
    obtain ⟨oy', hy'⟩ := old y oy hy
    exact h.apart x y ox' oy' b hx' hy' hne hb
end Go.Proofs.YtpdllgbfemnemaaGreat.Sx
end

section
namespace Go.Proofs.YtpdllgbfemnemaaGreat.Sx
open Go.RowKit

/-- One more stub behind the ones that are there, and the own one ahead of the first that lies higher. -/
def insS (own : Stub) (p : Bool × List Stub) (y : Stub) : Bool × List Stub := if decide (own.at_ < y.at_) && !p.1 then (true, p.2 ++ [own] ++ [y]) else (p.1, p.2 ++ [y])
def insR (own : Stub) (l : List Stub) : Bool × List Stub := l.foldl (insS own) (false, [])
def insL (own : Stub) (l : List Stub) : List Stub := if (insR own l).1 then (insR own l).2 else (insR own l).2 ++ [own]
def shutR (s : Lean_) (x : Int) (h : List UInt8) : Lean_ := ⟨s.leaves, s.own, s.opn.filter fun y => !underI y.at_ x, insL ⟨x, h⟩ (s.shut.filter fun y => !underI y.at_ x)⟩
theorem filter_snocA {α : Type} {p : α → Bool} {l : List α} {j : Nat} (hj : j < l.length) : (l.take (j + 1)).filter p = if p l[j] then (l.take j).filter p ++ [l[j]] else (l.take j).filter p := by
  rw [List.take_add_one, List.getElem?_eq_getElem hj]
  simp only [Option.toList, List.filter_append, List.filter_cons, List.filter_nil]
  split <;> simp
theorem filter_take_leA {α : Type} {p : α → Bool} {l : List α} {j : Nat} : ((l.take j).filter p).length ≤ l.length := by
  have h1 := List.length_filter_le p (l.take j)
  have h2 : (l.take j).length ≤ l.length := by rw [List.length_take]; omega
  omega
theorem cvc {ρ : List (Nat × Nat)} {S : St} {f g : TF} {fs gs : List TF} (h : cvTF ρ S f g) (r : cvCells ρ S fs gs) : cvCells ρ S (f :: fs) (g :: gs) := ⟨_, _, rfl, h, r⟩
abbrev spotCh (L : List Spot) : Ow := .ch 77 11 L.length (L.flatMap Spot.c) true
abbrev stubCh (L : List Stub) : Ow := .ch 79 2 L.length (L.flatMap Stub.c) true
abbrev zero4 : List RV := [I 0, I 0, .x (.slice none 0 0), .x (.slice none 0 0)]
end Go.Proofs.YtpdllgbfemnemaaGreat.Sx
end

section
namespace Go.Proofs.YtpdllgbfemnemaaGreat.Sx
open Go.RowKit

def idxG {α : Type} (q : α → Bool) : Nat → List α → Int
  | _, [] => -1
  | j, x :: r => if q x then (j : Int) else idxG q (j + 1) r
abbrev stubRV (y : Stub) : RV := .ag y.c
theorem g_indexstub (l : List Stub) (D : Stub → Prop) (q : Stub → Bool) (hl : l.length ≤ 1000000000) (hD : ∀ x ∈ l, D x) : Gives Tryz.prog 106 [stubs l, .s (cloS Tryz.prog stubRV D q)] (.r (I (idxG q 0 l))) := by
  refine gives_of_vcg (T := Tab) mixed Tab_ok Tryz.func106 rfl (by kernel_rfl) ?_
  refine Vloop.mk' (fun j : Nat => { F := [(0, .r (stubs l)), (1, .r (.s (cloS Tryz.prog stubRV D q))), (7, .r (I l.length)), (8, .r (I j))], O := [], nx := 0 }) (fun j => j ≤ l.length ∧ idxG q 0 l = idxG q j (l.drop j)) (fun j => l.length - j) 0 ⟨by omega, by simp⟩ (sub_of [] rfl ⟨Cv.refl _, Cv.refl _, Cv.refl _, Cv.refl _, trivial⟩ trivial) ?_
  rintro j ⟨hj, he⟩
  refine Vcmp.split (fun h => Vif.t ?_) (fun h => Vif.f ?_)
  · simp only [beq_iff_eq, bne_iff_ne, beq_eq_false_iff_ne, bne_eq_false_iff_eq, decide_eq_true_eq, decide_eq_false_iff_not, Bool.not_eq_true', Bool.not_eq_false', ne_eq] at h
    have hj' : j < l.length := by omega
    rw [List.drop_eq_getElem_cons hj'] at he
    simp only [idxG] at he
    refine Vidx.mk' (by omega) (by omega) (idx_stub rfl hj') ?_
    refine VloadN.mk' rfl rfl ?_
    refine Vstep.cloB l[j] rfl rfl rfl rfl (Cv.refl _) (hD _ (List.getElem_mem hj')) (fun hq => Vif.t ?_) (fun hq => Vif.f ?_)
    · rw [hq] at he
      exact Cv.of_eq (by rw [he]; simp)
    · rw [hq] at he
      refine Vint.i64 (m := ((j + 1 : Nat) : Int)) (by omega) (by omega) ?_
      exact ⟨j + 1, ⟨hj', by rw [he]; simp⟩, by omega, sub_of [] rfl ⟨Cv.refl _, Cv.refl _, Cv.refl _, Cv.refl _, trivial⟩ trivial⟩
  · simp only [beq_iff_eq, bne_iff_ne, beq_eq_false_iff_ne, bne_eq_false_iff_eq, decide_eq_true_eq, decide_eq_false_iff_not, Bool.not_eq_true', Bool.not_eq_false', ne_eq] at h
    rw [List.drop_eq_nil_of_le (by omega)] at he
    exact Cv.of_eq (by rw [he]; rfl)
theorem g_shut1 (y : Stub) (x : Int) : Gives Tryz.prog 107 [.ag y.c, .ptr [I x]] (.r (.b (decide (x < y.at_)))) := by
  refine gives_of_vcg (T := Tab) mixed Tab_ok Tryz.func107 rfl (by kernel_rfl) ?_
  refine Vload1.mk' rfl ?_
  exact Vcmp.mk' rfl (Cv.refl _)

end Go.Proofs.YtpdllgbfemnemaaGreat.Sx
end
