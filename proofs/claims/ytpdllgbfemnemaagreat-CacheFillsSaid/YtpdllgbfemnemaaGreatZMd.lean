import Derived.Test.YtpdllgbfemnemaaGreatZKz
namespace Go.Proofs.YtpdllgbfemnemaaGreat.Sx
open Go.RowKit
section
theorem zp2 (a b : Lean_) (ha1 : a.opn.length <= 1000000000) (ha2 : a.shut.length <= 1000000000) (hb1 : b.opn.length <= 1000000000) (hb2 : b.shut.length <= 1000000000) (ha : ∀ x ∈ a.opn, ∀ u ∈ x.node.par.late, i64 u) (hb : ∀ x ∈ b.opn, ∀ u ∈ x.node.par.late, i64 u) :
  zae Tryz.prog 25 [.ag a.c, .ag b.c] (.r (.b (decide (a = b)))) := by
 refine zad (T := Tab) zaf Tab_ok Tryz.func25 rfl (by kernel_rfl) ?_
 have no : a ≠ b -> RV.b false = RV.b (decide (a = b)) := λ h => by simp [h]
 by_cases h1 : a.leaves = b.leaves
 rotate_left
 ·refine zu (by simp [h1]) (zq (zf (no λ e => h1 (by rw [e]))))
 refine zw (by simp [h1]) ?_
 by_cases h2 : a.own = b.own
 rotate_left
 ·refine zu (by simp [h2]) (zq (zf (no λ e => h2 (by rw [e]))))
 refine zw (by simp [h2]) ?_
 by_cases h3 : a.opn.length = b.opn.length
 rotate_left
 ·refine zu (by simp; omega) (zq (zf (no λ e => h3 (by rw [e]))))
 refine zw (by simp [h3]) ?_
 by_cases h4 : a.shut.length = b.shut.length
 rotate_left
 ·refine zu (by simp; omega) (zq (zf (no λ e => h4 (by rw [e]))))
 refine zw (by simp [h4]) (zt ?_)
 refine zy (λ j : Nat => { F := [(2, .own 0), (3, .own 1), (5, .r (I j))], O := [(0, some (.box (a.c.map .r))), (1, some (.box (b.c.map .r)))], nx := 2 }) (λ j => j <= a.opn.length /\ a.opn.take j = b.opn.take j) (λ j => a.opn.length - j) 0 ⟨by omega, by simp⟩ (zac [(0, 0), (1, 1)] rfl ⟨rfl, rfl, cr, trivial⟩ ⟨zab _, zab _, trivial⟩) ?_
 rintro j ⟨hj, ht⟩
 refine zh (λ h => zq ?_) (λ h => zt ?_)
 ·simp only [zb] at h
  have hj' : j < a.opn.length := by omega
  have hjb : j < b.opn.length := by omega
  have bad : a.opn[j] ≠ b.opn[j] -> RV.b false = RV.b (decide (a = b)) := λ h => no λ e => h (by simp only [e])
  refine Vdraw.mk' (by kernel_rfl) ?_
  refine zm (by omega) (by omega) (zdt rfl hj') (zg rfl ?_)
  refine zm (by omega) (by omega) (zdt rfl hjb) (zg rfl ?_)
  by_cases h5 : a.opn[j].at_ = b.opn[j].at_
  rotate_left
  ·refine zu (by simp [h5]) (zq (zf (bad λ e => h5 (by rw [e]))))
  refine zw (by simp [h5]) ?_
  refine zm (by omega) (by omega) (zdt rfl hj') ?_
  refine za rfl rfl ?_
  refine zm (by omega) (by omega) (zdt rfl hjb) ?_
  refine za rfl rfl ?_
  refine ze (zp1 a.opn[j].node b.opn[j].node (ha _ (List.getElem_mem _)) (hb _ (List.getElem_mem _))) ?_
  by_cases h6 : a.opn[j].node = b.opn[j].node
  rotate_left
  ·refine zu (by simp [h6]) (zq (zf (bad λ e => h6 (by rw [e]))))
  refine zw (by simp [h6]) (zt ?_)
  refine zd (m := ((j + 1 : Nat) : Int)) (by omega) (by omega) ?_
  refine ⟨j + 1, ⟨hj', ?_⟩, by omega, zac [(0, 0), (1, 1)] rfl ⟨rfl, rfl, cr, trivial⟩ ⟨zab _, zab _, trivial⟩⟩
  have h7 : a.opn[j] = b.opn[j] := by
   revert h5 h6
   generalize a.opn[j] = x
   generalize b.opn[j] = y
   cases x; cases y
   intro e1 e2
   simp_all
  rw [List.take_add_one, List.take_add_one, ht, List.getElem?_eq_getElem hj', List.getElem?_eq_getElem hjb, h7]
 simp only [zb] at h
 have hopn : a.opn = b.opn := by rwa [List.take_of_length_le (by omega), List.take_of_length_le (by omega)] at ht
 clear ht h
 refine zy (λ j : Nat => { F := [(2, .own 0), (3, .own 1), (6, .r (I j))], O := [(0, some (.box (a.c.map .r))), (1, some (.box (b.c.map .r)))], nx := 2 }) (λ j => j <= a.shut.length /\ a.shut.take j = b.shut.take j) (λ j => a.shut.length - j) 0 ⟨by omega, by simp⟩ (zac [(0, 0), (1, 1)] rfl ⟨rfl, rfl, cr, trivial⟩ ⟨zab _, zab _, trivial⟩) ?_
 rintro j ⟨hj, ht⟩
 refine zh (λ h => zq ?_) (λ h => zt ?_)
 ·simp only [zb] at h
  have hj' : j < a.shut.length := by omega
  have hjb : j < b.shut.length := by omega
  have bad : a.shut[j] ≠ b.shut[j] -> RV.b false = RV.b (decide (a = b)) := λ h => no λ e => h (by simp only [e])
  refine Vdraw.mk' (by kernel_rfl) ?_
  refine zm (by omega) (by omega) (zd7 rfl hj') (zg rfl ?_)
  refine zm (by omega) (by omega) (zd7 rfl hjb) (zg rfl ?_)
  by_cases h5 : a.shut[j].at_ = b.shut[j].at_
  rotate_left
  ·refine zu (by simp [h5]) (zq (zf (bad λ e => h5 (by rw [e]))))
  refine zw (by simp [h5]) ?_
  refine zm (by omega) (by omega) (zd7 rfl hj') (zg rfl ?_)
  refine zm (by omega) (by omega) (zd7 rfl hjb) (zg rfl ?_)
  refine ze (zjt a.shut[j].hash b.shut[j].hash) ?_
  by_cases h6 : a.shut[j].hash = b.shut[j].hash
  rotate_left
  ·refine zu (by simp [h6]) (zq (zf (bad λ e => h6 (by rw [e]))))
  refine zw (by simp [h6]) (zt ?_)
  refine zd (m := ((j + 1 : Nat) : Int)) (by omega) (by omega) ?_
  refine ⟨j + 1, ⟨hj', ?_⟩, by omega, zac [(0, 0), (1, 1)] rfl ⟨rfl, rfl, cr, trivial⟩ ⟨zab _, zab _, trivial⟩⟩
  have h7 : a.shut[j] = b.shut[j] := by
   revert h5 h6
   generalize a.shut[j] = x
   generalize b.shut[j] = y
   cases x; cases y
   intro e1 e2
   simp_all
  rw [List.take_add_one, List.take_add_one, ht, List.getElem?_eq_getElem hj', List.getElem?_eq_getElem hjb, h7]
 simp only [zb] at h
 have hshut : a.shut = b.shut := by rwa [List.take_of_length_le (by omega), List.take_of_length_le (by omega)] at ht
 refine zf ?_
 have : a = b := by cases a; cases b; simp_all
 simp [ofC, this]
end
section
theorem zd2 {S : St} (pub : Bool) (id i : Nat) (e : TypeId) (sz : Nat) {cells : List TF} (ho : oget S.O id = some (.box cells)) (hc : cells[i]? = some (.r (.x (.slice none 0 0)))) :
  Sub S { F := S.F, O := (id, some (.box (cells.set i (.own S.nx)))) :: (S.nx, some (.ch e sz 0 [] pub)) :: S.O, nx := S.nx + 1 } := by
 rintro B N a w k ⟨g, hs⟩
 have h := hs.adopt (dst := none) (λ d hd => by cases hd) (o := .ch e sz 0 [] pub) (vb := (.slice none 0 0, none)) trivial ⟨by simp, .inl ⟨rfl, .inl ⟨rfl, none, rfl⟩⟩⟩ (λ b hb => by cases hb) (λ i o' b _ hb => by cases hb)
 have e0 : a.put none (.slice none 0 0) = a := rfl
 simp only [St.mk_] at h
 rw [e0] at h
 obtain ⟨p1, p2, p3, p4⟩ := hs.owns id _ ho
 have hid : oget ((S.nx, some (Ow.ch e sz 0 [] pub)) :: S.O) id = some (.box cells) := by
  simp only [oget]
  split
  ·rename_i hb; have := Nat.eq_of_beq_eq_true hb; omega
  ·exact ho
 have hg : (g.set S.nx ((Value.slice none 0 0), none)) S.nx = ((Value.slice none 0 0), none) := by rw [Env.set_eq]
 have old : ∀ x ox, oget ((id, some (Ow.box (cells.set i (.own S.nx)))) :: (S.nx, some (Ow.ch e sz 0 [] pub)) :: S.O) x = some ox -> ∃ ox', oget ((S.nx, some (Ow.ch e sz 0 [] pub)) :: S.O) x = some ox' := λ x ox hx => by
  rcases za2 hx with ⟨rfl, _⟩ | ⟨_, h'⟩
  ·exact ⟨_, hid⟩
  ·exact ⟨_, h'⟩
 refine ⟨k, _, h.size, h.defers, h.keep, h.kk, h.facts, λ j o' ho' => ?_, λ x y ox oy b hx hy hne hb => ?_⟩
 ·rcases za2 ho' with ⟨rfl, e'⟩ | ⟨hne, h'⟩
  ·cases e'
   obtain ⟨q1, q2, q3, q4⟩ := h.owns _ _ hid
   refine ⟨q1, λ f hf => ?_, ?_, q4⟩
   ·rcases List.mem_or_eq_of_mem_set hf with hf | rfl
    ·exact q2 f hf
    ·exact Nat.lt_succ_self _
   ·obtain ⟨b, cur, t, e1, e2, e3, e4, e5⟩ := q3
    refine ⟨b, cur, t, e1, e2, e3, by simpa using e4, λ j f u hf hu => ?_⟩
    rw [List.getElem?_set] at hf
    split at hf
    ·rename_i hij
     subst hij
     split at hf
     ·cases hf
      obtain ⟨u1, u2⟩ := e5 i _ u hc hu
      simp only [TF.at_, RV.at_] at u2
      exact ⟨u1, by simp only [TF.at_]; rw [hg]; exact u2⟩
     ·cases hf
    ·exact e5 j f u hf hu
  ·exact h.owns j o' h'
 ·obtain ⟨ox', hx'⟩ := old x ox hx
  obtain ⟨oy', hy'⟩ := old y oy hy
  exact h.apart x y ox' oy' b hx' hy' hne hb
theorem ztb {S : St} (id i : Nat) (e : TypeId) (sz : Nat) {cells : List TF} (ho : oget S.O id = some (.box cells)) (hc : cells[i]? = some (.r (.x (.slice none 0 0)))) :
  Sub S { F := S.F, O := (id, some (.box (cells.set i (.own S.nx)))) :: (S.nx, some (.ch e sz 0 [] true)) :: S.O, nx := S.nx + 1 } := zd2 true id i e sz ho hc
end
section
theorem cvc {ρ : List (Nat × Nat)} {S : St} {f g : TF} {fs gs : List TF} (h : cvTF ρ S f g) (r : zg9 ρ S fs gs) : zg9 ρ S (f :: fs) (g :: gs) := ⟨_, _, rfl, h, r⟩
abbrev zd0 (L : List Spot) : Ow := .ch 77 11 L.length (L.flatMap Spot.c) true
abbrev zeb (L : List Stub) : Ow := .ch 79 2 L.length (L.flatMap Stub.c) true
abbrev zero4 : List RV := [I 0, I 0, .x (.slice none 0 0), .x (.slice none 0 0)]
end
section
def empty_ : Lean_ := ⟨0, 0, [], []⟩
theorem z4t (s : Lean_) (h1 : s.opn.length <= 1000000000) (h2 : s.shut.length <= 1000000000) (hl : ∀ x ∈ s.opn, ∀ u ∈ x.node.par.late, i64 u) : zae Tryz.prog 24 [.ag s.c] (.r (.b (decide (s = empty_)))) := by
 refine zad (T := Tab) zaf Tab_ok Tryz.func24 rfl (by kernel_rfl) ?_
 refine za rfl rfl ?_
 refine Vcall.mk' (zp2 s empty_ h1 h2 (by simp [empty_]) (by simp [empty_]) hl (by simp [empty_])) (zk (cr) (zk (Cv.ag (zk (cr) (zk (cr) (zk (Cv.nil 11) (zk (Cv.nil 2) Cvs.nil))))) Cvs.nil)) ?_
 exact cr
end
end Go.Proofs.YtpdllgbfemnemaaGreat.Sx
