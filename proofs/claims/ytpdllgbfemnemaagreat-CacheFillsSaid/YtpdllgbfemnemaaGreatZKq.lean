import Derived.Test.YtpdllgbfemnemaaGreatZKo
namespace Go.Proofs.YtpdllgbfemnemaaGreat.Sx
open Go.RowKit
section
def zfh (i : Int) (n : Node) : List UInt8 := if i < 0 \/ 65536 <= i then [] else if n.right = false \/ n.kind.toNat = 2 then [] else zkb i n
def z2q (i : Int) (n : Node) : Int := if i < 0 \/ 65536 <= i then 1 else if n.right = false \/ n.kind.toNat = 2 then 3 else 0
def zfk (n : Node) (l r : List UInt8) : List UInt8 := if n.right = false \/ n.kind.toNat = 1 then [] else if l.length ≠ 32 \/ r.length ≠ 32 then [] else zh7 n l r
def z2e (n : Node) (l r : List UInt8) : Int := if n.right = false \/ n.kind.toNat = 1 then 3 else if l.length ≠ 32 \/ r.length ≠ 32 then 1 else 0
theorem zpl (i : Int) (n : Node) (hn : n.fit) : zae Tryz.prog 88 [I i, .ag n.c] (.r (.tu [bs (zfh i n), .i .u8 (z2q i n)])) := by
 have := z0o i n hn
 unfold zfh z2q
 by_cases h1 : i < 0 \/ 65536 <= i
 ·rw [if_pos h1] at this; rw [if_pos h1, if_pos h1]; exact this
 ·rw [if_neg h1] at this; rw [if_neg h1, if_neg h1]
  by_cases h2 : n.right = false \/ n.kind.toNat = 2
  ·rw [if_pos h2] at this; rw [if_pos h2, if_pos h2]; exact this
  ·rw [if_neg h2] at this; rw [if_neg h2, if_neg h2]; exact this
theorem zr2 (n : Node) (l r : List UInt8) (hn : n.fit) : zae Tryz.prog 89 [.ag n.c, bs l, bs r] (.r (.tu [bs (zfk n l r), .i .u8 (z2e n l r)])) := by
 have := z3c n l r hn
 unfold zfk z2e
 by_cases h1 : n.right = false \/ n.kind.toNat = 1
 ·rw [if_pos h1] at this; rw [if_pos h1, if_pos h1]; exact this
 ·rw [if_neg h1] at this; rw [if_neg h1, if_neg h1]
  by_cases h2 : l.length ≠ 32 \/ r.length ≠ 32
  ·rw [if_pos h2] at this; rw [if_pos h2, if_pos h2]; exact this
  ·rw [if_neg h2] at this; rw [if_neg h2, if_neg h2]; exact this
theorem zts (i : Int) (n : Node) (hn : n.fit) : (zfh i n).length <= 50000000000 := by
 have := zfz n hn
 unfold zfh zkb
 split
 ·simp
 ·split
  ·simp
  ·simp [zbj]; omega
theorem ztk (n : Node) (l r : List UInt8) (hn : n.fit) : (zfk n l r).length <= 50000000000 := by
 have := zfz n hn
 unfold zfk zh7
 split
 ·simp
 ·split
  ·simp
  ·have a := za9 l
   have b := za9 r
   simp; omega
def zap (s : Lean_) : Nat -> Nat -> List UInt8
 | 0, k => match zaj s.opn (nd 0 k) with
  | some n => shaB (zfh k n)
  | none => zcg s.shut (nd 0 k)
 | h + 1, k => match zaj s.opn (nd (h + 1) k) with
  | some n => shaB (zfk n (zap s h (2 * k)) (zap s h (2 * k + 1)))
  | none => zcg s.shut (nd (h + 1) k)
theorem zer {l : List Stub} {x : Int} {m : List UInt8} (h : zdl l x = some m) : zcg l x = m /\ ∃ s ∈ l, s.at_ = x /\ s.hash = m := by
 simp only [zdl] at h
 refine ⟨by simp [zcg, h], ?_⟩
 rw [Option.map_eq_some_iff] at h
 obtain ⟨s, hs, rfl⟩ := h
 exact ⟨s, List.mem_of_find?_eq_some hs, by simpa using List.find?_some hs, rfl⟩
theorem zlv {l : List Stub} {x : Int} (h : zdl l x = none) : zcg l x = [] := by
 simp only [zdl] at h
 simp [zcg, h]
theorem bss1 (l : List UInt8) : bss [l] = .sl 1 1 [bs l] := rfl
theorem zm4 (s : Lean_) (hs : s.fitN) (x : Int) (hx : zaj s.opn x = none) : zae Tryz.prog 52 [.ag (zdo s), I x] (.r (bs (zcg s.shut x))) := by
 refine zad (T := Tab) zaf Tab_ok Tryz.func52 rfl (by kernel_rfl) ?_
 obtain ⟨hs1, hs2, hs3, hs4⟩ := id hs
 refine Vstep.node2 rfl rfl rfl (λ n hn => by rw [hx] at hn; cases hn) (λ _ => ?_)
 refine zu rfl (zq ?_)
 refine Vstep.hash1 rfl rfl rfl (λ m hm => ?_) (λ hm => ?_)
 ·obtain ⟨e, sp, hsp, _, rfl⟩ := zer hm
  have := hs4 sp hsp
  refine ze (zfe _ (by omega)) ?_
  exact zf (by rw [e]; rfl)
 ·refine Vcall.mk' (zfe [] (by simp)) (zk (Cv.nil 1) Cvs.nil) ?_
  exact zf (by rw [zlv hm]; rfl)
theorem zux (s : Lean_) (hs : s.fitN) (k : Nat) (hk : k < 65536) : zae Tryz.prog 52 [.ag (zdo s), I (nd 0 k)] (.r (bs (zap s 0 k))) := by
 cases hx : zaj s.opn (nd 0 k) with
 | none =>
  have := zm4 s hs (nd 0 k) hx
  have e : zap s 0 k = zcg s.shut (nd 0 k) := by simp [zap, hx]
  rw [e]; exact this
 | some n =>
  have e : zap s 0 k = shaB (zfh k n) := by simp [zap, hx]
  rw [e]
  refine zad (T := Tab) zaf Tab_ok Tryz.func52 rfl (by kernel_rfl) ?_
  refine Vstep.node2 rfl rfl rfl (λ m hm => ?_) (λ hm => by rw [hx] at hm; cases hm)
  rw [hx] at hm
  cases hm
  obtain ⟨sp, hsp, _, rfl⟩ := zbf hx
  have hfit := hs.2.2.1 sp hsp
  refine zw rfl (zt ?_)
  refine ⟨by decide, _, rfl, ?_⟩
  refine zu (by rw [zb4]; rfl) (zq ?_)
  refine ⟨by decide, (k : Int), ?_, ?_⟩
  ·rw [zen, Int.tdiv_eq_ediv_of_nonneg (by omega)]
   rw [show (((2 * k : Nat) : Int)) / 2 = k by omega]
   exact wrap_i64 (by omega)
  refine za rfl rfl ?_
  refine ze (zpl k sp.node hfit) ?_
  have hle := zts k sp.node hfit
  refine zx ?_
  refine Vcall.mk' (zvk [zfh k sp.node] (by simp; omega)) (zk (zf (by rw [bss1]; rfl)) Cvs.nil) ?_
  exact zf (by simp [bs])
theorem zyq (s : Lean_) (hs : s.fitN) (h : Nat) (hh : h + 1 <= 16) (ih : ∀ k, k < 2 ^ (16 - h) -> zae Tryz.prog 52 [.ag (zdo s), I (nd h k)] (.r (bs (zap s h k)))) (k : Nat) (hk : k < 2 ^ (16 - (h + 1))) :
  zae Tryz.prog 52 [.ag (zdo s), I (nd (h + 1) k)] (.r (bs (zap s (h + 1) k))) := by
 have hleft := zdr (d := 16) (by omega) (show h + 1 <= 16 by omega) hk
 have hright := zda (d := 16) (by omega) (show h + 1 <= 16 by omega) hk
 have hk2 : 2 ^ (16 - h) = 2 * 2 ^ (16 - (h + 1)) := by rw [show 16 - h = (16 - (h + 1)) + 1 by omega, Nat.pow_succ]; omega
 cases hx : zaj s.opn (nd (h + 1) k) with
 | none =>
  have := zm4 s hs (nd (h + 1) k) hx
  have e : zap s (h + 1) k = zcg s.shut (nd (h + 1) k) := by simp [zap, hx]
  rw [e]; exact this
 | some n =>
  have e : zap s (h + 1) k = shaB (zfk n (zap s h (2 * k)) (zap s h (2 * k + 1))) := by simp [zap, hx]
  rw [e]
  refine zad (T := Tab) zaf Tab_ok Tryz.func52 rfl (by kernel_rfl) ?_
  refine Vstep.node2 rfl rfl rfl (λ m hm => ?_) (λ hm => by rw [hx] at hm; cases hm)
  rw [hx] at hm
  cases hm
  obtain ⟨sp, hsp, _, rfl⟩ := zbf hx
  have hfit := hs.2.2.1 sp hsp
  refine zw rfl (zt ?_)
  refine ⟨by decide, _, rfl, ?_⟩
  refine zw (by rw [zcr]; rfl) (zt ?_)
  refine Vdraw.mk' (by kernel_rfl) ?_
  refine za rfl rfl ?_
  refine za rfl rfl ?_
  refine ze (zhm _) ?_
  rw [hleft]
  refine ze (ih (2 * k) (by omega)) ?_
  refine za rfl rfl ?_
  refine ze (zf7 _) ?_
  rw [hright]
  refine ze (ih (2 * k + 1) (by omega)) ?_
  refine ze (zr2 sp.node _ _ hfit) ?_
  have hle := ztk sp.node (zap s h (2 * k)) (zap s h (2 * k + 1)) hfit
  refine zx ?_
  refine Vcall.mk' (zvk [zfk sp.node (zap s h (2 * k)) (zap s h (2 * k + 1))] (by simp; omega)) (zk (zf (by rw [bss1]; rfl)) Cvs.nil) ?_
  exact zf (by simp [bs])
theorem zv6 (s : Lean_) (hs : s.fitN) : ∀ (h k : Nat), h <= 16 -> k < 2 ^ (16 - h) -> zae Tryz.prog 52 [.ag (zdo s), I (nd h k)] (.r (bs (zap s h k)))
 | 0, k, _, hk => zux s hs k (by simpa using hk)
 | h + 1, k, hh, hk => zyq s hs h hh (λ k hk => zv6 s hs h k (by omega) hk) k hk
theorem z7o (s : Lean_) (hs : s.fitN) : zae Tryz.prog 12 [.ag s.c] (.r (.tu [bs (if zbq s then zap s (lv (s.leaves - 1).toNat) 0 else []), .i .u8 (if zbq s then 0 else 3)])) := by
 refine zad (T := Tab) zaf Tab_ok Tryz.func12 rfl (by kernel_rfl) ?_
 refine za rfl rfl ?_
 refine Vcall.bool (z54 s hs) (λ h => zw rfl (zt ?_)) (λ h => zu rfl (zq ?_))
 ·have hl : s.lookOk = true /\ zau s.leaves = true := by
   simp only [zbq, Bool.and_eq_true] at h
   exact ⟨h.1, h.2.1⟩
  have glook := zxn s (by have := hs.1; omega) (by have := hs.2.1; omega)
  simp only [zmj, hl.1, if_true] at glook
  refine za rfl rfl ?_
  refine ze glook ?_
  refine Vdraw.mk' (by kernel_rfl) ?_
  refine za rfl rfl ?_
  refine ze (zqz _) ?_
  obtain ⟨d, hd, hn⟩ := zdu hl.2
  have hroot : zga s.leaves = (nd d 0 : Int) := by rw [zga, hl.2, if_pos rfl, hn, zfo]
  have hlv : lv (s.leaves - 1).toNat = d := by rw [hn, <- zfo, Int.toNat_natCast, zo0 hd]
  rw [hroot]
  refine ze (zv6 s hs d 0 hd (zag _)) ?_
  refine ⟨_, rfl, zf ?_⟩
  rw [if_pos h, if_pos h, hlv]
  rfl
 ·refine ⟨_, rfl, ?_⟩
  rw [if_neg (by simp [h]), if_neg (by simp [h])]
  exact Cv.tu (zk (Cv.nil 1) (zn _))
end
section
theorem zyk {p : Int -> Bool} {l : List Int} {j : Nat} (hj : j < l.length) : (l.take (j + 1)).filter p = if p l[j] then (l.take j).filter p ++ [l[j]] else (l.take j).filter p := by
 rw [List.take_add_one, List.getElem?_eq_getElem hj]
 simp only [Option.toList, List.filter_append, List.filter_cons, List.filter_nil]
 split <;> simp
theorem zsq {p : Int -> Bool} {l : List Int} {j : Nat} : ((l.take j).filter p).length <= l.length := by
 have h1 := List.length_filter_le p (l.take j)
 have h2 : (l.take j).length <= l.length := by rw [List.length_take]; omega
 omega
def zdh (s : Lean_) (b : Bool) : List Int := (zbb (2 * s.own) s.leaves).filter λ c => (zaj s.opn c).isSome == b
theorem z0v (s : Lean_) (b : Bool) (h1 : s.opn.length <= 1000000000) (ho : -4000000000000000000 <= s.own /\ s.own <= 4000000000000000000) : zae Tryz.prog 22 [.ag s.c, .b b] (.r (is (zdh s b))) := by
 refine zad (T := Tab) zaf Tab_ok Tryz.func22 rfl (by kernel_rfl) ?_
 obtain ⟨C, hC⟩ : ∃ C, C = zbb (2 * s.own) s.leaves := ⟨_, rfl⟩
 have hcl : C.length <= 17 := by rw [hC, zgn]; exact zeq _ _
 obtain ⟨p, hp⟩ : ∃ p : Int -> Bool, p = λ c => (zaj s.opn c).isSome == b := ⟨_, rfl⟩
 have hres : zdh s b = C.filter p := by rw [hC, hp]; rfl
 rw [hres]
 refine zd rfl (by omega) ?_
 refine ze (zqw _ _) ?_
 refine zy (λ j : Nat => { F := [(1, .r (.b b)), (2, .own 0), (5, .own 1), (6, .r (is C)), (7, .r (I j))], O := [(0, some (.box (s.c.map .r))), (1, some (.ch 3 1 ((C.take j).filter p).length (((C.take j).filter p).map I) true))], nx := 2 }) (λ j => j <= C.length) (λ j => C.length - j) 0 (by omega)
  ((zc1 5 3 1 rfl).trans (zac [(0, 0), (1, 2)] rfl ⟨cr, rfl, rfl, zf (by subst hC; rfl), cr, trivial⟩ ⟨zab _, ⟨rfl, rfl, rfl, rfl, zn _⟩, trivial⟩)) ?_
 intro j hj
 refine zh (λ h => zq ?_) (λ h => zt ?_)
 ·simp only [zb] at h
  have hj' : j < C.length := by omega
  have hfl := zsq (p := p) (l := C) (j := j)
  have hsn := zyk (p := p) hj'
  refine Vdraw.mk' (by kernel_rfl) ?_
  refine zm (by omega) (by omega) (zah rfl hj') (zg rfl ?_)
  refine ze (ze2 s.opn _ h1) ?_
  have fin : ∀ β : Bool, (zaj s.opn C[j]).isSome = β -> (p C[j] = (β == b)) := λ β hβ => by rw [hp]; simp only [hβ]
  cases hf : zaj s.opn C[j] with
  | none =>
   have hpj := fin false (by rw [hf]; rfl)
   refine zh (λ h2 => zq ?_) (λ h2 => zt ?_)
   ·rw [h2] at hpj
    rw [hpj, if_pos rfl] at hsn
    refine zm (by omega) (by omega) (zah rfl hj') (zg rfl ?_)
    refine zx ?_
    refine Vapp.mk' (j := ((C.take (j + 1)).filter p).length) (zs := ((C.take (j + 1)).filter p).map I) (by simp only [maxLen]; omega) (by simp; omega) (by rw [hsn]; simp) (by rw [hsn]; simp [zbh, cellsOf]) ?_
    refine zd (m := ((j + 1 : Nat) : Int)) (by omega) (by omega) ?_
    exact ⟨j + 1, hj', by omega, zac [(0, 0), (1, _)] rfl ⟨cr, rfl, rfl, cr, cr, trivial⟩ ⟨zab _, zao rfl, trivial⟩⟩
   ·rw [h2] at hpj
    rw [hpj, if_neg (by simp)] at hsn
    refine zd (m := ((j + 1 : Nat) : Int)) (by omega) (by omega) ?_
    exact ⟨j + 1, hj', by omega, zac [(0, 0), (1, 1)] rfl ⟨cr, rfl, rfl, cr, cr, trivial⟩ ⟨zab _, zao hsn.symm, trivial⟩⟩
  | some n =>
   have hpj := fin true (by rw [hf]; rfl)
   refine zh (λ h2 => zq ?_) (λ h2 => zt ?_)
   ·rw [h2] at hpj
    rw [hpj, if_pos rfl] at hsn
    refine zm (by omega) (by omega) (zah rfl hj') (zg rfl ?_)
    refine zx ?_
    refine Vapp.mk' (j := ((C.take (j + 1)).filter p).length) (zs := ((C.take (j + 1)).filter p).map I) (by simp only [maxLen]; omega) (by simp; omega) (by rw [hsn]; simp) (by rw [hsn]; simp [zbh, cellsOf]) ?_
    refine zd (m := ((j + 1 : Nat) : Int)) (by omega) (by omega) ?_
    exact ⟨j + 1, hj', by omega, zac [(0, 0), (1, _)] rfl ⟨cr, rfl, rfl, cr, cr, trivial⟩ ⟨zab _, zao rfl, trivial⟩⟩
   ·rw [h2] at hpj
    rw [hpj, if_neg (by simp)] at hsn
    refine zd (m := ((j + 1 : Nat) : Int)) (by omega) (by omega) ?_
    exact ⟨j + 1, hj', by omega, zac [(0, 0), (1, 1)] rfl ⟨cr, rfl, rfl, cr, cr, trivial⟩ ⟨zab _, zao hsn.symm, trivial⟩⟩
 ·simp only [zb] at h
  rw [List.take_of_length_le (by omega)]
  exact cr
end
end Go.Proofs.YtpdllgbfemnemaaGreat.Sx
