import Derived.Test.YtpdllgbfemnemaaGreatZMd
section
namespace Go.Proofs.YtpdllgbfemnemaaGreat.Sx
open Go.RowKit

theorem g_iclone (l : List Int) (hl : l.length ≤ 1000000000) (h64 : ∀ x ∈ l, i64 x) : Gives Tryz.prog 144 [is l] (ich l) :=
  gives_old (known_of Tryz.func144 rfl (by kernel_rfl)) fun w k vs hp => by
    obtain ⟨a, rfl, h1⟩ := parts1 hp
    obtain ⟨p, rfl, hp1⟩ := is_in h64 h1
    exact (cloneI_any p l w hp1 (by omega)).mono fun _ _ ⟨v, he, hx, _, hv⟩ => ⟨v, he, hx, is_out hv⟩

theorem g_copyC (n : Node) (hn : n.fit) (hcl : Gives Tryz.prog 143 [.ag n.leaf.c] (.r (.ag n.leaf.c))) : Gives Tryz.prog 105 [.ag n.c] (.r (.ag n.c)) := by
  refine gives_of_vcg (T := Tab) mixed Tab_ok Tryz.func105 rfl (by kernel_rfl) ?_
  obtain ⟨h1, h2⟩ := hn
  refine VloadN.mk' rfl rfl ?_
  refine Vcall.go hcl ?_
  refine Vdraw.mk' (by kernel_rfl) ?_
  refine Vcall.go (g_bclone n.par.box (by have := h2.1; omega)) ?_
  refine Vcall.go (g_bclone n.par.hash (by have := h2.2.1; omega)) ?_
  refine Vcall.go (g_iclone n.par.late (by have := h2.2.2.1; omega) h2.2.2.2) ?_
  refine VloadN.mk' rfl rfl ?_
  refine VloadN.mk' rfl rfl ?_
  exact Cv.refl _
end Go.Proofs.YtpdllgbfemnemaaGreat.Sx
end

section
namespace Go.Proofs.YtpdllgbfemnemaaGreat.Sx
open Go.RowKit

end Go.Proofs.YtpdllgbfemnemaaGreat.Sx
end

section
namespace Go.Proofs.YtpdllgbfemnemaaGreat.Sx
open Go.RowKit

end Go.Proofs.YtpdllgbfemnemaaGreat.Sx
end
