/- What the calls of this place ask of package variables ('internal/bytealg.MaxLen' holds some number), and that it stays: no condition. -/
import Derived.Test.YtmndicibakaceaaDoorWWords
namespace Go.Proofs.YtmndicibakaceaaDoor.Pr
open Go.RowKit Go.Proofs.YtmndicibakaceaaDoorW.PrintWords
/-- internal/bytealg.MaxLen holds a number. -/
def Gd (w : World) : Prop := ∃ m : Int, w.cell? ⟨0, 0, none⟩ = some (.int .i64 m)
theorem Gd.below {w w1 : World} (h : Gd w) (hb : Below w.heap.size w w1) : Gd w1 := by
  obtain ⟨m, hm⟩ := h
  exact ⟨m, pw_cell_below hb hm⟩
end Go.Proofs.YtmndicibakaceaaDoor.Pr
