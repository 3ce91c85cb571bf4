/- What the calls of this place ask of package variables ('internal/bytealg.MaxLen' holds some number, 'internal/strconv.uint64pow10' the powers of ten), and that it stays: no condition. -/
import Derived.Lib.ItoaNum
import Derived.Lib.LaidTab
import Derived.WalkSmall
import Derived.Test.YtdccbpeajpnkjaaGreatDoorProg
import Derived.Test.YtdccbpeajpnkjaaGreatDoorWWords
namespace Go.Proofs.YtdccbpeajpnkjaaGreatDoor.Pr
open Go.RowKit Go.Proofs.YtdccbpeajpnkjaaGreatDoorW.PrintWords
/-- internal/bytealg.MaxLen holds a number; internal/strconv.uint64pow10 the powers of ten. -/
def Gd (w : World) : Prop := (∃ m : Int, w.cell? ⟨0, 0, none⟩ = some (.int .i64 m)) ∧ Lib.TabIs Tryz.prog w "internal/strconv.uint64pow10" .u64 Lib.pow10Tab
theorem Gd.len {w : World} (h : Gd w) : ∃ m : Int, w.cell? ⟨0, 0, none⟩ = some (.int .i64 m) := h.1
theorem pow_named : Tryz.prog.globalNamed "internal/strconv.uint64pow10" = some 3 := by kernel_rfl
theorem Gd.lt {w : World} (h : Gd w) : 3 < w.heap.size := by
  have h2 := h.2
  unfold Lib.TabIs World.var? at h2
  rw [pow_named, Option.bind_some] at h2
  rcases Nat.lt_or_ge 3 w.heap.size with hl | hl
  · exact hl
  · rw [Array.getElem?_eq_none hl] at h2; cases h2
theorem Gd.below {w w1 : World} (h : Gd w) (hb : Below w.heap.size w w1) : Gd w1 := by
  obtain ⟨m, hm⟩ := h.1
  exact ⟨⟨m, pw_cell_below hb hm⟩, var?_below hb pow_named h.lt h.2⟩
end Go.Proofs.YtdccbpeajpnkjaaGreatDoor.Pr
