/- The listed package variables hold their data (the two errors of strconv, the table of powers of ten); this stays so in whatever a call leaves that writes nothing old. -/
import Derived.Lib.LaidTab
import Derived.WalkSmall
import Derived.Shelf.Strconv.Itoa4
import Derived.Test.YtngcojabofkbjaaDoorPx0
namespace Go.Proofs.YtngcojabofkbjaaDoor.P
open Go.RowKit Go.Proofs.YtngcojabofkbjaaDoorW.PrintWords Go.Proofs.YtngcojabofkbjaaDoorW.PrintLast Go.Proofs.YtngcojabofkbjaaDoorW.PrintMore
attribute [local go_sem] max2_int min2_int max_two min_two max_three min_three max_four min_four   -- for this text's walks alone
set_option linter.unusedVariables false
set_option linter.unusedSimpArgs false

structure GInv (w : World) : Prop where
  syn : ∃ te pe, w.cell? ⟨1, 0, none⟩ = some (.iface te pe)
  rng : ∃ te pe, w.cell? ⟨2, 0, none⟩ = some (.iface te pe)
  tab : Lib.TabIs Tryd.prog w "internal/strconv.uint64pow10" .u64 Lib.pow10Tab
  low : 0 < w.heap.size
theorem pow10_named : Tryd.prog.globalNamed "internal/strconv.uint64pow10" = some 0 := by kernel_rfl
theorem GInv.below {w W : World} (h : GInv w) (hb : Below w.heap.size w W) : GInv W := by
  obtain ⟨⟨te, pe, h1⟩, ⟨te2, pe2, h2⟩, h3, h4⟩ := h
  exact ⟨⟨te, pe, pw_cell_below hb h1⟩, ⟨te2, pe2, pw_cell_below hb h2⟩, var?_below hb pow10_named h4 h3, Nat.lt_of_lt_of_le h4 hb.size⟩

end Go.Proofs.YtngcojabofkbjaaDoor.P
