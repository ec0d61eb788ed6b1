/- The load of a whole struct out of a block that is known whole, as an equation. -/
import Derived.WalkKit
import Derived.Laws.Rows
import Derived.Deep.MidRow
set_option linter.unusedSimpArgs false
set_option linter.unusedVariables false
namespace Go.Proofs.YtjchjpmgbmeohaaDoor
open Go.RowKit

/-- The same as an equation, for a world at hand: a text that lays 'attribute [-go_sem] loadCells' walks a load by it, in a region that draws too (as a limb of S). -/
theorem ld_row {P : Program} {W : World} (g : Nat) (cs : Array Value) {t : TypeId} {fr : Nat × Nat} {n : Nat} (hn : cs.size = n) (h : W.heap[g]? = some (.cells cs t fr)) : (loadCells ⟨g, 0, none⟩ n).run P W = .ok cs W := by
  have hl := run_loadCells_list (P := P) W ⟨g, 0, none⟩ cs.toList (fun j v hv => by
    have hadd : (⟨g, 0, none⟩ : Addr).add j = ⟨g, j, none⟩ := by unfold Addr.add; split <;> simp_all
    rw [hadd, cell_of_row W g j cs _ _ h]
    simpa using hv)
  rw [Array.length_toList, hn] at hl
  simpa using hl
end Go.Proofs.YtjchjpmgbmeohaaDoor
