/- The greatest number's text. -/
import Derived.Test.YtiabpnhkihbkjaaDoorShow
import Derived.Test.YtiabpnhkihbkjaaDoorNm
namespace Go.Proofs.YtiabpnhkihbkjaaDoor
open Go.RowKit
theorem heap_new1 (w : World) (o o2 : Obj) : ((w.alloc o).alloc o2).heap[w.heap.size + 1]? = some o2 := by
  have h := heap_alloc_new (w.alloc o) o2
  have e : (w.alloc o).heap.size = w.heap.size + 1 := Array.size_push ..
  rwa [e] at h
theorem most_text : (strOfNums mostL).toList = [51, 52, 48, 50, 56, 50, 51, 54, 54, 57, 50, 48, 57, 51, 56, 52, 54, 51, 52, 54, 51, 51, 55, 52, 54, 48, 55, 52, 51, 49, 55, 54, 56, 50, 49, 49, 52, 53, 53] := by
  rw [ByteArray.toList_eq]; rfl
theorem show_id {x : Nm} (h : x.ok) : ((strOfNums (showL (x.lo + 18446744073709551616 * x.hi))).toList == [51, 52, 48, 50, 56, 50, 51, 54, 54, 57, 50, 48, 57, 51, 56, 52, 54, 51, 52, 54, 51, 51, 55, 52, 54, 48, 55, 52, 51, 49, 55, 54, 56, 50, 49, 49, 52, 53, 53]) = x.most := by
  have := h.hi0; have := h.hi1; have := h.lo0; have := h.lo1
  rw [← most_text, show_most (by omega) (by omega), Nm.most, M64]
  rw [Bool.eq_iff_iff]
  simp only [beq_iff_eq, Bool.and_eq_true]
  omega

end Go.Proofs.YtiabpnhkihbkjaaDoor
