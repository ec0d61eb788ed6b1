/- Walks of tape.Reader. -/
import Derived.Test.YtfmcimngogibkaaWideB
import Derived.Lib.ConvBytes
set_option linter.unusedSimpArgs false
set_option linter.unusedVariables false
namespace Go.Proofs.Ytfmcimngogibkaa
open Go.RowKit

/-- A reader at block g has bytes l left; t: torn. -/
def IsR (w : World) (g : Nat) (l : List Int) (t : Bool) : Prop := w.heap[g]? = some (.cells #[.string (strOfNums l), .bool t] 98 (0, 0))


theorem strOf_take (l : List Int) (n : Nat) : (strOfNums l).extract 0 n = strOfNums (l.take n) := by
  apply ByteArray.ext
  simp [strOfNums, ByteArray.data_extract, List.map_take]
theorem strOf_drop (l : List Int) (n : Nat) : (strOfNums l).extract n l.length = strOfNums (l.drop n) := by
  apply ByteArray.ext
  apply Array.ext'
  simp only [strOfNums, ByteArray.data_extract, List.extract_toArray, List.map_drop, List.extract_eq_take_drop]
  rw [List.take_of_length_le (by simp)]
theorem strOf_toList (l : List Int) : (strOfNums l).toList.isEmpty = l.isEmpty := by
  rw [ByteArray.toList_eq]
  cases l <;> rfl

theorem rTorn_any (w : World) (g : Nat) (l : List Int) (t : Bool) (h : IsR w g l t) :
    Calls Try.prog 59 #[.pointer (some ⟨g, 0, none⟩)] w fun e w' => e = .returned (.bool t) ∧ w' = w := by
  have c0 := blk_cell h 0 rfl
  have c1 := blk_cell h 1 rfl
  clear h
  go_enter Try.func59, Try.ntmps59
  go_wp2
  go_ret
  exact ⟨rfl, rfl⟩
theorem rTorn_nil (w : World) :
    Calls Try.prog 59 #[.pointer none] w fun e w' => e = .returned (.bool false) ∧ w' = w := by
  go_enter Try.func59, Try.ntmps59
  go_wp2
  go_ret
  exact ⟨rfl, rfl⟩

theorem rEnd_any (w : World) (g : Nat) (l : List Int) (t : Bool) (h : IsR w g l t) :
    Calls Try.prog 45 #[.pointer (some ⟨g, 0, none⟩)] w fun e w' => e = .returned (.bool (!t && l.isEmpty)) ∧ w' = w := by
  have c0 := blk_cell h 0 rfl
  have c1 := blk_cell h 1 rfl
  have hs := strOf_toList l
  clear h
  cases t
  all_goals
    go_enter Try.func45, Try.ntmps45
    go_wp2
    go_ret
    first | exact ⟨rfl, rfl⟩ | exact ⟨by simp, rfl⟩
theorem rEnd_nil (w : World) :
    Calls Try.prog 45 #[.pointer none] w fun e w' => e = .returned (.bool false) ∧ w' = w := by
  go_enter Try.func45, Try.ntmps45
  go_wp2
  go_ret
  exact ⟨rfl, rfl⟩

theorem rRaw_nil (w : World) (n : Int) :
    Calls Try.prog 58 #[.pointer none, .int .i64 n] w fun e w' => e = .returned (.string (strOfNums [])) ∧ w' = w := by
  go_enter Try.func58, Try.ntmps58
  go_wp2
  go_ret
  exact ⟨rfl, rfl⟩

/-- Whether so many bytes aren't there. -/
def lacks (l : List Int) (t : Bool) (n : Int) : Bool := t || decide (n < 0) || decide ((l.length : Int) < n)

theorem rRaw_no (w : World) (g : Nat) (l : List Int) (t : Bool) (n : Int) (h : IsR w g l t) (hn : t = true ∨ n < 0 ∨ (l.length : Int) < n) :
    Calls Try.prog 58 #[.pointer (some ⟨g, 0, none⟩), .int .i64 n] w fun e w' => e = .returned (.string (strOfNums [])) ∧ IsR w' g l true ∧ Fr (fun k => k = g) w w' := by
  have c0 := blk_cell h 0 rfl
  have c1 := blk_cell h 1 rfl
  have f0 := blk_free h 0
  have f1 := blk_free h 1
  have hs := strOfNums_size l
  have H := Lib.hid h
  clear h
  have fin : ∀ w' b, b = true → w' = w.setCell ⟨g, 1, none⟩ (.bool b) → IsR w' g l true ∧ Fr (fun k => k = g) w w' := by
    rintro w' b rfl rfl
    exact ⟨blk_set H.out 1 _, (Fr.refl _ w).set1 _⟩
  have F := Lib.hid fin
  clear fin
  cases t
  · by_cases h0 : n < 0
    · go_enter Try.func58, Try.ntmps58
      go_wp2
      go_ret
      exact ⟨rfl, F.out _ _ (by simp [*]) rfl⟩
    · have h1 : (l.length : Int) < n := by simpa [h0] using hn
      go_enter Try.func58, Try.ntmps58
      go_wp2
      go_ret
      exact ⟨rfl, F.out _ _ (by simp [*]) rfl⟩
  · clear hn
    go_enter Try.func58, Try.ntmps58
    go_wp2
    go_ret
    exact ⟨rfl, F.out _ _ (by simp [*]) rfl⟩

theorem rRaw_yes (w : World) (g : Nat) (l : List Int) (n : Nat) (h : IsR w g l false) (hn : n ≤ l.length) :
    Calls Try.prog 58 #[.pointer (some ⟨g, 0, none⟩), .int .i64 n] w fun e w' => e = .returned (.string (strOfNums (l.take n))) ∧ IsR w' g (l.drop n) false ∧ Fr (fun k => k = g) w w' := by
  have c0 := blk_cell h 0 rfl
  have c1 := blk_cell h 1 rfl
  have f0 := blk_free h 0
  have f1 := blk_free h 1
  have hs := strOfNums_size l
  have H := Lib.hid h
  clear h
  go_enter Try.func58, Try.ntmps58
  go_wp2
  go_ret
  rw [strOf_take, strOf_drop]
  have e : decide ((n : Int) < 0) = false := by simp
  rw [e]
  exact ⟨rfl, blk_set (blk_set H.out 1 _) 0 _, ((Fr.refl _ w).set1 _).set1 _⟩

end Go.Proofs.Ytfmcimngogibkaa
