/- The document's Range on what the list holds. -/
import Derived.Test.YtjegnhcpepkpoaaOrdJ
import Derived.Test.YtjegnhcpepkpoaaOrdK
namespace Go.Proofs.Ytjegnhcpepkpoaa
open Go.RowKit

theorem last_rev (ps : List Pr) : (ps.getLast?.map (·.1)).getD 0 = if h : 0 < ps.length then (ps.reverse.map (·.1))[0]'(by simpa using h) else 0 := by
  by_cases h : 0 < ps.length
  · rw [dif_pos h, List.getElem_map, List.getElem_reverse, List.getLast?_eq_getElem?, List.getElem?_eq_getElem (by omega)]
    simp
  · obtain rfl : ps = [] := List.eq_nil_of_length_eq_zero (by omega)
    simp
theorem bound_len {ps : List Pr} {ss aa : List Int} (hB : Both ps ss aa) (hR : Ris ps) (a b : Int) : (rangeL ps a b).length ≤ ss.length := by rw [← hB.len hR]; exact range_len a b
/-- The document's Range on what the list holds. -/
theorem mrange_up (w : World) (T : Nat → Prop) (M : Nat) (ps : List Pr) (ss aa : List Int) (a b : Int) (h : IsM w T M ss aa) (hB : Both ps ss aa) (hR : Ris ps) (hn : ps.length ≤ 1000) :
    Calls Try.prog 10 #[.pointer (some ⟨M, 0, none⟩), .int .i64 a, .int .i64 b, .bool false] w fun e w' => ∃ v1 v2, e = .returned (.tuple #[v1, v2]) ∧
      w'.ownsRow 0 3 1 v1 (rangeL ps a b).length (ints ((rangeL ps a b).map (·.1))) ∧ w'.ownsRow 0 3 1 v2 (rangeL ps a b).length (ints ((rangeL ps a b).map (·.2))) ∧ Fr (fun _ => False) w w' :=
  mrange_any w T M ss aa a b false _ h hB.1 (by rw [← hB.len hR]; exact hn) hB.2.1 (ris_bef (range_ris hR a b)) (fun p => by rw [range_mem hR, hB.2.2 p]) (bound_len hB hR a b)
theorem mrange_dn (w : World) (T : Nat → Prop) (M : Nat) (ps : List Pr) (ss aa : List Int) (a b : Int) (h : IsM w T M ss aa) (hB : Both ps ss aa) (hR : Ris ps) (hn : ps.length ≤ 1000) :
    Calls Try.prog 10 #[.pointer (some ⟨M, 0, none⟩), .int .i64 a, .int .i64 b, .bool true] w fun e w' => ∃ v1 v2, e = .returned (.tuple #[v1, v2]) ∧
      w'.ownsRow 0 3 1 v1 (rangeL ps a b).length (ints ((rangeL ps a b).reverse.map (·.1))) ∧ w'.ownsRow 0 3 1 v2 (rangeL ps a b).length (ints ((rangeL ps a b).reverse.map (·.2))) ∧ Fr (fun _ => False) w w' := by
  have h := mrange_any w T M ss aa a b true (rangeL ps a b).reverse h hB.1 (by rw [← hB.len hR]; exact hn) hB.2.1 (ris_bef_rev (range_ris hR a b)) (fun p => by rw [List.mem_reverse, range_mem hR, hB.2.2 p]) (by rw [List.length_reverse]; exact bound_len hB hR a b)
  rw [List.length_reverse] at h
  exact h

end Go.Proofs.Ytjegnhcpepkpoaa
