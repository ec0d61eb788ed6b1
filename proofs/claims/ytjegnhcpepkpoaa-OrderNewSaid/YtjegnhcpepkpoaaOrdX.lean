/- The document's Drop of what isn't there; does, with a new list of the document's; Last. -/
import Derived.Test.YtjegnhcpepkpoaaOrdY
import Derived.Test.YtjegnhcpepkpoaaOrdP
import Derived.Test.YtjegnhcpepkpoaaOrdD
import Derived.Deep.RegionHeld3
namespace Go.Proofs.Ytjegnhcpepkpoaa
open Go.RowKit

theorem mdrop_no (w : World) (S : Nat → Prop) (M : Nat) (ss aa : List Int) (s : Int) (h : IsM w S M ss aa) (hn : ss.length ≤ 1000) (hno : ¬ firstI ss s < ss.length) :
    Calls Try.prog 17 #[.pointer (some ⟨M, 0, none⟩), .int .i64 s] w fun e w' => e = .returned (.bool false) ∧ Fr (fun _ => False) w w' := by
  have HF := Lib.hid (mat_any w S M ss aa s h (by omega))
  have hm : mAt ss s = -1 := if_neg hno
  rw [hm] at HF
  clear h hm
  go_enter Try.func17, Try.ntmps17
  go_wp2_with fail
  refine HF.out.mono ?_
  rintro e w2 ⟨rfl, f2⟩
  have F2 := Lib.hid f2
  clear f2
  go_wp2_with fail
  go_ret
  exact ⟨rfl, F2.out⟩

/-- The greatest stamp. -/
theorem olast_any (w : World) (S : Nat → Prop) (L : Nat) (ps : List Pr) (h : IsO w S L ps) (hn : ps.length ≤ 1000) :
    Calls Try.prog 13 #[.pointer (some ⟨L, 0, none⟩)] w fun e w' => e = .returned (.int .i64 ((ps.getLast?.map (·.1)).getD 0)) ∧ Fr (fun _ => False) w w' := by
  have HL := Lib.hid (olen_any w S L ps h)
  obtain ⟨v, hb, ho, -, -, -⟩ := h
  have c0 := blk_cell hb 0 rfl
  by_cases h0 : ps.length = 0
  · obtain rfl : ps = [] := List.eq_nil_of_length_eq_zero h0
    obtain ⟨a, cap, rfl, -, -⟩ := own_form ho
    clear hb ho h0
    go_enter Try.func13, Try.ntmps13
    go_wp2_with (go_at_call 9; go_must (refine HL.out.mono ?_); rintro e w2 ⟨rfl, rfl⟩)
    go_ret
    exact ⟨rfl, Fr.refl _ _⟩
  · obtain ⟨g, cap, rfl⟩ := own_some ho (by omega)
    obtain ⟨m, hm⟩ : ∃ m, ps.length = m + 1 := ⟨ps.length - 1, by omega⟩
    have hmi : m < ps.length := by omega
    obtain ⟨p0, -⟩ := own_pair ho rfl hmi
    have HV := Lib.hid (show (ps.getLast?.map (·.1)).getD 0 = ps[m].1 from by
      rw [List.getLast?_eq_getElem?, show ps.length - 1 = m by omega, List.getElem?_eq_getElem hmi]; rfl)
    obtain ⟨x, hx⟩ : ∃ x, ps[m].1 = x := ⟨_, rfl⟩
    rw [hx] at p0 HV
    rw [hm] at c0 HL
    have hmb : m ≤ 1000 := by omega
    have w1 : IntKind.i64.wrap ((m : Int) + 1 - 1) = m := by rw [IntWalk.i64_in _ (by omega)]; omega
    rw [HV.out]
    clear hb ho h0 hx hm hmi
    go_enter Try.func13, Try.ntmps13
    go_wp2_with (go_at_call 9; go_must (refine HL.out.mono ?_); rintro e w2 ⟨rfl, rfl⟩)
    go_region
    all_goals
      go_wp2_with fail
      go_ret
      exact ⟨rfl, by repeat (first | (with_reducible exact Fr.refl _ _) | (with_reducible refine Fr.drew ?_) | (with_reducible refine Fr.drewN ?_ _) | (with_reducible refine Fr.alloc ?_ _) | (with_reducible refine Fr.set1 ?_ _) | (with_reducible refine Fr.setNew ?_ (by omega) _))⟩
end Go.Proofs.Ytjegnhcpepkpoaa
