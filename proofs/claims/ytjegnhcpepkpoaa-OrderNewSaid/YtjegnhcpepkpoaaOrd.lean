/- Package order: a list of pairs; find. -/
import Derived.Test.YtjegnhcpepkpoaaRw
import Derived.Test.YtjegnhcpepkpoaaRow
import Derived.Test.YtjegnhcpepkpoaaBaseS
import Derived.BigQuiet
import Derived.Lib.Hide
import Derived.Deep.DeepMust
import Derived.Deep.CutBlock
import Derived.Deep.RegionLaw
import Derived.KernelRfl
import Derived.Test.YtjegnhcpepkpoaaProg
namespace Go.Proofs.Ytjegnhcpepkpoaa
open Go.RowKit

abbrev Pr := Int × Int
def Pr.cells (p : Pr) : List Value := [.int .i64 p.1, .int .i64 p.2]
def prs (ps : List Pr) : List Value := ps.flatMap Pr.cells
theorem prs_len (ps : List Pr) : (prs ps).length = ps.length * 2 := flat_len (f := Pr.cells) (n := 2) (fun _ => rfl) ps
theorem prs_get (ps : List Pr) {i : Nat} (hi : i < ps.length) (j : Nat) (hj : j < 2) : (prs ps)[i * 2 + j]? = (Pr.cells ps[i])[j]? := flat_get (f := Pr.cells) (n := 2) (fun _ => rfl) ps i hi j hj
/-- A list of stamps. -/
def IsO (w : World) (S : Nat → Prop) (L : Nat) (ps : List Pr) : Prop := Rw w S L 27 44 2 [] ps.length (prs ps)
theorem IsO.fr {w w' : World} {S S2 : Nat → Prop} {L : Nat} {ps : List Pr} (h : IsO w S L ps) (hf : Fr S2 w w') (hd : ∀ k, S k → ¬ S2 k) : IsO w' S L ps := Rw.fr h hf hd
theorem own_pair {w : World} {g n cap : Nat} {ps : List Pr} (h : w.ownsRow 0 44 2 (.slice (some ⟨g, 0, none⟩) n cap) n (prs ps)) (hn : ps.length = n) {i : Nat} (hi : i < ps.length) :
    w.cell? ⟨g, i * 2, none⟩ = some (.int .i64 ps[i].1) ∧ w.cell? ⟨g, i * 2 + 1, none⟩ = some (.int .i64 ps[i].2) := by
  have e0 := prs_get ps hi 0 (by omega)
  have e1 := prs_get ps hi 1 (by omega)
  rw [Nat.add_zero] at e0
  exact ⟨(h.cellAt (i * 2) (by omega)).trans e0, (h.cellAt (i * 2 + 1) (by omega)).trans e1⟩

theorem olen_any (w : World) (S : Nat → Prop) (L : Nat) (ps : List Pr) (h : IsO w S L ps) :
    Calls Try.prog 9 #[.pointer (some ⟨L, 0, none⟩)] w fun e w' => e = .returned (.int .i64 ps.length) ∧ w' = w := by
  obtain ⟨v, hb, ho, -, -, -⟩ := h
  obtain ⟨a, cap, rfl, -, -⟩ := own_form ho
  have c0 := blk_cell hb 0 rfl
  clear hb ho
  go_enter Try.func9, Try.ntmps9
  go_wp2
  go_ret
  exact ⟨rfl, rfl⟩

set_option maxHeartbeats 1600000 in
/-- find's closure. -/
theorem less_any (w : World) (bl bs L i : Nat) (S : Nat → Prop) (ps : List Pr) (s : Int) (hbl : w.heap[bl]? = some (.cells #[.pointer (some ⟨L, 0, none⟩)] 24 (0, 0))) (hbs : w.heap[bs]? = some (.cells #[.int .i64 s] 3 (0, 0))) (h : IsO w S L ps) (hi : i < ps.length) (hn : ps.length ≤ 1000000) :
    Calls Try.prog 21 #[.int .i64 i, .pointer (some ⟨bl, 0, none⟩), .pointer (some ⟨bs, 0, none⟩)] w fun e w' => e = .returned (.bool (decide (s ≤ ps[i].1))) ∧ Fr (fun _ => False) w w' := by
  obtain ⟨v, hb, ho, -, -, -⟩ := h
  obtain ⟨g, cap, rfl⟩ := own_some ho (by omega)
  have c0 := blk_cell hb 0 rfl
  have cl := blk_cell hbl 0 rfl
  have cs := blk_cell hbs 0 rfl
  obtain ⟨p0, -⟩ := own_pair ho rfl hi
  obtain ⟨x, hx⟩ : ∃ x, ps[i].1 = x := ⟨_, rfl⟩
  rw [hx] at p0 ⊢
  have hi2 : (i : Int) < ps.length := by omega
  clear hb ho hbl hbs hx
  go_enter Try.func21, Try.ntmps21
  go_wp2_with fail
  go_region
  all_goals
    go_wp2_with fail
    go_ret
    exact ⟨rfl, by repeat (first | (with_reducible exact Fr.refl _ _) | (with_reducible refine Fr.drew ?_) | (with_reducible refine Fr.drewN ?_ _) | (with_reducible refine Fr.alloc ?_ _) | (with_reducible refine Fr.set1 ?_ _) | (with_reducible refine Fr.setNew ?_ (by omega) _))⟩
end Go.Proofs.Ytjegnhcpepkpoaa
