/- does, with a new list of the document's; what rises stays so. -/
import Derived.Test.YtjegnhcpepkpoaaOrdX
import Derived.Test.YtjegnhcpepkpoaaOrdR
namespace Go.Proofs.Ytjegnhcpepkpoaa
open Go.RowKit

structure OC where
  kind : Int
  stamp : Int
  at_ : Int
def OC.cells (c : OC) : List Value := [.int .i64 c.kind, .int .i64 c.stamp, .int .i64 c.at_]
def OC.run (ps : List Pr) (c : OC) : List Pr := if c.kind = 0 then putL ps c.stamp c.at_ else dropL ps c.stamp
def oruns (ps : List Pr) (cs : List OC) : List Pr := cs.foldl OC.run ps
theorem putL_len (ps : List Pr) (s a : Int) : (putL ps s a).length ≤ ps.length + 1 := by
  have := low_le ps s
  unfold putL
  split <;> simp
  omega
theorem dropL_len (ps : List Pr) (s : Int) : (dropL ps s).length ≤ ps.length := by
  unfold dropL
  split
  · simp; omega
  · exact Nat.le_refl _
theorem orun_len (ps : List Pr) (c : OC) : (c.run ps).length ≤ ps.length + 1 := by
  unfold OC.run
  split
  · exact putL_len _ _ _
  · have := dropL_len ps c.stamp; omega
theorem oruns_len (ps : List Pr) (cs : List OC) : (oruns ps cs).length ≤ ps.length + cs.length := by
  induction cs generalizing ps with
  | nil => simp [oruns]
  | cons c cs ih =>
    have h := ih (c.run ps)
    have h2 := orun_len ps c
    simp only [oruns, List.foldl_cons, List.length_cons] at h ⊢
    omega
theorem oruns_succ {ps : List Pr} {cs : List OC} {k : Nat} (h : k < cs.length) : oruns ps (cs.take (k + 1)) = cs[k].run (oruns ps (cs.take k)) := by
  rw [List.take_succ_eq_append_getElem h, oruns, List.foldl_append]; rfl
theorem ris_drop {ps : List Pr} (h : Ris ps) (s : Int) : Ris (dropL ps s) := by
  unfold dropL
  split
  · refine List.Pairwise.sublist ?_ h
    have e : ps.take (low ps s) ++ ps.drop (low ps s) = ps := List.take_append_drop _ _
    conv => rhs; rw [← e]
    refine List.Sublist.append (List.Sublist.refl _) ?_
    rw [← List.drop_drop]
    exact List.drop_sublist _ _
  · exact h
theorem ris_put {ps : List Pr} (h : Ris ps) (s a : Int) : Ris (putL ps s a) := by
  have hle := low_le ps s
  unfold putL
  split
  · rename_i hc
    obtain ⟨hl, hg⟩ := hc
    rw [List.getElem?_map, List.getElem?_eq_getElem hl] at hg
    simp only [Option.map_some, Option.some.injEq] at hg
    have e : (ps.set (low ps s) (s, a)).map (·.1) = ps.map (·.1) := by
      apply List.ext_getElem (by simp)
      intro j h1 h2
      rw [List.getElem_map, List.getElem_map, List.getElem_set]
      split
      · rename_i hj
        subst hj
        exact hg.symm
      · rfl
    have h1 : (ps.map (·.1)).Pairwise (· < ·) := List.pairwise_map.2 h
    rw [← e] at h1
    exact List.pairwise_map.1 h1
  · rename_i hc
    have e : ps.take (low ps s) ++ ps.drop (low ps s) = ps := List.take_append_drop _ _
    have hp : (ps.take (low ps s) ++ ps.drop (low ps s)).Pairwise (fun p q => p.1 < q.1) := by rw [e]; exact h
    rw [List.pairwise_append] at hp
    obtain ⟨h1, h2, h3⟩ := hp
    have hlt : ∀ p ∈ ps.take (low ps s), p.1 < s := fun p hp => by
      obtain ⟨i, hi, rfl⟩ := List.getElem_of_mem hp
      have hi2 : i < low ps s := by rw [List.length_take] at hi; omega
      rw [List.getElem_take]
      exact low_lo (by omega) hi2
    have hgt : ∀ p ∈ ps.drop (low ps s), s < p.1 := fun p hp => by
      obtain ⟨i, hi, rfl⟩ := List.getElem_of_mem hp
      have hi2 : low ps s + i < ps.length := by rw [List.length_drop] at hi; omega
      rw [List.getElem_drop]
      have h4 := low_hi (s := s) h hi2 (by omega)
      by_cases h5 : low ps s < ps.length
      · have h6 : ps[low ps s].1 ≠ s := fun h7 => hc ⟨h5, by rw [List.getElem?_map, List.getElem?_eq_getElem h5]; simp [h7]⟩
        have h7 := low_hi h h5 (Nat.le_refl _)
        by_cases h8 : i = 0
        · subst h8
          simp only [Nat.add_zero]
          omega
        · have := List.pairwise_iff_getElem.1 h (low ps s) (low ps s + i) h5 hi2 (by omega)
          omega
      · omega
    unfold Ris
    rw [List.pairwise_append]
    refine ⟨h1, List.pairwise_cons.2 ⟨fun q hq => hgt q hq, h2⟩, fun p hp q hq => ?_⟩
    rcases List.mem_cons.1 hq with rfl | hq
    · exact hlt p hp
    · exact h3 p hp q hq
theorem ris_run {ps : List Pr} (h : Ris ps) (c : OC) : Ris (c.run ps) := by
  unfold OC.run
  split
  · exact ris_put h _ _
  · exact ris_drop h _
theorem ris_runs {ps : List Pr} (h : Ris ps) (cs : List OC) : Ris (oruns ps cs) := by
  induction cs generalizing ps with
  | nil => exact h
  | cons c cs ih => exact ih (ris_run h c)

set_option maxRecDepth 4000 in
set_option maxHeartbeats 6400000 in
theorem does_new (w : World) (S T : Nat → Prop) (L M : Nat) (ps : List Pr) (c : OC) (h : IsO w S L ps) (hm : IsM w T M [] []) (hd : ∀ k, S k → ¬ T k) (hn : ps.length ≤ 1000) (hR : Ris ps) :
    Calls Try.prog 8 #[.pointer (some ⟨L, 0, none⟩), .pointer (some ⟨M, 0, none⟩), .agg #[.int .i64 c.kind, .int .i64 c.stamp, .int .i64 c.at_]] w fun e w' => ∃ b, e = .returned (.bool b) ∧ ∃ S', IsO w' S' L (c.run ps) ∧ Fr (fun k => S k ∨ T k) w w' ∧ ∀ k, S' k → S k ∨ w.heap.size ≤ k := by
  have H := Lib.hid h
  have HM := Lib.hid hm
  have HD := Lib.hid hd
  have HR := Lib.hid hR
  have hbc := heap_alloc_new w (.cells #[.int .i64 c.kind, .int .i64 c.stamp, .int .i64 c.at_] 33)
  have Hns := Lib.hid (show ¬ S w.heap.size ∧ ¬ T w.heap.size from ⟨fun h2 => by have := Rw.lt h h2; omega, fun h2 => by have := hm.lt h2; omega⟩)
  have q0 := blk_cell hbc 0 rfl
  have q1 := blk_cell hbc 1 rfl
  have q2 := blk_cell hbc 2 rfl
  have Hbc := Lib.hid hbc
  have FA := Lib.hid ((Fr.refl (fun _ => False) w).alloc (.cells #[.int .i64 c.kind, .int .i64 c.stamp, .int .i64 c.at_] 33))
  clear h hm hd hR hbc
  unfold OC.run
  by_cases k0 : c.kind = 0
  · rw [if_pos k0]
    have k1 : (c.kind == 0) = true := by simpa using k0
    clear k0
    go_enter Try.func8, Try.ntmps8
    go_wp2_with fail
    go_region_held3 (fun w' => w'.cell? ⟨w.heap.size, 1, none⟩ = some (Value.int .i64 c.stamp) ∧ w'.cell? ⟨w.heap.size, 2, none⟩ = some (Value.int .i64 c.at_))
      (first | exact ⟨q1, q2⟩ | go_keep)
      (first
        | (go_at_call 14; go_must (with_reducible refine (put_any _ S L ps c.stamp c.at_ (IsO.fr (S2 := fun _ => False) H.out (FA.out.then_ (S2 := fun _ => False) (by repeat (first | (with_reducible exact Fr.refl _ _) | (with_reducible refine Fr.drew ?_) | (with_reducible refine Fr.drewN ?_ _) | (with_reducible refine Fr.alloc ?_ _) | (with_reducible refine Fr.set1 ?_ _) | (with_reducible refine Fr.setNew ?_ (by omega) _))) (fun _ h => h.elim)) (fun _ _ h => h)) hn HR.out).mono ?_; rintro e w2 ⟨rfl, S2, o2, f2, g2⟩; have O2 := Lib.hid o2; have F2 := Lib.hid (show Fr S w w2 from ((FA.out.mono (fun _ h => h.elim)).drew).then_ f2 (fun k hk => .inl hk)); have G2 := Lib.hid g2; have Hbc2 := Lib.hid (f2.blk (blk_drew Hbc.out) Hns.out.1); have q1 := blk_cell Hbc2.out 1 rfl; have q2 := blk_cell Hbc2.out 2 rfl; clear o2 f2 g2))
        | (go_at_call 16; go_must (with_reducible refine (mput_any _ T M [] [] c.stamp c.at_ (IsM.fr (S2 := S) HM.out F2.out (fun k hk h => absurd hk (HD.out k h))) rfl (by simp)).mono ?_; rintro e w3 ⟨rfl, T3, -, f3, -⟩; have F3 := Lib.hid f3; have q1 := blk_cell (f3.blk Hbc2.out Hns.out.2) 1 rfl; have q2 := blk_cell (f3.blk Hbc2.out Hns.out.2) 2 rfl; clear f3)))
    go_wp2_with fail
    go_ret
    have hsz : ((w.alloc (.cells #[.int .i64 c.kind, .int .i64 c.stamp, .int .i64 c.at_] 33)).drew).heap.size = w.heap.size + 1 := Array.size_push ..
    refine ⟨_, rfl, S2, IsO.fr (S2 := T) O2.out F3.out (fun k hk ht => ?_), (F2.out.mono (fun k hk => .inl hk)).then_ F3.out (fun k hk => .inl (.inr hk)), fun k hk => (G2.out k hk).imp id (fun h => by omega)⟩
    have hlt := HM.out.lt ht
    rcases G2.out k hk with h | h
    · exact HD.out k h ht
    · omega
  · rw [if_neg k0]
    have k1 : (c.kind == 0) = false := by simpa using k0
    clear k0
    go_enter Try.func8, Try.ntmps8
    go_wp2_with fail
    go_region_held3 (fun w' => w'.cell? ⟨w.heap.size, 1, none⟩ = some (Value.int .i64 c.stamp))
      (first | exact q1 | go_keep)
      (first
        | (go_at_call 15; go_must (with_reducible refine (drop_any _ S L ps c.stamp (IsO.fr (S2 := fun _ => False) H.out (FA.out.then_ (S2 := fun _ => False) (by repeat (first | (with_reducible exact Fr.refl _ _) | (with_reducible refine Fr.drew ?_) | (with_reducible refine Fr.drewN ?_ _) | (with_reducible refine Fr.alloc ?_ _) | (with_reducible refine Fr.set1 ?_ _) | (with_reducible refine Fr.setNew ?_ (by omega) _))) (fun _ h => h.elim)) (fun _ _ h => h)) hn HR.out).mono ?_; rintro e w2 ⟨rfl, S2, o2, f2, g2⟩; have O2 := Lib.hid o2; have F2 := Lib.hid (show Fr S w w2 from ((FA.out.mono (fun _ h => h.elim)).drew).then_ f2 (fun k hk => .inl hk)); have G2 := Lib.hid g2; have Hbc2 := Lib.hid (f2.blk (blk_drew Hbc.out) Hns.out.1); have q1 := blk_cell Hbc2.out 1 rfl; have q2 := blk_cell Hbc2.out 2 rfl; clear o2 f2 g2))
        | (go_at_call 17; go_must (with_reducible refine (mdrop_no _ T M [] [] c.stamp (IsM.fr (S2 := S) HM.out F2.out (fun k hk h => absurd hk (HD.out k h))) (by simp) (by simp)).mono ?_; rintro e w3 ⟨rfl, f3'⟩; have f3 : Fr T w2 w3 := f3'.mono (fun _ h => h.elim); have F3 := Lib.hid f3; have q1 := blk_cell (f3.blk Hbc2.out Hns.out.2) 1 rfl; have q2 := blk_cell (f3.blk Hbc2.out Hns.out.2) 2 rfl; clear f3 f3')))
    go_wp2_with fail
    go_ret
    have hsz : ((w.alloc (.cells #[.int .i64 c.kind, .int .i64 c.stamp, .int .i64 c.at_] 33)).drew).heap.size = w.heap.size + 1 := Array.size_push ..
    refine ⟨_, rfl, S2, IsO.fr (S2 := T) O2.out F3.out (fun k hk ht => ?_), (F2.out.mono (fun k hk => .inl hk)).then_ F3.out (fun k hk => .inl (.inr hk)), fun k hk => (G2.out k hk).imp id (fun h => by omega)⟩
    have hlt := HM.out.lt ht
    rcases G2.out k hk with h | h
    · exact HD.out k h ht
    · omega
end Go.Proofs.Ytjegnhcpepkpoaa
