/- Package undo: Set. -/
import Derived.Test.YtlfbgndaojcgdaaUndoA
import Derived.Deep.RegionLaw
import Derived.Deep.DeepMust
import Derived.Deep.CutBlock
namespace Go.Proofs.Ytlfbgndaojcgdaa
open Go.RowKit

theorem gro_lt {w w' : World} {S : Nat → Prop} (h : ∀ k, S k → k < w'.heap.size) : ∀ k, Gro S w w' k → k < w'.heap.size := fun k hk => hk.elim (h k) (fun h => h.2)
/-- A list with another thing at a place, if there is such a place. -/
def setI (xs : List Int) (i x : Int) : List Int := if 0 ≤ i ∧ i < xs.length then xs.set i.toNat x else xs
set_option maxHeartbeats 1600000 in
theorem set_log (w : World) (S G : Nat → Prop) (L g : Nat) (xs : List Int) (es : List Ent) (i x : Int) (h : St w S G L g xs es) (hn : xs.length < 1000000) (he : es.length < 1000000) :
    Calls Try.prog 12 #[.pointer (some ⟨L, 0, none⟩), .int .i64 i, .int .i64 x] w fun r w' => r = .returned (.bool (decide (0 ≤ i ∧ i < xs.length))) ∧ ∃ S' G' new, St w' S' G' L g (setI xs i x) (new ++ es) ∧ new.length ≤ 1 ∧ new.foldl (fun l e => e.undo l) (setI xs i x) = xs ∧ Fr (fun k => S k ∨ G k) w w' ∧ (∀ k, S' k ∨ G' k → S k ∨ G k ∨ w.heap.size ≤ k) ∧ ∀ e ∈ new, ∀ k, e.has k → w.heap.size ≤ k := by
  have H := Lib.hid h
  have hIsL := h.l
  have hmf : ∀ (fn : Fn) (first cap : Array Value) (w : World), (Instr.makeFunc fn first cap).run Try.prog w = .ok (.func fn first cap) w := fun _ _ _ _ => rfl
  have HA := Lib.hid (show ∀ W, IsL W S L (some g) xs → Calls Try.prog 28 #[.pointer (some ⟨L, 0, none⟩), .int .i64 i] W fun e w' => e = .returned (if 0 ≤ i ∧ i < xs.length then .tuple #[.int .i64 (xs.getD i.toNat 0), .bool true] else .tuple #[.int .i64 0, .bool false]) ∧ w' = W from fun W h => at_any W S L (some g) xs i h (by omega))
  by_cases hok : 0 ≤ i ∧ i < (xs.length : Int)
  rotate_left
  · have HA2 := Lib.hid (show ∀ W, IsL W S L (some g) xs → Calls Try.prog 28 #[.pointer (some ⟨L, 0, none⟩), .int .i64 i] W fun e w' => e = .returned (.tuple #[.int .i64 0, .bool false]) ∧ w' = W from fun W h => by have q := HA.out W h; rw [if_neg hok] at q; exact q)
    have HS := Lib.hid (show setI xs i x = xs from if_neg hok)
    have HD := Lib.hid (show decide (0 ≤ i ∧ i < (xs.length : Int)) = false from decide_eq_false hok)
    rw [HD.out, HS.out]
    clear hIsL hok
    go_enter Try.func12, Try.ntmps12
    go_wp2_with (go_at_call 28; go_must (refine (HA2.out _ (Rw.fr (S2 := fun _ => False) H.out.l (by repeat (first | (with_reducible exact Fr.refl _ _) | (with_reducible refine Fr.drew ?_) | (with_reducible refine Fr.drewN ?_ _) | (with_reducible refine Fr.alloc ?_ _) | (with_reducible refine Fr.set1 ?_ _) | (with_reducible refine Fr.setNew ?_ (by omega) _))) (fun _ _ h => h))).mono ?_); rintro e w2 ⟨rfl, rfl⟩)
    go_ret
    exact ⟨rfl, S, G, [], St.fr (S2 := fun _ => False) H.out (by repeat (first | (with_reducible exact Fr.refl _ _) | (with_reducible refine Fr.drew ?_) | (with_reducible refine Fr.drewN ?_ _) | (with_reducible refine Fr.alloc ?_ _) | (with_reducible refine Fr.set1 ?_ _) | (with_reducible refine Fr.setNew ?_ (by omega) _))) (fun _ _ h => h), by simp, rfl, by repeat (first | (with_reducible exact Fr.refl _ _) | (with_reducible refine Fr.drew ?_) | (with_reducible refine Fr.drewN ?_ _) | (with_reducible refine Fr.alloc ?_ _) | (with_reducible refine Fr.set1 ?_ _) | (with_reducible refine Fr.setNew ?_ (by omega) _)), fun k hk => hk.elim .inl (fun h => .inr (.inl h)), fun _ h => nomatch h⟩
  obtain ⟨k, rfl⟩ : ∃ k : Nat, i = k := ⟨i.toNat, by omega⟩
  have hk : k < xs.length := by omega
  obtain ⟨old, hold⟩ : ∃ old, xs.getD k 0 = old := ⟨_, rfl⟩
  have HA2 := Lib.hid (show ∀ W, IsL W S L (some g) xs → Calls Try.prog 28 #[.pointer (some ⟨L, 0, none⟩), .int .i64 k] W fun e w' => e = .returned (.tuple #[.int .i64 old, .bool true]) ∧ w' = W from fun W h => by have q := HA.out W h; rw [if_pos hok, show ((k : Int).toNat) = k from rfl, hold] at q; exact q)
  have HS := Lib.hid (show setI xs k x = xs.set k x from by rw [setI, if_pos hok]; simp)
  have HD := Lib.hid (show decide (0 ≤ (k : Int) ∧ (k : Int) < (xs.length : Int)) = true from decide_eq_true hok)
  have Hold := Lib.hid (show (xs.set k x).set k old = xs from by rw [← hold]; simp [List.getD, List.getElem?_eq_getElem hk])
  rw [HD.out, HS.out]
  clear hok hold
  obtain ⟨v, hb, ho, hS, hSv, hl⟩ := hIsL
  obtain ⟨gr, cap, rfl⟩ := own_some ho (by omega)
  have hLlt := blk_lt hb
  have hb3 := blk_alloc (blk_alloc (blk_alloc hb (.cells #[.pointer (some ⟨L, 0, none⟩)] 28)) (.cells #[.int .i64 (k : Int)] 3)) (.cells #[.int .i64 old] 3)
  have ho3 : (((w.alloc (.cells #[.pointer (some ⟨L, 0, none⟩)] 28)).alloc (.cells #[.int .i64 (k : Int)] 3)).alloc (.cells #[.int .i64 old] 3)).ownsRow 0 3 1 _ _ _ := ((ho.alloc _).alloc _).alloc _
  have hl3 : ∀ m, S m → m < (((w.alloc (.cells #[.pointer (some ⟨L, 0, none⟩)] 28)).alloc (.cells #[.int .i64 (k : Int)] 3)).alloc (.cells #[.int .i64 old] 3)).heap.size := fun m hm => by have := hl m hm; simp; omega
  have b0 := blk_alloc (blk_alloc (heap_alloc_new w (.cells #[.pointer (some ⟨L, 0, none⟩)] 28)) (.cells #[.int .i64 (k : Int)] 3)) (.cells #[.int .i64 old] 3)
  have e1 : (w.alloc (.cells #[.pointer (some ⟨L, 0, none⟩)] 28)).heap.size = w.heap.size + 1 := Array.size_push ..
  have e2 : ((w.alloc (.cells #[.pointer (some ⟨L, 0, none⟩)] 28)).alloc (.cells #[.int .i64 (k : Int)] 3)).heap.size = w.heap.size + 2 := by rw [show ((w.alloc (.cells #[.pointer (some ⟨L, 0, none⟩)] 28)).alloc (.cells #[.int .i64 (k : Int)] 3)).heap.size = (w.alloc (.cells #[.pointer (some ⟨L, 0, none⟩)] 28)).heap.size + 1 from Array.size_push .., e1]
  have b1 : (((w.alloc (.cells #[.pointer (some ⟨L, 0, none⟩)] 28)).alloc (.cells #[.int .i64 (k : Int)] 3)).alloc (.cells #[.int .i64 old] 3)).heap[w.heap.size + 1]? = some (.cells #[.int .i64 (k : Int)] 3) := blk_alloc (by have h := heap_alloc_new (w.alloc (.cells #[.pointer (some ⟨L, 0, none⟩)] 28)) (.cells #[.int .i64 (k : Int)] 3); rwa [e1] at h) _
  have b2 : (((w.alloc (.cells #[.pointer (some ⟨L, 0, none⟩)] 28)).alloc (.cells #[.int .i64 (k : Int)] 3)).alloc (.cells #[.int .i64 old] 3)).heap[w.heap.size + 2]? = some (.cells #[.int .i64 old] 3) := by have h := heap_alloc_new ((w.alloc (.cells #[.pointer (some ⟨L, 0, none⟩)] 28)).alloc (.cells #[.int .i64 (k : Int)] 3)) (.cells #[.int .i64 old] 3); rwa [e2] at h
  have HP := Lib.hid (rw_put (j := k) (u := .int .i64 x) hb3 ho3 hS hSv hl3)
  have Hlen := Lib.hid (show (ints xs).set k (.int .i64 x) = ints (xs.set k x) from by simp [ints, List.map_set])
  have Hl2 := Lib.hid (show (xs.set k x).length = xs.length from List.length_set)
  have hge := Lib.hid (show ∀ k, w.heap.size ≤ k → ¬ S k from fun k h1 hk => by have := hl k hk; omega)
  have c0 := blk_cell hb3 0 rfl
  have ca : (((w.alloc (.cells #[.pointer (some ⟨L, 0, none⟩)] 28)).alloc (.cells #[.int .i64 (k : Int)] 3)).alloc (.cells #[.int .i64 old] 3)).cell? ⟨gr, k, none⟩ = some (.int .i64 xs[k]) := by rw [ho3.cellAt k (by omega)]; simp [ints, hk]
  have fa := ho3.frozenAt k
  have c1 := blk_cell b0 0 rfl
  have c2 := blk_cell b1 0 rfl
  have B0 := Lib.hid b0
  have B1 := Lib.hid b1
  have B2 := Lib.hid b2
  clear hb ho hS hSv hl hb3 ho3 hl3 b0 b1 b2 e1 e2
  go_enter Try.func12, Try.ntmps12
  go_upto_region 4 with (go_at_call 28; go_must (refine (HA2.out _ (Rw.fr (S2 := fun _ => False) H.out.l (by repeat (first | (with_reducible exact Fr.refl _ _) | (with_reducible refine Fr.drew ?_) | (with_reducible refine Fr.drewN ?_ _) | (with_reducible refine Fr.alloc ?_ _) | (with_reducible refine Fr.set1 ?_ _) | (with_reducible refine Fr.setNew ?_ (by omega) _))) (fun _ _ h => h))).mono ?_); rintro e w2 ⟨rfl, rfl⟩)
  go_cut [] from 10 (fun w' => IsL w' S L (some g) (xs.set k x) ∧ Fr S (((w.alloc (.cells #[.pointer (some ⟨L, 0, none⟩)] 28)).alloc (.cells #[.int .i64 (k : Int)] 3)).alloc (.cells #[.int .i64 old] 3)) w' ∧ w'.heap[w.heap.size]? = some (.cells #[.pointer (some ⟨L, 0, none⟩)] 28) ∧ w'.heap[w.heap.size + 1]? = some (.cells #[.int .i64 (k : Int)] 3) ∧ w'.heap[w.heap.size + 2]? = some (.cells #[.int .i64 old] 3))
  case first =>
    go_region
    all_goals
      go_wp2_with fail
      go_meet
      exact ⟨by have h := HP.out.1; unfold IsL; rw [Hl2.out, ← Hlen.out]; exact h, by first | exact HP.out.2 | exact HP.out.2.drew, HP.out.2.blk B0.out (hge.out _ (by omega)), HP.out.2.blk B1.out (hge.out _ (by omega)), HP.out.2.blk B2.out (hge.out _ (by omega))⟩
  case rest =>
  obtain ⟨l2, f2, b0, b1, b2⟩ := hcut
  have c1 := blk_cell b0 0 rfl
  have L2 := Lib.hid l2
  have F2 := Lib.hid f2
  have c0 : ∃ v, wc.cell? ⟨L, 0, none⟩ = some v := by
    obtain ⟨v, hb, -, -, -, -⟩ := l2
    exact ⟨v, blk_cell hb 0 rfl⟩
  have hlog : wc.cell? ⟨L, 1, none⟩ = some (.pointer ((some g).map fun g => ⟨g, 0, none⟩)) := by
    obtain ⟨v, hb, -, -, -, -⟩ := l2
    exact blk_cell hb 1 rfl
  simp only [Option.map_some] at hlog
  have Hw1 := Lib.hid (show Fr (fun _ => False) w (((w.alloc (.cells #[.pointer (some ⟨L, 0, none⟩)] 28)).alloc (.cells #[.int .i64 (k : Int)] 3)).alloc (.cells #[.int .i64 old] 3)) from (((Fr.refl _ w).alloc _).alloc _).alloc _)
  have G2 := Lib.hid (show IsG wc G g es from Rw.fr (Rw.alloc (Rw.alloc (Rw.alloc H.out.g _) _) _) f2 (fun k hk hs => H.out.dis k hs hk))
  have HE := Lib.hid (show Ent.at_ wc L (.put (w.heap.size + 2) w.heap.size (w.heap.size + 1) k old) from ⟨b2, b0, b1⟩)
  have L3 := Lib.hid (show IsL wc (Gro S (((w.alloc (.cells #[.pointer (some ⟨L, 0, none⟩)] 28)).alloc (.cells #[.int .i64 (k : Int)] 3)).alloc (.cells #[.int .i64 old] 3)) wc) L (some g) (xs.set k x) from Rw.mono l2 (fun m hm => .inl hm) (gro_lt (fun m hm => Rw.lt l2 hm)))
  clear l2 f2 b0 b1 b2 B0 B1 B2
  go_wp2_with (go_at_call 29; go_must (refine (keep_any _ G g es (.put (w.heap.size + 2) w.heap.size (w.heap.size + 1) k old) G2.out (by omega)).mono ?_); rintro e w3 ⟨rfl, g3, f3⟩; have HF := Lib.hid (st_step H.out Hw1.out L3.out F2.out HE.out (by intro m hm; rcases hm with rfl | rfl | rfl <;> simp <;> omega) (by simp only [Ent.undo]; exact Hold.out) (by simp [Ent.fits]; exact hk) g3 f3); clear g3 f3)
  go_ret
  exact ⟨rfl, _, _, [_], HF.out.1, by simp, by simp only [List.foldl, Ent.undo]; exact Hold.out, HF.out.2.1, HF.out.2.2.1, fun e he => by obtain rfl := List.mem_singleton.1 he; exact HF.out.2.2.2⟩
set_option maxHeartbeats 1600000 in
theorem set_free (w : World) (S : Nat → Prop) (L : Nat) (xs : List Int) (i x : Int) (h : IsL w S L none xs) (hn : xs.length < 1000000) :
    Calls Try.prog 12 #[.pointer (some ⟨L, 0, none⟩), .int .i64 i, .int .i64 x] w fun r w' => r = .returned (.bool (decide (0 ≤ i ∧ i < xs.length))) ∧ ∃ S', IsL w' S' L none (setI xs i x) ∧ Fr S w w' ∧ ∀ k, S' k → S k ∨ w.heap.size ≤ k := by
  have H := Lib.hid h
  have hIsL := h
  have hmf : ∀ (fn : Fn) (first cap : Array Value) (w : World), (Instr.makeFunc fn first cap).run Try.prog w = .ok (.func fn first cap) w := fun _ _ _ _ => rfl
  have HA := Lib.hid (show ∀ W, IsL W S L none xs → Calls Try.prog 28 #[.pointer (some ⟨L, 0, none⟩), .int .i64 i] W fun e w' => e = .returned (if 0 ≤ i ∧ i < xs.length then .tuple #[.int .i64 (xs.getD i.toNat 0), .bool true] else .tuple #[.int .i64 0, .bool false]) ∧ w' = W from fun W h => at_any W S L none xs i h (by omega))
  by_cases hok : 0 ≤ i ∧ i < (xs.length : Int)
  rotate_left
  · have HA2 := Lib.hid (show ∀ W, IsL W S L none xs → Calls Try.prog 28 #[.pointer (some ⟨L, 0, none⟩), .int .i64 i] W fun e w' => e = .returned (.tuple #[.int .i64 0, .bool false]) ∧ w' = W from fun W h => by have q := HA.out W h; rw [if_neg hok] at q; exact q)
    have HS := Lib.hid (show setI xs i x = xs from if_neg hok)
    have HD := Lib.hid (show decide (0 ≤ i ∧ i < (xs.length : Int)) = false from decide_eq_false hok)
    rw [HD.out, HS.out]
    clear hIsL hok
    go_enter Try.func12, Try.ntmps12
    go_wp2_with (go_at_call 28; go_must (refine (HA2.out _ (Rw.fr (S2 := fun _ => False) H.out (by repeat (first | (with_reducible exact Fr.refl _ _) | (with_reducible refine Fr.drew ?_) | (with_reducible refine Fr.drewN ?_ _) | (with_reducible refine Fr.alloc ?_ _) | (with_reducible refine Fr.set1 ?_ _) | (with_reducible refine Fr.setNew ?_ (by omega) _))) (fun _ _ h => h))).mono ?_); rintro e w2 ⟨rfl, rfl⟩)
    go_ret
    exact ⟨rfl, S, Rw.fr (S2 := fun _ => False) H.out (by repeat (first | (with_reducible exact Fr.refl _ _) | (with_reducible refine Fr.drew ?_) | (with_reducible refine Fr.drewN ?_ _) | (with_reducible refine Fr.alloc ?_ _) | (with_reducible refine Fr.set1 ?_ _) | (with_reducible refine Fr.setNew ?_ (by omega) _))) (fun _ _ h => h), by repeat (first | (with_reducible exact Fr.refl _ _) | (with_reducible refine Fr.drew ?_) | (with_reducible refine Fr.drewN ?_ _) | (with_reducible refine Fr.alloc ?_ _) | (with_reducible refine Fr.set1 ?_ _) | (with_reducible refine Fr.setNew ?_ (by omega) _)), fun k hk => .inl hk⟩
  obtain ⟨k, rfl⟩ : ∃ k : Nat, i = k := ⟨i.toNat, by omega⟩
  have hk : k < xs.length := by omega
  obtain ⟨old, hold⟩ : ∃ old, xs.getD k 0 = old := ⟨_, rfl⟩
  have HA2 := Lib.hid (show ∀ W, IsL W S L none xs → Calls Try.prog 28 #[.pointer (some ⟨L, 0, none⟩), .int .i64 k] W fun e w' => e = .returned (.tuple #[.int .i64 old, .bool true]) ∧ w' = W from fun W h => by have q := HA.out W h; rw [if_pos hok, show ((k : Int).toNat) = k from rfl, hold] at q; exact q)
  have HS := Lib.hid (show setI xs k x = xs.set k x from by rw [setI, if_pos hok]; simp)
  have HD := Lib.hid (show decide (0 ≤ (k : Int) ∧ (k : Int) < (xs.length : Int)) = true from decide_eq_true hok)
  have Hold := Lib.hid (show (xs.set k x).set k old = xs from by rw [← hold]; simp [List.getD, List.getElem?_eq_getElem hk])
  rw [HD.out, HS.out]
  clear hok hold
  obtain ⟨v, hb, ho, hS, hSv, hl⟩ := hIsL
  obtain ⟨gr, cap, rfl⟩ := own_some ho (by omega)
  have hLlt := blk_lt hb
  have hb3 := blk_alloc (blk_alloc (blk_alloc hb (.cells #[.pointer (some ⟨L, 0, none⟩)] 28)) (.cells #[.int .i64 (k : Int)] 3)) (.cells #[.int .i64 old] 3)
  have ho3 : (((w.alloc (.cells #[.pointer (some ⟨L, 0, none⟩)] 28)).alloc (.cells #[.int .i64 (k : Int)] 3)).alloc (.cells #[.int .i64 old] 3)).ownsRow 0 3 1 _ _ _ := ((ho.alloc _).alloc _).alloc _
  have hl3 : ∀ m, S m → m < (((w.alloc (.cells #[.pointer (some ⟨L, 0, none⟩)] 28)).alloc (.cells #[.int .i64 (k : Int)] 3)).alloc (.cells #[.int .i64 old] 3)).heap.size := fun m hm => by have := hl m hm; simp; omega
  have b0 := blk_alloc (blk_alloc (heap_alloc_new w (.cells #[.pointer (some ⟨L, 0, none⟩)] 28)) (.cells #[.int .i64 (k : Int)] 3)) (.cells #[.int .i64 old] 3)
  have e1 : (w.alloc (.cells #[.pointer (some ⟨L, 0, none⟩)] 28)).heap.size = w.heap.size + 1 := Array.size_push ..
  have e2 : ((w.alloc (.cells #[.pointer (some ⟨L, 0, none⟩)] 28)).alloc (.cells #[.int .i64 (k : Int)] 3)).heap.size = w.heap.size + 2 := by rw [show ((w.alloc (.cells #[.pointer (some ⟨L, 0, none⟩)] 28)).alloc (.cells #[.int .i64 (k : Int)] 3)).heap.size = (w.alloc (.cells #[.pointer (some ⟨L, 0, none⟩)] 28)).heap.size + 1 from Array.size_push .., e1]
  have b1 : (((w.alloc (.cells #[.pointer (some ⟨L, 0, none⟩)] 28)).alloc (.cells #[.int .i64 (k : Int)] 3)).alloc (.cells #[.int .i64 old] 3)).heap[w.heap.size + 1]? = some (.cells #[.int .i64 (k : Int)] 3) := blk_alloc (by have h := heap_alloc_new (w.alloc (.cells #[.pointer (some ⟨L, 0, none⟩)] 28)) (.cells #[.int .i64 (k : Int)] 3); rwa [e1] at h) _
  have b2 : (((w.alloc (.cells #[.pointer (some ⟨L, 0, none⟩)] 28)).alloc (.cells #[.int .i64 (k : Int)] 3)).alloc (.cells #[.int .i64 old] 3)).heap[w.heap.size + 2]? = some (.cells #[.int .i64 old] 3) := by have h := heap_alloc_new ((w.alloc (.cells #[.pointer (some ⟨L, 0, none⟩)] 28)).alloc (.cells #[.int .i64 (k : Int)] 3)) (.cells #[.int .i64 old] 3); rwa [e2] at h
  have HP := Lib.hid (rw_put (j := k) (u := .int .i64 x) hb3 ho3 hS hSv hl3)
  have Hlen := Lib.hid (show (ints xs).set k (.int .i64 x) = ints (xs.set k x) from by simp [ints, List.map_set])
  have Hl2 := Lib.hid (show (xs.set k x).length = xs.length from List.length_set)
  have hge := Lib.hid (show ∀ k, w.heap.size ≤ k → ¬ S k from fun k h1 hk => by have := hl k hk; omega)
  have c0 := blk_cell hb3 0 rfl
  have ca : (((w.alloc (.cells #[.pointer (some ⟨L, 0, none⟩)] 28)).alloc (.cells #[.int .i64 (k : Int)] 3)).alloc (.cells #[.int .i64 old] 3)).cell? ⟨gr, k, none⟩ = some (.int .i64 xs[k]) := by rw [ho3.cellAt k (by omega)]; simp [ints, hk]
  have fa := ho3.frozenAt k
  have c1 := blk_cell b0 0 rfl
  have c2 := blk_cell b1 0 rfl
  have B0 := Lib.hid b0
  have B1 := Lib.hid b1
  have B2 := Lib.hid b2
  clear hb ho hS hSv hl hb3 ho3 hl3 b0 b1 b2 e1 e2
  go_enter Try.func12, Try.ntmps12
  go_upto_region 4 with (go_at_call 28; go_must (refine (HA2.out _ (Rw.fr (S2 := fun _ => False) H.out (by repeat (first | (with_reducible exact Fr.refl _ _) | (with_reducible refine Fr.drew ?_) | (with_reducible refine Fr.drewN ?_ _) | (with_reducible refine Fr.alloc ?_ _) | (with_reducible refine Fr.set1 ?_ _) | (with_reducible refine Fr.setNew ?_ (by omega) _))) (fun _ _ h => h))).mono ?_); rintro e w2 ⟨rfl, rfl⟩)
  go_cut [] from 10 (fun w' => IsL w' S L none (xs.set k x) ∧ Fr S (((w.alloc (.cells #[.pointer (some ⟨L, 0, none⟩)] 28)).alloc (.cells #[.int .i64 (k : Int)] 3)).alloc (.cells #[.int .i64 old] 3)) w' ∧ w'.heap[w.heap.size]? = some (.cells #[.pointer (some ⟨L, 0, none⟩)] 28) ∧ w'.heap[w.heap.size + 1]? = some (.cells #[.int .i64 (k : Int)] 3) ∧ w'.heap[w.heap.size + 2]? = some (.cells #[.int .i64 old] 3))
  case first =>
    go_region
    all_goals
      go_wp2_with fail
      go_meet
      exact ⟨by have h := HP.out.1; unfold IsL; rw [Hl2.out, ← Hlen.out]; exact h, by first | exact HP.out.2 | exact HP.out.2.drew, HP.out.2.blk B0.out (hge.out _ (by omega)), HP.out.2.blk B1.out (hge.out _ (by omega)), HP.out.2.blk B2.out (hge.out _ (by omega))⟩
  case rest =>
  obtain ⟨l2, f2, b0, b1, b2⟩ := hcut
  have c1 := blk_cell b0 0 rfl
  have L2 := Lib.hid l2
  have F2 := Lib.hid f2
  have c0 : ∃ v, wc.cell? ⟨L, 0, none⟩ = some v := by
    obtain ⟨v, hb, -, -, -, -⟩ := l2
    exact ⟨v, blk_cell hb 0 rfl⟩
  have hlog : wc.cell? ⟨L, 1, none⟩ = some (.pointer (none.map fun g => ⟨g, 0, none⟩)) := by
    obtain ⟨v, hb, -, -, -, -⟩ := l2
    exact blk_cell hb 1 rfl
  simp only [Option.map_none] at hlog
  have Hw1 := Lib.hid (show Fr (fun _ => False) w (((w.alloc (.cells #[.pointer (some ⟨L, 0, none⟩)] 28)).alloc (.cells #[.int .i64 (k : Int)] 3)).alloc (.cells #[.int .i64 old] 3)) from (((Fr.refl _ w).alloc _).alloc _).alloc _)
  clear l2 f2 b0 b1 b2 B0 B1 B2
  go_wp2_with (go_at_call 29; go_must (refine (keep_nil _ _).mono ?_); rintro e w3 ⟨rfl, rfl⟩)
  go_ret
  exact ⟨rfl, _, L2.out, (Hw1.out.mono (fun _ h => h.elim)).then_ F2.out (fun k hk => .inl hk), fun k hk => .inl hk⟩
end Go.Proofs.Ytlfbgndaojcgdaa
