/- Several texts in one, for the law BooksFull: Qa, RowSet, Qb, Qc, Qd, Qe, Qf, Qg, Due. Each says what it shows; conditions: what each theorem names. -/
import Derived.Test.YtjchjpmgbmeohaaDoorMf5
import Derived.Test.YtjchjpmgbmeohaaDoorMf4
import Derived.Test.YtjchjpmgbmeohaaDoorMf1
import Derived.Test.YtjchjpmgbmeohaaDoorMf6
import Derived.Deep.RegionHeld3
import Derived.Deep.QuietTactic
/- Package queue, plain: heaps. No program in sight. -/
set_option linter.unusedSimpArgs false
set_option linter.unusedVariables false
namespace Go.Proofs.YtjchjpmgbmeohaaDoor
open Go.RowKit

theorem bf_asym {a b : Itm} (h : a.before b) : ¬ b.before a := by unfold Itm.before at *; omega
/-- not ahead, in a row. -/
theorem nb_trans {a b c : Itm} (h1 : ¬ a.before b) (h2 : ¬ b.before c) : ¬ a.before c := by unfold Itm.before at *; omega
def Heap (hp : List Itm) : Prop := ∀ (k : Nat) (x y : Itm), 0 < k → hp[k]? = some x → hp[(k - 1) / 2]? = some y → ¬ x.before y
/-- A heap, but for the one at i, which may be ahead of the one above it. -/
structure HeapUp (hp : List Itm) (i : Nat) : Prop where
  a : ∀ (k : Nat) (x y : Itm), 0 < k → k ≠ i → hp[k]? = some x → hp[(k - 1) / 2]? = some y → ¬ x.before y
  b : ∀ (k : Nat) (x y : Itm), 0 < k → 0 < i → (k - 1) / 2 = i → hp[k]? = some x → hp[(i - 1) / 2]? = some y → ¬ x.before y
def swp (hp : List Itm) (i j : Nat) (x y : Itm) : List Itm := (hp.set i y).set j x
section
variable {hp : List Itm} {i j m : Nat} {x y : Itm}
theorem swp_len : (swp hp i j x y).length = hp.length := by simp [swp]
theorem swp_get (hi : hp[i]? = some x) (hj : hp[j]? = some y) (k : Nat) : (swp hp i j x y)[k]? = if k = j then some x else if k = i then some y else hp[k]? := by
  have h1 := (List.getElem?_eq_some_iff.1 hi).1
  have h2 := (List.getElem?_eq_some_iff.1 hj).1
  unfold swp
  rw [List.getElem?_set, List.getElem?_set, List.length_set]
  by_cases e : j = k
  · subst e; rw [if_pos rfl, if_pos h2, if_pos rfl]
  · rw [if_neg e, if_neg (show ¬ k = j from fun h => e h.symm)]
    by_cases e2 : i = k
    · subst e2; rw [if_pos rfl, if_pos h1, if_pos rfl]
    · rw [if_neg e2, if_neg (show ¬ k = i from fun h => e2 h.symm)]
theorem swp_perm (hi : hp[i]? = some x) (hj : hp[j]? = some y) : (swp hp i j x y).Perm hp := by
  obtain ⟨h1, rfl⟩ := List.getElem?_eq_some_iff.1 hi
  obtain ⟨h2, rfl⟩ := List.getElem?_eq_some_iff.1 hj
  exact List.set_set_perm h1 h2
theorem up_stop (h : HeapUp hp i) (hs : i = 0 ∨ ∀ x y, hp[i]? = some x → hp[(i - 1) / 2]? = some y → ¬ x.before y) : Heap hp := fun k x y h0 hx hy => by
  by_cases e : k = i
  · subst e
    rcases hs with rfl | hs
    · omega
    · exact hs x y hx hy
  · exact h.a k x y h0 e hx hy
theorem up_step (h : HeapUp hp i) (h0 : 0 < i) (hi : hp[i]? = some x) (hj : hp[(i - 1) / 2]? = some y) (hb : x.before y) : HeapUp (swp hp i ((i - 1) / 2) x y) ((i - 1) / 2) := by
  have hg := swp_get hi hj
  have hlt : (i - 1) / 2 < i := by omega
  refine ⟨fun k u v hk hne hu hv => ?_, fun k u v hk hp0 hpk hu hv => ?_⟩
  · rw [hg] at hu hv
    rw [if_neg hne] at hu
    by_cases e1 : k = i
    · subst e1
      rw [if_pos rfl] at hu
      rw [if_pos rfl] at hv
      cases hu; cases hv
      exact bf_asym hb
    · rw [if_neg e1] at hu
      by_cases e2 : (k - 1) / 2 = (i - 1) / 2
      · rw [if_pos e2] at hv
        cases hv
        exact nb_trans (h.a k u y hk e1 hu (by rw [e2]; exact hj)) (bf_asym hb)
      · rw [if_neg e2] at hv
        by_cases e3 : (k - 1) / 2 = i
        · rw [if_pos e3] at hv
          cases hv
          exact h.b k u y hk h0 e3 hu hj
        · rw [if_neg e3] at hv
          exact h.a k u v hk e1 hu hv
  · rw [hg] at hu hv
    rw [if_neg (by omega), if_neg (by omega)] at hv
    have hpp : ¬ y.before v := h.a ((i - 1) / 2) y v hp0 (by omega) hj hv
    by_cases e1 : k = i
    · subst e1
      rw [if_neg (by omega), if_pos rfl] at hu
      cases hu
      exact hpp
    · rw [if_neg (by omega), if_neg e1] at hu
      exact nb_trans (h.a k u y hk e1 hu (by rw [hpk]; exact hj)) hpp
/-- A heap, but for the one that goes down from i, which is at j. -/
structure HeapDn (hp : List Itm) (i j : Nat) : Prop where
  ij : i ≤ j
  a : ∀ (k : Nat) (x y : Itm), 0 < k → k ≠ i → (k - 1) / 2 ≠ j → hp[k]? = some x → hp[(k - 1) / 2]? = some y → ¬ x.before y
  b : ∀ (k : Nat) (x y : Itm), 0 < k → 0 < j → (k - 1) / 2 = j → hp[k]? = some x → hp[(j - 1) / 2]? = some y → ¬ x.before y
  c : j = i ∨ ∀ (x y : Itm), 0 < i → hp[i]? = some x → hp[(i - 1) / 2]? = some y → ¬ x.before y
theorem dn_stop (h : HeapDn hp i j) (hs : ∀ (k : Nat) (x y : Itm), 0 < k → (k - 1) / 2 = j → hp[k]? = some x → hp[j]? = some y → ¬ x.before y) : HeapUp hp i := by
  have ha : ∀ (k : Nat) (x y : Itm), 0 < k → k ≠ i → hp[k]? = some x → hp[(k - 1) / 2]? = some y → ¬ x.before y := fun k x y hk hne hx hy => by
    by_cases e : (k - 1) / 2 = j
    · exact hs k x y hk e hx (by rw [← e]; exact hy)
    · exact h.a k x y hk hne e hx hy
  refine ⟨ha, fun k x y hk hi0 hki hx hy => ?_⟩
  rcases h.c with rfl | hc
  · exact h.b k x y hk hi0 hki hx hy
  · have hkl := (List.getElem?_eq_some_iff.1 hx).1
    obtain ⟨z, hz⟩ : ∃ z, hp[i]? = some z := ⟨hp[i]'(by omega), List.getElem?_eq_getElem (by omega)⟩
    exact nb_trans (ha k x z hk (by omega) hx (by rw [hki]; exact hz)) (hc z y hi0 hz hy)
theorem dn_step (h : HeapDn hp i j) (hm0 : 0 < m) (hmj : (m - 1) / 2 = j) (hj : hp[j]? = some x) (hm : hp[m]? = some y) (hb : y.before x) (ho : ∀ (k : Nat) (z : Itm), 0 < k → (k - 1) / 2 = j → hp[k]? = some z → ¬ z.before y) : HeapDn (swp hp j m x y) i m := by
  have hg := swp_get hj hm
  have hij := h.ij
  refine ⟨by omega, fun k u v hk hki hkm hu hv => ?_, fun k u v hk _ hkm hu hv => ?_, .inr fun u v hi0 hu hv => ?_⟩
  · rw [hg] at hu hv
    rw [if_neg hkm] at hv
    by_cases e1 : k = m
    · subst e1
      rw [if_pos rfl] at hu
      rw [if_pos hmj] at hv
      cases hu; cases hv
      exact bf_asym hb
    · rw [if_neg e1] at hu
      by_cases e2 : k = j
      · subst e2
        rw [if_pos rfl] at hu
        rw [if_neg (by omega)] at hv
        cases hu
        exact h.b m y v hm0 hk hmj hm hv
      · rw [if_neg e2] at hu
        by_cases e3 : (k - 1) / 2 = j
        · rw [if_pos e3] at hv
          cases hv
          exact ho k u hk e3 hu
        · rw [if_neg e3] at hv
          exact h.a k u v hk hki e3 hu hv
  · rw [hg] at hu hv
    rw [if_neg (by omega), if_neg (by omega)] at hu
    rw [if_neg (by omega), if_pos hmj] at hv
    cases hv
    exact h.a k u y hk (by omega) (by omega) hu (by rw [hkm]; exact hm)
  · rw [hg] at hu hv
    rw [if_neg (by omega)] at hu
    rw [if_neg (by omega), if_neg (by omega)] at hv
    by_cases e : i = j
    · rw [if_pos e] at hu
      cases hu
      subst e
      exact h.b m y v hm0 hi0 hmj hm hv
    · rw [if_neg e] at hu
      rcases h.c with hc | hc
      · exact absurd hc.symm e
      · exact hc u v hi0 hu hv
theorem heap_first (h : Heap hp) (h0 : hp[0]? = some x) : ∀ (k : Nat) (u : Itm), hp[k]? = some u → ¬ u.before x := by
  intro k
  induction k using Nat.strongRecOn with
  | ind k ih =>
    intro u hu
    by_cases e : k = 0
    · subst e
      rw [h0] at hu
      cases hu
      unfold Itm.before
      omega
    · have hkl := (List.getElem?_eq_some_iff.1 hu).1
      obtain ⟨z, hz⟩ : ∃ z, hp[(k - 1) / 2]? = some z := ⟨hp[(k - 1) / 2]'(by omega), List.getElem?_eq_getElem (by omega)⟩
      exact nb_trans (h k u z (by omega) hu hz) (ih _ (by omega) z hz)
/-- What goes leaves its place to the last one. -/
def fillL (hp : List Itm) (i : Nat) (z : Itm) : List Itm := (hp.set i z).take (hp.length - 1)
theorem fill_get {z : Itm} (hi : i < hp.length - 1) (k : Nat) : (fillL hp i z)[k]? = if k < hp.length - 1 then (if k = i then some z else hp[k]?) else none := by
  rw [fillL, List.getElem?_take]
  split
  · rw [List.getElem?_set]
    by_cases e : i = k
    · subst e; rw [if_pos rfl, if_pos (by omega), if_pos rfl]
    · rw [if_neg e, if_neg (fun h => e h.symm)]
  · rfl
theorem fill_dn {z : Itm} (h : Heap hp) (hi : i < hp.length - 1) : HeapDn (fillL hp i z) i i := by
  have hg := fill_get (z := z) hi
  have old : ∀ (k : Nat) (u : Itm), k ≠ i → (fillL hp i z)[k]? = some u → hp[k]? = some u := fun k u hk hu => by
    rw [hg] at hu
    split at hu
    · first | exact hu | (rw [if_neg hk] at hu; exact hu)
    · cases hu
  refine ⟨Nat.le_refl _, fun k u v hk hki hkp hu hv => h k u v hk (old k u hki hu) (old _ v hkp hv), fun k u v hk hi0 hki hu hv => ?_, .inl rfl⟩
  have hu' := old k u (by omega) hu
  have hv' := old _ v (by omega) hv
  have hil : i < hp.length := by omega
  exact nb_trans (h k u hp[i] hk hu' (by rw [hki]; exact List.getElem?_eq_getElem hil)) (h i hp[i] v hi0 (List.getElem?_eq_getElem hil) hv')
theorem fill_perm {z : Itm} (hi : hp[i]? = some x) (hl : hp[hp.length - 1]? = some z) : (x :: fillL hp i z).Perm hp := by
  have hil := (List.getElem?_eq_some_iff.1 hi).1
  have hsw := swp_perm hi hl
  refine List.Perm.trans ?_ hsw
  have e : swp hp i (hp.length - 1) x z = fillL hp i z ++ [x] := by
    apply List.ext_getElem?
    intro k
    rw [swp_get hi hl, List.getElem?_append]
    have hfl : (fillL hp i z).length = hp.length - 1 := by simp [fillL]
    rw [hfl]
    by_cases h1 : k < hp.length - 1
    · rw [if_neg (by omega), if_pos h1, fillL, List.getElem?_take, if_pos h1, List.getElem?_set]
      by_cases e2 : i = k
      · subst e2; rw [if_pos rfl, if_pos rfl, if_pos hil]
      · rw [if_neg (fun h => e2 h.symm), if_neg e2]
    · rw [if_neg h1]
      by_cases e2 : k = hp.length - 1
      · rw [if_pos e2, e2, Nat.sub_self]; rfl
      · rw [if_neg e2, if_neg (by omega), List.getElem?_eq_none (by omega), List.getElem?_eq_none (by simp; omega)]
  rw [e]
  exact (List.perm_append_comm (l₁ := fillL hp i z) (l₂ := [x])).symm
end
/-! What a function tells of a heap. -/
section
variable {hp hq : List Itm} {f : Int → Option Itm} {x : Itm}
theorem QRel.put (h : QRel hp f) (hh : Heap hq) (hq' : hq.Perm (x :: hp)) (hn : f x.stamp = none) : QRel hq (upd f x.stamp (some x)) := by
  refine ⟨hh, ?_, fun s y => ?_⟩
  · have := (hq'.map (·.stamp)).nodup_iff
    rw [this, List.map_cons, List.nodup_cons]
    refine ⟨fun hm => ?_, h.nd⟩
    obtain ⟨y, hy, hs⟩ := List.mem_map.1 hm
    rw [(h.iff x.stamp y).2 ⟨hy, hs⟩] at hn
    cases hn
  · rw [hq'.mem_iff, List.mem_cons]
    by_cases e : s = x.stamp
    · subst e
      rw [upd_self]
      constructor
      · rintro ⟨⟩; exact ⟨.inl rfl, rfl⟩
      · rintro ⟨rfl | hy, hs⟩
        · rfl
        · rw [(h.iff x.stamp y).2 ⟨hy, hs⟩] at hn; cases hn
    · rw [upd_ne _ _ e, h.iff]
      exact ⟨fun ⟨h1, h2⟩ => ⟨.inr h1, h2⟩, fun ⟨h1, h2⟩ => ⟨h1.elim (fun h => absurd (by rw [← h2, h]) e) id, h2⟩⟩
theorem QRel.drop (h : QRel hp f) (hh : Heap hq) (hq' : (x :: hq).Perm hp) : QRel hq (upd f x.stamp none) := by
  have hnd : ((x :: hq).map (·.stamp)).Nodup := (hq'.map (·.stamp)).nodup_iff.2 h.nd
  rw [List.map_cons, List.nodup_cons] at hnd
  refine ⟨hh, hnd.2, fun s y => ?_⟩
  by_cases e : s = x.stamp
  · subst e
    rw [upd_self]
    exact ⟨fun h => (by cases h), fun ⟨h1, h2⟩ => (hnd.1 (List.mem_map.2 ⟨y, h1, h2⟩)).elim⟩
  · rw [upd_ne _ _ e, h.iff, ← hq'.mem_iff, List.mem_cons]
    exact ⟨fun ⟨h1, h2⟩ => ⟨h1.elim (fun h => absurd (by rw [← h2, h]) e) id, h2⟩, fun ⟨h1, h2⟩ => ⟨.inr h1, h2⟩⟩
end
end Go.Proofs.YtjchjpmgbmeohaaDoor

/- A thing of several cells is stored whole in an owned row. No program in sight. -/
set_option linter.unusedSimpArgs false
set_option linter.unusedVariables false
namespace Go.Proofs.YtjchjpmgbmeohaaDoor
open Go.RowKit

theorem setL_mid : ∀ (us A B C : List Value), B.length = us.length → setL (A ++ B ++ C) A.length us = A ++ us ++ C
  | [], A, B, C, h => by
    obtain rfl : B = [] := List.eq_nil_of_length_eq_zero h
    rfl
  | u :: us, A, [], C, h => by cases h
  | u :: us, A, b :: B, C, h => by
    have e : (A ++ b :: B ++ C).set A.length u = (A ++ [u]) ++ B ++ C := by simp
    have hl : A.length + 1 = (A ++ [u]).length := by simp
    rw [setL, e, hl, setL_mid us (A ++ [u]) B C (by simpa using h)]
    simp
theorem flat_set {α : Type} {f : α → List Value} {n : Nat} (hf : ∀ x, (f x).length = n) (l : List α) {p : Nat} (hp : p < l.length) (d : α) : setL (l.flatMap f) (p * n) (f d) = (l.set p d).flatMap f := by
  have e1 : l = l.take p ++ l[p] :: l.drop (p + 1) := by rw [← List.drop_eq_getElem_cons hp, List.take_append_drop]
  have e2 : l.flatMap f = (l.take p).flatMap f ++ f l[p] ++ (l.drop (p + 1)).flatMap f := by
    conv => lhs; rw [e1]
    rw [List.flatMap_append, List.flatMap_cons, List.append_assoc]
  have e3 : p * n = ((l.take p).flatMap f).length := by rw [flat_len hf, List.length_take, Nat.min_eq_left (Nat.le_of_lt hp)]
  rw [e2, e3, setL_mid _ _ _ _ (by rw [hf, hf]), List.set_eq_take_append_cons_drop, if_pos hp, List.flatMap_append, List.flatMap_cons, List.append_assoc]
theorem own_flat {α : Type} {f : α → List Value} {sz : Nat} (hf : ∀ x, (f x).length = sz) {w : World} {et : TypeId} {n g cap p : Nat} {l : List α} (ho : w.ownsRow 0 et sz (.slice (some ⟨g, 0, none⟩) n cap) n (l.flatMap f)) (hp : p < l.length) (d : α) :
    (w.setCells g (p * sz) (f d)).ownsRow 0 et sz (.slice (some ⟨g, 0, none⟩) n cap) n ((l.set p d).flatMap f) := by
  have h := own_setCells (w := w) (vs := l.flatMap f) (f d) (p * sz) w (l.flatMap f) ho
  rwa [flat_set hf l hp d] at h
theorem there_flat {α : Type} {f : α → List Value} {sz : Nat} (hf : ∀ x, (f x).length = sz) {w : World} {et : TypeId} {n g cap p : Nat} {l : List α} (ho : w.ownsRow 0 et sz (.slice (some ⟨g, 0, none⟩) n cap) n (l.flatMap f)) (hl : l.length = n) (hp : p < l.length) : w.there g (p * sz) sz := fun j hj => by
  have hlt : p * sz + j < n * sz := by
    have : (p + 1) * sz ≤ n * sz := Nat.mul_le_mul_right _ (by omega)
    rw [Nat.succ_mul] at this
    omega
  refine ⟨?_, ho.frozenAt _⟩
  rw [ho.cellAt (p * sz + j) hlt, flat_get hf l p hp j hj, List.getElem?_eq_getElem (by rw [hf]; exact hj)]
  rfl
/-- .. of a block's first place; of any place. -/
theorem rw_store {α : Type} {f : α → List Value} {sz : Nat} (hf : ∀ x, (f x).length = sz) {w : World} {S : Nat → Prop} {b g cap p n : Nat} {T et : TypeId} {rest : List Value} {l : List α} (hb : w.heap[b]? = some (.cells (Value.slice (some ⟨g, 0, none⟩) n cap :: rest).toArray T (0, 0)))
    (h : Rw w S b T et sz rest n (l.flatMap f)) (hp : p < l.length) (d : α) : Rw (w.setCells g (p * sz) (f d)) S b T et sz rest n ((l.set p d).flatMap f) ∧ Fr S w (w.setCells g (p * sz) (f d)) := by
  obtain ⟨v, hb2, ho, hS, hSv, hl⟩ := h
  rw [hb] at hb2
  obtain rfl : Value.slice (some ⟨g, 0, none⟩) n cap = v := by simpa using hb2
  have hg := hSv g rfl
  have hfr := setCells_fr g (f d) (p * sz) w
  exact ⟨⟨_, hfr.blk hb (fun h => hg.2 h.symm), own_flat hf ho hp d, hS, hSv, fun k hk => by rw [setCells_size]; exact hl k hk⟩, hfr.mono (fun k hk => by rw [hk]; exact hg.1)⟩
theorem rq_store {α : Type} {f : α → List Value} {sz : Nat} (hf : ∀ x, (f x).length = sz) {w : World} {S : Nat → Prop} {j0 : Nat} {L : Bq j0} {g cap p n : Nat} {T et : TypeId} {l : List α} (hb : w.heap[L.b]? = some (.cells (L.row (Value.slice (some ⟨g, 0, none⟩) n cap)) T (0, 0)))
    (ho : w.ownsRow 0 et sz (.slice (some ⟨g, 0, none⟩) n cap) n (l.flatMap f)) (hS : S L.b) (hSv : ∀ k, (Value.slice (some ⟨g, 0, none⟩) n cap).ownBlock = some k → S k ∧ k ≠ L.b) (hl : ∀ k, S k → k < w.heap.size) (hp : p < l.length) (d : α) :
    (Rq (w.setCells g (p * sz) (f d)) S L T et sz n ((l.set p d).flatMap f) ∧ (w.setCells g (p * sz) (f d)).heap[L.b]? = some (.cells (L.row (Value.slice (some ⟨g, 0, none⟩) n cap)) T (0, 0))) ∧ Fr S w (w.setCells g (p * sz) (f d)) := by
  have hg := hSv g rfl
  have hfr := setCells_fr g (f d) (p * sz) w
  have hb' := hfr.blk hb (fun h => hg.2 h.symm)
  exact ⟨⟨⟨_, hb', own_flat hf ho hp d, hS, hSv, fun k hk => by rw [setCells_size]; exact hl k hk⟩, hb'⟩, hfr.mono (fun k hk => by rw [hk]; exact hg.1)⟩
end Go.Proofs.YtjchjpmgbmeohaaDoor

/- Package queue, at place 6 of the books' state: before, up. -/
set_option linter.unusedSimpArgs false
set_option linter.unusedVariables false
namespace Go.Proofs.YtjchjpmgbmeohaaDoor
open Go.RowKit

instance (a b : Itm) : Decidable (a.before b) := by unfold Itm.before; infer_instance
set_option maxHeartbeats 1600000 in
theorem before_any (w : World) (a b : Itm) : Calls Tryd.prog 109 #[.agg #[.int .i64 a.due, .int .i64 a.stamp, .int .u64 a.id.hi, .int .u64 a.id.lo], .agg #[.int .i64 b.due, .int .i64 b.stamp, .int .u64 b.id.hi, .int .u64 b.id.lo]] w fun e w' => e = .returned (.bool (decide (a.before b))) ∧ Fr (fun _ => False) w w' := by
  have hsz : (w.alloc (.cells #[.int .i64 a.due, .int .i64 a.stamp, .int .u64 a.id.hi, .int .u64 a.id.lo] 113)).heap.size = w.heap.size + 1 := by simp
  by_cases h1 : a.due < b.due
  · have hv := Lib.hid (show decide (a.before b) = true from decide_eq_true (.inl h1))
    go_enter Tryd.func109, Tryd.ntmps109
    go_wp2_with fail
    go_ret
    exact ⟨by rw [hv.out]; rfl, by repeat (first | (with_reducible exact Fr.refl _ _) | (with_reducible refine Fr.drew ?_) | (with_reducible refine Fr.drewN ?_ _) | (with_reducible refine Fr.alloc ?_ _) | (with_reducible refine Fr.set1 ?_ _) | (with_reducible refine Fr.setNew ?_ (by omega) _))⟩
  by_cases h2 : a.due = b.due
  · by_cases h3 : a.stamp < b.stamp
    · have hv := Lib.hid (show decide (a.before b) = true from decide_eq_true (.inr ⟨h2, h3⟩))
      have h4 : (a.due == b.due) = true := by simpa using h2
      clear h2
      go_enter Tryd.func109, Tryd.ntmps109
      go_wp2_with fail
      go_ret
      exact ⟨by rw [hv.out]; rfl, by repeat (first | (with_reducible exact Fr.refl _ _) | (with_reducible refine Fr.drew ?_) | (with_reducible refine Fr.drewN ?_ _) | (with_reducible refine Fr.alloc ?_ _) | (with_reducible refine Fr.set1 ?_ _) | (with_reducible refine Fr.setNew ?_ (by omega) _))⟩
    · have hv := Lib.hid (show decide (a.before b) = false from decide_eq_false (by unfold Itm.before; omega))
      have h4 : (a.due == b.due) = true := by simpa using h2
      clear h2
      go_enter Tryd.func109, Tryd.ntmps109
      go_wp2_with fail
      go_ret
      exact ⟨by rw [hv.out]; rfl, by repeat (first | (with_reducible exact Fr.refl _ _) | (with_reducible refine Fr.drew ?_) | (with_reducible refine Fr.drewN ?_ _) | (with_reducible refine Fr.alloc ?_ _) | (with_reducible refine Fr.set1 ?_ _) | (with_reducible refine Fr.setNew ?_ (by omega) _))⟩
  · have hv := Lib.hid (show decide (a.before b) = false from decide_eq_false (by unfold Itm.before; omega))
    have h4 : (a.due == b.due) = false := by simpa using h2
    clear h2
    go_enter Tryd.func109, Tryd.ntmps109
    go_wp2_with fail
    go_ret
    exact ⟨by rw [hv.out]; rfl, by repeat (first | (with_reducible exact Fr.refl _ _) | (with_reducible refine Fr.drew ?_) | (with_reducible refine Fr.drewN ?_ _) | (with_reducible refine Fr.alloc ?_ _) | (with_reducible refine Fr.set1 ?_ _) | (with_reducible refine Fr.setNew ?_ (by omega) _))⟩
theorem its_len (hp : List Itm) : (its hp).length = hp.length * 4 := flat_len (f := Itm.cells) (n := 4) (fun _ => rfl) hp
def IsQ (w : World) (S : Nat → Prop) (L : Bq 6) (hp : List Itm) : Prop := Rq w S L 100 113 4 hp.length (its hp)
theorem IsQ.fr {w w' : World} {S S2 : Nat → Prop} {L : Bq 6} {hp : List Itm} (h : IsQ w S L hp) (hf : Fr S2 w w') (hd : ∀ k, S k → ¬ S2 k) : IsQ w' S L hp := Rq.fr h hf hd
theorem own_itm {w : World} {g n cap : Nat} {hp : List Itm} (h : w.ownsRow 0 113 4 (.slice (some ⟨g, 0, none⟩) n cap) n (its hp)) (hn : hp.length = n) {i : Nat} {x : Itm} (hx : hp[i]? = some x) :
    w.cell? ⟨g, i * 4, none⟩ = some (.int .i64 x.due) ∧ w.cell? ⟨g, i * 4 + 1, none⟩ = some (.int .i64 x.stamp) ∧ w.cell? ⟨g, i * 4 + 2, none⟩ = some (.int .u64 x.id.hi) ∧ w.cell? ⟨g, i * 4 + 3, none⟩ = some (.int .u64 x.id.lo) := by
  obtain ⟨hi, rfl⟩ := List.getElem?_eq_some_iff.1 hx
  have q : ∀ j v, j < 4 → (Itm.cells hp[i])[j]? = some v → w.cell? ⟨g, i * 4 + j, none⟩ = some v := fun j v hj hv => by
    rw [h.cellAt (i * 4 + j) (by omega), its, flat_get (f := Itm.cells) (n := 4) (fun _ => rfl) hp i hi j hj, hv]
  exact ⟨q 0 _ (by omega) rfl, q 1 _ (by omega) rfl, q 2 _ (by omega) rfl, q 3 _ (by omega) rfl⟩
/-- Two items change places: the rows behind either order of the stores. -/
theorem own_swap {w : World} {g n cap i j : Nat} {hp : List Itm} {x y : Itm} (h : w.ownsRow 0 113 4 (.slice (some ⟨g, 0, none⟩) n cap) n (its hp)) (hi : hp[i]? = some x) (hj : hp[j]? = some y) :
    ((w.setCells g (i * 4) y.cells).setCells g (j * 4) x.cells).ownsRow 0 113 4 (.slice (some ⟨g, 0, none⟩) n cap) n (its (swp hp i j x y)) ∧ (i ≠ j → ((w.setCells g (j * 4) x.cells).setCells g (i * 4) y.cells).ownsRow 0 113 4 (.slice (some ⟨g, 0, none⟩) n cap) n (its (swp hp i j x y))) := by
  have h1 := (List.getElem?_eq_some_iff.1 hi).1
  have h2 := (List.getElem?_eq_some_iff.1 hj).1
  refine ⟨own_flat (f := Itm.cells) (sz := 4) (fun _ => rfl) (own_flat (f := Itm.cells) (sz := 4) (fun _ => rfl) h h1 y) (by rw [List.length_set]; exact h2) x, fun hne => ?_⟩
  have k := own_flat (f := Itm.cells) (sz := 4) (fun _ => rfl) (own_flat (f := Itm.cells) (sz := 4) (fun _ => rfl) h h2 x) (by rw [List.length_set]; exact h1) y
  rw [List.set_comm _ _ (fun e => hne e.symm)] at k
  exact k
theorem set4_fr {w : World} {g o : Nat} {S : Nat → Prop} (hg : S g) (x : Itm) : Fr S w (w.setCells g o x.cells) := (setCells_fr g _ _ _).mono (fun k hk => by rw [hk]; exact hg)
theorem iq_swap {w : World} {S : Nat → Prop} {L : Bq 6} {g cap i j : Nat} {hp : List Itm} {x y : Itm} (hb : w.heap[L.b]? = some (.cells (L.row (.slice (some ⟨g, 0, none⟩) hp.length cap)) 100 (0, 0))) (h : IsQ w S L hp) (hi : hp[i]? = some x) (hj : hp[j]? = some y) (hne : i ≠ j) :
    (IsQ ((w.setCells g (i * 4) y.cells).setCells g (j * 4) x.cells) S L (swp hp i j x y) ∧ Fr S w ((w.setCells g (i * 4) y.cells).setCells g (j * 4) x.cells)) ∧ (IsQ ((w.setCells g (j * 4) x.cells).setCells g (i * 4) y.cells) S L (swp hp i j x y) ∧ Fr S w ((w.setCells g (j * 4) x.cells).setCells g (i * 4) y.cells)) := by
  obtain ⟨v, hb2, ho, hS, hSv, hl⟩ := h
  have hv : v = .slice (some ⟨g, 0, none⟩) hp.length cap := by
    have h0 := L.get v
    have h1 := L.get (.slice (some ⟨g, 0, none⟩) hp.length cap)
    rw [hb] at hb2
    simp only [Option.some.injEq, Obj.cells.injEq, and_true] at hb2
    rw [← hb2, h1] at h0
    exact (Option.some.inj h0).symm
  subst hv
  have hg := hSv g rfl
  obtain ⟨o1, o2⟩ := own_swap ho hi hj
  have fr : ∀ (a b : Nat) (u v : Itm), Fr (fun k => k = g) w ((w.setCells g a u.cells).setCells g b v.cells) := fun a b u v => (setCells_fr g _ a w).then_ (setCells_fr g _ b _) (fun k hk => .inl hk)
  have mk : ∀ (a b : Nat) (u v : Itm), ((w.setCells g a u.cells).setCells g b v.cells).ownsRow 0 113 4 (.slice (some ⟨g, 0, none⟩) hp.length cap) hp.length (its (swp hp i j x y)) → IsQ ((w.setCells g a u.cells).setCells g b v.cells) S L (swp hp i j x y) ∧ Fr S w ((w.setCells g a u.cells).setCells g b v.cells) := fun a b u v o => by
    refine ⟨?_, (fr a b u v).mono (fun k hk => by rw [hk]; exact hg.1)⟩
    unfold IsQ
    rw [swp_len]
    exact ⟨_, (fr a b u v).blk hb (fun e => hg.2 e.symm), o, hS, hSv, fun k hk => Nat.lt_of_lt_of_le (hl k hk) (fr a b u v).size⟩
  exact ⟨mk _ _ _ _ o1, mk _ _ _ _ (o2 hne)⟩
set_option maxRecDepth 4000 in
set_option maxHeartbeats 6400000 in
theorem up_any (w : World) (S : Nat → Prop) (L : Bq 6) (hp : List Itm) (i : Nat) (h : IsQ w S L hp) (hi : i < hp.length) (hn : hp.length ≤ 100000) (hu : HeapUp hp i) :
    Calls Tryd.prog 101 #[.pointer (some ⟨L.b, 6, none⟩), .int .i64 i] w fun e w' => e = .returned (.tuple #[]) ∧ ∃ hp', IsQ w' S L hp' ∧ Heap hp' ∧ hp'.Perm hp ∧ Fr S w w' := by
  have HB := Lib.hid (fun W a b => before_any W a b)
  have H0 := Lib.hid h
  have HU := Lib.hid hu
  clear h hu
  go_enter Tryd.func101, Tryd.ntmps101
  go_wp2_with fail
  go_loopw [1] (fun iv wr => ∃ (hq : List Itm) (j : Nat), iv = .int .i64 j ∧ j < hq.length ∧ IsQ wr S L hq ∧ HeapUp hq j ∧ hq.Perm hp ∧ Fr S w wr) (fun iv _ => (intOf iv).toNat)
  case atStart => exact ⟨hp, i, rfl, hi, H0.out, HU.out, .refl _, Fr.refl _ _⟩
  case round =>
    obtain ⟨hq, j, rfl, hj, isq, hup, hpm, hf⟩ := hrel
    have HQ := Lib.hid isq
    have HUp := Lib.hid hup
    have HP := Lib.hid hpm
    have HF := Lib.hid hf
    by_cases hj0 : j = 0
    · subst hj0
      clear isq hup hpm hf
      go_upto_region 0 with fail
      go_quiet (fail)
      go_wp2_with fail
      go_end0
      exact ⟨rfl, hq, HQ.out.fr (S2 := fun _ => False) ((Fr.refl _ wr).drewN _) (fun _ _ h => h), up_stop HUp.out (.inl rfl), HP.out, HF.out.drewN _⟩
    have hlq : hq.length = hp.length := hpm.length_eq
    obtain ⟨p, hp2⟩ : ∃ p : Nat, (j - 1) / 2 = p := ⟨_, rfl⟩
    have hpj : p < j := by omega
    obtain ⟨x, hx⟩ : ∃ x, hq[j]? = some x := ⟨hq[j], List.getElem?_eq_getElem hj⟩
    obtain ⟨y, hy⟩ : ∃ y, hq[p]? = some y := ⟨hq[p]'(by omega), List.getElem?_eq_getElem (by omega)⟩
    have HX := Lib.hid hx
    have HY := Lib.hid hy
    have HPp := Lib.hid hp2
    have hj0' : 0 < j := by omega
    have hjI : (0 : Int) < j := by omega
    have w1 : IntKind.i64.wrap ((j : Int) - 1) = j - 1 := IntWalk.i64_in _ (by omega)
    have d1 : ((j : Int) - 1).tdiv 2 = p := by rw [Int.tdiv_eq_ediv_of_nonneg (by omega)]; omega
    have d2 : ((j : Int) - 1) / 2 = p := by omega
    have d3 : IntKind.i64.wrap (p : Int) = p := IntWalk.i64_in _ (by omega)
    have b1 : (j : Int) < hq.length := by omega
    have b2 : (p : Int) < hq.length := by omega
    have HJ := Lib.hid hj
    obtain ⟨v, hb, ho, hS, hSv, hl⟩ := isq
    obtain ⟨g, cap, rfl⟩ := own_some ho (by omega)
    have HBk := Lib.hid hb
    have HO := Lib.hid ho
    have HSv := Lib.hid hSv
    have c6 := blk_cell hb 6 (L.get _)
    obtain ⟨x0, x1, x2, x3⟩ := own_itm ho rfl hx
    obtain ⟨y0, y1, y2, y3⟩ := own_itm ho rfl hy
    have HBf := Lib.hid (fun W => before_any W x y)
    obtain ⟨bv, hbv⟩ : ∃ b, decide (x.before y) = b := ⟨_, rfl⟩
    rw [hbv] at HBf
    have HBv := Lib.hid hbv
    have HLq := Lib.hid hlq
    have b3 : (0 : Int) ≤ j := by omega
    have b4 : (0 : Int) ≤ p := by omega
    clear hup hpm hf hx hy hp2 hb ho hS hSv hl hbv hlq
    go_upto_region 0 with fail
    go_region_held3 (fun w' => w'.cell? ⟨L.b, 6, none⟩ = some (Value.slice (some ⟨g, 0, none⟩) hq.length cap) ∧ w'.cell? ⟨g, j * 4, none⟩ = some (Value.int .i64 x.due) ∧ w'.cell? ⟨g, j * 4 + 1, none⟩ = some (Value.int .i64 x.stamp) ∧ w'.cell? ⟨g, j * 4 + 2, none⟩ = some (Value.int .u64 x.id.hi) ∧ w'.cell? ⟨g, j * 4 + 3, none⟩ = some (Value.int .u64 x.id.lo) ∧ w'.cell? ⟨g, p * 4, none⟩ = some (Value.int .i64 y.due) ∧ w'.cell? ⟨g, p * 4 + 1, none⟩ = some (Value.int .i64 y.stamp) ∧ w'.cell? ⟨g, p * 4 + 2, none⟩ = some (Value.int .u64 y.id.hi) ∧ w'.cell? ⟨g, p * 4 + 3, none⟩ = some (Value.int .u64 y.id.lo))
      (first | exact ⟨c6, x0, x1, x2, x3, y0, y1, y2, y3⟩ | exact ⟨r6, a0, a1, a2, a3, e0, e1, e2, e3⟩ | go_keep)
      (first | (go_at_call 109; go_must (with_reducible refine (HBf.out _).mono ?_); rintro e w2 ⟨rfl, f2⟩; have hb2 := f2.blk (w := wr.drew) HBk.out (fun h => h); have ho2 := own_fr (w := wr.drew) HO.out f2 (fun _ _ h => h); have r6 := blk_cell hb2 6 (L.get _); have a := own_itm ho2 rfl HX.out; have e := own_itm ho2 rfl HY.out; obtain ⟨a0, a1, a2, a3⟩ := a; obtain ⟨e0, e1, e2, e3⟩ := e; have F2 := Lib.hid (HF.out.drew.then_ f2 (fun _ h => h.elim)); have Q2 := Lib.hid (HQ.out.fr (S2 := fun _ => False) ((Fr.refl _ wr).drew.then_ f2 (fun _ h => h.elim)) (fun _ _ h => h)); have HB2 := Lib.hid hb2; have HO2 := Lib.hid ho2; clear f2 hb2 ho2))
    cases bv with
    | false =>
      go_wp2_with fail
      go_end0
      exact ⟨rfl, hq, Q2.out, up_stop HUp.out (.inr fun u v hu hv => by rw [HX.out] at hu; rw [HPp.out, HY.out] at hv; cases hu; cases hv; exact of_decide_eq_false HBv.out), HP.out, F2.out⟩
    | true =>
      have z0 := HO2.out.frozenAt (j * 4); have z1 := HO2.out.frozenAt (j * 4 + 1); have z2 := HO2.out.frozenAt (j * 4 + 2); have z3 := HO2.out.frozenAt (j * 4 + 3)
      have y0 := HO2.out.frozenAt (p * 4); have y1 := HO2.out.frozenAt (p * 4 + 1); have y2 := HO2.out.frozenAt (p * 4 + 2); have y3 := HO2.out.frozenAt (p * 4 + 3)
      have HA := Lib.hid (iq_swap HB2.out Q2.out HX.out HY.out (by omega))
      clear c6 x0 x1 x2 x3
      go_upto_region 1 with fail
      go_region
      all_goals
        go_wp2_with fail
        go_roundw
        case rel =>
          refine ⟨swp hq j p x y, p, by go_num, by rw [swp_len]; have := HJ.out; omega, ?_, HPp.out ▸ up_step HUp.out hj0' HX.out (HPp.out ▸ HY.out) (of_decide_eq_true HBv.out), (swp_perm HX.out HY.out).trans HP.out, ?_⟩
          · first | exact HA.out.1.1.fr (S2 := fun _ => False) ((Fr.refl _ _).drew) (fun _ _ h => h) | exact HA.out.2.1.fr (S2 := fun _ => False) ((Fr.refl _ _).drew) (fun _ _ h => h)
          · first | exact (F2.out.then_ HA.out.1.2 (fun k hk => .inl hk)).drew | exact (F2.out.then_ HA.out.2.2 (fun k hk => .inl hk)).drew
        case measure => simp [intOf]; omega
end Go.Proofs.YtjchjpmgbmeohaaDoor

/- Package queue: down. -/
set_option linter.unusedSimpArgs false
set_option linter.unusedVariables false
namespace Go.Proofs.YtjchjpmgbmeohaaDoor
open Go.RowKit

/-- The least of one and of those below it that were looked at. -/
structure Least (hq : List Itm) (j c k : Nat) : Prop where
  lt : k < hq.length
  at_ : k = j ∨ (2 * j + 1 ≤ k ∧ k < c)
  st : k ≠ j → ∀ (u v : Itm), hq[j]? = some u → hq[k]? = some v → v.before u
  min : ∀ (m : Nat) (u v : Itm), (m = j ∨ (2 * j + 1 ≤ m ∧ m < c)) → hq[m]? = some u → hq[k]? = some v → ¬ u.before v
theorem least_start {hq : List Itm} {j : Nat} (h : j < hq.length) : Least hq j (2 * j + 1) j := ⟨h, .inl rfl, fun h => absurd rfl h, fun m u v hm hu hv => by
  obtain rfl : m = j := by omega
  rw [hu] at hv
  cases hv
  unfold Itm.before
  omega⟩
theorem least_next {hq : List Itm} {j c k : Nat} {u v : Itm} (h : Least hq j c k) (hc : 2 * j + 1 ≤ c) (hcl : c < hq.length) (hu : hq[c]? = some u) (hv : hq[k]? = some v) : Least hq j (c + 1) (if u.before v then c else k) := by
  by_cases hb : u.before v
  · rw [if_pos hb]
    refine ⟨hcl, .inr ⟨hc, by omega⟩, fun _ a b ha hb' => ?_, fun m a b hm ha hb' => ?_⟩
    · rw [hu] at hb'
      cases hb'
      by_cases e : k = j
      · subst e
        rw [hv] at ha
        cases ha
        exact hb
      · have := h.st e a v ha hv
        unfold Itm.before at *
        omega
    rw [hu] at hb'
    cases hb'
    by_cases e : m = c
    · subst e
      rw [hu] at ha
      cases ha
      unfold Itm.before
      omega
    · have := h.min m a v (by omega) ha hv
      exact nb_trans this (bf_asym hb)
  · rw [if_neg hb]
    refine ⟨h.lt, h.at_.imp id (fun h => ⟨h.1, by omega⟩), h.st, fun m a b hm ha hb' => ?_⟩
    by_cases e : m = c
    · subst e
      rw [hu] at ha
      rw [hv] at hb'
      cases ha; cases hb'
      exact hb
    · exact h.min m a b (by omega) ha hb'
set_option maxRecDepth 4000 in
set_option maxHeartbeats 6400000 in
theorem down_any (w : World) (S : Nat → Prop) (L : Bq 6) (hp : List Itm) (i : Nat) (h : IsQ w S L hp) (hi : i < hp.length) (hn : hp.length ≤ 100000) (hd : HeapDn hp i i) :
    Calls Tryd.prog 110 #[.pointer (some ⟨L.b, 6, none⟩), .int .i64 i] w fun e w' => e = .returned (.tuple #[]) ∧ ∃ hp', IsQ w' S L hp' ∧ HeapUp hp' i ∧ hp'.Perm hp ∧ Fr S w w' := by
  have HB := Lib.hid (fun W a b => before_any W a b)
  have H0 := Lib.hid h
  have HD0 := Lib.hid hd
  clear h hd
  go_enter Tryd.func110, Tryd.ntmps110
  go_wp2_with fail
  go_loopw [1] (fun iv wr => ∃ (hq : List Itm) (j : Nat), iv = .int .i64 j ∧ j < hq.length ∧ IsQ wr S L hq ∧ HeapDn hq i j ∧ hq.Perm hp ∧ Fr S w wr) (fun iv _ => ((hp.length : Int) - intOf iv).toNat)
  case atStart => exact ⟨hp, i, rfl, hi, H0.out, HD0.out, .refl _, Fr.refl _ _⟩
  case round =>
    obtain ⟨hq, j, rfl, hj, isq, hdn, hpm, hf⟩ := hrel
    have HQ := Lib.hid isq
    have HDn := Lib.hid hdn
    have HP := Lib.hid hpm
    have HF := Lib.hid hf
    have HJ := Lib.hid hj
    have hlq : hq.length = hp.length := hpm.length_eq
    have HLq := Lib.hid hlq
    have hn2 : hq.length ≤ 100000 := by omega
    have m1 : IntKind.i64.wrap (2 * (j : Int)) = 2 * j := IntWalk.i64_in _ (by omega)
    have m2 : IntKind.i64.wrap (2 * (j : Int) + 1) = 2 * j + 1 := IntWalk.i64_in _ (by omega)
    have m3 : IntKind.i64.wrap (2 * (j : Int) + 2) = 2 * j + 2 := IntWalk.i64_in _ (by omega)
    obtain ⟨wo, hwo⟩ : ∃ W : World, W = wr := ⟨_, rfl⟩
    subst hwo
    clear isq hdn hpm hf hlq
    go_wp2_with fail
    go_loopw [4, 5] (fun kv cv wr => ∃ k c : Nat, kv = .int .i64 k ∧ cv = .int .i64 c ∧ 2 * j + 1 ≤ c ∧ c ≤ 2 * j + 3 ∧ Least hq j c k ∧ Fr (fun _ => False) wo wr) (fun _ cv _ => ((2 * (j : Int) + 3) - intOf cv).toNat)
    case atStart => exact ⟨j, 2 * j + 1, rfl, by go_num, by omega, by omega, least_start HJ.out, Fr.refl _ _⟩
    case round =>
      obtain ⟨k, c, rfl, rfl, hc1, hc2, hle, hf⟩ := hrel
      have HF2 := Lib.hid hf
      have HLe := Lib.hid hle
      have HQ2 := Lib.hid (HQ.out.fr hf (fun _ _ h => h))
      obtain ⟨v, hb, ho, hS, hSv, hl⟩ := HQ2.out
      obtain ⟨g, cap, rfl⟩ := own_some ho (by have := HJ.out; omega)
      have HBk := Lib.hid hb
      have HO := Lib.hid ho
      have c6 := blk_cell hb 6 (L.get _)
      have hk := hle.lt
      have b1 : (k : Int) < hq.length := by omega
      have b2 : (0 : Int) ≤ k := by omega
      have b3 : (0 : Int) ≤ c := by omega
      have HK := Lib.hid hk
      have HC1 := Lib.hid hc1
      have HC2 := Lib.hid hc2
      by_cases hin : c ≤ 2 * j + 2 ∧ c < hq.length
      · obtain ⟨hc3, hc4⟩ := hin
        have HC4 := Lib.hid hc4
        have e1 : (c : Int) ≤ 2 * j + 2 := by omega
        have e2 : (c : Int) < hq.length := by omega
        have e3 : IntKind.i64.wrap ((c : Int) + 1) = c + 1 := IntWalk.i64_in _ (by omega)
        obtain ⟨x, hx⟩ : ∃ x, hq[c]? = some x := ⟨hq[c], List.getElem?_eq_getElem hc4⟩
        obtain ⟨y, hy⟩ : ∃ y, hq[k]? = some y := ⟨hq[k], List.getElem?_eq_getElem hk⟩
        have HX := Lib.hid hx
        have HY := Lib.hid hy
        obtain ⟨x0, x1, x2, x3⟩ := own_itm ho rfl hx
        obtain ⟨y0, y1, y2, y3⟩ := own_itm ho rfl hy
        have HBf := Lib.hid (fun W => before_any W x y)
        obtain ⟨bv, hbv⟩ : ∃ b, decide (x.before y) = b := ⟨_, rfl⟩
        rw [hbv] at HBf
        have HBv := Lib.hid hbv
        clear hf hle hx hy hb ho hS hSv hl hbv hc1 hc2 hk
        go_upto_region 4 with fail
        go_region_held3 (fun w' => w'.cell? ⟨L.b, 6, none⟩ = some (Value.slice (some ⟨g, 0, none⟩) hq.length cap) ∧ w'.cell? ⟨g, c * 4, none⟩ = some (Value.int .i64 x.due) ∧ w'.cell? ⟨g, c * 4 + 1, none⟩ = some (Value.int .i64 x.stamp) ∧ w'.cell? ⟨g, c * 4 + 2, none⟩ = some (Value.int .u64 x.id.hi) ∧ w'.cell? ⟨g, c * 4 + 3, none⟩ = some (Value.int .u64 x.id.lo) ∧ w'.cell? ⟨g, k * 4, none⟩ = some (Value.int .i64 y.due) ∧ w'.cell? ⟨g, k * 4 + 1, none⟩ = some (Value.int .i64 y.stamp) ∧ w'.cell? ⟨g, k * 4 + 2, none⟩ = some (Value.int .u64 y.id.hi) ∧ w'.cell? ⟨g, k * 4 + 3, none⟩ = some (Value.int .u64 y.id.lo))
          (first | exact ⟨c6, x0, x1, x2, x3, y0, y1, y2, y3⟩ | exact ⟨r6, a0, a1, a2, a3, q0, q1, q2, q3⟩ | go_keep)
          (first | (go_at_call 109; go_must (with_reducible refine (HBf.out _).mono ?_); rintro e w2 ⟨rfl, f2⟩; have hb2 := f2.blk (w := wr.drew) HBk.out (fun h => h); have ho2 := own_fr (w := wr.drew) HO.out f2 (fun _ _ h => h); have r6 := blk_cell hb2 6 (L.get _); have a := own_itm ho2 rfl HX.out; have q := own_itm ho2 rfl HY.out; obtain ⟨a0, a1, a2, a3⟩ := a; obtain ⟨q0, q1, q2, q3⟩ := q; have F2 := Lib.hid (HF2.out.drew.then_ f2 (fun _ h => h.elim)); clear f2 hb2 ho2))
        cases bv with
        | false =>
          go_wp2_with fail
          go_roundw
          case rel =>
            have hl := least_next HLe.out HC1.out HC4.out HX.out HY.out
            rw [if_neg (of_decide_eq_false HBv.out)] at hl
            exact ⟨k, c + 1, rfl, by go_num, by have := HC1.out; omega, by omega, hl, F2.out⟩
          case measure => simp [intOf]; omega
        | true =>
          go_wp2_with fail
          go_roundw
          case rel =>
            have hl := least_next HLe.out HC1.out HC4.out HX.out HY.out
            rw [if_pos (of_decide_eq_true HBv.out)] at hl
            exact ⟨c, c + 1, rfl, by go_num, by have := HC1.out; omega, by omega, hl, F2.out⟩
          case measure => simp [intOf]; omega
      have HOut := Lib.hid hin
      have hev : ((c : Int) ≤ 2 * j + 2 ∧ ¬ (c : Int) < hq.length) ∨ ¬ (c : Int) ≤ 2 * j + 2 := by omega
      by_cases hkj : k = j
      · subst hkj
        have HDone := Lib.hid (dn_stop HDn.out (fun m u v hm hmk hu hv => by
          have hml := (List.getElem?_eq_some_iff.1 hu).1
          have h1 := HC1.out
          have h2 := HOut.out
          exact HLe.out.min m u v (.inr (by omega)) hu hv))
        clear hf hle hb ho hS hSv hl hc1 hc2 hk hin
        rcases hev with ⟨e1, e2⟩ | e1
        · go_wp2_with fail
          (try simp only [Exit.inBlock, Exit.then])
          refine bodyPost_ret (results_none rfl _ _ _) rfl ?_
          exact ⟨rfl, hq, HQ2.out, HDone.out, HP.out, HF.out.then_ HF2.out (fun _ h => h.elim)⟩
        · go_wp2_with fail
          (try simp only [Exit.inBlock, Exit.then])
          refine bodyPost_ret (results_none rfl _ _ _) rfl ?_
          exact ⟨rfl, hq, HQ2.out, HDone.out, HP.out, HF.out.then_ HF2.out (fun _ h => h.elim)⟩
      · have hkI : ((k : Int) == j) = false := by simp; omega
        obtain ⟨x, hx⟩ : ∃ x, hq[j]? = some x := ⟨hq[j]'(HJ.out), List.getElem?_eq_getElem (HJ.out)⟩
        obtain ⟨y, hy⟩ : ∃ y, hq[k]? = some y := ⟨hq[k], List.getElem?_eq_getElem hk⟩
        have hat : 2 * j + 1 ≤ k ∧ k ≤ 2 * j + 2 := by have := hle.at_; omega
        have HStep := Lib.hid (dn_step (m := k) HDn.out (by omega) (by omega) hx hy (hle.st hkj x y hx hy) (fun m z hm hmj hz => by
          have hml := (List.getElem?_eq_some_iff.1 hz).1
          have h2 := HOut.out
          exact hle.min m z y (.inr (by omega)) hz hy))
        have HA := Lib.hid (iq_swap hb HQ2.out hx hy (by omega))
        have HPm := Lib.hid (swp_perm hx hy)
        have b4 : (j : Int) < hq.length := by have := HJ.out; omega
        have b5 : (0 : Int) ≤ j := by omega
        have hjk : j < k := by omega
        obtain ⟨x0, x1, x2, x3⟩ := own_itm ho rfl hx
        obtain ⟨y0, y1, y2, y3⟩ := own_itm ho rfl hy
        have z0 := HO.out.frozenAt (j * 4); have z1 := HO.out.frozenAt (j * 4 + 1); have z2 := HO.out.frozenAt (j * 4 + 2); have z3 := HO.out.frozenAt (j * 4 + 3)
        have u0 := HO.out.frozenAt (k * 4); have u1 := HO.out.frozenAt (k * 4 + 1); have u2 := HO.out.frozenAt (k * 4 + 2); have u3 := HO.out.frozenAt (k * 4 + 3)
        have HLt := Lib.hid hjk
        clear hf hle hb ho hS hSv hl hc1 hc2 hin hx hy hat hkj
        rcases hev with ⟨e1, e2⟩ | e1
        all_goals
          go_upto_region 7 with fail
          go_region
          all_goals
            go_wp2_with fail
            go_roundw
            case rel =>
              refine ⟨swp hq j k x y, k, by go_num, by rw [swp_len]; exact HK.out, ?_, HStep.out, HPm.out.trans HP.out, ?_⟩
              · first | exact HA.out.1.1.fr (S2 := fun _ => False) ((Fr.refl _ _).drew) (fun _ _ h => h) | exact HA.out.2.1.fr (S2 := fun _ => False) ((Fr.refl _ _).drew) (fun _ _ h => h)
              · first | exact ((HF.out.then_ HF2.out (fun _ h => h.elim)).then_ HA.out.1.2 (fun k hk => .inl hk)).drew | exact ((HF.out.then_ HF2.out (fun _ h => h.elim)).then_ HA.out.2.2 (fun k hk => .inl hk)).drew
            case measure => have := HLt.out; have := HK.out; have := HLq.out; simp [intOf]; omega
end Go.Proofs.YtjchjpmgbmeohaaDoor

/- Package queue: take. -/
set_option linter.unusedSimpArgs false
set_option linter.unusedVariables false
namespace Go.Proofs.YtjchjpmgbmeohaaDoor
open Go.RowKit

theorem flat_take {α : Type} {f : α → List Value} {n : Nat} (hf : ∀ x, (f x).length = n) : ∀ (l : List α) (k : Nat), (l.flatMap f).take (k * n) = (l.take k).flatMap f
  | [], k => by simp
  | x :: l, 0 => by simp
  | x :: l, k + 1 => by
    rw [List.flatMap_cons, List.take_succ_cons, List.flatMap_cons, Nat.succ_mul, Nat.add_comm, ← flat_take hf l k]
    have h := hf x
    rw [← h, List.take_length_add_append]
theorem heap_take {hp : List Itm} (h : Heap hp) (m : Nat) : Heap (hp.take m) := fun k x y h0 hx hy => by
  rw [List.getElem?_take] at hx hy
  split at hx
  · rw [if_pos (by omega)] at hy
    exact h k x y h0 hx hy
  · cases hx
theorem fill_last {hp : List Itm} {i : Nat} {z : Itm} (h : hp.length - 1 ≤ i) : fillL hp i z = hp.take (hp.length - 1) := by
  unfold fillL
  apply List.ext_getElem?
  intro k
  rw [List.getElem?_take, List.getElem?_take]
  split
  · rw [List.getElem?_set_ne (by omega)]
  · rfl
theorem fill_len {hp : List Itm} {i : Nat} {z : Itm} : (fillL hp i z).length = hp.length - 1 := by simp [fillL]
def TakePost (w : World) (S : Nat → Prop) (L : Bq 6) (hp : List Itm) (x : Itm) (e : Ending) (w' : World) : Prop :=
  e = .returned (.agg #[.int .i64 x.due, .int .i64 x.stamp, .int .u64 x.id.hi, .int .u64 x.id.lo]) ∧ ∃ hp', IsQ w' S L hp' ∧ Heap hp' ∧ (x :: hp').Perm hp ∧ Fr S w w'
set_option maxRecDepth 4000 in
set_option maxHeartbeats 6400000 in
theorem take_any (w : World) (S : Nat → Prop) (L : Bq 6) (hp : List Itm) (i : Nat) (x : Itm) (h : IsQ w S L hp) (hx : hp[i]? = some x) (hn : hp.length ≤ 100000) (hh : Heap hp) :
    Calls Tryd.prog 102 #[.pointer (some ⟨L.b, 6, none⟩), .int .i64 i] w (TakePost w S L hp x) := by
  have hi := (List.getElem?_eq_some_iff.1 hx).1
  obtain ⟨n, hnl⟩ : ∃ n, hp.length = n + 1 := ⟨hp.length - 1, by omega⟩
  obtain ⟨z, hz⟩ : ∃ z, hp[n]? = some z := ⟨hp[n]'(by omega), List.getElem?_eq_getElem (by omega)⟩
  have HX := Lib.hid hx
  have HZ := Lib.hid hz
  have HNl := Lib.hid hnl
  have HH := Lib.hid hh
  have HSlt := Lib.hid (show ∀ k, S k → k < w.heap.size from fun k hk => Rq.lt h hk)
  have HPm := Lib.hid (fill_perm (z := z) hx (by rw [show hp.length - 1 = n by omega]; exact hz))
  have H := Lib.hid h
  obtain ⟨v, hb, ho, hS, hSv, hl⟩ := h
  obtain ⟨g, cap, rfl⟩ := own_some ho (by omega)
  rw [hnl] at hb
  have HOw := Lib.hid ho
  have HB := Lib.hid hb
  have hcap : n + 1 ≤ cap := by
    obtain ⟨a', c', e', hc', -⟩ := own_form ho
    simp only [Value.slice.injEq] at e'
    omega
  have Hcap := Lib.hid hcap
  have c6 := blk_cell (blk_alloc hb (.cells #[.int .i64 0, .int .i64 0, .int .u64 0, .int .u64 0] 113)) 6 (L.get _)
  have ho1 := ho.alloc (.cells #[.int .i64 0, .int .i64 0, .int .u64 0, .int .u64 0] 113)
  obtain ⟨x0, x1, x2, x3⟩ := own_itm ho1 rfl hx
  have FA := Lib.hid ((Fr.refl (fun _ => False) w).alloc (.cells #[.int .i64 0, .int .i64 0, .int .u64 0, .int .u64 0] 113))
  have HHs := Lib.hid hS
  have HHsv := Lib.hid hSv
  have HHl := Lib.hid hl
  have b1 : (i : Int) < (n : Int) + 1 := by omega
  have b2 : (0 : Int) ≤ i := by omega
  have b3 : IntKind.i64.wrap ((n : Int) + 1 - 1) = n := by rw [IntWalk.i64_in _ (by omega)]; omega
  have b4 : ((n : Int) + 1 - 1) = n := by omega
  have b5 : IntKind.i64.wrap (n : Int) = n := IntWalk.i64_in _ (by omega)
  have hLlt := hl L.b hS
  have hglt := hl g (hSv g rfl).1
  clear hx hz hh hb ho ho1 hS hSv hl hcap
  go_enter Tryd.func102, Tryd.ntmps102
  go_upto_region 1 with fail
  go_cut [5, 6] from 7 (fun v5 v6 w' => v5 = .pointer (some ⟨w.heap.size + 1, 0, none⟩) ∧ v6 = .int .i64 n ∧ Fr (fun _ => False) w w' ∧ w'.heap[w.heap.size]? = some (.cells #[.int .i64 0, .int .i64 0, .int .u64 0, .int .u64 0] 113 (0, 0)) ∧ w'.heap[w.heap.size + 1]? = some (.cells #[.int .i64 x.due, .int .i64 x.stamp, .int .u64 x.id.hi, .int .u64 x.id.lo] 113 (0, 0)))
  case first =>
    go_region
    all_goals
      go_wp2_with fail
      go_meet
      refine ⟨by first | rfl | simp, by first | rfl | simp, (FA.out.drew.alloc _), ?_, ?_⟩
      · exact blk_alloc (w := (w.alloc _).drew) (heap_alloc_new w _) _
      · exact blk1 w _ _
  case rest =>
  obtain ⟨rfl, rfl, fc, bz, bx⟩ := hcut
  have Fc := Lib.hid fc
  have Bz := Lib.hid bz
  have Bx := Lib.hid bx
  clear fc bz bx x0 x1 x2 x3 c6
  have HQc := Lib.hid (H.out.fr Fc.out (fun _ _ h => h))
  have HBc := Lib.hid (Fc.out.blk HB.out (fun h => h))
  have HOc := Lib.hid (own_fr HOw.out Fc.out (fun _ _ h => h))
  go_upto_region 2 with fail
  go_cut [] from 20 (fun w' => w'.heap[L.b]? = some (.cells (L.row (.slice (some ⟨g, 0, none⟩) (n + 1) cap)) 100 (0, 0)) ∧ w'.ownsRow 0 113 4 (.slice (some ⟨g, 0, none⟩) (n + 1) cap) (n + 1) (its (hp.set i z)) ∧ Fr (fun k => k = g) wc w')
  case first =>
    have c6 := blk_cell HBc.out 6 (L.get _)
    have hoc := HOc.out
    rw [HNl.out] at hoc
    obtain ⟨z0, z1, z2, z3⟩ := own_itm hoc HNl.out HZ.out
    obtain ⟨x0, x1, x2, x3⟩ := own_itm hoc HNl.out HX.out
    have f0 := hoc.frozenAt (i * 4); have f1 := hoc.frozenAt (i * 4 + 1); have f2 := hoc.frozenAt (i * 4 + 2); have f3 := hoc.frozenAt (i * 4 + 3)
    have HSt := Lib.hid (own_flat (f := Itm.cells) (sz := 4) (l := hp) (p := i) (fun _ => rfl) hoc hi z)
    have HFs := Lib.hid (setCells_fr g z.cells (i * 4) wc)
    have b6 : (n : Int) < (n : Int) + 1 := by omega
    have b7 : (0 : Int) ≤ n := by omega
    clear hoc
    go_region
    all_goals
      go_wp2_with fail
      go_meet
      exact ⟨(HFs.out.blk HBc.out (fun e => (HHsv.out g rfl).2 e.symm)), HSt.out, HFs.out.drew⟩
  case rest =>
  obtain ⟨hb2, ho2, f2⟩ := hcut
  have HB2 := Lib.hid hb2
  have Hne : ∀ k, k = g → S k := fun k hk => by rw [hk]; exact (HHsv.out g rfl).1
  have F2 := Lib.hid ((Fc.out.mono (fun _ h => h.elim)).then_ (f2.mono Hne) (fun k hk => .inl hk) : Fr S w wc)
  have Bz2 := Lib.hid (f2.blk Bz.out (fun e => by have := HSlt.out _ (Hne _ e); omega))
  have Bx2 := Lib.hid (f2.blk Bx.out (fun e => by have := HSlt.out _ (Hne _ e); omega))
  have hl2 : ∀ k, S k → k < wc.heap.size := fun k hk => Nat.lt_of_lt_of_le (HSlt.out k hk) F2.out.size
  have HCut := Lib.hid (rq_cut (m := n) hb2 ho2 HHs.out HHsv.out hl2 rfl (Nat.le_succ n))
  have hft := flat_take (f := Itm.cells) (n := 4) (fun _ => rfl) (hp.set i z) n
  have HQf := Lib.hid (show IsQ (wc.setCell ⟨L.b, 6, none⟩ (.slice (some ⟨g, 0, none⟩) n cap)) S L (fillL hp i z) from by
    have h := HCut.out.1
    rw [show (its (hp.set i z)).take (n * 4) = its ((hp.set i z).take n) from hft] at h
    unfold IsQ fillL
    rw [HNl.out, Nat.add_sub_cancel, show ((hp.set i z).take n).length = n from by rw [List.length_take, List.length_set, HNl.out]; omega]
    exact h)
  have FF := Lib.hid (F2.out.then_ HCut.out.2 (fun k hk => .inl hk))
  have Bz3 := Lib.hid (HCut.out.2.blk Bz2.out (fun e => by have := HSlt.out _ e; omega))
  have Bx3 := Lib.hid (HCut.out.2.blk Bx2.out (fun e => by have := HSlt.out _ e; omega))
  have c6 := blk_cell hb2 6 (L.get _)
  have f6 := blk_free hb2 6
  have b8 : n ≤ cap := by have := Hcap.out; omega
  have b9 : (n : Int) ≤ cap := by omega
  have b7 : (0 : Int) ≤ n := by omega
  obtain ⟨W3, hW3⟩ : ∃ W, wc.setCell ⟨L.b, 6, none⟩ (.slice (some ⟨g, 0, none⟩) n cap) = W := ⟨_, rfl⟩
  rw [hW3] at HQf FF Bz3 Bx3
  clear hb2 ho2 f2 hft HCut hl2
  by_cases hlast : i < n
  · have b10 : (i : Int) < n := by omega
    have HDn := Lib.hid (down_any W3 S L (fillL hp i z) i HQf.out (by rw [fill_len, HNl.out]; omega) (by rw [fill_len]; omega) (fill_dn HH.out (by rw [HNl.out]; omega)))
    go_upto_region 4 with fail
    (try rw [hW3])
    clear hW3 c6 f6
    go_wp2_with fail
    refine HDn.out.mono ?_
    rintro e w4 ⟨rfl, h4, q4, u4, p4, f4⟩
    have hl4 := p4.length_eq
    rw [fill_len, HNl.out] at hl4
    have HUp := Lib.hid (up_any w4 S L h4 i q4 (by omega) (by omega) u4)
    have P4 := Lib.hid p4
    have F4 := Lib.hid (FF.out.then_ f4 (fun k hk => .inl hk))
    have Bz4 := Lib.hid (f4.blk Bz3.out (fun e => by have := HSlt.out _ e; omega))
    have Bx4 := Lib.hid (f4.blk Bx3.out (fun e => by have := HSlt.out _ e; omega))
    clear q4 u4 p4 f4 hl4
    go_wp2_with fail
    refine HUp.out.mono ?_
    rintro e w5 ⟨rfl, h5, q5, u5, p5, f5⟩
    have F5 := Lib.hid (F4.out.then_ f5 (fun k hk => .inl hk))
    have Bz5 := Lib.hid (f5.blk Bz4.out (fun e => by have := HSlt.out _ e; omega))
    have bx5 := f5.blk Bx4.out (fun e => by have := HSlt.out _ e; omega)
    have Q5 := Lib.hid q5; have U5 := Lib.hid u5; have P5 := Lib.hid ((p5.trans P4.out).cons x |>.trans HPm.out)
    have x0 := blk_cell bx5 0 rfl; have x1 := blk_cell bx5 1 rfl; have x2 := blk_cell bx5 2 rfl; have x3 := blk_cell bx5 3 rfl
    clear q5 u5 p5 f5 bx5
    go_wp2_with (first | ((refine wpList_store_row rfl 113 (.tmp 4) (.tmp 51) rfl w.heap.size #[.int .i64 x.due, .int .i64 x.stamp, .int .u64 x.id.hi, .int .u64 x.id.lo] rfl rfl Bz5.out rfl rfl (by simp [Value.oneCell']) ?_); intro w9 hb9 f9; have HB9 := Lib.hid hb9; have F9 := Lib.hid f9; clear hb9 f9) | fail)
    refine bodyPost_ret (results_cell1 (p := 4) rfl _ _ w.heap.size 113 _ (0, 0) _ rfl HB9.out Tryd.underlying113 rfl rfl) rfl ?_
    exact ⟨rfl, h5, Q5.out.fr F9.out (fun k hk e => by have := HSlt.out k hk; omega), U5.out, P5.out, F5.out.then_ F9.out (fun k hk => .inr (by omega))⟩
  · have b10 : ¬ (i : Int) < n := by omega
    have HHp := Lib.hid (show Heap (fillL hp i z) from by rw [fill_last (by rw [HNl.out]; omega)]; exact heap_take HH.out _)
    have bx5 := Bx3.out
    have Bz5 := Bz3
    have x0 := blk_cell bx5 0 rfl; have x1 := blk_cell bx5 1 rfl; have x2 := blk_cell bx5 2 rfl; have x3 := blk_cell bx5 3 rfl
    go_upto_region 4 with fail
    (try rw [hW3])
    clear hW3 c6 f6 bx5
    go_wp2_with (first | ((refine wpList_store_row rfl 113 (.tmp 4) (.tmp 51) rfl w.heap.size #[.int .i64 x.due, .int .i64 x.stamp, .int .u64 x.id.hi, .int .u64 x.id.lo] rfl rfl Bz5.out rfl rfl (by simp [Value.oneCell']) ?_); intro w9 hb9 f9; have HB9 := Lib.hid hb9; have F9 := Lib.hid f9; clear hb9 f9) | fail)
    refine bodyPost_ret (results_cell1 (p := 4) rfl _ _ w.heap.size 113 _ (0, 0) _ rfl HB9.out Tryd.underlying113 rfl rfl) rfl ?_
    exact ⟨rfl, _, HQf.out.fr F9.out (fun k hk e => by have := HSlt.out k hk; omega), HHp.out, HPm.out, FF.out.then_ F9.out (fun k hk => .inr (by omega))⟩
end Go.Proofs.YtjchjpmgbmeohaaDoor

/- Package queue: Put, Drop. -/
set_option linter.unusedSimpArgs false
set_option linter.unusedVariables false
namespace Go.Proofs.YtjchjpmgbmeohaaDoor
open Go.RowKit

theorem Tryd.infoItm : (Tryd.prog.info? 113).map (fun i => (i.zero, i.size, i.bytes)) = some (some (.agg #[.int .i64 0, .int .i64 0, .int .u64 0, .int .u64 0]), 4, 32) := by kernel_rfl
theorem its_snoc (hp : List Itm) (x : Itm) : its (hp ++ [x]) = its hp ++ x.cells := by simp [its]
theorem heap_snoc {hp : List Itm} {x : Itm} (h : Heap hp) : HeapUp (hp ++ [x]) hp.length := by
  refine ⟨fun k u v h0 hk hu hv => ?_, fun k u v h0 hi hki hu hv => ?_⟩
  · have hkl := (List.getElem?_eq_some_iff.1 hu).1
    rw [List.length_append, List.length_singleton] at hkl
    rw [List.getElem?_append_left (by omega)] at hu hv
    exact h k u v h0 hu hv
  · have hkl := (List.getElem?_eq_some_iff.1 hu).1
    rw [List.length_append, List.length_singleton] at hkl
    omega
set_option maxRecDepth 4000 in
set_option maxHeartbeats 6400000 in
theorem qput_any (w : World) (S : Nat → Prop) (L : Bq 6) (hp : List Itm) (x : Itm) (h : IsQ w S L hp) (hn : hp.length ≤ 90000) (hh : Heap hp) :
    Calls Tryd.prog 68 #[.pointer (some ⟨L.b, 6, none⟩), .agg #[.int .i64 x.due, .int .i64 x.stamp, .int .u64 x.id.hi, .int .u64 x.id.lo]] w fun e w' => e = .returned (.tuple #[]) ∧ ∃ hp', IsQ w' (Gro S w w') L hp' ∧ Heap hp' ∧ hp'.Perm (x :: hp) ∧ Fr S w w' := by
  obtain ⟨i0, hi, hz0, hz1, hz2⟩ := info_parts Tryd.infoItm
  have HH := Lib.hid hh
  have HSlt := Lib.hid (show ∀ k, S k → k < w.heap.size from fun k hk => Rq.lt h hk)
  obtain ⟨v, hb, ho, hS, hSv, hlt⟩ := h
  obtain ⟨a0, cap, rfl, hc, -⟩ := own_form ho
  have Hb := Lib.hid (blk_alloc hb (.cells #[.int .i64 x.due, .int .i64 x.stamp, .int .u64 x.id.hi, .int .u64 x.id.lo] 113))
  have Ho := Lib.hid (ho.alloc (.cells #[.int .i64 x.due, .int .i64 x.stamp, .int .u64 x.id.hi, .int .u64 x.id.lo] 113))
  have Hs := Lib.hid hS
  have Hsv := Lib.hid hSv
  have FA := Lib.hid ((Fr.refl (fun _ => False) w).alloc (.cells #[.int .i64 x.due, .int .i64 x.stamp, .int .u64 x.id.hi, .int .u64 x.id.lo] 113))
  have hA0 := heap_alloc_new w (.cells #[.int .i64 x.due, .int .i64 x.stamp, .int .u64 x.id.hi, .int .u64 x.id.lo] 113)
  have HA0 := Lib.hid hA0
  have HZ := Lib.hid (show (w.alloc (.cells #[.int .i64 x.due, .int .i64 x.stamp, .int .u64 x.id.hi, .int .u64 x.id.lo] 113)).heap.size = w.heap.size + 1 from by simp)
  have Hl1 := Lib.hid (show ∀ k, S k → k < (w.alloc (.cells #[.int .i64 x.due, .int .i64 x.stamp, .int .u64 x.id.hi, .int .u64 x.id.lo] 113)).heap.size from fun k hk => by have := HSlt.out k hk; have := HZ.out; omega)
  have Hne := Lib.hid (show ¬ (Value.slice a0 hp.length cap).ownBlock = some L.b from fun he => (hSv L.b he).2 rfl)
  have Hng := Lib.hid (show ¬ (Value.slice a0 hp.length cap).ownBlock = some w.heap.size from fun he => by have := hlt _ (hSv _ he).1; omega)
  clear hb ho hlt hS hSv hh hA0
  go_enter Tryd.func68, Tryd.ntmps68
  go_upto_region 2 with fail
  go_cut [] from 6 (fun w' => IsQ w' (Gro S w w') L (hp ++ [x]) ∧ Fr S w w')
  case first =>
    have c6 := blk_cell Hb.out 6 (L.get _)
    have c6x := blk_cell (blk_alloc Hb.out (.cells #[.int .i64 x.due, .int .i64 x.stamp, .int .u64 x.id.hi, .int .u64 x.id.lo] 113)) 6 (L.get _)
    have f6x := blk_free (blk_alloc Hb.out (.cells #[.int .i64 x.due, .int .i64 x.stamp, .int .u64 x.id.hi, .int .u64 x.id.lo] 113)) 6
    have x0 := blk_cell HA0.out 0 rfl; have x1 := blk_cell HA0.out 1 rfl; have x2 := blk_cell HA0.out 2 rfl; have x3 := blk_cell HA0.out 3 rfl
    go_region_law (first | (refine step_append_fresh _ (w.alloc (.cells #[.int .i64 x.due, .int .i64 x.stamp, .int .u64 x.id.hi, .int .u64 x.id.lo] 113)).drew rfl (.tmp 10) (.tmp 12) 96 rfl 113 i0 (.agg #[.int .i64 0, .int .i64 0, .int .u64 0, .int .u64 0]) 4 32 Tryd.underlying96 hi hz0 hz1 hz2 rfl (by decide) (.slice a0 hp.length cap) hp.length _ (by simp only [Act.eval, Act.put]; rfl) Ho.out.drew #[.int .i64 x.due, .int .i64 x.stamp, .int .u64 x.id.hi, .int .u64 x.id.lo] rfl (by simp [Act.eval, Act.put]) rfl (by simp [Value.oneCell']) (by omega) (by omega) ?_; intro g2 cap2 w2 hown2 hf2 hat2; have hb' := hf2.blk (blk_alloc (w := (w.alloc (.cells #[.int .i64 x.due, .int .i64 x.stamp, .int .u64 x.id.hi, .int .u64 x.id.lo] 113)).drew) Hb.out _) Hne.out; have c6' := blk_cell hb' 6 (L.get _); have f6' := blk_free hb' 6))
    all_goals
      have HR := Lib.hid (rq_push (L := L) Hb.out Hs.out Hsv.out Hl1.out ((Fr.refl _ (w.alloc (.cells #[.int .i64 x.due, .int .i64 x.stamp, .int .u64 x.id.hi, .int .u64 x.id.lo] 113))).drew.alloc (.cells #[.int .i64 x.due, .int .i64 x.stamp, .int .u64 x.id.hi, .int .u64 x.id.lo] 113)) hown2 hf2 hat2)
      clear hown2 hf2 hat2
      go_wp2_with fail
      go_meet
      refine ⟨?_, (FA.out.mono (fun _ h => h.elim)).then_ HR.out.2 (fun k hk => .inl hk)⟩
      unfold IsQ
      rw [its_snoc, List.length_append, List.length_singleton]
      exact Rq.mono HR.out.1 (fun k hk => hk.imp id (fun h => ⟨by have := HZ.out; have := h.1; omega, h.2⟩)) (fun k hk => by
        rcases hk with hk | hk
        · exact Nat.lt_of_lt_of_le (Hl1.out k hk) HR.out.2.size
        · exact hk.2)
  case rest =>
  obtain ⟨q2, f2⟩ := hcut
  have Q2 := Lib.hid q2
  have F2 := Lib.hid f2
  have HUp := Lib.hid (up_any wc _ L (hp ++ [x]) hp.length q2 (by simp) (by simp; omega) (heap_snoc HH.out))
  obtain ⟨v2, hb2, ho2, -, -, -⟩ := q2
  obtain ⟨a2, cap2, rfl, -, -⟩ := own_form ho2
  obtain ⟨N, hN⟩ : ∃ N, (hp ++ [x]).length = N := ⟨_, rfl⟩
  rw [hN] at hb2
  have hN2 : N = hp.length + 1 := by rw [← hN]; simp
  have b1 : IntKind.i64.wrap ((N : Int) - 1) = hp.length := by rw [IntWalk.i64_in _ (by omega)]; omega
  have b2 : ((N : Int) - 1) = hp.length := by omega
  have b3 : IntKind.i64.wrap (hp.length : Int) = hp.length := IntWalk.i64_in _ (by omega)
  have c6 := blk_cell hb2 6 (L.get _)
  clear ho2 f2 hb2 hN hN2
  go_wp2_with fail
  refine HUp.out.mono ?_
  rintro e w5 ⟨rfl, h5, q5, u5, p5, f5⟩
  have Q5 := Lib.hid q5; have U5 := Lib.hid u5; have P5 := Lib.hid p5; have F5 := Lib.hid f5
  clear q5 u5 p5 f5
  go_wp2_with fail
  go_end0
  refine ⟨rfl, h5, Rq.mono Q5.out (fun k hk => hk.imp id (fun h => ⟨h.1, Nat.lt_of_lt_of_le h.2 F5.out.size⟩)) (fun k hk => ?_), U5.out, P5.out.trans (List.perm_append_comm (l₁ := hp) (l₂ := [x])), F2.out.then_ F5.out (fun k hk => hk.imp id (fun h => h.1))⟩
  rcases hk with hk | hk
  · exact Nat.lt_of_lt_of_le (HSlt.out k hk) (Nat.le_trans F2.out.size F5.out.size)
  · exact hk.2
/-- What Drop leaves. -/
def QDrop (S : Nat → Prop) (L : Bq 6) (hp : List Itm) (s : Int) (e : Ending) (w' : World) : Prop :=
  (e = .returned (.bool false) ∧ (∀ x ∈ hp, x.stamp ≠ s) ∧ IsQ w' S L hp) ∨ (e = .returned (.bool true) ∧ ∃ x hp', x.stamp = s ∧ IsQ w' S L hp' ∧ Heap hp' ∧ (x :: hp').Perm hp)
set_option maxRecDepth 4000 in
set_option maxHeartbeats 6400000 in
theorem qdrop_any (w : World) (S : Nat → Prop) (L : Bq 6) (hp : List Itm) (s : Int) (h : IsQ w S L hp) (hn : hp.length ≤ 90000) (hh : Heap hp) :
    Calls Tryd.prog 70 #[.pointer (some ⟨L.b, 6, none⟩), .int .i64 s] w fun e w' => QDrop S L hp s e w' ∧ Fr S w w' := by
  have HT := Lib.hid (fun W i x a b => take_any W S L hp i x a b (by omega) hh)
  have H := Lib.hid h
  have HSlt := Lib.hid (show ∀ k, S k → k < w.heap.size from fun k hk => Rq.lt h hk)
  obtain ⟨v, hb, ho, hS, hSv, hlt⟩ := h
  obtain ⟨a0, cap, rfl, hc, -⟩ := own_form ho
  have HB := Lib.hid hb
  have HO := Lib.hid ho
  obtain ⟨n, hnl⟩ : ∃ n, hp.length = n := ⟨_, rfl⟩
  have HN := Lib.hid hnl
  rw [hnl] at hb HB hn
  have HO2 := Lib.hid (show w.ownsRow 0 113 4 (.slice a0 n cap) n (its hp) from by rw [← hnl]; exact ho)
  have c6 := blk_cell hb 6 (L.get _)
  clear hb ho hlt hS hSv hh hc hnl
  go_enter Tryd.func70, Tryd.ntmps70
  go_wp2_with fail
  go_loopw [14] (fun i wr => ∃ j : Nat, j ≤ n ∧ i = .int .i64 j ∧ (∀ (k : Nat) (x : Itm), k < j → hp[k]? = some x → x.stamp ≠ s) ∧ Fr (fun _ => False) w wr) (fun i _ => ((n : Int) - intOf i).toNat)
  case atStart => exact ⟨0, by omega, rfl, fun k x hk => absurd hk (by omega), Fr.refl _ _⟩
  case round =>
    obtain ⟨j, hj, rfl, hno, hf⟩ := hrel
    have HF := Lib.hid hf
    have HNo := Lib.hid hno
    by_cases hjm : j < n
    · have hjI : (j : Int) < n := by omega
      have hjJ : (0 : Int) ≤ j := by omega
      obtain ⟨g, cc, e0⟩ := own_some HO2.out (by omega)
      simp only [Value.slice.injEq] at e0
      obtain ⟨rfl, -, rfl⟩ := e0
      obtain ⟨x, hx⟩ : ∃ x, hp[j]? = some x := ⟨hp[j]'(by rw [HN.out]; exact hjm), List.getElem?_eq_getElem _⟩
      obtain ⟨x0, x1, x2, x3⟩ := own_itm (own_fr HO2.out hf (fun _ _ h => h)) HN.out hx
      have HX := Lib.hid hx
      have w1 : IntKind.i64.wrap ((j : Int) + 1) = j + 1 := IntWalk.i64_in _ (by omega)
      have hQr := H.out.fr hf (fun _ _ h => h)
      have hlt := HSlt.out
      have hfs := hf.size
      have HTk := Lib.hid (HT.out _ j x (hQr.fr (S2 := fun _ => False) ((Fr.refl _ wr).alloc (.cells #[.int .i64 x.due, .int .i64 x.stamp, .int .u64 x.id.hi, .int .u64 x.id.lo] 113)) (fun _ _ h => h)) hx)
      by_cases he : x.stamp = s
      · have heI : (x.stamp == s) = true := by simpa using he
        have HE := Lib.hid he
        clear hf hno hx hQr hlt hfs he
        go_wp2_with fail
        refine HTk.out.mono ?_
        rintro e w5 ⟨rfl, h5, q5, u5, p5, f5⟩
        have Q5 := Lib.hid q5; have U5 := Lib.hid u5; have P5 := Lib.hid p5; have F5 := Lib.hid f5
        clear q5 u5 p5 f5
        go_wp2_with fail
        go_ret
        exact ⟨.inr ⟨rfl, x, h5, HE.out, Q5.out, U5.out, P5.out⟩, ((HF.out.mono (fun _ h => h.elim)).alloc _).then_ F5.out (fun k hk => .inl hk)⟩
      · have heI : (x.stamp == s) = false := by simpa using he
        have HE := Lib.hid he
        clear hf hno hx hQr hlt hfs he
        go_wp2_with fail
        go_roundw
        case rel => exact ⟨j + 1, by omega, by go_num, fun k y hk hy => by
          by_cases e : k = j
          · subst e
            rw [HX.out] at hy
            cases hy
            exact HE.out
          · exact HNo.out k y (by omega) hy, by (repeat (first | (with_reducible exact Fr.refl _ _) | (with_reducible refine Fr.drew ?_) | (with_reducible refine Fr.drewN ?_ _) | (with_reducible refine Fr.alloc ?_ _) | (with_reducible refine Fr.set1 ?_ _) | (with_reducible refine Fr.setNew ?_ (by omega) _))) <;> exact HF.out⟩
        case measure => simp [intOf]; omega
    · have hjI : ¬ (j : Int) < n := by omega
      clear hf hno
      go_wp2_with fail
      go_ret
      refine ⟨.inl ⟨rfl, fun x hx => ?_, H.out.fr HF.out (fun _ _ h => h)⟩, HF.out.mono (fun _ h => h.elim)⟩
      obtain ⟨k, hk, rfl⟩ := List.getElem_of_mem hx
      have := HN.out
      exact HNo.out k _ (by omega) (List.getElem?_eq_getElem hk)
end Go.Proofs.YtjchjpmgbmeohaaDoor

/- Package queue: Len, First. -/
set_option linter.unusedSimpArgs false
set_option linter.unusedVariables false
namespace Go.Proofs.YtjchjpmgbmeohaaDoor
open Go.RowKit

theorem qlen_any (w : World) (S : Nat → Prop) (L : Bq 6) (hp : List Itm) (h : IsQ w S L hp) :
    Calls Tryd.prog 103 #[.pointer (some ⟨L.b, 6, none⟩)] w fun e w' => e = .returned (.int .i64 hp.length) ∧ Fr (fun _ => False) w w' := by
  obtain ⟨v, hb, ho, hS, hSv, hlt⟩ := h
  obtain ⟨a0, cap, rfl, hc, -⟩ := own_form ho
  obtain ⟨n, hnl⟩ : ∃ n, hp.length = n := ⟨_, rfl⟩
  rw [hnl] at hb
  rw [hnl]
  have c6 := blk_cell hb 6 (L.get _)
  clear hb ho hlt hS hSv hc hnl
  go_enter Tryd.func103, Tryd.ntmps103
  go_wp2_with fail
  go_ret
  exact ⟨rfl, by repeat (first | (with_reducible exact Fr.refl _ _) | (with_reducible refine Fr.drew ?_) | (with_reducible refine Fr.drewN ?_ _) | (with_reducible refine Fr.alloc ?_ _) | (with_reducible refine Fr.set1 ?_ _) | (with_reducible refine Fr.setNew ?_ (by omega) _))⟩
def Itm.zero : Itm := ⟨0, 0, ⟨0, 0⟩⟩
set_option maxRecDepth 4000 in
set_option maxHeartbeats 3200000 in
theorem qfirst_any (w : World) (S : Nat → Prop) (L : Bq 6) (hp : List Itm) (x : Itm) (is : Bool) (h : IsQ w S L hp) (hx : hp[0]? = if is then some x else none) (hz : is = false → x = Itm.zero) (hn : hp.length ≤ 100000) :
    Calls Tryd.prog 84 #[.pointer (some ⟨L.b, 6, none⟩)] w fun e w' => e = .returned (.tuple #[.agg #[.int .i64 x.due, .int .i64 x.stamp, .int .u64 x.id.hi, .int .u64 x.id.lo], .bool is]) ∧ Fr (fun _ => False) w w' := by
  have HL := Lib.hid (fun W a => qlen_any W S L hp a)
  have H := Lib.hid h
  have HX := Lib.hid hx
  have FA := Lib.hid ((Fr.refl (fun _ => False) w).alloc (.cells #[.int .i64 0, .int .i64 0, .int .u64 0, .int .u64 0] 113))
  have BA := Lib.hid (heap_alloc_new w (.cells #[.int .i64 0, .int .i64 0, .int .u64 0, .int .u64 0] 113))
  have HQa := Lib.hid (HL.out _ (h.fr FA.out (fun _ _ h => h)))
  cases is with
  | false =>
    obtain rfl := hz rfl
    have hl : hp.length = 0 := by
      cases hp with
      | nil => rfl
      | cons a l => simp at hx
    rw [hl] at HQa
    clear hx h hl hz
    go_enter Tryd.func84, Tryd.ntmps84
    go_wp2_with fail
    refine HQa.out.mono ?_
    rintro e w5 ⟨rfl, f5⟩
    have F5 := Lib.hid (FA.out.then_ f5 (fun _ h => h.elim))
    have B5 := Lib.hid (f5.blk BA.out (fun h => h))
    clear f5
    go_wp2_with (first | ((refine wpList_store_row rfl 113 (.tmp 2) (.tmp 7) rfl w.heap.size #[.int .i64 0, .int .i64 0, .int .u64 0, .int .u64 0] rfl rfl B5.out rfl rfl (by simp [Value.oneCell']) ?_); intro w9 hb9 f9; have HB9 := Lib.hid hb9; have F9 := Lib.hid f9; clear hb9 f9) | fail)
    refine bodyPost_ret (results_cell2 (p := 2) (q := 3) rfl _ _ w.heap.size 113 _ (0, 0) _ rfl HB9.out Tryd.underlying113 rfl rfl) rfl ?_
    exact ⟨rfl, F5.out.then_ F9.out (fun k hk => .inr (by omega))⟩
  | true =>
    have hl : 0 < hp.length := (List.getElem?_eq_some_iff.1 hx).1
    have HL2 := Lib.hid hl
    obtain ⟨n, hnl⟩ : ∃ n, hp.length = n := ⟨_, rfl⟩
    have HN := Lib.hid hnl
    rw [hnl] at HQa hl
    obtain ⟨v, hb, ho, hS, hSv, hlt⟩ := h
    obtain ⟨g, cap, rfl⟩ := own_some ho (by omega)
    rw [hnl] at hb ho
    have HB := Lib.hid hb
    have HO := Lib.hid ho
    have b1 : ((n : Int) == 0) = false := by simp; omega
    have b2 : (0 : Int) < n := by omega
    have b3 : 0 < n := by omega
    clear hb ho hS hSv hlt hx hz hnl hl
    go_enter Tryd.func84, Tryd.ntmps84
    go_wp2_with fail
    refine HQa.out.mono ?_
    rintro e w5 ⟨rfl, f5⟩
    have F5 := Lib.hid (FA.out.then_ f5 (fun _ h => h.elim))
    have B5 := Lib.hid (f5.blk BA.out (fun h => h))
    have c6 := blk_cell (F5.out.blk HB.out (fun h => h)) 6 (L.get _)
    obtain ⟨x0, x1, x2, x3⟩ := own_itm (own_fr HO.out F5.out (fun _ _ h => h)) HN.out HX.out
    simp only [Nat.zero_mul, Nat.zero_add] at x0 x1 x2 x3
    clear f5
    go_wp2_with (first | ((refine wpList_store_row rfl 113 (.tmp 2) (.tmp 13) rfl w.heap.size #[.int .i64 x.due, .int .i64 x.stamp, .int .u64 x.id.hi, .int .u64 x.id.lo] rfl rfl B5.out rfl rfl (by simp [Value.oneCell']) ?_); intro w9 hb9 f9; have HB9 := Lib.hid hb9; have F9 := Lib.hid f9; clear hb9 f9) | fail)
    refine bodyPost_ret (results_cell2 (p := 2) (q := 3) rfl _ _ w.heap.size 113 _ (0, 0) _ rfl HB9.out Tryd.underlying113 rfl rfl) rfl ?_
    exact ⟨rfl, F5.out.then_ F9.out (fun k hk => .inr (by omega))⟩
end Go.Proofs.YtjchjpmgbmeohaaDoor

/- Books: what is to end goes on. -/
set_option linter.unusedSimpArgs false
set_option linter.unusedVariables false
namespace Go.Proofs.YtjchjpmgbmeohaaDoor
open Go.RowKit

/-- The queue's place in the state's block. -/
def Dd.L6 (d : Dd) (lv sv : Value) (c s : Int) : Bq 6 := ⟨d.B, fun v => #[lv, .pointer (some ⟨d.A, 0, none⟩), .pointer (some ⟨d.K, 0, none⟩), .pointer (some ⟨d.I, 0, none⟩), .pointer (some ⟨d.N, 0, none⟩), sv, v, .int .i64 c, .int .i64 s], fun _ => rfl, fun _ _ => rfl⟩
section
variable {w w' : World} {lab : Nat → Nat} {d : Dd} {r : Raw} {es : List Ent} {big : Nat} {lv sv qv : Value} {ps : List Pr} {hp : List Itm}
theorem Sta.ensAt (h : Sta w lab d r es big) (b : SB w lab d r es big lv sv qv ps hp) : IsQ w (fun k => lab k = 7 ∨ k = d.B) (d.L6 lv sv r.clock r.stamp) hp := by
  refine ⟨qv, b.blk, b.ens, .inr rfl, fun k hk => ⟨.inl (b.ensl k hk), fun e => ?_⟩, fun k hk => ?_⟩
  · have h1 := b.ensl k hk
    have h8 := h.labB
    rw [show k = d.B from e, h8] at h1
    cases h1
  · rcases hk with hk | rfl
    · exact h.lt k (by rw [hk]; decide)
    · exact h.lt _ (by rw [h.labB]; decide)
theorem Sta.reens (h : Sta w lab d r es big) (b : SB w lab d r es big lv sv qv ps hp) {S' : Nat → Prop} {hq : List Itm} {f : Int → Option Itm} {big' : Nat} (hf : Fr (fun k => lab k = 7 ∨ k = d.B) w w')
    (ho : IsQ w' S' (d.L6 lv sv r.clock r.stamp) hq) (hS : ∀ k, S' k → (lab k = 7 ∨ k = d.B) ∨ w.heap.size ≤ k) (hR : QRel hq f) (hb : big ≤ big') (hl : hq.length + es.length ≤ big') : Sta w' (ext lab w.heap.size w'.heap.size 7) d { r with ends := f } es big' := by
  have hr := ext_rel (c := 7) h hf.size
  have hn : ∀ k, (lab k = 7 ∨ k = d.B) → lab k = 7 ∨ lab k = 8 := fun k hk => hk.imp id (fun e => by rw [e]; exact h.labB)
  have hne : ∀ c, c ≠ 7 → c ≠ 8 → ∀ k, (lab k = 7 ∨ k = d.B) → lab k ≠ c := fun c h1 h8 k hs e => by
    rcases hn k hs with h | h
    · rw [h] at e; exact h1 e.symm
    · rw [h] at e; exact h8 e.symm
  have hk : ∀ k c, c ≠ 0 → lab k = c → ext lab w.heap.size w'.heap.size 7 k = c := fun k c h0 h1 => by rw [hr.nz k (by rw [h1]; exact h0), h1]
  obtain ⟨qv', hb', ho', _, hl', hlt'⟩ := ho
  refine ⟨⟨lv, sv, qv', ps, hq, ⟨hb', own_fr b.log hf (fun k hk hs => hne 1 (by decide) (by decide) k hs (b.logl k hk)), fun k h => hk k 1 (by decide) (b.logl k h), own_fr b.sts hf (fun k hk hs => hne 6 (by decide) (by decide) k hs (b.stsl k hk)), fun k h => hk k 6 (by decide) (b.stsl k h), b.orel, ho', fun k hk' => ?_, hR, Nat.le_trans b.psb hb, hl⟩⟩, hk _ 8 (by decide) h.labB, h.acc.rel (by decide) hf (hne 2 (by decide) (by decide)) hr, h.kep.rel (by decide) hf (hne 3 (by decide) (by decide)) hr, tab_more (h.ids.rel (by decide) hf (hne 4 (by decide) (by decide)) hr) hb, tab_more (h.nms.rel (by decide) hf (hne 5 (by decide) (by decide)) hr) hb, hr.lt, ents_rel h.ents hf (hne 9 (by decide) (by decide)) hr⟩
  have hs := hl' k hk'
  rcases hS k hs.1 with (h6 | rfl) | hge
  · exact hk k 7 (by decide) h6
  · exact absurd rfl hs.2
  · rw [ext, if_neg (by omega), if_pos (hlt' k hs.1)]
theorem Sta.stp7 (h : Sta w lab d r es big) (hf : Fr (fun k => lab k = 7 ∨ k = d.B) w w') : Stp w.heap.size w lab w' (ext lab w.heap.size w'.heap.size 7) := ext_stp (Nat.le_refl _) (hf.mono (fun k hk => by
  rcases hk with hk | rfl
  · rw [hk]; decide
  · rw [h.labB]; decide))
theorem ensPutS (w : World) (lab : Nat → Nat) (d : Dd) (r : Raw) (es : List Ent) (big : Nat) (x : Itm) (h : Sta w lab d r es big) (hb : big ≤ 90000) (hx : r.ends x.stamp = none) :
    Calls Tryd.prog 68 #[.pointer (some ⟨d.B, 6, none⟩), .agg #[.int .i64 x.due, .int .i64 x.stamp, .int .u64 x.id.hi, .int .u64 x.id.lo]] w fun e w' => e = .returned (.tuple #[]) ∧ ∃ lab', Sta w' lab' d { r with ends := upd r.ends x.stamp (some x) } es (big + 1) ∧ Stp w.heap.size w lab w' lab' := by
  obtain ⟨lv, sv, qv, ps, hp, b⟩ := h.bb
  have hpb := b.hpb
  refine (qput_any w _ (d.L6 lv sv r.clock r.stamp) hp x (h.ensAt b) (by omega) b.qrel.heap).mono ?_
  rintro e w' ⟨rfl, hq, ho, hh, hpm, hf⟩
  exact ⟨rfl, _, h.reens b hf ho (fun k hk => hk.imp id (fun h => h.1)) (b.qrel.put hh hpm hx) (Nat.le_succ _) (by rw [hpm.length_eq]; simp only [List.length_cons]; omega), h.stp7 hf⟩
theorem ensDropS (w : World) (lab : Nat → Nat) (d : Dd) (r : Raw) (es : List Ent) (big : Nat) (s : Int) (h : Sta w lab d r es big) (hb : big ≤ 90000) :
    Calls Tryd.prog 70 #[.pointer (some ⟨d.B, 6, none⟩), .int .i64 s] w fun e w' => e = .returned (.bool (r.ends s).isSome) ∧ ∃ lab', Sta w' lab' d { r with ends := upd r.ends s none } es big ∧ Stp w.heap.size w lab w' lab' := by
  obtain ⟨lv, sv, qv, ps, hp, b⟩ := h.bb
  have hpb := b.hpb
  refine (qdrop_any w _ (d.L6 lv sv r.clock r.stamp) hp s (h.ensAt b) (by omega) b.qrel.heap).mono ?_
  rintro e w' ⟨hq, hf⟩
  rcases hq with ⟨rfl, hno, ho⟩ | ⟨rfl, x, hq, hx, ho, hh, hpm⟩
  · have hn : r.ends s = none := by
      cases hx : r.ends s with
      | none => rfl
      | some y => obtain ⟨h1, h2⟩ := (b.qrel.iff s y).1 hx; exact absurd h2 (hno y h1)
    have e1 : upd r.ends s none = r.ends := by
      funext t
      by_cases e : t = s
      · rw [e, upd_self, hn]
      · rw [upd_ne _ _ e]
    rw [hn, e1]
    exact ⟨rfl, _, h.reens b hf ho (fun k hk => .inl hk) b.qrel (Nat.le_refl _) b.hpb, h.stp7 hf⟩
  · have hs : r.ends s = some x := (b.qrel.iff s x).2 ⟨hpm.mem_iff.1 (List.mem_cons_self ..), hx⟩
    have hl := hpm.length_eq
    rw [List.length_cons] at hl
    rw [hs]
    refine ⟨rfl, _, h.reens b hf ho (fun k hk => .inl hk) (hx ▸ b.qrel.drop hh hpm) (Nat.le_refl _) (by omega), h.stp7 hf⟩
/-- What First tells: none waits, or the one ahead of all. -/
def FirstR (f : Int → Option Itm) (x : Itm) (is : Bool) : Prop := (is = false ∧ ∀ s, f s = none) ∨ (is = true ∧ f x.stamp = some x ∧ ∀ s y, f s = some y → ¬ y.before x)
theorem ensFirstS (w : World) (lab : Nat → Nat) (d : Dd) (r : Raw) (es : List Ent) (big : Nat) (h : Sta w lab d r es big) (hb : big ≤ 90000) : ∃ x is, FirstR r.ends x is ∧
    Calls Tryd.prog 84 #[.pointer (some ⟨d.B, 6, none⟩)] w fun e w' => e = .returned (.tuple #[.agg #[.int .i64 x.due, .int .i64 x.stamp, .int .u64 x.id.hi, .int .u64 x.id.lo], .bool is]) ∧ Fr (fun _ => False) w w' := by
  obtain ⟨lv, sv, qv, ps, hp, b⟩ := h.bb
  have hpb := b.hpb
  cases hp0 : hp with
  | nil =>
    subst hp0
    refine ⟨Itm.zero, false, .inl ⟨rfl, fun s => ?_⟩, qfirst_any w _ (d.L6 lv sv r.clock r.stamp) [] Itm.zero false (h.ensAt b) rfl (fun _ => rfl) (by simp)⟩
    cases hx : r.ends s with
    | none => rfl
    | some y => obtain ⟨h1, -⟩ := (b.qrel.iff s y).1 hx; cases h1
  | cons x l =>
    subst hp0
    refine ⟨x, true, .inr ⟨rfl, (b.qrel.iff _ _).2 ⟨List.mem_cons_self .., rfl⟩, fun s y hy => ?_⟩, qfirst_any w _ (d.L6 lv sv r.clock r.stamp) (x :: l) x true (h.ensAt b) rfl (fun h => by cases h) (by omega)⟩
    obtain ⟨h1, -⟩ := (b.qrel.iff s y).1 hy
    obtain ⟨k, hk, e⟩ := List.getElem_of_mem h1
    exact heap_first b.qrel.heap (x := x) rfl k y (by rw [← e]; exact List.getElem?_eq_getElem hk)
end
end Go.Proofs.YtjchjpmgbmeohaaDoor

/- Books: when a transfer that waits ends. -/
set_option linter.unusedSimpArgs false
set_option linter.unusedVariables false
namespace Go.Proofs.YtjchjpmgbmeohaaDoor
open Go.RowKit

def Kp.itm (k : Kp) : Itm := ⟨IntKind.i64.wrap (k.move.born + k.move.timeout), k.move.stamp, k.move.id⟩
def dueB (k : Kp) : Bool := k.fate == 1 && decide (0 < k.move.timeout)
theorem blk_four {w : World} {g : Nat} {a b c e x y u v : Value} {t : TypeId} (h : w.heap[g]? = some (.cells #[a, b, c, e] t (0, 0))) : ((((w.setCell ⟨g, 0, none⟩ x).setCell ⟨g, 1, none⟩ y).setCell ⟨g, 2, none⟩ u).setCell ⟨g, 3, none⟩ v).heap[g]? = some (.cells #[x, y, u, v] t (0, 0)) := by
  have h2 := blk_set (blk_set (blk_set (blk_set h 0 x) 1 y) 2 u) 3 v
  simpa using h2
set_option maxRecDepth 4000 in
set_option maxHeartbeats 3200000 in
theorem due_any (w : World) (k : Kp) : Calls Tryd.prog 67 #[.agg k.cells.toArray] w fun e w' => e = .returned (.tuple #[.agg #[.int .i64 k.itm.due, .int .i64 k.itm.stamp, .int .u64 k.itm.id.hi, .int .u64 k.itm.id.lo], .bool (dueB k)]) ∧ Fr (fun _ => False) w w' := by
  obtain ⟨m, hm⟩ : ∃ m, k.move = m := ⟨_, rfl⟩
  obtain ⟨f, hf⟩ : ∃ f, k.fate = f := ⟨_, rfl⟩
  have hi : k.itm = ⟨IntKind.i64.wrap (m.born + m.timeout), m.stamp, m.id⟩ := by rw [Kp.itm, hm]
  have hd : dueB k = (f == 1 && decide (0 < m.timeout)) := by rw [dueB, hm, hf]
  rw [hi, hd]
  obtain ⟨C, hC⟩ : ∃ C, k.cells.toArray = C := ⟨_, rfl⟩
  rw [hC]
  have B0 := Lib.hid (blk_alloc (heap_alloc_new w (.cells C 63)) (.cells #[.int .i64 0, .int .i64 0, .int .u64 0, .int .u64 0] 113))
  have B1 := Lib.hid (blk1 w (.cells C 63) (.cells #[.int .i64 0, .int .i64 0, .int .u64 0, .int .u64 0] 113))
  have FA := Lib.hid (((Fr.refl (fun _ => False) w).alloc (.cells C 63)).alloc (.cells #[.int .i64 0, .int .i64 0, .int .u64 0, .int .u64 0] 113))
  have hg : ∀ (j : Nat) (v : Value), k.cells[j]? = some v → ((w.alloc (.cells C 63)).alloc (.cells #[.int .i64 0, .int .i64 0, .int .u64 0, .int .u64 0] 113)).cell? ⟨w.heap.size, j, none⟩ = some v := fun j v hv => blk_cell B0.out j (by rw [← hC]; simpa using hv)
  have q16 := hg 16 (.int .u64 m.id.hi) (by rw [← hm]; rfl)
  have q17 := hg 17 (.int .u64 m.id.lo) (by rw [← hm]; rfl)
  have q26 := hg 26 (.int .i64 m.timeout) (by rw [← hm]; rfl)
  have q30 := hg 30 (.int .i64 m.stamp) (by rw [← hm]; rfl)
  have q31 := hg 31 (.int .i64 m.born) (by rw [← hm]; rfl)
  have q32 := hg 32 (.int .i64 f) (by rw [← hf]; rfl)
  have z0 := blk_free B1.out 0; have z1 := blk_free B1.out 1; have z2 := blk_free B1.out 2; have z3 := blk_free B1.out 3
  have y0 := blk_cell B1.out 0 rfl; have y1 := blk_cell B1.out 1 rfl; have y2 := blk_cell B1.out 2 rfl; have y3 := blk_cell B1.out 3 rfl
  obtain ⟨bn, hbn⟩ : ∃ b, IntKind.i64.wrap (m.born + m.timeout) = b := ⟨_, rfl⟩
  rw [hbn]
  have HB4 := Lib.hid (fun (W : World) (h : W.heap[w.heap.size + 1]? = some (.cells #[.int .i64 0, .int .i64 0, .int .u64 0, .int .u64 0] 113 (0, 0))) => blk_four (x := .int .i64 bn) (y := .int .i64 m.stamp) (u := .int .u64 m.id.hi) (v := .int .u64 m.id.lo) h)
  have q26x : ((w.alloc (.cells C 63)).alloc (.cells #[.int .i64 bn, .int .i64 m.stamp, .int .u64 m.id.hi, .int .u64 m.id.lo] 113)).cell? ⟨w.heap.size, 26, none⟩ = some (.int .i64 m.timeout) := blk_cell (blk_alloc (heap_alloc_new w (.cells C 63)) _) 26 (by rw [← hC, ← hm]; rfl)
  clear hg hC hi hd hm hf
  cases hc : (f == 1)
  · go_enter Tryd.func67, Tryd.ntmps67
    go_upto_region 1 with fail
    go_region
    all_goals
      go_wp2_with fail
      refine bodyPost_ret (results_cell2 (p := 2) (q := 3) rfl _ _ (w.heap.size + 1) 113 _ (0, 0) _ rfl (blk_drew (blk1 w _ _)) Tryd.underlying113 rfl rfl) rfl ?_
      exact ⟨rfl, (((Fr.refl _ w).alloc _).alloc _).drew⟩
  by_cases ht : 0 < m.timeout
  · have Hd := Lib.hid (decide_eq_true ht)
    go_enter Tryd.func67, Tryd.ntmps67
    go_upto_region 1 with fail
    go_region
    all_goals
      go_wp2_with fail
      refine bodyPost_ret (results_cell2 (p := 2) (q := 3) rfl _ _ (w.heap.size + 1) 113 _ (0, 0) _ rfl (blk_drew (blk1 w _ _)) Tryd.underlying113 rfl rfl) rfl ?_
      exact ⟨by rw [Hd.out]; rfl, (((Fr.refl _ w).alloc _).alloc _).drew⟩
  · have Hd := Lib.hid (decide_eq_false ht)
    go_enter Tryd.func67, Tryd.ntmps67
    go_upto_region 1 with fail
    go_region
    all_goals
      go_wp2_with fail
      refine bodyPost_ret (results_cell2 (p := 2) (q := 3) rfl _ _ (w.heap.size + 1) 113 _ (0, 0) _ rfl (blk_drew (blk1 w _ _)) Tryd.underlying113 rfl rfl) rfl ?_
      exact ⟨by rw [Hd.out]; rfl, (((Fr.refl _ w).alloc _).alloc _).drew⟩
end Go.Proofs.YtjchjpmgbmeohaaDoor
