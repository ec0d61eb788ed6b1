/- Package probe: grow. -/
import Derived.Test.YtjchjpmgbmeohaaDoorPrF
import Derived.Laws.MakeOwn
import Derived.Laws.OwnMore
set_option linter.unusedSimpArgs false
set_option linter.unusedVariables false
namespace Go.Proofs.YtjchjpmgbmeohaaDoor
open Go.RowKit

/-! Plain. -/
theorem cnt_take {cs : List PC} {k : Nat} {c : PC} (q : Int) (hc : cs[k]? = some c) : cnt q (cs.take (k + 1)) = cnt q (cs.take k) + (if c.kind = q then 1 else 0) := by
  rw [cnt, cnt, List.take_add_one, hc, Option.toList_some, List.filter_append, List.length_append, List.filter_cons, List.filter_nil]
  by_cases h : c.kind = q
  · simp [h]
  · simp [h]
theorem cnt_take_le (q : Int) (cs : List PC) (k : Nat) : cnt q (cs.take k) ≤ cnt q cs := by
  have h := congrArg (cnt q) (List.take_append_drop k cs)
  rw [cnt, List.filter_append, List.length_append] at h
  have : cnt q (cs.take k) = ((cs.take k).filter (fun c => c.kind == q)).length := rfl
  omega
theorem has_take {cs : List PC} {k : Nat} {c : PC} (hc : cs[k]? = some c) (y : Nm) (a : Int) : Has (cs.take (k + 1)) y a ↔ Has (cs.take k) y a ∨ (c.kind = 1 ∧ c.key = y ∧ c.at_ = a) := by
  constructor
  · rintro ⟨p, d, hd, h1, h2, h3⟩
    rw [List.getElem?_take] at hd
    split at hd
    · by_cases e : p = k
      · subst e
        rw [hc] at hd
        obtain rfl := Option.some.inj hd
        exact .inr ⟨h1, h2, h3⟩
      · exact .inl ⟨p, d, by rw [List.getElem?_take, if_pos (by omega)]; exact hd, h1, h2, h3⟩
    · cases hd
  · rintro (⟨p, d, hd, h1, h2, h3⟩ | ⟨h1, h2, h3⟩)
    · rw [List.getElem?_take] at hd
      split at hd
      · exact ⟨p, d, by rw [List.getElem?_take, if_pos (by omega)]; exact hd, h1, h2, h3⟩
      · cases hd
    · exact ⟨k, c, by rw [List.getElem?_take, if_pos (by omega)]; exact hc, h1, h2, h3⟩
/-- The cells that are put into a new table: so far. -/
structure Regrow (cs : List PC) (k : Nat) (ds : List PC) : Prop where
  inv : PInv home ds
  none2 : cnt 2 ds = 0
  one : cnt 1 ds = cnt 1 (cs.take k)
  has : ∀ y a, Has ds y a ↔ Has (cs.take k) y a
theorem regrow_zero {cs : List PC} {n e : Nat} (hn : n = 2 ^ e) (h3 : 3 ≤ e) (h30 : e ≤ 30) : Regrow cs 0 (List.replicate n PC.zero) := by
  have f : ∀ q : Int, q ≠ 0 → cnt q (List.replicate n PC.zero) = 0 := fun q hq => by
    rw [cnt, List.length_eq_zero_iff, List.filter_eq_nil_iff]
    intro c hc
    rw [List.mem_replicate] at hc
    rw [hc.2]
    simpa [PC.zero] using fun h => hq h.symm
  refine ⟨pinv_empty hn h3 h30, f 2 (by decide), by rw [f 1 (by decide)]; rfl, fun y a => ⟨?_, ?_⟩⟩
  · rintro ⟨p, c, hc, hk, _⟩
    have := List.mem_of_getElem? hc
    rw [List.mem_replicate] at this
    rw [this.2] at hk
    exact absurd hk (by decide)
  · rintro ⟨p, c, hc, _⟩
    simp at hc
theorem regrow_free {cs ds : List PC} {k : Nat} (h : Regrow cs k ds) (hl : cnt 1 cs < ds.length) : ∃ p, p < ds.length ∧ knd ds p = 0 := by
  have h1 := cnt_all h.inv.kinds
  have h2 := h.none2
  have h3 := h.one
  have h4 := cnt_take_le 1 cs k
  exact free_of_cnt (by omega)
theorem regrow_skip {cs ds : List PC} {k : Nat} {c : PC} (h : Regrow cs k ds) (hc : cs[k]? = some c) (hk : c.kind ≠ 1) : Regrow cs (k + 1) ds :=
  ⟨h.inv, h.none2, by rw [cnt_take 1 hc, if_neg hk]; exact h.one, fun y a => by rw [has_take hc, h.has]; exact ⟨.inl, fun h => h.elim id (fun h => (hk h.1).elim)⟩⟩
theorem regrow_put {cs ds : List PC} {k p : Nat} {b : Bool} {x : Nm} {a : Int} (h : Regrow cs k ds) (hi : PInv home cs) (hc : cs[k]? = some ⟨x, a, 1⟩) (hf : Fnd home ds x p b) : Regrow cs (k + 1) (ds.set p ⟨x, a, 1⟩) := by
  have hno : ¬ IsIn ds x := by
    rintro ⟨q, d, hd, h1, h2⟩
    have hh : Has ds x d.at_ := ⟨q, d, hd, h1, h2, rfl⟩
    rw [h.has] at hh
    obtain ⟨r, e, he, e1, e2, _⟩ := hh
    rw [List.getElem?_take] at he
    split at he
    · have := hi.uniq r k e ⟨x, a, 1⟩ he hc e1 rfl e2
      omega
    · cases he
  obtain ⟨hp, hf⟩ := hf
  have hg : ds[p]? = some ds[p] := List.getElem?_eq_getElem hp
  rcases hf with ⟨_, c, h1, h2, h3⟩ | ⟨_, h1, _, h3⟩
  · exact (hno ⟨p, c, h1, h2, h3⟩).elim
  · rw [knd_at hg] at h1
    refine ⟨h.inv.put hg h1 a hno h3, ?_, ?_, fun y b => ?_⟩
    · have := cnt_set 2 (d := ⟨x, a, 1⟩) hg
      rw [h.none2, if_neg (show ¬ (1 : Int) = 2 by decide)] at this
      omega
    · have := cnt_set 1 (d := ⟨x, a, 1⟩) hg
      rw [if_neg h1, if_pos rfl, h.one] at this
      rw [cnt_take 1 hc, if_pos rfl]
      omega
    · rw [has_put hg h1 hno, h.has, has_take hc]
      exact ⟨fun h => h.elim .inl (fun h => .inr ⟨rfl, h.1.symm, h.2.symm⟩), fun h => h.elim .inl (fun h => .inr ⟨h.2.1.symm, h.2.2.symm⟩)⟩
theorem regrow_end {cs ds : List PC} {k : Nat} (h : Regrow cs k ds) (hk : cs.length ≤ k) : cnt 1 ds = cnt 1 cs ∧ ∀ y a, Has ds y a ↔ Has cs y a := by
  have e : cs.take k = cs := List.take_of_length_le hk
  exact ⟨by rw [h.one, e], fun y a => by rw [h.has, e]⟩

/-! The walk. -/
theorem Tryd.infoCell : (Tryd.prog.info? 141).map (fun i => (i.zero, i.size, i.bytes)) = some (some (.agg #[.int .u64 0, .int .u64 0, .int .i64 0, .int .u8 0]), 4, 32) := by kernel_rfl
theorem made_pcs (n : Nat) : madeCells #[Value.int .u64 0, .int .u64 0, .int .i64 0, .int .u8 0] (n * 4) = (pcs (List.replicate n PC.zero)).toArray := by
  apply Array.ext
  · simp [madeCells, pcs_len]
  · intro i h1 h2
    have hi : i < n * 4 := by simpa [madeCells] using h1
    have hq : i / 4 < (List.replicate n PC.zero).length := by rw [List.length_replicate]; omega
    have h := pcs_get (List.replicate n PC.zero) hq (i % 4) (Nat.mod_lt _ (by decide))
    rw [show i / 4 * 4 + i % 4 = i by omega, List.getElem_replicate] at h
    have h3 : (pcs (List.replicate n PC.zero)).toArray[i]? = (PC.cells PC.zero)[i % 4]? := by simpa using h
    have h4 : (madeCells #[Value.int .u64 0, .int .u64 0, .int .i64 0, .int .u8 0] (n * 4))[i]? = (PC.cells PC.zero)[i % 4]? := by
      have hm : i % 4 < 4 := Nat.mod_lt _ (by decide)
      obtain ⟨r, hr⟩ : ∃ r, i % 4 = r := ⟨_, rfl⟩
      have hl : (madeCells #[Value.int .u64 0, .int .u64 0, .int .i64 0, .int .u8 0] (n * 4))[i]? = some (#[Value.int .u64 0, .int .u64 0, .int .i64 0, .int .u8 0][i % 4]!) := by
        rw [Array.getElem?_eq_getElem h1]; simp [madeCells]
      rw [hl, hr]
      rw [hr] at hm
      rcases r with _ | _ | _ | _ | r
      · rfl
      · rfl
      · rfl
      · rfl
      · omega
    have h5 := h4.trans h3.symm
    rw [Array.getElem?_eq_getElem h1, Array.getElem?_eq_getElem h2] at h5
    exact Option.some.inj h5
def GrowPost (S : Nat → Prop) (T : Nat) (cs : List PC) (w : World) (e : Ending) (w' : World) : Prop :=
  ∃ cs', e = .returned (.tuple #[]) ∧ IsT w' (Gro S w w') T cs' ∧ (∀ y a, Has cs' y a ↔ Has cs y a) ∧ cnt 1 cs' = cnt 1 cs ∧ cnt 2 cs' = 0 ∧ 3 * (cnt 1 cs + 1) ≤ cs'.length ∧ Fr S w w'
end Go.Proofs.YtjchjpmgbmeohaaDoor
