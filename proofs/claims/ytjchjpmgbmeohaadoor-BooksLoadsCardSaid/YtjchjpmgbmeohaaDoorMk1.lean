/- Several texts in one, for the law BooksBack: Base, Eqs, EqNum, Nm, Whole, BkA, BkB, BkC, BkD, BkE, Row, BkF, EqAcc. Each says what it shows; conditions: what each theorem names. -/
import Derived.WalkKit
import Derived.Deep.AppendLies
import Derived.Deep.Draws
import Derived.Lib.AppendStr
import Derived.Laws.BytesArg
import Derived.Laws.StructEq
import Derived.Test.YtjchjpmgbmeohaaDoorProg
import Derived.KernelRfl
import Derived.BigQuiet
import Derived.Lib.Hide
import Derived.Deep.DeepMust
import Derived.Deep.MidRow
import Derived.Laws.Externs
import Derived.Shelf.Spec.BitsCarry
import Derived.Deep.RegionHeld3
import Derived.Deep.CutBlock
import Derived.Deep.Slices
/- Words for walks over blocks: what a call keeps (Fr), blocks that are known whole, rows that are owned. No program in sight. -/
set_option linter.unusedSimpArgs false
set_option linter.unusedVariables false
namespace Go.Proofs.YtjchjpmgbmeohaaDoor
open Go.RowKit
open Go.Lib (strCells strCells_length run_append_own_string run_append_room_string run_append_grow_string)

/-- What may have turned between two worlds lies in S, or is new. -/
structure Fr (S : Nat → Prop) (w w' : World) : Prop where
  os : w'.os = w.os
  tape : w'.tape = w.tape
  output : w'.output = w.output
  size : w.heap.size ≤ w'.heap.size
  block : ∀ k, k < w.heap.size → ¬ S k → w'.heap[k]? = w.heap[k]?

section
variable {S S2 : Nat → Prop} {w w' w2 : World}
theorem Fr.refl (S : Nat → Prop) (w : World) : Fr S w w := ⟨rfl, rfl, rfl, Nat.le_refl _, fun _ _ _ => rfl⟩
theorem Fr.then_ (h : Fr S w w') (k : Fr S2 w' w2) (hs : ∀ k, S2 k → S k ∨ w.heap.size ≤ k) : Fr S w w2 :=
  ⟨k.os.trans h.os, k.tape.trans h.tape, k.output.trans h.output, Nat.le_trans h.size k.size,
    fun i hi hn => (k.block i (Nat.lt_of_lt_of_le hi h.size) (fun h2 => (hs i h2).elim hn (fun h3 => by omega))).trans (h.block i hi hn)⟩
theorem Fr.mono (h : Fr S w w') (hs : ∀ k, S k → S2 k) : Fr S2 w w' := ⟨h.os, h.tape, h.output, h.size, fun i hi hn => h.block i hi (fun hk => hn (hs i hk))⟩
theorem Fr.of_below (h : Below w.heap.size w w') (S : Nat → Prop) : Fr S w w' := ⟨h.os, h.tape, h.output, h.size, fun i hi _ => h.block i hi⟩
theorem Fr.below {B : Nat} (h : Fr S w w') (hS : ∀ k, S k → B ≤ k) (hB : B ≤ w.heap.size) : Below B w w' := ⟨h.os, h.tape, h.output, h.size, fun i hi => h.block i (by omega) (fun hk => by have := hS i hk; omega)⟩
theorem Fr.drew (h : Fr S w w') : Fr S w w'.drew := ⟨h.os, h.tape, h.output, h.size, h.block⟩
theorem Fr.drewN (h : Fr S w w') (n : Nat) : Fr S w (w'.drewN n) := ⟨h.os, h.tape, h.output, h.size, h.block⟩
theorem Fr.alloc (h : Fr S w w') (o : Obj) : Fr S w (w'.alloc o) :=
  h.then_ (S2 := fun _ => False) ⟨rfl, rfl, rfl, by simp, fun k hk _ => Below.heap_alloc _ _ _ hk⟩ (fun _ hk => hk.elim)
theorem Fr.setCell (h : Fr S w w') {p : Addr} (hp : S p.block ∨ w.heap.size ≤ p.block) (u : Value) : Fr S w (w'.setCell p u) :=
  h.then_ (S2 := fun k => k = p.block) ⟨rfl, rfl, rfl, by simp [World.setCell], fun k _ hn => Below.heap_setCell _ _ _ _ hn⟩ (fun k hk => by rw [hk]; exact hp)
theorem Fr.set {g j : Nat} (h : Fr S w w') (hp : S g) (u : Value) : Fr S w (w'.setCell ⟨g, j, none⟩ u) := h.setCell (p := ⟨g, j, none⟩) (.inl hp) u
theorem Fr.set1 {g j : Nat} (h : Fr (fun k => k = g) w w') (u : Value) : Fr (fun k => k = g) w (w'.setCell ⟨g, j, none⟩ u) := h.setCell (p := ⟨g, j, none⟩) (.inl rfl) u
theorem Fr.setNew {g j : Nat} (h : Fr S w w') (hp : w.heap.size ≤ g) (u : Value) : Fr S w (w'.setCell ⟨g, j, none⟩ u) := h.setCell (p := ⟨g, j, none⟩) (.inr hp) u
theorem Fr.grown {row : Option Nat} (h : Fr S w w') (hg : w'.grownBy w2 row) (hr : ∀ k, row = some k → S k ∨ w.heap.size ≤ k) : Fr S w w2 :=
  h.then_ (S2 := fun k => row = some k) ⟨hg.os, hg.tape, hg.output, hg.size, fun i hi hn => hg.block i hi (fun he => hn he.symm)⟩ hr
theorem Fr.blk {g : Nat} {o : Obj} (h : Fr S w w') (hb : w.heap[g]? = some o) (hn : ¬ S g) : w'.heap[g]? = some o :=
  (h.block g (Array.getElem?_eq_some_iff.1 hb).1 hn).trans hb
theorem Fr.cell {p : Addr} {v : Value} (h : Fr S w w') (hc : w.cell? p = some v) (hn : ¬ S p.block) : w'.cell? p = some v := by
  have := h.block p.block (World.block_lt_of_cell? w p hc) hn
  simpa [World.cell?, this] using hc
theorem Fr.grownBy {row : Option Nat} (h : w.grownBy w' row) : Fr (fun k => some k = row) w w' := (Fr.refl _ w).grown h (fun _ hk => .inl hk.symm)
end

section
variable {w : World} {g : Nat} {c : Array Value} {t : TypeId} {f : Nat × Nat}
theorem blk_cell (h : w.heap[g]? = some (.cells c t f)) (j : Nat) {v : Value} (hv : c[j]? = some v) : w.cell? ⟨g, j, none⟩ = some v := by
  simp [World.cell?, h, hv]
theorem blk_free (h : w.heap[g]? = some (.cells c t (0, 0))) (j : Nat) : w.frozen? ⟨g, j, none⟩ = false := by
  simp [World.frozen?, h]
theorem blk_lt {o : Obj} (h : w.heap[g]? = some o) : g < w.heap.size := (Array.getElem?_eq_some_iff.1 h).1
theorem blk_alloc {o : Obj} (h : w.heap[g]? = some o) (o2 : Obj) : (w.alloc o2).heap[g]? = some o := (Below.heap_alloc w o2 g (blk_lt h)).trans h
theorem blk_far {o : Obj} (h : w.heap[g]? = some o) {p : Addr} (hn : g ≠ p.block) (u : Value) : (w.setCell p u).heap[g]? = some o := (Below.heap_setCell _ _ _ _ hn).trans h
theorem blk_far2 {o : Obj} (h : w.heap[g]? = some o) {b j : Nat} (hn : g ≠ b) (u : Value) : (w.setCell ⟨b, j, none⟩ u).heap[g]? = some o := (Below.heap_setCell _ _ _ _ hn).trans h
theorem blk_drew {o : Obj} (h : w.heap[g]? = some o) : w.drew.heap[g]? = some o := h
theorem blk_drewN {o : Obj} (h : w.heap[g]? = some o) (n : Nat) : (w.drewN n).heap[g]? = some o := h
theorem blk_set (h : w.heap[g]? = some (.cells c t f)) (j : Nat) (u : Value) : (w.setCell ⟨g, j, none⟩ u).heap[g]? = some (.cells (c.setIfInBounds j u) t f) := by
  simp [World.setCell, Array.getElem?_modify, h]
theorem blk_grown {o : Obj} {w' : World} {row : Option Nat} (h : w.heap[g]? = some o) (hg : w.grownBy w' row) (hn : some g ≠ row) : w'.heap[g]? = some o := (hg.block g (blk_lt h) hn).trans h
end

/-- Blocks of S, and what was made between two worlds. -/
def Gro (S : Nat → Prop) (w w' : World) (k : Nat) : Prop := S k ∨ (w.heap.size ≤ k ∧ k < w'.heap.size)

section
variable {w w' : World} {base : Nat} {e : TypeId} {size : Nat} {v : Value} {n : Nat} {xs : List Value} {S : Nat → Prop}
theorem own_fr (h : w.ownsRow base e size v n xs) (hf : Fr S w w') (hn : ∀ k, v.ownBlock = some k → ¬ S k) : w'.ownsRow base e size v n xs := by
  refine ⟨h.1, ?_⟩
  rcases h.2 with h2 | ⟨g, cap, cur, rfl, hb, hh, r⟩
  · exact .inl h2
  · exact .inr ⟨g, cap, cur, rfl, hb, hf.blk hh (hn g rfl), r⟩
theorem own_lt (h : w.ownsRow base e size v n xs) {k : Nat} (hk : v.ownBlock = some k) : k < w.heap.size := (h.lt k hk).2
theorem own_base (h : w.ownsRow base e size v n xs) : w.ownsRow 0 e size v n xs := by
  refine ⟨h.1, ?_⟩
  rcases h.2 with h2 | ⟨g, cap, cur, hv, _, r⟩
  · exact .inl h2
  · exact .inr ⟨g, cap, cur, hv, Nat.zero_le _, r⟩
/-- What a value looks like that owns a row. -/
theorem own_form (h : w.ownsRow base e size v n xs) : ∃ a cap, v = .slice a n cap ∧ n ≤ cap ∧ (∀ j u, xs[j]? = some u → ∃ b, a = some b ∧ w.cell? (b.add j) = some u) := by
  rcases h.2 with ⟨rfl, rfl⟩ | ⟨g, cap, cur, rfl, _, hh, hc, _⟩
  · refine ⟨none, 0, rfl, Nat.le_refl _, fun j u hu => ?_⟩
    have := h.1
    simp at this; subst this; simp at hu
  · exact ⟨_, cap, rfl, hc, fun j u hu => ⟨_, rfl, h.cells rfl j u hu⟩⟩
end

theorem own_slice_lies {g n cap k H : Nat} {b : Option Nat} (hk : (Value.slice (some ⟨g, 0, none⟩) n cap).ownBlock = some k) (h3 : b = some g ∨ g = H) : b = some k ∨ H ≤ k := by
  have e : g = k := by simpa [Value.ownBlock] using hk
  rcases h3 with h | h
  · exact .inl (by rw [h, e])
  · exact .inr (by omega)

/-- append(s, x), x laid in a block of its own just before, as a step of a region that draws. -/
theorem step_append_fresh {P : Program} {ops : Array Oper} {o : Oper} {a : Act} {K : Act → World → Prop} {Q : Exit → Act → World → Prop} {E : Prop} (w w0 : World) (hgd : o.guard = none) (s x : Operand) (t : TypeId)
    (ho : o.op = .call { callee := .builtin .append, args := #[s, x], argTypes := #[t, t] })
    (e : TypeId) (i : TypeInfo) (z : Value) (size bytes : Nat) (ht : P.underlying t = some (.slice e)) (hi : P.info? e = some i) (hz : i.zero = some z)
    (hsize : i.size = size) (hby : i.bytes = bytes) (hzs : z.cells.size = size) (hsz : 0 < size)
    (v : Value) (n : Nat) (xs : List Value) (hs : a.eval s = v) (hown : w0.ownsRow 0 e size v n xs) (us : Array Value) (hw : w = w0.alloc (.cells us e)) (hx : a.eval x = .slice (some ⟨w0.heap.size, 0, none⟩) 1 1)
    (hus : us.size = size) (h1 : ∀ u ∈ us.toList, u.oneCell' = true) (hb : (n + 1) * bytes ≤ 140737488355328) (hn : n + 1 ≤ 140737488355328)
    (h : ∀ g cap w', w'.ownsRow 0 e size (.slice (some ⟨g, 0, none⟩) (n + 1) cap) (n + 1) (xs ++ us.toList) → Fr (fun k => v.ownBlock = some k) w w' → (∀ k, (Value.slice (some ⟨g, 0, none⟩) (n + 1) cap).ownBlock = some k → v.ownBlock = some k ∨ w.heap.size ≤ k) → K (a.put o.dst (.slice (some ⟨g, 0, none⟩) (n + 1) cap)) w') :
    if Region.wanted o (yielded ops a.tmps) = true then Oper.wp P o a w K Q else E := by
  subst hw
  refine step_append_lies _ hgd s x t ho 0 e i z size bytes ht hi hz hsize hby hzs hsz v n xs hs (hown.alloc _) ⟨w0.heap.size, 0, none⟩ 1 1 us.toList hx (by simp [hus]) (fun j u hu => ?_) h1 (by omega) (by unfold maxLen; omega) hb (Nat.zero_le _) _ rfl
    (fun g cap w' h1 h2 h3 h4 => h g cap w' h1 (Fr.grownBy h2 |>.mono fun k hk => hk.symm) (fun k hk => own_slice_lies hk h3))
  have hadd : (⟨w0.heap.size, 0, none⟩ : Addr).add j = ⟨w0.heap.size, j, none⟩ := by unfold Addr.add; split <;> simp_all
  rw [hadd]
  refine blk_cell (c := us) (t := e) (f := (0, 0)) (heap_alloc_new w0 _) j (by simpa using hu)

/-- string(b), b a row of bytes that is owned. -/
theorem run_convert_own {P : Program} {w : World} {base : Nat} {et : TypeId} {l : List Int} {a : Option Addr} {cap : Nat} (h : w.ownsRow base et 1 (.slice a l.length cap) l.length (l.map (Value.int .u8)))
    (src e : TypeId) (hs : P.underlying src = some (.slice e)) (he : P.underlying e = some (.int .u8)) :
    ∀ dst, P.underlying dst = some .string → (convert src dst (.slice a l.length cap)).run P w = .ok (.string (strOfNums l)) w := by
  intro dst hd
  rcases h.2 with ⟨hv, h0⟩ | ⟨g, cap', cur, hv, hb, hh, hc, hm, hcs, ht⟩
  · obtain rfl : l = [] := List.eq_nil_of_length_eq_zero h0
    simp only [Value.slice.injEq] at hv
    obtain ⟨rfl, _, rfl⟩ := hv
    exact run_convert_bytes_nil w src e hs he _ _ dst hd
  · simp only [Value.slice.injEq] at hv
    obtain ⟨rfl, _, rfl⟩ := hv
    refine run_convert_bytes_arg w src e hs he g 0 _ _ l rfl (fun i hi => ?_) dst hd
    have := h.cells (g := g) rfl i (.int .u8 (l.getD i 0)) (by simp [List.getD, hi])
    have hadd : (⟨g, 0, none⟩ : Addr).add i = ⟨g, 0 + i, none⟩ := by unfold Addr.add; split <;> simp_all
    rwa [hadd] at this

section
variable {P : Program} (w : World)
/-- append(b, s...), s a string: the new row is the old one's block, or a new one. -/
theorem run_append_str_lies (t u ty e : TypeId) (i : TypeInfo) (ht : P.underlying t = some (.slice e)) (hu : P.underlying u = some .string) (hi : P.info? e = some i) (hz : i.zero = some (.int .u8 0))
    (hsize : i.size = 1) (hby : i.bytes = 1)
    (v : Value) (n : Nat) (xs : List Value) (hown : w.ownsRow 0 e 1 v n xs) (s : ByteArray) (hb : n + s.size ≤ 140737488355328) :
    ∃ a cap w', (Builtin.append_ #[t, u] ty #[v, .string s]).run P w = .ok (.slice a (n + s.size) cap) w' ∧ w'.ownsRow 0 e 1 (.slice a (n + s.size) cap) (n + s.size) (xs ++ strCells s) ∧
      Fr (fun k => v.ownBlock = some k) w w' ∧ (∀ k, (Value.slice a (n + s.size) cap).ownBlock = some k → v.ownBlock = some k ∨ w.heap.size ≤ k) := by
  have hm : n + s.size ≤ maxLen := by unfold maxLen; omega
  obtain ⟨v', w', hr, h2, h3, _⟩ := run_append_own_string (P := P) w 0 t u ty e i ht hu hi hz hsize hby v n xs hown s hm hb (Nat.zero_le _)
  obtain ⟨a, cap, rfl, _, _⟩ := own_form h2
  refine ⟨a, cap, w', hr, h2, (Fr.grownBy h3).mono (fun k hk => hk.symm), fun k hk => ?_⟩
  rcases hown.2 with ⟨rfl, rfl⟩ | ⟨g, cp, cur, rfl, hbg, hg, hnc, hcm, hcs, htake⟩
  · have hx : xs = [] := List.eq_nil_of_length_eq_zero (by simpa using hown.1)
    subst hx
    obtain ⟨v2, w2, hr2, h4, _, _⟩ := run_append_own_string (P := P) w w.heap.size t u ty e i ht hu hi hz hsize hby _ 0 [] (World.ownsRow_nil w w.heap.size e 1) s hm hb (Nat.le_refl _)
    rw [hr] at hr2
    simp only [Result.ok.injEq] at hr2
    obtain ⟨rfl, rfl⟩ := hr2
    exact .inr (h4.lt k hk).1
  · by_cases hroom : n + s.size ≤ cp
    · have hr2 := run_append_room_string (P := P) w t u ty e i ht hu hi hsize g n cp cur hg s hroom (by omega)
      rw [hr] at hr2
      simp only [Result.ok.injEq, Value.slice.injEq] at hr2
      obtain ⟨⟨rfl, _⟩, _⟩ := hr2
      exact .inl hk
    · have holds : ∀ j u, xs[j]? = some u → w.cell? ((⟨g, 0, none⟩ : Addr).add j) = some u := hown.cells (g := g) rfl
      have hr2 := run_append_grow_string (P := P) w t u ty e i (.int .u8 0) ht hu hi hz ⟨g, 0, none⟩ n cp xs (by rw [hsize]; simpa using hown.1) holds s (by omega) (by omega) (by rw [hby]; exact growslice_fits (by omega) (by omega))
      rw [hr] at hr2
      simp only [Result.ok.injEq, Value.slice.injEq] at hr2
      obtain ⟨⟨rfl, _⟩, _⟩ := hr2
      simp [Value.ownBlock] at hk
      exact .inr (by omega)

theorem wp_append_str {o : Oper} {a : Act} {K : Act → World → Prop} {Q : Exit → Act → World → Prop} (sl x : Operand) (t u : TypeId)
    (ho : o.op = .call { callee := .builtin .append, args := #[sl, x], argTypes := #[t, u] })
    (e : TypeId) (i : TypeInfo) (ht : P.underlying t = some (.slice e)) (hu : P.underlying u = some .string) (hi : P.info? e = some i) (hz : i.zero = some (.int .u8 0))
    (hsize : i.size = 1) (hby : i.bytes = 1)
    (v : Value) (n : Nat) (xs : List Value) (hs : a.eval sl = v) (hown : w.ownsRow 0 e 1 v n xs) (s : ByteArray) (hx : a.eval x = .string s) (hb : n + s.size ≤ 140737488355328)
    (h : ∀ g cap w', w'.ownsRow 0 e 1 (.slice g (n + s.size) cap) (n + s.size) (xs ++ strCells s) → Fr (fun k => v.ownBlock = some k) w w' → (∀ k, (Value.slice g (n + s.size) cap).ownBlock = some k → v.ownBlock = some k ∨ w.heap.size ≤ k) → K (a.put o.dst (.slice g (n + s.size) cap)) w') : o.wp P a w K Q := by
  obtain ⟨g, cap, w', hr, h2, h3, h4⟩ := run_append_str_lies (P := P) w t u o.type e i ht hu hi hz hsize hby v n xs hown s hb
  unfold Oper.wp execOp
  simp only [ho, resolve, invoke, builtin, Sem.run_bind, Sem.run_pure, Result.andThen_ok, List.map_toArray, List.map_cons, List.map_nil, hs, hx, hr]
  exact h g cap w' h2 h3 h4

theorem wpList_append_str {ops : Array Oper} {rest : List Oper} {o : Oper} {a : Act} {Q : Exit → Act → World → Prop} (hgd : o.guard = none) (sl x : Operand) (t u : TypeId)
    (ho : o.op = .call { callee := .builtin .append, args := #[sl, x], argTypes := #[t, u] })
    (e : TypeId) (i : TypeInfo) (ht : P.underlying t = some (.slice e)) (hu : P.underlying u = some .string) (hi : P.info? e = some i) (hz : i.zero = some (.int .u8 0))
    (hsize : i.size = 1) (hby : i.bytes = 1)
    (v : Value) (n : Nat) (xs : List Value) (hs : a.eval sl = v) (hown : w.ownsRow 0 e 1 v n xs) (s : ByteArray) (hx : a.eval x = .string s) (hb : n + s.size ≤ 140737488355328)
    (h : ∀ g cap w', w'.ownsRow 0 e 1 (.slice g (n + s.size) cap) (n + s.size) (xs ++ strCells s) → Fr (fun k => v.ownBlock = some k) w w' → (∀ k, (Value.slice g (n + s.size) cap).ownBlock = some k → v.ownBlock = some k ∨ w.heap.size ≤ k) → wpList P ops Q rest (a.put o.dst (.slice g (n + s.size) cap)) w') : wpList P ops Q (o :: rest) a w :=
  wpList_plain hgd fun _ hK => wp_append_str w sl x t u ho e i ht hu hi hz hsize hby v n xs hs hown s hx hb fun g cap w' h1 h2 h3 => hK _ _ (h g cap w' h1 h2 h3)

theorem step_append_str {ops : Array Oper} {o : Oper} {a : Act} {K : Act → World → Prop} {Q : Exit → Act → World → Prop} {E : Prop} (hgd : o.guard = none) (sl x : Operand) (t u : TypeId)
    (ho : o.op = .call { callee := .builtin .append, args := #[sl, x], argTypes := #[t, u] })
    (e : TypeId) (i : TypeInfo) (ht : P.underlying t = some (.slice e)) (hu : P.underlying u = some .string) (hi : P.info? e = some i) (hz : i.zero = some (.int .u8 0))
    (hsize : i.size = 1) (hby : i.bytes = 1)
    (v : Value) (n : Nat) (xs : List Value) (hs : a.eval sl = v) (hown : w.ownsRow 0 e 1 v n xs) (s : ByteArray) (hx : a.eval x = .string s) (hb : n + s.size ≤ 140737488355328)
    (h : ∀ g cap w', w'.ownsRow 0 e 1 (.slice g (n + s.size) cap) (n + s.size) (xs ++ strCells s) → Fr (fun k => v.ownBlock = some k) w w' → (∀ k, (Value.slice g (n + s.size) cap).ownBlock = some k → v.ownBlock = some k ∨ w.heap.size ≤ k) → K (a.put o.dst (.slice g (n + s.size) cap)) w') :
    if Region.wanted o (yielded ops a.tmps) = true then Oper.wp P o a w K Q else E := by
  have hw : Region.wanted o (yielded ops a.tmps) = true := by simp [Region.wanted, hgd]
  rw [if_pos hw]
  exact wp_append_str w sl x t u ho e i ht hu hi hz hsize hby v n xs hs hown s hx hb h
end
end Go.Proofs.YtjchjpmgbmeohaaDoor

/- '==' of structs as one Bool. -/
set_option linter.unusedSimpArgs false
set_option linter.unusedVariables false
namespace Go.Proofs.YtjchjpmgbmeohaaDoor
open Go.RowKit
section
variable {P : Program} {d : Nat} {xs ys : Array Value} {f : Field} {fs : List Field} {a b : Value} {r s : Bool} {w : World}
theorem eqs_cons (hn : f.name ≠ "_") (ha : (part f.type xs f.offset).run P w = .ok a w) (hb : (part f.type ys f.offset).run P w = .ok b w) (he : (Op.equalIn d f.type a b).run P w = .ok r w) (hr : (Op.eqFields d xs ys fs).run P w = .ok s w) : (Op.eqFields d xs ys (f :: fs)).run P w = .ok (r && s) w := by
  rw [Op.eqFields, if_pos hn]
  simp only [Sem.run_bind, ha, hb, he, Result.andThen_ok]
  cases r <;> simp [hr]
theorem eqs_last (hn : f.name ≠ "_") (ha : (part f.type xs f.offset).run P w = .ok a w) (hb : (part f.type ys f.offset).run P w = .ok b w) (he : (Op.equalIn d f.type a b).run P w = .ok r w) : (Op.eqFields d xs ys [f]).run P w = .ok r w := by
  have h := eqs_cons (fs := []) (s := true) hn ha hb he (by simp [Op.eqFields])
  rwa [Bool.and_true] at h
theorem eqs_of {t : TypeId} {fs : Array Field} (hu : P.underlying t = some (.struct fs)) (hp : P.stoodInHeld t = false) (h : (Op.eqFields d xs ys fs.toList).run P w = .ok r w) : (Op.equalIn (d + 1) t (.agg xs) (.agg ys)).run P w = .ok r w := by
  have hf : P.fieldsOf t = fs := by simp [Program.fieldsOf, hu]
  rw [run_equalIn_struct (P := P) w d t xs ys (by rw [hf]; exact hu) hp, hf]
  exact h
end
end Go.Proofs.YtjchjpmgbmeohaaDoor

/- '==' of numbers of 128 bits. -/
set_option linter.unusedSimpArgs false
set_option linter.unusedVariables false
namespace Go.Proofs.YtjchjpmgbmeohaaDoor
open Go.RowKit

theorem eq_Num (d : Nat) (w : World) (x0 y0 x1 y1 : Int) :
    (Op.equalIn (d + 2) 24 (.agg #[.int .u64 x0, .int .u64 x1]) (.agg #[.int .u64 y0, .int .u64 y1])).run Tryd.prog w = .ok (x0 == y0 && (x1 == y1)) w := by
  refine eqs_of Tryd.underlying24 (by kernel_rfl) ?_
  refine eqs_cons (by decide) (by go_simp; rfl) (by go_simp; rfl) (by go_simp) ?_
  exact eqs_last (by decide) (by go_simp; rfl) (by go_simp; rfl) (by go_simp)
theorem eqm_Num (w : World) (x0 y0 x1 y1 : Int) :
    (Op.equalIn 10000 24 (.agg #[.int .u64 x0, .int .u64 x1]) (.agg #[.int .u64 y0, .int .u64 y1])).run Tryd.prog w = .ok (x0 == y0 && (x1 == y1)) w := eq_Num 9998 w _ _ _ _ 

end Go.Proofs.YtjchjpmgbmeohaaDoor

/- Numbers of 128 bits; wide.Zero; wide.Most. -/
set_option linter.unusedSimpArgs false
set_option linter.unusedVariables false
namespace Go.Proofs.YtjchjpmgbmeohaaDoor
open Go.RowKit

structure Nm where
  hi : Int
  lo : Int
def Nm.cells (x : Nm) : List Value := [.int .u64 x.hi, .int .u64 x.lo]
structure Nm.ok (x : Nm) : Prop where
  hi0 : 0 ≤ x.hi
  hi1 : x.hi < 18446744073709551616
  lo0 : 0 ≤ x.lo
  lo1 : x.lo < 18446744073709551616
/-- The greatest number of 64 bits. -/
def M64 : Int := 18446744073709551615
def Nm.zero (x : Nm) : Bool := x.hi == 0 && x.lo == 0
def Nm.most (x : Nm) : Bool := x.hi == M64 && x.lo == M64

/-- The package's greatest number lies where it was laid. -/
structure Most (w : World) : Prop where
  hi : w.cell? ⟨0, 0, none⟩ = some (.int .u64 M64)
  lo : w.cell? ⟨0, 1, none⟩ = some (.int .u64 M64)
theorem Most.fr {w w' : World} {S : Nat → Prop} (h : Most w) (hf : Fr S w w') (hn : ¬ S 0) : Most w' := ⟨hf.cell (p := ⟨0, 0, none⟩) h.hi hn, hf.cell (p := ⟨0, 1, none⟩) h.lo hn⟩

end Go.Proofs.YtjchjpmgbmeohaaDoor

/- Whole structs stored: the world behind is a variable. No program in sight. -/
set_option linter.unusedSimpArgs false
set_option linter.unusedVariables false
namespace Go.Proofs.YtjchjpmgbmeohaaDoor
open Go.RowKit

theorem setCells_fr (b : Nat) : ∀ (vs : List Value) (o : Nat) (w : World), Fr (fun k => k = b) w (w.setCells b o vs)
  | [], _, w => Fr.refl _ w
  | v :: vs, o, w => ((Fr.refl (fun k => k = b) w).setCell (p := ⟨b, o, none⟩) (.inl rfl) v).then_ (setCells_fr b vs (o + 1) _) (fun _ h => .inl h)
theorem setCells_blk (g : Nat) : ∀ (vs : List Value) (W : World) (j : Nat) (c : Array Value) (t : TypeId) (f : Nat × Nat), W.heap[g]? = some (.cells c t f) → j + vs.length ≤ c.size →
    (W.setCells g j vs).heap[g]? = some (.cells (c.toList.take j ++ vs ++ c.toList.drop (j + vs.length)).toArray t f)
  | [], W, j, c, t, f, h, hl => by
    rw [World.setCells, h]
    simp
  | v :: vs, W, j, c, t, f, h, hl => by
    rw [World.setCells, setCells_blk g vs _ (j + 1) (c.setIfInBounds j v) t f (blk_set h j v) (by simp at hl ⊢; omega)]
    congr 3
    rw [Array.toList_setIfInBounds, List.take_add_one, List.take_set_of_le (Nat.le_refl _), List.getElem?_set_self (by simp at hl ⊢; omega), List.drop_set_of_lt (by omega)]
    simp [Nat.add_assoc, Nat.add_comm 1]
section
variable {P : Program}
theorem there_blk {w : World} {g o n : Nat} {c : Array Value} {t : TypeId} (h : w.heap[g]? = some (.cells c t (0, 0))) (hn : o + n ≤ c.size) : w.there g o n := fun j hj => by
  have hl : o + j < c.size := by omega
  refine ⟨?_, blk_free h _⟩
  rw [blk_cell h (o + j) (Array.getElem?_eq_getElem hl)]
  rfl
/-- A struct stored into the middle of a block. -/
theorem wpList_store_part {ops : Array Oper} {rest : List Oper} {op : Oper} {a : Act} {w : World} {Q : Exit → Act → World → Prop} (hgd : op.guard = none) (ty : TypeId) (x y : Operand) (ho : op.op = .store ty x y)
    (g o : Nat) (cells : Array Value) (hx : a.eval x = .pointer (some ⟨g, o, none⟩)) (hy : a.eval y = .agg cells) {c : Array Value} {t : TypeId} (hb : w.heap[g]? = some (.cells c t (0, 0))) (hs : o + cells.size ≤ c.size)
    (hi : (P.info? ty).map (·.size) = some cells.size) (h1 : cells.all (·.oneCell') = true)
    (h : ∀ w2, w2.heap[g]? = some (.cells (c.toList.take o ++ cells.toList ++ c.toList.drop (o + cells.size)).toArray t (0, 0)) → Fr (fun k => k = g) w w2 → wpList P ops Q rest (a.put op.dst undef) w2) : wpList P ops Q (op :: rest) a w :=
  wpList_store_mid hgd ty x y ho g o cells hx hy (there_blk hb hs) hi h1 (h _ (by have h2 := setCells_blk g cells.toList w o c t (0, 0) hb (by simpa using hs); simpa using h2) (setCells_fr g _ _ _))
/-- A whole struct stored. -/
theorem wpList_store_row {ops : Array Oper} {rest : List Oper} {op : Oper} {a : Act} {w : World} {Q : Exit → Act → World → Prop} (hgd : op.guard = none) (ty : TypeId) (x y : Operand) (ho : op.op = .store ty x y)
    (g : Nat) (cells : Array Value) (hx : a.eval x = .pointer (some ⟨g, 0, none⟩)) (hy : a.eval y = .agg cells) {c : Array Value} {t : TypeId} (hb : w.heap[g]? = some (.cells c t (0, 0))) (hs : cells.size = c.size)
    (hi : (P.info? ty).map (·.size) = some cells.size) (h1 : cells.all (·.oneCell') = true)
    (h : ∀ w2, w2.heap[g]? = some (.cells cells t (0, 0)) → Fr (fun k => k = g) w w2 → wpList P ops Q rest (a.put op.dst undef) w2) : wpList P ops Q (op :: rest) a w :=
  wpList_store_part hgd ty x y ho g 0 cells hx hy hb (by omega) hi h1 (fun w2 hb2 hf => h w2 (by
    have e : c.toList.drop (0 + cells.size) = [] := List.drop_eq_nil_of_le (by simp; omega)
    rw [e] at hb2
    simpa using hb2) hf)
/-- Two results, of which the first one is a struct's block. -/
theorem results_cell2 {fn : Func} {p q : Tmp} {ty : TypeId} (h : fn.results = #[.cell p ty, .tmp q]) (tmps : Array Value) (w : World) (g : Nat) (t : TypeId) (cs : Array Value) (fr : Nat × Nat) (d : TypeDesc)
    (hp : tmps.getD p undef = .pointer (some ⟨g, 0, none⟩)) (hg : w.heap[g]? = some (.cells cs t fr))
    (hu : P.underlying ty = some d) (hd : (match d with | .struct _ | .array _ _ => true | _ => false) = true) (hi : (P.info? ty).map (·.size) = some cs.size) :
    (results fn tmps).run P w = .ok (.tuple #[.agg cs, tmps.getD q undef]) w := by
  have hp' : tmps[p]?.getD undef = .pointer (some ⟨g, 0, none⟩) := by simpa using hp
  simp [results, h, hp', asAddr, run_loadVar_row w g t ty cs fr d hg hu hd hi]
end
end Go.Proofs.YtjchjpmgbmeohaaDoor

/- Numbers of 128 bits: what Add, Sub, Less and the document's Plus tell. -/
set_option linter.unusedSimpArgs false
set_option linter.unusedVariables false
namespace Go.Proofs.YtjchjpmgbmeohaaDoor
open Go.RowKit

def Nm.v (x : Nm) : Int := x.hi * 18446744073709551616 + x.lo
def nof (n : Int) : Nm := ⟨n / 18446744073709551616, n % 18446744073709551616⟩
def nadd (a b : Nm) : Nm := if a.v + b.v < 340282366920938463463374607431768211456 then nof (a.v + b.v) else ⟨0, 0⟩
def nfit (a b : Nm) : Bool := decide (a.v + b.v < 340282366920938463463374607431768211456)
def nsub (a b : Nm) : Nm := if a.v < b.v then ⟨0, 0⟩ else nof (a.v - b.v)
def nless (a b : Nm) : Bool := decide (a.v < b.v)
theorem Nm.v_in {x : Nm} (h : x.ok) : 0 ≤ x.v ∧ x.v < 340282366920938463463374607431768211456 := by
  obtain ⟨h1, h2, h3, h4⟩ := h
  unfold Nm.v
  omega
theorem nof_ok {n : Int} (h0 : 0 ≤ n) (h1 : n < 340282366920938463463374607431768211456) : (nof n).ok := by
  refine ⟨?_, ?_, ?_, ?_⟩ <;> simp only [nof] <;> omega
theorem nof_v {n : Int} : (nof n).v = n := by simp only [nof, Nm.v]; omega
theorem Nm.of_v {x : Nm} (h : x.ok) : nof x.v = x := by
  obtain ⟨h1, h2, h3, h4⟩ := h
  cases x
  simp only [nof, Nm.v, Nm.mk.injEq]
  simp only at h1 h2 h3 h4
  omega
theorem nzero_ok : (⟨0, 0⟩ : Nm).ok := by refine ⟨?_, ?_, ?_, ?_⟩ <;> simp
theorem nadd_ok {a b : Nm} (ha : a.ok) (hb : b.ok) : (nadd a b).ok := by
  have h1 := Nm.v_in ha
  have h2 := Nm.v_in hb
  unfold nadd
  split
  · exact nof_ok (by omega) (by omega)
  · exact nzero_ok
theorem nsub_ok {a b : Nm} (ha : a.ok) (hb : b.ok) : (nsub a b).ok := by
  have h1 := Nm.v_in ha
  have h2 := Nm.v_in hb
  unfold nsub
  split
  · exact nzero_ok
  · exact nof_ok (by omega) (by omega)
theorem Tryd.add64 (x y c : Int) (hx : 0 ≤ x) (hy : 0 ≤ y) (hc0 : 0 ≤ c) (hc : c ≤ 1) (w : World) :
    (callFunc 91 #[.int .u64 x, .int .u64 y, .int .u64 c]).run Tryd.prog w = .ok (.value (.tuple #[.int .u64 ((x + y + c) % 18446744073709551616), .int .u64 ((x + y + c) / 18446744073709551616)])) w := by
  rw [run_callFunc_extern Tryd.func91 (by kernel_rfl) (by kernel_rfl) (by kernel_rfl) (e := add64Entry) (by kernel_rfl), run_add64 x y c hx hy hc0 hc]
  rfl
theorem Tryd.sub64 (x y b : Int) (hx : 0 ≤ x) (hy : 0 ≤ y) (hb0 : 0 ≤ b) (hb : b ≤ 1) (w : World) :
    (callFunc 93 #[.int .u64 x, .int .u64 y, .int .u64 b]).run Tryd.prog w = .ok (.value (.tuple #[.int .u64 (((x.toNat + 18446744073709551616 - y.toNat - b.toNat) % 18446744073709551616 : Nat) : Int), .int .u64 ((if x.toNat < y.toNat + b.toNat then 1 else 0 : Nat) : Int)])) w := by
  obtain ⟨X, rfl⟩ := Int.eq_ofNat_of_zero_le hx
  obtain ⟨Y, rfl⟩ := Int.eq_ofNat_of_zero_le hy
  obtain ⟨Z, rfl⟩ := Int.eq_ofNat_of_zero_le hb0
  rw [run_callFunc_extern Tryd.func93 (by kernel_rfl) (by kernel_rfl) (by kernel_rfl) (e := sub64Entry) (by kernel_rfl), run_sub64 X Y Z (by omega)]
  rfl

theorem blk2 (w : World) (a b c : Obj) : (((w.alloc a).alloc b).alloc c).heap[w.heap.size + 1 + 1]? = some c := by
  have h := heap_alloc_new ((w.alloc a).alloc b) c
  simpa using h
set_option maxRecDepth 4000 in
set_option maxHeartbeats 1600000 in
theorem nadd_any (w : World) (a b : Nm) (ha : a.ok) (hb : b.ok) :
    Calls Tryd.prog 44 #[.agg #[.int .u64 a.hi, .int .u64 a.lo], .agg #[.int .u64 b.hi, .int .u64 b.lo]] w fun e w' => e = .returned (.tuple #[.agg #[.int .u64 (nadd a b).hi, .int .u64 (nadd a b).lo], .bool (nfit a b)]) ∧ Fr (fun _ => False) w w' := by
  obtain ⟨lo, hlo⟩ : ∃ x, (a.lo + b.lo + 0) % 18446744073709551616 = x := ⟨_, rfl⟩
  obtain ⟨c, hc⟩ : ∃ x, (a.lo + b.lo + 0) / 18446744073709551616 = x := ⟨_, rfl⟩
  obtain ⟨hi, hhi⟩ : ∃ x, (a.hi + b.hi + c) % 18446744073709551616 = x := ⟨_, rfl⟩
  obtain ⟨d, hd⟩ : ∃ x, (a.hi + b.hi + c) / 18446744073709551616 = x := ⟨_, rfl⟩
  obtain ⟨a1, a2, a3, a4⟩ := ha
  obtain ⟨b1, b2, b3, b4⟩ := hb
  have hc0 : 0 ≤ c ∧ c ≤ 1 := by omega
  have h1 := fun W => Tryd.add64 a.lo b.lo 0 a3 b3 (by omega) (by omega) W
  have h2 := fun W => Tryd.add64 a.hi b.hi c a1 b1 hc0.1 hc0.2 W
  simp only [hlo, hc] at h1
  simp only [hhi, hd] at h2
  by_cases hd0 : d = 0
  · have hf : nfit a b = true := by unfold nfit Nm.v; exact decide_eq_true (by omega)
    have hn : nadd a b = ⟨hi, lo⟩ := by
      unfold nadd Nm.v nof
      rw [if_pos (by omega)]
      simp only [Nm.mk.injEq]
      omega
    rw [hf, hn]
    have hdb : (d != 0) = false := by rw [hd0]; rfl
    clear hlo hc hhi hd hf hn
    go_enter Tryd.func44, Tryd.ntmps44
    go_wp2_with fail
    refine bodyPost_ret (results_cell2 (p := 4) (q := 5) rfl _ _ (w.heap.size + 1 + 1) 24 _ (0, 0) _ rfl (blk2 w _ _ _) Tryd.underlying24 rfl rfl) rfl ?_
    exact ⟨rfl, by repeat (first | (with_reducible exact Fr.refl _ _) | (with_reducible refine Fr.drew ?_) | (with_reducible refine Fr.drewN ?_ _) | (with_reducible refine Fr.alloc ?_ _) | (with_reducible refine Fr.set1 ?_ _) | (with_reducible refine Fr.setNew ?_ (by omega) _))⟩
  · have hf : nfit a b = false := by unfold nfit Nm.v; exact decide_eq_false (by omega)
    have hn : nadd a b = ⟨0, 0⟩ := by
      unfold nadd Nm.v
      rw [if_neg (by omega)]
    rw [hf, hn]
    have hdb : (d != 0) = true := by simpa using hd0
    clear hlo hc hhi hd hf hn
    go_enter Tryd.func44, Tryd.ntmps44
    go_wp2_with fail
    refine bodyPost_ret (results_cell2 (p := 4) (q := 5) rfl _ _ (w.heap.size + 1 + 1) 24 _ (0, 0) _ rfl (blk2 w _ _ _) Tryd.underlying24 rfl rfl) rfl ?_
    exact ⟨rfl, by repeat (first | (with_reducible exact Fr.refl _ _) | (with_reducible refine Fr.drew ?_) | (with_reducible refine Fr.drewN ?_ _) | (with_reducible refine Fr.alloc ?_ _) | (with_reducible refine Fr.set1 ?_ _) | (with_reducible refine Fr.setNew ?_ (by omega) _))⟩
end Go.Proofs.YtjchjpmgbmeohaaDoor

/- wide.Compare, Less, Sub; the document's Plus. -/
set_option linter.unusedSimpArgs false
set_option linter.unusedVariables false
namespace Go.Proofs.YtjchjpmgbmeohaaDoor
open Go.RowKit

def ncmp (a b : Nm) : Int := if a.v = b.v then 0 else if a.v < b.v then -1 else 1
theorem ncmp_less (a b : Nm) : decide (ncmp a b < 0) = nless a b := by
  unfold ncmp nless
  by_cases h : a.v = b.v
  · rw [if_pos h, decide_eq_false (by omega), decide_eq_false (by omega)]
  · rw [if_neg h]
    by_cases h2 : a.v < b.v
    · rw [if_pos h2, decide_eq_true (by omega), decide_eq_true h2]
    · rw [if_neg h2, decide_eq_false (by omega), decide_eq_false h2]
set_option maxRecDepth 4000 in
set_option maxHeartbeats 1600000 in
theorem cmp_any (w : World) (a b : Nm) (ha : a.ok) (hb : b.ok) :
    Calls Tryd.prog 90 #[.agg #[.int .u64 a.hi, .int .u64 a.lo], .agg #[.int .u64 b.hi, .int .u64 b.lo]] w fun e w' => e = .returned (.int .i64 (ncmp a b)) ∧ Fr (fun _ => False) w w' := by
  obtain ⟨a1, a2, a3, a4⟩ := ha
  obtain ⟨b1, b2, b3, b4⟩ := hb
  have he := eqm_Num
  obtain ⟨r, hr⟩ : ∃ r, ncmp a b = r := ⟨_, rfl⟩
  rw [hr]
  unfold ncmp Nm.v at hr
  have HA := Lib.hid (show 0 ≤ a.lo ∧ a.lo < 18446744073709551616 ∧ 0 ≤ b.lo ∧ b.lo < 18446744073709551616 from ⟨a3, a4, b3, b4⟩)
  clear a1 a2 a3 a4 b1 b2 b3 b4
  by_cases h1 : a.hi = b.hi
  · have q1 : (a.hi == b.hi) = true := by simpa using h1
    have n1 : ¬ a.hi < b.hi := by omega
    by_cases h2 : a.lo = b.lo
    · have q2 : (a.lo == b.lo) = true := by simpa using h2
      obtain rfl : r = 0 := by rw [if_pos (by omega)] at hr; exact hr.symm
      clear hr h1 h2
      go_enter Tryd.func90, Tryd.ntmps90
      go_wp2_with fail
      go_ret
      exact ⟨rfl, by repeat (first | (with_reducible exact Fr.refl _ _) | (with_reducible refine Fr.drew ?_) | (with_reducible refine Fr.drewN ?_ _) | (with_reducible refine Fr.alloc ?_ _) | (with_reducible refine Fr.set1 ?_ _) | (with_reducible refine Fr.setNew ?_ (by omega) _))⟩
    · have q2 : (a.lo == b.lo) = false := by simpa using h2
      by_cases h3 : a.lo < b.lo
      · obtain rfl : r = -1 := by rw [if_neg (by omega), if_pos (by omega)] at hr; exact hr.symm
        clear hr h1 h2
        go_enter Tryd.func90, Tryd.ntmps90
        go_wp2_with fail
        go_ret
        exact ⟨rfl, by repeat (first | (with_reducible exact Fr.refl _ _) | (with_reducible refine Fr.drew ?_) | (with_reducible refine Fr.drewN ?_ _) | (with_reducible refine Fr.alloc ?_ _) | (with_reducible refine Fr.set1 ?_ _) | (with_reducible refine Fr.setNew ?_ (by omega) _))⟩
      · obtain rfl : r = 1 := by rw [if_neg (by omega), if_neg (by omega)] at hr; exact hr.symm
        clear hr h1 h2
        go_enter Tryd.func90, Tryd.ntmps90
        go_wp2_with fail
        go_ret
        exact ⟨rfl, by repeat (first | (with_reducible exact Fr.refl _ _) | (with_reducible refine Fr.drew ?_) | (with_reducible refine Fr.drewN ?_ _) | (with_reducible refine Fr.alloc ?_ _) | (with_reducible refine Fr.set1 ?_ _) | (with_reducible refine Fr.setNew ?_ (by omega) _))⟩
  · have q1 : (a.hi == b.hi) = false := by simpa using h1
    have hl := HA.out
    by_cases h3 : a.hi < b.hi
    · obtain rfl : r = -1 := by rw [if_neg (by omega), if_pos (by omega)] at hr; exact hr.symm
      clear hr h1 hl
      cases q2 : (a.lo == b.lo)
      all_goals
        go_enter Tryd.func90, Tryd.ntmps90
        go_wp2_with fail
        go_ret
        exact ⟨rfl, by repeat (first | (with_reducible exact Fr.refl _ _) | (with_reducible refine Fr.drew ?_) | (with_reducible refine Fr.drewN ?_ _) | (with_reducible refine Fr.alloc ?_ _) | (with_reducible refine Fr.set1 ?_ _) | (with_reducible refine Fr.setNew ?_ (by omega) _))⟩
    · obtain rfl : r = 1 := by rw [if_neg (by omega), if_neg (by omega)] at hr; exact hr.symm
      clear hr h1 hl
      cases q2 : (a.lo == b.lo)
      all_goals
        go_enter Tryd.func90, Tryd.ntmps90
        go_wp2_with fail
        go_ret
        exact ⟨rfl, by repeat (first | (with_reducible exact Fr.refl _ _) | (with_reducible refine Fr.drew ?_) | (with_reducible refine Fr.drewN ?_ _) | (with_reducible refine Fr.alloc ?_ _) | (with_reducible refine Fr.set1 ?_ _) | (with_reducible refine Fr.setNew ?_ (by omega) _))⟩
set_option maxHeartbeats 1600000 in
theorem nless_any (w : World) (a b : Nm) (ha : a.ok) (hb : b.ok) :
    Calls Tryd.prog 43 #[.agg #[.int .u64 a.hi, .int .u64 a.lo], .agg #[.int .u64 b.hi, .int .u64 b.lo]] w fun e w' => e = .returned (.bool (nless a b)) ∧ Fr (fun _ => False) w w' := by
  have H := Lib.hid (fun W => cmp_any W a b ha hb)
  have HL := Lib.hid (ncmp_less a b)
  obtain ⟨r, hr⟩ : ∃ r, ncmp a b = r := ⟨_, rfl⟩
  rw [hr] at H HL
  have FA := Lib.hid (((Fr.refl (fun _ => False) w).alloc (.cells #[.int .u64 a.hi, .int .u64 a.lo] 24)).alloc (.cells #[.int .u64 b.hi, .int .u64 b.lo] 24))
  obtain ⟨q, hq⟩ : ∃ q, nless a b = q := ⟨_, rfl⟩
  rw [hq] at HL ⊢
  clear hr hq ha hb
  go_enter Tryd.func43, Tryd.ntmps43
  go_wp2_with fail
  refine (H.out _).mono ?_
  rintro e w2 ⟨rfl, f2⟩
  have F2 := Lib.hid (FA.out.then_ f2 (fun _ h => h.elim))
  clear f2
  go_wp2_with fail
  go_ret
  refine ⟨?_, F2.out⟩
  rw [← HL.out]
  rfl
set_option maxRecDepth 4000 in
set_option maxHeartbeats 1600000 in
theorem nsub_any (w : World) (a b : Nm) (ha : a.ok) (hb : b.ok) :
    Calls Tryd.prog 48 #[.agg #[.int .u64 a.hi, .int .u64 a.lo], .agg #[.int .u64 b.hi, .int .u64 b.lo]] w fun e w' => e = .returned (.tuple #[.agg #[.int .u64 (nsub a b).hi, .int .u64 (nsub a b).lo], .bool (!nless a b)]) ∧ Fr (fun _ => False) w w' := by
  have HL := Lib.hid (fun W => nless_any W a b ha hb)
  have Bz := Lib.hid (blk2 w (.cells #[.int .u64 a.hi, .int .u64 a.lo] 24) (.cells #[.int .u64 b.hi, .int .u64 b.lo] 24) (.cells #[.int .u64 0, .int .u64 0] 24))
  have FA := Lib.hid ((((Fr.refl (fun _ => False) w).alloc (.cells #[.int .u64 a.hi, .int .u64 a.lo] 24)).alloc (.cells #[.int .u64 b.hi, .int .u64 b.lo] 24)).alloc (.cells #[.int .u64 0, .int .u64 0] 24))
  have Ba := Lib.hid (blk_alloc (blk_alloc (heap_alloc_new w (.cells #[.int .u64 a.hi, .int .u64 a.lo] 24)) (.cells #[.int .u64 b.hi, .int .u64 b.lo] 24)) (.cells #[.int .u64 0, .int .u64 0] 24))
  have Bb := Lib.hid (show (((w.alloc (.cells #[.int .u64 a.hi, .int .u64 a.lo] 24)).alloc (.cells #[.int .u64 b.hi, .int .u64 b.lo] 24)).alloc (.cells #[.int .u64 0, .int .u64 0] 24)).heap[w.heap.size + 1]? = some (.cells #[.int .u64 b.hi, .int .u64 b.lo] 24 (0, 0)) from by
    have h := blk_alloc (heap_alloc_new (w.alloc (.cells #[.int .u64 a.hi, .int .u64 a.lo] 24)) (.cells #[.int .u64 b.hi, .int .u64 b.lo] 24)) (.cells #[.int .u64 0, .int .u64 0] 24)
    simpa using h)
  obtain ⟨q, hq⟩ : ∃ q, nless a b = q := ⟨_, rfl⟩
  rw [hq] at HL
  rw [hq]
  unfold nless at hq
  cases q
  · have hlt : ¬ a.v < b.v := of_decide_eq_false hq
    obtain ⟨a1, a2, a3, a4⟩ := ha
    obtain ⟨b1, b2, b3, b4⟩ := hb
    have h1 := fun W => Tryd.sub64 a.lo b.lo 0 a3 b3 (by omega) (by omega) W
    obtain ⟨lo, hlo⟩ : ∃ x : Int, (((a.lo.toNat + 18446744073709551616 - b.lo.toNat - (0 : Int).toNat) % 18446744073709551616 : Nat) : Int) = x := ⟨_, rfl⟩
    obtain ⟨c, hc⟩ : ∃ x : Int, ((if a.lo.toNat < b.lo.toNat + (0 : Int).toNat then 1 else 0 : Nat) : Int) = x := ⟨_, rfl⟩
    rw [hlo, hc] at h1
    have hc0 : (c = 0 ∧ b.lo ≤ a.lo) ∨ (c = 1 ∧ a.lo < b.lo) := by
      rw [← hc]
      split
      · right; simp only [Int.toNat_zero, Nat.add_zero] at *; constructor
        · rfl
        · omega
      · left; simp only [Int.toNat_zero, Nat.add_zero] at *; constructor
        · rfl
        · omega
    have h2 := fun W => Tryd.sub64 a.hi b.hi c a1 b1 (by omega) (by omega) W
    obtain ⟨hi, hhi⟩ : ∃ x : Int, (((a.hi.toNat + 18446744073709551616 - b.hi.toNat - c.toNat) % 18446744073709551616 : Nat) : Int) = x := ⟨_, rfl⟩
    obtain ⟨d, hd⟩ : ∃ x : Int, ((if a.hi.toNat < b.hi.toNat + c.toNat then 1 else 0 : Nat) : Int) = x := ⟨_, rfl⟩
    rw [hhi, hd] at h2
    have hn : nsub a b = ⟨hi, lo⟩ := by
      unfold nsub
      rw [if_neg hlt]
      unfold Nm.v at hlt ⊢
      simp only [nof, Nm.mk.injEq]
      simp only [Int.toNat_zero] at hlo
      omega
    rw [hn]
    have H1 := Lib.hid h1
    have H2 := Lib.hid h2
    clear hlo hc hhi hd hn hq hlt hc0 a1 a2 a3 a4 b1 b2 b3 b4 h1 h2
    go_enter Tryd.func48, Tryd.ntmps48
    go_wp2_with fail
    refine (HL.out _).mono ?_
    rintro e w2 ⟨rfl, f2⟩
    have F2 := Lib.hid (FA.out.then_ f2 (fun _ h => h.elim))
    have Ba2 := f2.blk Ba.out (fun h => h)
    have Bb2 := f2.blk Bb.out (fun h => h)
    have Bz2 := Lib.hid (f2.blk Bz.out (fun h => h))
    have x0 := blk_cell Ba2 0 rfl; have x1 := blk_cell Ba2 1 rfl; have y0 := blk_cell Bb2 0 rfl; have y1 := blk_cell Bb2 1 rfl
    have h1 := H1.out
    have h2 := H2.out
    clear f2 Ba2 Bb2
    go_wp2_with (first | ((refine wpList_store_row rfl 24 (.tmp 4) (.tmp 33) rfl (w.heap.size + 1 + 1) #[.int .u64 hi, .int .u64 lo] rfl rfl Bz2.out rfl rfl (by simp [Value.oneCell']) ?_); intro w9 hb9 f9; have HB9 := Lib.hid hb9; have F9 := Lib.hid f9; clear hb9 f9) | fail)
    refine bodyPost_ret (results_cell2 (p := 4) (q := 5) rfl _ _ (w.heap.size + 1 + 1) 24 _ (0, 0) _ rfl HB9.out Tryd.underlying24 rfl rfl) rfl ?_
    exact ⟨rfl, F2.out.then_ F9.out (fun k hk => .inr (by omega))⟩
  · have hlt : a.v < b.v := of_decide_eq_true hq
    have hn : nsub a b = ⟨0, 0⟩ := if_pos hlt
    rw [hn]
    clear hn hq hlt ha hb
    go_enter Tryd.func48, Tryd.ntmps48
    go_wp2_with fail
    refine (HL.out _).mono ?_
    rintro e w2 ⟨rfl, f2⟩
    have F2 := Lib.hid (FA.out.then_ f2 (fun _ h => h.elim))
    have Bz2 := Lib.hid (f2.blk Bz.out (fun h => h))
    clear f2
    go_wp2_with (first | ((refine wpList_store_row rfl 24 (.tmp 4) (.tmp 13) rfl (w.heap.size + 1 + 1) #[.int .u64 0, .int .u64 0] rfl rfl Bz2.out rfl rfl (by simp [Value.oneCell']) ?_); intro w9 hb9 f9; have HB9 := Lib.hid hb9; have F9 := Lib.hid f9; clear hb9 f9) | fail)
    refine bodyPost_ret (results_cell2 (p := 4) (q := 5) rfl _ _ (w.heap.size + 1 + 1) 24 _ (0, 0) _ rfl HB9.out Tryd.underlying24 rfl rfl) rfl ?_
    exact ⟨rfl, F2.out.then_ F9.out (fun k hk => .inr (by omega))⟩
end Go.Proofs.YtjchjpmgbmeohaaDoor

/- The document's numbers, bit by bit. -/
set_option linter.unusedSimpArgs false
set_option linter.unusedVariables false
namespace Go.Proofs.YtjchjpmgbmeohaaDoor
open Go.RowKit

theorem pow_64 : (2 : Int) ^ 64 = 18446744073709551616 := by decide +kernel
theorem pow_split (i : Nat) (h : 64 ≤ i) : (2 : Int) ^ i = 18446744073709551616 * 2 ^ (i - 64) := by
  have e : (2 : Int) ^ i = 2 ^ 64 * 2 ^ (i - 64) := by
    rw [← Int.pow_add]
    congr 1
    omega
  rw [e, pow_64]
theorem pow_pos' (i : Nat) : (0 : Int) < 2 ^ i := Int.pow_pos (by decide)
theorem bit_hi {a : Nm} (ha : a.ok) {i : Nat} (h : 64 ≤ i) : wrap64 ((a.hi / 2 ^ (i - 64)).tmod 2) = a.v / 2 ^ i % 2 := by
  have hp := pow_pos' (i - 64)
  have e1 : a.v / 2 ^ i = a.hi / 2 ^ (i - 64) := by
    rw [pow_split i h, ← Int.ediv_ediv_of_nonneg (by decide)]
    congr 1
    obtain ⟨h1, h2, h3, h4⟩ := ha
    unfold Nm.v
    omega
  have h0 : 0 ≤ a.hi / 2 ^ (i - 64) := Int.ediv_nonneg ha.hi0 (Int.le_of_lt hp)
  rw [e1, Int.tmod_eq_emod_of_nonneg h0]
  have h1 := Int.emod_nonneg (a.hi / 2 ^ (i - 64)) (show (2 : Int) ≠ 0 by decide)
  have h2 := Int.emod_lt_of_pos (a.hi / 2 ^ (i - 64)) (show (0 : Int) < 2 by decide)
  unfold wrap64
  omega
theorem bit_lo {a : Nm} (ha : a.ok) {i : Nat} (h : i < 64) : wrap64 ((a.lo / 2 ^ i).tmod 2) = a.v / 2 ^ i % 2 := by
  have hp := pow_pos' i
  have e1 : a.v / 2 ^ i = a.hi * 2 ^ (63 - i) * 2 + a.lo / 2 ^ i := by
    have e2 : a.v = (a.hi * 2 ^ (63 - i) * 2) * 2 ^ i + a.lo := by
      have e3 : (18446744073709551616 : Int) = 2 ^ (63 - i) * 2 * 2 ^ i := by
        rw [Int.mul_assoc, Int.mul_comm 2 (2 ^ i), ← Int.pow_succ, ← Int.pow_add, show 63 - i + (i + 1) = 64 by omega]
        exact pow_64.symm
      unfold Nm.v
      rw [e3]
      simp only [Int.mul_assoc]
    rw [e2, Int.add_comm, Int.add_mul_ediv_right _ _ (Int.ne_of_gt hp), Int.add_comm]
  have h0 : 0 ≤ a.lo / 2 ^ i := Int.ediv_nonneg ha.lo0 (Int.le_of_lt hp)
  rw [e1, Int.tmod_eq_emod_of_nonneg h0]
  obtain ⟨q, hq⟩ : ∃ q, a.hi * 2 ^ (63 - i) = q := ⟨_, rfl⟩
  obtain ⟨z, hz⟩ : ∃ z, a.lo / 2 ^ i = z := ⟨_, rfl⟩
  rw [hq, hz]
  unfold wrap64
  omega
def nbit (a : Nm) (i : Nat) : Int := a.v / 2 ^ i % 2
theorem nbit_01 (a : Nm) (i : Nat) : nbit a i = 0 ∨ nbit a i = 1 := by
  unfold nbit
  omega
theorem bit_any (w : World) (a : Nm) (ha : a.ok) (i : Nat) (hi : i < 128) :
    Calls Tryd.prog 92 #[.agg #[.int .u64 a.hi, .int .u64 a.lo], .int .i64 i] w fun e w' => e = .returned (.int .i64 (nbit a i)) ∧ Fr (fun _ => False) w w' := by
  unfold nbit
  by_cases h : 64 ≤ i
  · have hI : (64 : Int) ≤ i := by omega
    have w1 : IntKind.i64.wrap ((i : Int) - 64) = i - 64 := IntWalk.i64_in _ (by omega)
    have HB := Lib.hid (bit_hi ha h)
    go_enter Tryd.func92, Tryd.ntmps92
    go_wp2_with fail
    go_ret
    refine ⟨?_, by repeat (first | (with_reducible exact Fr.refl _ _) | (with_reducible refine Fr.drew ?_) | (with_reducible refine Fr.drewN ?_ _) | (with_reducible refine Fr.alloc ?_ _) | (with_reducible refine Fr.set1 ?_ _) | (with_reducible refine Fr.setNew ?_ (by omega) _))⟩
    rw [← HB.out]
    rfl
  · have hI : ¬ (64 : Int) ≤ i := by omega
    have HB := Lib.hid (bit_lo ha (show i < 64 by omega))
    go_enter Tryd.func92, Tryd.ntmps92
    go_wp2_with fail
    go_ret
    refine ⟨?_, by repeat (first | (with_reducible exact Fr.refl _ _) | (with_reducible refine Fr.drew ?_) | (with_reducible refine Fr.drewN ?_ _) | (with_reducible refine Fr.alloc ?_ _) | (with_reducible refine Fr.set1 ?_ _) | (with_reducible refine Fr.setNew ?_ (by omega) _))⟩
    rw [← HB.out]
    rfl
theorem pow_le63 {i : Nat} (h : i ≤ 63) : (2 : Int) ^ i ≤ 9223372036854775808 := by
  have h1 : 2 ^ i ≤ 2 ^ 63 := Nat.pow_le_pow_right (by decide) h
  have e : ((2 ^ i : Nat) : Int) = (2 : Int) ^ i := by rw [Int.natCast_pow]; rfl
  have e2 : (2 : Nat) ^ 63 = 9223372036854775808 := by decide +kernel
  rw [e2] at h1
  rw [← e]
  omega
theorem set_hi {a : Nm} (ha : a.ok) {i : Nat} (h : 64 ≤ i) (hi : i < 128) (hv : a.v < 2 ^ i) : (⟨IntKind.u64.wrap (a.hi + IntKind.u64.wrap (2 ^ (i - 64))), a.lo⟩ : Nm) = nof (a.v + 2 ^ i) := by
  have hp := pow_pos' (i - 64)
  have hq := pow_le63 (show i - 64 ≤ 63 by omega)
  rw [pow_split i h] at hv ⊢
  obtain ⟨p, hpe⟩ : ∃ p : Int, (2 : Int) ^ (i - 64) = p := ⟨_, rfl⟩
  rw [hpe] at hv hp hq ⊢
  obtain ⟨h1, h2, h3, h4⟩ := ha
  unfold Nm.v at hv ⊢
  simp only [nof, Nm.mk.injEq, IntKind.wrap_u64]
  omega
theorem set_lo {a : Nm} (ha : a.ok) {i : Nat} (h : i < 64) (hv : a.v < 2 ^ i) : (⟨a.hi, IntKind.u64.wrap (a.lo + IntKind.u64.wrap (2 ^ i))⟩ : Nm) = nof (a.v + 2 ^ i) := by
  have hp := pow_pos' i
  have hq := pow_le63 (show i ≤ 63 by omega)
  obtain ⟨p, hpe⟩ : ∃ p : Int, (2 : Int) ^ i = p := ⟨_, rfl⟩
  rw [hpe] at hv hp hq ⊢
  obtain ⟨h1, h2, h3, h4⟩ := ha
  unfold Nm.v at hv ⊢
  simp only [nof, Nm.mk.injEq, IntKind.wrap_u64]
  omega
theorem blk1 (w : World) (a b : Obj) : ((w.alloc a).alloc b).heap[w.heap.size + 1]? = some b := by
  have h := heap_alloc_new (w.alloc a) b
  simpa using h
/-- One result, a struct's block. -/
theorem results_cell1 {P : Program} {fn : Func} {p : Tmp} {ty : TypeId} (h : fn.results = #[.cell p ty]) (tmps : Array Value) (w : World) (g : Nat) (t : TypeId) (cs : Array Value) (fr : Nat × Nat) (d : TypeDesc)
    (hp : tmps.getD p undef = .pointer (some ⟨g, 0, none⟩)) (hg : w.heap[g]? = some (.cells cs t fr))
    (hu : P.underlying ty = some d) (hd : (match d with | .struct _ | .array _ _ => true | _ => false) = true) (hi : (P.info? ty).map (·.size) = some cs.size) :
    (results fn tmps).run P w = .ok (.agg cs) w := by
  have hp' : tmps[p]?.getD undef = .pointer (some ⟨g, 0, none⟩) := by simpa using hp
  simp [results, h, hp', asAddr, run_loadVar_row w g t ty cs fr d hg hu hd hi]
set_option maxRecDepth 4000 in
theorem set_any (w : World) (a : Nm) (ha : a.ok) (i : Nat) (hi : i < 128) (hv : a.v < 2 ^ i) :
    Calls Tryd.prog 94 #[.agg #[.int .u64 a.hi, .int .u64 a.lo], .int .i64 i] w fun e w' => e = .returned (.agg #[.int .u64 (nof (a.v + 2 ^ i)).hi, .int .u64 (nof (a.v + 2 ^ i)).lo]) ∧ Fr (fun _ => False) w w' := by
  by_cases h : 64 ≤ i
  · have hI : (64 : Int) ≤ i := by omega
    have w1 : IntKind.i64.wrap ((i : Int) - 64) = i - 64 := IntWalk.i64_in _ (by omega)
    rw [← set_hi ha h hi hv]
    go_enter Tryd.func94, Tryd.ntmps94
    go_wp2_with fail
    refine bodyPost_ret (results_cell1 (p := 4) rfl _ _ (w.heap.size + 1) 24 _ (0, 0) _ rfl (blk1 w _ _) Tryd.underlying24 rfl rfl) rfl ?_
    exact ⟨rfl, by repeat (first | (with_reducible exact Fr.refl _ _) | (with_reducible refine Fr.drew ?_) | (with_reducible refine Fr.drewN ?_ _) | (with_reducible refine Fr.alloc ?_ _) | (with_reducible refine Fr.set1 ?_ _) | (with_reducible refine Fr.setNew ?_ (by omega) _))⟩
  · have hI : ¬ (64 : Int) ≤ i := by omega
    rw [← set_lo ha (show i < 64 by omega) hv]
    go_enter Tryd.func94, Tryd.ntmps94
    go_wp2_with fail
    refine bodyPost_ret (results_cell1 (p := 4) rfl _ _ (w.heap.size + 1) 24 _ (0, 0) _ rfl (blk1 w _ _) Tryd.underlying24 rfl rfl) rfl ?_
    exact ⟨rfl, by repeat (first | (with_reducible exact Fr.refl _ _) | (with_reducible refine Fr.drew ?_) | (with_reducible refine Fr.drewN ?_ _) | (with_reducible refine Fr.alloc ?_ _) | (with_reducible refine Fr.set1 ?_ _) | (with_reducible refine Fr.setNew ?_ (by omega) _))⟩
end Go.Proofs.YtjchjpmgbmeohaaDoor

/- The document's Less and Sub. -/
set_option linter.unusedSimpArgs false
set_option linter.unusedVariables false
namespace Go.Proofs.YtjchjpmgbmeohaaDoor
open Go.RowKit

theorem half (v : Int) (i : Nat) : v / 2 ^ i = 2 * (v / 2 ^ (i + 1)) + v / 2 ^ i % 2 := by
  have hp := pow_pos' i
  rw [Int.pow_succ, ← Int.ediv_ediv_of_nonneg (Int.le_of_lt hp)]
  omega
theorem less_high {a b : Nm} {i : Nat} (h : a.v / 2 ^ (i + 1) = b.v / 2 ^ (i + 1)) (hn : nbit a i ≠ nbit b i) : nless a b = decide (nbit a i < nbit b i) := by
  have ha := half a.v i
  have hb := half b.v i
  have hp := pow_pos' i
  unfold nbit at hn ⊢
  have key : a.v < b.v ↔ a.v / 2 ^ i < b.v / 2 ^ i := by
    constructor
    · intro hl
      have := Int.ediv_le_ediv hp (Int.le_of_lt hl)
      omega
    · intro hl
      apply Decidable.byContradiction
      intro hc
      have := Int.ediv_le_ediv hp (Int.not_lt.1 hc)
      omega
  unfold nless
  by_cases hl : a.v < b.v
  · rw [decide_eq_true hl, decide_eq_true (by have := key.1 hl; omega)]
  · rw [decide_eq_false hl, decide_eq_false (by have := fun h => hl (key.2 h); omega)]
theorem less_same {a b : Nm} {i : Nat} (h : a.v / 2 ^ (i + 1) = b.v / 2 ^ (i + 1)) (hn : nbit a i = nbit b i) : a.v / 2 ^ i = b.v / 2 ^ i := by
  have ha := half a.v i
  have hb := half b.v i
  unfold nbit at hn
  omega
theorem pow_128 : (2 : Int) ^ 128 = 340282366920938463463374607431768211456 := by decide +kernel
set_option maxRecDepth 4000 in
set_option maxHeartbeats 3200000 in
theorem refLess_any (w : World) (a b : Nm) (ha : a.ok) (hb : b.ok) :
    Calls Tryd.prog 46 #[.agg #[.int .u64 a.hi, .int .u64 a.lo], .agg #[.int .u64 b.hi, .int .u64 b.lo]] w fun e w' => e = .returned (.bool (nless a b)) ∧ Fr (fun _ => False) w w' := by
  have HOa := Lib.hid ha
  have HOb := Lib.hid hb
  have Ba0 := Lib.hid (blk_alloc (heap_alloc_new w (.cells #[.int .u64 a.hi, .int .u64 a.lo] 24)) (.cells #[.int .u64 b.hi, .int .u64 b.lo] 24))
  have Bb0 := Lib.hid (blk1 w (.cells #[.int .u64 a.hi, .int .u64 a.lo] 24) (.cells #[.int .u64 b.hi, .int .u64 b.lo] 24))
  have FA := Lib.hid (((Fr.refl (fun _ => False) w).alloc (.cells #[.int .u64 a.hi, .int .u64 a.lo] 24)).alloc (.cells #[.int .u64 b.hi, .int .u64 b.lo] 24))
  have h128 : a.v / 2 ^ 128 = b.v / 2 ^ 128 := by
    have h1 := Nm.v_in ha
    have h2 := Nm.v_in hb
    rw [pow_128]
    omega
  have H128 := Lib.hid h128
  obtain ⟨R, hR⟩ : ∃ R, nless a b = R := ⟨_, rfl⟩
  rw [hR]
  have HR := Lib.hid hR
  clear ha hb h128 hR
  go_enter Tryd.func46, Tryd.ntmps46
  go_wp2_with fail
  go_loopw [5] (fun i wr => ∃ k : Nat, k ≤ 128 ∧ i = .int .i64 ((k : Int) - 1) ∧ a.v / 2 ^ k = b.v / 2 ^ k ∧ Fr (fun _ => False) w wr ∧ wr.heap[w.heap.size]? = some (.cells #[.int .u64 a.hi, .int .u64 a.lo] 24 (0, 0)) ∧ wr.heap[w.heap.size + 1]? = some (.cells #[.int .u64 b.hi, .int .u64 b.lo] 24 (0, 0))) (fun i _ => (intOf i + 1).toNat)
  case atStart => exact ⟨128, Nat.le_refl _, rfl, H128.out, FA.out, Ba0.out, Bb0.out⟩
  case round =>
    obtain ⟨k, hk, rfl, heq, hf, hba, hbb⟩ := hrel
    have FR := Lib.hid hf
    have Ba := Lib.hid hba
    have Bb := Lib.hid hbb
    cases k with
    | zero =>
      have HV := Lib.hid (show R = false from by
        rw [← HR.out]
        unfold nless
        simp only [Int.pow_zero, Int.ediv_one] at heq
        exact decide_eq_false (by omega))
      clear heq hf hba hbb
      go_wp2_with fail
      go_ret
      exact ⟨by rw [HV.out]; rfl, FR.out⟩
    | succ k =>
      have e1 : (((k + 1 : Nat) : Int) - 1) = k := by omega
      rw [e1]
      have hk0 : (0 : Int) ≤ k := by omega
      have w1 : IntKind.i64.wrap ((k : Int) - 1) = k - 1 := IntWalk.i64_in _ (by omega)
      have HBa := Lib.hid (fun W => bit_any W a HOa.out k (by omega))
      have HBb := Lib.hid (fun W => bit_any W b HOb.out k (by omega))
      obtain ⟨x, hx⟩ : ∃ x, nbit a k = x := ⟨_, rfl⟩
      obtain ⟨y, hy⟩ : ∃ y, nbit b k = y := ⟨_, rfl⟩
      rw [hx] at HBa
      rw [hy] at HBb
      have x0 := blk_cell Ba.out 0 rfl; have x1 := blk_cell Ba.out 1 rfl; have y0 := blk_cell Bb.out 0 rfl; have y1 := blk_cell Bb.out 1 rfl
      by_cases hxy : x = y
      · have HS := Lib.hid (less_same heq (by rw [hx, hy]; exact hxy))
        subst hxy
        clear heq hf hba hbb hx hy e1
        go_upto_region 4 with fail
        go_region_held3 (fun w' => w'.cell? ⟨w.heap.size, 0, none⟩ = some (Value.int .u64 a.hi) ∧ w'.cell? ⟨w.heap.size, 1, none⟩ = some (Value.int .u64 a.lo) ∧ w'.cell? ⟨w.heap.size + 1, 0, none⟩ = some (Value.int .u64 b.hi) ∧ w'.cell? ⟨w.heap.size + 1, 1, none⟩ = some (Value.int .u64 b.lo))
          (first | exact ⟨x0, x1, y0, y1⟩ | go_keep)
          (first
        | (go_at_call 92; (with_reducible refine (HBa.out _).mono ?_); rintro e w3 ⟨rfl, f3⟩; have FP := Lib.hid (FR.out.then_ (S2 := fun _ => False) ((Fr.refl (fun _ => False) _).drew.then_ f3 (fun _ h => h.elim)) (fun _ h => h.elim)); have Ba := Lib.hid (f3.blk (blk_drew Ba.out) (fun h => h)); have Bb := Lib.hid (f3.blk (blk_drew Bb.out) (fun h => h)); have x0 := blk_cell Ba.out 0 rfl; have x1 := blk_cell Ba.out 1 rfl; have y0 := blk_cell Bb.out 0 rfl; have y1 := blk_cell Bb.out 1 rfl; clear f3)
        | (go_at_call 92; (with_reducible refine (HBb.out _).mono ?_); rintro e w4 ⟨rfl, f4⟩; have FQ := Lib.hid (FP.out.then_ f4 (fun _ h => h.elim)); have Ba := Lib.hid (f4.blk Ba.out (fun h => h)); have Bb := Lib.hid (f4.blk Bb.out (fun h => h)); have x0 := blk_cell Ba.out 0 rfl; have x1 := blk_cell Ba.out 1 rfl; have y0 := blk_cell Bb.out 0 rfl; have y1 := blk_cell Bb.out 1 rfl; clear f4))
        go_wp2_with fail
        go_roundw
        case rel => first | exact ⟨k, by omega, by go_num, HS.out, FQ.out, Ba.out, Bb.out⟩ | ((repeat apply Exists.intro); refine (fun a b => ⟨b, a⟩ : ∀ {P Q : Prop}, P → Q → Q ∧ P) ?_ ?_; (first | rfl | exact ⟨rfl, rfl⟩ | exact ⟨rfl, rfl, rfl⟩); exact ⟨k, by omega, by go_num, HS.out, FQ.out, Ba.out, Bb.out⟩)
        case measure => (simp [intOf, w1]) <;> omega
      · have HV := Lib.hid (show R = decide (x < y) from by rw [← HR.out, less_high heq (by rw [hx, hy]; exact hxy), hx, hy])
        have hne : (x != y) = true := by simpa using hxy
        clear heq hf hba hbb hx hy e1 hxy
        go_upto_region 4 with fail
        go_region_held3 (fun w' => w'.cell? ⟨w.heap.size, 0, none⟩ = some (Value.int .u64 a.hi) ∧ w'.cell? ⟨w.heap.size, 1, none⟩ = some (Value.int .u64 a.lo) ∧ w'.cell? ⟨w.heap.size + 1, 0, none⟩ = some (Value.int .u64 b.hi) ∧ w'.cell? ⟨w.heap.size + 1, 1, none⟩ = some (Value.int .u64 b.lo))
          (first | exact ⟨x0, x1, y0, y1⟩ | go_keep)
          (first
        | (go_at_call 92; (with_reducible refine (HBa.out _).mono ?_); rintro e w3 ⟨rfl, f3⟩; have FP := Lib.hid (FR.out.then_ (S2 := fun _ => False) ((Fr.refl (fun _ => False) _).drew.then_ f3 (fun _ h => h.elim)) (fun _ h => h.elim)); have Ba := Lib.hid (f3.blk (blk_drew Ba.out) (fun h => h)); have Bb := Lib.hid (f3.blk (blk_drew Bb.out) (fun h => h)); have x0 := blk_cell Ba.out 0 rfl; have x1 := blk_cell Ba.out 1 rfl; have y0 := blk_cell Bb.out 0 rfl; have y1 := blk_cell Bb.out 1 rfl; clear f3)
        | (go_at_call 92; (with_reducible refine (HBb.out _).mono ?_); rintro e w4 ⟨rfl, f4⟩; have FQ := Lib.hid (FP.out.then_ f4 (fun _ h => h.elim)); have Ba := Lib.hid (f4.blk Ba.out (fun h => h)); have Bb := Lib.hid (f4.blk Bb.out (fun h => h)); have x0 := blk_cell Ba.out 0 rfl; have x1 := blk_cell Ba.out 1 rfl; have y0 := blk_cell Bb.out 0 rfl; have y1 := blk_cell Bb.out 1 rfl; clear f4))
        have FR := Lib.hid FQ.out
        clear FP FQ
        go_upto_region 5 with fail
        go_region_held3 (fun w' => w'.cell? ⟨w.heap.size, 0, none⟩ = some (Value.int .u64 a.hi) ∧ w'.cell? ⟨w.heap.size, 1, none⟩ = some (Value.int .u64 a.lo) ∧ w'.cell? ⟨w.heap.size + 1, 0, none⟩ = some (Value.int .u64 b.hi) ∧ w'.cell? ⟨w.heap.size + 1, 1, none⟩ = some (Value.int .u64 b.lo))
          (first | exact ⟨x0, x1, y0, y1⟩ | go_keep)
          (first
        | (go_at_call 92; (with_reducible refine (HBa.out _).mono ?_); rintro e w3 ⟨rfl, f3⟩; have FP := Lib.hid (FR.out.then_ (S2 := fun _ => False) ((Fr.refl (fun _ => False) _).drew.then_ f3 (fun _ h => h.elim)) (fun _ h => h.elim)); have Ba := Lib.hid (f3.blk (blk_drew Ba.out) (fun h => h)); have Bb := Lib.hid (f3.blk (blk_drew Bb.out) (fun h => h)); have x0 := blk_cell Ba.out 0 rfl; have x1 := blk_cell Ba.out 1 rfl; have y0 := blk_cell Bb.out 0 rfl; have y1 := blk_cell Bb.out 1 rfl; clear f3)
        | (go_at_call 92; (with_reducible refine (HBb.out _).mono ?_); rintro e w4 ⟨rfl, f4⟩; have FQ := Lib.hid (FP.out.then_ f4 (fun _ h => h.elim)); have Ba := Lib.hid (f4.blk Ba.out (fun h => h)); have Bb := Lib.hid (f4.blk Bb.out (fun h => h)); have x0 := blk_cell Ba.out 0 rfl; have x1 := blk_cell Ba.out 1 rfl; have y0 := blk_cell Bb.out 0 rfl; have y1 := blk_cell Bb.out 1 rfl; clear f4))
        go_wp2_with fail
        go_ret
        exact ⟨by rw [HV.out]; rfl, FQ.out⟩
end Go.Proofs.YtjchjpmgbmeohaaDoor

/- The document's Sub. -/
set_option linter.unusedSimpArgs false
set_option linter.unusedVariables false
namespace Go.Proofs.YtjchjpmgbmeohaaDoor
open Go.RowKit

theorem low_next (v : Int) (i : Nat) : v % 2 ^ (i + 1) = v % 2 ^ i + v / 2 ^ i % 2 * 2 ^ i := by
  have h1 := Int.mul_ediv_add_emod v (2 ^ i)
  have h2 := Int.mul_ediv_add_emod v (2 ^ (i + 1))
  have h3 := half v i
  obtain ⟨q, hq⟩ : ∃ q, v / 2 ^ (i + 1) = q := ⟨_, rfl⟩
  obtain ⟨z, hz⟩ : ∃ z, v / 2 ^ i % 2 = z := ⟨_, rfl⟩
  rw [hq, hz] at h3
  rw [hq] at h2
  rw [h3] at h1
  rw [hz]
  rw [Int.pow_succ] at h2 ⊢
  obtain ⟨p, hp⟩ : ∃ p : Int, (2 : Int) ^ i = p := ⟨_, rfl⟩
  rw [hp] at h1 h2 ⊢
  have e1 : p * (2 * q + z) = p * 2 * q + z * p := by rw [Int.mul_add, ← Int.mul_assoc, Int.mul_comm p z]
  rw [e1] at h1
  omega
/-- The sum so far: what was taken of the lower bits. -/
structure Sb (a b o : Nm) (c : Int) (i : Nat) : Prop where
  c01 : c = 0 ∨ c = 1
  ok : o.ok
  lt : o.v < 2 ^ i
  eq : a.v % 2 ^ i - b.v % 2 ^ i = o.v - c * 2 ^ i
theorem sb_zero (a b : Nm) : Sb a b ⟨0, 0⟩ 0 0 := ⟨.inl rfl, nzero_ok, by show (0 : Int) * 18446744073709551616 + 0 < 2 ^ 0; decide, by
  show _ = (0 : Int) * 18446744073709551616 + 0 - 0 * 2 ^ 0
  simp only [Int.pow_zero, Int.emod_one]
  decide⟩
theorem sb_step {a b o : Nm} {c : Int} {i : Nat} (h : Sb a b o c i) (hi : i < 128) (c' : Int) (n : Int) (hc : c' = 0 ∨ c' = 1) (hn : n = nbit a i - nbit b i - c + 2 * c') (h01 : n = 0 ∨ n = 1) : Sb a b (if n = 1 then nof (o.v + 2 ^ i) else o) c' (i + 1) := by
  obtain ⟨h1, h2, h3, h4⟩ := h
  have ho := Nm.v_in h2
  have hp := pow_pos' i
  have la := low_next a.v i
  have lb := low_next b.v i
  have h127 : (2 : Int) ^ i ≤ 170141183460469231731687303715884105728 := by
    have g1 : 2 ^ i ≤ 2 ^ 127 := Nat.pow_le_pow_right (by decide) (by omega)
    have e : ((2 ^ i : Nat) : Int) = (2 : Int) ^ i := by rw [Int.natCast_pow]; rfl
    have e2 : (2 : Nat) ^ 127 = 170141183460469231731687303715884105728 := by decide +kernel
    rw [e2] at g1
    rw [← e]
    omega
  unfold nbit at hn
  have ps := Int.pow_succ 2 i
  obtain ⟨p, hpe⟩ : ∃ p : Int, (2 : Int) ^ i = p := ⟨_, rfl⟩
  obtain ⟨p2, hp2⟩ : ∃ p : Int, (2 : Int) ^ (i + 1) = p := ⟨_, rfl⟩
  rw [hpe] at hp la lb h3 h4 h127 ps hn ⊢
  rw [hp2] at la lb ps
  obtain ⟨x, hx⟩ : ∃ x, a.v / p % 2 = x := ⟨_, rfl⟩
  obtain ⟨y, hy⟩ : ∃ x, b.v / p % 2 = x := ⟨_, rfl⟩
  rw [hx] at la hn
  rw [hy] at lb hn
  have hov : (if n = 1 then nof (o.v + p) else o).v = o.v + n * p := by
    rcases h01 with e | e
    · rw [if_neg (by omega), e]; omega
    · rw [if_pos e, nof_v, e]; omega
  refine ⟨hc, ?_, ?_, ?_⟩
  · split
    · exact nof_ok (by omega) (by omega)
    · exact h2
  · rw [hov, hp2, ps]
    rcases h01 with e | e <;> rw [e] <;> omega
  · rw [hov, hp2, la, lb]
    have e1 : n * p = x * p - y * p - c * p + 2 * (c' * p) := by
      rw [hn, Int.add_mul, Int.sub_mul, Int.sub_mul, Int.mul_assoc]
    have e2 : c' * p2 = 2 * (c' * p) := by rw [ps, ← Int.mul_assoc, Int.mul_comm]
    rw [e1, e2]
    omega
theorem sb_end {a b o : Nm} {c : Int} (ha : a.ok) (hb : b.ok) (h : Sb a b o c 128) (hl : ¬ a.v < b.v) : o = nsub a b := by
  obtain ⟨h1, h2, h3, h4⟩ := h
  have g1 := Nm.v_in ha
  have g2 := Nm.v_in hb
  rw [pow_128, Int.emod_eq_of_lt g1.1 g1.2, Int.emod_eq_of_lt g2.1 g2.2] at h4
  rw [pow_128] at h3
  have e : o.v = a.v - b.v := by rcases h1 with e | e <;> rw [e] at h4 <;> omega
  rw [nsub, if_neg hl, ← e, Nm.of_v h2]
set_option maxRecDepth 4000 in
set_option maxHeartbeats 6400000 in
theorem refSub_any (w : World) (a b : Nm) (ha : a.ok) (hb : b.ok) :
    Calls Tryd.prog 50 #[.agg #[.int .u64 a.hi, .int .u64 a.lo], .agg #[.int .u64 b.hi, .int .u64 b.lo]] w fun e w' => e = .returned (.tuple #[.agg #[.int .u64 (nsub a b).hi, .int .u64 (nsub a b).lo], .bool (!nless a b)]) ∧ Fr (fun _ => False) w w' := by
  have HOa := Lib.hid ha
  have HOb := Lib.hid hb
  have Ba0 := Lib.hid (blk_alloc (blk_alloc (heap_alloc_new w (.cells #[.int .u64 a.hi, .int .u64 a.lo] 24)) (.cells #[.int .u64 b.hi, .int .u64 b.lo] 24)) (.cells #[.int .u64 0, .int .u64 0] 24))
  have Bb0 := Lib.hid (blk_alloc (blk1 w (.cells #[.int .u64 a.hi, .int .u64 a.lo] 24) (.cells #[.int .u64 b.hi, .int .u64 b.lo] 24)) (.cells #[.int .u64 0, .int .u64 0] 24))
  have Bz0 := Lib.hid (blk2 w (.cells #[.int .u64 a.hi, .int .u64 a.lo] 24) (.cells #[.int .u64 b.hi, .int .u64 b.lo] 24) (.cells #[.int .u64 0, .int .u64 0] 24))
  have FA := Lib.hid ((((Fr.refl (fun _ => False) w).alloc (.cells #[.int .u64 a.hi, .int .u64 a.lo] 24)).alloc (.cells #[.int .u64 b.hi, .int .u64 b.lo] 24)).alloc (.cells #[.int .u64 0, .int .u64 0] 24))
  have HL := Lib.hid (fun W => refLess_any W a b ha hb)
  obtain ⟨q, hq⟩ : ∃ q, nless a b = q := ⟨_, rfl⟩
  rw [hq] at HL ⊢
  obtain ⟨R, hR⟩ : ∃ R, nsub a b = R := ⟨_, rfl⟩
  rw [hR]
  have HR := Lib.hid hR
  have HQ := Lib.hid hq
  clear hq hR ha hb
  cases q
  rotate_left
  · have HV := Lib.hid (show R = ⟨0, 0⟩ from by
      rw [← HR.out, nsub, if_pos (of_decide_eq_true (show decide (a.v < b.v) = true from HQ.out))])
    go_enter Tryd.func50, Tryd.ntmps50
    go_wp2_with fail
    refine (HL.out _).mono ?_
    rintro e w2 ⟨rfl, f2⟩
    have F2 := Lib.hid (FA.out.then_ f2 (fun _ h => h.elim))
    have Bz2 := Lib.hid (f2.blk Bz0.out (fun h => h))
    clear f2
    go_wp2_with (first | ((refine wpList_store_row rfl 24 (.tmp 4) (.tmp 13) rfl (w.heap.size + 1 + 1) #[.int .u64 0, .int .u64 0] rfl rfl Bz2.out rfl rfl (by simp [Value.oneCell']) ?_); intro w9 hb9 f9; have HB9 := Lib.hid hb9; have F9 := Lib.hid f9; clear hb9 f9) | fail)
    refine bodyPost_ret (results_cell2 (p := 4) (q := 5) rfl _ _ (w.heap.size + 1 + 1) 24 _ (0, 0) _ rfl HB9.out Tryd.underlying24 rfl rfl) rfl ?_
    exact ⟨by rw [HV.out]; rfl, F2.out.then_ F9.out (fun k hk => .inr (by omega))⟩
  have HNl := Lib.hid (of_decide_eq_false (show decide (a.v < b.v) = false from HQ.out))
  go_enter Tryd.func50, Tryd.ntmps50
  go_wp2_with fail
  refine (HL.out _).mono ?_
  rintro e w2 ⟨rfl, f2⟩
  have F2 := Lib.hid ((FA.out.then_ f2 (fun _ h => h.elim)).alloc (.cells #[.int .u64 0, .int .u64 0] 24))
  have Ba2 := Lib.hid (blk_alloc (f2.blk Ba0.out (fun h => h)) (.cells #[.int .u64 0, .int .u64 0] 24))
  have Bb2 := Lib.hid (blk_alloc (f2.blk Bb0.out (fun h => h)) (.cells #[.int .u64 0, .int .u64 0] 24))
  have Bz2 := Lib.hid (blk_alloc (f2.blk Bz0.out (fun h => h)) (.cells #[.int .u64 0, .int .u64 0] 24))
  have Bo2 := Lib.hid (heap_alloc_new w2 (.cells #[.int .u64 0, .int .u64 0] 24))
  have HG := Lib.hid (show w.heap.size + 1 + 1 < w2.heap.size from blk_lt (f2.blk Bz0.out (fun h => h)))
  clear f2
  go_wp2_with fail
  obtain ⟨G, hG⟩ : ∃ G, w2.heap.size = G := ⟨_, rfl⟩
  rw [hG] at Bo2 HG ⊢
  clear hG
  go_loopw [8, 7] (fun i cv wr => ∃ (k : Nat) (c : Int) (o : Nm), k ≤ 128 ∧ i = .int .i64 k ∧ cv = .int .i64 c ∧ Sb a b o c k ∧ wr.heap[G]? = some (.cells #[.int .u64 o.hi, .int .u64 o.lo] 24 (0, 0)) ∧ Fr (fun _ => False) w wr ∧ wr.heap[w.heap.size]? = some (.cells #[.int .u64 a.hi, .int .u64 a.lo] 24 (0, 0)) ∧ wr.heap[w.heap.size + 1]? = some (.cells #[.int .u64 b.hi, .int .u64 b.lo] 24 (0, 0)) ∧ wr.heap[w.heap.size + 1 + 1]? = some (.cells #[.int .u64 0, .int .u64 0] 24 (0, 0))) (fun i _ _ => (128 - intOf i).toNat)
  case atStart => exact ⟨0, 0, ⟨0, 0⟩, Nat.zero_le _, rfl, rfl, sb_zero a b, Bo2.out, F2.out, Ba2.out, Bb2.out, Bz2.out⟩
  case round =>
    obtain ⟨k, c, o, hk, rfl, rfl, hsb, hbo, hf, hba, hbb, hbz⟩ := hrel
    have FR := Lib.hid hf
    have Ba := Lib.hid hba
    have Bb := Lib.hid hbb
    have Bz := Lib.hid hbz
    have Bo := Lib.hid hbo
    have HS := Lib.hid hsb
    by_cases hlt : k < 128
    · have hltI : (k : Int) < 128 := by omega
      have w1 : IntKind.i64.wrap ((k : Int) + 1) = k + 1 := IntWalk.i64_in _ (by omega)
      have HBa := Lib.hid (fun W => bit_any W a HOa.out k hlt)
      have HBb := Lib.hid (fun W => bit_any W b HOb.out k hlt)
      have hc01 := hsb.c01
      have hx01 := nbit_01 a k
      have hy01 := nbit_01 b k
      obtain ⟨x, hx⟩ : ∃ x, nbit a k = x := ⟨_, rfl⟩
      obtain ⟨y, hy⟩ : ∃ y, nbit b k = y := ⟨_, rfl⟩
      have HStep := Lib.hid (fun c' n h1 h2 h3 => sb_step HS.out hlt c' n h1 h2 h3)
      rw [hx] at HBa HStep hx01
      rw [hy] at HBb HStep hy01
      obtain ⟨m, hm⟩ : ∃ m, x - y - c = m := ⟨_, rfl⟩
      have wa : IntKind.i64.wrap (x - y) = x - y := IntWalk.i64_in _ (by omega)
      have wb : IntKind.i64.wrap (x - y - c) = m := by rw [IntWalk.i64_in _ (by omega)]; exact hm
      have wc : IntKind.i64.wrap (m + 2) = m + 2 := IntWalk.i64_in _ (by omega)
      have HM := Lib.hid hm
      have HSet := Lib.hid (fun W => set_any W o HS.out.ok k hlt HS.out.lt)
      have hmr : m = -2 ∨ m = -1 ∨ m = 0 ∨ m = 1 := by omega
      have x0 := blk_cell Ba.out 0 rfl; have x1 := blk_cell Ba.out 1 rfl; have y0 := blk_cell Bb.out 0 rfl; have y1 := blk_cell Bb.out 1 rfl
      clear hsb hbo hf hba hbb hbz hx hy hm hc01 hx01 hy01
      go_upto_region 8 with fail
      go_region_held3 (fun w' => w'.cell? ⟨w.heap.size, 0, none⟩ = some (Value.int .u64 a.hi) ∧ w'.cell? ⟨w.heap.size, 1, none⟩ = some (Value.int .u64 a.lo) ∧ w'.cell? ⟨w.heap.size + 1, 0, none⟩ = some (Value.int .u64 b.hi) ∧ w'.cell? ⟨w.heap.size + 1, 1, none⟩ = some (Value.int .u64 b.lo))
        (first | exact ⟨x0, x1, y0, y1⟩ | go_keep)
        (first
            | (go_at_call 92; (with_reducible refine (HBa.out _).mono ?_); rintro e w3 ⟨rfl, f3⟩; have FP := Lib.hid (FR.out.then_ (S2 := fun _ => False) ((Fr.refl (fun _ => False) _).drew.then_ f3 (fun _ h => h.elim)) (fun _ h => h.elim)); have Ba := Lib.hid (f3.blk (blk_drew Ba.out) (fun h => h)); have Bb := Lib.hid (f3.blk (blk_drew Bb.out) (fun h => h)); have Bz := Lib.hid (f3.blk (blk_drew Bz.out) (fun h => h)); have Bo := Lib.hid (f3.blk (blk_drew Bo.out) (fun h => h)); have x0 := blk_cell Ba.out 0 rfl; have x1 := blk_cell Ba.out 1 rfl; have y0 := blk_cell Bb.out 0 rfl; have y1 := blk_cell Bb.out 1 rfl; clear f3)
            | (go_at_call 92; (with_reducible refine (HBb.out _).mono ?_); rintro e w4 ⟨rfl, f4⟩; have FQ := Lib.hid (FP.out.then_ f4 (fun _ h => h.elim)); have Ba := Lib.hid (f4.blk Ba.out (fun h => h)); have Bb := Lib.hid (f4.blk Bb.out (fun h => h)); have Bz := Lib.hid (f4.blk Bz.out (fun h => h)); have Bo := Lib.hid (f4.blk Bo.out (fun h => h)); have x0 := blk_cell Ba.out 0 rfl; have x1 := blk_cell Ba.out 1 rfl; have y0 := blk_cell Bb.out 0 rfl; have y1 := blk_cell Bb.out 1 rfl; clear f4))
      have o0 := blk_cell Bo.out 0 rfl
      have o1 := blk_cell Bo.out 1 rfl
      rcases hmr with e | e | e | e
      · subst e
        go_wp2_with fail
        go_roundw
        case rel =>
          have hs := HStep.out 1 0 (.inr rfl) (by have := HM.out; omega) (.inl rfl)
          rw [if_neg (by decide)] at hs
          exact ⟨k + 1, _, o, by omega, by go_num, rfl, hs, Bo.out, FQ.out, Ba.out, Bb.out, Bz.out⟩
        case measure => first | (simp only [intOf, w1]; omega) | (simp [intOf, w1]; omega)
      · subst e
        go_wp2_with (first
          | (go_at_call 94; (with_reducible refine (HSet.out _).mono ?_); rintro e w5 ⟨rfl, f5⟩; have FS := Lib.hid (FQ.out.then_ f5 (fun _ h => h.elim)); have Ba := Lib.hid (f5.blk Ba.out (fun h => h)); have Bb := Lib.hid (f5.blk Bb.out (fun h => h)); have Bz := Lib.hid (f5.blk Bz.out (fun h => h)); have Bo := Lib.hid (f5.blk Bo.out (fun h => h)); clear f5)
          | ((refine wpList_store_row rfl 24 (.tmp 6) (.tmp 36) rfl G #[.int .u64 (nof (o.v + 2 ^ k)).hi, .int .u64 (nof (o.v + 2 ^ k)).lo] rfl rfl Bo.out rfl rfl (by simp [Value.oneCell']) ?_); intro w9 hb9 f9; have Bo9 := Lib.hid hb9; have F9 := Lib.hid f9; clear hb9 f9)
          | fail)
        go_roundw
        case rel =>
          have hs := HStep.out 1 1 (.inr rfl) (by have := HM.out; omega) (.inr rfl)
          rw [if_pos rfl] at hs
          have hg := HG.out
          exact ⟨k + 1, _, nof (o.v + 2 ^ k), by omega, by go_num, rfl, hs, Bo9.out, FS.out.then_ F9.out (fun j hj => .inr (by omega)), F9.out.blk Ba.out (by omega), F9.out.blk Bb.out (by omega), F9.out.blk Bz.out (by omega)⟩
        case measure => first | (simp only [intOf, w1]; omega) | (simp [intOf, w1]; omega)
      · subst e
        go_wp2_with fail
        go_roundw
        case rel =>
          have hs := HStep.out 0 0 (.inl rfl) (by have := HM.out; omega) (.inl rfl)
          rw [if_neg (by decide)] at hs
          exact ⟨k + 1, _, o, by omega, by go_num, rfl, hs, Bo.out, FQ.out, Ba.out, Bb.out, Bz.out⟩
        case measure => first | (simp only [intOf, w1]; omega) | (simp [intOf, w1]; omega)
      · subst e
        go_wp2_with (first
          | (go_at_call 94; (with_reducible refine (HSet.out _).mono ?_); rintro e w5 ⟨rfl, f5⟩; have FS := Lib.hid (FQ.out.then_ f5 (fun _ h => h.elim)); have Ba := Lib.hid (f5.blk Ba.out (fun h => h)); have Bb := Lib.hid (f5.blk Bb.out (fun h => h)); have Bz := Lib.hid (f5.blk Bz.out (fun h => h)); have Bo := Lib.hid (f5.blk Bo.out (fun h => h)); clear f5)
          | ((refine wpList_store_row rfl 24 (.tmp 6) (.tmp 36) rfl G #[.int .u64 (nof (o.v + 2 ^ k)).hi, .int .u64 (nof (o.v + 2 ^ k)).lo] rfl rfl Bo.out rfl rfl (by simp [Value.oneCell']) ?_); intro w9 hb9 f9; have Bo9 := Lib.hid hb9; have F9 := Lib.hid f9; clear hb9 f9)
          | fail)
        go_roundw
        case rel =>
          have hs := HStep.out 0 1 (.inl rfl) (by have := HM.out; omega) (.inr rfl)
          rw [if_pos rfl] at hs
          have hg := HG.out
          exact ⟨k + 1, _, nof (o.v + 2 ^ k), by omega, by go_num, rfl, hs, Bo9.out, FS.out.then_ F9.out (fun j hj => .inr (by omega)), F9.out.blk Ba.out (by omega), F9.out.blk Bb.out (by omega), F9.out.blk Bz.out (by omega)⟩
        case measure => first | (simp only [intOf, w1]; omega) | (simp [intOf, w1]; omega)
    · have hltI : ¬ (k : Int) < 128 := by omega
      obtain rfl : k = 128 := by omega
      have HV := Lib.hid (show o = R from by rw [← HR.out]; exact sb_end HOa.out HOb.out HS.out (by have := HNl.out; omega))
      have o0 := blk_cell hbo 0 rfl
      have o1 := blk_cell hbo 1 rfl
      clear hsb hbo hf hba hbb hbz
      go_wp2_with (first | ((refine wpList_store_row rfl 24 (.tmp 4) (.tmp 37) rfl (w.heap.size + 1 + 1) #[.int .u64 o.hi, .int .u64 o.lo] rfl rfl Bz.out rfl rfl (by simp [Value.oneCell']) ?_); intro w9 hb9 f9; have HB9 := Lib.hid hb9; have F9 := Lib.hid f9; clear hb9 f9) | fail)
      refine bodyPost_ret (results_cell2 (p := 4) (q := 5) rfl _ _ (w.heap.size + 1 + 1) 24 _ (0, 0) _ rfl HB9.out Tryd.underlying24 rfl rfl) rfl ?_
      exact ⟨by rw [HV.out]; rfl, FR.out.then_ F9.out (fun k hk => .inr (by omega))⟩
end Go.Proofs.YtjchjpmgbmeohaaDoor

/- Rows of cells from an address on; rows of structs. No program in sight. -/
set_option linter.unusedSimpArgs false
set_option linter.unusedVariables false
namespace Go.Proofs.YtjchjpmgbmeohaaDoor
open Go.RowKit

/-- A row of cells from an address on. -/
def Row (w : World) (a : Option Addr) (xs : List Value) : Prop := ∀ j u, xs[j]? = some u → ∃ b off, a = some ⟨b, off, none⟩ ∧ w.cell? ⟨b, off + j, none⟩ = some u
theorem Row.fr {w w' : World} {a : Option Addr} {xs : List Value} {S : Nat → Prop} (h : Row w a xs) (hf : Fr S w w') (hn : ∀ b, a = some b → ¬ S b.block) : Row w' a xs := fun j u hu => by
  obtain ⟨b, off, rfl, hc⟩ := h j u hu
  exact ⟨b, off, rfl, hf.cell (p := ⟨b, off + j, none⟩) hc (hn ⟨b, off, none⟩ rfl)⟩

theorem flat_get {α : Type} {f : α → List Value} {n : Nat} (hf : ∀ x, (f x).length = n) (l : List α) (i : Nat) (hi : i < l.length) (j : Nat) (hj : j < n) : (l.flatMap f)[i * n + j]? = (f l[i])[j]? := by
  induction l generalizing i with
  | nil => simp at hi
  | cons x r ih =>
    cases i with
    | zero => rw [List.flatMap_cons, List.getElem?_append_left (by rw [hf]; omega)]; simp
    | succ i =>
      have e0 : n ≤ (i + 1) * n + j := by rw [Nat.succ_mul]; omega
      rw [List.flatMap_cons, List.getElem?_append_right (by rw [hf]; exact e0), hf, show (i + 1) * n + j - n = i * n + j by rw [Nat.succ_mul]; omega, ih i (by simpa using hi)]
      simp


theorem flat_len {α : Type} {f : α → List Value} {n : Nat} (hf : ∀ x, (f x).length = n) (l : List α) : (l.flatMap f).length = l.length * n := by
  induction l with
  | nil => simp
  | cons x r ih => rw [List.flatMap_cons, List.length_append, ih, hf, List.length_cons, Nat.succ_mul]; omega

/-- A row of structs out of each one's cells. -/
theorem rows_of {α : Type} {f : α → List Value} {k len : Nat} {w : World} {ad : Addr} {Q : α → Prop} (hk : 0 < k) (hf : ∀ x, (f x).length = k)
    (h : ∀ i, i < len → ∃ x, Q x ∧ ∀ j u, (f x)[j]? = some u → ∃ b off, ad = ⟨b, off, none⟩ ∧ w.cell? ⟨b, off + (i * k + j), none⟩ = some u) : ∃ l : List α, l.length = len ∧ (∀ x ∈ l, Q x) ∧ Row w (some ad) (l.flatMap f) := by
  have hl : ∃ l : List α, l.length = len ∧ ∀ i (hi : i < l.length), Q l[i] ∧ ∀ j u, (f l[i])[j]? = some u → ∃ b off, ad = ⟨b, off, none⟩ ∧ w.cell? ⟨b, off + (i * k + j), none⟩ = some u := by
    induction len with
    | zero => exact ⟨[], rfl, fun i hi => by simp at hi⟩
    | succ n ih =>
      obtain ⟨l, e, hx⟩ := ih (fun i hi => h i (by omega))
      obtain ⟨x, hq, hc⟩ := h n (by omega)
      refine ⟨l ++ [x], by simp [e], fun i hi => ?_⟩
      by_cases hin : i < l.length
      · rw [List.getElem_append_left hin]
        exact hx i hin
      · have e2 : i = l.length := by simp at hi; omega
        subst e2
        rw [List.getElem_append_right (Nat.le_refl _)]
        simp only [Nat.sub_self, List.getElem_cons_zero]
        rw [e]
        exact ⟨hq, hc⟩
  obtain ⟨l, e, hx⟩ := hl
  refine ⟨l, e, fun x hm => ?_, fun J u hu => ?_⟩
  · obtain ⟨i, hi, rfl⟩ := List.getElem_of_mem hm
    exact (hx i hi).1
  · have hJ : J < l.length * k := by
      have := (List.getElem?_eq_some_iff.1 hu).1
      rwa [flat_len hf] at this
    have hi : J / k < l.length := (Nat.div_lt_iff_lt_mul hk).2 hJ
    have hj : J % k < k := Nat.mod_lt _ hk
    have eJ : J / k * k + J % k = J := Nat.div_add_mod' J k
    have := flat_get (f := f) hf l (J / k) hi (J % k) hj
    rw [eJ, hu] at this
    obtain ⟨b, off, e1, hc⟩ := (hx _ hi).2 (J % k) u this.symm
    exact ⟨b, off, by rw [e1], by rw [eJ] at hc; exact hc⟩
end Go.Proofs.YtjchjpmgbmeohaaDoor

/- The document's Plus, most; wide.Sum; books' total. -/
set_option linter.unusedSimpArgs false
set_option linter.unusedVariables false
namespace Go.Proofs.YtjchjpmgbmeohaaDoor
open Go.RowKit

theorem plus_fit {a b : Nm} (ha : a.ok) (hb : b.ok) : nfit a b = true ↔ (¬ IntKind.u64.wrap (a.hi + b.hi) < a.hi ∧ (IntKind.u64.wrap (a.lo + b.lo) < a.lo → IntKind.u64.wrap (IntKind.u64.wrap (a.hi + b.hi) + 1) ≠ 0)) := by
  obtain ⟨a1, a2, a3, a4⟩ := ha
  obtain ⟨b1, b2, b3, b4⟩ := hb
  unfold nfit Nm.v
  simp only [IntKind.wrap_u64, decide_eq_true_eq]
  constructor
  · intro h
    refine ⟨by omega, fun h2 => by omega⟩
  · rintro ⟨h1, h2⟩
    by_cases h3 : (a.lo + b.lo) % 18446744073709551616 < a.lo
    · have := h2 h3; omega
    · omega
theorem plus_sum {a b : Nm} (ha : a.ok) (hb : b.ok) (h : nfit a b = true) : nadd a b = ⟨if IntKind.u64.wrap (a.lo + b.lo) < a.lo then IntKind.u64.wrap (IntKind.u64.wrap (a.hi + b.hi) + 1) else IntKind.u64.wrap (a.hi + b.hi), IntKind.u64.wrap (a.lo + b.lo)⟩ := by
  have h0 := of_decide_eq_true h
  unfold nadd
  rw [if_pos h0]
  obtain ⟨a1, a2, a3, a4⟩ := ha
  obtain ⟨b1, b2, b3, b4⟩ := hb
  unfold Nm.v at h0 ⊢
  simp only [nof, IntKind.wrap_u64, Nm.mk.injEq]
  split <;> omega
theorem plus_no {a b : Nm} (h : nfit a b = false) : nadd a b = ⟨0, 0⟩ := by
  unfold nadd
  rw [if_neg (of_decide_eq_false h)]
set_option maxRecDepth 4000 in
set_option maxHeartbeats 1600000 in
theorem plus_any (w : World) (a b : Nm) (ha : a.ok) (hb : b.ok) :
    Calls Tryd.prog 45 #[.agg #[.int .u64 a.hi, .int .u64 a.lo], .agg #[.int .u64 b.hi, .int .u64 b.lo]] w fun e w' => e = .returned (.tuple #[.agg #[.int .u64 (nadd a b).hi, .int .u64 (nadd a b).lo], .bool (nfit a b)]) ∧ Fr (fun _ => False) w w' := by
  have hfit := plus_fit ha hb
  have hsum := plus_sum ha hb
  have hno := plus_no (a := a) (b := b)
  obtain ⟨lo, hlo⟩ : ∃ x, IntKind.u64.wrap (a.lo + b.lo) = x := ⟨_, rfl⟩
  obtain ⟨hi, hhi⟩ : ∃ x, IntKind.u64.wrap (a.hi + b.hi) = x := ⟨_, rfl⟩
  obtain ⟨h2, hh2⟩ : ∃ x, IntKind.u64.wrap (hi + 1) = x := ⟨_, rfl⟩
  rw [hlo, hhi, hh2] at hfit hsum
  obtain ⟨q, hq⟩ : ∃ q, nfit a b = q := ⟨_, rfl⟩
  obtain ⟨R, hR⟩ : ∃ R, nadd a b = R := ⟨_, rfl⟩
  rw [hq, hR] at hsum hno
  rw [hq] at hfit
  rw [hq, hR]
  have HFit := Lib.hid hfit
  have HSum := Lib.hid hsum
  have HNo := Lib.hid hno
  clear hfit hsum hno hq hR ha hb
  by_cases p1 : hi < a.hi
  · have HQ := Lib.hid (show q = false from by
      cases q with
      | false => rfl
      | true => exact ((HFit.out.1 rfl).1 p1).elim)
    by_cases p2 : lo < a.lo
    all_goals
      go_enter Tryd.func45, Tryd.ntmps45
      go_wp2_with fail
      refine bodyPost_ret (results_cell2 (p := 4) (q := 5) rfl _ _ (w.heap.size + 1 + 1) 24 _ (0, 0) _ rfl (blk2 w _ _ _) Tryd.underlying24 rfl rfl) rfl ?_
      exact ⟨by rw [HNo.out HQ.out, HQ.out]; rfl, by repeat (first | (with_reducible exact Fr.refl _ _) | (with_reducible refine Fr.drew ?_) | (with_reducible refine Fr.drewN ?_ _) | (with_reducible refine Fr.alloc ?_ _) | (with_reducible refine Fr.set1 ?_ _) | (with_reducible refine Fr.setNew ?_ (by omega) _))⟩
  · by_cases p2 : lo < a.lo
    · cases p3 : (h2 == 0)
      · have HQ := Lib.hid (show q = true from HFit.out.2 ⟨p1, fun _ => by simpa using p3⟩)
        have HV := Lib.hid (HSum.out HQ.out)
        go_enter Tryd.func45, Tryd.ntmps45
        go_wp2_with fail
        refine bodyPost_ret (results_cell2 (p := 4) (q := 5) rfl _ _ (w.heap.size + 1 + 1) 24 _ (0, 0) _ rfl (blk2 w _ _ _) Tryd.underlying24 rfl rfl) rfl ?_
        exact ⟨by rw [HV.out, HQ.out, if_pos (by omega)]; rfl, by repeat (first | (with_reducible exact Fr.refl _ _) | (with_reducible refine Fr.drew ?_) | (with_reducible refine Fr.drewN ?_ _) | (with_reducible refine Fr.alloc ?_ _) | (with_reducible refine Fr.set1 ?_ _) | (with_reducible refine Fr.setNew ?_ (by omega) _))⟩
      · have HQ := Lib.hid (show q = false from by
          cases q with
          | false => rfl
          | true => exact ((HFit.out.1 rfl).2 p2 (by simpa using p3)).elim)
        go_enter Tryd.func45, Tryd.ntmps45
        go_wp2_with fail
        refine bodyPost_ret (results_cell2 (p := 4) (q := 5) rfl _ _ (w.heap.size + 1 + 1) 24 _ (0, 0) _ rfl (blk2 w _ _ _) Tryd.underlying24 rfl rfl) rfl ?_
        exact ⟨by rw [HNo.out HQ.out, HQ.out]; rfl, by repeat (first | (with_reducible exact Fr.refl _ _) | (with_reducible refine Fr.drew ?_) | (with_reducible refine Fr.drewN ?_ _) | (with_reducible refine Fr.alloc ?_ _) | (with_reducible refine Fr.set1 ?_ _) | (with_reducible refine Fr.setNew ?_ (by omega) _))⟩
    · have HQ := Lib.hid (show q = true from HFit.out.2 ⟨p1, fun h => (p2 h).elim⟩)
      have HV := Lib.hid (HSum.out HQ.out)
      go_enter Tryd.func45, Tryd.ntmps45
      go_wp2_with fail
      refine bodyPost_ret (results_cell2 (p := 4) (q := 5) rfl _ _ (w.heap.size + 1 + 1) 24 _ (0, 0) _ rfl (blk2 w _ _ _) Tryd.underlying24 rfl rfl) rfl ?_
      exact ⟨by rw [HV.out, HQ.out, if_neg (by omega)]; rfl, by repeat (first | (with_reducible exact Fr.refl _ _) | (with_reducible refine Fr.drew ?_) | (with_reducible refine Fr.drewN ?_ _) | (with_reducible refine Fr.alloc ?_ _) | (with_reducible refine Fr.set1 ?_ _) | (with_reducible refine Fr.setNew ?_ (by omega) _))⟩

/-! wide.Sum -/
theorem row_at {α : Type} {f : α → List Value} {sz : Nat} (hf : ∀ x, (f x).length = sz) (hs : 0 < sz) {w : World} {a : Option Addr} {l : List α} (h : Row w a (l.flatMap f)) {k : Nat} (hk : k < l.length) : ∃ b off, a = some ⟨b, off, none⟩ ∧ w.rangeAt b (off + k * sz) (f l[k]) := by
  have g : ∀ j u, (f l[k])[j]? = some u → ∃ b off, a = some ⟨b, off, none⟩ ∧ w.cell? ⟨b, off + k * sz + j, none⟩ = some u := fun j u hu => by
    have hj : j < sz := by have := (List.getElem?_eq_some_iff.1 hu).1; rwa [hf] at this
    obtain ⟨b, off, e, hc⟩ := h (k * sz + j) u ((flat_get hf l k hk j hj).trans hu)
    exact ⟨b, off, e, by rw [Nat.add_assoc]; exact hc⟩
  have h0 : 0 < (f l[k]).length := by rw [hf]; exact hs
  obtain ⟨b, off, e, -⟩ := g 0 _ (List.getElem?_eq_getElem h0)
  refine ⟨b, off, e, fun j u hu => ?_⟩
  obtain ⟨b2, off2, e2, hc⟩ := g j u hu
  rw [e] at e2
  simp only [Option.some.injEq, Addr.mk.injEq] at e2
  obtain ⟨rfl, rfl, _⟩ := e2
  exact hc
def sums : Nm → List Nm → Option Nm
  | o, [] => some o
  | o, x :: xs => if nfit o x = true then sums (nadd o x) xs else none
def sumV (ns : List Nm) : Nm := (sums ⟨0, 0⟩ ns).getD ⟨0, 0⟩
set_option maxRecDepth 4000 in
set_option maxHeartbeats 3200000 in
theorem sum_any (w : World) (a : Option Addr) (cap : Nat) (ns : List Nm) (hr : Row w a (ns.flatMap Nm.cells)) (hok : ∀ x ∈ ns, x.ok) (hl : ns.length ≤ 1000000) :
    Calls Tryd.prog 42 #[.slice a ns.length cap] w fun e w' => e = .returned (.tuple #[.agg #[.int .u64 (sumV ns).hi, .int .u64 (sumV ns).lo], .bool (sums ⟨0, 0⟩ ns).isSome]) ∧ Fr (fun _ => False) w w' := by
  have HRw := Lib.hid hr
  have HOk := Lib.hid hok
  have Bz0 := Lib.hid (blk_alloc (heap_alloc_new w (.cells #[.int .u64 0, .int .u64 0] 24)) (.cells #[.int .u64 0, .int .u64 0] 24))
  have Bo0 := Lib.hid (blk1 w (.cells #[.int .u64 0, .int .u64 0] 24) (.cells #[.int .u64 0, .int .u64 0] 24))
  have FA := Lib.hid (((Fr.refl (fun _ => False) w).alloc (.cells #[.int .u64 0, .int .u64 0] 24)).alloc (.cells #[.int .u64 0, .int .u64 0] 24))
  obtain ⟨n, hn⟩ : ∃ n, ns.length = n := ⟨_, rfl⟩
  have HN := Lib.hid hn
  rw [hn] at hl ⊢
  obtain ⟨r, hre⟩ : ∃ r, sums ⟨0, 0⟩ ns = r := ⟨_, rfl⟩
  have HRe := Lib.hid hre
  obtain ⟨V, hV⟩ : ∃ V, sumV ns = V := ⟨_, rfl⟩
  rw [hV, hre]
  have HV := Lib.hid (show r.getD ⟨0, 0⟩ = V from by rw [← hV, sumV, hre])
  obtain ⟨q, hq⟩ : ∃ q, r.isSome = q := ⟨_, rfl⟩
  rw [hq]
  have HQ := Lib.hid hq
  clear hr hok hn hre hV hq
  go_enter Tryd.func42, Tryd.ntmps42
  go_wp2_with fail
  go_loopw [10] (fun i wr => ∃ (k : Nat) (o : Nm), k ≤ n ∧ i = .int .i64 k ∧ o.ok ∧ sums o (ns.drop k) = r ∧ wr.heap[w.heap.size + 1]? = some (.cells #[.int .u64 o.hi, .int .u64 o.lo] 24 (0, 0)) ∧ wr.heap[w.heap.size]? = some (.cells #[.int .u64 0, .int .u64 0] 24 (0, 0)) ∧ Fr (fun _ => False) w wr) (fun i _ => ((n : Int) - intOf i).toNat)
  case atStart => exact ⟨0, ⟨0, 0⟩, Nat.zero_le _, rfl, nzero_ok, HRe.out, Bo0.out, Bz0.out, FA.out⟩
  case round =>
    obtain ⟨k, o, hk, rfl, hoo, hso, hbo, hbz, hf⟩ := hrel
    have FR := Lib.hid hf
    have Bo := Lib.hid hbo
    have Bz := Lib.hid hbz
    have HO := Lib.hid hoo
    have HS := Lib.hid hso
    by_cases hlt : k < n
    · have hltI : (k : Int) < n := by omega
      have hkl : k < ns.length := by rw [HN.out]; exact hlt
      obtain ⟨b, off, rfl, hra⟩ := row_at (f := Nm.cells) (sz := 2) (fun _ => rfl) (by omega) (HRw.out.fr hf (fun _ _ h => h)) hkl
      obtain ⟨x, hx⟩ : ∃ x, ns[k] = x := ⟨_, rfl⟩
      rw [hx] at hra
      have p0 : wr.cell? ⟨b, off + k * 2, none⟩ = some (.int .u64 x.hi) := by have h := hra 0 _ rfl; simpa using h
      have p1 : wr.cell? ⟨b, off + k * 2 + 1, none⟩ = some (.int .u64 x.lo) := hra 1 _ rfl
      have hdr : ns.drop k = x :: ns.drop (k + 1) := by rw [List.drop_eq_getElem_cons hkl, hx]
      rw [hdr, sums] at hso
      have hxo : x.ok := HOk.out x (hx ▸ List.getElem_mem hkl)
      have HXo := Lib.hid hxo
      have w1 : IntKind.i64.wrap ((k : Int) + 1) = k + 1 := IntWalk.i64_in _ (by omega)
      have Bx := Lib.hid (heap_alloc_new wr (.cells #[.int .u64 x.hi, .int .u64 x.lo] 24))
      have FX := Lib.hid (FR.out.alloc (.cells #[.int .u64 x.hi, .int .u64 x.lo] 24))
      have Bo1 := Lib.hid (blk_alloc hbo (.cells #[.int .u64 x.hi, .int .u64 x.lo] 24))
      have Bz1 := Lib.hid (blk_alloc hbz (.cells #[.int .u64 x.hi, .int .u64 x.lo] 24))
      have HAd := Lib.hid (fun W => nadd_any W o x hoo hxo)
      obtain ⟨ft, hft⟩ : ∃ ft, nfit o x = ft := ⟨_, rfl⟩
      rw [hft] at HAd hso
      have HSo := Lib.hid hso
      obtain ⟨s, hs⟩ : ∃ s, nadd o x = s := ⟨_, rfl⟩
      rw [hs] at HAd HSo
      have HSk := Lib.hid (show s.ok from hs ▸ nadd_ok hoo hxo)
      have x0 := blk_cell Bx.out 0 rfl; have x1 := blk_cell Bx.out 1 rfl; have y0 := blk_cell Bo1.out 0 rfl; have y1 := blk_cell Bo1.out 1 rfl
      clear hoo hso hbo hbz hf hra hx hdr hxo hft hs
      cases ft
      · have HV0 := Lib.hid (show V = ⟨0, 0⟩ ∧ q = false from by
          have h := HSo.out
          rw [if_neg (by decide)] at h
          exact ⟨by rw [← HV.out, ← h]; rfl, by rw [← HQ.out, ← h]; rfl⟩)
        go_wp2_with (first
          | (go_at_call 44; (with_reducible refine (HAd.out _).mono ?_); rintro e w3 ⟨rfl, f3⟩; have F3 := Lib.hid (FX.out.then_ f3 (fun _ h => h.elim)); have Bo3 := Lib.hid (f3.blk Bo1.out (fun h => h)); have Bz3 := Lib.hid (f3.blk Bz1.out (fun h => h)); clear f3)
          | ((refine wpList_store_row rfl 24 (.tmp 4) (.tmp 18) rfl (w.heap.size + 1) #[.int .u64 s.hi, .int .u64 s.lo] rfl rfl Bo3.out rfl rfl (by simp [Value.oneCell']) ?_); intro w4 hb4 f4; have F4 := Lib.hid (F3.out.then_ f4 (fun j hj => .inr (by omega))); have Bz4 := Lib.hid (f4.blk Bz3.out (by omega)); clear hb4 f4)
          | ((refine wpList_store_row rfl 24 (.tmp 2) (.tmp 22) rfl w.heap.size #[.int .u64 0, .int .u64 0] rfl rfl Bz4.out rfl rfl (by simp [Value.oneCell']) ?_); intro w9 hb9 f9; have HB9 := Lib.hid hb9; have F9 := Lib.hid f9; clear hb9 f9)
          | fail)
        refine bodyPost_ret (results_cell2 (p := 2) (q := 3) rfl _ _ w.heap.size 24 _ (0, 0) _ rfl HB9.out Tryd.underlying24 rfl rfl) rfl ?_
        exact ⟨by rw [HV0.out.1, HV0.out.2]; rfl, F4.out.then_ F9.out (fun k hk => .inr (Nat.le_of_eq hk.symm))⟩
      · have HSo2 := Lib.hid (show sums s (ns.drop (k + 1)) = r from by have h := HSo.out; rwa [if_pos rfl] at h)
        go_wp2_with (first
          | (go_at_call 44; (with_reducible refine (HAd.out _).mono ?_); rintro e w3 ⟨rfl, f3⟩; have F3 := Lib.hid (FX.out.then_ f3 (fun _ h => h.elim)); have Bo3 := Lib.hid (f3.blk Bo1.out (fun h => h)); have Bz3 := Lib.hid (f3.blk Bz1.out (fun h => h)); clear f3)
          | ((refine wpList_store_row rfl 24 (.tmp 4) (.tmp 18) rfl (w.heap.size + 1) #[.int .u64 s.hi, .int .u64 s.lo] rfl rfl Bo3.out rfl rfl (by simp [Value.oneCell']) ?_); intro w4 hb4 f4; have Bo4 := Lib.hid hb4; have F4 := Lib.hid (F3.out.then_ f4 (fun j hj => .inr (by omega))); have Bz4 := Lib.hid (f4.blk Bz3.out (by omega)); clear hb4 f4)
          | fail)
        go_roundw
        case rel =>
          exact ⟨k + 1, s, by omega, by go_num, HSk.out, HSo2.out, Bo4.out, Bz4.out, F4.out⟩
        case measure => first | (simp only [intOf, w1]; omega) | (simp [intOf, w1]; omega)
    · have hltI : ¬ (k : Int) < n := by omega
      have hdr : ns.drop k = [] := List.drop_eq_nil_of_le (by rw [HN.out]; omega)
      rw [hdr, sums] at hso
      have HV0 := Lib.hid (show V = o ∧ q = true from ⟨by rw [← HV.out, ← hso]; rfl, by rw [← HQ.out, ← hso]; rfl⟩)
      have y0 := blk_cell hbo 0 rfl; have y1 := blk_cell hbo 1 rfl
      clear hoo hso hbo hbz hf hdr
      go_wp2_with (first
        | ((refine wpList_store_row rfl 24 (.tmp 2) (.tmp 24) rfl w.heap.size #[.int .u64 o.hi, .int .u64 o.lo] rfl rfl Bz.out rfl rfl (by simp [Value.oneCell']) ?_); intro w9 hb9 f9; have HB9 := Lib.hid hb9; have F9 := Lib.hid f9; clear hb9 f9)
        | fail)
      refine bodyPost_ret (results_cell2 (p := 2) (q := 3) rfl _ _ w.heap.size 24 _ (0, 0) _ rfl HB9.out Tryd.underlying24 rfl rfl) rfl ?_
      exact ⟨by rw [HV0.out.1, HV0.out.2]; rfl, FR.out.then_ F9.out (fun k hk => .inr (Nat.le_of_eq hk.symm))⟩

/-! books' total; the document's greatest number. -/
def mostN : Nm := ⟨M64, M64⟩
theorem mostN_ok : mostN.ok := by refine ⟨?_, ?_, ?_, ?_⟩ <;> (show _ <;> unfold mostN M64 <;> decide)
def ntot (a b : Nm) : Nm := if nfit a b = true then nadd a b else mostN
theorem ntot_ok {a b : Nm} (ha : a.ok) (hb : b.ok) : (ntot a b).ok := by
  unfold ntot
  split
  · exact nadd_ok ha hb
  · exact mostN_ok
set_option maxRecDepth 4000 in
set_option maxHeartbeats 1600000 in
theorem total_any (w : World) (a b : Nm) (ha : a.ok) (hb : b.ok) (hm : Most w) :
    Calls Tryd.prog 47 #[.agg #[.int .u64 a.hi, .int .u64 a.lo], .agg #[.int .u64 b.hi, .int .u64 b.lo]] w fun e w' => e = .returned (.agg #[.int .u64 (ntot a b).hi, .int .u64 (ntot a b).lo]) ∧ Fr (fun _ => False) w w' := by
  have Bz := Lib.hid (blk2 w (.cells #[.int .u64 a.hi, .int .u64 a.lo] 24) (.cells #[.int .u64 b.hi, .int .u64 b.lo] 24) (.cells #[.int .u64 0, .int .u64 0] 24))
  have FA := Lib.hid ((((Fr.refl (fun _ => False) w).alloc (.cells #[.int .u64 a.hi, .int .u64 a.lo] 24)).alloc (.cells #[.int .u64 b.hi, .int .u64 b.lo] 24)).alloc (.cells #[.int .u64 0, .int .u64 0] 24))
  have HAd := Lib.hid (fun W => nadd_any W a b ha hb)
  have HM := Lib.hid hm
  obtain ⟨R, hR⟩ : ∃ R, ntot a b = R := ⟨_, rfl⟩
  rw [hR]
  unfold ntot at hR
  obtain ⟨q, hq⟩ : ∃ q, nfit a b = q := ⟨_, rfl⟩
  obtain ⟨s, hs⟩ : ∃ s, nadd a b = s := ⟨_, rfl⟩
  rw [hq, hs] at hR HAd
  have HR := Lib.hid hR
  clear hR hq hs ha hb hm
  cases q
  · have HV := Lib.hid (show R = mostN from by rw [← HR.out, if_neg (by decide)])
    go_enter Tryd.func47, Tryd.ntmps47
    go_wp2_with fail
    refine (HAd.out _).mono ?_
    rintro e w2 ⟨rfl, f2⟩
    have F2 := Lib.hid (FA.out.then_ f2 (fun _ h => h.elim))
    have Bz2 := Lib.hid (blk_alloc (f2.blk Bz.out (fun h => h)) (.cells #[.int .u64 s.hi, .int .u64 s.lo] 24))
    have FS := Lib.hid (F2.out.alloc (.cells #[.int .u64 s.hi, .int .u64 s.lo] 24))
    have m0 := (HM.out.fr FS.out (fun h => h)).hi
    have m1 := (HM.out.fr FS.out (fun h => h)).lo
    clear f2
    go_wp2_with (first | ((refine wpList_store_row rfl 24 (.tmp 4) (.tmp 15) rfl (w.heap.size + 1 + 1) #[.int .u64 M64, .int .u64 M64] rfl rfl Bz2.out rfl rfl (by simp [Value.oneCell']) ?_); intro w9 hb9 f9; have HB9 := Lib.hid hb9; have F9 := Lib.hid f9; clear hb9 f9) | fail)
    refine bodyPost_ret (results_cell1 (p := 4) rfl _ _ (w.heap.size + 1 + 1) 24 _ (0, 0) _ rfl HB9.out Tryd.underlying24 rfl rfl) rfl ?_
    exact ⟨by first | (rw [HV.out]; done) | (rw [HV.out]; rfl), FS.out.then_ F9.out (fun k hk => .inr (by omega))⟩
  · have HV := Lib.hid (show R = s from by rw [← HR.out, if_pos rfl])
    go_enter Tryd.func47, Tryd.ntmps47
    go_wp2_with fail
    refine (HAd.out _).mono ?_
    rintro e w2 ⟨rfl, f2⟩
    have F2 := Lib.hid (FA.out.then_ f2 (fun _ h => h.elim))
    have Bz2 := Lib.hid (blk_alloc (f2.blk Bz.out (fun h => h)) (.cells #[.int .u64 s.hi, .int .u64 s.lo] 24))
    have FS := Lib.hid (F2.out.alloc (.cells #[.int .u64 s.hi, .int .u64 s.lo] 24))
    clear f2
    go_wp2_with (first | ((refine wpList_store_row rfl 24 (.tmp 4) (.tmp 16) rfl (w.heap.size + 1 + 1) #[.int .u64 s.hi, .int .u64 s.lo] rfl rfl Bz2.out rfl rfl (by simp [Value.oneCell']) ?_); intro w9 hb9 f9; have HB9 := Lib.hid hb9; have F9 := Lib.hid f9; clear hb9 f9) | fail)
    refine bodyPost_ret (results_cell1 (p := 4) rfl _ _ (w.heap.size + 1 + 1) 24 _ (0, 0) _ rfl HB9.out Tryd.underlying24 rfl rfl) rfl ?_
    exact ⟨by first | (rw [HV.out]; done) | (rw [HV.out]; rfl), FS.out.then_ F9.out (fun k hk => .inr (by omega))⟩
set_option maxRecDepth 4000 in
theorem refMost_any (w : World) : Calls Tryd.prog 49 #[] w fun e w' => e = .returned (.agg #[.int .u64 mostN.hi, .int .u64 mostN.lo]) ∧ Fr (fun _ => False) w w' := by
  go_enter Tryd.func49, Tryd.ntmps49
  go_wp2_with fail
  refine bodyPost_ret (results_cell1 (p := 0) rfl _ _ w.heap.size 24 _ (0, 0) _ rfl (heap_alloc_new w _) Tryd.underlying24 rfl rfl) rfl ?_
  exact ⟨rfl, by (repeat (first | (with_reducible exact Fr.refl _ _) | (with_reducible refine Fr.drew ?_) | (with_reducible refine Fr.drewN ?_ _) | (with_reducible refine Fr.alloc ?_ _) | (with_reducible refine Fr.set1 ?_ _) | (with_reducible refine Fr.setNew ?_ (by omega) _)))⟩
end Go.Proofs.YtjchjpmgbmeohaaDoor

/- '==' of the structs that this seat compares. -/
set_option linter.unusedSimpArgs false
set_option linter.unusedVariables false
namespace Go.Proofs.YtjchjpmgbmeohaaDoor
open Go.RowKit

theorem eq_Acc (d : Nat) (w : World) (x0 y0 x1 y1 x2 y2 x3 y3 x4 y4 x5 y5 x6 y6 x7 y7 x8 y8 x9 y9 x10 y10 x11 y11 x12 y12 x13 y13 : Int) :
    (Op.equalIn (d + 3) 26 (.agg #[.int .u64 x0, .int .u64 x1, .int .u64 x2, .int .u64 x3, .int .u64 x4, .int .u64 x5, .int .u64 x6, .int .u64 x7, .int .u64 x8, .int .u64 x9, .int .i64 x10, .int .i64 x11, .int .i64 x12, .int .i64 x13]) (.agg #[.int .u64 y0, .int .u64 y1, .int .u64 y2, .int .u64 y3, .int .u64 y4, .int .u64 y5, .int .u64 y6, .int .u64 y7, .int .u64 y8, .int .u64 y9, .int .i64 y10, .int .i64 y11, .int .i64 y12, .int .i64 y13])).run Tryd.prog w = .ok ((x0 == y0 && (x1 == y1)) && ((x2 == y2 && (x3 == y3)) && ((x4 == y4 && (x5 == y5)) && ((x6 == y6 && (x7 == y7)) && ((x8 == y8 && (x9 == y9)) && (x10 == y10 && (x11 == y11 && (x12 == y12 && (x13 == y13))))))))) w := by
  refine eqs_of Tryd.underlying26 (by kernel_rfl) ?_
  refine eqs_cons (by decide) (by go_simp) (by go_simp) (eq_Num (d + 0) w _ _ _ _) ?_
  refine eqs_cons (by decide) (by go_simp) (by go_simp) (eq_Num (d + 0) w _ _ _ _) ?_
  refine eqs_cons (by decide) (by go_simp) (by go_simp) (eq_Num (d + 0) w _ _ _ _) ?_
  refine eqs_cons (by decide) (by go_simp) (by go_simp) (eq_Num (d + 0) w _ _ _ _) ?_
  refine eqs_cons (by decide) (by go_simp) (by go_simp) (eq_Num (d + 0) w _ _ _ _) ?_
  refine eqs_cons (by decide) (by go_simp; rfl) (by go_simp; rfl) (by go_simp) ?_
  refine eqs_cons (by decide) (by go_simp; rfl) (by go_simp; rfl) (by go_simp) ?_
  refine eqs_cons (by decide) (by go_simp; rfl) (by go_simp; rfl) (by go_simp) ?_
  exact eqs_last (by decide) (by go_simp; rfl) (by go_simp; rfl) (by go_simp)
theorem eqm_Acc (w : World) (x0 y0 x1 y1 x2 y2 x3 y3 x4 y4 x5 y5 x6 y6 x7 y7 x8 y8 x9 y9 x10 y10 x11 y11 x12 y12 x13 y13 : Int) :
    (Op.equalIn 10000 26 (.agg #[.int .u64 x0, .int .u64 x1, .int .u64 x2, .int .u64 x3, .int .u64 x4, .int .u64 x5, .int .u64 x6, .int .u64 x7, .int .u64 x8, .int .u64 x9, .int .i64 x10, .int .i64 x11, .int .i64 x12, .int .i64 x13]) (.agg #[.int .u64 y0, .int .u64 y1, .int .u64 y2, .int .u64 y3, .int .u64 y4, .int .u64 y5, .int .u64 y6, .int .u64 y7, .int .u64 y8, .int .u64 y9, .int .i64 y10, .int .i64 y11, .int .i64 y12, .int .i64 y13])).run Tryd.prog w = .ok ((x0 == y0 && (x1 == y1)) && ((x2 == y2 && (x3 == y3)) && ((x4 == y4 && (x5 == y5)) && ((x6 == y6 && (x7 == y7)) && ((x8 == y8 && (x9 == y9)) && (x10 == y10 && (x11 == y11 && (x12 == y12 && (x13 == y13))))))))) w := eq_Acc 9997 w _ _ _ _ _ _ _ _ _ _ _ _ _ _ _ _ _ _ _ _ _ _ _ _ _ _ _ _ 

end Go.Proofs.YtjchjpmgbmeohaaDoor
