/- A row that a block's first cell holds as a slice, and owns: grown, cut, written. No program in sight. -/
import Derived.Test.YtjchjpmgbmeohaaDoorBase
import Derived.Deep.AppendLies
set_option linter.unusedSimpArgs false
set_option linter.unusedVariables false
namespace Go.Proofs.YtjchjpmgbmeohaaDoor
open Go.RowKit

/-- Block b: a slice, which owns its row of n things (vs), and other cells; S: its blocks. -/
def Rw (w : World) (S : Nat → Prop) (b : Nat) (T et : TypeId) (sz : Nat) (rest : List Value) (n : Nat) (vs : List Value) : Prop :=
  ∃ v, w.heap[b]? = some (.cells (v :: rest).toArray T (0, 0)) ∧ w.ownsRow 0 et sz v n vs ∧ S b ∧ (∀ k, v.ownBlock = some k → S k ∧ k ≠ b) ∧ ∀ k, S k → k < w.heap.size

section
variable {w w' : World} {S S2 : Nat → Prop} {b : Nat} {T et : TypeId} {sz : Nat} {rest : List Value} {n : Nat} {vs : List Value}
theorem Rw.fr (h : Rw w S b T et sz rest n vs) (hf : Fr S2 w w') (hd : ∀ k, S k → ¬ S2 k) : Rw w' S b T et sz rest n vs := by
  obtain ⟨v, hb, ho, hg, hv, hl⟩ := h
  exact ⟨v, hf.blk hb (hd _ hg), own_fr ho hf (fun k hk => hd _ (hv k hk).1), hg, hv, fun k hk => Nat.lt_of_lt_of_le (hl k hk) hf.size⟩
theorem Rw.alloc (h : Rw w S b T et sz rest n vs) (o : Obj) : Rw (w.alloc o) S b T et sz rest n vs := h.fr ((Fr.refl (fun _ => False) w).alloc o) (fun _ _ h => h)
theorem Rw.drew (h : Rw w S b T et sz rest n vs) : Rw w.drew S b T et sz rest n vs := h
theorem Rw.lt (h : Rw w S b T et sz rest n vs) {k : Nat} (hk : S k) : k < w.heap.size := by
  obtain ⟨v, _, _, _, _, hl⟩ := h
  exact hl k hk
theorem Rw.at_ (h : Rw w S b T et sz rest n vs) : S b := by
  obtain ⟨v, _, _, hb, _, _⟩ := h
  exact hb
/-- The set may be any that holds it. -/
theorem Rw.mono (h : Rw w S b T et sz rest n vs) (hs : ∀ k, S k → S2 k) (hl : ∀ k, S2 k → k < w.heap.size) : Rw w S2 b T et sz rest n vs := by
  obtain ⟨v, hb, ho, hg, hv, _⟩ := h
  exact ⟨v, hb, ho, hs _ hg, fun k hk => ⟨hs _ (hv k hk).1, (hv k hk).2⟩, hl⟩

/-- What an append and the store of the new slice leave. -/
theorem rw_push {W0 w2 : World} {cap2 N : Nat} {a2 : Option Addr} {v : Value} {xs : List Value} (hb : w.heap[b]? = some (.cells (v :: rest).toArray T (0, 0)))
    (hSb : S b) (hSv : ∀ k, v.ownBlock = some k → S k ∧ k ≠ b) (hl : ∀ k, S k → k < w.heap.size) (h0 : Fr (fun _ => False) w W0)
    (hown2 : w2.ownsRow 0 et sz (.slice a2 N cap2) N xs) (hf2 : Fr (fun k => v.ownBlock = some k) W0 w2) (hat2 : ∀ k, (Value.slice a2 N cap2).ownBlock = some k → v.ownBlock = some k ∨ W0.heap.size ≤ k) :
    Rw (w2.setCell ⟨b, 0, none⟩ (.slice a2 N cap2)) (Gro S w (w2.setCell ⟨b, 0, none⟩ (.slice a2 N cap2))) b T et sz rest N xs ∧ Fr S w (w2.setCell ⟨b, 0, none⟩ (.slice a2 N cap2)) := by
  have hs0 := h0.size
  have hs2 := hf2.size
  have hblt := hl b hSb
  have hne : ¬ v.ownBlock = some b := fun he => (hSv b he).2 rfl
  have hb2 : w2.heap[b]? = some (.cells (v :: rest).toArray T (0, 0)) := hf2.blk (h0.blk hb (fun h => h)) hne
  have h2g : ∀ k, (Value.slice a2 N cap2).ownBlock = some k → k ≠ b := fun k hk => by rcases hat2 k hk with h | h; (exact (hSv k h).2); omega
  have hfr : Fr S w w2 := (h0.mono (fun _ h => h.elim)).then_ hf2 (fun k hk => .inl (hSv k hk).1)
  have hsz : (w2.setCell ⟨b, 0, none⟩ (.slice a2 N cap2)).heap.size = w2.heap.size := by simp [World.setCell]
  refine ⟨⟨.slice a2 N cap2, ?_, own_fr hown2 ((Fr.refl (fun k => k = b) w2).setCell (.inl rfl) _) (fun k hk => h2g k hk), .inl hSb, fun k hk => ?_, fun k hk => ?_⟩, hfr.setCell (p := ⟨b, 0, none⟩) (.inl hSb) _⟩
  · have h := blk_set hb2 0 (.slice a2 N cap2)
    simpa using h
  · have hk2 := own_lt hown2 hk
    refine ⟨?_, h2g k hk⟩
    rcases hat2 k hk with h | h
    · exact .inl (hSv k h).1
    · exact .inr ⟨by omega, by omega⟩
  · rcases hk with h | h
    · have := hl k h; omega
    · exact h.2

theorem own_some {v : Value} (h : w.ownsRow 0 et sz v n vs) (hn : 0 < n) : ∃ g cap, v = .slice (some ⟨g, 0, none⟩) n cap := by
  rcases h.2 with ⟨_, h0⟩ | ⟨g, cap, cur, rfl, _⟩
  · omega
  · exact ⟨g, cap, rfl⟩
/-- A slice, cut short, owns what is left. -/
theorem own_cut {v : Value} (h : w.ownsRow 0 et sz v n vs) {a : Option Addr} {cap m : Nat} (hv : v = .slice a n cap) (hm : m ≤ n) : w.ownsRow 0 et sz (.slice a m cap) m (vs.take (m * sz)) := by
  subst hv
  have hlen : (vs.take (m * sz)).length = m * sz := by rw [List.length_take, h.1]; exact Nat.min_eq_left (Nat.mul_le_mul_right _ hm)
  refine ⟨hlen, ?_⟩
  rcases h.2 with ⟨hv, h0⟩ | ⟨g, cp, cur, hv, hbg, hg, hnc, hcm, hcs, htake⟩
  · simp only [Value.slice.injEq] at hv
    obtain ⟨rfl, _, rfl⟩ := hv
    exact .inl ⟨by rw [show m = 0 by omega], by omega⟩
  · simp only [Value.slice.injEq] at hv
    obtain ⟨rfl, _, rfl⟩ := hv
    refine .inr ⟨g, cap, cur, rfl, hbg, hg, by omega, hcm, hcs, ?_⟩
    rw [← htake, List.take_take, Nat.min_eq_left (Nat.mul_le_mul_right _ hm)]
/-- .. and the store of the cut slice. -/
theorem rw_cut {v : Value} {a : Option Addr} {cap m : Nat} (hb : w.heap[b]? = some (.cells (v :: rest).toArray T (0, 0))) (ho : w.ownsRow 0 et sz v n vs) (hSb : S b) (hSv : ∀ k, v.ownBlock = some k → S k ∧ k ≠ b) (hl : ∀ k, S k → k < w.heap.size)
    (hv : v = .slice a n cap) (hm : m ≤ n) : Rw (w.setCell ⟨b, 0, none⟩ (.slice a m cap)) S b T et sz rest m (vs.take (m * sz)) ∧ Fr S w (w.setCell ⟨b, 0, none⟩ (.slice a m cap)) := by
  have e : ∀ k, (Value.slice a m cap).ownBlock = some k → v.ownBlock = some k := fun k hk => by
    subst hv
    cases a with
    | none => simp [Value.ownBlock] at hk
    | some x => exact hk
  refine ⟨⟨.slice a m cap, ?_, own_fr (own_cut ho hv hm) ((Fr.refl (fun k => k = b) w).setCell (.inl rfl) _) (fun k hk => (hSv k (e k hk)).2), hSb, fun k hk => hSv k (e k hk), fun k hk => ?_⟩, (Fr.refl S w).setCell (p := ⟨b, 0, none⟩) (.inl hSb) _⟩
  · have h := blk_set hb 0 (.slice a m cap)
    simpa using h
  · have := hl k hk
    simpa [World.setCell] using this
/-- A thing of the row is written. -/
theorem rw_put {g cap j : Nat} {u : Value} (hb : w.heap[b]? = some (.cells (Value.slice (some ⟨g, 0, none⟩) n cap :: rest).toArray T (0, 0))) (ho : w.ownsRow 0 et sz (.slice (some ⟨g, 0, none⟩) n cap) n vs) (hSb : S b)
    (hSv : ∀ k, (Value.slice (some ⟨g, 0, none⟩) n cap).ownBlock = some k → S k ∧ k ≠ b) (hl : ∀ k, S k → k < w.heap.size) :
    Rw (w.setCell ⟨g, j, none⟩ u) S b T et sz rest n (vs.set j u) ∧ Fr S w (w.setCell ⟨g, j, none⟩ u) := by
  obtain ⟨ho2, _⟩ := ho.stored j u
  have hg := hSv g rfl
  refine ⟨⟨_, blk_far2 hb (fun e => hg.2 e.symm) u, ho2, hSb, hSv, fun k hk => ?_⟩, (Fr.refl S w).setCell (p := ⟨g, j, none⟩) (.inl hg.1) _⟩
  have := hl k hk
  simpa [World.setCell] using this
end

/-- append(s, x), x laid in a block of its own just before, at a plain region's list. -/
theorem wpList_append_fresh {P : Program} {ops : Array Oper} {rest : List Oper} {o : Oper} {a : Act} {Q : Exit → Act → World → Prop} (w w0 : World) (hgd : o.guard = none) (s x : Operand) (t : TypeId)
    (ho : o.op = .call { callee := .builtin .append, args := #[s, x], argTypes := #[t, t] })
    (e : TypeId) (i : TypeInfo) (z : Value) (size bytes : Nat) (ht : P.underlying t = some (.slice e)) (hi : P.info? e = some i) (hz : i.zero = some z)
    (hsize : i.size = size) (hby : i.bytes = bytes) (hzs : z.cells.size = size) (hsz : 0 < size)
    (v : Value) (n : Nat) (xs : List Value) (hs : a.eval s = v) (hown : w0.ownsRow 0 e size v n xs) (us : Array Value) (hw : w = w0.alloc (.cells us e)) (hx : a.eval x = .slice (some ⟨w0.heap.size, 0, none⟩) 1 1)
    (hus : us.size = size) (h1 : ∀ u ∈ us.toList, u.oneCell' = true) (hb : (n + 1) * bytes ≤ 140737488355328) (hn : n + 1 ≤ 140737488355328)
    (h : ∀ g cap w', w'.ownsRow 0 e size (.slice (some ⟨g, 0, none⟩) (n + 1) cap) (n + 1) (xs ++ us.toList) → Fr (fun k => v.ownBlock = some k) w w' → (∀ k, (Value.slice (some ⟨g, 0, none⟩) (n + 1) cap).ownBlock = some k → v.ownBlock = some k ∨ w.heap.size ≤ k) → wpList P ops Q rest (a.put o.dst (.slice (some ⟨g, 0, none⟩) (n + 1) cap)) w') : wpList P ops Q (o :: rest) a w := by
  subst hw
  refine wpList_append_lies _ hgd s x t ho 0 e i z size bytes ht hi hz hsize hby hzs hsz v n xs hs (hown.alloc _) ⟨w0.heap.size, 0, none⟩ 1 1 us.toList hx (by simp [hus]) (fun j u hu => ?_) h1 (by omega) (by unfold maxLen; omega) hb (Nat.zero_le _) _ rfl
    (fun g cap w' h1 h2 h3 h4 => h g cap w' h1 (Fr.grownBy h2 |>.mono fun k hk => hk.symm) (fun k hk => own_slice_lies hk h3))
  have hadd : (⟨w0.heap.size, 0, none⟩ : Addr).add j = ⟨w0.heap.size, j, none⟩ := by unfold Addr.add; split <;> simp_all
  rw [hadd]
  refine blk_cell (c := us) (t := e) (f := (0, 0)) (heap_alloc_new w0 _) j (by simpa using hu)
end Go.Proofs.YtjchjpmgbmeohaaDoor
