/- append from whatever source; where the new row lies. -/
import Derived.Test.YtjchjpmgbmeohaaDoorBase
import Derived.Deep.AppendSrc
set_option linter.unusedSimpArgs false
set_option linter.unusedVariables false
namespace Go.Proofs.YtjchjpmgbmeohaaDoor
open Go.RowKit

theorem fr_setRow (w : World) (g : Nat) (c : Array Value) : Fr (fun k => some g = some k) w (w.setRow g c) :=
  ⟨rfl, rfl, rfl, Nat.le_of_eq (by simp [World.setRow]), fun k _ hk => setRow_other w g k _ (fun e => hk (by rw [e]))⟩

section
variable {P : Program} (w : World)
theorem run_append_src_lies (t tx ty e : TypeId) (i : TypeInfo) (z : Value) (size bytes : Nat) (ht : P.underlying t = some (.slice e)) (hi : P.info? e = some i) (hz : i.zero = some z)
    (hsize : i.size = size) (hby : i.bytes = bytes) (hzs : z.cells.size = size) (hsz : 0 < size)
    (v : Value) (n : Nat) (xs : List Value) (hown : w.ownsRow 0 e size v n xs) (x : Value) (m : Nat) (news : List Value) (hs : Src P size tx x m news w)
    (hn : n + m ≤ 140737488355328) (hb : (n + m) * bytes ≤ 140737488355328) :
    ∃ a cap w', (Builtin.append_ #[t, tx] ty #[v, x]).run P w = .ok (.slice a (n + m) cap) w' ∧ w'.ownsRow 0 e size (.slice a (n + m) cap) (n + m) (xs ++ news) ∧
      Fr (fun k => v.ownBlock = some k) w w' ∧ (∀ k, (Value.slice a (n + m) cap).ownBlock = some k → v.ownBlock = some k ∨ w.heap.size ≤ k) := by
  subst hsize
  subst hby
  have hm63 : n + m ≤ maxLen := by unfold maxLen; omega
  have hlen : (xs ++ news).length = (n + m) * i.size := by rw [List.length_append, hown.1, hs.newsLen, Nat.add_mul]
  have grown : ∀ (old : Nat), old < n + m →
      (w.drew.alloc (.cells ((xs ++ news).toArray ++ Builtin.zeroCells z.cells (grownCap w (n + m) old e - (n + m))) e)).ownsRow 0 e i.size
        (.slice (some ⟨w.heap.size, 0, none⟩) (n + m) (grownCap w (n + m) old e)) (n + m) (xs ++ news) := by
    intro old ho
    refine ⟨hlen, .inr ⟨w.heap.size, _, _, rfl, Nat.zero_le _, heap_alloc_new w.drew _, grownCap_ge w (n + m) old e, grownCap_le_maxLen w (n + m) old e hm63, ?_, ?_⟩⟩
    · have hge := grownCap_ge w (n + m) old e
      simp only [Array.size_append, List.size_toArray, size_zeroCells, hzs, hlen, ← Nat.add_mul]
      congr 1
      omega
    · simp only [Array.toList_append]
      rw [← hlen]
      exact List.take_left
  have frg : ∀ (o : Obj) (S : Nat → Prop), Fr S w (w.drew.alloc o) := fun o S => ((Fr.refl S w).drew).alloc o
  rcases hown.2 with ⟨rfl, rfl⟩ | ⟨g, cp, cur, rfl, hbg, hg, hnc, hcm, hcs, htake⟩
  · have hx : xs = [] := List.eq_nil_of_length_eq_zero (by simpa using hown.1)
    subst hx
    by_cases hm : m = 0
    · subst hm
      have hnw : news = [] := List.eq_nil_of_length_eq_zero (by simpa using hs.newsLen)
      subst hnw
      refine ⟨none, 0, w, ?_, World.ownsRow_nil w 0 e i.size, Fr.refl _ w, fun k hk => by simp [Value.ownBlock] at hk⟩
      rcases hs.kind with ⟨e', hk⟩ | hk <;> simp [Builtin.append_, run_underlying ht, run_underlying hk, sizeOf, typeInfo, hi, hs.len, hs.cells]
    · have hr := run_append_grow_src (P := P) w t tx ty e i z ht hi hz none 0 0 [] (run_firstCells_none w.drew i.size 0 0 0) x m news hs (by omega) (by omega) (growslice_fits (by omega) (by simpa using hb))
      have hgr := grown 0 (by omega)
      exact ⟨_, _, _, hr, hgr, frg _ _, fun k hk => .inr (by simp [Value.ownBlock] at hk; omega)⟩
  · by_cases hroom : n + m ≤ cp
    · have hfit : n * i.size + news.length ≤ cur.size := by rw [hs.newsLen, hcs, ← Nat.add_mul]; exact Nat.mul_le_mul_right _ hroom
      have hst := run_storeCells_at P g (n * i.size) e news 0 cur w hg (by simpa using hfit) hs.one
      simp only [Nat.add_zero] at hst
      have hr : (Builtin.append_ #[t, tx] ty #[.slice (some ⟨g, 0, none⟩) n cp, x]).run P w =
          .ok (.slice (some ⟨g, 0, none⟩) (n + m) cp) (w.setRow g (cur.toList.take (n * i.size) ++ news ++ cur.toList.drop (n * i.size + news.length)).toArray) := by
        rcases hs.kind with ⟨e', hk⟩ | hk <;> simp [Builtin.append_, run_underlying ht, run_underlying hk, sizeOf, typeInfo, hi, hs.len, hroom, hs.cells, Addr.add_lit, hst]
      refine ⟨_, _, _, hr, ⟨hlen, .inr ⟨g, cp, _, rfl, hbg, setRow_heap w g cur _ e _ hg, hroom, hcm, ?_, ?_⟩⟩, fr_setRow w g _, fun k hk => .inl hk⟩
      · simp only [List.size_toArray, List.length_append, List.length_take, List.length_drop, Array.length_toList]
        omega
      · rw [htake, ← hlen]
        exact List.take_left
    · have holds : ∀ j u, xs[j]? = some u → w.cell? ((⟨g, 0, none⟩ : Addr).add j) = some u := hown.cells (g := g) rfl
      have hr := run_append_grow_src (P := P) w t tx ty e i z ht hi hz (some ⟨g, 0, none⟩) n cp xs (run_firstCells_some w.drew i.size n ⟨g, 0, none⟩ n cp xs hown.1 (by simpa using holds)) x m news hs (by omega) (by omega) (growslice_fits (by omega) hb)
      have hgr := grown cp (by omega)
      exact ⟨_, _, _, hr, hgr, frg _ _, fun k hk => .inr (by simp [Value.ownBlock] at hk; omega)⟩

theorem wp_append_src {o : Oper} {a : Act} {K : Act → World → Prop} {Q : Exit → Act → World → Prop} (sl xo : Operand) (t tx : TypeId)
    (ho : o.op = .call { callee := .builtin .append, args := #[sl, xo], argTypes := #[t, tx] })
    (e : TypeId) (i : TypeInfo) (z : Value) (size bytes : Nat) (ht : P.underlying t = some (.slice e)) (hi : P.info? e = some i) (hz : i.zero = some z)
    (hsize : i.size = size) (hby : i.bytes = bytes) (hzs : z.cells.size = size) (hsz : 0 < size)
    (v : Value) (n : Nat) (xs : List Value) (hv : a.eval sl = v) (hown : w.ownsRow 0 e size v n xs) (x : Value) (m : Nat) (news : List Value) (hx : a.eval xo = x) (hs : Src P size tx x m news w)
    (hn : n + m ≤ 140737488355328) (hb : (n + m) * bytes ≤ 140737488355328)
    (h : ∀ g cap w', w'.ownsRow 0 e size (.slice g (n + m) cap) (n + m) (xs ++ news) → Fr (fun k => v.ownBlock = some k) w w' → (∀ k, (Value.slice g (n + m) cap).ownBlock = some k → v.ownBlock = some k ∨ w.heap.size ≤ k) → K (a.put o.dst (.slice g (n + m) cap)) w') : o.wp P a w K Q := by
  obtain ⟨g, cap, w', hr, h2, h3, h4⟩ := run_append_src_lies (P := P) w t tx o.type e i z size bytes ht hi hz hsize hby hzs hsz v n xs hown x m news hs hn hb
  unfold Oper.wp execOp
  simp only [ho, resolve, invoke, builtin, Sem.run_bind, Sem.run_pure, Result.andThen_ok, List.map_toArray, List.map_cons, List.map_nil, hv, hx, hr]
  exact h g cap w' h2 h3 h4
theorem wpList_append_src {ops : Array Oper} {rest : List Oper} {o : Oper} {a : Act} {Q : Exit → Act → World → Prop} (hgd : o.guard = none) (sl xo : Operand) (t tx : TypeId)
    (ho : o.op = .call { callee := .builtin .append, args := #[sl, xo], argTypes := #[t, tx] })
    (e : TypeId) (i : TypeInfo) (z : Value) (size bytes : Nat) (ht : P.underlying t = some (.slice e)) (hi : P.info? e = some i) (hz : i.zero = some z)
    (hsize : i.size = size) (hby : i.bytes = bytes) (hzs : z.cells.size = size) (hsz : 0 < size)
    (v : Value) (n : Nat) (xs : List Value) (hv : a.eval sl = v) (hown : w.ownsRow 0 e size v n xs) (x : Value) (m : Nat) (news : List Value) (hx : a.eval xo = x) (hs : Src P size tx x m news w)
    (hn : n + m ≤ 140737488355328) (hb : (n + m) * bytes ≤ 140737488355328)
    (h : ∀ g cap w', w'.ownsRow 0 e size (.slice g (n + m) cap) (n + m) (xs ++ news) → Fr (fun k => v.ownBlock = some k) w w' → (∀ k, (Value.slice g (n + m) cap).ownBlock = some k → v.ownBlock = some k ∨ w.heap.size ≤ k) → wpList P ops Q rest (a.put o.dst (.slice g (n + m) cap)) w') : wpList P ops Q (o :: rest) a w :=
  wpList_plain hgd fun _ hK => wp_append_src w sl xo t tx ho e i z size bytes ht hi hz hsize hby hzs hsz v n xs hv hown x m news hx hs hn hb fun g cap w' h1 h2 h3 => hK _ _ (h g cap w' h1 h2 h3)
theorem step_append_src {ops : Array Oper} {o : Oper} {a : Act} {K : Act → World → Prop} {Q : Exit → Act → World → Prop} {E : Prop} (hgd : o.guard = none) (sl xo : Operand) (t tx : TypeId)
    (ho : o.op = .call { callee := .builtin .append, args := #[sl, xo], argTypes := #[t, tx] })
    (e : TypeId) (i : TypeInfo) (z : Value) (size bytes : Nat) (ht : P.underlying t = some (.slice e)) (hi : P.info? e = some i) (hz : i.zero = some z)
    (hsize : i.size = size) (hby : i.bytes = bytes) (hzs : z.cells.size = size) (hsz : 0 < size)
    (v : Value) (n : Nat) (xs : List Value) (hv : a.eval sl = v) (hown : w.ownsRow 0 e size v n xs) (x : Value) (m : Nat) (news : List Value) (hx : a.eval xo = x) (hs : Src P size tx x m news w)
    (hn : n + m ≤ 140737488355328) (hb : (n + m) * bytes ≤ 140737488355328)
    (h : ∀ g cap w', w'.ownsRow 0 e size (.slice g (n + m) cap) (n + m) (xs ++ news) → Fr (fun k => v.ownBlock = some k) w w' → (∀ k, (Value.slice g (n + m) cap).ownBlock = some k → v.ownBlock = some k ∨ w.heap.size ≤ k) → K (a.put o.dst (.slice g (n + m) cap)) w') :
    if Region.wanted o (yielded ops a.tmps) = true then Oper.wp P o a w K Q else E := by
  have hw : Region.wanted o (yielded ops a.tmps) = true := by simp [Region.wanted, hgd]
  rw [if_pos hw]
  exact wp_append_src w sl xo t tx ho e i z size bytes ht hi hz hsize hby hzs hsz v n xs hv hown x m news hx hs hn hb h
end
end Go.Proofs.YtjchjpmgbmeohaaDoor
