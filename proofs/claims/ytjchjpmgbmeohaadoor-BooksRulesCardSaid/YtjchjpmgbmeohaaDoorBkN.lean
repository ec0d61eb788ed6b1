/- Books: one more account, one more stamp. -/
import Derived.Test.YtjchjpmgbmeohaaDoorBkM
set_option linter.unusedSimpArgs false
set_option linter.unusedVariables false
namespace Go.Proofs.YtjchjpmgbmeohaaDoor
open Go.RowKit

/-- Labels behind a list's Add. -/
def lab3 (lab : Nat → Nat) (n m s c : Nat) : Nat → Nat := fun k => if k < n then lab k else if k = n ∨ k = n + 1 + 1 then 9 else if k < n + 3 then 0 else if k < m then c else if k < s then 1 else 0
section
variable {w w' : World} {lab : Nat → Nat} {d : Dd} {r : Raw} {es : List Ent} {big : Nat}
theorem lab3_old {n m s c k : Nat} (hk : k < n) : lab3 lab n m s c k = lab k := by rw [lab3, if_pos hk]
theorem lab3_ent {n m s c k : Nat} (hk : k = n ∨ k = n + 1 + 1) : lab3 lab n m s c k = 9 := by rw [lab3, if_neg (by omega), if_pos hk]
theorem lab3_row {n m s c k : Nat} (h1 : n + 3 ≤ k) (h2 : k < m) : lab3 lab n m s c k = c := by rw [lab3, if_neg (by omega), if_neg (by omega), if_neg (by omega), if_pos h2]
theorem lab3_log {n m s c k : Nat} (h0 : n + 3 ≤ m) (h1 : m ≤ k) (h2 : k < s) : lab3 lab n m s c k = 1 := by rw [lab3, if_neg (by omega), if_neg (by omega), if_neg (by omega), if_neg (by omega), if_pos h2]
theorem lab3_lt {n : Nat} (hl : ∀ k, lab k ≠ 0 → k < n) {m s c k : Nat} (h0 : n + 3 ≤ m) (h1 : m ≤ s) (hk : lab3 lab n m s c k ≠ 0) : k < s := by
  rw [lab3] at hk
  split at hk
  · omega
  · split at hk
    · omega
    · split at hk
      · exact absurd rfl hk
      · split at hk
        · omega
        · split at hk
          · assumption
          · exact absurd rfl hk
theorem lab3_rel (h : Sta w lab d r es big) {m c : Nat} (h0 : w.heap.size + 3 ≤ m) (h1 : m ≤ w'.heap.size) : Rel w lab w' (lab3 lab w.heap.size m w'.heap.size c) :=
  ⟨fun k hk => lab3_old (h.lt k hk), fun _ hk => lab3_lt h.lt h0 h1 hk⟩
theorem accLenS (w : World) (lab : Nat → Nat) (d : Dd) (r : Raw) (es : List Ent) (big : Nat) (h : Sta w lab d r es big) :
    Calls Tryd.prog 54 #[.pointer (some ⟨d.A, 0, none⟩)] w fun e w' => e = .returned (.int .i64 r.accs.length) ∧ w' = w := accLen w _ d.A d.B r.accs h.acc
theorem accAddS (w : World) (lab : Nat → Nat) (d : Dd) (r : Raw) (es : List Ent) (big : Nat) (a : Acc) (h : Sta w lab d r es big) (hx : r.accs.length ≤ 100000) (hb : big ≤ 100000) :
    Calls Tryd.prog 61 #[.pointer (some ⟨d.A, 0, none⟩), .agg a.cells.toArray] w fun q w' => q = .returned (.int .i64 r.accs.length) ∧ ∃ lab', Sta w' lab' d { r with accs := r.accs ++ [a] } (.accCut w.heap.size (w.heap.size + 1 + 1) r.accs.length :: es) (big + 1) ∧ Stp w.heap.size w lab w' lab' := by
  obtain ⟨lv, sv, qv, ps, hp, b⟩ := h.bb
  have hlen := h.len
  have h8 := h.labB
  refine (accAdd w _ (fun k => lab k = 1 ∨ k = d.B) d.A d.B _ r.accs a es.length _ h.acc (h.logAt b) (fun k hk hg => ?_) hx (by omega)).mono ?_
  · rcases hg with hg | rfl
    · rw [hk] at hg; cases hg
    · rw [hk] at h8; cases h8
  rintro q w' ⟨rfl, m, hm0, hm1, ha, hg, hf, hb0, hb2⟩
  have hr : Rel w lab w' (lab3 lab w.heap.size m w'.heap.size 2) := lab3_rel h hm0 hm1
  have hk : ∀ k c, c ≠ 0 → lab k = c → lab3 lab w.heap.size m w'.heap.size 2 k = c := fun k c h0 h1 => by rw [hr.nz k (by rw [h1]; exact h0), h1]
  have hS : ∀ k, (lab k = 2 ∨ (lab k = 1 ∨ k = d.B)) → lab k = 2 ∨ lab k = 1 ∨ lab k = 8 := fun k hk => hk.imp id (fun hk => hk.imp id (fun e => by rw [e]; exact h8))
  have hne : ∀ c, c ≠ 1 → c ≠ 2 → c ≠ 8 → ∀ k, (lab k = 2 ∨ (lab k = 1 ∨ k = d.B)) → lab k ≠ c := fun c h1 h2 h8 k hs e => by
    rcases hS k hs with h | h | h
    · rw [h] at e; exact h2 e.symm
    · rw [h] at e; exact h1 e.symm
    · rw [h] at e; exact h8 e.symm
  refine ⟨rfl, lab3 lab w.heap.size m w'.heap.size 2, ⟨?_, hk _ 8 (by decide) h8, ?_, h.kep.rel (by decide) hf (hne 3 (by decide) (by decide) (by decide)) hr, tab_more (h.ids.rel (by decide) hf (hne 4 (by decide) (by decide) (by decide)) hr) (Nat.le_succ _), tab_more (h.nms.rel (by decide) hf (hne 5 (by decide) (by decide) (by decide)) hr) (Nat.le_succ _), hr.lt, ?_⟩, ?_⟩
  · obtain ⟨lv', hb', ho', _, hl', _⟩ := hg
    refine ⟨lv', sv, qv, ps, hp, ⟨hb', ?_, fun k hk => ?_, own_fr b.sts hf (fun k hk hs => hne 6 (by decide) (by decide) (by decide) k hs (b.stsl k hk)), fun k h => hk k 6 (by decide) (b.stsl k h), b.orel, own_fr b.ens hf (fun k hk hs => hne 7 (by decide) (by decide) (by decide) k hs (b.ensl k hk)), fun k h => hk k 7 (by decide) (b.ensl k h), b.qrel, Nat.le_succ_of_le b.psb, by have := b.hpb; simp only [List.length_cons]; omega⟩⟩
    · rw [show (Ent.accCut w.heap.size (w.heap.size + 1 + 1) r.accs.length :: es).reverse.map Ent.val = es.reverse.map Ent.val ++ [addFn w.heap.size (w.heap.size + 1 + 1)] from by simp [Ent.val, Ent.fn, Ent.caps, addFn, pt], List.length_cons]
      exact ho'
    · rcases (hl' k hk).1 with (h1 | h1) | h1
      · rw [lab3_old (h.lt k (by rw [h1]; decide)), h1]
      · exact absurd h1 (hl' k hk).2
      · exact lab3_log hm0 h1.1 h1.2
  · refine Rw.mono ha (fun k hk => ?_) (fun k hk => hr.lt k (by rw [hk]; decide))
    rcases hk with hk | hk
    · show lab3 lab _ _ _ _ k = 2
      rw [lab3_old (h.lt k (by rw [hk]; decide)), hk]
    · exact lab3_row hk.1 hk.2
  · intro e he
    rcases List.mem_cons.1 he with rfl | he
    · exact ⟨⟨hb0, hb2⟩, fun k hk => lab3_ent hk⟩
    · exact ents_rel h.ents hf (hne 9 (by decide) (by decide) (by decide)) hr e he
  · refine ⟨hf.mono (fun k hk => ?_), Nat.le_refl _, fun k hk => lab3_old hk, fun k hk _ => lab3_old hk, fun k hk h0 => .inl (by rw [lab3_old hk, h0])⟩
    rcases hS k hk with h | h | h <;> rw [h] <;> decide
end

/-! One more stamp. -/
theorem Sta.restamp {w : World} {lab : Nat → Nat} {d : Dd} {r : Raw} {es : List Ent} {big : Nat} (h : Sta w lab d r es big) (s : Int) : Sta (w.setCell ⟨d.B, 8, none⟩ (.int .i64 s)) lab d { r with stamp := s } es big ∧ Fr (fun k => k = d.B) w (w.setCell ⟨d.B, 8, none⟩ (.int .i64 s)) := by
  have hf : Fr (fun k => k = d.B) w (w.setCell ⟨d.B, 8, none⟩ (.int .i64 s)) := (Fr.refl (fun k => k = d.B) w).setCell (p := ⟨d.B, 8, none⟩) (.inl rfl) _
  have h8 := h.labB
  have hn : ∀ c, c ≠ 8 → ∀ k, k = d.B → lab k ≠ c := fun c hc k hk e => hc (by rw [← e, hk, h8])
  have hr : Rel w lab (w.setCell ⟨d.B, 8, none⟩ (.int .i64 s)) lab := ⟨fun _ _ => rfl, fun k hk => Nat.lt_of_lt_of_le (h.lt k hk) hf.size⟩
  obtain ⟨lv, sv, qv, ps, hp, b⟩ := h.bb
  refine ⟨⟨⟨lv, sv, qv, ps, hp, ⟨?_, own_fr b.log hf (fun k hk hs => hn 1 (by decide) k hs (b.logl k hk)), b.logl, own_fr b.sts hf (fun k hk hs => hn 6 (by decide) k hs (b.stsl k hk)), b.stsl, b.orel, own_fr b.ens hf (fun k hk hs => hn 7 (by decide) k hs (b.ensl k hk)), b.ensl, b.qrel, b.psb, b.hpb⟩⟩, h8, h.acc.rel (by decide) hf (hn 2 (by decide)) hr, h.kep.rel (by decide) hf (hn 3 (by decide)) hr, h.ids.rel (by decide) hf (hn 4 (by decide)) hr, h.nms.rel (by decide) hf (hn 5 (by decide)) hr, hr.lt, ents_rel h.ents hf (hn 9 (by decide)) hr⟩, hf⟩
  have hb := blk_set b.blk 8 (.int .i64 s)
  simpa using hb
theorem Sta.cells {w : World} {lab : Nat → Nat} {d : Dd} {r : Raw} {es : List Ent} {big : Nat} (h : Sta w lab d r es big) : w.cell? ⟨d.B, 1, none⟩ = some (.pointer (some ⟨d.A, 0, none⟩)) ∧ w.cell? ⟨d.B, 2, none⟩ = some (.pointer (some ⟨d.K, 0, none⟩)) ∧ w.cell? ⟨d.B, 3, none⟩ = some (.pointer (some ⟨d.I, 0, none⟩)) ∧ w.cell? ⟨d.B, 4, none⟩ = some (.pointer (some ⟨d.N, 0, none⟩)) ∧ w.cell? ⟨d.B, 7, none⟩ = some (.int .i64 r.clock) ∧ w.cell? ⟨d.B, 8, none⟩ = some (.int .i64 r.stamp) ∧ w.frozen? ⟨d.B, 7, none⟩ = false ∧ w.frozen? ⟨d.B, 8, none⟩ = false := by
  obtain ⟨lv, sv, qv, ps, hp, b⟩ := h.bb
  exact ⟨blk_cell b.blk 1 rfl, blk_cell b.blk 2 rfl, blk_cell b.blk 3 rfl, blk_cell b.blk 4 rfl, blk_cell b.blk 7 rfl, blk_cell b.blk 8 rfl, blk_free b.blk 7, blk_free b.blk 8⟩
def NextPost (w : World) (lab : Nat → Nat) (d : Dd) (r : Raw) (es : List Ent) (big : Nat) (e : Ending) (w' : World) : Prop :=
  e = .returned (.int .i64 (r.stamp + 1)) ∧ ∃ lab' b, Sta w' lab' d { r with stamp := r.stamp + 1 } (.stDec b :: es) (big + 1) ∧ Stp w.heap.size w lab w' lab'
set_option maxHeartbeats 1600000 in
theorem nextS (w : World) (lab : Nat → Nat) (d : Dd) (r : Raw) (es : List Ent) (big : Nat) (h : Sta w lab d r es big) (hb : big ≤ 100000) (h0 : 0 ≤ r.stamp) (h1 : r.stamp ≤ 4611686018427387904) :
    Calls Tryd.prog 56 #[.pointer (some ⟨d.B, 0, none⟩)] w (NextPost w lab d r es big) := by
  obtain ⟨s, hs⟩ : ∃ s, r.stamp = s := ⟨_, rfl⟩
  have HSt := Lib.hid hs
  rw [hs] at h0 h1
  have ws : IntKind.i64.wrap (s + 1) = s + 1 := IntWalk.i64_in _ (by omega)
  obtain ⟨-, -, -, -, -, c8, -, f8⟩ := (h.alloc (.cells #[.pointer (some ⟨d.B, 0, none⟩)] 35)).cells
  rw [hs] at c8
  have h8 := h.labB
  have hBl := h.lt d.B (by rw [h8]; decide)
  have Hbx := Lib.hid (blk_far2 (heap_alloc_new w (.cells #[.pointer (some ⟨d.B, 0, none⟩)] 35)) (b := d.B) (j := 8) (by omega) (.int .i64 (s + 1)))
  have Hlab := Lib.hid (h.free (Nat.le_refl _))
  have H8 := Lib.hid h8
  have cx := blk_cell (heap_alloc_new w (.cells #[.pointer (some ⟨d.B, 0, none⟩)] 35)) 0 rfl
  obtain ⟨S1, f1⟩ := (h.alloc (.cells #[.pointer (some ⟨d.B, 0, none⟩)] 35)).restamp (s + 1)
  have HSt1 := Lib.hid S1
  have HF1 := Lib.hid (((Fr.refl (fun k => k = d.B) w).alloc (.cells #[.pointer (some ⟨d.B, 0, none⟩)] 35)).then_ f1 (fun _ h => .inl h))
  have HLt := Lib.hid h.lt
  have HK := Lib.hid (show Calls Tryd.prog 58 #[.pointer (some ⟨d.B, 0, none⟩), .func (.func 96) #[] #[.pointer (some ⟨w.heap.size, 0, none⟩)]] ((w.alloc (.cells #[.pointer (some ⟨d.B, 0, none⟩)] 35)).setCell ⟨d.B, 8, none⟩ (.int .i64 (s + 1))) (KeepPost w.heap.size _ lab d { r with stamp := s + 1 } es big (.stDec w.heap.size)) from keepS _ lab d _ es big w.heap.size (.stDec w.heap.size) S1 Hbx.out (fun k hk => by have hk : k = w.heap.size := hk; subst hk; exact ⟨Nat.le_refl _, blk_lt Hbx.out, .inl Hlab.out⟩) (Nat.le_of_lt (blk_lt Hbx.out)) (by omega))
  clear f1 S1 hs h h8 hBl
  go_enter Tryd.func56, Tryd.ntmps56
  go_wp2_with fail
  refine HK.out.mono ?_
  rintro e w2 ⟨rfl, lab2, h2, p2⟩
  obtain ⟨-, -, -, -, -, k8, -, -⟩ := h2.cells
  have kx := blk_cell (p2.blk Hbx.out (.inl Hlab.out)).1 0 rfl
  have H2 := Lib.hid h2
  have P2 := Lib.hid p2
  clear h2 p2
  go_wp2_with fail
  go_ret
  rw [← HSt.out] at *
  refine ⟨rfl, lab2, w.heap.size, H2.out, (Stp.mk (HF1.out.mono (fun k hk => by rw [hk, H8.out]; decide)) (Nat.le_refl _) (fun _ _ => rfl) (fun _ _ _ => rfl) (fun _ _ h => .inl h) : Stp w.heap.size w lab _ lab).then_ P2.out (Nat.le_refl _) HSt1.out.lt⟩
end Go.Proofs.YtjchjpmgbmeohaaDoor
