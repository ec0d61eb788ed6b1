/- Books: a part of a state goes on; the others stay. -/
import Derived.Test.YtjchjpmgbmeohaaDoorBkL
set_option linter.unusedSimpArgs false
set_option linter.unusedVariables false
namespace Go.Proofs.YtjchjpmgbmeohaaDoor
open Go.RowKit

open Classical in
/-- A function, told anew at a place. -/
noncomputable def upd {α β : Type} (f : α → Option β) (x : α) (v : Option β) : α → Option β := fun y => if y = x then v else f y
theorem upd_self {α β : Type} (f : α → Option β) (x : α) (v : Option β) : upd f x v x = v := by simp [upd]
theorem upd_ne {α β : Type} (f : α → Option β) {x y : α} (v : Option β) (h : y ≠ x) : upd f x v y = f y := by simp [upd, h]
theorem upd_back {α β : Type} (f : α → Option β) (x : α) (v : Option β) (h : f x = none) : upd (upd f x v) x none = f := by
  funext y
  by_cases e : y = x
  · rw [e, upd_self, h]
  · rw [upd_ne _ _ e, upd_ne _ _ e]
theorem upd_again {α β : Type} (f : α → Option β) (x : α) (v : Option β) (h : f x = v) : upd (upd f x none) x v = f := by
  funext y
  by_cases e : y = x
  · rw [e, upd_self, h]
  · rw [upd_ne _ _ e, upd_ne _ _ e]
/-- What is new has a label. -/
def ext (lab : Nat → Nat) (n m c : Nat) : Nat → Nat := fun k => if k < n then lab k else if k < m then c else 0
section
variable {w w' : World} {lab : Nat → Nat} {d : Dd} {r : Raw} {es : List Ent} {big c : Nat}
theorem ext_rel (h : Sta w lab d r es big) (hs : w.heap.size ≤ w'.heap.size) : Rel w lab w' (ext lab w.heap.size w'.heap.size c) := by
  refine ⟨fun k hk => by rw [ext, if_pos (h.lt k hk)], fun k hk => ?_⟩
  rw [ext] at hk
  split at hk
  · omega
  · split at hk
    · assumption
    · exact absurd rfl hk
theorem ext_stp {n c : Nat} (hn : n ≤ w.heap.size) (hc : Fr (fun k => lab k ≠ 0 ∧ lab k ≠ 9) w w') : Stp n w lab w' (ext lab w.heap.size w'.heap.size c) :=
  ⟨hc, hn, fun k hk => by rw [ext, if_pos (by omega)], fun k hk _ => by rw [ext, if_pos hk], fun k hk h => .inl (by rw [ext, if_pos hk, h])⟩
theorem ext_gro (h : Sta w lab d r es big) (hc : c ≠ 0) {k : Nat} (hk : Gro (fun k => lab k = c) w w' k) : ext lab w.heap.size w'.heap.size c k = c := by
  rcases hk with hk | hk
  · rw [ext, if_pos (h.lt k (by rw [hk]; exact hc)), hk]
  · rw [ext, if_neg (by omega), if_pos hk.2]
theorem ext_lt (h : Sta w lab d r es big) (hs : w.heap.size ≤ w'.heap.size) {k : Nat} (hk : ext lab w.heap.size w'.heap.size c k ≠ 0) : k < w'.heap.size := (ext_rel h hs).lt k hk
theorem ext_in (h : Sta w lab d r es big) (hc : c ≠ 0) (hs : w.heap.size ≤ w'.heap.size) {k : Nat} (hk : ext lab w.heap.size w'.heap.size c k = c) : k < w'.heap.size := ext_lt h hs (by rw [hk]; exact hc)

/-! The log. -/
theorem Sta.logAt (h : Sta w lab d r es big) {lv sv qv : Value} {ps : List Pr} {hp : List Itm} (b : SB w lab d r es big lv sv qv ps hp) :
    LogAt w (fun k => lab k = 1 ∨ k = d.B) d.B [.pointer (some ⟨d.A, 0, none⟩), .pointer (some ⟨d.K, 0, none⟩), .pointer (some ⟨d.I, 0, none⟩), .pointer (some ⟨d.N, 0, none⟩), sv, qv, .int .i64 r.clock, .int .i64 r.stamp] es.length (es.reverse.map Ent.val) := by
  refine ⟨lv, b.blk, b.log, .inr rfl, fun k hk => ⟨.inl (b.logl k hk), fun e => ?_⟩, fun k hk => ?_⟩
  · have h1 := b.logl k hk
    have h8 := h.labB
    rw [← e, h1] at h8
    cases h8
  · rcases hk with hk | rfl
    · exact h.lt k (by rw [hk]; decide)
    · exact h.lt _ (by rw [h.labB]; decide)
theorem Sta.len (h : Sta w lab d r es big) : es.length ≤ big := by
  obtain ⟨lv, sv, qv, ps, hp, b⟩ := h.bb
  have := b.hpb
  omega
/-- Rows that a step of the log leaves: the others of the state's. -/
theorem Sta.relog (h : Sta w lab d r es big) {lv sv qv : Value} {ps : List Pr} {hp : List Itm} (b : SB w lab d r es big lv sv qv ps hp) {lab' : Nat → Nat} {es' : List Ent} {big' : Nat} (hf : Fr (fun k => lab k = 1 ∨ k = d.B) w w') (hr : Rel w lab w' lab')
    (hg : LogAt w' (fun k => lab' k = 1 ∨ k = d.B) d.B [.pointer (some ⟨d.A, 0, none⟩), .pointer (some ⟨d.K, 0, none⟩), .pointer (some ⟨d.I, 0, none⟩), .pointer (some ⟨d.N, 0, none⟩), sv, qv, .int .i64 r.clock, .int .i64 r.stamp] es'.length (es'.reverse.map Ent.val))
    (he : ∀ e ∈ es', e.at_ w' d ∧ ∀ k, e.has k → lab' k = 9) (hb : big ≤ big') (hb2 : hp.length + es'.length ≤ big') : Sta w' lab' d r es' big' := by
  have hn : ∀ k, (lab k = 1 ∨ k = d.B) → lab k = 1 ∨ lab k = 8 := fun k hk => hk.elim .inl (fun e => .inr (by rw [e]; exact h.labB))
  have hk : ∀ k c, c ≠ 0 → lab k = c → lab' k = c := fun k c h0 h1 => by rw [hr.nz k (by rw [h1]; exact h0), h1]
  have hne : ∀ c, c ≠ 1 → c ≠ 8 → ∀ k, (lab k = 1 ∨ k = d.B) → lab k ≠ c := fun c h1 h8 k hs e => by
    rcases hn k hs with h | h
    · rw [h] at e; exact h1 e.symm
    · rw [h] at e; exact h8 e.symm
  obtain ⟨lv', hb', ho', _, hl', _⟩ := hg
  refine ⟨⟨lv', sv, qv, ps, hp, ⟨hb', ho', fun k hk => ?_, own_fr b.sts hf (fun k hk hs => hne 6 (by decide) (by decide) k hs (b.stsl k hk)), fun k h => hk k 6 (by decide) (b.stsl k h), b.orel, own_fr b.ens hf (fun k hk hs => hne 7 (by decide) (by decide) k hs (b.ensl k hk)), fun k h => hk k 7 (by decide) (b.ensl k h), b.qrel, Nat.le_trans b.psb hb, hb2⟩⟩, hk _ 8 (by decide) h.labB, h.acc.rel (by decide) hf (hne 2 (by decide) (by decide)) hr, h.kep.rel (by decide) hf (hne 3 (by decide) (by decide)) hr, tab_more (h.ids.rel (by decide) hf (hne 4 (by decide) (by decide)) hr) hb, tab_more (h.nms.rel (by decide) hf (hne 5 (by decide) (by decide)) hr) hb, hr.lt, he⟩
  rcases (hl' k hk).1 with h | h
  · exact h
  · exact absurd h (hl' k hk).2
/-- What one more entry leaves. -/
def KeepPost (n : Nat) (w : World) (lab : Nat → Nat) (d : Dd) (r : Raw) (es : List Ent) (big : Nat) (e : Ent) (q : Ending) (w' : World) : Prop := q = .returned (.tuple #[]) ∧ ∃ lab', Sta w' lab' d r (e :: es) (big + 1) ∧ Stp n w lab w' lab'
open Classical in
/-- One more entry: its blocks are the entries' now. -/
theorem keepS (w : World) (lab : Nat → Nat) (d : Dd) (r : Raw) (es : List Ent) (big n : Nat) (e : Ent) (h : Sta w lab d r es big) (he : e.at_ w d) (hh : ∀ k, e.has k → n ≤ k ∧ k < w.heap.size ∧ (lab k = 0 ∨ lab k = 9)) (hn : n ≤ w.heap.size) (hb : big ≤ 1000000) :
    Calls Tryd.prog 58 #[.pointer (some ⟨d.B, 0, none⟩), .func e.fn #[] e.caps] w (KeepPost n w lab d r es big e) := by
  obtain ⟨lv, sv, qv, ps, hp, b⟩ := h.bb
  have hlen := h.len
  refine (keepB w _ d.B _ es.length _ e.fn #[] e.caps (h.logAt b) (by omega)).mono ?_
  rintro q w' ⟨rfl, hg, hf⟩
  refine ⟨rfl, fun k => if e.has k then 9 else ext lab w.heap.size w'.heap.size 1 k, ?_, ?_⟩
  · have hr : Rel w lab w' (fun k => if e.has k then 9 else ext lab w.heap.size w'.heap.size 1 k) := by
      refine ⟨fun k hk => ?_, fun k hk => ?_⟩
      · show (if e.has k then 9 else _) = _
        split
        · rename_i h9
          rcases (hh k h9).2.2 with h | h
          · exact absurd h hk
          · exact h.symm
        · exact (ext_rel h hf.size).nz k hk
      · split at hk
        · rename_i h9
          exact Nat.lt_of_lt_of_le (hh k h9).2.1 hf.size
        · exact ext_lt h hf.size hk
    have hd : ∀ k, e.has k → ¬ (lab k = 1 ∨ k = d.B) := fun k hk hs => by
      have h9 := (hh k hk).2.2
      rcases hs with hs | rfl
      · rw [hs] at h9; rcases h9 with h9 | h9 <;> cases h9
      · rw [h.labB] at h9; rcases h9 with h9 | h9 <;> cases h9
    refine h.relog b hf hr ?_ (fun e' he' => ?_) (Nat.le_succ _) (by have := b.hpb; simp only [List.length_cons]; omega)
    · rw [show (e :: es).reverse.map Ent.val = es.reverse.map Ent.val ++ [.func e.fn #[] e.caps] from by simp [Ent.val], List.length_cons]
      obtain ⟨v, hb', ho', hS', hv', hl'⟩ := hg
      refine ⟨v, hb', ho', .inr rfl, fun k hk => ⟨?_, (hv' k hk).2⟩, fun k hk => ?_⟩
      · left
        show (if e.has k then 9 else _) = 1
        have h1 := (hv' k hk).1
        rcases h1 with (h1 | h1) | h1
        · rw [if_neg (fun h9 => hd k h9 (.inl h1))]
          exact ext_gro (c := 1) h (by decide) (.inl h1)
        · exact absurd h1 (hv' k hk).2
        · rw [if_neg (fun h9 => by have := (hh k h9).2.1; omega)]
          exact ext_gro (c := 1) h (by decide) (.inr h1)
      · rcases hk with hk | rfl
        · exact hr.lt k (by rw [hk]; decide)
        · exact Nat.lt_of_lt_of_le (h.lt _ (by rw [h.labB]; decide)) hf.size
    · rcases List.mem_cons.1 he' with rfl | he'
      · exact ⟨ent_fr he hf hd, fun k hk => if_pos hk⟩
      · refine ents_rel h.ents hf (fun k hk h9 => ?_) hr e' he'
        rcases hk with hk | rfl
        · rw [hk] at h9; cases h9
        · rw [h.labB] at h9; cases h9
  · refine ⟨hf.mono (fun k hk => ?_), hn, fun k hk => ?_, fun k hk h0 => ?_, fun k hk h0 => ?_⟩
    · rcases hk with hk | rfl
      · rw [hk]; decide
      · rw [h.labB]; decide
    · show (if e.has k then 9 else _) = _
      rw [if_neg (fun h9 => by have := (hh k h9).1; omega), ext, if_pos (by omega)]
    · show (if e.has k then 9 else _) = _
      split
      · rename_i h9
        rcases (hh k h9).2.2 with h | h
        · exact absurd h h0
        · exact h.symm
      · rw [ext, if_pos hk]
    · show (if e.has k then 9 else _) = 0 ∨ (if e.has k then 9 else _) = 9
      split
      · exact .inr rfl
      · rw [ext, if_pos hk]; exact .inl h0

/-! The table of accounts' names. -/
theorem Sta.reids (h : Sta w lab d r es big) {f : Nm → Option Int} {big' : Nat} (hf : Fr (fun k => lab k = 4) w w') (ht : TabS w' (Gro (fun k => lab k = 4) w w') d.I f big') (hb : big ≤ big') : Sta w' (ext lab w.heap.size w'.heap.size 4) d { r with ids := f } es big' := by
  have hr := ext_rel (c := 4) h hf.size
  have hn : ∀ c, c ≠ 4 → ∀ k, lab k = 4 → lab k ≠ c := fun c hc k hk e => hc (by rw [← e, hk])
  obtain ⟨lv, sv, qv, ps, hp, b⟩ := h.bb
  obtain ⟨cs, t1, t2⟩ := ht
  exact ⟨⟨lv, sv, qv, ps, hp, (b.rel h.labB hf (fun k hk => ⟨hn 1 (by decide) k hk, hn 6 (by decide) k hk, hn 7 (by decide) k hk, hn 8 (by decide) k hk⟩) hr (r' := { r with ids := f }) rfl rfl rfl rfl).more hb⟩, by rw [hr.nz _ (by rw [h.labB]; decide), h.labB], h.acc.rel (by decide) hf (hn 2 (by decide)) hr, h.kep.rel (by decide) hf (hn 3 (by decide)) hr,
    ⟨cs, t1.mono (fun k hk => ext_gro h (by decide) hk) (fun k hk => ext_in h (by decide) hf.size hk), t2⟩, tab_more (h.nms.rel (by decide) hf (hn 5 (by decide)) hr) hb, hr.lt, ents_rel h.ents hf (hn 9 (by decide)) hr⟩
theorem idGetS (w : World) (lab : Nat → Nat) (d : Dd) (r : Raw) (es : List Ent) (big : Nat) (x : Nm) (h : Sta w lab d r es big) :
    Calls Tryd.prog 55 #[.pointer (some ⟨d.I, 0, none⟩), .agg #[.int .u64 x.hi, .int .u64 x.lo]] w fun e w' => e = .returned (.tuple #[.int .i64 ((r.ids x).getD 0), .bool (r.ids x).isSome]) ∧ Fr (fun _ => False) w w' := by
  obtain ⟨cs, h1, h2, h3⟩ := h.ids
  refine (get_any w _ d.I cs x h1).mono ?_
  rintro e w' ⟨a, b, rfl, hab, hf⟩
  refine ⟨?_, hf⟩
  rcases hab with ⟨rfl, hh⟩ | ⟨rfl, rfl, hh⟩
  · rw [(h2 x a).1 hh]; rfl
  · have : r.ids x = none := by
      cases hx : r.ids x with
      | none => rfl
      | some a => exact (hh (has_in ((h2 x a).2 hx))).elim
    rw [this]; rfl
theorem isin_iff {cs : List PC} {f : Nm → Option Int} (h : ∀ y a, Has cs y a ↔ f y = some a) (x : Nm) : IsIn cs x ↔ (f x).isSome = true := by
  constructor
  · rintro ⟨p, c, h1, h2, h3⟩
    rw [(h x c.at_).1 ⟨p, c, h1, h2, h3, rfl⟩]; rfl
  · intro hs
    obtain ⟨a, ha⟩ := Option.isSome_iff_exists.1 hs
    exact has_in ((h x a).2 ha)
theorem tab_put {w w' : World} {S : Nat → Prop} {T : Nat} {cs : List PC} {f : Nm → Option Int} {x : Nm} {a : Int} {e : Ending} {big : Nat} (h2 : ∀ y a, Has cs y a ↔ f y = some a) (h3 : cnt 1 cs ≤ big) (hp : PutPost S T cs x a w e w') : e = .returned (.bool (f x).isNone) ∧ TabS w' (Gro S w w') T (upd f x (some a)) (big + 1) ∧ Fr S w w' := by
  obtain ⟨b, cs', rfl, hb, ht, hh, hc, hf⟩ := hp
  refine ⟨?_, ⟨cs', ht, fun y c => ?_, ?_⟩, hf⟩
  · rw [isin_iff h2] at hb
    cases hx : (f x) with
    | none => rw [hx] at hb; simp at hb; rw [hb]; rfl
    | some v => rw [hx] at hb; simp at hb; rw [hb]; rfl
  · rw [hh y c, h2]
    by_cases e : y = x
    · subst e; rw [upd_self]; simp [eq_comm]
    · rw [upd_ne _ _ e]; simp [e]
  · rw [hc]; split <;> omega
theorem tab_drop {w w' : World} {S : Nat → Prop} {T : Nat} {cs : List PC} {f : Nm → Option Int} {x : Nm} {e : Ending} {big : Nat} (h2 : ∀ y a, Has cs y a ↔ f y = some a) (h3 : cnt 1 cs ≤ big) (hp : DropPost S T cs x w e w') : e = .returned (.bool (f x).isSome) ∧ TabS w' S T (upd f x none) big ∧ Fr S w w' := by
  obtain ⟨b, cs', rfl, hb, ht, hh, hc, _, hf⟩ := hp
  refine ⟨?_, ⟨cs', ht, fun y c => ?_, ?_⟩, hf⟩
  · rw [isin_iff h2] at hb
    cases hx : (f x) with
    | none => rw [hx] at hb; simp at hb; rw [hb]; rfl
    | some v => rw [hx] at hb; simp at hb; rw [hb]; rfl
  · rw [hh y c, h2]
    by_cases e : y = x
    · subst e; rw [upd_self]; simp
    · rw [upd_ne _ _ e]; simp [e]
  · split at hc <;> omega
theorem idPutS (w : World) (lab : Nat → Nat) (d : Dd) (r : Raw) (es : List Ent) (big : Nat) (x : Nm) (a : Int) (h : Sta w lab d r es big) (hb : big ≤ 100000) :
    Calls Tryd.prog 57 #[.pointer (some ⟨d.I, 0, none⟩), .agg #[.int .u64 x.hi, .int .u64 x.lo], .int .i64 a] w fun e w' => e = .returned (.bool (r.ids x).isNone) ∧ ∃ lab', Sta w' lab' d { r with ids := upd r.ids x (some a) } es (big + 1) ∧ Stp w.heap.size w lab w' lab' := by
  obtain ⟨cs, h1, h2, h3⟩ := h.ids
  refine (put_any w _ d.I cs x a h1 (by omega)).mono ?_
  intro e w' hp
  obtain ⟨rfl, ht, hf⟩ := tab_put h2 h3 hp
  exact ⟨rfl, _, h.reids hf ht (Nat.le_succ _), ext_stp (Nat.le_refl _) (hf.mono (fun k hk => by rw [hk]; decide))⟩
theorem idDropS (w : World) (lab : Nat → Nat) (d : Dd) (r : Raw) (es : List Ent) (big : Nat) (x : Nm) (h : Sta w lab d r es big) :
    Calls Tryd.prog 60 #[.pointer (some ⟨d.I, 0, none⟩), .agg #[.int .u64 x.hi, .int .u64 x.lo]] w fun e w' => e = .returned (.bool (r.ids x).isSome) ∧ ∃ lab', Sta w' lab' d { r with ids := upd r.ids x none } es big ∧ Stp w.heap.size w lab w' lab' := by
  obtain ⟨cs, h1, h2, h3⟩ := h.ids
  refine (drop_any w _ d.I cs x h1).mono ?_
  intro e w' hp
  obtain ⟨rfl, ⟨cs', t1, t2⟩, hf⟩ := tab_drop h2 h3 hp
  exact ⟨rfl, _, h.reids hf ⟨cs', t1.mono (fun k hk => .inl hk) (fun k hk => hk.elim (fun hk => Nat.lt_of_lt_of_le (h.lt k (by rw [hk]; decide)) hf.size) (fun hk => hk.2)), t2⟩ (Nat.le_refl _), ext_stp (Nat.le_refl _) (hf.mono (fun k hk => by rw [hk]; decide))⟩
end
end Go.Proofs.YtjchjpmgbmeohaaDoor
