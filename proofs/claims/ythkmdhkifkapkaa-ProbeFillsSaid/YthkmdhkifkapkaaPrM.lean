/- The document's table: Drop. -/
import Derived.Test.YthkmdhkifkapkaaPrL
import Derived.Deep.AppendSrc
import Derived.Laws.MakeOwn
set_option linter.unusedSimpArgs false
set_option linter.unusedVariables false
namespace Go.Proofs.Ythkmdhkifkapkaa
open Go.RowKit

theorem src_own {P : Program} {w : World} {et tx e' : TypeId} {sz n : Nat} {v : Value} {vs : List Value} (hk : P.underlying tx = some (.slice e')) (h : w.ownsRow 0 et sz v n vs) (h1 : ∀ u ∈ vs, u.oneCell' = true) : Src P sz tx v n vs w := by
  rcases h.2 with ⟨rfl, rfl⟩ | ⟨g, cap, cur, rfl, r⟩
  · obtain rfl : vs = [] := List.eq_nil_of_length_eq_zero (by simpa using h.1)
    exact Src.ofNil w hk 0
  · exact Src.ofSlice w hk _ _ _ _ h.1 (h.cells rfl) h1
/-- The end of a slice. -/
theorem src_drop {P : Program} {w : World} {et tx e' : TypeId} {sz n g cap : Nat} {vs : List Value} (hk : P.underlying tx = some (.slice e')) (h : w.ownsRow 0 et sz (.slice (some ⟨g, 0, none⟩) n cap) n vs) (h1 : ∀ u ∈ vs, u.oneCell' = true) {m : Nat} (hm : m ≤ n) (ad : Option Addr) (c : Nat) (hp : 0 < n - m → ad = some ⟨g, m * sz, none⟩) :
    Src P sz tx (.slice ad (n - m) c) (n - m) (vs.drop (m * sz)) w := by
  by_cases h0 : n - m = 0
  · rw [h0, show vs.drop (m * sz) = [] from List.drop_eq_nil_of_le (by rw [h.1]; exact Nat.mul_le_mul_right _ (by omega))]
    cases ad with
    | none => exact Src.ofNil _ hk c
    | some b => exact Src.ofSlice _ hk b 0 c [] (by simp) (fun j u hu => by simp at hu) (fun u hu => by simp at hu)
  · rw [hp (by omega)]
    refine Src.ofSlice _ hk _ _ c _ (by rw [List.length_drop, h.1, Nat.sub_mul]) (fun j u hu => ?_) (fun u hu => h1 u (List.mem_of_mem_drop hu))
    rw [List.getElem?_drop] at hu
    have hc := h.cells (g := g) rfl (m * sz + j) u hu
    have e1 : (⟨g, 0, none⟩ : Addr).add (m * sz + j) = ⟨g, m * sz + j, none⟩ := by unfold Addr.add; split <;> simp_all
    have e2 : (⟨g, m * sz, none⟩ : Addr).add j = ⟨g, m * sz + j, none⟩ := by unfold Addr.add; split <;> simp_all
    rw [e1] at hc
    rw [e2]
    exact hc
theorem ints_one (xs : List Int) : ∀ u ∈ ints xs, u.oneCell' = true := by
  intro u hu
  obtain ⟨x, _, rfl⟩ := List.mem_map.1 hu
  rfl
theorem nms_one (xs : List Nm) : ∀ u ∈ nms xs, u.oneCell' = true := by
  intro u hu
  obtain ⟨x, _, hx⟩ := List.mem_flatMap.1 hu
  simp only [Nm.cells, List.mem_cons, List.not_mem_nil, or_false] at hx
  rcases hx with rfl | rfl <;> rfl
/-- A thing goes. -/
def cutL {α : Type} (xs : List α) (i : Nat) : List α := xs.take i ++ xs.drop (i + 1)
theorem cutL_len {α : Type} {xs : List α} {i : Nat} (h : i < xs.length) : (cutL xs i).length = i + (xs.length - (i + 1)) := by
  rw [cutL, List.length_append, List.length_take, List.length_drop]; omega
theorem cutL_ints (xs : List Int) (i : Nat) : ints (cutL xs i) = (ints xs).take (i * 1) ++ (ints xs).drop ((i + 1) * 1) := by
  simp [cutL, ints, List.map_take, List.map_drop]
theorem nms_take (xs : List Nm) (i : Nat) : nms (xs.take i) = (nms xs).take (i * 2) := by
  induction xs generalizing i with
  | nil => simp [nms]
  | cons x xs ih =>
    cases i with
    | zero => simp [nms]
    | succ i =>
      rw [show (i + 1) * 2 = i * 2 + 2 from by omega, List.take_succ_cons]
      show Nm.cells x ++ nms (xs.take i) = (Nm.cells x ++ nms xs).take (i * 2 + 2)
      have e : List.take (i * 2 + 2) (Nm.cells x) = Nm.cells x := List.take_of_length_le (by show 2 ≤ i * 2 + 2; omega)
      rw [ih, List.take_append, e, show (Nm.cells x).length = 2 from rfl, show i * 2 + 2 - 2 = i * 2 from by omega]
theorem nms_drop (xs : List Nm) (i : Nat) : nms (xs.drop i) = (nms xs).drop (i * 2) := by
  induction xs generalizing i with
  | nil => simp [nms]
  | cons x xs ih =>
    cases i with
    | zero => simp [nms]
    | succ i =>
      rw [show (i + 1) * 2 = i * 2 + 2 from by omega, List.drop_succ_cons]
      show nms (xs.drop i) = (Nm.cells x ++ nms xs).drop (i * 2 + 2)
      have e : List.drop (i * 2 + 2) (Nm.cells x) = [] := List.drop_of_length_le (by show 2 ≤ i * 2 + 2; omega)
      rw [ih, List.drop_append, e, show (Nm.cells x).length = 2 from rfl, show i * 2 + 2 - 2 = i * 2 from by omega, List.nil_append]
theorem cutL_nms (xs : List Nm) (i : Nat) : nms (cutL xs i) = (nms xs).take (i * 2) ++ (nms xs).drop ((i + 1) * 2) := by
  rw [← nms_take, ← nms_drop]
  simp [cutL, nms]

/-- An append to a new, empty row. -/
theorem app_new {w w3 : World} {T : TypeId} {n cap2 : Nat} {g2 : Option Addr} (hf : Fr (fun k => (Value.slice (some ⟨w.heap.size, 0, none⟩) 0 0).ownBlock = some k) (w.drew.alloc (.cells #[] T)) w3)
    (hat : ∀ k, (Value.slice g2 n cap2).ownBlock = some k → (Value.slice (some ⟨w.heap.size, 0, none⟩) 0 0).ownBlock = some k ∨ (w.drew.alloc (.cells #[] T)).heap.size ≤ k) :
    Fr (fun _ => False) w w3 ∧ ∀ k, (Value.slice g2 n cap2).ownBlock = some k → w.heap.size ≤ k := by
  have fe := (Fr.refl (fun _ => False) w).drew.alloc (.cells #[] T)
  have hz := fe.size
  exact ⟨fe.then_ hf (fun k hk => .inr (Nat.le_of_eq (Option.some.inj hk))), fun k hk => (hat k hk).elim (fun h => Nat.le_of_eq (Option.some.inj h)) (fun h => Nat.le_trans hz h)⟩
theorem app_more {w w3 w4 : World} {n m cap2 cap4 : Nat} {g2 g4 : Option Addr} (h : Fr (fun _ => False) w w3 ∧ ∀ k, (Value.slice g2 n cap2).ownBlock = some k → w.heap.size ≤ k)
    (hf : Fr (fun k => (Value.slice g2 n cap2).ownBlock = some k) w3 w4) (hat : ∀ k, (Value.slice g4 m cap4).ownBlock = some k → (Value.slice g2 n cap2).ownBlock = some k ∨ w3.heap.size ≤ k) :
    Fr (fun _ => False) w w4 ∧ ∀ k, (Value.slice g4 m cap4).ownBlock = some k → w.heap.size ≤ k :=
  ⟨h.1.then_ hf (fun k hk => .inr (h.2 k hk)), fun k hk => (hat k hk).elim (h.2 k) (fun h2 => Nat.le_trans h.1.size h2)⟩

set_option maxRecDepth 4000 in
set_option maxHeartbeats 3200000 in
theorem ddrop_any (w : World) (S : Nat → Prop) (M : Nat) (ss : List Nm) (aa : List Int) (s : Nm) (h : IsD w S M ss aa) (hsa : ss.length = aa.length) (hn : ss.length ≤ 1000) (hlt : firstN ss s < ss.length) :
    Calls Try.prog 17 #[.pointer (some ⟨M, 0, none⟩), .agg #[.int .u64 s.hi, .int .u64 s.lo]] w fun e w' => e = .returned (.bool true) ∧ ∃ S', IsD w' S' M (cutL ss (firstN ss s)) (cutL aa (firstN ss s)) ∧ Fr S w w' ∧ ∀ k, S' k → S k ∨ w.heap.size ≤ k := by
  obtain ⟨i0, hi0, hz0, hz1, hz2⟩ := info_parts Try.infoInt
  obtain ⟨j0, hj0, hy0, hy1, hy2⟩ := info_parts Try.infoNum
  have FA := Lib.hid ((Fr.refl (fun _ => False) w).alloc (.cells #[.int .u64 s.hi, .int .u64 s.lo] 25))
  have H := Lib.hid (h.fr FA.out (fun _ _ h => h))
  have HF := Lib.hid (dat_any (w.alloc (.cells #[.int .u64 s.hi, .int .u64 s.lo] 25)) S M ss aa s H.out (by omega))
  have hm : dAt ss s = (firstN ss s : Int) := if_pos hlt
  obtain ⟨i, hi⟩ : ∃ i, firstN ss s = i := ⟨_, rfl⟩
  rw [hi] at hm hlt ⊢
  rw [hm] at HF
  obtain ⟨n, hnn⟩ : ∃ n, ss.length = n := ⟨_, rfl⟩
  have hna : aa.length = n := hsa.symm.trans hnn
  have HL1 := Lib.hid (cutL_len hlt)
  have HL2 := Lib.hid (cutL_len (xs := aa) (i := i) (by omega))
  rw [hnn] at hlt hn HL1
  rw [hna] at HL2
  have HN := Lib.hid hnn
  have HNa := Lib.hid hna
  clear h hi hm hsa hnn hna
  have w1 : IntKind.i64.wrap ((i : Int) + 1) = i + 1 := IntWalk.i64_in _ (by omega)
  have hltI : (i : Int) < n := by omega
  have b0 : 0 ≤ (i : Int) + 1 := by omega
  have b1 : (i : Int) + 1 ≤ n := by omega
  have hNL : i + (n - (i + 1)) ≤ 140737488355328 := by omega
  have hNB : (i + (n - (i + 1))) * 8 ≤ 140737488355328 := by omega
  have hNB2 : (i + (n - (i + 1))) * 16 ≤ 140737488355328 := by omega
  go_enter Try.func17, Try.ntmps17
  go_wp2_with fail
  refine HF.out.mono ?_
  rintro e w2 ⟨rfl, f2⟩
  have F2 := Lib.hid (FA.out.then_ f2 (fun _ h => h.elim))
  have HM2 := Lib.hid (IsD.fr (S2 := fun _ => False) H.out f2 (fun _ _ h => h))
  clear f2
  go_upto_region 4 with fail
  go_cut [] from 6 (fun w' => ∃ S', IsD w' S' M (cutL ss i) aa ∧ Fr S w2 w' ∧ ∀ k, S' k → S k ∨ w2.heap.size ≤ k)
  case first =>
    obtain ⟨v1, v2, hb, o1, o2, hS, h1, h2, h12, hl⟩ := HM2.out
    rw [HN.out] at o1
    rw [HNa.out] at o2
    obtain ⟨g, cap, rfl⟩ := own_some o1 (by omega)
    have c0 := blk_cell hb 0 rfl
    have b2 : i ≤ cap := by
      obtain ⟨a', c', e', hc', -⟩ := own_form o1
      simp only [Value.slice.injEq] at e'
      omega
    have hg := h1 g rfl
    have hMl := hl M hS
    have hgl := hl g hg.1
    have Hne := Lib.hid (show ¬ M = w2.heap.size from by omega)
    have hE := World.ownsRow_made (base := 0) (e := 25) (size := 2) w2.drew #[] 0 (Nat.zero_le _) (Nat.zero_le _) rfl
    have FE := Lib.hid ((Fr.refl (fun _ => False) w2).drew.alloc (.cells #[] 25))
    have HE := Lib.hid hE
    have Hcut := Lib.hid (src_own (P := Try.prog) (tx := 36) Try.underlying36 (own_cut (own_fr o1 FE.out (fun _ _ h => h)) rfl (m := i) (by omega)) (fun u hu => nms_one _ u (List.mem_of_mem_take hu)))
    have O1 := Lib.hid o1
    have O2 := Lib.hid (show w2.ownsRow 0 3 1 v2 aa.length (ints aa) from by rw [HNa.out]; exact o2)
    have Hb := Lib.hid hb
    have HS := Lib.hid hS
    have H1 := Lib.hid h1
    have H2 := Lib.hid h2
    have H12 := Lib.hid h12
    have HL := Lib.hid hl
    have hq : cap = i + 1 → ¬ 0 < n - (i + 1) := by
      obtain ⟨a', c', e', hc', -⟩ := own_form o1
      simp only [Value.slice.injEq] at e'
      omega
    have Hgn := Lib.hid (show ¬ g = w2.heap.size from by omega)
    have c0x := blk_cell (blk_alloc hb (.cells #[] 25)) 0 rfl
    clear hb o1 o2 hS h1 h2 h12 hl hg hMl hgl hE
    go_region_law (first
      | (refine step_append_src (w2.drew.alloc (.cells #[] 25)) rfl (.tmp 12) (.tmp 18) 36 36 rfl 25 j0 (.agg #[.int .u64 0, .int .u64 0]) 2 16 Try.underlying36 hj0 hy0 hy1 hy2 rfl (by decide) (.slice (some ⟨w2.heap.size, 0, none⟩) 0 0) 0 [] (by simp only [Act.eval, Act.put]; rfl) HE.out _ i _ (by simp only [Act.eval, Act.put]; rfl) Hcut.out (by omega) (by omega) ?_; intro g2 cap2 w3 hown3 hf3 hat3; rw [Nat.zero_add] at hown3 hat3 ⊢; have hb' := hf3.blk (blk_alloc (w := w2.drew) Hb.out _) (fun he => Hne.out (Option.some.inj he).symm); have c0' := blk_cell hb' 0 rfl; have f0' := blk_free hb' 0)
      | (refine step_append_src w3 rfl (.tmp 19) (.tmp 26) 36 36 rfl 25 j0 (.agg #[.int .u64 0, .int .u64 0]) 2 16 Try.underlying36 hj0 hy0 hy1 hy2 rfl (by decide) (.slice g2 i cap2) i _ (by simp only [Act.eval, Act.put]; rfl) hown3 _ (n - (i + 1)) _ (by simp only [Act.eval, Act.put]; rfl) (src_drop (P := Try.prog) (tx := 36) Try.underlying36 (own_fr (own_fr O1.out FE.out (fun _ _ h => h)) hf3 (fun k hk he => Hgn.out ((Option.some.inj hk).trans (Option.some.inj he).symm))) (nms_one _) (m := i + 1) (by omega) _ _ (fun h0 => by first | rfl | (rw [if_neg (by omega)]))) hNL hNB2 ?_; intro g4 cap4 w4 hown4 hf4 hat4; have hb4 := hf4.blk hb' (fun he => Nat.lt_irrefl _ (Nat.lt_of_lt_of_le (blk_lt Hb.out) ((app_new hf3 hat3).2 M he))); have c0'' := blk_cell hb4 0 rfl; have f0'' := blk_free hb4 0))
    all_goals
      have A := app_more (app_new hf3 hat3) hf4 hat4
      have HR := Lib.hid (d_push1 Hb.out O2.out HS.out H1.out H2.out H12.out HL.out (Fr.refl _ w2) hown4 (A.1.mono (fun _ h => h.elim)) (fun k hk => .inr (A.2 k hk)) HL1.out (by rw [cutL_nms, List.nil_append]))
      clear hown3 hf3 hat3 hown4 hf4 hat4 hb4 hb' A
      go_wp2_with fail
    all_goals go_meet
    all_goals exact ⟨_, HR.out.1, HR.out.2, fun k hk => hk.imp id (fun h => h.1)⟩
  case rest =>
  obtain ⟨S3, m3, f3, g3⟩ := hcut
  have HM3 := Lib.hid m3
  have F3 := Lib.hid f3
  have G3 := Lib.hid g3
  clear m3 f3 g3
  go_wp2_with fail
  obtain ⟨v1, v2, hb, o1, o2, hS, h1, h2, h12, hl⟩ := HM3.out
  rw [HNa.out] at o2
  obtain ⟨g, cap, rfl⟩ := own_some o2 (by omega)
  have c0 := blk_cell hb 1 rfl
  have b2 : i ≤ cap := by
    obtain ⟨a', c', e', hc', -⟩ := own_form o2
    simp only [Value.slice.injEq] at e'
    omega
  have hg := h2 g rfl
  have hMl := hl M hS
  have hgl := hl g hg.1
  have Hne := Lib.hid (show ¬ M = wc.heap.size from by omega)
  have hE := World.ownsRow_made (base := 0) (e := 3) (size := 1) wc.drew #[] 0 (Nat.zero_le _) (Nat.zero_le _) rfl
  have FE := Lib.hid ((Fr.refl (fun _ => False) wc).drew.alloc (.cells #[] 3))
  have HE := Lib.hid hE
  have Hcut := Lib.hid (src_own (P := Try.prog) (tx := 41) Try.underlying41 (own_cut (own_fr o2 FE.out (fun _ _ h => h)) rfl (m := i) (by omega)) (fun u hu => ints_one _ u (List.mem_of_mem_take hu)))
  have O1 := Lib.hid o1
  have O2 := Lib.hid o2
  have Hb := Lib.hid hb
  have HS := Lib.hid hS
  have H1 := Lib.hid h1
  have H2 := Lib.hid h2
  have H12 := Lib.hid h12
  have HL := Lib.hid hl
  have hq : cap = i + 1 → ¬ 0 < n - (i + 1) := by
    obtain ⟨a', c', e', hc', -⟩ := own_form o2
    simp only [Value.slice.injEq] at e'
    omega
  have Hgn := Lib.hid (show ¬ g = wc.heap.size from by omega)
  have c0x := blk_cell (blk_alloc hb (.cells #[] 3)) 1 rfl
  clear hb o1 o2 hS h1 h2 h12 hl hg hMl hgl hE
  go_region_law (first
    | (refine step_append_src (wc.drew.alloc (.cells #[] 3)) rfl (.tmp 31) (.tmp 37) 41 41 rfl 3 i0 (.int .i64 0) 1 8 Try.underlying41 hi0 hz0 hz1 hz2 rfl (by decide) (.slice (some ⟨wc.heap.size, 0, none⟩) 0 0) 0 [] (by simp only [Act.eval, Act.put]; rfl) HE.out _ i _ (by simp only [Act.eval, Act.put]; rfl) Hcut.out (by omega) (by omega) ?_; intro g2 cap2 w3 hown3 hf3 hat3; rw [Nat.zero_add] at hown3 hat3 ⊢; have hb' := hf3.blk (blk_alloc (w := wc.drew) Hb.out _) (fun he => Hne.out (Option.some.inj he).symm); have c0' := blk_cell hb' 1 rfl; have f0' := blk_free hb' 1)
    | (refine step_append_src w3 rfl (.tmp 38) (.tmp 45) 41 41 rfl 3 i0 (.int .i64 0) 1 8 Try.underlying41 hi0 hz0 hz1 hz2 rfl (by decide) (.slice g2 i cap2) i _ (by simp only [Act.eval, Act.put]; rfl) hown3 _ (n - (i + 1)) _ (by simp only [Act.eval, Act.put]; rfl) (src_drop (P := Try.prog) (tx := 41) Try.underlying41 (own_fr (own_fr O2.out FE.out (fun _ _ h => h)) hf3 (fun k hk he => Hgn.out ((Option.some.inj hk).trans (Option.some.inj he).symm))) (ints_one _) (m := i + 1) (by omega) _ _ (fun h0 => by first | rfl | (rw [if_neg (by omega), Nat.mul_one]))) hNL hNB ?_; intro g4 cap4 w4 hown4 hf4 hat4; have hb4 := hf4.blk hb' (fun he => Nat.lt_irrefl _ (Nat.lt_of_lt_of_le (blk_lt Hb.out) ((app_new hf3 hat3).2 M he))); have c0'' := blk_cell hb4 1 rfl; have f0'' := blk_free hb4 1))
  all_goals
    have A := app_more (app_new hf3 hat3) hf4 hat4
    have HR := Lib.hid (d_push2 Hb.out O1.out HS.out H1.out H2.out H12.out HL.out (Fr.refl _ wc) hown4 (A.1.mono (fun _ h => h.elim)) (fun k hk => .inr (A.2 k hk)) HL2.out (by rw [cutL_ints, List.nil_append]))
    clear hown3 hf3 hat3 hown4 hf4 hat4 hb4 hb' A
    go_wp2_with fail
  all_goals go_ret
  all_goals exact ⟨rfl, _, HR.out.1, ((F2.out.mono (fun _ h => h.elim)).then_ F3.out (fun k hk => .inl hk)).then_ HR.out.2 (fun k hk => (G3.out k hk).imp id (fun h => Nat.le_trans F2.out.size h)), fun k hk => hk.elim (fun h => (G3.out k h).imp id (fun h => Nat.le_trans F2.out.size h)) (fun h => .inr (Nat.le_trans (Nat.le_trans F2.out.size F3.out.size) h.1))⟩
theorem ddrop_no (w : World) (S : Nat → Prop) (M : Nat) (ss : List Nm) (aa : List Int) (s : Nm) (h : IsD w S M ss aa) (hn : ss.length ≤ 1000) (hlt : ¬ firstN ss s < ss.length) :
    Calls Try.prog 17 #[.pointer (some ⟨M, 0, none⟩), .agg #[.int .u64 s.hi, .int .u64 s.lo]] w fun e w' => e = .returned (.bool false) ∧ Fr (fun _ => False) w w' := by
  have FA := Lib.hid ((Fr.refl (fun _ => False) w).alloc (.cells #[.int .u64 s.hi, .int .u64 s.lo] 25))
  have HF := Lib.hid (dat_any (w.alloc (.cells #[.int .u64 s.hi, .int .u64 s.lo] 25)) S M ss aa s (h.fr FA.out (fun _ _ h => h)) (by omega))
  have hm : dAt ss s = -1 := if_neg hlt
  rw [hm] at HF
  clear h hm hlt
  go_enter Try.func17, Try.ntmps17
  go_wp2_with fail
  refine HF.out.mono ?_
  rintro e w2 ⟨rfl, f2⟩
  have F2 := Lib.hid (FA.out.then_ f2 (fun _ h => h.elim))
  clear f2
  go_wp2_with fail
  go_ret
  exact ⟨rfl, F2.out⟩
end Go.Proofs.Ythkmdhkifkapkaa
