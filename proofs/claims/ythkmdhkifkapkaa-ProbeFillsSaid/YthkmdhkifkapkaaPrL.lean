/- The document's table: Put. -/
import Derived.Test.YthkmdhkifkapkaaPrK
set_option linter.unusedSimpArgs false
set_option linter.unusedVariables false
namespace Go.Proofs.Ythkmdhkifkapkaa
open Go.RowKit

theorem d_push1 {w W0 w2 : World} {S : Nat → Prop} {M N cap2 : Nat} {a2 : Option Addr} {v1 v2 : Value} {ss' : List Nm} {aa : List Int} {xs : List Value} (hb : w.heap[M]? = some (.cells #[v1, v2] 43 (0, 0))) (o2 : w.ownsRow 0 3 1 v2 aa.length (ints aa)) (hS : S M)
    (h1 : ∀ k, v1.ownBlock = some k → S k ∧ k ≠ M) (h2 : ∀ k, v2.ownBlock = some k → S k ∧ k ≠ M) (h12 : ∀ k, v1.ownBlock = some k → ¬ v2.ownBlock = some k) (hl : ∀ k, S k → k < w.heap.size) (h0 : Fr (fun _ => False) w W0)
    (hown2 : w2.ownsRow 0 25 2 (.slice a2 N cap2) N xs) (hf2 : Fr (fun k => v1.ownBlock = some k) W0 w2) (hat2 : ∀ k, (Value.slice a2 N cap2).ownBlock = some k → v1.ownBlock = some k ∨ W0.heap.size ≤ k) (hN : ss'.length = N) (hx : nms ss' = xs) :
    IsD (w2.setCell ⟨M, 0, none⟩ (.slice a2 N cap2)) (Gro S w (w2.setCell ⟨M, 0, none⟩ (.slice a2 N cap2))) M ss' aa ∧ Fr S w (w2.setCell ⟨M, 0, none⟩ (.slice a2 N cap2)) := by
  subst hN
  subst hx
  have hs0 := h0.size
  have hs2 := hf2.size
  have hMlt := hl M hS
  have hne : ¬ v1.ownBlock = some M := fun he => (h1 M he).2 rfl
  have hb2 : w2.heap[M]? = some (.cells #[v1, v2] 43 (0, 0)) := hf2.blk (h0.blk hb (fun h => h)) hne
  have hg : ∀ k, (Value.slice a2 ss'.length cap2).ownBlock = some k → k ≠ M := fun k hk => by rcases hat2 k hk with h | h; (exact (h1 k h).2); omega
  have hfr : Fr S w w2 := (h0.mono (fun _ h => h.elim)).then_ hf2 (fun k hk => .inl (h1 k hk).1)
  have hsz : (w2.setCell ⟨M, 0, none⟩ (.slice a2 ss'.length cap2)).heap.size = w2.heap.size := by simp [World.setCell]
  have fM := (Fr.refl (fun k => k = M) w2).setCell (p := ⟨M, 0, none⟩) (.inl rfl) (.slice a2 ss'.length cap2)
  refine ⟨⟨.slice a2 ss'.length cap2, v2, by have h := blk_set hb2 0 (.slice a2 ss'.length cap2); simpa using h, own_fr hown2 fM (fun k hk => hg k hk), own_fr (own_fr (own_fr o2 h0 (fun _ _ h => h)) hf2 (fun k hk h => h12 k h hk)) fM (fun k hk => (h2 k hk).2), .inl hS, fun k hk => ⟨?_, hg k hk⟩, fun k hk => ⟨.inl (h2 k hk).1, (h2 k hk).2⟩, fun k hk h => ?_, fun k hk => ?_⟩, hfr.setCell (p := ⟨M, 0, none⟩) (.inl hS) _⟩
  · have := own_lt hown2 hk
    rcases hat2 k hk with h | h
    · exact .inl (h1 k h).1
    · exact .inr ⟨by omega, by omega⟩
  · rcases hat2 k hk with h' | h'
    · exact h12 k h' h
    · have := hl k (h2 k h).1; omega
  · rcases hk with h | h
    · have := hl k h; omega
    · exact h.2
theorem d_push2 {w W0 w2 : World} {S : Nat → Prop} {M N cap2 : Nat} {a2 : Option Addr} {v1 v2 : Value} {ss : List Nm} {aa' : List Int} {xs : List Value} (hb : w.heap[M]? = some (.cells #[v1, v2] 43 (0, 0))) (o1 : w.ownsRow 0 25 2 v1 ss.length (nms ss)) (hS : S M)
    (h1 : ∀ k, v1.ownBlock = some k → S k ∧ k ≠ M) (h2 : ∀ k, v2.ownBlock = some k → S k ∧ k ≠ M) (h12 : ∀ k, v1.ownBlock = some k → ¬ v2.ownBlock = some k) (hl : ∀ k, S k → k < w.heap.size) (h0 : Fr (fun _ => False) w W0)
    (hown2 : w2.ownsRow 0 3 1 (.slice a2 N cap2) N xs) (hf2 : Fr (fun k => v2.ownBlock = some k) W0 w2) (hat2 : ∀ k, (Value.slice a2 N cap2).ownBlock = some k → v2.ownBlock = some k ∨ W0.heap.size ≤ k) (hN : aa'.length = N) (hx : ints aa' = xs) :
    IsD (w2.setCell ⟨M, 1, none⟩ (.slice a2 N cap2)) (Gro S w (w2.setCell ⟨M, 1, none⟩ (.slice a2 N cap2))) M ss aa' ∧ Fr S w (w2.setCell ⟨M, 1, none⟩ (.slice a2 N cap2)) := by
  subst hN
  subst hx
  have hs0 := h0.size
  have hs2 := hf2.size
  have hMlt := hl M hS
  have hne : ¬ v2.ownBlock = some M := fun he => (h2 M he).2 rfl
  have hb2 : w2.heap[M]? = some (.cells #[v1, v2] 43 (0, 0)) := hf2.blk (h0.blk hb (fun h => h)) hne
  have hg : ∀ k, (Value.slice a2 aa'.length cap2).ownBlock = some k → k ≠ M := fun k hk => by rcases hat2 k hk with h | h; (exact (h2 k h).2); omega
  have hfr : Fr S w w2 := (h0.mono (fun _ h => h.elim)).then_ hf2 (fun k hk => .inl (h2 k hk).1)
  have hsz : (w2.setCell ⟨M, 1, none⟩ (.slice a2 aa'.length cap2)).heap.size = w2.heap.size := by simp [World.setCell]
  have fM := (Fr.refl (fun k => k = M) w2).setCell (p := ⟨M, 1, none⟩) (.inl rfl) (.slice a2 aa'.length cap2)
  refine ⟨⟨v1, .slice a2 aa'.length cap2, by have h := blk_set hb2 1 (.slice a2 aa'.length cap2); simpa using h, own_fr (own_fr (own_fr o1 h0 (fun _ _ h => h)) hf2 (fun k hk h => h12 k hk h)) fM (fun k hk => (h1 k hk).2), own_fr hown2 fM (fun k hk => hg k hk), .inl hS, fun k hk => ⟨.inl (h1 k hk).1, (h1 k hk).2⟩, fun k hk => ⟨?_, hg k hk⟩, fun k hk h => ?_, fun k hk => ?_⟩, hfr.setCell (p := ⟨M, 1, none⟩) (.inl hS) _⟩
  · have := own_lt hown2 hk
    rcases hat2 k hk with h | h
    · exact .inl (h2 k h).1
    · exact .inr ⟨by omega, by omega⟩
  · rcases hat2 k h with h' | h'
    · exact h12 k hk h'
    · have := hl k (h1 k hk).1; omega
  · rcases hk with h | h
    · have := hl k h; omega
    · exact h.2

def dputA (ss : List Nm) (aa : List Int) (s : Nm) (at_ : Int) : List Int := if firstN ss s < ss.length then aa.set (firstN ss s) at_ else aa ++ [at_]
def dputS (ss : List Nm) (s : Nm) : List Nm := if firstN ss s < ss.length then ss else ss ++ [s]
set_option maxRecDepth 4000 in
set_option maxHeartbeats 3200000 in
theorem dput_any (w : World) (S : Nat → Prop) (M : Nat) (ss : List Nm) (aa : List Int) (s : Nm) (at_ : Int) (h : IsD w S M ss aa) (hsa : ss.length = aa.length) (hn : ss.length ≤ 1000) :
    Calls Try.prog 16 #[.pointer (some ⟨M, 0, none⟩), .agg #[.int .u64 s.hi, .int .u64 s.lo], .int .i64 at_] w fun e w' => e = .returned (.bool (!decide (firstN ss s < ss.length))) ∧ ∃ S', IsD w' S' M (dputS ss s) (dputA ss aa s at_) ∧ Fr S w w' ∧ ∀ k, S' k → S k ∨ w.heap.size ≤ k := by
  obtain ⟨i0, hi0, hz0, hz1, hz2⟩ := info_parts Try.infoInt
  obtain ⟨j0, hj0, hy0, hy1, hy2⟩ := info_parts Try.infoNum
  have FA := Lib.hid ((Fr.refl (fun _ => False) w).alloc (.cells #[.int .u64 s.hi, .int .u64 s.lo] 25))
  have Bx := Lib.hid (heap_alloc_new w (.cells #[.int .u64 s.hi, .int .u64 s.lo] 25))
  have HSl := Lib.hid (fun k (hk : S k) => h.lt hk)
  have H := Lib.hid (h.fr FA.out (fun _ _ h => h))
  have HF := Lib.hid (dat_any (w.alloc (.cells #[.int .u64 s.hi, .int .u64 s.lo] 25)) S M ss aa s H.out (by omega))
  unfold dputS dputA
  by_cases hlt : firstN ss s < ss.length
  · have hm : dAt ss s = (firstN ss s : Int) := if_pos hlt
    rw [if_pos hlt, if_pos hlt, decide_eq_true hlt]
    obtain ⟨i, hi⟩ : ∃ i, firstN ss s = i := ⟨_, rfl⟩
    rw [hi] at hm hlt ⊢
    rw [hm] at HF
    have hlt2 : i < aa.length := by omega
    have hltI : (i : Int) < aa.length := by omega
    clear h hi hm hsa
    go_enter Try.func16, Try.ntmps16
    go_wp2_with fail
    refine HF.out.mono ?_
    rintro e w2 ⟨rfl, f2⟩
    have F2 := Lib.hid (FA.out.then_ f2 (fun _ h => h.elim))
    obtain ⟨v1, v2, hb, o1, o2, hS, h1, h2, h12, hl⟩ := IsD.fr (S2 := fun _ => False) H.out f2 (fun _ _ h => h)
    obtain ⟨g, cap, rfl⟩ := own_some o2 (by omega)
    have c1 := blk_cell hb 1 rfl
    have ca : w2.cell? ⟨g, i, none⟩ = some (.int .i64 aa[i]) := by rw [o2.cellAt i (by omega)]; simp [ints, hlt2]
    have fa := o2.frozenAt i
    have HR := Lib.hid (show IsD (w2.setCell ⟨g, i, none⟩ (.int .i64 at_)) S M ss (aa.set i at_) ∧ Fr S w2 (w2.setCell ⟨g, i, none⟩ (.int .i64 at_)) from by
      obtain ⟨o3, _⟩ := o2.stored i (.int .i64 at_)
      have hg := h2 g rfl
      have fg := (Fr.refl (fun k => k = g) w2).setCell (p := ⟨g, i, none⟩) (.inl rfl) (.int .i64 at_)
      refine ⟨⟨v1, .slice (some ⟨g, 0, none⟩) aa.length cap, blk_far2 hb (fun e => hg.2 e.symm) _, own_fr o1 fg (fun k hk e => h12 k hk (by rw [e]; rfl)), ?_, hS, h1, h2, h12, fun k hk => by have := hl k hk; simpa [World.setCell] using this⟩, (Fr.refl S w2).setCell (p := ⟨g, i, none⟩) (.inl hg.1) _⟩
      rw [List.length_set, show ints (aa.set i at_) = (ints aa).set i (.int .i64 at_) from by simp [ints, List.map_set]]
      exact o3)
    clear hb o1 o2 hS h1 h2 h12 hl f2
    go_wp2_with fail
    go_ret
    exact ⟨rfl, S, HR.out.1, (F2.out.mono (fun _ h => h.elim)).then_ HR.out.2 (fun k hk => .inl hk), fun k hk => .inl hk⟩
  · have hm : dAt ss s = -1 := if_neg hlt
    rw [if_neg hlt, if_neg hlt, decide_eq_false hlt]
    rw [hm] at HF
    have hna : aa.length ≤ 1000 := by omega
    clear h hm hlt hsa
    have Hn1 := Lib.hid (show nms (ss ++ [s]) = nms ss ++ [.int .u64 s.hi, .int .u64 s.lo] from by simp [nms, Nm.cells])
    have Hn2 := Lib.hid (show ints (aa ++ [at_]) = ints aa ++ [.int .i64 at_] from by simp [ints])
    have Hl1 := Lib.hid (show (ss ++ [s]).length = ss.length + 1 from by simp)
    have Hl2 := Lib.hid (show (aa ++ [at_]).length = aa.length + 1 from by simp)
    go_enter Try.func16, Try.ntmps16
    go_wp2_with fail
    refine HF.out.mono ?_
    rintro e w2 ⟨rfl, f2⟩
    have F2 := Lib.hid (FA.out.then_ f2 (fun _ h => h.elim))
    have HM := Lib.hid (IsD.fr (S2 := fun _ => False) H.out f2 (fun _ _ h => h))
    have Bx2 := Lib.hid (f2.blk Bx.out (fun h => h))
    clear f2
    go_upto_region 5 with fail
    go_cut [] from 7 (fun w' => ∃ S', IsD w' S' M (ss ++ [s]) aa ∧ Fr S w2 w' ∧ ∀ k, S' k → S k ∨ w2.heap.size ≤ k)
    case first =>
      obtain ⟨v1, v2, hb, o1, o2, hS, h1, h2, h12, hl⟩ := HM.out
      have c0 := blk_cell hb 0 rfl
      have x0 := blk_cell Bx2.out 0 rfl
      have x1 := blk_cell Bx2.out 1 rfl
      have c0x := blk_cell (blk_alloc hb (.cells #[.int .u64 s.hi, .int .u64 s.lo] 25)) 0 rfl
      have Hb := Lib.hid hb
      have O1 := Lib.hid o1
      have O2 := Lib.hid o2
      have HS := Lib.hid hS
      have H1 := Lib.hid h1
      have H2 := Lib.hid h2
      have H12 := Lib.hid h12
      have HL := Lib.hid hl
      have Hne := Lib.hid (show ¬ v1.ownBlock = some M from fun he => (h1 M he).2 rfl)
      clear hb o1 o2 hS h1 h2 h12 hl
      go_region_law (first | (refine step_append_fresh _ w2.drew rfl (.tmp 24) (.tmp 26) 36 rfl 25 j0 (.agg #[.int .u64 0, .int .u64 0]) 2 16 Try.underlying36 hj0 hy0 hy1 hy2 rfl (by decide) v1 ss.length _ (by simp only [Act.eval, Act.put]; rfl) O1.out.drew #[.int .u64 s.hi, .int .u64 s.lo] rfl (by simp only [Act.eval, Act.put]; rfl) rfl (by intro u hu; simp at hu; rcases hu with rfl | rfl <;> rfl) (by omega) (by omega) ?_; intro g2 cap2 w3 hown3 hf3 hat3; have hb' := hf3.blk (blk_alloc (w := w2.drew) Hb.out _) Hne.out; have c0' := blk_cell hb' 0 rfl; have f0' := blk_free hb' 0))
      all_goals
        have HR := Lib.hid (d_push1 Hb.out O2.out HS.out H1.out H2.out H12.out HL.out ((Fr.refl _ w2).drew.alloc (.cells #[.int .u64 s.hi, .int .u64 s.lo] 25)) hown3 hf3 hat3 Hl1.out Hn1.out)
        clear hb' hown3 hf3 hat3
        go_wp2_with fail
      all_goals go_meet
      all_goals exact ⟨_, HR.out.1, HR.out.2, fun k hk => hk.imp id (fun h => h.1)⟩
    case rest =>
    obtain ⟨S3, m3, f3, g3⟩ := hcut
    have HRM := Lib.hid m3
    have HRF := Lib.hid f3
    have HG3 := Lib.hid (show ∀ k, S3 k → S k ∨ w.heap.size ≤ k from fun k hk => (g3 k hk).imp id (fun h => Nat.le_trans F2.out.size h))
    clear m3 f3 g3
    obtain ⟨v1', v2', hb, o1, o2, hS, h1, h2, h12, hl⟩ := HRM.out
    have c1 := blk_cell hb 1 rfl
    have Hb3 := Lib.hid hb
    have O13 := Lib.hid o1
    have O23 := Lib.hid o2
    have HS3 := Lib.hid hS
    have H13 := Lib.hid h1
    have H23 := Lib.hid h2
    have H123 := Lib.hid h12
    have HL3 := Lib.hid hl
    have Hne3 := Lib.hid (show ¬ v2'.ownBlock = some M from fun he => (h2 M he).2 rfl)
    clear hb o1 o2 hS h1 h2 h12 hl
    go_wp2_with (at_builtin; go_must (refine wpList_append_fresh _ wc rfl (.tmp 34) (.tmp 36) 41 rfl 3 i0 (.int .i64 0) 1 8 Try.underlying41 hi0 hz0 hz1 hz2 rfl (by decide) v2' aa.length _ rfl O23.out #[.int .i64 at_] rfl rfl rfl (by intro u hu; simp at hu; subst hu; rfl) (by omega) (by omega) ?_); intro g4 cap4 w4 hown4 hf4 hat4; have hb' := hf4.blk (blk_alloc Hb3.out _) Hne3.out; have c1' := blk_cell hb' 1 rfl; have f1' := blk_free hb' 1; have HR4 := Lib.hid (d_push2 Hb3.out O13.out HS3.out H13.out H23.out H123.out HL3.out ((Fr.refl _ wc).alloc (.cells #[.int .i64 at_] 3)) hown4 hf4 hat4 Hl2.out Hn2.out); clear hb' hown4 hf4 hat4)
    go_ret
    exact ⟨rfl, _, HR4.out.1, ((F2.out.mono (fun _ h => h.elim)).then_ HRF.out (fun k hk => .inl hk)).then_ HR4.out.2 (fun k hk => HG3.out k hk), fun k hk => hk.elim (HG3.out k) (fun h => .inr (Nat.le_trans (Nat.le_trans F2.out.size HRF.out.size) h.1))⟩
end Go.Proofs.Ythkmdhkifkapkaa
