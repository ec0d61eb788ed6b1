/- Package order: Drop. -/
import Derived.Test.YtjegnhcpepkpoaaOrdQ
namespace Go.Proofs.Ytjegnhcpepkpoaa
open Go.RowKit

theorem iso_of {w : World} {S : Nat → Prop} {L n : Nat} {vs : List Value} {qs : List Pr} (h : Rw w S L 27 44 2 [] n vs) (hn : qs.length = n) (hv : prs qs = vs) : IsO w S L qs := by
  subst hn
  subst hv
  exact h
theorem gro_low {w w2 W : World} {S : Nat → Prop} (f : Fr (fun _ => False) w w2) : ∀ k, Gro S w2 W k → S k ∨ w.heap.size ≤ k := fun k hk => hk.imp id (fun h => Nat.le_trans f.size h.1)
def dropL (ps : List Pr) (s : Int) : List Pr := if low ps s < ps.length ∧ (ps.map (·.1))[low ps s]? = some s then ps.take (low ps s) ++ ps.drop (low ps s + 1) else ps

set_option maxHeartbeats 3200000 in
theorem drop_any (w : World) (S : Nat → Prop) (L : Nat) (ps : List Pr) (s : Int) (h : IsO w S L ps) (hn : ps.length ≤ 1000) (hR : Ris ps) :
    Calls Try.prog 15 #[.pointer (some ⟨L, 0, none⟩), .int .i64 s] w fun e w' => e = .returned (.bool (decide (low ps s < ps.length ∧ (ps.map (·.1))[low ps s]? = some s))) ∧ ∃ S', IsO w' S' L (dropL ps s) ∧ Fr S w w' ∧ ∀ k, S' k → S k ∨ w.heap.size ≤ k := by
  obtain ⟨i0, hi0, hz0, hz1, hz2⟩ := info_parts Try.infoPair
  have H := Lib.hid h
  have HF := Lib.hid (find_any w L S ps s h (by omega) hR)
  have hle := low_le ps s
  obtain ⟨i, hi⟩ : ∃ i, low ps s = i := ⟨_, rfl⟩
  unfold dropL
  rw [hi] at HF hle ⊢
  clear h hi
  by_cases hlt : i < ps.length
  · have hget : (ps.map (·.1))[i]? = some ps[i].1 := by rw [List.getElem?_map, List.getElem?_eq_getElem hlt]; rfl
    rw [hget]
    by_cases he : ps[i].1 = s
    · have hc : i < ps.length ∧ some ps[i].1 = some s := ⟨hlt, by rw [he]⟩
      rw [decide_eq_true hc, if_pos hc]
      have hltI : (i : Int) < ps.length := by omega
      have hne : ((i : Int) == ps.length) = false := by simp; omega
      go_enter Try.func15, Try.ntmps15
      go_wp2_with fail
      refine HF.out.mono ?_
      rintro e w2 ⟨rfl, f2⟩
      have F2 := Lib.hid f2
      obtain ⟨v, hb, ho, hS, hSv, hl⟩ := IsO.fr (S2 := fun _ => False) H.out f2 (fun _ _ h => h)
      obtain ⟨g, cap, rfl⟩ := own_some ho (by omega)
      have c0 := blk_cell hb 0 rfl
      obtain ⟨p0, -⟩ := own_pair ho rfl hlt
      rw [he] at p0
      have hse : (s != s) = false := by simp
      have hcap : ps.length ≤ cap := by
        obtain ⟨a', c', e', hc', -⟩ := own_form ho
        simp only [Value.slice.injEq] at e'
        omega
      have w1 : IntKind.i64.wrap ((i : Int) + 1) = i + 1 := IntWalk.i64_in _ (by omega)
      have b0 : 0 ≤ (i : Int) + 1 := by omega
      have b1 : (i : Int) + 1 ≤ ps.length := by omega
      have b2 : i ≤ cap := by omega
      have Hcut := Lib.hid (show w2.ownsRow 0 44 2 (.slice (some ⟨g, 0, none⟩) i cap) i (prs (ps.take i)) from by have h := own_cut ho rfl (m := i) (by omega); rwa [prs_take] at h)
      have HD := Lib.hid (prs_drop ps (i + 1))
      have HSrc := Lib.hid (show ∀ (ad : Option Addr) c, (0 < ps.length - (i + 1) → ad = some ⟨g, (i + 1) * 2, none⟩) → Src Try.prog 2 25 (.slice ad (ps.length - (i + 1)) c) (ps.length - (i + 1)) (prs (ps.drop (i + 1))) w2.drew from fun ad c hp => by
        by_cases h0 : ps.length - (i + 1) = 0
        · rw [h0, show ps.drop (i + 1) = [] from List.drop_eq_nil_of_le (by omega)]
          cases ad with
          | none => exact Src.ofNil _ Try.underlying25 c
          | some b => exact Src.ofSlice _ Try.underlying25 b 0 c [] (by simp) (fun j u hu => by simp at hu) (fun u hu => by simp at hu)
        · rw [hp (by omega)]
          refine Src.ofSlice _ Try.underlying25 _ _ c _ (by rw [prs_len, List.length_drop]) (fun j u hu => ?_) (prs_one _)
          rw [← prs_drop, List.getElem?_drop] at hu
          have hc := ho.cells (g := g) rfl ((i + 1) * 2 + j) u hu
          have e1 : (⟨g, 0, none⟩ : Addr).add ((i + 1) * 2 + j) = ⟨g, (i + 1) * 2 + j, none⟩ := by unfold Addr.add; split <;> simp_all
          have e2 : (⟨g, (i + 1) * 2, none⟩ : Addr).add j = ⟨g, (i + 1) * 2 + j, none⟩ := by unfold Addr.add; split <;> simp_all
          rw [e1] at hc
          rw [e2]
          exact hc)
      have Hb := Lib.hid hb
      have Hs := Lib.hid hS
      have Hsv := Lib.hid hSv
      have Hl := Lib.hid hl
      have hNL : i + (ps.length - (i + 1)) ≤ 140737488355328 := by omega
      have hNB : (i + (ps.length - (i + 1))) * 16 ≤ 140737488355328 := by omega
      have hq : cap = i + 1 → ¬ 0 < ps.length - (i + 1) := by omega
      clear hb ho hS hSv hl he hget hc f2
      go_upto_region 6 with fail
      go_region_law (first | (refine step_append_src w2.drew rfl (.tmp 36) (.tmp 43) 25 25 rfl 44 i0 (.agg #[.int .i64 0, .int .i64 0]) 2 16 Try.underlying25 hi0 hz0 hz1 hz2 rfl (by decide) (.slice (some ⟨g, 0, none⟩) i cap) i _ (by simp only [Act.eval, Act.put]; rfl) Hcut.out.drew _ (ps.length - (i + 1)) _ (by simp only [Act.eval, Act.put]; rfl) (HSrc.out _ _ (fun h0 => by first | rfl | (rw [if_neg (by omega)]))) hNL hNB ?_; intro g2 cap2 w3 hown3 hf3 hat3; have hb' := hf3.blk (w := w2.drew) Hb.out (fun he => by have h := Hsv.out L he; exact h.2 rfl); have c0' := blk_cell hb' 0 rfl; have f0' := blk_free hb' 0))
      all_goals
        have HR := Lib.hid (rw_push Hb.out Hs.out Hsv.out Hl.out ((Fr.refl (fun _ => False) w2).drew) hown3 (by exact hf3) (by exact hat3))
        clear hb' hown3 hf3 hat3
        go_wp2_with fail
        all_goals go_ret
        all_goals exact ⟨rfl, _, iso_of HR.out.1 (by rw [List.length_append, List.length_take, List.length_drop]; omega) (prs_app _ _), (F2.out.mono (fun _ h => h.elim)).then_ HR.out.2 (fun k hk => .inl hk), gro_low F2.out⟩
    · have hc : ¬ (i < ps.length ∧ some ps[i].1 = some s) := fun h => he (Option.some.inj h.2)
      rw [decide_eq_false hc, if_neg hc]
      have hltI : (i : Int) < ps.length := by omega
      have hne : ((i : Int) == ps.length) = false := by simp; omega
      obtain ⟨x, hx⟩ : ∃ x, ps[i].1 = x := ⟨_, rfl⟩
      have hxs : (x != s) = true := by rw [← hx]; simpa using he
      go_enter Try.func15, Try.ntmps15
      go_wp2_with fail
      refine HF.out.mono ?_
      rintro e w2 ⟨rfl, f2⟩
      have F2 := Lib.hid f2
      have HO := Lib.hid (IsO.fr (S2 := fun _ => False) H.out f2 (fun _ _ h => h))
      obtain ⟨v, hb, ho, -, -, -⟩ := HO.out
      obtain ⟨g, cap, rfl⟩ := own_some ho (by omega)
      have c0 := blk_cell hb 0 rfl
      obtain ⟨p0, -⟩ := own_pair ho rfl hlt
      rw [hx] at p0
      clear hb ho he hget hc f2 hx
      go_wp2_with fail
      go_ret
      exact ⟨rfl, S, HO.out, F2.out.mono (fun _ h => h.elim), fun k hk => .inl hk⟩
  · have hc : ¬ (i < ps.length ∧ (ps.map (·.1))[i]? = some s) := fun h => hlt h.1
    rw [decide_eq_false hc, if_neg hc]
    have hne : ((i : Int) == ps.length) = true := by simp; omega
    have hge : (ps.length : Int) ≤ i := by omega
    have hle2 : (i : Int) ≤ ps.length := by omega
    go_enter Try.func15, Try.ntmps15
    go_wp2_with fail
    refine HF.out.mono ?_
    rintro e w2 ⟨rfl, f2⟩
    have F2 := Lib.hid f2
    have HO := Lib.hid (IsO.fr (S2 := fun _ => False) H.out f2 (fun _ _ h => h))
    obtain ⟨v, hb, ho, -, -, -⟩ := HO.out
    obtain ⟨a, cap, rfl, -, -⟩ := own_form ho
    have c0 := blk_cell hb 0 rfl
    clear hb ho hc f2
    go_wp2_with fail
    go_ret
    exact ⟨rfl, S, HO.out, F2.out.mono (fun _ h => h.elim), fun k hk => .inl hk⟩
end Go.Proofs.Ytjegnhcpepkpoaa
