/- Package order: Range, up to the turning. -/
import Derived.Test.YtjegnhcpepkpoaaOrdD
import Derived.Deep.RegionHeld3
namespace Go.Proofs.Ytjegnhcpepkpoaa
open Go.RowKit

/-- Behind which place a range ends. -/
def hiP (ps : List Pr) (t2 : Int) : Nat := if t2 = 0 then ps.length else if (ps.map (·.1))[low ps t2]? = some t2 then low ps t2 + 1 else low ps t2
def rangeL (ps : List Pr) (a b : Int) : List Pr := (ps.drop (low ps a)).take (hiP ps b - low ps a)
/-- A slice of pairs of its own. -/
def OwnP (w : World) (S : Nat → Prop) (v : Value) (ps : List Pr) : Prop := w.ownsRow 0 44 2 v ps.length (prs ps) ∧ ∀ k, v.ownBlock = some k → S k
theorem OwnP.fr {w w' : World} {S S2 : Nat → Prop} {v : Value} {ps : List Pr} (h : OwnP w S v ps) (hf : Fr S2 w w') (hn : ∀ k, S k → ¬ S2 k) : OwnP w' S v ps := ⟨own_fr h.1 hf (fun k hk => hn k (h.2 k hk)), h.2⟩
theorem hiP_le (ps : List Pr) (t2 : Int) : hiP ps t2 ≤ ps.length := by
  unfold hiP
  split
  · exact Nat.le_refl _
  · have := low_le ps t2
    split
    · rename_i h
      have := (List.getElem?_eq_some_iff.1 h).1
      simp at this
      omega
    · exact this

set_option maxRecDepth 4000 in
set_option maxHeartbeats 6400000 in
theorem range_up (w : World) (S : Nat → Prop) (L : Nat) (ps : List Pr) (fm t2 : Int) (h : IsO w S L ps) (hn : ps.length ≤ 1000) (hR : Ris ps) :
    Calls Try.prog 12 #[.pointer (some ⟨L, 0, none⟩), .int .i64 fm, .int .i64 t2, .bool false] w fun e w' => ∃ v, e = .returned v ∧ OwnP w' (Gro (fun _ => False) w w') v (rangeL ps fm t2) ∧ Fr (fun _ => False) w w' := by
  obtain ⟨i0, hi0, hz0, hz1, hz2⟩ := info_parts Try.infoPair
  have H := Lib.hid h
  have HF := Lib.hid (show ∀ W s, Fr (fun _ => False) w W → Calls Try.prog 18 #[.pointer (some ⟨L, 0, none⟩), .int .i64 s] W fun e w' => e = .returned (.int .i64 (low ps s)) ∧ Fr (fun _ => False) W w' from fun W s f => find_any W L S ps s (IsO.fr (S2 := fun _ => False) h f (fun _ _ h => h)) (by omega) hR)
  have hlo := low_le ps fm
  have hlt := low_le ps t2
  have hhi := hiP_le ps t2
  obtain ⟨v, hb, ho, -, -, -⟩ := h
  obtain ⟨a, cap, rfl, -, -⟩ := own_form ho
  have c0 := blk_cell hb 0 rfl
  have Hb := Lib.hid hb
  have Ho := Lib.hid ho
  have hLlt := blk_lt hb
  clear hb ho
  go_enter Try.func12, Try.ntmps12
  go_wp2_with fail
  have Fw := Lib.hid ((Fr.refl (fun _ => False) w).drew)
  go_region_held3 (fun w' => w'.cell? ⟨L, 0, none⟩ = some (.slice a ps.length cap))
    (first | exact c0 | go_keep)
    (first
      | (go_at_call 18; go_must (with_reducible refine (HF.out _ fm (by repeat (first | (with_reducible exact Fr.refl _ _) | (with_reducible refine Fr.drew ?_) | (with_reducible refine Fr.drewN ?_ _) | (with_reducible refine Fr.alloc ?_ _) | (with_reducible refine Fr.set1 ?_ _) | (with_reducible refine Fr.setNew ?_ (by omega) _)))).mono ?_; rintro e w2 ⟨rfl, f2⟩; have F2 := Lib.hid (Fw.out.then_ (S2 := fun _ => False) f2 (fun _ h => h.elim)); have c0 := blk_cell (F2.out.blk Hb.out (fun h => h)) 0 rfl; clear f2)))
  clear c0
  have c0 := blk_cell (F2.out.blk Hb.out (fun h => h)) 0 rfl
  go_upto_if 25 with fail
  go_cut [10] from 14 (fun s w' => s = .int .i64 (hiP ps t2) ∧ Fr (fun _ => False) w w')
  case first =>
    by_cases hz : t2 = 0
    · have hv := Lib.hid (show hiP ps t2 = ps.length from if_pos hz)
      have hq : (t2 != 0) = false := by simp [hz]
      clear hz
      obtain ⟨q, hq2⟩ : ∃ q, (t2 != 0) = q := ⟨_, rfl⟩
      rw [hq] at hq2
      subst hq2
      rw [hq]
      clear hq
      go_wp2_with fail
      go_meet
      exact ⟨by rw [hv.out], F2.out⟩
    · have hq : (t2 != 0) = true := by simpa using hz
      have hv := Lib.hid (show hiP ps t2 = if (ps.map (·.1))[low ps t2]? = some t2 then low ps t2 + 1 else low ps t2 from if_neg hz)
      rw [hq]
      clear hz hq
      obtain ⟨k, hk⟩ : ∃ k, low ps t2 = k := ⟨_, rfl⟩
      have HFt := Lib.hid (show ∀ W, Fr (fun _ => False) w W → Calls Try.prog 18 #[.pointer (some ⟨L, 0, none⟩), .int .i64 t2] W fun e w' => e = .returned (.int .i64 k) ∧ Fr (fun _ => False) W w' from fun W f => hk ▸ HF.out W t2 f)
      rw [hk] at hv hlt
      clear hk
      by_cases hkl : k < ps.length
      · have hklI : (k : Int) < ps.length := by omega
        obtain ⟨x, hx⟩ : ∃ x, ps[k].1 = x := ⟨_, rfl⟩
        have hget : (ps.map (·.1))[k]? = some x := by rw [List.getElem?_map, List.getElem?_eq_getElem hkl]; simp [hx]
        rw [hget] at hv
        obtain ⟨g, cap', e1⟩ := own_some Ho.out (by omega)
        simp only [Value.slice.injEq] at e1
        obtain ⟨rfl, -, rfl⟩ := e1
        have w1 : IntKind.i64.wrap ((k : Int) + 1) = k + 1 := IntWalk.i64_in _ (by omega)
        cases hxt : (x == t2)
        · have hv2 := Lib.hid (show hiP ps t2 = k from by rw [hv.out, if_neg (by simpa using hxt)])
          go_wp2_with (go_at_call 18; go_must (with_reducible refine (HFt.out _ F2.out).mono ?_; rintro e w3 ⟨rfl, f3⟩; have F3 := Lib.hid (F2.out.then_ (S2 := fun _ => False) f3 (fun _ h => h.elim)); have c3 := blk_cell (F3.out.blk Hb.out (fun h => h)) 0 rfl; have p0 := (own_pair (own_fr Ho.out F3.out (fun _ _ h => h)) rfl hkl).1; rw [hx] at p0; clear f3))
          go_meet
          exact ⟨by rw [hv2.out], F3.out⟩
        · have hv2 := Lib.hid (show hiP ps t2 = k + 1 from by rw [hv.out, if_pos (by simpa using hxt)])
          go_wp2_with (go_at_call 18; go_must (with_reducible refine (HFt.out _ F2.out).mono ?_; rintro e w3 ⟨rfl, f3⟩; have F3 := Lib.hid (F2.out.then_ (S2 := fun _ => False) f3 (fun _ h => h.elim)); have c3 := blk_cell (F3.out.blk Hb.out (fun h => h)) 0 rfl; have p0 := (own_pair (own_fr Ho.out F3.out (fun _ _ h => h)) rfl hkl).1; rw [hx] at p0; clear f3))
          go_meet
          exact ⟨by rw [hv2.out]; go_num, F3.out⟩
      · have hklI : ¬ (k : Int) < ps.length := by omega
        have hv2 := Lib.hid (show hiP ps t2 = k from by rw [hv.out, if_neg (by rw [List.getElem?_eq_none (by simpa using hkl)]; simp)])
        go_wp2_with (go_at_call 18; go_must (with_reducible refine (HFt.out _ F2.out).mono ?_; rintro e w3 ⟨rfl, f3⟩; have F3 := Lib.hid (F2.out.then_ (S2 := fun _ => False) f3 (fun _ h => h.elim)); have c3 := blk_cell (F3.out.blk Hb.out (fun h => h)) 0 rfl; clear f3))
        go_meet
        exact ⟨by rw [hv2.out], F3.out⟩
  case rest =>
  obtain ⟨rfl, fc⟩ := hcut
  have FC := Lib.hid fc
  clear c0 fc F2 HF Fw
  have HRg := Lib.hid (show rangeL ps fm t2 = (ps.drop (low ps fm)).take (hiP ps t2 - low ps fm) from rfl)
  obtain ⟨i, hi⟩ : ∃ i, low ps fm = i := ⟨_, rfl⟩
  obtain ⟨k, hk⟩ : ∃ k, hiP ps t2 = k := ⟨_, rfl⟩
  rw [hi] at hlo HRg ⊢
  rw [hk] at hhi HRg ⊢
  clear hi hk hlt
  go_wp2_with fail
  go_loopw [9, 11] (fun s v wr => ∃ j : Nat, i ≤ j ∧ (j ≤ k ∨ j = i) ∧ s = .int .i64 j ∧ OwnP wr (Gro (fun _ => False) w wr) v ((ps.drop i).take (j - i)) ∧ Fr (fun _ => False) w wr) (fun s _ _ => ((k : Int) - intOf s).toNat)
  case atStart => exact ⟨i, by omega, .inr rfl, rfl, ⟨by rw [Nat.sub_self]; exact World.ownsRow_nil _ _ _ _, fun k hk => by simp [Value.ownBlock] at hk⟩, FC.out⟩
  case round =>
    obtain ⟨j, hj, hjk, rfl, ov, hf⟩ := hrel
    have HV := Lib.hid ov
    have HFr := Lib.hid hf
    by_cases hlt2 : j < k
    · have hltI : (j : Int) < k := by omega
      have hjn : j < ps.length := by omega
      have hjnI : (j : Int) < ps.length := by omega
      obtain ⟨g, cap', e1⟩ := own_some Ho.out (by omega)
      simp only [Value.slice.injEq] at e1
      obtain ⟨rfl, -, rfl⟩ := e1
      have c0 := blk_cell (hf.blk Hb.out (fun h => h)) 0 rfl
      obtain ⟨p0, p1⟩ := own_pair (own_fr Ho.out hf (fun _ _ h => h)) rfl hjn
      obtain ⟨x, hx⟩ : ∃ x, ps[j].1 = x := ⟨_, rfl⟩
      obtain ⟨y, hy⟩ : ∃ y, ps[j].2 = y := ⟨_, rfl⟩
      rw [hx] at p0
      rw [hy] at p1
      have w1 : IntKind.i64.wrap ((j : Int) + 1) = j + 1 := IntWalk.i64_in _ (by omega)
      have htk : (ps.drop i).take (j + 1 - i) = (ps.drop i).take (j - i) ++ [(x, y)] := by
        have h1 : j - i < (ps.drop i).length := by rw [List.length_drop]; omega
        rw [show j + 1 - i = (j - i) + 1 by omega, List.take_succ_eq_append_getElem h1]
        have e : (ps.drop i)[j - i] = (x, y) := by
          rw [List.getElem_drop]
          have : i + (j - i) = j := by omega
          simp only [this, ← hx, ← hy]
        rw [e]
      have hl1 : ((ps.drop i).take (j - i)).length = j - i := by rw [List.length_take, List.length_drop]; omega
      have HT := Lib.hid htk
      have HL1 := Lib.hid hl1
      have Hov := Lib.hid (show wr.ownsRow 0 44 2 u11 (j - i) _ from hl1 ▸ ov.1)
      have hjb : j - i ≤ 1000 := by omega
      clear ov hf hx hy htk hl1 hlt2 hjk
      go_wp2_with (at_builtin; go_must (refine wpList_append_fresh _ wr rfl (.tmp 55) (.tmp 63) 25 rfl 44 i0 (.agg #[.int .i64 0, .int .i64 0]) 2 16 Try.underlying25 hi0 hz0 hz1 hz2 rfl (by decide) _ (j - i) _ rfl Hov.out #[.int .i64 x, .int .i64 y] rfl rfl rfl (by intro u hu; simp at hu; rcases hu with rfl | rfl <;> rfl) (by omega) (by omega) ?_); intro g2 cap2 w3 hown3 hf3 hat3; have HW3 := Lib.hid hown3; have HF3 := Lib.hid hf3; have HT3 := Lib.hid hat3; clear hown3 hf3 hat3)
      have Hge := Lib.hid (show ∀ m, u11.ownBlock = some m → w.heap.size ≤ m from fun m hm => by
        rcases HV.out.2 m hm with h | h
        · exact h.elim
        · exact h.1)
      have Hsw := Lib.hid (show w.heap.size ≤ wr.heap.size from HFr.out.size)
      go_roundw
      case rel =>
        have hlen : ((ps.drop i).take (j + 1 - i)).length = j - i + 1 := by rw [HT.out, List.length_append, HL1.out]; rfl
        refine ⟨j + 1, by omega, .inl (by omega), by go_num, ⟨?_, fun m hm => ?_⟩, ?_⟩
        · rw [hlen, HT.out, prs_app]
          exact HW3.out
        · refine .inr ⟨?_, own_lt HW3.out hm⟩
          rcases HT3.out m hm with h | h
          · exact Hge.out m h
          · have h2 := Hsw.out
            have h3 : (wr.alloc (.cells #[.int .i64 x, .int .i64 y] 44)).heap.size = wr.heap.size + 1 := Array.size_push ..
            omega
        · exact (HFr.out.alloc (.cells #[.int .i64 x, .int .i64 y] 44)).then_ HF3.out (fun m hm => .inr (Hge.out m hm))
      case measure => simp [intOf]; omega
    · have hltI : ¬ (j : Int) < k := by omega
      have hjk2 : j - i = k - i := by omega
      clear ov hf
      go_wp2_with fail
      go_ret
      exact ⟨u11, rfl, by rw [HRg.out, ← hjk2]; exact HV.out, HFr.out⟩
end Go.Proofs.Ytjegnhcpepkpoaa
