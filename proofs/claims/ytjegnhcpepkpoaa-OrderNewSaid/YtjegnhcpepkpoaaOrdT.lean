/- Package order: Range, falling. -/
import Derived.Test.YtjegnhcpepkpoaaOrdR
namespace Go.Proofs.Ytjegnhcpepkpoaa
open Go.RowKit

/-- A pair of an owned row is written. -/
theorem own_put2 {w : World} {g cap n j : Nat} {qs : List Pr} (ho : w.ownsRow 0 44 2 (.slice (some ⟨g, 0, none⟩) n cap) n (prs qs)) (hn : qs.length = n) (hj : j < qs.length) {x y : Int} :
    ((w.setCell ⟨g, j * 2, none⟩ (.int .i64 x)).setCell ⟨g, j * 2 + 1, none⟩ (.int .i64 y)).ownsRow 0 44 2 (.slice (some ⟨g, 0, none⟩) n cap) n (prs (qs.set j (x, y))) := by
  obtain ⟨ho1, _⟩ := ho.stored (j * 2) (.int .i64 x)
  rw [prs_set0 qs hj x] at ho1
  have hj2 : j < (qs.set j (x, qs[j].2)).length := by simpa using hj
  obtain ⟨ho2, _⟩ := ho1.stored (j * 2 + 1) (.int .i64 y)
  rw [prs_set1 _ hj2 y] at ho2
  have e : ((qs.set j (x, qs[j].2)).set j ((qs.set j (x, qs[j].2))[j].1, y)) = qs.set j (x, y) := by simp
  rwa [e] at ho2
set_option maxRecDepth 4000 in
set_option maxHeartbeats 6400000 in
theorem range_dn (w : World) (S : Nat → Prop) (L : Nat) (ps : List Pr) (fm t2 : Int) (h : IsO w S L ps) (hn : ps.length ≤ 1000) (hR : Ris ps) :
    Calls Try.prog 12 #[.pointer (some ⟨L, 0, none⟩), .int .i64 fm, .int .i64 t2, .bool true] w fun e w' => ∃ v, e = .returned v ∧ OwnP w' (Gro (fun _ => False) w w') v (rangeL ps fm t2).reverse ∧ Fr (fun _ => False) w w' := by
  obtain ⟨i0, hi0, hz0, hz1, hz2⟩ := info_parts Try.infoPair
  have H := Lib.hid h
  have HF := Lib.hid (show ∀ W s, Fr (fun _ => False) w W → Calls Try.prog 18 #[.pointer (some ⟨L, 0, none⟩), .int .i64 s] W fun e w' => e = .returned (.int .i64 (low ps s)) ∧ Fr (fun _ => False) W w' from fun W s f => find_any W L S ps s (IsO.fr (S2 := fun _ => False) h f (fun _ _ h => h)) (by omega) hR)
  have hlo := low_le ps fm
  have hlt := low_le ps t2
  have hhi := hiP_le ps t2
  obtain ⟨v, hb, ho, -, -, -⟩ := h
  obtain ⟨a, cap, rfl, -, -⟩ := own_form ho
  have c0 := blk_cell hb 0 rfl
  have Hb := Lib.hid hb
  have Ho := Lib.hid ho
  have hLlt := blk_lt hb
  clear hb ho
  go_enter Try.func12, Try.ntmps12
  go_wp2_with fail
  have Fw := Lib.hid ((Fr.refl (fun _ => False) w).drew)
  go_region_held3 (fun w' => w'.cell? ⟨L, 0, none⟩ = some (.slice a ps.length cap))
    (first | exact c0 | go_keep)
    (first
      | (go_at_call 18; go_must (with_reducible refine (HF.out _ fm (by repeat (first | (with_reducible exact Fr.refl _ _) | (with_reducible refine Fr.drew ?_) | (with_reducible refine Fr.drewN ?_ _) | (with_reducible refine Fr.alloc ?_ _) | (with_reducible refine Fr.set1 ?_ _) | (with_reducible refine Fr.setNew ?_ (by omega) _)))).mono ?_; rintro e w2 ⟨rfl, f2⟩; have F2 := Lib.hid (Fw.out.then_ (S2 := fun _ => False) f2 (fun _ h => h.elim)); have c0 := blk_cell (F2.out.blk Hb.out (fun h => h)) 0 rfl; clear f2)))
  clear c0
  have c0 := blk_cell (F2.out.blk Hb.out (fun h => h)) 0 rfl
  go_upto_if 25 with fail
  go_cut [10] from 14 (fun s w' => s = .int .i64 (hiP ps t2) ∧ Fr (fun _ => False) w w')
  case first =>
    by_cases hz : t2 = 0
    · have hv := Lib.hid (show hiP ps t2 = ps.length from if_pos hz)
      have hq : (t2 != 0) = false := by simp [hz]
      clear hz
      obtain ⟨q, hq2⟩ : ∃ q, (t2 != 0) = q := ⟨_, rfl⟩
      rw [hq] at hq2
      subst hq2
      rw [hq]
      clear hq
      go_wp2_with fail
      go_meet
      exact ⟨by rw [hv.out], F2.out⟩
    · have hq : (t2 != 0) = true := by simpa using hz
      have hv := Lib.hid (show hiP ps t2 = if (ps.map (·.1))[low ps t2]? = some t2 then low ps t2 + 1 else low ps t2 from if_neg hz)
      rw [hq]
      clear hz hq
      obtain ⟨k, hk⟩ : ∃ k, low ps t2 = k := ⟨_, rfl⟩
      have HFt := Lib.hid (show ∀ W, Fr (fun _ => False) w W → Calls Try.prog 18 #[.pointer (some ⟨L, 0, none⟩), .int .i64 t2] W fun e w' => e = .returned (.int .i64 k) ∧ Fr (fun _ => False) W w' from fun W f => hk ▸ HF.out W t2 f)
      rw [hk] at hv hlt
      clear hk
      by_cases hkl : k < ps.length
      · have hklI : (k : Int) < ps.length := by omega
        obtain ⟨x, hx⟩ : ∃ x, ps[k].1 = x := ⟨_, rfl⟩
        have hget : (ps.map (·.1))[k]? = some x := by rw [List.getElem?_map, List.getElem?_eq_getElem hkl]; simp [hx]
        rw [hget] at hv
        obtain ⟨g, cap', e1⟩ := own_some Ho.out (by omega)
        simp only [Value.slice.injEq] at e1
        obtain ⟨rfl, -, rfl⟩ := e1
        have w1 : IntKind.i64.wrap ((k : Int) + 1) = k + 1 := IntWalk.i64_in _ (by omega)
        cases hxt : (x == t2)
        · have hv2 := Lib.hid (show hiP ps t2 = k from by rw [hv.out, if_neg (by simpa using hxt)])
          go_wp2_with (go_at_call 18; go_must (with_reducible refine (HFt.out _ F2.out).mono ?_; rintro e w3 ⟨rfl, f3⟩; have F3 := Lib.hid (F2.out.then_ (S2 := fun _ => False) f3 (fun _ h => h.elim)); have c3 := blk_cell (F3.out.blk Hb.out (fun h => h)) 0 rfl; have p0 := (own_pair (own_fr Ho.out F3.out (fun _ _ h => h)) rfl hkl).1; rw [hx] at p0; clear f3))
          go_meet
          exact ⟨by rw [hv2.out], F3.out⟩
        · have hv2 := Lib.hid (show hiP ps t2 = k + 1 from by rw [hv.out, if_pos (by simpa using hxt)])
          go_wp2_with (go_at_call 18; go_must (with_reducible refine (HFt.out _ F2.out).mono ?_; rintro e w3 ⟨rfl, f3⟩; have F3 := Lib.hid (F2.out.then_ (S2 := fun _ => False) f3 (fun _ h => h.elim)); have c3 := blk_cell (F3.out.blk Hb.out (fun h => h)) 0 rfl; have p0 := (own_pair (own_fr Ho.out F3.out (fun _ _ h => h)) rfl hkl).1; rw [hx] at p0; clear f3))
          go_meet
          exact ⟨by rw [hv2.out]; go_num, F3.out⟩
      · have hklI : ¬ (k : Int) < ps.length := by omega
        have hv2 := Lib.hid (show hiP ps t2 = k from by rw [hv.out, if_neg (by rw [List.getElem?_eq_none (by simpa using hkl)]; simp)])
        go_wp2_with (go_at_call 18; go_must (with_reducible refine (HFt.out _ F2.out).mono ?_; rintro e w3 ⟨rfl, f3⟩; have F3 := Lib.hid (F2.out.then_ (S2 := fun _ => False) f3 (fun _ h => h.elim)); have c3 := blk_cell (F3.out.blk Hb.out (fun h => h)) 0 rfl; clear f3))
        go_meet
        exact ⟨by rw [hv2.out], F3.out⟩
  case rest =>
  obtain ⟨rfl, fc⟩ := hcut
  have FC := Lib.hid fc
  clear c0 fc F2 HF Fw
  have HRg := Lib.hid (show rangeL ps fm t2 = (ps.drop (low ps fm)).take (hiP ps t2 - low ps fm) from rfl)
  obtain ⟨i, hi⟩ : ∃ i, low ps fm = i := ⟨_, rfl⟩
  obtain ⟨k, hk⟩ : ∃ k, hiP ps t2 = k := ⟨_, rfl⟩
  rw [hi] at hlo HRg ⊢
  rw [hk] at hhi HRg ⊢
  clear hi hk hlt
  go_wp2_with fail
  go_loopw [9, 11] (fun s v wr => ∃ j : Nat, i ≤ j ∧ (j ≤ k ∨ j = i) ∧ s = .int .i64 j ∧ OwnP wr (Gro (fun _ => False) w wr) v ((ps.drop i).take (j - i)) ∧ Fr (fun _ => False) w wr) (fun s _ _ => ((k : Int) - intOf s).toNat)
  case atStart => exact ⟨i, by omega, .inr rfl, rfl, ⟨by rw [Nat.sub_self]; exact World.ownsRow_nil _ _ _ _, fun k hk => by simp [Value.ownBlock] at hk⟩, FC.out⟩
  case round =>
    obtain ⟨j, hj, hjk, rfl, ov, hf⟩ := hrel
    have HV := Lib.hid ov
    have HFr := Lib.hid hf
    by_cases hlt2 : j < k
    · have hltI : (j : Int) < k := by omega
      have hjn : j < ps.length := by omega
      have hjnI : (j : Int) < ps.length := by omega
      obtain ⟨g, cap', e1⟩ := own_some Ho.out (by omega)
      simp only [Value.slice.injEq] at e1
      obtain ⟨rfl, -, rfl⟩ := e1
      have c0 := blk_cell (hf.blk Hb.out (fun h => h)) 0 rfl
      obtain ⟨p0, p1⟩ := own_pair (own_fr Ho.out hf (fun _ _ h => h)) rfl hjn
      obtain ⟨x, hx⟩ : ∃ x, ps[j].1 = x := ⟨_, rfl⟩
      obtain ⟨y, hy⟩ : ∃ y, ps[j].2 = y := ⟨_, rfl⟩
      rw [hx] at p0
      rw [hy] at p1
      have w1 : IntKind.i64.wrap ((j : Int) + 1) = j + 1 := IntWalk.i64_in _ (by omega)
      have htk : (ps.drop i).take (j + 1 - i) = (ps.drop i).take (j - i) ++ [(x, y)] := by
        have h1 : j - i < (ps.drop i).length := by rw [List.length_drop]; omega
        rw [show j + 1 - i = (j - i) + 1 by omega, List.take_succ_eq_append_getElem h1]
        have e : (ps.drop i)[j - i] = (x, y) := by
          rw [List.getElem_drop]
          have : i + (j - i) = j := by omega
          simp only [this, ← hx, ← hy]
        rw [e]
      have hl1 : ((ps.drop i).take (j - i)).length = j - i := by rw [List.length_take, List.length_drop]; omega
      have HT := Lib.hid htk
      have HL1 := Lib.hid hl1
      have Hov := Lib.hid (show wr.ownsRow 0 44 2 u11 (j - i) _ from hl1 ▸ ov.1)
      have hjb : j - i ≤ 1000 := by omega
      clear ov hf hx hy htk hl1 hlt2 hjk
      go_wp2_with (at_builtin; go_must (refine wpList_append_fresh _ wr rfl (.tmp 55) (.tmp 63) 25 rfl 44 i0 (.agg #[.int .i64 0, .int .i64 0]) 2 16 Try.underlying25 hi0 hz0 hz1 hz2 rfl (by decide) _ (j - i) _ rfl Hov.out #[.int .i64 x, .int .i64 y] rfl rfl rfl (by intro u hu; simp at hu; rcases hu with rfl | rfl <;> rfl) (by omega) (by omega) ?_); intro g2 cap2 w3 hown3 hf3 hat3; have HW3 := Lib.hid hown3; have HF3 := Lib.hid hf3; have HT3 := Lib.hid hat3; clear hown3 hf3 hat3)
      have Hge := Lib.hid (show ∀ m, u11.ownBlock = some m → w.heap.size ≤ m from fun m hm => by
        rcases HV.out.2 m hm with h | h
        · exact h.elim
        · exact h.1)
      have Hsw := Lib.hid (show w.heap.size ≤ wr.heap.size from HFr.out.size)
      go_roundw
      case rel =>
        have hlen : ((ps.drop i).take (j + 1 - i)).length = j - i + 1 := by rw [HT.out, List.length_append, HL1.out]; rfl
        refine ⟨j + 1, by omega, .inl (by omega), by go_num, ⟨?_, fun m hm => ?_⟩, ?_⟩
        · rw [hlen, HT.out, prs_app]
          exact HW3.out
        · refine .inr ⟨?_, own_lt HW3.out hm⟩
          rcases HT3.out m hm with h | h
          · exact Hge.out m h
          · have h2 := Hsw.out
            have h3 : (wr.alloc (.cells #[.int .i64 x, .int .i64 y] 44)).heap.size = wr.heap.size + 1 := Array.size_push ..
            omega
        · exact (HFr.out.alloc (.cells #[.int .i64 x, .int .i64 y] 44)).then_ HF3.out (fun m hm => .inr (Hge.out m hm))
      case measure => simp [intOf]; omega
    · have hltI : ¬ (j : Int) < k := by omega
      have hjk2 : j - i = k - i := by omega
      rw [hjk2, ← HRg.out] at HV
      obtain ⟨rs, hrs⟩ : ∃ rs, rangeL ps fm t2 = rs := ⟨_, rfl⟩
      have HRs := Lib.hid hrs
      rw [hrs] at HV
      have hrl : rs.length ≤ 1000 := by
        rw [← hrs, HRg.out, List.length_take, List.length_drop]
        omega
      obtain ⟨n, hnn⟩ : ∃ n, rs.length = n := ⟨_, rfl⟩
      have HN := Lib.hid hnn
      obtain ⟨a1, c1, hv1, -, -⟩ := own_form HV.out.1
      rw [hnn] at hv1 hrl
      subst hv1
      have HO1 := Lib.hid (show wr.ownsRow 0 44 2 (.slice a1 n c1) n (prs rs) from hnn ▸ HV.out.1)
      have wn : IntKind.i64.wrap ((n : Int) - 1) = n - 1 := IntWalk.i64_in _ (by omega)
      clear ov hf hrs hnn hltI hjk hjk2
      go_wp2_with fail
      go_loopw [12, 13] (fun s1 s2 wz => ∃ x : Nat, 2 * x ≤ n + 1 ∧ s1 = .int .i64 x ∧ s2 = .int .i64 ((n : Int) - 1 - x) ∧ ∃ qs : List Pr, qs.length = n ∧ wz.ownsRow 0 44 2 (.slice a1 n c1) n (prs qs) ∧ (∀ m, m < n → qs[m]? = if m < x ∨ n ≤ m + x then rs[n - 1 - m]? else rs[m]?) ∧ Fr (fun m => (Value.slice a1 n c1).ownBlock = some m) wr wz) (fun s1 s2 _ => (intOf s2 - intOf s1 + 1).toNat)
      case atStart => exact ⟨0, by omega, rfl, by simp, rs, HN.out, HO1.out, fun m hm => by rw [if_neg (by omega)], Fr.refl _ _⟩
      case round =>
        obtain ⟨x, hx2, rfl, rfl, qs, hql, hqo, hqs, hfz⟩ := hrel
        have HQ := Lib.hid hqs
        have HFz := Lib.hid hfz
        have HQL := Lib.hid hql
        by_cases hlt3 : (x : Int) < (n : Int) - 1 - x
        · obtain ⟨y, hy⟩ : ∃ y : Nat, n = x + y + 1 := ⟨n - 1 - x, by omega⟩
          have hyI : (n : Int) - 1 - x = y := by omega
          have hxq : x < qs.length := by omega
          have hyq : y < qs.length := by omega
          obtain ⟨g, cp, e1⟩ := own_some hqo (by omega)
          simp only [Value.slice.injEq] at e1
          obtain ⟨rfl, -, rfl⟩ := e1
          obtain ⟨p0, p1⟩ := own_pair hqo hql hxq
          obtain ⟨q0, q1⟩ := own_pair hqo hql hyq
          have z0 := hqo.frozenAt (x * 2)
          have z1 := hqo.frozenAt (x * 2 + 1)
          have z2 := hqo.frozenAt (y * 2)
          have z3 := hqo.frozenAt (y * 2 + 1)
          obtain ⟨xs, hxs⟩ : ∃ v, qs[x].1 = v := ⟨_, rfl⟩
          obtain ⟨xa, hxa⟩ : ∃ v, qs[x].2 = v := ⟨_, rfl⟩
          obtain ⟨ys, hys⟩ : ∃ v, qs[y].1 = v := ⟨_, rfl⟩
          obtain ⟨ya, hya⟩ : ∃ v, qs[y].2 = v := ⟨_, rfl⟩
          rw [hxs] at p0
          rw [hxa] at p1
          rw [hys] at q0
          rw [hya] at q1
          have hxy : x < y := by omega
          have hxn : (x : Int) < n := by omega
          have hyn : (y : Int) < n := by omega
          have w1 : IntKind.i64.wrap ((x : Int) + 1) = x + 1 := IntWalk.i64_in _ (by omega)
          have w2 : IntKind.i64.wrap ((y : Int) - 1) = y - 1 := IntWalk.i64_in _ (by omega)
          have h3 : (x : Int) < y := by omega
          have HA := Lib.hid (own_put2 (own_put2 hqo hql hxq (x := ys) (y := ya)) (by rw [List.length_set]; exact hql) (by rw [List.length_set]; exact hyq) (x := xs) (y := xa))
          have HB := Lib.hid (own_put2 (own_put2 hqo hql hyq (x := xs) (y := xa)) (by rw [List.length_set]; exact hql) (by rw [List.length_set]; exact hxq) (x := ys) (y := ya))
          have HC := Lib.hid (show (qs.set y (xs, xa)).set x (ys, ya) = (qs.set x (ys, ya)).set y (xs, xa) from List.set_comm _ _ (by omega))
          have Hnew := Lib.hid (show ∀ m, m < n → ((qs.set x (ys, ya)).set y (xs, xa))[m]? = if m < x + 1 ∨ n ≤ m + (x + 1) then rs[n - 1 - m]? else rs[m]? from fun m hm => by
            by_cases hm1 : m = y
            · subst hm1
              have hq := HQ.out x (by omega)
              rw [if_neg (by omega), List.getElem?_eq_getElem hxq, show qs[x] = (xs, xa) from by rw [← hxs, ← hxa]] at hq
              rw [List.getElem?_set_self (by rw [List.length_set]; omega), if_pos (by omega), show n - 1 - m = x by omega, ← hq]
            · rw [List.getElem?_set_ne (by omega)]
              by_cases hm2 : m = x
              · subst hm2
                have hq := HQ.out y (by omega)
                rw [if_neg (by omega), List.getElem?_eq_getElem hyq, show qs[y] = (ys, ya) from by rw [← hys, ← hya]] at hq
                rw [List.getElem?_set_self hxq, if_pos (by omega), show n - 1 - m = y by omega, ← hq]
              · rw [List.getElem?_set_ne (by omega), HQ.out m hm]
                by_cases hc : m < x ∨ n ≤ m + x
                · rw [if_pos hc, if_pos (by omega)]
                · rw [if_neg hc, if_neg (by omega)])
          have HY := Lib.hid hy
          rw [hyI]
          clear hqs hqo hfz hql hxs hxa hys hya hyI hlt3 hy
          go_wp2_with fail
          go_region
          all_goals
            go_wp2_with fail
            go_roundw
            case rel =>
              refine ⟨x + 1, by have := HY.out; omega, by go_num, by rw [show ((y : Int) - 1) = (n : Int) - 1 - ((x + 1 : Nat) : Int) by have := HY.out; omega], (qs.set x (ys, ya)).set y (xs, xa), by rw [List.length_set, List.length_set]; exact HQL.out, by first | exact HA.out.drew | exact HC.out ▸ HB.out.drew, Hnew.out, ?_⟩
              first | exact (((((HFz.out.setCell (p := ⟨g, x * 2, none⟩) (.inl rfl) _).setCell (p := ⟨g, x * 2 + 1, none⟩) (.inl rfl) _).setCell (p := ⟨g, y * 2, none⟩) (.inl rfl) _).setCell (p := ⟨g, y * 2 + 1, none⟩) (.inl rfl) _).drew) | exact (((((HFz.out.setCell (p := ⟨g, y * 2, none⟩) (.inl rfl) _).setCell (p := ⟨g, y * 2 + 1, none⟩) (.inl rfl) _).setCell (p := ⟨g, x * 2, none⟩) (.inl rfl) _).setCell (p := ⟨g, x * 2 + 1, none⟩) (.inl rfl) _).drew)
            case measure => have := HY.out; simp [intOf]; omega
        · have hltE : ¬ (x : Int) < (n : Int) - 1 - x := hlt3
          have HRv := Lib.hid (show qs = rs.reverse from by
            apply List.ext_getElem?
            intro m
            have hn2 := HN.out
            by_cases hm : m < n
            · rw [HQ.out m hm, List.getElem?_reverse (by omega), hn2]
              by_cases hc : m < x ∨ n ≤ m + x
              · rw [if_pos hc]
              · rw [if_neg hc, show n - 1 - m = m by omega]
            · rw [List.getElem?_eq_none (by omega), List.getElem?_eq_none (by rw [List.length_reverse]; omega)])
          have HQo := Lib.hid hqo
          clear hqs hqo hfz hql hlt3
          go_wp2_with fail
          go_ret
          refine ⟨_, rfl, ⟨?_, fun m hm => ?_⟩, HFr.out.then_ HFz.out (fun m hm => .inr ?_)⟩
          · have h := HQo.out
            rw [HRv.out] at h
            rw [HRs.out, List.length_reverse, HN.out]
            exact h
          · rcases HV.out.2 m hm with h | h
            · exact h.elim
            · exact .inr ⟨h.1, Nat.lt_of_lt_of_le h.2 HFz.out.size⟩
          · rcases HV.out.2 m hm with h | h
            · exact h.elim
            · exact h.1
end Go.Proofs.Ytjegnhcpepkpoaa
