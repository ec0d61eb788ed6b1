/- Several texts in one, for the law BooksBack: BoC, BoD, BoE, BoH, Qa, Qb, Qc, Qd. Each says what it shows; conditions: what each theorem names. -/
import Derived.Test.YtjchjpmgbmeohaaDoorMk6
import Derived.Test.YtjchjpmgbmeohaaDoorMk5
import Derived.Deep.RegionHeld3
import Derived.Deep.QuietTactic
import Derived.Test.YtjchjpmgbmeohaaDoorMk1
/- Rows of pairs. -/
set_option linter.unusedSimpArgs false
set_option linter.unusedVariables false
namespace Go.Proofs.YtjchjpmgbmeohaaDoor
open Go.RowKit

theorem Tryd.infoPair : (Tryd.prog.info? 121).map (fun i => (i.zero, i.size, i.bytes)) = some (some (.agg #[.int .i64 0, .int .i64 0]), 2, 16) := by kernel_rfl
theorem szPair : (Tryd.prog.info? 121).map (·.size) = some 2 := by kernel_rfl
theorem prs_app (a b : List Pr) : prs (a ++ b) = prs a ++ prs b := List.flatMap_append
theorem prs_take (ps : List Pr) (k : Nat) : (prs ps).take (k * 2) = prs (ps.take k) := by
  induction ps generalizing k with
  | nil => simp [prs]
  | cons p ps ih =>
    cases k with
    | zero => simp [prs]
    | succ k =>
      have e : prs (p :: ps) = .int .i64 p.1 :: .int .i64 p.2 :: prs ps := rfl
      rw [e, show (k + 1) * 2 = k * 2 + 1 + 1 by omega, List.take_succ_cons, List.take_succ_cons, ih, List.take_succ_cons]
      rfl
theorem prs_drop (ps : List Pr) (k : Nat) : (prs ps).drop (k * 2) = prs (ps.drop k) := by
  induction ps generalizing k with
  | nil => simp [prs]
  | cons p ps ih =>
    cases k with
    | zero => simp [prs]
    | succ k =>
      have e : prs (p :: ps) = .int .i64 p.1 :: .int .i64 p.2 :: prs ps := rfl
      rw [e, show (k + 1) * 2 = k * 2 + 1 + 1 by omega, List.drop_succ_cons, List.drop_succ_cons, ih, List.drop_succ_cons]
theorem prs_one (ps : List Pr) : ∀ u ∈ prs ps, u.oneCell' = true := by
  intro u hu
  obtain ⟨p, _, hp⟩ := List.mem_flatMap.1 hu
  simp only [Pr.cells, List.mem_cons, List.not_mem_nil, or_false] at hp
  rcases hp with rfl | rfl <;> rfl
theorem prs_set1 (ps : List Pr) {i : Nat} (hi : i < ps.length) (v : Int) : (prs ps).set (i * 2 + 1) (.int .i64 v) = prs (ps.set i (ps[i].1, v)) := by
  induction ps generalizing i with
  | nil => simp at hi
  | cons p ps ih =>
    have e : ∀ (p : Pr) ps, prs (p :: ps) = .int .i64 p.1 :: .int .i64 p.2 :: prs ps := fun _ _ => rfl
    cases i with
    | zero => rfl
    | succ i =>
      rw [e, show (i + 1) * 2 + 1 = i * 2 + 1 + 1 + 1 by omega, List.set_cons_succ, List.set_cons_succ, ih (by simpa using hi)]
      rfl
theorem prs_set0 (ps : List Pr) {i : Nat} (hi : i < ps.length) (v : Int) : (prs ps).set (i * 2) (.int .i64 v) = prs (ps.set i (v, ps[i].2)) := by
  induction ps generalizing i with
  | nil => simp at hi
  | cons p ps ih =>
    have e : ∀ (p : Pr) ps, prs (p :: ps) = .int .i64 p.1 :: .int .i64 p.2 :: prs ps := fun _ _ => rfl
    cases i with
    | zero => rfl
    | succ i =>
      rw [e, show (i + 1) * 2 = i * 2 + 1 + 1 by omega, List.set_cons_succ, List.set_cons_succ, ih (by simpa using hi)]
      rfl
/-- A row whose tail was pushed on by one. -/
theorem splice_prs {cur : List Value} {ps : List Pr} {z : Pr} {i : Nat} (hi : i ≤ ps.length) (hc : cur.take ((ps.length + 1) * 2) = prs (ps ++ [z])) :
    ∃ X, (splice cur ((i + 1) * 2) ((prs ps).drop (i * 2))).take ((ps.length + 1) * 2) = prs (ps.take i ++ X :: ps.drop i) := by
  have hl : (prs (ps ++ [z])).length = (ps.length + 1) * 2 := by rw [prs_len]; simp
  have hcl : (ps.length + 1) * 2 ≤ cur.length := by
    have h := congrArg List.length hc
    rw [List.length_take, hl] at h
    omega
  have hdl : ((prs ps).drop (i * 2)).length = (ps.length - i) * 2 := by rw [List.length_drop, prs_len]; omega
  have h1 : cur.take ((i + 1) * 2) = prs ((ps ++ [z]).take (i + 1)) := by
    rw [← prs_take, ← hc, List.take_take, Nat.min_eq_left (by omega)]
  have hi2 : i < (ps ++ [z]).length := by simp; omega
  refine ⟨(ps ++ [z])[i], ?_⟩
  have hA : (cur.take ((i + 1) * 2)).length = (i + 1) * 2 := by rw [List.length_take]; omega
  unfold splice
  rw [← List.append_assoc, List.take_left' (by rw [List.length_append, hA, hdl]; omega), h1, prs_drop, List.take_succ_eq_append_getElem hi2, List.take_append_of_le_length hi, ← prs_app, List.append_assoc]
  rfl

/-- Behind the copy: the row is pushed on by one. -/
theorem iso_spliced {W w4 : World} {S1 : Nat → Prop} {L : Bq 5} {g cap1 i : Nat} {cur : Array Value} {ps : List Pr} {z : Pr} (hi : i ≤ ps.length) (hb1 : W.heap[L.b]? = some (.cells (L.row (.slice (some ⟨g, 0, none⟩) (ps.length + 1) cap1)) 100 (0, 0))) (hS1 : S1 L.b)
    (hSv1 : ∀ k, (Value.slice (some ⟨g, 0, none⟩) (ps.length + 1) cap1).ownBlock = some k → S1 k ∧ k ≠ L.b) (hl1 : ∀ k, S1 k → k < W.heap.size) (hnc : ps.length + 1 ≤ cap1) (hcm : cap1 ≤ maxLen) (hcs : cur.size = cap1 * 2) (htk : cur.toList.take ((ps.length + 1) * 2) = prs (ps ++ [z]))
    (hg4 : w4.heap[g]? = some (.cells (splice cur.toList ((i + 1) * 2) ((prs ps).drop (i * 2))).toArray 121 (0, 0))) (hf4 : Fr (fun k => k = g) W w4) : ∃ X, IsO w4 S1 L (ps.take i ++ X :: ps.drop i) ∧ Fr S1 W w4 := by
  obtain ⟨X, hX⟩ := splice_prs hi htk
  have hg := hSv1 g rfl
  have hlen : (ps.take i ++ X :: ps.drop i).length = ps.length + 1 := by simp; omega
  have hsl : (splice cur.toList ((i + 1) * 2) ((prs ps).drop (i * 2))).length = cur.toList.length := length_splice _ _ _ (by rw [List.length_drop, prs_len, show cur.toList.length = cap1 * 2 from (Array.length_toList).trans hcs]; omega)
  refine ⟨X, ⟨.slice (some ⟨g, 0, none⟩) (ps.length + 1) cap1, hf4.blk hb1 (fun e => hg.2 e.symm), ?_, hS1, hSv1, fun k hk => Nat.lt_of_lt_of_le (hl1 k hk) hf4.size⟩, hf4.mono (fun k hk => by have hk : k = g := hk; rw [hk]; exact hg.1)⟩
  rw [hlen]
  refine ⟨by rw [prs_len, hlen], .inr ⟨g, cap1, _, rfl, Nat.zero_le _, hg4, hnc, hcm, by simp only [List.size_toArray]; rw [hsl, Array.length_toList, hcs], ?_⟩⟩
  simpa using hX

/-- A pair of the row is written. -/
theorem rq_put2 {w : World} {S : Nat → Prop} {L : Bq 5} {g cap n j : Nat} {x y : Int} {qs : List Pr} (hb : w.heap[L.b]? = some (.cells (L.row (.slice (some ⟨g, 0, none⟩) n cap)) 100 (0, 0))) (ho : w.ownsRow 0 121 2 (.slice (some ⟨g, 0, none⟩) n cap) n (prs qs)) (hS : S L.b)
    (hSv : ∀ k, (Value.slice (some ⟨g, 0, none⟩) n cap).ownBlock = some k → S k ∧ k ≠ L.b) (hl : ∀ k, S k → k < w.heap.size) (hn : qs.length = n) (hj : j < qs.length) :
    IsO ((w.setCell ⟨g, j * 2, none⟩ (.int .i64 x)).setCell ⟨g, j * 2 + 1, none⟩ (.int .i64 y)) S L (qs.set j (x, y)) ∧ Fr S w ((w.setCell ⟨g, j * 2, none⟩ (.int .i64 x)).setCell ⟨g, j * 2 + 1, none⟩ (.int .i64 y)) := by
  subst hn
  obtain ⟨h1, f1⟩ := rq_put (j := j * 2) (u := .int .i64 x) hb ho hS hSv hl
  have hg := hSv g rfl
  have hb1 : (w.setCell ⟨g, j * 2, none⟩ (.int .i64 x)).heap[L.b]? = some (.cells (L.row (.slice (some ⟨g, 0, none⟩) qs.length cap)) 100 (0, 0)) := blk_far2 hb (fun e => hg.2 e.symm) _
  obtain ⟨ho1, _⟩ := ho.stored (j * 2) (.int .i64 x)
  rw [prs_set0 qs hj x] at ho1
  have hl1 : ∀ k, S k → k < (w.setCell ⟨g, j * 2, none⟩ (.int .i64 x)).heap.size := fun k hk => Nat.lt_of_lt_of_le (hl k hk) f1.size
  obtain ⟨h2, f2⟩ := rq_put (j := j * 2 + 1) (u := .int .i64 y) hb1 ho1 hS hSv hl1
  have hj2 : j < (qs.set j (x, qs[j].2)).length := by simpa using hj
  rw [prs_set1 _ hj2 y] at h2
  refine ⟨?_, f1.then_ f2 (fun k hk => .inl hk)⟩
  unfold IsO
  rw [List.length_set]
  have e : ((qs.set j (x, qs[j].2)).set j ((qs.set j (x, qs[j].2))[j].1, y)) = qs.set j (x, y) := by simp
  rw [e] at h2
  exact h2
/-- The list behind Put; was it new? -/
def isAt (ps : List Pr) (s : Int) : Prop := ∃ h : low ps s < ps.length, ps[low ps s].1 = s
def putL (ps : List Pr) (s at_ : Int) : List Pr := if low ps s < ps.length ∧ (ps.map (·.1))[low ps s]? = some s then ps.set (low ps s) (s, at_) else ps.take (low ps s) ++ (s, at_) :: ps.drop (low ps s)

end Go.Proofs.YtjchjpmgbmeohaaDoor

/- Package order: Put. -/
set_option linter.unusedSimpArgs false
set_option linter.unusedVariables false
namespace Go.Proofs.YtjchjpmgbmeohaaDoor
open Go.RowKit

set_option maxRecDepth 20000 in
set_option maxHeartbeats 3200000 in
theorem oput_any (w : World) (S : Nat → Prop) (L : Bq 5) (ps : List Pr) (s at_ : Int) (h : IsO w S L ps) (hn : ps.length ≤ 100000) (hR : Ris ps) :
    Calls Tryd.prog 64 #[.pointer (some ⟨L.b, 5, none⟩), .int .i64 s, .int .i64 at_] w fun e w' => e = .returned (.bool (!decide (low ps s < ps.length ∧ (ps.map (·.1))[low ps s]? = some s))) ∧ ∃ S', IsO w' S' L (putL ps s at_) ∧ Fr S w w' ∧ ∀ k, S' k → S k ∨ w.heap.size ≤ k := by
  obtain ⟨i0, hi0, hz0, hz1, hz2⟩ := info_parts Tryd.infoPair
  have H := Lib.hid h
  have HF := Lib.hid (ofind_any w L S ps s h (by omega) hR)
  have hle := low_le ps s
  obtain ⟨i, hi⟩ : ∃ i, low ps s = i := ⟨_, rfl⟩
  unfold putL
  rw [hi] at HF hle ⊢
  clear h hi
  by_cases hlt : i < ps.length
  · have hget : (ps.map (·.1))[i]? = some ps[i].1 := by rw [List.getElem?_map, List.getElem?_eq_getElem hlt]; rfl
    rw [hget]
    by_cases he : ps[i].1 = s
    · have hc : i < ps.length ∧ some ps[i].1 = some s := ⟨hlt, by rw [he]⟩
      rw [decide_eq_true hc, if_pos hc]
      have HP := Lib.hid (prs_set1 ps hlt at_)
      have HE := Lib.hid he
      have hltI : (i : Int) < ps.length := by omega
      go_enter Tryd.func64, Tryd.ntmps64
      go_wp2_with fail
      refine HF.out.mono ?_
      rintro e w2 ⟨rfl, f2⟩
      obtain ⟨v, hb, ho, hS, hSv, hl⟩ := IsO.fr (S2 := fun _ => False) H.out f2 (fun _ _ h => h)
      obtain ⟨g, cap, rfl⟩ := own_some ho (by omega)
      have c0 := blk_cell hb 5 (L.get _)
      obtain ⟨p0, p1⟩ := own_pair ho rfl hlt
      rw [he] at p0
      have fz := ho.frozenAt (i * 2 + 1)
      have HR := Lib.hid (rq_put (j := i * 2 + 1) (u := .int .i64 at_) hb ho hS hSv hl)
      have F2 := Lib.hid f2
      clear hb ho hS hSv hl he hget hc f2
      go_wp2_with fail
      go_ret
      refine ⟨rfl, S, ?_, (F2.out.mono (fun _ h => h.elim)).then_ HR.out.2 (fun k hk => .inl hk), fun k hk => .inl hk⟩
      have h := HR.out.1
      rw [HP.out, HE.out] at h
      unfold IsO
      rw [List.length_set]
      exact h
    · have hc : ¬ (i < ps.length ∧ some ps[i].1 = some s) := fun h => he (Option.some.inj h.2)
      rw [decide_eq_false hc, if_neg hc]
      have hltI : (i : Int) < ps.length := by omega
      have hne : (ps[i].1 == s) = false := by simpa using he
      go_enter Tryd.func64, Tryd.ntmps64
      go_wp2_with fail
      refine HF.out.mono ?_
      rintro e w2 ⟨rfl, f2⟩
      have hO2 := IsO.fr (S2 := fun _ => False) H.out f2 (fun _ _ h => h)
      have HO2 := Lib.hid hO2
      have F2 := Lib.hid f2
      obtain ⟨v, hb, ho, hS, hSv, hl⟩ := hO2
      obtain ⟨gg, cap, rfl⟩ := own_some ho (by omega)
      have c0 := blk_cell hb 5 (L.get _)
      obtain ⟨p0, -⟩ := own_pair ho rfl hlt
      have Hb := Lib.hid hb
      have Ho := Lib.hid ho
      have Hl := Lib.hid hl
      have Hs := Lib.hid hS
      have Hsv := Lib.hid hSv
      have Hne := Lib.hid (show ¬ (Value.slice (some ⟨gg, 0, none⟩) ps.length cap).ownBlock = some L.b from fun he => (Hsv.out L.b he).2 rfl)
      have Hn := Lib.hid (show prs (ps ++ [(0, 0)]) = prs ps ++ [.int .i64 0, .int .i64 0] from by rw [prs_app]; rfl)
      clear hb ho hl hS hSv f2 he hget hc
      go_upto_region 8 with (at_builtin; go_must (refine wpList_append_fresh _ w2 rfl (.tmp 44) (.tmp 46) 93 rfl 121 i0 (.agg #[.int .i64 0, .int .i64 0]) 2 16 Tryd.underlying93 hi0 hz0 hz1 hz2 rfl (by decide) (.slice (some ⟨gg, 0, none⟩) ps.length cap) ps.length _ rfl Ho.out #[.int .i64 0, .int .i64 0] rfl rfl rfl (by intro u hu; simp at hu; subst hu; rfl) (by omega) (by omega) ?_); intro g2 cap2 w3 hown3 hf3 hat3; have hb' := hf3.blk (blk_alloc Hb.out _) Hne.out; have c0' := blk_cell hb' 5 (L.get _); have f0' := blk_free hb' 5; have HR := Lib.hid (rq_push Hb.out Hs.out Hsv.out Hl.out ((Fr.refl _ w2).alloc (.cells #[.int .i64 0, .int .i64 0] 121)) hown3 hf3 hat3); clear hb' hown3 hf3 hat3)
      obtain ⟨W, hW⟩ : ∃ W, w3.setCell ⟨L.b, 5, none⟩ (.slice (some ⟨g2, 0, none⟩) (ps.length + 1) cap2) = W := ⟨_, rfl⟩
      rw [hW] at HR ⊢
      have HR2 := Lib.hid (show Rq W (Gro S w2 W) L 100 121 2 (ps.length + 1) (prs (ps ++ [(0, 0)])) from by rw [Hn.out]; exact HR.out.1)
      have HFW := Lib.hid (show Fr S w2 W from HR.out.2)
      clear hW c0' f0' HR
      go_cut [] from 8 (fun w' => ∃ S' X, IsO w' S' L (ps.take i ++ X :: ps.drop i) ∧ Fr S w2 w' ∧ ∀ k, S' k → S k ∨ w2.heap.size ≤ k)
      case first =>
        obtain ⟨v1, hb1, ho1, hS1, hSv1, hl1⟩ := HR2.out
        obtain ⟨g, cap1, rfl⟩ := own_some ho1 (by omega)
        have c1 := blk_cell hb1 5 (L.get _)
        have ho1' := ho1
        obtain ⟨-, hno | ⟨g', cp', cur, hv', -, hg1, hnc, hcm, hcs, htk⟩⟩ := ho1'
        · exact absurd hno.2 (by omega)
        simp only [Value.slice.injEq, Option.some.injEq, Addr.mk.injEq, and_true, true_and] at hv'
        obtain ⟨rfl, rfl⟩ := hv'
        have w1 : IntKind.i64.wrap ((i : Int) + 1) = i + 1 := IntWalk.i64_in _ (by omega)
        have b1 : (i : Int) + 1 ≤ ps.length + 1 := by omega
        have b0 : 0 ≤ (i : Int) + 1 := by omega
        have b5 : (i : Int) ≤ ps.length + 1 := by omega
        have b2 : ps.length + 1 ≤ cap1 := hnc
        have b3 : i ≤ ps.length + 1 := by omega
        have b4 : i + 1 ≤ ps.length + 1 := by omega
        have HG1 := Lib.hid hg1
        have HTK := Lib.hid htk
        have HCS := Lib.hid hcs
        have HB1 := Lib.hid hb1
        have HSV1 := Lib.hid hSv1
        have HS1 := Lib.hid hS1
        have HL1 := Lib.hid hl1
        have HCM := Lib.hid hcm
        have hG : W.drew.heap[g]? = some (.cells cur.toList.toArray 121 (0, 0)) := by rw [Array.toArray_toList]; exact hg1
        have HGd := Lib.hid hG
        have Hm := Lib.hid (show ps.length - i = Nat.min (ps.length + 1 - i) (ps.length - i) from by show ps.length - i = min (ps.length + 1 - i) (ps.length - i); omega)
        have Hnn := Lib.hid (show ((prs ps).drop (i * 2)).length = (ps.length - i) * 2 from by rw [List.length_drop, prs_len]; omega)
        have Hpos := Lib.hid (show 0 < ps.length - i → (if cap1 = i + 1 then some (⟨g, 0, none⟩ : Addr) else some ⟨g, (i + 1) * 2, none⟩) = some ⟨g, (i + 1) * 2, none⟩ ∧ ∃ ad, (if cap1 = i then some (⟨g, 0, none⟩ : Addr) else some ⟨g, i * 2, none⟩) = some ad ∧ ∀ j v, ((prs ps).drop (i * 2))[j]? = some v → W.drew.cell? (ad.add j) = some v from fun h0 => by
          refine ⟨if_neg (by omega), ⟨g, i * 2, none⟩, if_neg (by omega), fun j v hv => ?_⟩
          rw [List.getElem?_drop] at hv
          have hx : (prs (ps ++ [(0, 0)]))[i * 2 + j]? = some v := by rw [prs_app, List.getElem?_append_left (by have := (List.getElem?_eq_some_iff.1 hv).1; exact this)]; exact hv
          have hc := ho1.cells (g := g) rfl (i * 2 + j) v hx
          have e1 : (⟨g, 0, none⟩ : Addr).add (i * 2 + j) = ⟨g, i * 2 + j, none⟩ := by unfold Addr.add; split <;> simp_all
          have e2 : (⟨g, i * 2, none⟩ : Addr).add j = ⟨g, i * 2 + j, none⟩ := by unfold Addr.add; split <;> simp_all
          rw [e1] at hc
          rw [e2]
          exact hc)
        have Hfit := Lib.hid (show (i + 1) * 2 + ((prs ps).drop (i * 2)).length ≤ cur.toList.length from by rw [List.length_drop, prs_len, show cur.toList.length = cap1 * 2 from (Array.length_toList).trans hcs]; omega)
        have Hone := Lib.hid (show ∀ v ∈ (prs ps).drop (i * 2), v.oneCell' = true from fun v hv => prs_one ps v (List.mem_of_mem_drop hv))
        have HNC := Lib.hid hnc
        clear hb1 ho1 hS1 hSv1 hl1 hg1 htk hcs hnc hcm hG
        go_region_law (first | (refine step_copy_z rfl (.tmp 56) (.tmp 62) 93 93 rfl 121 2 Tryd.underlying93 szPair _ _ _ _ _ _ (by simp only [Act.eval, Act.put]; rfl) (by simp only [Act.eval, Act.put]; rfl) g ((i + 1) * 2) cur.toList 121 HGd.out ((prs ps).drop (i * 2)) (ps.length - i) Hm.out Hnn.out Hpos.out Hfit.out Hone.out ?_; intro w4 hg4 hf4))
        all_goals
          obtain ⟨X, x1, x2⟩ := iso_spliced (W := W) (w4 := w4) hle HB1.out HS1.out HSV1.out HL1.out HNC.out HCM.out HCS.out HTK.out hg4.out ((Fr.refl (fun k => k = g) W).drew.then_ hf4 (fun k hk => .inl hk))
          have HX := Lib.hid x1
          have HX2 := Lib.hid x2
          clear x1 x2 hg4 hf4
          go_wp2_with fail
        all_goals go_meet
        all_goals exact ⟨_, X, HX.out, HFW.out.then_ HX2.out (fun k hk => hk.imp id (fun h => h.1)), fun k hk => hk.imp id (fun h => h.1)⟩
      case rest =>
        obtain ⟨S3, X, o3, f3, g3⟩ := hcut
        have HF3 := Lib.hid f3
        have HG3 := Lib.hid g3
        have hlen : (ps.take i ++ X :: ps.drop i).length = ps.length + 1 := by simp; omega
        have hil : i < (ps.take i ++ X :: ps.drop i).length := by omega
        obtain ⟨v3, hb3, ho3, hS3, hSv3, hl3⟩ := o3
        rw [hlen] at ho3
        obtain ⟨g, cap3, rfl⟩ := own_some ho3 (by omega)
        have c3 := blk_cell hb3 5 (L.get _)
        obtain ⟨p0, p1⟩ := own_pair ho3 hlen hil
        have fz0 := ho3.frozenAt (i * 2)
        have fz1 := ho3.frozenAt (i * 2 + 1)
        have hb5 : (i : Int) < ps.length + 1 := by omega
        have HR3 := Lib.hid (rq_put2 (j := i) (x := s) (y := at_) hb3 ho3 hS3 hSv3 hl3 hlen hil)
        have HL := Lib.hid (show (ps.take i ++ X :: ps.drop i).set i (s, at_) = ps.take i ++ (s, at_) :: ps.drop i from by
          have e : (ps.take i).length = i := by rw [List.length_take]; omega
          rw [List.set_append, if_neg (by omega), e, Nat.sub_self]; rfl)
        have Hlen := Lib.hid hlen
        clear hb3 ho3 hS3 hSv3 hl3 f3 g3 hlen
        go_wp2_with fail
        go_ret
        have h3 := HR3.out
        rw [HL.out] at h3
        exact ⟨rfl, S3, h3.1, ((F2.out.mono (fun _ h => h.elim)).then_ HF3.out (fun k hk => .inl hk)).then_ h3.2 (fun k hk => (HG3.out k hk).imp id (fun h => Nat.le_trans F2.out.size h)), fun k hk => (HG3.out k hk).imp id (fun h => Nat.le_trans F2.out.size h)⟩
  · have hc : ¬ (i < ps.length ∧ (ps.map (·.1))[i]? = some s) := fun h => hlt h.1
    rw [decide_eq_false hc, if_neg hc]
    have hltI : ¬ (i : Int) < ps.length := by omega
    go_enter Tryd.func64, Tryd.ntmps64
    go_wp2_with fail
    refine HF.out.mono ?_
    rintro e w2 ⟨rfl, f2⟩
    have hO2 := IsO.fr (S2 := fun _ => False) H.out f2 (fun _ _ h => h)
    have HO2 := Lib.hid hO2
    have F2 := Lib.hid f2
    obtain ⟨v, hb, ho, hS, hSv, hl⟩ := hO2
    obtain ⟨a, cap, rfl, -, -⟩ := own_form ho
    have c0 := blk_cell hb 5 (L.get _)
    skip
    have Hb := Lib.hid hb
    have Ho := Lib.hid ho
    have Hl := Lib.hid hl
    have Hs := Lib.hid hS
    have Hsv := Lib.hid hSv
    have Hne := Lib.hid (show ¬ (Value.slice a ps.length cap).ownBlock = some L.b from fun he => (Hsv.out L.b he).2 rfl)
    have Hn := Lib.hid (show prs (ps ++ [(0, 0)]) = prs ps ++ [.int .i64 0, .int .i64 0] from by rw [prs_app]; rfl)
    clear hb ho hl hS hSv f2 hc
    go_upto_region 8 with (at_builtin; go_must (refine wpList_append_fresh _ w2 rfl (.tmp 44) (.tmp 46) 93 rfl 121 i0 (.agg #[.int .i64 0, .int .i64 0]) 2 16 Tryd.underlying93 hi0 hz0 hz1 hz2 rfl (by decide) (.slice a ps.length cap) ps.length _ rfl Ho.out #[.int .i64 0, .int .i64 0] rfl rfl rfl (by intro u hu; simp at hu; subst hu; rfl) (by omega) (by omega) ?_); intro g2 cap2 w3 hown3 hf3 hat3; have hb' := hf3.blk (blk_alloc Hb.out _) Hne.out; have c0' := blk_cell hb' 5 (L.get _); have f0' := blk_free hb' 5; have HR := Lib.hid (rq_push Hb.out Hs.out Hsv.out Hl.out ((Fr.refl _ w2).alloc (.cells #[.int .i64 0, .int .i64 0] 121)) hown3 hf3 hat3); clear hb' hown3 hf3 hat3)
    obtain ⟨W, hW⟩ : ∃ W, w3.setCell ⟨L.b, 5, none⟩ (.slice (some ⟨g2, 0, none⟩) (ps.length + 1) cap2) = W := ⟨_, rfl⟩
    rw [hW] at HR ⊢
    have HR2 := Lib.hid (show Rq W (Gro S w2 W) L 100 121 2 (ps.length + 1) (prs (ps ++ [(0, 0)])) from by rw [Hn.out]; exact HR.out.1)
    have HFW := Lib.hid (show Fr S w2 W from HR.out.2)
    clear hW c0' f0' HR
    go_cut [] from 8 (fun w' => ∃ S' X, IsO w' S' L (ps.take i ++ X :: ps.drop i) ∧ Fr S w2 w' ∧ ∀ k, S' k → S k ∨ w2.heap.size ≤ k)
    case first =>
      obtain ⟨v1, hb1, ho1, hS1, hSv1, hl1⟩ := HR2.out
      obtain ⟨g, cap1, rfl⟩ := own_some ho1 (by omega)
      have c1 := blk_cell hb1 5 (L.get _)
      have ho1' := ho1
      obtain ⟨-, hno | ⟨g', cp', cur, hv', -, hg1, hnc, hcm, hcs, htk⟩⟩ := ho1'
      · exact absurd hno.2 (by omega)
      simp only [Value.slice.injEq, Option.some.injEq, Addr.mk.injEq, and_true, true_and] at hv'
      obtain ⟨rfl, rfl⟩ := hv'
      have w1 : IntKind.i64.wrap ((i : Int) + 1) = i + 1 := IntWalk.i64_in _ (by omega)
      have b1 : (i : Int) + 1 ≤ ps.length + 1 := by omega
      have b0 : 0 ≤ (i : Int) + 1 := by omega
      have b5 : (i : Int) ≤ ps.length + 1 := by omega
      have b2 : ps.length + 1 ≤ cap1 := hnc
      have b3 : i ≤ ps.length + 1 := by omega
      have b4 : i + 1 ≤ ps.length + 1 := by omega
      have HG1 := Lib.hid hg1
      have HTK := Lib.hid htk
      have HCS := Lib.hid hcs
      have HB1 := Lib.hid hb1
      have HSV1 := Lib.hid hSv1
      have HS1 := Lib.hid hS1
      have HL1 := Lib.hid hl1
      have HCM := Lib.hid hcm
      have hG : W.drew.heap[g]? = some (.cells cur.toList.toArray 121 (0, 0)) := by rw [Array.toArray_toList]; exact hg1
      have HGd := Lib.hid hG
      have Hm := Lib.hid (show ps.length - i = Nat.min (ps.length + 1 - i) (ps.length - i) from by show ps.length - i = min (ps.length + 1 - i) (ps.length - i); omega)
      have Hnn := Lib.hid (show ((prs ps).drop (i * 2)).length = (ps.length - i) * 2 from by rw [List.length_drop, prs_len]; omega)
      have Hpos := Lib.hid (show 0 < ps.length - i → (if cap1 = i + 1 then some (⟨g, 0, none⟩ : Addr) else some ⟨g, (i + 1) * 2, none⟩) = some ⟨g, (i + 1) * 2, none⟩ ∧ ∃ ad, (if cap1 = i then some (⟨g, 0, none⟩ : Addr) else some ⟨g, i * 2, none⟩) = some ad ∧ ∀ j v, ((prs ps).drop (i * 2))[j]? = some v → W.drew.cell? (ad.add j) = some v from fun h0 => by
        refine ⟨if_neg (by omega), ⟨g, i * 2, none⟩, if_neg (by omega), fun j v hv => ?_⟩
        rw [List.getElem?_drop] at hv
        have hx : (prs (ps ++ [(0, 0)]))[i * 2 + j]? = some v := by rw [prs_app, List.getElem?_append_left (by have := (List.getElem?_eq_some_iff.1 hv).1; exact this)]; exact hv
        have hc := ho1.cells (g := g) rfl (i * 2 + j) v hx
        have e1 : (⟨g, 0, none⟩ : Addr).add (i * 2 + j) = ⟨g, i * 2 + j, none⟩ := by unfold Addr.add; split <;> simp_all
        have e2 : (⟨g, i * 2, none⟩ : Addr).add j = ⟨g, i * 2 + j, none⟩ := by unfold Addr.add; split <;> simp_all
        rw [e1] at hc
        rw [e2]
        exact hc)
      have Hfit := Lib.hid (show (i + 1) * 2 + ((prs ps).drop (i * 2)).length ≤ cur.toList.length from by rw [List.length_drop, prs_len, show cur.toList.length = cap1 * 2 from (Array.length_toList).trans hcs]; omega)
      have Hone := Lib.hid (show ∀ v ∈ (prs ps).drop (i * 2), v.oneCell' = true from fun v hv => prs_one ps v (List.mem_of_mem_drop hv))
      have HNC := Lib.hid hnc
      clear hb1 ho1 hS1 hSv1 hl1 hg1 htk hcs hnc hcm hG
      go_region_law (first | (refine step_copy_z rfl (.tmp 56) (.tmp 62) 93 93 rfl 121 2 Tryd.underlying93 szPair _ _ _ _ _ _ (by simp only [Act.eval, Act.put]; rfl) (by simp only [Act.eval, Act.put]; rfl) g ((i + 1) * 2) cur.toList 121 HGd.out ((prs ps).drop (i * 2)) (ps.length - i) Hm.out Hnn.out Hpos.out Hfit.out Hone.out ?_; intro w4 hg4 hf4))
      all_goals
        obtain ⟨X, x1, x2⟩ := iso_spliced (W := W) (w4 := w4) hle HB1.out HS1.out HSV1.out HL1.out HNC.out HCM.out HCS.out HTK.out hg4.out ((Fr.refl (fun k => k = g) W).drew.then_ hf4 (fun k hk => .inl hk))
        have HX := Lib.hid x1
        have HX2 := Lib.hid x2
        clear x1 x2 hg4 hf4
        go_wp2_with fail
      all_goals go_meet
      all_goals exact ⟨_, X, HX.out, HFW.out.then_ HX2.out (fun k hk => hk.imp id (fun h => h.1)), fun k hk => hk.imp id (fun h => h.1)⟩
    case rest =>
      obtain ⟨S3, X, o3, f3, g3⟩ := hcut
      have HF3 := Lib.hid f3
      have HG3 := Lib.hid g3
      have hlen : (ps.take i ++ X :: ps.drop i).length = ps.length + 1 := by simp; omega
      have hil : i < (ps.take i ++ X :: ps.drop i).length := by omega
      obtain ⟨v3, hb3, ho3, hS3, hSv3, hl3⟩ := o3
      rw [hlen] at ho3
      obtain ⟨g, cap3, rfl⟩ := own_some ho3 (by omega)
      have c3 := blk_cell hb3 5 (L.get _)
      obtain ⟨p0, p1⟩ := own_pair ho3 hlen hil
      have fz0 := ho3.frozenAt (i * 2)
      have fz1 := ho3.frozenAt (i * 2 + 1)
      have hb5 : (i : Int) < ps.length + 1 := by omega
      have HR3 := Lib.hid (rq_put2 (j := i) (x := s) (y := at_) hb3 ho3 hS3 hSv3 hl3 hlen hil)
      have HL := Lib.hid (show (ps.take i ++ X :: ps.drop i).set i (s, at_) = ps.take i ++ (s, at_) :: ps.drop i from by
          have e : (ps.take i).length = i := by rw [List.length_take]; omega
          rw [List.set_append, if_neg (by omega), e, Nat.sub_self]; rfl)
      have Hlen := Lib.hid hlen
      clear hb3 ho3 hS3 hSv3 hl3 f3 g3 hlen
      go_wp2_with fail
      go_ret
      have h3 := HR3.out
      rw [HL.out] at h3
      exact ⟨rfl, S3, h3.1, ((F2.out.mono (fun _ h => h.elim)).then_ HF3.out (fun k hk => .inl hk)).then_ h3.2 (fun k hk => (HG3.out k hk).imp id (fun h => Nat.le_trans F2.out.size h)), fun k hk => (HG3.out k hk).imp id (fun h => Nat.le_trans F2.out.size h)⟩
end Go.Proofs.YtjchjpmgbmeohaaDoor

/- Package order: Drop. -/
set_option linter.unusedSimpArgs false
set_option linter.unusedVariables false
namespace Go.Proofs.YtjchjpmgbmeohaaDoor
open Go.RowKit

theorem iso_of {w : World} {S : Nat → Prop} {L : Bq 5} {n : Nat} {vs : List Value} {qs : List Pr} (h : Rq w S L 100 121 2 n vs) (hn : qs.length = n) (hv : prs qs = vs) : IsO w S L qs := by
  subst hn
  subst hv
  exact h
theorem gro_low {w w2 W : World} {S : Nat → Prop} (f : Fr (fun _ => False) w w2) : ∀ k, Gro S w2 W k → S k ∨ w.heap.size ≤ k := fun k hk => hk.imp id (fun h => Nat.le_trans f.size h.1)
def dropL (ps : List Pr) (s : Int) : List Pr := if low ps s < ps.length ∧ (ps.map (·.1))[low ps s]? = some s then ps.take (low ps s) ++ ps.drop (low ps s + 1) else ps

set_option maxRecDepth 20000 in
set_option maxHeartbeats 3200000 in
theorem odrop_any (w : World) (S : Nat → Prop) (L : Bq 5) (ps : List Pr) (s : Int) (h : IsO w S L ps) (hn : ps.length ≤ 100000) (hR : Ris ps) :
    Calls Tryd.prog 66 #[.pointer (some ⟨L.b, 5, none⟩), .int .i64 s] w fun e w' => e = .returned (.bool (decide (low ps s < ps.length ∧ (ps.map (·.1))[low ps s]? = some s))) ∧ ∃ S', IsO w' S' L (dropL ps s) ∧ Fr S w w' ∧ ∀ k, S' k → S k ∨ w.heap.size ≤ k := by
  obtain ⟨i0, hi0, hz0, hz1, hz2⟩ := info_parts Tryd.infoPair
  have H := Lib.hid h
  have HF := Lib.hid (ofind_any w L S ps s h (by omega) hR)
  have hle := low_le ps s
  obtain ⟨i, hi⟩ : ∃ i, low ps s = i := ⟨_, rfl⟩
  unfold dropL
  rw [hi] at HF hle ⊢
  clear h hi
  by_cases hlt : i < ps.length
  · have hget : (ps.map (·.1))[i]? = some ps[i].1 := by rw [List.getElem?_map, List.getElem?_eq_getElem hlt]; rfl
    rw [hget]
    by_cases he : ps[i].1 = s
    · have hc : i < ps.length ∧ some ps[i].1 = some s := ⟨hlt, by rw [he]⟩
      rw [decide_eq_true hc, if_pos hc]
      have hltI : (i : Int) < ps.length := by omega
      have hne : ((i : Int) == ps.length) = false := by simp; omega
      go_enter Tryd.func66, Tryd.ntmps66
      go_wp2_with fail
      refine HF.out.mono ?_
      rintro e w2 ⟨rfl, f2⟩
      have F2 := Lib.hid f2
      obtain ⟨v, hb, ho, hS, hSv, hl⟩ := IsO.fr (S2 := fun _ => False) H.out f2 (fun _ _ h => h)
      obtain ⟨g, cap, rfl⟩ := own_some ho (by omega)
      have c0 := blk_cell hb 5 (L.get _)
      obtain ⟨p0, -⟩ := own_pair ho rfl hlt
      rw [he] at p0
      have hse : (s != s) = false := by simp
      have hcap : ps.length ≤ cap := by
        obtain ⟨a', c', e', hc', -⟩ := own_form ho
        simp only [Value.slice.injEq] at e'
        omega
      have w1 : IntKind.i64.wrap ((i : Int) + 1) = i + 1 := IntWalk.i64_in _ (by omega)
      have b0 : 0 ≤ (i : Int) + 1 := by omega
      have b1 : (i : Int) + 1 ≤ ps.length := by omega
      have b2 : i ≤ cap := by omega
      have Hcut := Lib.hid (show w2.ownsRow 0 121 2 (.slice (some ⟨g, 0, none⟩) i cap) i (prs (ps.take i)) from by have h := own_cut ho rfl (m := i) (by omega); rwa [prs_take] at h)
      have HD := Lib.hid (prs_drop ps (i + 1))
      have HSrc := Lib.hid (show ∀ (ad : Option Addr) c, (0 < ps.length - (i + 1) → ad = some ⟨g, (i + 1) * 2, none⟩) → Src Tryd.prog 2 93 (.slice ad (ps.length - (i + 1)) c) (ps.length - (i + 1)) (prs (ps.drop (i + 1))) w2.drew from fun ad c hp => by
        by_cases h0 : ps.length - (i + 1) = 0
        · rw [h0, show ps.drop (i + 1) = [] from List.drop_eq_nil_of_le (by omega)]
          cases ad with
          | none => exact Src.ofNil _ Tryd.underlying93 c
          | some b => exact Src.ofSlice _ Tryd.underlying93 b 0 c [] (by simp) (fun j u hu => by simp at hu) (fun u hu => by simp at hu)
        · rw [hp (by omega)]
          refine Src.ofSlice _ Tryd.underlying93 _ _ c _ (by rw [prs_len, List.length_drop]) (fun j u hu => ?_) (prs_one _)
          rw [← prs_drop, List.getElem?_drop] at hu
          have hc := ho.cells (g := g) rfl ((i + 1) * 2 + j) u hu
          have e1 : (⟨g, 0, none⟩ : Addr).add ((i + 1) * 2 + j) = ⟨g, (i + 1) * 2 + j, none⟩ := by unfold Addr.add; split <;> simp_all
          have e2 : (⟨g, (i + 1) * 2, none⟩ : Addr).add j = ⟨g, (i + 1) * 2 + j, none⟩ := by unfold Addr.add; split <;> simp_all
          rw [e1] at hc
          rw [e2]
          exact hc)
      have Hb := Lib.hid hb
      have Hs := Lib.hid hS
      have Hsv := Lib.hid hSv
      have Hl := Lib.hid hl
      have hNL : i + (ps.length - (i + 1)) ≤ 140737488355328 := by omega
      have hNB : (i + (ps.length - (i + 1))) * 16 ≤ 140737488355328 := by omega
      have hq : cap = i + 1 → ¬ 0 < ps.length - (i + 1) := by omega
      clear hb ho hS hSv hl he hget hc f2
      go_upto_region 6 with fail
      go_region_law (first | (refine step_append_src w2.drew rfl (.tmp 36) (.tmp 43) 93 93 rfl 121 i0 (.agg #[.int .i64 0, .int .i64 0]) 2 16 Tryd.underlying93 hi0 hz0 hz1 hz2 rfl (by decide) (.slice (some ⟨g, 0, none⟩) i cap) i _ (by simp only [Act.eval, Act.put]; rfl) Hcut.out.drew _ (ps.length - (i + 1)) _ (by simp only [Act.eval, Act.put]; rfl) (HSrc.out _ _ (fun h0 => by first | rfl | (rw [if_neg (by omega)]))) hNL hNB ?_; intro g2 cap2 w3 hown3 hf3 hat3; have hb' := hf3.blk (w := w2.drew) Hb.out (fun he => by have h := Hsv.out L.b he; exact h.2 rfl); have c0' := blk_cell hb' 5 (L.get _); have f0' := blk_free hb' 5))
      all_goals
        have HR := Lib.hid (rq_push Hb.out Hs.out Hsv.out Hl.out ((Fr.refl (fun _ => False) w2).drew) hown3 (by exact hf3) (by exact hat3))
        clear hb' hown3 hf3 hat3
        go_wp2_with fail
        all_goals go_ret
        all_goals exact ⟨rfl, _, iso_of HR.out.1 (by rw [List.length_append, List.length_take, List.length_drop]; omega) (prs_app _ _), (F2.out.mono (fun _ h => h.elim)).then_ HR.out.2 (fun k hk => .inl hk), gro_low F2.out⟩
    · have hc : ¬ (i < ps.length ∧ some ps[i].1 = some s) := fun h => he (Option.some.inj h.2)
      rw [decide_eq_false hc, if_neg hc]
      have hltI : (i : Int) < ps.length := by omega
      have hne : ((i : Int) == ps.length) = false := by simp; omega
      obtain ⟨x, hx⟩ : ∃ x, ps[i].1 = x := ⟨_, rfl⟩
      have hxs : (x != s) = true := by rw [← hx]; simpa using he
      go_enter Tryd.func66, Tryd.ntmps66
      go_wp2_with fail
      refine HF.out.mono ?_
      rintro e w2 ⟨rfl, f2⟩
      have F2 := Lib.hid f2
      have HO := Lib.hid (IsO.fr (S2 := fun _ => False) H.out f2 (fun _ _ h => h))
      obtain ⟨v, hb, ho, -, -, -⟩ := HO.out
      obtain ⟨g, cap, rfl⟩ := own_some ho (by omega)
      have c0 := blk_cell hb 5 (L.get _)
      obtain ⟨p0, -⟩ := own_pair ho rfl hlt
      rw [hx] at p0
      clear hb ho he hget hc f2 hx
      go_wp2_with fail
      go_ret
      exact ⟨rfl, S, HO.out, F2.out.mono (fun _ h => h.elim), fun k hk => .inl hk⟩
  · have hc : ¬ (i < ps.length ∧ (ps.map (·.1))[i]? = some s) := fun h => hlt h.1
    rw [decide_eq_false hc, if_neg hc]
    have hne : ((i : Int) == ps.length) = true := by simp; omega
    have hge : (ps.length : Int) ≤ i := by omega
    have hle2 : (i : Int) ≤ ps.length := by omega
    go_enter Tryd.func66, Tryd.ntmps66
    go_wp2_with fail
    refine HF.out.mono ?_
    rintro e w2 ⟨rfl, f2⟩
    have F2 := Lib.hid f2
    have HO := Lib.hid (IsO.fr (S2 := fun _ => False) H.out f2 (fun _ _ h => h))
    obtain ⟨v, hb, ho, -, -, -⟩ := HO.out
    obtain ⟨a, cap, rfl, -, -⟩ := own_form ho
    have c0 := blk_cell hb 5 (L.get _)
    clear hb ho hc f2
    go_wp2_with fail
    go_ret
    exact ⟨rfl, S, HO.out, F2.out.mono (fun _ h => h.elim), fun k hk => .inl hk⟩
end Go.Proofs.YtjchjpmgbmeohaaDoor

/- Books: stamps go on. -/
set_option linter.unusedSimpArgs false
set_option linter.unusedVariables false
namespace Go.Proofs.YtjchjpmgbmeohaaDoor
open Go.RowKit

theorem putL_len (ps : List Pr) (s a : Int) : (putL ps s a).length ≤ ps.length + 1 := by
  have := low_le ps s
  unfold putL
  split <;> simp
  omega
theorem dropL_len (ps : List Pr) (s : Int) : (dropL ps s).length ≤ ps.length := by
  unfold dropL
  split
  · simp; omega
  · exact Nat.le_refl _
theorem ris_drop {ps : List Pr} (h : Ris ps) (s : Int) : Ris (dropL ps s) := by
  unfold dropL
  split
  · refine List.Pairwise.sublist ?_ h
    have e : ps.take (low ps s) ++ ps.drop (low ps s) = ps := List.take_append_drop _ _
    conv => rhs; rw [← e]
    refine List.Sublist.append (List.Sublist.refl _) ?_
    rw [← List.drop_drop]
    exact List.drop_sublist _ _
  · exact h
theorem ris_put {ps : List Pr} (h : Ris ps) (s a : Int) : Ris (putL ps s a) := by
  have hle := low_le ps s
  unfold putL
  split
  · rename_i hc
    obtain ⟨hl, hg⟩ := hc
    rw [List.getElem?_map, List.getElem?_eq_getElem hl] at hg
    simp only [Option.map_some, Option.some.injEq] at hg
    have e : (ps.set (low ps s) (s, a)).map (·.1) = ps.map (·.1) := by
      apply List.ext_getElem (by simp)
      intro j h1 h2
      rw [List.getElem_map, List.getElem_map, List.getElem_set]
      split
      · rename_i hj
        subst hj
        exact hg.symm
      · rfl
    have h1 : (ps.map (·.1)).Pairwise (· < ·) := List.pairwise_map.2 h
    rw [← e] at h1
    exact List.pairwise_map.1 h1
  · rename_i hc
    have e : ps.take (low ps s) ++ ps.drop (low ps s) = ps := List.take_append_drop _ _
    have hp : (ps.take (low ps s) ++ ps.drop (low ps s)).Pairwise (fun p q => p.1 < q.1) := by rw [e]; exact h
    rw [List.pairwise_append] at hp
    obtain ⟨h1, h2, h3⟩ := hp
    have hlt : ∀ p ∈ ps.take (low ps s), p.1 < s := fun p hp => by
      obtain ⟨i, hi, rfl⟩ := List.getElem_of_mem hp
      have hi2 : i < low ps s := by rw [List.length_take] at hi; omega
      rw [List.getElem_take]
      exact low_lo (by omega) hi2
    have hgt : ∀ p ∈ ps.drop (low ps s), s < p.1 := fun p hp => by
      obtain ⟨i, hi, rfl⟩ := List.getElem_of_mem hp
      have hi2 : low ps s + i < ps.length := by rw [List.length_drop] at hi; omega
      rw [List.getElem_drop]
      have h4 := low_hi (s := s) h hi2 (by omega)
      by_cases h5 : low ps s < ps.length
      · have h6 : ps[low ps s].1 ≠ s := fun h7 => hc ⟨h5, by rw [List.getElem?_map, List.getElem?_eq_getElem h5]; simp [h7]⟩
        have h7 := low_hi h h5 (Nat.le_refl _)
        by_cases h8 : i = 0
        · subst h8
          simp only [Nat.add_zero]
          omega
        · have := List.pairwise_iff_getElem.1 h (low ps s) (low ps s + i) h5 hi2 (by omega)
          omega
      · omega
    unfold Ris
    rw [List.pairwise_append]
    refine ⟨h1, List.pairwise_cons.2 ⟨fun q hq => hgt q hq, h2⟩, fun p hp q hq => ?_⟩
    rcases List.mem_cons.1 hq with rfl | hq
    · exact hlt p hp
    · exact h3 p hp q hq
section
variable {ps : List Pr} {f : Int → Option Int}
theorem low_at (hR : Ris ps) {k : Nat} (hk : k < ps.length) : low ps ps[k].1 = k := by
  have h1 : ¬ k < low ps ps[k].1 := fun h => by have := low_lo hk h; omega
  by_cases h2 : low ps ps[k].1 = k
  · exact h2
  · have hl : low ps ps[k].1 < ps.length := by omega
    have h3 := low_hi hR hl (Nat.le_refl _)
    have := List.pairwise_iff_getElem.1 hR (low ps ps[k].1) k hl hk (by omega)
    omega
/-- Found is what is there. -/
theorem found_iff (h : ORel ps f) (s : Int) : (low ps s < ps.length ∧ (ps.map (·.1))[low ps s]? = some s) ↔ (f s).isSome = true := by
  constructor
  · rintro ⟨h1, h2⟩
    rw [List.getElem?_map, List.getElem?_eq_getElem h1] at h2
    have e : ps[low ps s].1 = s := by simpa using h2
    have hm : (s, ps[low ps s].2) ∈ ps := by
      have := List.getElem_mem h1
      rw [show ps[low ps s] = (s, ps[low ps s].2) from Prod.ext e rfl] at this
      exact this
    rw [(h.iff _ _).1 hm]; rfl
  · intro hs
    obtain ⟨a, ha⟩ := Option.isSome_iff_exists.1 hs
    obtain ⟨k, hk, e⟩ := List.getElem_of_mem ((h.iff s a).2 ha)
    have hl := low_at h.up hk
    rw [e] at hl
    have hl : low ps s = k := hl
    refine ⟨by omega, ?_⟩
    rw [hl, List.getElem?_map, List.getElem?_eq_getElem hk, e]; rfl
theorem orel_put (h : ORel ps f) (s a : Int) : ORel (putL ps s a) (upd f s (some a)) := by
  refine ⟨ris_put h.up s a, fun t b => ?_⟩
  by_cases hc : low ps s < ps.length ∧ (ps.map (·.1))[low ps s]? = some s
  · have e0 : putL ps s a = ps.set (low ps s) (s, a) := by unfold putL; rw [if_pos hc]
    have e : ps[low ps s].1 = s := by have := hc.2; rw [List.getElem?_map, List.getElem?_eq_getElem hc.1] at this; simpa using this
    have key : (t, b) ∈ ps.set (low ps s) (s, a) ↔ (t = s ∧ b = a) ∨ (t ≠ s ∧ (t, b) ∈ ps) := by
      constructor
      · intro hm
        obtain ⟨k, hk, ek⟩ := List.getElem_of_mem hm
        rw [List.getElem_set] at ek
        split at ek
        · cases ek; exact .inl ⟨rfl, rfl⟩
        · rename_i hne
          have hk' : k < ps.length := by simpa using hk
          refine .inr ⟨fun ht => hne ?_, ek ▸ List.getElem_mem hk'⟩
          have hl := low_at h.up hk'
          rw [ek] at hl
          rw [← ht]; exact hl
      · rintro (⟨rfl, rfl⟩ | ⟨hne, hm⟩)
        · exact List.mem_iff_getElem.2 ⟨low ps t, by simpa using hc.1, by simp⟩
        · obtain ⟨k, hk, ek⟩ := List.getElem_of_mem hm
          refine List.mem_iff_getElem.2 ⟨k, by simpa using hk, ?_⟩
          rw [List.getElem_set, if_neg (fun e2 => ?_), ek]
          have : ps[k].1 = s := by subst e2; exact e
          rw [ek] at this
          exact hne this
    rw [e0, key]
    by_cases ht : t = s
    · subst ht; rw [upd_self]; simp [eq_comm]
    · rw [upd_ne _ _ ht, ← h.iff]; simp [ht]
  · have e0 : putL ps s a = ps.take (low ps s) ++ (s, a) :: ps.drop (low ps s) := by unfold putL; rw [if_neg hc]
    have hno : f s = none := by
      cases hx : f s with
      | none => rfl
      | some v => exact absurd ((found_iff h s).2 (by rw [hx]; rfl)) hc
    rw [e0, List.mem_append, List.mem_cons, or_left_comm, ← List.mem_append, List.take_append_drop]
    by_cases ht : t = s
    · subst ht
      rw [upd_self]
      constructor
      · rintro (he | hm)
        · cases he; rfl
        · rw [h.iff, hno] at hm; cases hm
      · rintro ⟨⟩; exact .inl rfl
    · rw [upd_ne _ _ ht, ← h.iff]
      exact ⟨fun h => h.elim (fun he => absurd (by cases he; rfl) ht) id, .inr⟩
theorem orel_drop (h : ORel ps f) (s : Int) : ORel (dropL ps s) (upd f s none) := by
  refine ⟨ris_drop h.up s, fun t b => ?_⟩
  by_cases hc : low ps s < ps.length ∧ (ps.map (·.1))[low ps s]? = some s
  · have e0 : dropL ps s = ps.take (low ps s) ++ ps.drop (low ps s + 1) := by unfold dropL; rw [if_pos hc]
    have e : ps[low ps s].1 = s := by have := hc.2; rw [List.getElem?_map, List.getElem?_eq_getElem hc.1] at this; simpa using this
    have hsplit : ps = ps.take (low ps s) ++ ps[low ps s] :: ps.drop (low ps s + 1) := by rw [← List.drop_eq_getElem_cons hc.1, List.take_append_drop]
    have hm : (t, b) ∈ ps ↔ (t, b) = ps[low ps s] ∨ (t, b) ∈ ps.take (low ps s) ++ ps.drop (low ps s + 1) := by
      conv => lhs; rw [hsplit]
      rw [List.mem_append, List.mem_cons, or_left_comm, ← List.mem_append]
    have hnd : ∀ p ∈ ps.take (low ps s) ++ ps.drop (low ps s + 1), p.1 ≠ s := fun p hp hs => by
      have hp2 : ps.Pairwise (fun p q => p.1 < q.1) := h.up
      rw [hsplit, List.pairwise_append] at hp2
      obtain ⟨_, h2, h3⟩ := hp2
      rw [List.pairwise_cons] at h2
      rcases List.mem_append.1 hp with hp | hp
      · have := h3 p hp _ (List.mem_cons_self ..); omega
      · have := h2.1 p hp; omega
    rw [e0]
    by_cases ht : t = s
    · subst ht
      rw [upd_self]
      exact ⟨fun h => (hnd _ h rfl).elim, fun h => (by cases h)⟩
    · rw [upd_ne _ _ ht, ← h.iff, hm]
      exact ⟨.inr, fun h => h.elim (fun he => absurd (by rw [← e, ← he]) ht) id⟩
  · have e0 : dropL ps s = ps := by unfold dropL; rw [if_neg hc]
    have hno : f s = none := by
      cases hx : f s with
      | none => rfl
      | some v => exact absurd ((found_iff h s).2 (by rw [hx]; rfl)) hc
    have ef : upd f s none = f := by
      funext y
      by_cases e : y = s
      · rw [e, upd_self, hno]
      · rw [upd_ne _ _ e]
    rw [e0, ef]
    exact h.iff t b
end
/-- The stamps' place in the state's block. -/
def Dd.L5 (d : Dd) (lv qv : Value) (c s : Int) : Bq 5 := ⟨d.B, fun v => #[lv, .pointer (some ⟨d.A, 0, none⟩), .pointer (some ⟨d.K, 0, none⟩), .pointer (some ⟨d.I, 0, none⟩), .pointer (some ⟨d.N, 0, none⟩), v, qv, .int .i64 c, .int .i64 s], fun _ => rfl, fun _ _ => rfl⟩
section
variable {w w' : World} {lab : Nat → Nat} {d : Dd} {r : Raw} {es : List Ent} {big : Nat} {lv sv qv : Value} {ps : List Pr} {hp : List Itm}
theorem Sta.stsAt (h : Sta w lab d r es big) (b : SB w lab d r es big lv sv qv ps hp) : IsO w (fun k => lab k = 6 ∨ k = d.B) (d.L5 lv qv r.clock r.stamp) ps := by
  refine ⟨sv, b.blk, b.sts, .inr rfl, fun k hk => ⟨.inl (b.stsl k hk), fun e => ?_⟩, fun k hk => ?_⟩
  · have h1 := b.stsl k hk
    have h8 := h.labB
    rw [show k = d.B from e, h8] at h1
    cases h1
  · rcases hk with hk | rfl
    · exact h.lt k (by rw [hk]; decide)
    · exact h.lt _ (by rw [h.labB]; decide)
theorem Sta.rests (h : Sta w lab d r es big) (b : SB w lab d r es big lv sv qv ps hp) {S' : Nat → Prop} {qs : List Pr} {f : Int → Option Int} {big' : Nat} (hf : Fr (fun k => lab k = 6 ∨ k = d.B) w w')
    (ho : IsO w' S' (d.L5 lv qv r.clock r.stamp) qs) (hS : ∀ k, S' k → (lab k = 6 ∨ k = d.B) ∨ w.heap.size ≤ k) (hR : ORel qs f) (hb : big ≤ big') (hl : qs.length ≤ big') : Sta w' (ext lab w.heap.size w'.heap.size 6) d { r with sts := f } es big' := by
  have hr := ext_rel (c := 6) h hf.size
  have hn : ∀ k, (lab k = 6 ∨ k = d.B) → lab k = 6 ∨ lab k = 8 := fun k hk => hk.imp id (fun e => by rw [e]; exact h.labB)
  have hne : ∀ c, c ≠ 6 → c ≠ 8 → ∀ k, (lab k = 6 ∨ k = d.B) → lab k ≠ c := fun c h1 h8 k hs e => by
    rcases hn k hs with h | h
    · rw [h] at e; exact h1 e.symm
    · rw [h] at e; exact h8 e.symm
  have hk : ∀ k c, c ≠ 0 → lab k = c → ext lab w.heap.size w'.heap.size 6 k = c := fun k c h0 h1 => by rw [hr.nz k (by rw [h1]; exact h0), h1]
  obtain ⟨sv', hb', ho', _, hl', hlt'⟩ := ho
  refine ⟨⟨lv, sv', qv, qs, hp, ⟨hb', own_fr b.log hf (fun k hk hs => hne 1 (by decide) (by decide) k hs (b.logl k hk)), fun k h => hk k 1 (by decide) (b.logl k h), ho', fun k hk' => ?_, hR, own_fr b.ens hf (fun k hk hs => hne 7 (by decide) (by decide) k hs (b.ensl k hk)), fun k h => hk k 7 (by decide) (b.ensl k h), b.qrel, hl, Nat.le_trans b.hpb hb⟩⟩, hk _ 8 (by decide) h.labB, h.acc.rel (by decide) hf (hne 2 (by decide) (by decide)) hr, h.kep.rel (by decide) hf (hne 3 (by decide) (by decide)) hr, tab_more (h.ids.rel (by decide) hf (hne 4 (by decide) (by decide)) hr) hb, tab_more (h.nms.rel (by decide) hf (hne 5 (by decide) (by decide)) hr) hb, hr.lt, ents_rel h.ents hf (hne 9 (by decide) (by decide)) hr⟩
  have hs := hl' k hk'
  rcases hS k hs.1 with (h6 | rfl) | hge
  · exact hk k 6 (by decide) h6
  · exact absurd rfl hs.2
  · rw [ext, if_neg (by omega), if_pos (hlt' k hs.1)]
theorem Sta.stp6 (h : Sta w lab d r es big) (hf : Fr (fun k => lab k = 6 ∨ k = d.B) w w') : Stp w.heap.size w lab w' (ext lab w.heap.size w'.heap.size 6) := ext_stp (Nat.le_refl _) (hf.mono (fun k hk => by
  rcases hk with hk | rfl
  · rw [hk]; decide
  · rw [h.labB]; decide))
theorem stsPutS (w : World) (lab : Nat → Nat) (d : Dd) (r : Raw) (es : List Ent) (big : Nat) (s a : Int) (h : Sta w lab d r es big) (hb : big ≤ 90000) :
    Calls Tryd.prog 64 #[.pointer (some ⟨d.B, 5, none⟩), .int .i64 s, .int .i64 a] w fun e w' => e = .returned (.bool (r.sts s).isNone) ∧ ∃ lab', Sta w' lab' d { r with sts := upd r.sts s (some a) } es (big + 1) ∧ Stp w.heap.size w lab w' lab' := by
  obtain ⟨lv, sv, qv, ps, hp, b⟩ := h.bb
  have hpb := b.psb
  refine (oput_any w _ (d.L5 lv qv r.clock r.stamp) ps s a (h.stsAt b) (by omega) b.orel.up).mono ?_
  rintro e w' ⟨rfl, S', ho, hf, hS⟩
  refine ⟨?_, _, h.rests b hf ho hS (orel_put b.orel s a) (Nat.le_succ _) (Nat.le_trans (putL_len _ _ _) (by omega)), h.stp6 hf⟩
  have hfi := found_iff b.orel s
  cases hx : r.sts s with
  | none => rw [hx] at hfi; rw [decide_eq_false (fun h => by have := hfi.1 h; cases this)]; rfl
  | some v => rw [hx] at hfi; rw [decide_eq_true (hfi.2 rfl)]; rfl
theorem stsDropS (w : World) (lab : Nat → Nat) (d : Dd) (r : Raw) (es : List Ent) (big : Nat) (s : Int) (h : Sta w lab d r es big) (hb : big ≤ 90000) :
    Calls Tryd.prog 66 #[.pointer (some ⟨d.B, 5, none⟩), .int .i64 s] w fun e w' => e = .returned (.bool (r.sts s).isSome) ∧ ∃ lab', Sta w' lab' d { r with sts := upd r.sts s none } es big ∧ Stp w.heap.size w lab w' lab' := by
  obtain ⟨lv, sv, qv, ps, hp, b⟩ := h.bb
  have hpb := b.psb
  refine (odrop_any w _ (d.L5 lv qv r.clock r.stamp) ps s (h.stsAt b) (by omega) b.orel.up).mono ?_
  rintro e w' ⟨rfl, S', ho, hf, hS⟩
  refine ⟨?_, _, h.rests b hf ho hS (orel_drop b.orel s) (Nat.le_refl _) (Nat.le_trans (dropL_len _ _) (by omega)), h.stp6 hf⟩
  have hfi := found_iff b.orel s
  cases hx : r.sts s with
  | none => rw [hx] at hfi; rw [decide_eq_false (fun h => by have := hfi.1 h; cases this)]; rfl
  | some v => rw [hx] at hfi; rw [decide_eq_true (hfi.2 rfl)]; rfl
end
end Go.Proofs.YtjchjpmgbmeohaaDoor

/- Package queue, plain: heaps. No program in sight. -/
set_option linter.unusedSimpArgs false
set_option linter.unusedVariables false
namespace Go.Proofs.YtjchjpmgbmeohaaDoor
open Go.RowKit

theorem bf_asym {a b : Itm} (h : a.before b) : ¬ b.before a := by unfold Itm.before at *; omega
/-- not ahead, in a row. -/
theorem nb_trans {a b c : Itm} (h1 : ¬ a.before b) (h2 : ¬ b.before c) : ¬ a.before c := by unfold Itm.before at *; omega
def Heap (hp : List Itm) : Prop := ∀ (k : Nat) (x y : Itm), 0 < k → hp[k]? = some x → hp[(k - 1) / 2]? = some y → ¬ x.before y
/-- A heap, but for the one at i, which may be ahead of the one above it. -/
structure HeapUp (hp : List Itm) (i : Nat) : Prop where
  a : ∀ (k : Nat) (x y : Itm), 0 < k → k ≠ i → hp[k]? = some x → hp[(k - 1) / 2]? = some y → ¬ x.before y
  b : ∀ (k : Nat) (x y : Itm), 0 < k → 0 < i → (k - 1) / 2 = i → hp[k]? = some x → hp[(i - 1) / 2]? = some y → ¬ x.before y
def swp (hp : List Itm) (i j : Nat) (x y : Itm) : List Itm := (hp.set i y).set j x
section
variable {hp : List Itm} {i j m : Nat} {x y : Itm}
theorem swp_len : (swp hp i j x y).length = hp.length := by simp [swp]
theorem swp_get (hi : hp[i]? = some x) (hj : hp[j]? = some y) (k : Nat) : (swp hp i j x y)[k]? = if k = j then some x else if k = i then some y else hp[k]? := by
  have h1 := (List.getElem?_eq_some_iff.1 hi).1
  have h2 := (List.getElem?_eq_some_iff.1 hj).1
  unfold swp
  rw [List.getElem?_set, List.getElem?_set, List.length_set]
  by_cases e : j = k
  · subst e; rw [if_pos rfl, if_pos h2, if_pos rfl]
  · rw [if_neg e, if_neg (show ¬ k = j from fun h => e h.symm)]
    by_cases e2 : i = k
    · subst e2; rw [if_pos rfl, if_pos h1, if_pos rfl]
    · rw [if_neg e2, if_neg (show ¬ k = i from fun h => e2 h.symm)]
theorem swp_perm (hi : hp[i]? = some x) (hj : hp[j]? = some y) : (swp hp i j x y).Perm hp := by
  obtain ⟨h1, rfl⟩ := List.getElem?_eq_some_iff.1 hi
  obtain ⟨h2, rfl⟩ := List.getElem?_eq_some_iff.1 hj
  exact List.set_set_perm h1 h2
theorem up_stop (h : HeapUp hp i) (hs : i = 0 ∨ ∀ x y, hp[i]? = some x → hp[(i - 1) / 2]? = some y → ¬ x.before y) : Heap hp := fun k x y h0 hx hy => by
  by_cases e : k = i
  · subst e
    rcases hs with rfl | hs
    · omega
    · exact hs x y hx hy
  · exact h.a k x y h0 e hx hy
theorem up_step (h : HeapUp hp i) (h0 : 0 < i) (hi : hp[i]? = some x) (hj : hp[(i - 1) / 2]? = some y) (hb : x.before y) : HeapUp (swp hp i ((i - 1) / 2) x y) ((i - 1) / 2) := by
  have hg := swp_get hi hj
  have hlt : (i - 1) / 2 < i := by omega
  refine ⟨fun k u v hk hne hu hv => ?_, fun k u v hk hp0 hpk hu hv => ?_⟩
  · rw [hg] at hu hv
    rw [if_neg hne] at hu
    by_cases e1 : k = i
    · subst e1
      rw [if_pos rfl] at hu
      rw [if_pos rfl] at hv
      cases hu; cases hv
      exact bf_asym hb
    · rw [if_neg e1] at hu
      by_cases e2 : (k - 1) / 2 = (i - 1) / 2
      · rw [if_pos e2] at hv
        cases hv
        exact nb_trans (h.a k u y hk e1 hu (by rw [e2]; exact hj)) (bf_asym hb)
      · rw [if_neg e2] at hv
        by_cases e3 : (k - 1) / 2 = i
        · rw [if_pos e3] at hv
          cases hv
          exact h.b k u y hk h0 e3 hu hj
        · rw [if_neg e3] at hv
          exact h.a k u v hk e1 hu hv
  · rw [hg] at hu hv
    rw [if_neg (by omega), if_neg (by omega)] at hv
    have hpp : ¬ y.before v := h.a ((i - 1) / 2) y v hp0 (by omega) hj hv
    by_cases e1 : k = i
    · subst e1
      rw [if_neg (by omega), if_pos rfl] at hu
      cases hu
      exact hpp
    · rw [if_neg (by omega), if_neg e1] at hu
      exact nb_trans (h.a k u y hk e1 hu (by rw [hpk]; exact hj)) hpp
/-- A heap, but for the one that goes down from i, which is at j. -/
structure HeapDn (hp : List Itm) (i j : Nat) : Prop where
  ij : i ≤ j
  a : ∀ (k : Nat) (x y : Itm), 0 < k → k ≠ i → (k - 1) / 2 ≠ j → hp[k]? = some x → hp[(k - 1) / 2]? = some y → ¬ x.before y
  b : ∀ (k : Nat) (x y : Itm), 0 < k → 0 < j → (k - 1) / 2 = j → hp[k]? = some x → hp[(j - 1) / 2]? = some y → ¬ x.before y
  c : j = i ∨ ∀ (x y : Itm), 0 < i → hp[i]? = some x → hp[(i - 1) / 2]? = some y → ¬ x.before y
theorem dn_stop (h : HeapDn hp i j) (hs : ∀ (k : Nat) (x y : Itm), 0 < k → (k - 1) / 2 = j → hp[k]? = some x → hp[j]? = some y → ¬ x.before y) : HeapUp hp i := by
  have ha : ∀ (k : Nat) (x y : Itm), 0 < k → k ≠ i → hp[k]? = some x → hp[(k - 1) / 2]? = some y → ¬ x.before y := fun k x y hk hne hx hy => by
    by_cases e : (k - 1) / 2 = j
    · exact hs k x y hk e hx (by rw [← e]; exact hy)
    · exact h.a k x y hk hne e hx hy
  refine ⟨ha, fun k x y hk hi0 hki hx hy => ?_⟩
  rcases h.c with rfl | hc
  · exact h.b k x y hk hi0 hki hx hy
  · have hkl := (List.getElem?_eq_some_iff.1 hx).1
    obtain ⟨z, hz⟩ : ∃ z, hp[i]? = some z := ⟨hp[i]'(by omega), List.getElem?_eq_getElem (by omega)⟩
    exact nb_trans (ha k x z hk (by omega) hx (by rw [hki]; exact hz)) (hc z y hi0 hz hy)
theorem dn_step (h : HeapDn hp i j) (hm0 : 0 < m) (hmj : (m - 1) / 2 = j) (hj : hp[j]? = some x) (hm : hp[m]? = some y) (hb : y.before x) (ho : ∀ (k : Nat) (z : Itm), 0 < k → (k - 1) / 2 = j → hp[k]? = some z → ¬ z.before y) : HeapDn (swp hp j m x y) i m := by
  have hg := swp_get hj hm
  have hij := h.ij
  refine ⟨by omega, fun k u v hk hki hkm hu hv => ?_, fun k u v hk _ hkm hu hv => ?_, .inr fun u v hi0 hu hv => ?_⟩
  · rw [hg] at hu hv
    rw [if_neg hkm] at hv
    by_cases e1 : k = m
    · subst e1
      rw [if_pos rfl] at hu
      rw [if_pos hmj] at hv
      cases hu; cases hv
      exact bf_asym hb
    · rw [if_neg e1] at hu
      by_cases e2 : k = j
      · subst e2
        rw [if_pos rfl] at hu
        rw [if_neg (by omega)] at hv
        cases hu
        exact h.b m y v hm0 hk hmj hm hv
      · rw [if_neg e2] at hu
        by_cases e3 : (k - 1) / 2 = j
        · rw [if_pos e3] at hv
          cases hv
          exact ho k u hk e3 hu
        · rw [if_neg e3] at hv
          exact h.a k u v hk hki e3 hu hv
  · rw [hg] at hu hv
    rw [if_neg (by omega), if_neg (by omega)] at hu
    rw [if_neg (by omega), if_pos hmj] at hv
    cases hv
    exact h.a k u y hk (by omega) (by omega) hu (by rw [hkm]; exact hm)
  · rw [hg] at hu hv
    rw [if_neg (by omega)] at hu
    rw [if_neg (by omega), if_neg (by omega)] at hv
    by_cases e : i = j
    · rw [if_pos e] at hu
      cases hu
      subst e
      exact h.b m y v hm0 hi0 hmj hm hv
    · rw [if_neg e] at hu
      rcases h.c with hc | hc
      · exact absurd hc.symm e
      · exact hc u v hi0 hu hv
theorem heap_first (h : Heap hp) (h0 : hp[0]? = some x) : ∀ (k : Nat) (u : Itm), hp[k]? = some u → ¬ u.before x := by
  intro k
  induction k using Nat.strongRecOn with
  | ind k ih =>
    intro u hu
    by_cases e : k = 0
    · subst e
      rw [h0] at hu
      cases hu
      unfold Itm.before
      omega
    · have hkl := (List.getElem?_eq_some_iff.1 hu).1
      obtain ⟨z, hz⟩ : ∃ z, hp[(k - 1) / 2]? = some z := ⟨hp[(k - 1) / 2]'(by omega), List.getElem?_eq_getElem (by omega)⟩
      exact nb_trans (h k u z (by omega) hu hz) (ih _ (by omega) z hz)
/-- What goes leaves its place to the last one. -/
def fillL (hp : List Itm) (i : Nat) (z : Itm) : List Itm := (hp.set i z).take (hp.length - 1)
theorem fill_get {z : Itm} (hi : i < hp.length - 1) (k : Nat) : (fillL hp i z)[k]? = if k < hp.length - 1 then (if k = i then some z else hp[k]?) else none := by
  rw [fillL, List.getElem?_take]
  split
  · rw [List.getElem?_set]
    by_cases e : i = k
    · subst e; rw [if_pos rfl, if_pos (by omega), if_pos rfl]
    · rw [if_neg e, if_neg (fun h => e h.symm)]
  · rfl
theorem fill_dn {z : Itm} (h : Heap hp) (hi : i < hp.length - 1) : HeapDn (fillL hp i z) i i := by
  have hg := fill_get (z := z) hi
  have old : ∀ (k : Nat) (u : Itm), k ≠ i → (fillL hp i z)[k]? = some u → hp[k]? = some u := fun k u hk hu => by
    rw [hg] at hu
    split at hu
    · first | exact hu | (rw [if_neg hk] at hu; exact hu)
    · cases hu
  refine ⟨Nat.le_refl _, fun k u v hk hki hkp hu hv => h k u v hk (old k u hki hu) (old _ v hkp hv), fun k u v hk hi0 hki hu hv => ?_, .inl rfl⟩
  have hu' := old k u (by omega) hu
  have hv' := old _ v (by omega) hv
  have hil : i < hp.length := by omega
  exact nb_trans (h k u hp[i] hk hu' (by rw [hki]; exact List.getElem?_eq_getElem hil)) (h i hp[i] v hi0 (List.getElem?_eq_getElem hil) hv')
theorem fill_perm {z : Itm} (hi : hp[i]? = some x) (hl : hp[hp.length - 1]? = some z) : (x :: fillL hp i z).Perm hp := by
  have hil := (List.getElem?_eq_some_iff.1 hi).1
  have hsw := swp_perm hi hl
  refine List.Perm.trans ?_ hsw
  have e : swp hp i (hp.length - 1) x z = fillL hp i z ++ [x] := by
    apply List.ext_getElem?
    intro k
    rw [swp_get hi hl, List.getElem?_append]
    have hfl : (fillL hp i z).length = hp.length - 1 := by simp [fillL]
    rw [hfl]
    by_cases h1 : k < hp.length - 1
    · rw [if_neg (by omega), if_pos h1, fillL, List.getElem?_take, if_pos h1, List.getElem?_set]
      by_cases e2 : i = k
      · subst e2; rw [if_pos rfl, if_pos rfl, if_pos hil]
      · rw [if_neg (fun h => e2 h.symm), if_neg e2]
    · rw [if_neg h1]
      by_cases e2 : k = hp.length - 1
      · rw [if_pos e2, e2, Nat.sub_self]; rfl
      · rw [if_neg e2, if_neg (by omega), List.getElem?_eq_none (by omega), List.getElem?_eq_none (by simp; omega)]
  rw [e]
  exact (List.perm_append_comm (l₁ := fillL hp i z) (l₂ := [x])).symm
end
/-! What a function tells of a heap. -/
section
variable {hp hq : List Itm} {f : Int → Option Itm} {x : Itm}
theorem QRel.put (h : QRel hp f) (hh : Heap hq) (hq' : hq.Perm (x :: hp)) (hn : f x.stamp = none) : QRel hq (upd f x.stamp (some x)) := by
  refine ⟨hh, ?_, fun s y => ?_⟩
  · have := (hq'.map (·.stamp)).nodup_iff
    rw [this, List.map_cons, List.nodup_cons]
    refine ⟨fun hm => ?_, h.nd⟩
    obtain ⟨y, hy, hs⟩ := List.mem_map.1 hm
    rw [(h.iff x.stamp y).2 ⟨hy, hs⟩] at hn
    cases hn
  · rw [hq'.mem_iff, List.mem_cons]
    by_cases e : s = x.stamp
    · subst e
      rw [upd_self]
      constructor
      · rintro ⟨⟩; exact ⟨.inl rfl, rfl⟩
      · rintro ⟨rfl | hy, hs⟩
        · rfl
        · rw [(h.iff x.stamp y).2 ⟨hy, hs⟩] at hn; cases hn
    · rw [upd_ne _ _ e, h.iff]
      exact ⟨fun ⟨h1, h2⟩ => ⟨.inr h1, h2⟩, fun ⟨h1, h2⟩ => ⟨h1.elim (fun h => absurd (by rw [← h2, h]) e) id, h2⟩⟩
theorem QRel.drop (h : QRel hp f) (hh : Heap hq) (hq' : (x :: hq).Perm hp) : QRel hq (upd f x.stamp none) := by
  have hnd : ((x :: hq).map (·.stamp)).Nodup := (hq'.map (·.stamp)).nodup_iff.2 h.nd
  rw [List.map_cons, List.nodup_cons] at hnd
  refine ⟨hh, hnd.2, fun s y => ?_⟩
  by_cases e : s = x.stamp
  · subst e
    rw [upd_self]
    exact ⟨fun h => (by cases h), fun ⟨h1, h2⟩ => (hnd.1 (List.mem_map.2 ⟨y, h1, h2⟩)).elim⟩
  · rw [upd_ne _ _ e, h.iff, ← hq'.mem_iff, List.mem_cons]
    exact ⟨fun ⟨h1, h2⟩ => ⟨h1.elim (fun h => absurd (by rw [← h2, h]) e) id, h2⟩, fun ⟨h1, h2⟩ => ⟨.inr h1, h2⟩⟩
end
end Go.Proofs.YtjchjpmgbmeohaaDoor

/- Package queue, at place 6 of the books' state: before, up. -/
set_option linter.unusedSimpArgs false
set_option linter.unusedVariables false
namespace Go.Proofs.YtjchjpmgbmeohaaDoor
open Go.RowKit

instance (a b : Itm) : Decidable (a.before b) := by unfold Itm.before; infer_instance
set_option maxHeartbeats 1600000 in
theorem before_any (w : World) (a b : Itm) : Calls Tryd.prog 109 #[.agg #[.int .i64 a.due, .int .i64 a.stamp, .int .u64 a.id.hi, .int .u64 a.id.lo], .agg #[.int .i64 b.due, .int .i64 b.stamp, .int .u64 b.id.hi, .int .u64 b.id.lo]] w fun e w' => e = .returned (.bool (decide (a.before b))) ∧ Fr (fun _ => False) w w' := by
  have hsz : (w.alloc (.cells #[.int .i64 a.due, .int .i64 a.stamp, .int .u64 a.id.hi, .int .u64 a.id.lo] 113)).heap.size = w.heap.size + 1 := by simp
  by_cases h1 : a.due < b.due
  · have hv := Lib.hid (show decide (a.before b) = true from decide_eq_true (.inl h1))
    go_enter Tryd.func109, Tryd.ntmps109
    go_wp2_with fail
    go_ret
    exact ⟨by rw [hv.out]; rfl, by repeat (first | (with_reducible exact Fr.refl _ _) | (with_reducible refine Fr.drew ?_) | (with_reducible refine Fr.drewN ?_ _) | (with_reducible refine Fr.alloc ?_ _) | (with_reducible refine Fr.set1 ?_ _) | (with_reducible refine Fr.setNew ?_ (by omega) _))⟩
  by_cases h2 : a.due = b.due
  · by_cases h3 : a.stamp < b.stamp
    · have hv := Lib.hid (show decide (a.before b) = true from decide_eq_true (.inr ⟨h2, h3⟩))
      have h4 : (a.due == b.due) = true := by simpa using h2
      clear h2
      go_enter Tryd.func109, Tryd.ntmps109
      go_wp2_with fail
      go_ret
      exact ⟨by rw [hv.out]; rfl, by repeat (first | (with_reducible exact Fr.refl _ _) | (with_reducible refine Fr.drew ?_) | (with_reducible refine Fr.drewN ?_ _) | (with_reducible refine Fr.alloc ?_ _) | (with_reducible refine Fr.set1 ?_ _) | (with_reducible refine Fr.setNew ?_ (by omega) _))⟩
    · have hv := Lib.hid (show decide (a.before b) = false from decide_eq_false (by unfold Itm.before; omega))
      have h4 : (a.due == b.due) = true := by simpa using h2
      clear h2
      go_enter Tryd.func109, Tryd.ntmps109
      go_wp2_with fail
      go_ret
      exact ⟨by rw [hv.out]; rfl, by repeat (first | (with_reducible exact Fr.refl _ _) | (with_reducible refine Fr.drew ?_) | (with_reducible refine Fr.drewN ?_ _) | (with_reducible refine Fr.alloc ?_ _) | (with_reducible refine Fr.set1 ?_ _) | (with_reducible refine Fr.setNew ?_ (by omega) _))⟩
  · have hv := Lib.hid (show decide (a.before b) = false from decide_eq_false (by unfold Itm.before; omega))
    have h4 : (a.due == b.due) = false := by simpa using h2
    clear h2
    go_enter Tryd.func109, Tryd.ntmps109
    go_wp2_with fail
    go_ret
    exact ⟨by rw [hv.out]; rfl, by repeat (first | (with_reducible exact Fr.refl _ _) | (with_reducible refine Fr.drew ?_) | (with_reducible refine Fr.drewN ?_ _) | (with_reducible refine Fr.alloc ?_ _) | (with_reducible refine Fr.set1 ?_ _) | (with_reducible refine Fr.setNew ?_ (by omega) _))⟩
theorem its_len (hp : List Itm) : (its hp).length = hp.length * 4 := flat_len (f := Itm.cells) (n := 4) (fun _ => rfl) hp
def IsQ (w : World) (S : Nat → Prop) (L : Bq 6) (hp : List Itm) : Prop := Rq w S L 100 113 4 hp.length (its hp)
theorem IsQ.fr {w w' : World} {S S2 : Nat → Prop} {L : Bq 6} {hp : List Itm} (h : IsQ w S L hp) (hf : Fr S2 w w') (hd : ∀ k, S k → ¬ S2 k) : IsQ w' S L hp := Rq.fr h hf hd
theorem own_itm {w : World} {g n cap : Nat} {hp : List Itm} (h : w.ownsRow 0 113 4 (.slice (some ⟨g, 0, none⟩) n cap) n (its hp)) (hn : hp.length = n) {i : Nat} {x : Itm} (hx : hp[i]? = some x) :
    w.cell? ⟨g, i * 4, none⟩ = some (.int .i64 x.due) ∧ w.cell? ⟨g, i * 4 + 1, none⟩ = some (.int .i64 x.stamp) ∧ w.cell? ⟨g, i * 4 + 2, none⟩ = some (.int .u64 x.id.hi) ∧ w.cell? ⟨g, i * 4 + 3, none⟩ = some (.int .u64 x.id.lo) := by
  obtain ⟨hi, rfl⟩ := List.getElem?_eq_some_iff.1 hx
  have q : ∀ j v, j < 4 → (Itm.cells hp[i])[j]? = some v → w.cell? ⟨g, i * 4 + j, none⟩ = some v := fun j v hj hv => by
    rw [h.cellAt (i * 4 + j) (by omega), its, flat_get (f := Itm.cells) (n := 4) (fun _ => rfl) hp i hi j hj, hv]
  exact ⟨q 0 _ (by omega) rfl, q 1 _ (by omega) rfl, q 2 _ (by omega) rfl, q 3 _ (by omega) rfl⟩
/-- Two items change places: the rows behind either order of the stores. -/
theorem own_swap {w : World} {g n cap i j : Nat} {hp : List Itm} {x y : Itm} (h : w.ownsRow 0 113 4 (.slice (some ⟨g, 0, none⟩) n cap) n (its hp)) (hi : hp[i]? = some x) (hj : hp[j]? = some y) :
    ((w.setCells g (i * 4) y.cells).setCells g (j * 4) x.cells).ownsRow 0 113 4 (.slice (some ⟨g, 0, none⟩) n cap) n (its (swp hp i j x y)) ∧ (i ≠ j → ((w.setCells g (j * 4) x.cells).setCells g (i * 4) y.cells).ownsRow 0 113 4 (.slice (some ⟨g, 0, none⟩) n cap) n (its (swp hp i j x y))) := by
  have h1 := (List.getElem?_eq_some_iff.1 hi).1
  have h2 := (List.getElem?_eq_some_iff.1 hj).1
  refine ⟨own_flat (f := Itm.cells) (sz := 4) (fun _ => rfl) (own_flat (f := Itm.cells) (sz := 4) (fun _ => rfl) h h1 y) (by rw [List.length_set]; exact h2) x, fun hne => ?_⟩
  have k := own_flat (f := Itm.cells) (sz := 4) (fun _ => rfl) (own_flat (f := Itm.cells) (sz := 4) (fun _ => rfl) h h2 x) (by rw [List.length_set]; exact h1) y
  rw [List.set_comm _ _ (fun e => hne e.symm)] at k
  exact k
theorem set4_fr {w : World} {g o : Nat} {S : Nat → Prop} (hg : S g) (x : Itm) : Fr S w (w.setCells g o x.cells) := (setCells_fr g _ _ _).mono (fun k hk => by rw [hk]; exact hg)
theorem iq_swap {w : World} {S : Nat → Prop} {L : Bq 6} {g cap i j : Nat} {hp : List Itm} {x y : Itm} (hb : w.heap[L.b]? = some (.cells (L.row (.slice (some ⟨g, 0, none⟩) hp.length cap)) 100 (0, 0))) (h : IsQ w S L hp) (hi : hp[i]? = some x) (hj : hp[j]? = some y) (hne : i ≠ j) :
    (IsQ ((w.setCells g (i * 4) y.cells).setCells g (j * 4) x.cells) S L (swp hp i j x y) ∧ Fr S w ((w.setCells g (i * 4) y.cells).setCells g (j * 4) x.cells)) ∧ (IsQ ((w.setCells g (j * 4) x.cells).setCells g (i * 4) y.cells) S L (swp hp i j x y) ∧ Fr S w ((w.setCells g (j * 4) x.cells).setCells g (i * 4) y.cells)) := by
  obtain ⟨v, hb2, ho, hS, hSv, hl⟩ := h
  have hv : v = .slice (some ⟨g, 0, none⟩) hp.length cap := by
    have h0 := L.get v
    have h1 := L.get (.slice (some ⟨g, 0, none⟩) hp.length cap)
    rw [hb] at hb2
    simp only [Option.some.injEq, Obj.cells.injEq, and_true] at hb2
    rw [← hb2, h1] at h0
    exact (Option.some.inj h0).symm
  subst hv
  have hg := hSv g rfl
  obtain ⟨o1, o2⟩ := own_swap ho hi hj
  have fr : ∀ (a b : Nat) (u v : Itm), Fr (fun k => k = g) w ((w.setCells g a u.cells).setCells g b v.cells) := fun a b u v => (setCells_fr g _ a w).then_ (setCells_fr g _ b _) (fun k hk => .inl hk)
  have mk : ∀ (a b : Nat) (u v : Itm), ((w.setCells g a u.cells).setCells g b v.cells).ownsRow 0 113 4 (.slice (some ⟨g, 0, none⟩) hp.length cap) hp.length (its (swp hp i j x y)) → IsQ ((w.setCells g a u.cells).setCells g b v.cells) S L (swp hp i j x y) ∧ Fr S w ((w.setCells g a u.cells).setCells g b v.cells) := fun a b u v o => by
    refine ⟨?_, (fr a b u v).mono (fun k hk => by rw [hk]; exact hg.1)⟩
    unfold IsQ
    rw [swp_len]
    exact ⟨_, (fr a b u v).blk hb (fun e => hg.2 e.symm), o, hS, hSv, fun k hk => Nat.lt_of_lt_of_le (hl k hk) (fr a b u v).size⟩
  exact ⟨mk _ _ _ _ o1, mk _ _ _ _ (o2 hne)⟩
set_option maxRecDepth 4000 in
set_option maxHeartbeats 6400000 in
theorem up_any (w : World) (S : Nat → Prop) (L : Bq 6) (hp : List Itm) (i : Nat) (h : IsQ w S L hp) (hi : i < hp.length) (hn : hp.length ≤ 100000) (hu : HeapUp hp i) :
    Calls Tryd.prog 101 #[.pointer (some ⟨L.b, 6, none⟩), .int .i64 i] w fun e w' => e = .returned (.tuple #[]) ∧ ∃ hp', IsQ w' S L hp' ∧ Heap hp' ∧ hp'.Perm hp ∧ Fr S w w' := by
  have HB := Lib.hid (fun W a b => before_any W a b)
  have H0 := Lib.hid h
  have HU := Lib.hid hu
  clear h hu
  go_enter Tryd.func101, Tryd.ntmps101
  go_wp2_with fail
  go_loopw [1] (fun iv wr => ∃ (hq : List Itm) (j : Nat), iv = .int .i64 j ∧ j < hq.length ∧ IsQ wr S L hq ∧ HeapUp hq j ∧ hq.Perm hp ∧ Fr S w wr) (fun iv _ => (intOf iv).toNat)
  case atStart => exact ⟨hp, i, rfl, hi, H0.out, HU.out, .refl _, Fr.refl _ _⟩
  case round =>
    obtain ⟨hq, j, rfl, hj, isq, hup, hpm, hf⟩ := hrel
    have HQ := Lib.hid isq
    have HUp := Lib.hid hup
    have HP := Lib.hid hpm
    have HF := Lib.hid hf
    by_cases hj0 : j = 0
    · subst hj0
      clear isq hup hpm hf
      go_upto_region 0 with fail
      go_quiet (fail)
      go_wp2_with fail
      go_end0
      exact ⟨rfl, hq, HQ.out.fr (S2 := fun _ => False) ((Fr.refl _ wr).drewN _) (fun _ _ h => h), up_stop HUp.out (.inl rfl), HP.out, HF.out.drewN _⟩
    have hlq : hq.length = hp.length := hpm.length_eq
    obtain ⟨p, hp2⟩ : ∃ p : Nat, (j - 1) / 2 = p := ⟨_, rfl⟩
    have hpj : p < j := by omega
    obtain ⟨x, hx⟩ : ∃ x, hq[j]? = some x := ⟨hq[j], List.getElem?_eq_getElem hj⟩
    obtain ⟨y, hy⟩ : ∃ y, hq[p]? = some y := ⟨hq[p]'(by omega), List.getElem?_eq_getElem (by omega)⟩
    have HX := Lib.hid hx
    have HY := Lib.hid hy
    have HPp := Lib.hid hp2
    have hj0' : 0 < j := by omega
    have hjI : (0 : Int) < j := by omega
    have w1 : IntKind.i64.wrap ((j : Int) - 1) = j - 1 := IntWalk.i64_in _ (by omega)
    have d1 : ((j : Int) - 1).tdiv 2 = p := by rw [Int.tdiv_eq_ediv_of_nonneg (by omega)]; omega
    have d2 : ((j : Int) - 1) / 2 = p := by omega
    have d3 : IntKind.i64.wrap (p : Int) = p := IntWalk.i64_in _ (by omega)
    have b1 : (j : Int) < hq.length := by omega
    have b2 : (p : Int) < hq.length := by omega
    have HJ := Lib.hid hj
    obtain ⟨v, hb, ho, hS, hSv, hl⟩ := isq
    obtain ⟨g, cap, rfl⟩ := own_some ho (by omega)
    have HBk := Lib.hid hb
    have HO := Lib.hid ho
    have HSv := Lib.hid hSv
    have c6 := blk_cell hb 6 (L.get _)
    obtain ⟨x0, x1, x2, x3⟩ := own_itm ho rfl hx
    obtain ⟨y0, y1, y2, y3⟩ := own_itm ho rfl hy
    have HBf := Lib.hid (fun W => before_any W x y)
    obtain ⟨bv, hbv⟩ : ∃ b, decide (x.before y) = b := ⟨_, rfl⟩
    rw [hbv] at HBf
    have HBv := Lib.hid hbv
    have HLq := Lib.hid hlq
    have b3 : (0 : Int) ≤ j := by omega
    have b4 : (0 : Int) ≤ p := by omega
    clear hup hpm hf hx hy hp2 hb ho hS hSv hl hbv hlq
    go_upto_region 0 with fail
    go_region_held3 (fun w' => w'.cell? ⟨L.b, 6, none⟩ = some (Value.slice (some ⟨g, 0, none⟩) hq.length cap) ∧ w'.cell? ⟨g, j * 4, none⟩ = some (Value.int .i64 x.due) ∧ w'.cell? ⟨g, j * 4 + 1, none⟩ = some (Value.int .i64 x.stamp) ∧ w'.cell? ⟨g, j * 4 + 2, none⟩ = some (Value.int .u64 x.id.hi) ∧ w'.cell? ⟨g, j * 4 + 3, none⟩ = some (Value.int .u64 x.id.lo) ∧ w'.cell? ⟨g, p * 4, none⟩ = some (Value.int .i64 y.due) ∧ w'.cell? ⟨g, p * 4 + 1, none⟩ = some (Value.int .i64 y.stamp) ∧ w'.cell? ⟨g, p * 4 + 2, none⟩ = some (Value.int .u64 y.id.hi) ∧ w'.cell? ⟨g, p * 4 + 3, none⟩ = some (Value.int .u64 y.id.lo))
      (first | exact ⟨c6, x0, x1, x2, x3, y0, y1, y2, y3⟩ | exact ⟨r6, a0, a1, a2, a3, e0, e1, e2, e3⟩ | go_keep)
      (first | (go_at_call 109; go_must (with_reducible refine (HBf.out _).mono ?_); rintro e w2 ⟨rfl, f2⟩; have hb2 := f2.blk (w := wr.drew) HBk.out (fun h => h); have ho2 := own_fr (w := wr.drew) HO.out f2 (fun _ _ h => h); have r6 := blk_cell hb2 6 (L.get _); have a := own_itm ho2 rfl HX.out; have e := own_itm ho2 rfl HY.out; obtain ⟨a0, a1, a2, a3⟩ := a; obtain ⟨e0, e1, e2, e3⟩ := e; have F2 := Lib.hid (HF.out.drew.then_ f2 (fun _ h => h.elim)); have Q2 := Lib.hid (HQ.out.fr (S2 := fun _ => False) ((Fr.refl _ wr).drew.then_ f2 (fun _ h => h.elim)) (fun _ _ h => h)); have HB2 := Lib.hid hb2; have HO2 := Lib.hid ho2; clear f2 hb2 ho2))
    cases bv with
    | false =>
      go_wp2_with fail
      go_end0
      exact ⟨rfl, hq, Q2.out, up_stop HUp.out (.inr fun u v hu hv => by rw [HX.out] at hu; rw [HPp.out, HY.out] at hv; cases hu; cases hv; exact of_decide_eq_false HBv.out), HP.out, F2.out⟩
    | true =>
      have z0 := HO2.out.frozenAt (j * 4); have z1 := HO2.out.frozenAt (j * 4 + 1); have z2 := HO2.out.frozenAt (j * 4 + 2); have z3 := HO2.out.frozenAt (j * 4 + 3)
      have y0 := HO2.out.frozenAt (p * 4); have y1 := HO2.out.frozenAt (p * 4 + 1); have y2 := HO2.out.frozenAt (p * 4 + 2); have y3 := HO2.out.frozenAt (p * 4 + 3)
      have HA := Lib.hid (iq_swap HB2.out Q2.out HX.out HY.out (by omega))
      clear c6 x0 x1 x2 x3
      go_upto_region 1 with fail
      go_region
      all_goals
        go_wp2_with fail
        go_roundw
        case rel =>
          refine ⟨swp hq j p x y, p, by go_num, by rw [swp_len]; have := HJ.out; omega, ?_, HPp.out ▸ up_step HUp.out hj0' HX.out (HPp.out ▸ HY.out) (of_decide_eq_true HBv.out), (swp_perm HX.out HY.out).trans HP.out, ?_⟩
          · first | exact HA.out.1.1.fr (S2 := fun _ => False) ((Fr.refl _ _).drew) (fun _ _ h => h) | exact HA.out.2.1.fr (S2 := fun _ => False) ((Fr.refl _ _).drew) (fun _ _ h => h)
          · first | exact (F2.out.then_ HA.out.1.2 (fun k hk => .inl hk)).drew | exact (F2.out.then_ HA.out.2.2 (fun k hk => .inl hk)).drew
        case measure => simp [intOf]; omega
end Go.Proofs.YtjchjpmgbmeohaaDoor

/- Package queue: down. -/
set_option linter.unusedSimpArgs false
set_option linter.unusedVariables false
namespace Go.Proofs.YtjchjpmgbmeohaaDoor
open Go.RowKit

/-- The least of one and of those below it that were looked at. -/
structure Least (hq : List Itm) (j c k : Nat) : Prop where
  lt : k < hq.length
  at_ : k = j ∨ (2 * j + 1 ≤ k ∧ k < c)
  st : k ≠ j → ∀ (u v : Itm), hq[j]? = some u → hq[k]? = some v → v.before u
  min : ∀ (m : Nat) (u v : Itm), (m = j ∨ (2 * j + 1 ≤ m ∧ m < c)) → hq[m]? = some u → hq[k]? = some v → ¬ u.before v
theorem least_start {hq : List Itm} {j : Nat} (h : j < hq.length) : Least hq j (2 * j + 1) j := ⟨h, .inl rfl, fun h => absurd rfl h, fun m u v hm hu hv => by
  obtain rfl : m = j := by omega
  rw [hu] at hv
  cases hv
  unfold Itm.before
  omega⟩
theorem least_next {hq : List Itm} {j c k : Nat} {u v : Itm} (h : Least hq j c k) (hc : 2 * j + 1 ≤ c) (hcl : c < hq.length) (hu : hq[c]? = some u) (hv : hq[k]? = some v) : Least hq j (c + 1) (if u.before v then c else k) := by
  by_cases hb : u.before v
  · rw [if_pos hb]
    refine ⟨hcl, .inr ⟨hc, by omega⟩, fun _ a b ha hb' => ?_, fun m a b hm ha hb' => ?_⟩
    · rw [hu] at hb'
      cases hb'
      by_cases e : k = j
      · subst e
        rw [hv] at ha
        cases ha
        exact hb
      · have := h.st e a v ha hv
        unfold Itm.before at *
        omega
    rw [hu] at hb'
    cases hb'
    by_cases e : m = c
    · subst e
      rw [hu] at ha
      cases ha
      unfold Itm.before
      omega
    · have := h.min m a v (by omega) ha hv
      exact nb_trans this (bf_asym hb)
  · rw [if_neg hb]
    refine ⟨h.lt, h.at_.imp id (fun h => ⟨h.1, by omega⟩), h.st, fun m a b hm ha hb' => ?_⟩
    by_cases e : m = c
    · subst e
      rw [hu] at ha
      rw [hv] at hb'
      cases ha; cases hb'
      exact hb
    · exact h.min m a b (by omega) ha hb'
set_option maxRecDepth 4000 in
set_option maxHeartbeats 6400000 in
theorem down_any (w : World) (S : Nat → Prop) (L : Bq 6) (hp : List Itm) (i : Nat) (h : IsQ w S L hp) (hi : i < hp.length) (hn : hp.length ≤ 100000) (hd : HeapDn hp i i) :
    Calls Tryd.prog 110 #[.pointer (some ⟨L.b, 6, none⟩), .int .i64 i] w fun e w' => e = .returned (.tuple #[]) ∧ ∃ hp', IsQ w' S L hp' ∧ HeapUp hp' i ∧ hp'.Perm hp ∧ Fr S w w' := by
  have HB := Lib.hid (fun W a b => before_any W a b)
  have H0 := Lib.hid h
  have HD0 := Lib.hid hd
  clear h hd
  go_enter Tryd.func110, Tryd.ntmps110
  go_wp2_with fail
  go_loopw [1] (fun iv wr => ∃ (hq : List Itm) (j : Nat), iv = .int .i64 j ∧ j < hq.length ∧ IsQ wr S L hq ∧ HeapDn hq i j ∧ hq.Perm hp ∧ Fr S w wr) (fun iv _ => ((hp.length : Int) - intOf iv).toNat)
  case atStart => exact ⟨hp, i, rfl, hi, H0.out, HD0.out, .refl _, Fr.refl _ _⟩
  case round =>
    obtain ⟨hq, j, rfl, hj, isq, hdn, hpm, hf⟩ := hrel
    have HQ := Lib.hid isq
    have HDn := Lib.hid hdn
    have HP := Lib.hid hpm
    have HF := Lib.hid hf
    have HJ := Lib.hid hj
    have hlq : hq.length = hp.length := hpm.length_eq
    have HLq := Lib.hid hlq
    have hn2 : hq.length ≤ 100000 := by omega
    have m1 : IntKind.i64.wrap (2 * (j : Int)) = 2 * j := IntWalk.i64_in _ (by omega)
    have m2 : IntKind.i64.wrap (2 * (j : Int) + 1) = 2 * j + 1 := IntWalk.i64_in _ (by omega)
    have m3 : IntKind.i64.wrap (2 * (j : Int) + 2) = 2 * j + 2 := IntWalk.i64_in _ (by omega)
    obtain ⟨wo, hwo⟩ : ∃ W : World, W = wr := ⟨_, rfl⟩
    subst hwo
    clear isq hdn hpm hf hlq
    go_wp2_with fail
    go_loopw [4, 5] (fun kv cv wr => ∃ k c : Nat, kv = .int .i64 k ∧ cv = .int .i64 c ∧ 2 * j + 1 ≤ c ∧ c ≤ 2 * j + 3 ∧ Least hq j c k ∧ Fr (fun _ => False) wo wr) (fun _ cv _ => ((2 * (j : Int) + 3) - intOf cv).toNat)
    case atStart => exact ⟨j, 2 * j + 1, rfl, by go_num, by omega, by omega, least_start HJ.out, Fr.refl _ _⟩
    case round =>
      obtain ⟨k, c, rfl, rfl, hc1, hc2, hle, hf⟩ := hrel
      have HF2 := Lib.hid hf
      have HLe := Lib.hid hle
      have HQ2 := Lib.hid (HQ.out.fr hf (fun _ _ h => h))
      obtain ⟨v, hb, ho, hS, hSv, hl⟩ := HQ2.out
      obtain ⟨g, cap, rfl⟩ := own_some ho (by have := HJ.out; omega)
      have HBk := Lib.hid hb
      have HO := Lib.hid ho
      have c6 := blk_cell hb 6 (L.get _)
      have hk := hle.lt
      have b1 : (k : Int) < hq.length := by omega
      have b2 : (0 : Int) ≤ k := by omega
      have b3 : (0 : Int) ≤ c := by omega
      have HK := Lib.hid hk
      have HC1 := Lib.hid hc1
      have HC2 := Lib.hid hc2
      by_cases hin : c ≤ 2 * j + 2 ∧ c < hq.length
      · obtain ⟨hc3, hc4⟩ := hin
        have HC4 := Lib.hid hc4
        have e1 : (c : Int) ≤ 2 * j + 2 := by omega
        have e2 : (c : Int) < hq.length := by omega
        have e3 : IntKind.i64.wrap ((c : Int) + 1) = c + 1 := IntWalk.i64_in _ (by omega)
        obtain ⟨x, hx⟩ : ∃ x, hq[c]? = some x := ⟨hq[c], List.getElem?_eq_getElem hc4⟩
        obtain ⟨y, hy⟩ : ∃ y, hq[k]? = some y := ⟨hq[k], List.getElem?_eq_getElem hk⟩
        have HX := Lib.hid hx
        have HY := Lib.hid hy
        obtain ⟨x0, x1, x2, x3⟩ := own_itm ho rfl hx
        obtain ⟨y0, y1, y2, y3⟩ := own_itm ho rfl hy
        have HBf := Lib.hid (fun W => before_any W x y)
        obtain ⟨bv, hbv⟩ : ∃ b, decide (x.before y) = b := ⟨_, rfl⟩
        rw [hbv] at HBf
        have HBv := Lib.hid hbv
        clear hf hle hx hy hb ho hS hSv hl hbv hc1 hc2 hk
        go_upto_region 4 with fail
        go_region_held3 (fun w' => w'.cell? ⟨L.b, 6, none⟩ = some (Value.slice (some ⟨g, 0, none⟩) hq.length cap) ∧ w'.cell? ⟨g, c * 4, none⟩ = some (Value.int .i64 x.due) ∧ w'.cell? ⟨g, c * 4 + 1, none⟩ = some (Value.int .i64 x.stamp) ∧ w'.cell? ⟨g, c * 4 + 2, none⟩ = some (Value.int .u64 x.id.hi) ∧ w'.cell? ⟨g, c * 4 + 3, none⟩ = some (Value.int .u64 x.id.lo) ∧ w'.cell? ⟨g, k * 4, none⟩ = some (Value.int .i64 y.due) ∧ w'.cell? ⟨g, k * 4 + 1, none⟩ = some (Value.int .i64 y.stamp) ∧ w'.cell? ⟨g, k * 4 + 2, none⟩ = some (Value.int .u64 y.id.hi) ∧ w'.cell? ⟨g, k * 4 + 3, none⟩ = some (Value.int .u64 y.id.lo))
          (first | exact ⟨c6, x0, x1, x2, x3, y0, y1, y2, y3⟩ | exact ⟨r6, a0, a1, a2, a3, q0, q1, q2, q3⟩ | go_keep)
          (first | (go_at_call 109; go_must (with_reducible refine (HBf.out _).mono ?_); rintro e w2 ⟨rfl, f2⟩; have hb2 := f2.blk (w := wr.drew) HBk.out (fun h => h); have ho2 := own_fr (w := wr.drew) HO.out f2 (fun _ _ h => h); have r6 := blk_cell hb2 6 (L.get _); have a := own_itm ho2 rfl HX.out; have q := own_itm ho2 rfl HY.out; obtain ⟨a0, a1, a2, a3⟩ := a; obtain ⟨q0, q1, q2, q3⟩ := q; have F2 := Lib.hid (HF2.out.drew.then_ f2 (fun _ h => h.elim)); clear f2 hb2 ho2))
        cases bv with
        | false =>
          go_wp2_with fail
          go_roundw
          case rel =>
            have hl := least_next HLe.out HC1.out HC4.out HX.out HY.out
            rw [if_neg (of_decide_eq_false HBv.out)] at hl
            exact ⟨k, c + 1, rfl, by go_num, by have := HC1.out; omega, by omega, hl, F2.out⟩
          case measure => simp [intOf]; omega
        | true =>
          go_wp2_with fail
          go_roundw
          case rel =>
            have hl := least_next HLe.out HC1.out HC4.out HX.out HY.out
            rw [if_pos (of_decide_eq_true HBv.out)] at hl
            exact ⟨c, c + 1, rfl, by go_num, by have := HC1.out; omega, by omega, hl, F2.out⟩
          case measure => simp [intOf]; omega
      have HOut := Lib.hid hin
      have hev : ((c : Int) ≤ 2 * j + 2 ∧ ¬ (c : Int) < hq.length) ∨ ¬ (c : Int) ≤ 2 * j + 2 := by omega
      by_cases hkj : k = j
      · subst hkj
        have HDone := Lib.hid (dn_stop HDn.out (fun m u v hm hmk hu hv => by
          have hml := (List.getElem?_eq_some_iff.1 hu).1
          have h1 := HC1.out
          have h2 := HOut.out
          exact HLe.out.min m u v (.inr (by omega)) hu hv))
        clear hf hle hb ho hS hSv hl hc1 hc2 hk hin
        rcases hev with ⟨e1, e2⟩ | e1
        · go_wp2_with fail
          (try simp only [Exit.inBlock, Exit.then])
          refine bodyPost_ret (results_none rfl _ _ _) rfl ?_
          exact ⟨rfl, hq, HQ2.out, HDone.out, HP.out, HF.out.then_ HF2.out (fun _ h => h.elim)⟩
        · go_wp2_with fail
          (try simp only [Exit.inBlock, Exit.then])
          refine bodyPost_ret (results_none rfl _ _ _) rfl ?_
          exact ⟨rfl, hq, HQ2.out, HDone.out, HP.out, HF.out.then_ HF2.out (fun _ h => h.elim)⟩
      · have hkI : ((k : Int) == j) = false := by simp; omega
        obtain ⟨x, hx⟩ : ∃ x, hq[j]? = some x := ⟨hq[j]'(HJ.out), List.getElem?_eq_getElem (HJ.out)⟩
        obtain ⟨y, hy⟩ : ∃ y, hq[k]? = some y := ⟨hq[k], List.getElem?_eq_getElem hk⟩
        have hat : 2 * j + 1 ≤ k ∧ k ≤ 2 * j + 2 := by have := hle.at_; omega
        have HStep := Lib.hid (dn_step (m := k) HDn.out (by omega) (by omega) hx hy (hle.st hkj x y hx hy) (fun m z hm hmj hz => by
          have hml := (List.getElem?_eq_some_iff.1 hz).1
          have h2 := HOut.out
          exact hle.min m z y (.inr (by omega)) hz hy))
        have HA := Lib.hid (iq_swap hb HQ2.out hx hy (by omega))
        have HPm := Lib.hid (swp_perm hx hy)
        have b4 : (j : Int) < hq.length := by have := HJ.out; omega
        have b5 : (0 : Int) ≤ j := by omega
        have hjk : j < k := by omega
        obtain ⟨x0, x1, x2, x3⟩ := own_itm ho rfl hx
        obtain ⟨y0, y1, y2, y3⟩ := own_itm ho rfl hy
        have z0 := HO.out.frozenAt (j * 4); have z1 := HO.out.frozenAt (j * 4 + 1); have z2 := HO.out.frozenAt (j * 4 + 2); have z3 := HO.out.frozenAt (j * 4 + 3)
        have u0 := HO.out.frozenAt (k * 4); have u1 := HO.out.frozenAt (k * 4 + 1); have u2 := HO.out.frozenAt (k * 4 + 2); have u3 := HO.out.frozenAt (k * 4 + 3)
        have HLt := Lib.hid hjk
        clear hf hle hb ho hS hSv hl hc1 hc2 hin hx hy hat hkj
        rcases hev with ⟨e1, e2⟩ | e1
        all_goals
          go_upto_region 7 with fail
          go_region
          all_goals
            go_wp2_with fail
            go_roundw
            case rel =>
              refine ⟨swp hq j k x y, k, by go_num, by rw [swp_len]; exact HK.out, ?_, HStep.out, HPm.out.trans HP.out, ?_⟩
              · first | exact HA.out.1.1.fr (S2 := fun _ => False) ((Fr.refl _ _).drew) (fun _ _ h => h) | exact HA.out.2.1.fr (S2 := fun _ => False) ((Fr.refl _ _).drew) (fun _ _ h => h)
              · first | exact ((HF.out.then_ HF2.out (fun _ h => h.elim)).then_ HA.out.1.2 (fun k hk => .inl hk)).drew | exact ((HF.out.then_ HF2.out (fun _ h => h.elim)).then_ HA.out.2.2 (fun k hk => .inl hk)).drew
            case measure => have := HLt.out; have := HK.out; have := HLq.out; simp [intOf]; omega
end Go.Proofs.YtjchjpmgbmeohaaDoor

/- Package queue: take. -/
set_option linter.unusedSimpArgs false
set_option linter.unusedVariables false
namespace Go.Proofs.YtjchjpmgbmeohaaDoor
open Go.RowKit

theorem flat_take {α : Type} {f : α → List Value} {n : Nat} (hf : ∀ x, (f x).length = n) : ∀ (l : List α) (k : Nat), (l.flatMap f).take (k * n) = (l.take k).flatMap f
  | [], k => by simp
  | x :: l, 0 => by simp
  | x :: l, k + 1 => by
    rw [List.flatMap_cons, List.take_succ_cons, List.flatMap_cons, Nat.succ_mul, Nat.add_comm, ← flat_take hf l k]
    have h := hf x
    rw [← h, List.take_length_add_append]
theorem heap_take {hp : List Itm} (h : Heap hp) (m : Nat) : Heap (hp.take m) := fun k x y h0 hx hy => by
  rw [List.getElem?_take] at hx hy
  split at hx
  · rw [if_pos (by omega)] at hy
    exact h k x y h0 hx hy
  · cases hx
theorem fill_last {hp : List Itm} {i : Nat} {z : Itm} (h : hp.length - 1 ≤ i) : fillL hp i z = hp.take (hp.length - 1) := by
  unfold fillL
  apply List.ext_getElem?
  intro k
  rw [List.getElem?_take, List.getElem?_take]
  split
  · rw [List.getElem?_set_ne (by omega)]
  · rfl
theorem fill_len {hp : List Itm} {i : Nat} {z : Itm} : (fillL hp i z).length = hp.length - 1 := by simp [fillL]
def TakePost (w : World) (S : Nat → Prop) (L : Bq 6) (hp : List Itm) (x : Itm) (e : Ending) (w' : World) : Prop :=
  e = .returned (.agg #[.int .i64 x.due, .int .i64 x.stamp, .int .u64 x.id.hi, .int .u64 x.id.lo]) ∧ ∃ hp', IsQ w' S L hp' ∧ Heap hp' ∧ (x :: hp').Perm hp ∧ Fr S w w'
set_option maxRecDepth 4000 in
set_option maxHeartbeats 6400000 in
theorem take_any (w : World) (S : Nat → Prop) (L : Bq 6) (hp : List Itm) (i : Nat) (x : Itm) (h : IsQ w S L hp) (hx : hp[i]? = some x) (hn : hp.length ≤ 100000) (hh : Heap hp) :
    Calls Tryd.prog 102 #[.pointer (some ⟨L.b, 6, none⟩), .int .i64 i] w (TakePost w S L hp x) := by
  have hi := (List.getElem?_eq_some_iff.1 hx).1
  obtain ⟨n, hnl⟩ : ∃ n, hp.length = n + 1 := ⟨hp.length - 1, by omega⟩
  obtain ⟨z, hz⟩ : ∃ z, hp[n]? = some z := ⟨hp[n]'(by omega), List.getElem?_eq_getElem (by omega)⟩
  have HX := Lib.hid hx
  have HZ := Lib.hid hz
  have HNl := Lib.hid hnl
  have HH := Lib.hid hh
  have HSlt := Lib.hid (show ∀ k, S k → k < w.heap.size from fun k hk => Rq.lt h hk)
  have HPm := Lib.hid (fill_perm (z := z) hx (by rw [show hp.length - 1 = n by omega]; exact hz))
  have H := Lib.hid h
  obtain ⟨v, hb, ho, hS, hSv, hl⟩ := h
  obtain ⟨g, cap, rfl⟩ := own_some ho (by omega)
  rw [hnl] at hb
  have HOw := Lib.hid ho
  have HB := Lib.hid hb
  have hcap : n + 1 ≤ cap := by
    obtain ⟨a', c', e', hc', -⟩ := own_form ho
    simp only [Value.slice.injEq] at e'
    omega
  have Hcap := Lib.hid hcap
  have c6 := blk_cell (blk_alloc hb (.cells #[.int .i64 0, .int .i64 0, .int .u64 0, .int .u64 0] 113)) 6 (L.get _)
  have ho1 := ho.alloc (.cells #[.int .i64 0, .int .i64 0, .int .u64 0, .int .u64 0] 113)
  obtain ⟨x0, x1, x2, x3⟩ := own_itm ho1 rfl hx
  have FA := Lib.hid ((Fr.refl (fun _ => False) w).alloc (.cells #[.int .i64 0, .int .i64 0, .int .u64 0, .int .u64 0] 113))
  have HHs := Lib.hid hS
  have HHsv := Lib.hid hSv
  have HHl := Lib.hid hl
  have b1 : (i : Int) < (n : Int) + 1 := by omega
  have b2 : (0 : Int) ≤ i := by omega
  have b3 : IntKind.i64.wrap ((n : Int) + 1 - 1) = n := by rw [IntWalk.i64_in _ (by omega)]; omega
  have b4 : ((n : Int) + 1 - 1) = n := by omega
  have b5 : IntKind.i64.wrap (n : Int) = n := IntWalk.i64_in _ (by omega)
  have hLlt := hl L.b hS
  have hglt := hl g (hSv g rfl).1
  clear hx hz hh hb ho ho1 hS hSv hl hcap
  go_enter Tryd.func102, Tryd.ntmps102
  go_upto_region 1 with fail
  go_cut [5, 6] from 7 (fun v5 v6 w' => v5 = .pointer (some ⟨w.heap.size + 1, 0, none⟩) ∧ v6 = .int .i64 n ∧ Fr (fun _ => False) w w' ∧ w'.heap[w.heap.size]? = some (.cells #[.int .i64 0, .int .i64 0, .int .u64 0, .int .u64 0] 113 (0, 0)) ∧ w'.heap[w.heap.size + 1]? = some (.cells #[.int .i64 x.due, .int .i64 x.stamp, .int .u64 x.id.hi, .int .u64 x.id.lo] 113 (0, 0)))
  case first =>
    go_region
    all_goals
      go_wp2_with fail
      go_meet
      refine ⟨by first | rfl | simp, by first | rfl | simp, (FA.out.drew.alloc _), ?_, ?_⟩
      · exact blk_alloc (w := (w.alloc _).drew) (heap_alloc_new w _) _
      · exact blk1 w _ _
  case rest =>
  obtain ⟨rfl, rfl, fc, bz, bx⟩ := hcut
  have Fc := Lib.hid fc
  have Bz := Lib.hid bz
  have Bx := Lib.hid bx
  clear fc bz bx x0 x1 x2 x3 c6
  have HQc := Lib.hid (H.out.fr Fc.out (fun _ _ h => h))
  have HBc := Lib.hid (Fc.out.blk HB.out (fun h => h))
  have HOc := Lib.hid (own_fr HOw.out Fc.out (fun _ _ h => h))
  go_upto_region 2 with fail
  go_cut [] from 20 (fun w' => w'.heap[L.b]? = some (.cells (L.row (.slice (some ⟨g, 0, none⟩) (n + 1) cap)) 100 (0, 0)) ∧ w'.ownsRow 0 113 4 (.slice (some ⟨g, 0, none⟩) (n + 1) cap) (n + 1) (its (hp.set i z)) ∧ Fr (fun k => k = g) wc w')
  case first =>
    have c6 := blk_cell HBc.out 6 (L.get _)
    have hoc := HOc.out
    rw [HNl.out] at hoc
    obtain ⟨z0, z1, z2, z3⟩ := own_itm hoc HNl.out HZ.out
    obtain ⟨x0, x1, x2, x3⟩ := own_itm hoc HNl.out HX.out
    have f0 := hoc.frozenAt (i * 4); have f1 := hoc.frozenAt (i * 4 + 1); have f2 := hoc.frozenAt (i * 4 + 2); have f3 := hoc.frozenAt (i * 4 + 3)
    have HSt := Lib.hid (own_flat (f := Itm.cells) (sz := 4) (l := hp) (p := i) (fun _ => rfl) hoc hi z)
    have HFs := Lib.hid (setCells_fr g z.cells (i * 4) wc)
    have b6 : (n : Int) < (n : Int) + 1 := by omega
    have b7 : (0 : Int) ≤ n := by omega
    clear hoc
    go_region
    all_goals
      go_wp2_with fail
      go_meet
      exact ⟨(HFs.out.blk HBc.out (fun e => (HHsv.out g rfl).2 e.symm)), HSt.out, HFs.out.drew⟩
  case rest =>
  obtain ⟨hb2, ho2, f2⟩ := hcut
  have HB2 := Lib.hid hb2
  have Hne : ∀ k, k = g → S k := fun k hk => by rw [hk]; exact (HHsv.out g rfl).1
  have F2 := Lib.hid ((Fc.out.mono (fun _ h => h.elim)).then_ (f2.mono Hne) (fun k hk => .inl hk) : Fr S w wc)
  have Bz2 := Lib.hid (f2.blk Bz.out (fun e => by have := HSlt.out _ (Hne _ e); omega))
  have Bx2 := Lib.hid (f2.blk Bx.out (fun e => by have := HSlt.out _ (Hne _ e); omega))
  have hl2 : ∀ k, S k → k < wc.heap.size := fun k hk => Nat.lt_of_lt_of_le (HSlt.out k hk) F2.out.size
  have HCut := Lib.hid (rq_cut (m := n) hb2 ho2 HHs.out HHsv.out hl2 rfl (Nat.le_succ n))
  have hft := flat_take (f := Itm.cells) (n := 4) (fun _ => rfl) (hp.set i z) n
  have HQf := Lib.hid (show IsQ (wc.setCell ⟨L.b, 6, none⟩ (.slice (some ⟨g, 0, none⟩) n cap)) S L (fillL hp i z) from by
    have h := HCut.out.1
    rw [show (its (hp.set i z)).take (n * 4) = its ((hp.set i z).take n) from hft] at h
    unfold IsQ fillL
    rw [HNl.out, Nat.add_sub_cancel, show ((hp.set i z).take n).length = n from by rw [List.length_take, List.length_set, HNl.out]; omega]
    exact h)
  have FF := Lib.hid (F2.out.then_ HCut.out.2 (fun k hk => .inl hk))
  have Bz3 := Lib.hid (HCut.out.2.blk Bz2.out (fun e => by have := HSlt.out _ e; omega))
  have Bx3 := Lib.hid (HCut.out.2.blk Bx2.out (fun e => by have := HSlt.out _ e; omega))
  have c6 := blk_cell hb2 6 (L.get _)
  have f6 := blk_free hb2 6
  have b8 : n ≤ cap := by have := Hcap.out; omega
  have b9 : (n : Int) ≤ cap := by omega
  have b7 : (0 : Int) ≤ n := by omega
  obtain ⟨W3, hW3⟩ : ∃ W, wc.setCell ⟨L.b, 6, none⟩ (.slice (some ⟨g, 0, none⟩) n cap) = W := ⟨_, rfl⟩
  rw [hW3] at HQf FF Bz3 Bx3
  clear hb2 ho2 f2 hft HCut hl2
  by_cases hlast : i < n
  · have b10 : (i : Int) < n := by omega
    have HDn := Lib.hid (down_any W3 S L (fillL hp i z) i HQf.out (by rw [fill_len, HNl.out]; omega) (by rw [fill_len]; omega) (fill_dn HH.out (by rw [HNl.out]; omega)))
    go_upto_region 4 with fail
    (try rw [hW3])
    clear hW3 c6 f6
    go_wp2_with fail
    refine HDn.out.mono ?_
    rintro e w4 ⟨rfl, h4, q4, u4, p4, f4⟩
    have hl4 := p4.length_eq
    rw [fill_len, HNl.out] at hl4
    have HUp := Lib.hid (up_any w4 S L h4 i q4 (by omega) (by omega) u4)
    have P4 := Lib.hid p4
    have F4 := Lib.hid (FF.out.then_ f4 (fun k hk => .inl hk))
    have Bz4 := Lib.hid (f4.blk Bz3.out (fun e => by have := HSlt.out _ e; omega))
    have Bx4 := Lib.hid (f4.blk Bx3.out (fun e => by have := HSlt.out _ e; omega))
    clear q4 u4 p4 f4 hl4
    go_wp2_with fail
    refine HUp.out.mono ?_
    rintro e w5 ⟨rfl, h5, q5, u5, p5, f5⟩
    have F5 := Lib.hid (F4.out.then_ f5 (fun k hk => .inl hk))
    have Bz5 := Lib.hid (f5.blk Bz4.out (fun e => by have := HSlt.out _ e; omega))
    have bx5 := f5.blk Bx4.out (fun e => by have := HSlt.out _ e; omega)
    have Q5 := Lib.hid q5; have U5 := Lib.hid u5; have P5 := Lib.hid ((p5.trans P4.out).cons x |>.trans HPm.out)
    have x0 := blk_cell bx5 0 rfl; have x1 := blk_cell bx5 1 rfl; have x2 := blk_cell bx5 2 rfl; have x3 := blk_cell bx5 3 rfl
    clear q5 u5 p5 f5 bx5
    go_wp2_with (first | ((refine wpList_store_row rfl 113 (.tmp 4) (.tmp 51) rfl w.heap.size #[.int .i64 x.due, .int .i64 x.stamp, .int .u64 x.id.hi, .int .u64 x.id.lo] rfl rfl Bz5.out rfl rfl (by simp [Value.oneCell']) ?_); intro w9 hb9 f9; have HB9 := Lib.hid hb9; have F9 := Lib.hid f9; clear hb9 f9) | fail)
    refine bodyPost_ret (results_cell1 (p := 4) rfl _ _ w.heap.size 113 _ (0, 0) _ rfl HB9.out Tryd.underlying113 rfl rfl) rfl ?_
    exact ⟨rfl, h5, Q5.out.fr F9.out (fun k hk e => by have := HSlt.out k hk; omega), U5.out, P5.out, F5.out.then_ F9.out (fun k hk => .inr (by omega))⟩
  · have b10 : ¬ (i : Int) < n := by omega
    have HHp := Lib.hid (show Heap (fillL hp i z) from by rw [fill_last (by rw [HNl.out]; omega)]; exact heap_take HH.out _)
    have bx5 := Bx3.out
    have Bz5 := Bz3
    have x0 := blk_cell bx5 0 rfl; have x1 := blk_cell bx5 1 rfl; have x2 := blk_cell bx5 2 rfl; have x3 := blk_cell bx5 3 rfl
    go_upto_region 4 with fail
    (try rw [hW3])
    clear hW3 c6 f6 bx5
    go_wp2_with (first | ((refine wpList_store_row rfl 113 (.tmp 4) (.tmp 51) rfl w.heap.size #[.int .i64 x.due, .int .i64 x.stamp, .int .u64 x.id.hi, .int .u64 x.id.lo] rfl rfl Bz5.out rfl rfl (by simp [Value.oneCell']) ?_); intro w9 hb9 f9; have HB9 := Lib.hid hb9; have F9 := Lib.hid f9; clear hb9 f9) | fail)
    refine bodyPost_ret (results_cell1 (p := 4) rfl _ _ w.heap.size 113 _ (0, 0) _ rfl HB9.out Tryd.underlying113 rfl rfl) rfl ?_
    exact ⟨rfl, _, HQf.out.fr F9.out (fun k hk e => by have := HSlt.out k hk; omega), HHp.out, HPm.out, FF.out.then_ F9.out (fun k hk => .inr (by omega))⟩
end Go.Proofs.YtjchjpmgbmeohaaDoor
