/- The document's Range: the walk. -/
import Derived.Test.YtjegnhcpepkpoaaOrdB
import Derived.Laws.MakeOwn
namespace Go.Proofs.Ytjegnhcpepkpoaa
open Go.RowKit

theorem Try.infoBool : (Try.prog.info? 4).map (fun i => (i.zero, i.size, i.bytes)) = some (some (.bool false), 1, 1) := by kernel_rfl
def bools (ds : List Bool) : Array Value := (ds.map Value.bool).toArray
theorem bools_get {ds : List Bool} {j : Nat} {d : Bool} (h : ds[j]? = some d) : (bools ds)[j]? = some (.bool d) := by simp [bools, h]
theorem bools_set {ds : List Bool} {j : Nat} (d : Bool) : (bools ds).setIfInBounds j (.bool d) = bools (ds.set j d) := by simp [bools, List.map_set]
theorem made_bools (n : Nat) : madeCells #[Value.bool false] n = bools (List.replicate n false) := by
  apply Array.ext
  · simp [madeCells, bools]
  · intro i h1 h2
    simp [madeCells, bools, Nat.mod_one]
def bestI : Option Nat → Int
  | none => -1
  | some b => b
theorem own_int {w : World} {g n cap : Nat} {xs : List Int} (h : w.ownsRow 0 3 1 (.slice (some ⟨g, 0, none⟩) n cap) n (ints xs)) {i : Nat} (hi : i < xs.length) (hn : xs.length = n) :
    w.cell? ⟨g, i, none⟩ = some (.int .i64 xs[i]) := by
  rw [h.cellAt i (by omega)]; simp [ints, hi]
theorem cand_iff {ss : List Int} {T : List Pr} {fm t2 : Int} {k j : Nat} (hj : j < ss.length) {d : Bool} (hd : (dn ss T k)[j]? = some d) : Cand ss (dn ss T k) fm t2 j ↔ d = false ∧ inR fm t2 ss[j] := by
  unfold Cand
  rw [hd]
  constructor
  · rintro ⟨_, h1, h2⟩; exact ⟨Option.some.inj h1, h2⟩
  · rintro ⟨h1, h2⟩; exact ⟨hj, by rw [h1], h2⟩

set_option maxRecDepth 4000 in
set_option maxHeartbeats 6400000 in
theorem mrange_any (w : World) (S : Nat → Prop) (M : Nat) (ss aa : List Int) (fm t2 : Int) (fl : Bool) (T : List Pr) (h : IsM w S M ss aa) (hsa : ss.length = aa.length) (hn : ss.length ≤ 1000) (hnd : ss.Nodup)
    (hp : T.Pairwise (fun p q => bef fl p.1 q.1 = true)) (hT : ∀ p, p ∈ T ↔ p ∈ ss.zip aa ∧ inR fm t2 p.1) (hTl : T.length ≤ ss.length) :
    Calls Try.prog 10 #[.pointer (some ⟨M, 0, none⟩), .int .i64 fm, .int .i64 t2, .bool fl] w fun e w' => ∃ v1 v2, e = .returned (.tuple #[v1, v2]) ∧
      w'.ownsRow 0 3 1 v1 T.length (ints (T.map (·.1))) ∧ w'.ownsRow 0 3 1 v2 T.length (ints (T.map (·.2))) ∧ Fr (fun _ => False) w w' := by
  obtain ⟨i0, hi0, hz0, hz1, hz2⟩ := info_parts Try.infoInt
  obtain ⟨ib, hib, hbz0, hbz1, hbz2⟩ := info_parts Try.infoBool
  have H := Lib.hid h
  have HMl := Lib.hid (h.lt (k := M) (by obtain ⟨_, _, _, _, _, hS, _⟩ := h; exact hS))
  obtain ⟨v1, v2, hb, o1, o2, -, -, -, -, -⟩ := h
  obtain ⟨a1, c1, rfl, -, -⟩ := own_form o1
  obtain ⟨a2, c2, rfl, -, -⟩ := own_form o2
  have Hb := Lib.hid hb
  obtain ⟨n, hnn⟩ : ∃ n, ss.length = n := ⟨_, rfl⟩
  have HN := Lib.hid hnn
  have HNa := Lib.hid (hsa.symm.trans hnn)
  have HSA := Lib.hid hsa
  rw [hnn] at o1
  rw [← hsa, hnn] at o2
  have O1 := Lib.hid o1
  have O2 := Lib.hid o2
  have HND := Lib.hid hnd
  have HP := Lib.hid hp
  have HT := Lib.hid hT
  have HTl := Lib.hid hTl
  rw [hnn] at hn
  have m0 := blk_cell hb 0 rfl
  have m1 := blk_cell hb 1 rfl
  rw [hnn] at m0
  rw [← hsa, hnn] at m1
  have hmk : ∀ w : World, (Instr.makeSlice 47 (.int .i64 n) (.int .i64 n)).run Try.prog w = .ok (.slice (some ⟨w.heap.size, 0, none⟩) n n) (w.alloc (.cells (bools (List.replicate n false)) 4)) := fun w => by
    have h := run_make (P := Try.prog) w 47 4 ib (.bool false) Try.underlying47 hib hbz0 .i64 .i64 n n (by omega) (Int.le_refl _) (by rw [hbz2]; omega) (by omega)
    rw [hbz1] at h
    simpa [Value.cells, made_bools] using h
  have HBk := Lib.hid (heap_alloc_new w (.cells (bools (List.replicate n false)) 4))
  have FA := Lib.hid ((Fr.refl (fun _ => False) w).alloc (.cells (bools (List.replicate n false)) 4))
  have m0' := FA.out.cell m0 (fun h => h)
  have Hd0 := Lib.hid (show dn ss T 0 = List.replicate n false from by rw [dn_zero, hnn])
  clear hb o1 o2 hsa hnn hnd hp hT hTl
  go_enter Try.func10, Try.ntmps10
  go_wp2_with fail
  have HBk0 := Lib.hid (show (w.alloc (.cells (bools (List.replicate n false)) 4)).heap[w.heap.size]? = some (.cells (bools (dn ss T 0)) 4 (0, 0)) from Hd0.out ▸ HBk.out)
  obtain ⟨B, hB⟩ : ∃ B, w.heap.size = B := ⟨_, rfl⟩
  have HwB := Lib.hid hB
  rw [hB] at HBk0 HMl ⊢
  clear hB HBk m0'
  go_loopw [27, 10, 11] (fun i u1 u2 wr => ∃ k : Nat, k ≤ T.length ∧ k ≤ n ∧ i = .int .i64 k ∧ wr.ownsRow 0 3 1 u1 k (ints ((T.take k).map (·.1))) ∧ wr.ownsRow 0 3 1 u2 k (ints ((T.take k).map (·.2))) ∧
      (∀ m, u1.ownBlock = some m → B < m ∧ ¬ u2.ownBlock = some m) ∧ (∀ m, u2.ownBlock = some m → B < m) ∧ wr.heap[B]? = some (.cells (bools (dn ss T k)) 4 (0, 0)) ∧ Fr (fun _ => False) w wr) (fun i _ _ _ => ((n : Int) - intOf i).toNat)
  case atStart => exact ⟨0, Nat.zero_le _, Nat.zero_le _, rfl, World.ownsRow_nil _ _ _ _, World.ownsRow_nil _ _ _ _, fun k hk => by simp [Value.ownBlock] at hk, fun k hk => by simp [Value.ownBlock] at hk, HBk0.out, FA.out⟩
  case round =>
    obtain ⟨k, hkT, hkn, rfl, o3, o4, hd1, hd2, hbk, hf⟩ := hrel
    have HO3 := Lib.hid o3
    have HO4 := Lib.hid o4
    have HD1 := Lib.hid hd1
    have HD2 := Lib.hid hd2
    have HBk := Lib.hid hbk
    have HF := Lib.hid hf
    have hbr := hf.blk Hb.out (fun h => h)
    have c0 := blk_cell hbr 0 rfl
    have c1 := blk_cell hbr 1 rfl
    rw [HN.out] at c0
    rw [HNa.out] at c1
    have HO1 := Lib.hid (own_fr O1.out hf (fun _ _ h => h))
    have HO2 := Lib.hid (own_fr O2.out hf (fun _ _ h => h))
    clear o3 o4 hd1 hd2 hbk hf hbr
    by_cases hlt : k < n
    · have hltI : (k : Int) < n := by omega
      go_wp2_with fail
      go_loopw [34, 13] (fun i b w' => ∃ j : Nat, j ≤ n ∧ i = .int .i64 j ∧ ∃ bo, b = .int .i64 (bestI bo) ∧ Best ss (dn ss T k) fm t2 fl j bo ∧ w' = wr) (fun i _ _ => ((n : Int) - intOf i).toNat)
      case atStart => exact ⟨0, Nat.zero_le _, rfl, none, rfl, best_zero, rfl⟩
      case round =>
        obtain ⟨j, hj, rfl, bo, rfl, hbest, rfl⟩ := hrel
        have HBe := Lib.hid hbest
        clear hbest
        by_cases hjn : j < n
        · have hjnI : (j : Int) < n := by omega
          have hjs : j < ss.length := by rw [HN.out]; exact hjn
          obtain ⟨g1, cc1, e1⟩ := own_some HO1.out (by omega)
          simp only [Value.slice.injEq] at e1
          obtain ⟨rfl, -, rfl⟩ := e1
          have s0 := own_int HO1.out hjs HN.out
          have hdg := dn_get (ss := ss) (T := T) (k := k) hjs
          have HDg := Lib.hid hdg
          have b0 := blk_cell HBk.out j (bools_get hdg)
          obtain ⟨d, hde⟩ : ∃ d, decide (ss[j] ∈ (T.take k).map (·.1)) = d := ⟨_, rfl⟩
          obtain ⟨x, hx⟩ : ∃ x, ss[j] = x := ⟨_, rfl⟩
          rw [hde] at b0 HDg
          rw [hx] at s0
          have HX := Lib.hid hx
          have w1 : IntKind.i64.wrap ((j : Int) + 1) = j + 1 := IntWalk.i64_in _ (by omega)
          have HC := Lib.hid (cand_iff (fm := fm) (t2 := t2) hjs HDg.out)
          rw [hx] at HC
          clear hx hde hdg
          have hways : d = true ∨ (d = false ∧ x < fm) ∨ (d = false ∧ ¬ x < fm ∧ (t2 != 0) = true ∧ t2 < x) ∨ (d = false ∧ ¬ x < fm ∧ ((t2 != 0) = false ∨ ((t2 != 0) = true ∧ ¬ t2 < x))) := by
            cases d
            · by_cases h1 : x < fm
              · exact .inr (.inl ⟨rfl, h1⟩)
              · cases h2 : (t2 != 0)
                · exact .inr (.inr (.inr ⟨rfl, h1, .inl rfl⟩))
                · by_cases h3 : t2 < x
                  · exact .inr (.inr (.inl ⟨rfl, h1, rfl, h3⟩))
                  · exact .inr (.inr (.inr ⟨rfl, h1, .inr ⟨rfl, h3⟩⟩))
            · exact .inl rfl
          rcases hways with rfl | ⟨rfl, h1⟩ | ⟨rfl, h1, h2, h3⟩ | ⟨rfl, h1, h23⟩
          · go_wp2_with fail
            go_roundw
            case rel => exact ⟨j + 1, by omega, by go_num, bo, rfl, best_skip HBe.out (fun hc => by have := (HC.out.1 hc).1; cases this), trivial⟩
            case measure => simp [intOf]; omega
          · go_wp2_with fail
            go_roundw
            case rel => exact ⟨j + 1, by omega, by go_num, bo, rfl, best_skip HBe.out (fun hc => by have := (HC.out.1 hc).2.1; omega), trivial⟩
            case measure => simp [intOf]; omega
          · go_wp2_with fail
            go_roundw
            case rel => exact ⟨j + 1, by omega, by go_num, bo, rfl, best_skip HBe.out (fun hc => by have h5 := (HC.out.1 hc).2.2; simp at h2; omega), trivial⟩
            case measure => simp [intOf]; omega
          · have HCa := Lib.hid (HC.out.2 ⟨rfl, by omega, by
              rcases h23 with h | ⟨_, h⟩
              · exact .inl (by simpa using h)
              · exact .inr (by omega)⟩)
            cases bo with
            | none =>
              have hbi : bestI none = -1 := rfl
              have HR := Lib.hid (best_first HBe.out HCa.out)
              rw [hbi]
              rcases h23 with h2 | ⟨h2, h3⟩
              all_goals
                go_wp2_with fail
                go_roundw
                case rel => exact ⟨j + 1, by omega, by go_num, some j, rfl, HR.out, trivial⟩
                case measure => simp [intOf]; omega
            | some b =>
              have hbi : bestI (some b) = b := rfl
              have hbj : b < n := by have := HBe.out.1; omega
              have hbs : b < ss.length := by rw [HN.out]; exact hbj
              have s1 := own_int HO1.out hbs HN.out
              obtain ⟨y, hy⟩ : ∃ y, ss[b] = y := ⟨_, rfl⟩
              rw [hy] at s1
              have HXg := Lib.hid (show ss[j]? = some x from by rw [List.getElem?_eq_getElem hjs, HX.out])
              have HYg := Lib.hid (show ss[b]? = some y from by rw [List.getElem?_eq_getElem hbs, hy])
              have hbI : (b : Int) < n := by omega
              have hb0 : ¬ (b : Int) < 0 := by omega
              rw [hbi]
              clear hy hbi
              cases fl
              · by_cases h4 : x < y
                · have HR := Lib.hid (best_take HBe.out HCa.out HXg.out HYg.out (by simpa [bef] using h4))
                  rcases h23 with h2 | ⟨h2, h3⟩
                  all_goals
                    go_wp2_with fail
                    go_roundw
                    case rel => exact ⟨j + 1, by omega, by go_num, some j, rfl, HR.out, trivial⟩
                    case measure => simp [intOf]; omega
                · have HR := Lib.hid (best_keep HBe.out HXg.out HYg.out (by simpa [bef] using h4))
                  rcases h23 with h2 | ⟨h2, h3⟩
                  all_goals
                    go_wp2_with fail
                    go_roundw
                    case rel => exact ⟨j + 1, by omega, by go_num, some b, rfl, HR.out, trivial⟩
                    case measure => simp [intOf]; omega
              · by_cases h4 : y < x
                · have HR := Lib.hid (best_take HBe.out HCa.out HXg.out HYg.out (by simpa [bef] using h4))
                  rcases h23 with h2 | ⟨h2, h3⟩
                  all_goals
                    go_wp2_with fail
                    go_roundw
                    case rel => exact ⟨j + 1, by omega, by go_num, some j, rfl, HR.out, trivial⟩
                    case measure => simp [intOf]; omega
                · have HR := Lib.hid (best_keep HBe.out HXg.out HYg.out (by simpa [bef] using h4))
                  rcases h23 with h2 | ⟨h2, h3⟩
                  all_goals
                    go_wp2_with fail
                    go_roundw
                    case rel => exact ⟨j + 1, by omega, by go_num, some b, rfl, HR.out, trivial⟩
                    case measure => simp [intOf]; omega
        · have hjnI : ¬ (j : Int) < n := by omega
          have HBn := Lib.hid (show Best ss (dn ss T k) fm t2 fl ss.length bo from by have e : j = ss.length := by have := HN.out; omega
                                                                                      exact e ▸ HBe.out)
          cases bo with
          | none =>
            have hbi : bestI none = -1 := rfl
            rw [hbi]
            have HK := Lib.hid (pick_none HSA.out HP.out HT.out hkT HBn.out)
            go_wp2_with fail
            go_ret2
            refine ⟨u10, u11, rfl, ?_, ?_, HF.out⟩
            · have h := HO3.out; rw [HK.out, List.take_length] at h; simpa [ints, List.map_map] using h
            · have h := HO4.out; rw [HK.out, List.take_length] at h; simpa [ints, List.map_map] using h
          | some b =>
            have hbi : bestI (some b) = b := rfl
            rw [hbi]
            clear hbi
            obtain ⟨hbs, hba, hkl, hTk⟩ := pick_some HSA.out HP.out HT.out HBn.out
            have hb0 : ¬ (b : Int) < 0 := by omega
            have hbn : b < n := by have := HN.out; omega
            have hbI : (b : Int) < n := by omega
            obtain ⟨g1, cc1, e1⟩ := own_some HO1.out (by omega)
            simp only [Value.slice.injEq] at e1
            obtain ⟨rfl, -, rfl⟩ := e1
            obtain ⟨g2, cc2, e2⟩ := own_some HO2.out (by omega)
            simp only [Value.slice.injEq] at e2
            obtain ⟨rfl, -, rfl⟩ := e2
            obtain ⟨x, hx⟩ : ∃ x, ss[b] = x := ⟨_, rfl⟩
            obtain ⟨y, hy⟩ : ∃ y, aa[b] = y := ⟨_, rfl⟩
            have hkn1 : k < n := hlt
            have HS1 := Lib.hid (show (T.take (k + 1)).map (·.1) = (T.take k).map (·.1) ++ [x] from by rw [List.take_succ_eq_append_getElem hkl, List.map_append, hTk, ← hx]; rfl)
            have HS2 := Lib.hid (show (T.take (k + 1)).map (·.2) = (T.take k).map (·.2) ++ [y] from by rw [List.take_succ_eq_append_getElem hkl, List.map_append, hTk, ← hy]; rfl)
            have HDn := Lib.hid (dn_succ HND.out hbs hkl (by rw [hTk]))
            have hgb1 : g1 < B := by have := own_lt O1.out (k := g1) rfl; have := HwB.out; omega
            have hgb2 : g2 < B := by have := own_lt O2.out (k := g2) rfl; have := HwB.out; omega
            have FB := Lib.hid ((Fr.refl (fun k => k = B) wr).setCell (p := ⟨B, b, none⟩) (.inl rfl) (.bool true))
            have fB := blk_free HBk.out b
            have bB := blk_cell HBk.out b (bools_get (dn_get (ss := ss) (T := T) (k := k) hbs))
            obtain ⟨dd, hdd⟩ : ∃ dd, decide (ss[b] ∈ (T.take k).map (·.1)) = dd := ⟨_, rfl⟩
            rw [hdd] at bB
            have hMB : M < B := HMl.out
            have Hb1 := Lib.hid (FB.out.blk (HF.out.blk Hb.out (fun h => h)) (fun h => by have h : M = B := h; omega))
            have c0s := blk_cell Hb1.out 0 rfl
            rw [HN.out] at c0s
            have o1s := own_fr HO1.out FB.out (fun k hk h => by have h : k = B := h; have hk : g1 = k := Option.some.inj hk; omega)
            have s0 := own_int o1s hbs HN.out
            have O2s := Lib.hid (own_fr HO2.out FB.out (fun k hk h => by have h : k = B := h; have hk : g2 = k := Option.some.inj hk; omega))
            have O3s := Lib.hid (own_fr HO3.out FB.out (fun m hm h => by have h : m = B := h; have := (HD1.out m hm).1; omega))
            have O4s := Lib.hid (own_fr HO4.out FB.out (fun m hm h => by have h : m = B := h; have := HD2.out m hm; omega))
            rw [hx] at s0
            have HY := Lib.hid hy
            have HBa := Lib.hid hba
            have Hsr := Lib.hid (show B < wr.heap.size from blk_lt HBk.out)
            have HSz := Lib.hid (show (wr.setCell ⟨B, b, none⟩ (.bool true)).heap.size = wr.heap.size from by simp [World.setCell])
            clear c0 c1 hx hy hdd o1s hTk
            go_wp2_with (first
              | (at_builtin; (refine wpList_append_fresh _ (wr.setCell ⟨B, b, none⟩ (.bool true)) rfl (.tmp 95) (.tmp 103) 29 rfl 3 i0 (.int .i64 0) 1 8 Try.underlying29 hi0 hz0 hz1 hz2 rfl (by decide) u10 k _ rfl O3s.out #[.int .i64 x] rfl (by rw [HSz.out]; rfl) rfl (by intro u hu; simp at hu; subst hu; rfl) (by omega) (by omega) ?_); intro g3 cap3 w3 hown3 hf3 hat3; have HOWN3 := Lib.hid hown3; have HF3 := Lib.hid hf3; have HAT3 := Lib.hid hat3; have c1s := blk_cell (hf3.blk (blk_alloc Hb1.out _) (fun h => by have := (HD1.out M h).1; omega)) 1 rfl; rw [HNa.out] at c1s; have O23 := Lib.hid (own_fr (own_fr O2s.out ((Fr.refl (fun _ => False) (wr.setCell ⟨B, b, none⟩ (.bool true))).alloc (.cells #[.int .i64 x] 3)) (fun _ _ h => h)) hf3 (fun k hk h => by have := (HD1.out k h).1; have hk : g2 = k := Option.some.inj hk; omega)); have s2 := own_int O23.out HBa.out HNa.out; rw [HY.out] at s2; clear hown3 hf3 hat3)
              | (at_builtin; go_must (refine wpList_append_fresh _ w3 rfl (.tmp 105) (.tmp 113) 29 rfl 3 i0 (.int .i64 0) 1 8 Try.underlying29 hi0 hz0 hz1 hz2 rfl (by decide) u11 k _ rfl (own_fr (own_fr O4s.out ((Fr.refl (fun _ => False) (wr.setCell ⟨B, b, none⟩ (.bool true))).alloc (.cells #[.int .i64 x] 3)) (fun _ _ h => h)) HF3.out (fun m hm h => (HD1.out m h).2 hm)) #[.int .i64 y] rfl rfl rfl (by intro u hu; simp at hu; subst hu; rfl) (by omega) (by omega) ?_); intro g4 cap4 w4 hown4 hf4 hat4; have HOWN4 := Lib.hid hown4; have HF4 := Lib.hid hf4; have HAT4 := Lib.hid hat4; clear hown4 hf4 hat4))
            have hs3 : wr.heap.size + 1 ≤ w3.heap.size := by
              have h1 := HF3.out.size
              have h2 : ((wr.setCell ⟨B, b, none⟩ (.bool true)).alloc (.cells #[.int .i64 x] 3)).heap.size = (wr.setCell ⟨B, b, none⟩ (.bool true)).heap.size + 1 := Array.size_push ..
              have h3 := HSz.out
              omega
            have HS3 := Lib.hid hs3
            have F03 := Lib.hid (show Fr (fun _ => False) w w3 from ((HF.out.setNew (by have := HwB.out; omega) _).alloc _).then_ HF3.out (fun m hm => .inr (by have := (HD1.out m hm).1; have := HwB.out; omega)))
            have F34 := Lib.hid (((Fr.refl (fun _ => False) w3).alloc (.cells #[.int .i64 y] 3)))
            have F3t := Lib.hid (show Fr (fun k => u11.ownBlock = some k) w3 w4 from (F34.out.mono (fun _ h => h.elim)).then_ HF4.out (fun m hm => .inl hm))
            have H3o : ∀ m, (Value.slice (some ⟨g3, 0, none⟩) (k + 1) cap3).ownBlock = some m → B < m ∧ m < w3.heap.size ∧ ¬ u11.ownBlock = some m := fun m hm => by
              have hl := own_lt HOWN3.out hm
              rcases HAT3.out m hm with h | h
              · exact ⟨(HD1.out m h).1, hl, (HD1.out m h).2⟩
              · have h2 : ((wr.setCell ⟨B, b, none⟩ (.bool true)).alloc (.cells #[.int .i64 x] 3)).heap.size = (wr.setCell ⟨B, b, none⟩ (.bool true)).heap.size + 1 := Array.size_push ..
                have h3 := HSz.out
                have h4 := Hsr.out
                refine ⟨by omega, hl, fun h4 => ?_⟩
                have := own_lt HO4.out h4
                omega
            go_roundw
            case rel =>
              refine ⟨k + 1, by omega, by omega, by go_num, ?_, ?_, fun m hm => ⟨(H3o m hm).1, fun h4 => ?_⟩, fun m hm => ?_, ?_, ?_⟩
              · rw [HS1.out]
                have h := own_fr HOWN3.out F3t.out (fun m hm h => (H3o m hm).2.2 h)
                simpa [ints] using h
              · rw [HS2.out]
                have h := HOWN4.out
                simpa [ints] using h
              · rcases HAT4.out m h4 with h | h
                · exact (H3o m hm).2.2 h
                · have h2 : (w3.alloc (.cells #[.int .i64 y] 3)).heap.size = w3.heap.size + 1 := Array.size_push ..
                  have := (H3o m hm).2.1
                  omega
              · rcases HAT4.out m hm with h | h
                · exact HD2.out m h
                · have h2 : (w3.alloc (.cells #[.int .i64 y] 3)).heap.size = w3.heap.size + 1 := Array.size_push ..
                  have := Hsr.out
                  omega
              · rw [HDn.out, ← bools_set]
                have h0 := blk_set HBk.out b (.bool true)
                refine F3t.out.blk (HF3.out.blk (blk_alloc h0 _) (fun h => ?_)) (fun h => ?_)
                · have := (HD1.out B h).1; omega
                · have := HD2.out B h; omega
              · exact F03.out.then_ F3t.out (fun m hm => .inr (by have := HD2.out m hm; have := HwB.out; omega))
            case measure => simp [intOf]; omega
    · have hkI : ¬ (k : Int) < n := by omega
      have HK := Lib.hid (show k = T.length from by have := HTl.out; have := HN.out; omega)
      go_wp2_with fail
      go_ret2
      refine ⟨u10, u11, rfl, ?_, ?_, HF.out⟩
      · have h := HO3.out; rw [HK.out, List.take_length] at h; simpa [ints, List.map_map] using h
      · have h := HO4.out; rw [HK.out, List.take_length] at h; simpa [ints, List.map_map] using h
end Go.Proofs.Ytjegnhcpepkpoaa
