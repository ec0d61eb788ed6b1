/- The walk of the document's Show. -/
import Derived.Test.YtiabpnhkihbkjaaDoorRef3
import Derived.Test.YtiabpnhkihbkjaaDoorShow0
import Derived.Test.YtiabpnhkihbkjaaDoorBaseS
import Derived.Deep.RegionLaw
import Derived.Deep.DeepMust
import Derived.Deep.Cut
namespace Go.Proofs.YtiabpnhkihbkjaaDoor
open Go.RowKit

theorem Tryd.infoI64 : (Tryd.prog.info? 3).map (fun i => (i.zero, i.size, i.bytes)) = some (some (.int .i64 0), 1, 8) := by kernel_rfl

/-- Rows of numbers, some of them done. -/
def mix (D : List Int) (m : Nat) (c : Int) : List Int := D.take m ++ (dbl (D.drop m) c).1
theorem mix_len (D : List Int) {m : Nat} (c : Int) (h : m ≤ D.length) : (mix D m c).length = D.length := by
  rw [mix, List.length_append, dbl_len, List.length_take, List.length_drop]; omega
theorem mix_get (D : List Int) {q : Nat} (c : Int) (h : q < D.length) : (mix D (q + 1) c)[q]? = some D[q] := by
  rw [mix, List.getElem?_append_left (by rw [List.length_take]; omega), List.getElem?_take, if_pos (by omega)]
  exact List.getElem?_eq_getElem h
theorem mix_set (D : List Int) {q : Nat} (c : Int) (h : q < D.length) : (mix D (q + 1) c).set q ((2 * D[q] + (dbl (D.drop (q + 1)) c).2) % 10) = mix D q c := by
  have e : D.drop q = D[q] :: D.drop (q + 1) := List.drop_eq_getElem_cons h
  have e2 : D.take (q + 1) = D.take q ++ [D[q]] := by rw [List.take_add_one, List.getElem?_eq_getElem h]; rfl
  rw [mix, mix, e, e2, dbl]
  rw [List.append_assoc, List.set_append_right _ _ (by rw [List.length_take]; omega), List.length_take]
  congr 1
  rw [show q - min q D.length = 0 by omega]
  rfl
theorem dbl_drop (D : List Int) {q : Nat} (c : Int) (h : q < D.length) : (dbl (D.drop q) c).2 = (2 * D[q] + (dbl (D.drop (q + 1)) c).2) / 10 := by
  rw [List.drop_eq_getElem_cons h, dbl]

set_option maxHeartbeats 6400000 in
theorem show_any (w : World) (hi lo : Int) (h1 : 0 ≤ hi) (h2 : hi < 18446744073709551616) (h3 : 0 ≤ lo) (h4 : lo < 18446744073709551616) :
    Calls Tryd.prog 33 #[.agg #[.int .u64 hi, .int .u64 lo]] w fun e w' => e = .returned (.string (strOfNums (showL (lo + 18446744073709551616 * hi)))) ∧ Fr (fun _ => False) w w' := by
  obtain ⟨V, hV⟩ : ∃ V, lo + 18446744073709551616 * hi = V := ⟨_, rfl⟩
  rw [hV]
  have HV := Lib.hid hV
  clear hV
  obtain ⟨i0, hi0, hz0, hz1, hz2⟩ := info_parts Tryd.infoI64
  obtain ⟨B, hB⟩ : ∃ B, w.heap.size = B := ⟨_, rfl⟩
  have HB := Lib.hid hB
  go_enter Tryd.func33, Tryd.ntmps33
  go_wp2
  go_loopw [3, 4] (fun d i wr => ∃ j : Nat, j ≤ 128 ∧ i = .int .i64 (127 - (j : Int)) ∧ (∃ g cap, d = .slice (some ⟨g, 0, none⟩) (showN V j).length cap ∧ B < g ∧ wr.ownsRow 0 3 1 d (showN V j).length ((showN V j).map (Value.int .i64))) ∧ wr.heap[B]? = some (.cells #[.int .u64 hi, .int .u64 lo] 24 (0, 0)) ∧ Fr (fun _ => False) w wr)
    (fun _ i _ => (intOf i + 1).toNat)
  case atStart =>
    refine ⟨0, by omega, by go_num, ⟨_, _, rfl, by omega, ?_⟩, blk_alloc (by rw [← hB]; exact heap_alloc_new w _) _, ((Fr.refl _ w).alloc _).alloc _⟩
    have := World.ownsRow_lit (base := 0) (e := 3) (size := 1) (w.alloc (.cells #[.int .u64 hi, .int .u64 lo] 24)) #[.int .i64 0] 1 (by omega) (by unfold maxLen; omega) rfl
    simpa [showN, hB] using this
  case round =>
    obtain ⟨j, hj, rfl, ⟨g, cap, rfl, hgB, hown⟩, hb, hf⟩ := hrel
    have Hb := Lib.hid hb
    have Hf := Lib.hid hf
    have Ho := Lib.hid hown
    have hD := showN_digs V j
    have hLn := showN_len V j
    obtain ⟨D, hDD⟩ : ∃ D, showN V j = D := ⟨_, rfl⟩
    rw [hDD] at hD hLn Ho ⊢
    have HDD := Lib.hid hDD
    have HD := Lib.hid hD
    clear hb hf hown hDD hD
    obtain ⟨l1, l2⟩ := hLn
    by_cases hlt : j = 128
    · subst hlt
      go_wp2
      go_loopw [8, 48] (fun s i wr => ∃ k : Nat, k ≤ D.length ∧ i = .int .i64 k ∧ s = .string (strOfNums ((D.take k).map (48 + ·))) ∧ wr.ownsRow 0 3 1 (.slice (some ⟨g, 0, none⟩) D.length cap) D.length (D.map (Value.int .i64)) ∧ Fr (fun _ => False) w wr)
        (fun _ i _ => D.length - (intOf i).toNat)
      case atStart => exact ⟨0, by omega, rfl, by simp [strOfNums], Ho.out, Hf.out⟩
      case round =>
        obtain ⟨k, hk, rfl, rfl, ho, hf⟩ := hrel
        have Ho2 := Lib.hid ho
        have Hf2 := Lib.hid hf
        clear ho hf
        obtain ⟨L, hL⟩ : ∃ L, (D.take k).map (48 + ·) = L := ⟨_, rfl⟩
        have sL : L.length = k := by rw [← hL]; simp; omega
        have HL := Lib.hid hL
        rw [hL]
        have s1 := strOfNums_size L
        clear hL
        by_cases hlt : k < D.length
        · have hx := HD.out D[k] (List.getElem_mem hlt)
          have hcell := (Ho2.out.cellAt k (by omega)).trans (by rw [List.getElem?_map, List.getElem?_eq_getElem hlt]; rfl : _ = some (Value.int .i64 D[k]))
          obtain ⟨x, hxx⟩ : ∃ x, D[k] = x := ⟨_, rfl⟩
          rw [hxx] at hx hcell
          obtain ⟨x0, x1⟩ := hx
          have Hx := Lib.hid hxx
          clear hxx
          have hw8 : IntKind.u8.wrap (48 + x) = 48 + x := by rw [IntKind.wrap_u8]; omega
          have hc := conv_one (P := Tryd.prog) 43 5 Tryd.underlying43 Tryd.underlying5 9 Tryd.underlying9 wr (48 + x)
          have s2 := strOfNums_size [48 + x]
          go_wp2
          go_roundw
          case rel => exact ⟨k + 1, by omega, by go_num, by rw [strOf_append, List.take_add_one, List.map_append, HL.out, List.getElem?_eq_getElem hlt, Hx.out]; rfl, Ho2.out.alloc _, Hf2.out.alloc _⟩
          case measure => first | (simp [intOf]; done) | (simp [intOf]; omega)
        · obtain rfl : k = D.length := by omega
          go_wp2
          go_ret
          rw [← HL.out, List.take_length, ← HDD.out]
          exact ⟨rfl, Hf2.out⟩
    · obtain ⟨q, hq⟩ : ∃ q, j + q = 127 := ⟨127 - j, by omega⟩
      have eq1 : (127 : Int) - (j : Int) = q := by omega
      rw [eq1]
      have c0 := blk_cell Hb.out 0 rfl
      have c1 := blk_cell Hb.out 1 rfl
      go_wp2_with fail
      refine (refBit_any wr hi lo q h1 h2 h3 h4 (by omega)).mono ?_
      rintro e w2 ⟨rfl, hf3⟩
      obtain ⟨c, hc⟩ : ∃ c, bitAt hi lo q = c := ⟨_, rfl⟩
      have hc01 : 0 ≤ c ∧ c ≤ 1 := by rw [← hc]; unfold bitAt; split <;> omega
      have HC := Lib.hid hc01
      have Hc := Lib.hid (show V / 2 ^ q % 2 = c from by rw [← hc, bitAt_eq h1 h3 h4, HV.out])
      have Hb2 := Lib.hid (hf3.blk Hb.out (fun h => h))
      have Ho2 := Lib.hid (own_fr Ho.out hf3 (fun _ _ h => h))
      have Hf2 := Lib.hid (Hf.out.then_ hf3 (fun _ h => h.elim))
      have Hg2 := Lib.hid (show w.heap.size ≤ g from by omega)
      rw [hc]
      clear hf3 hc hc01 c0 c1
      go_wp2
      go_loopw [5, 6] (fun n k wr => ∃ m : Nat, m ≤ D.length ∧ k = .int .i64 ((m : Int) - 1) ∧ n = .int .i64 (dbl (D.drop m) c).2 ∧ wr.ownsRow 0 3 1 (.slice (some ⟨g, 0, none⟩) D.length cap) D.length ((mix D m c).map (Value.int .i64)) ∧ wr.heap[B]? = some (.cells #[.int .u64 hi, .int .u64 lo] 24 (0, 0)) ∧ Fr (fun _ => False) w wr)
        (fun _ k _ => (intOf k + 1).toNat)
      case atStart => exact ⟨D.length, Nat.le_refl _, by go_num, by simp [dbl], by simpa [mix, dbl] using Ho2.out, Hb2.out, Hf2.out⟩
      case round =>
        obtain ⟨m, hm, rfl, rfl, ho, hb, hf⟩ := hrel
        have hr := (dbl_bd (D.drop m) c (fun x hx => HD.out x (List.mem_of_mem_drop hx)) HC.out).2
        obtain ⟨r, hrr⟩ : ∃ r, (dbl (D.drop m) c).2 = r := ⟨_, rfl⟩
        rw [hrr] at hr ⊢
        obtain ⟨hr0, hr1⟩ := hr
        have Hrr := Lib.hid hrr
        have Ho3 := Lib.hid ho
        have Hb3 := Lib.hid hb
        have Hf3 := Lib.hid hf
        clear hrr ho hb hf
        by_cases hm0 : m = 0
        · subst hm0
          have hm1 := mix_len D c (Nat.zero_le _)
          have HM := Lib.hid (show showN V (j + 1) = if 0 < r then r :: mix D 0 c else mix D 0 c from by
            rw [showN, showStep, HDD.out, show 127 - j = q by omega, Hc.out, mix, ← Hrr.out]; rfl)
          obtain ⟨E, hE⟩ : ∃ E, mix D 0 c = E := ⟨_, rfl⟩
          rw [hE] at hm1 HM Ho3
          clear hE
          by_cases hr2 : 0 < r
          · obtain rfl : r = 1 := by omega
            have hlit := World.ownsRow_lit (base := 0) (e := 3) (size := 1) wr #[.int .i64 1] 1 (Nat.zero_le _) (by unfold maxLen; omega) rfl
            have HA := Lib.hid hlit
            have HS := Lib.hid (Src.ofSlice (P := Tryd.prog) (wr.alloc (.cells #[.int .i64 1] 3)) (size := 1) (tx := 60) (e' := 3) Tryd.underlying60 ⟨g, 0, none⟩ D.length cap (E.map (Value.int .i64)) (by rw [List.length_map, hm1, Nat.mul_one]) (Ho3.out.alloc _ |>.cells (g := g) rfl) (by intro u hu; obtain ⟨_, _, rfl⟩ := List.mem_map.1 hu; rfl))
            obtain ⟨dv, hdv⟩ : ∃ dv, Value.slice (some ⟨g, 0, none⟩) D.length cap = dv := ⟨_, rfl⟩
            rw [hdv] at HS ⊢
            clear hdv hlit
            go_upto_region 13 with fail
            go_wp2_with (at_builtin; refine wpList_append_src _ rfl (.tmp 43) (.tmp 44) 60 60 rfl 3 i0 (.int .i64 0) 1 8 Tryd.underlying60 hi0 hz0 hz1 hz2 rfl (by decide) _ 1 [.int .i64 1] rfl HA.out dv D.length (E.map (Value.int .i64)) rfl HS.out (by omega) (by omega) ?_; intro g2 cap2 w2 hown2 hf2 hat2; have Ho5 := Lib.hid hown2; have Hf5 := Lib.hid hf2; have Ha5 := Lib.hid hat2; clear hown2 hf2 hat2)
            go_roundw
            case rel =>
              have e := HM.out
              rw [if_pos (by decide)] at e
              have ho := Ho5.out
              rcases ho.2 with ⟨h0, h00⟩ | ⟨gg, cc, cur, h0, _⟩
              · exfalso; simp at h00
              · simp only [Value.slice.injEq] at h0
                obtain ⟨rfl, _, rfl⟩ := h0
                have hB3 := blk_lt Hb3.out
                have hgg : wr.heap.size ≤ gg := by
                  rcases Ha5.out gg rfl with h | h
                  · have h : some wr.heap.size = some gg := h
                    have h := Option.some.inj h
                    omega
                  · have h : (wr.alloc (.cells #[.int .i64 1] 3)).heap.size ≤ gg := h
                    rw [World.size_alloc] at h
                    omega
                refine ⟨j + 1, by omega, congrArg _ (by omega), ⟨gg, cap2, by rw [e, List.length_cons, hm1, Nat.add_comm], by omega, ?_⟩, Hf5.out.blk (blk_alloc Hb3.out _) (fun hk => by have h := Option.some.inj (show some wr.heap.size = some B from hk); omega), (Hf3.out.alloc _).then_ Hf5.out (fun k hk => .inr (by have h := Option.some.inj (show some wr.heap.size = some k from hk); have := Hf3.out.size; omega))⟩
                rw [e, List.length_cons, hm1, List.map_cons, Nat.add_comm D.length 1]
                exact ho
            case measure => first | (simp [intOf]; done) | (simp [intOf]; omega)
          · obtain rfl : r = 0 := by omega
            go_wp2
            go_roundw
            case rel =>
              have e := HM.out
              rw [if_neg (by decide)] at e
              refine ⟨j + 1, by omega, congrArg _ (by omega), ⟨g, cap, by rw [e, hm1], hgB, ?_⟩, Hb3.out, Hf3.out⟩
              rw [e, hm1]; exact Ho3.out
            case measure => first | (simp [intOf]; done) | (simp [intOf]; omega)
        · obtain ⟨p, rfl⟩ : ∃ p, m = p + 1 := ⟨m - 1, by omega⟩
          have ep : ((p + 1 : Nat) : Int) - 1 = p := by omega
          rw [ep]
          have hpD : p < D.length := by omega
          have hx := HD.out D[p] (List.getElem_mem hpD)
          have hcell := (Ho3.out.cellAt p (by omega)).trans (by rw [List.getElem?_map, mix_get D c hpD]; rfl : _ = some (Value.int .i64 D[p]))
          have hfree := Ho3.out.frozenAt p
          obtain ⟨x, hxx⟩ : ∃ x, D[p] = x := ⟨_, rfl⟩
          rw [hxx] at hx hcell
          obtain ⟨x0, x1⟩ := hx
          have Hs := Lib.hid (Ho3.out.stored p (.int .i64 ((2 * x + r) % 10))).1
          have Hx := Lib.hid hxx
          clear hxx
          have e1 : Int.tmod (2 * x + r) 10 = (2 * x + r) % 10 := Int.tmod_eq_emod_of_nonneg (by omega)
          have e2 : Int.tdiv (2 * x + r) 10 = (2 * x + r) / 10 := Int.tdiv_eq_ediv_of_nonneg (by omega)
          have hpI : (p : Int) < (D.length : Int) := by omega
          go_wp2
          go_roundw
          case rel =>
            refine ⟨p, by omega, rfl, ?_, ?_, ?_, Hf3.out.setNew Hg2.out _⟩
            · rw [dbl_drop D c hpD, Hx.out, Hrr.out]
            · have := Hs.out
              rw [← List.map_set, ← Hrr.out, ← Hx.out, mix_set D c hpD] at this
              rwa [← Hrr.out, ← Hx.out]
            · exact (heap_setCell_other _ _ _ _ (by simp; omega)).trans Hb3.out
          case measure => first | (simp [intOf]; done) | (simp [intOf]; omega)
end Go.Proofs.YtiabpnhkihbkjaaDoor
