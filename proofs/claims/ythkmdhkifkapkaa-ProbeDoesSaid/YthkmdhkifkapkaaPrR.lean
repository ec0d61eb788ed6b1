/- Law 11: the walk of ProbeDoes. -/
import Derived.Test.YthkmdhkifkapkaaPrQ
set_option linter.unusedSimpArgs false
set_option linter.unusedVariables false
namespace Go.Proofs.Ythkmdhkifkapkaa
open Go.RowKit

theorem new_d (w : World) : IsD (w.alloc (.cells #[.slice none 0 0, .slice none 0 0] 43)) (fun k => k = w.heap.size) w.heap.size [] [] := by
  have hz : (w.alloc (.cells #[.slice none 0 0, .slice none 0 0] 43)).heap.size = w.heap.size + 1 := Array.size_push ..
  exact ⟨.slice none 0 0, .slice none 0 0, heap_alloc_new w (.cells #[.slice none 0 0, .slice none 0 0] 43), World.ownsRow_nil _ _ _ _, World.ownsRow_nil _ _ _ _, rfl, fun k hk => by simp [Value.ownBlock] at hk, fun k hk => by simp [Value.ownBlock] at hk, fun k hk => by simp [Value.ownBlock] at hk, fun k hk => by have hk : k = w.heap.size := hk; omega⟩
def zeroN : Nm := ⟨0, 0⟩
set_option maxRecDepth 4000 in
set_option maxHeartbeats 6400000 in
theorem pdoes_any (w : World) (a : Option Addr) (cap : Nat) (cs : List PK) (hr : Row w a (cs.flatMap PK.cells)) :
    Calls Try.prog 5 #[.slice a cs.length cap] w fun r w' => r = .returned (.bool true) ∧ Fr (fun _ => False) w w' := by
  have HR := Lib.hid hr
  obtain ⟨n, hnn⟩ : ∃ n, cs.length = n := ⟨_, rfl⟩
  rw [hnn]
  have HN := Lib.hid hnn
  clear hr hnn
  go_enter Try.func5, Try.ntmps5
  go_wp2_with fail
  refine (alive11_any w).mono ?_
  rintro e w1 ⟨rfl, f1⟩
  have F1 := Lib.hid f1
  clear f1
  by_cases hbig : (400 : Int) < n
  · go_wp2_with fail
    go_ret
    exact ⟨rfl, F1.out⟩
  have hn4 : n ≤ 400 := by omega
  go_wp2_with fail
  refine (new_any w1).mono ?_
  rintro e w2 ⟨T, S, rfl, ht, hS, f2⟩
  have FD := Lib.hid ((Fr.refl (fun _ => False) w2).alloc (.cells #[.slice none 0 0, .slice none 0 0] 43))
  have HT := Lib.hid (ht.fr FD.out (fun _ _ h => h))
  have HM := Lib.hid (new_d w2)
  have HSl := Lib.hid (fun k (hk : S k) => Rw.lt ht.is hk)
  have HSw := Lib.hid (show ∀ j, S j → w.heap.size ≤ j from fun j hj => Nat.le_trans F1.out.size (hS j hj))
  have F2 := Lib.hid ((F1.out.then_ f2 (fun _ h => h.elim)).then_ FD.out (fun _ h => h.elim))
  have HW2 := Lib.hid (show w.heap.size ≤ w2.heap.size from Nat.le_trans F1.out.size f2.size)
  clear ht hS f2
  go_wp2_with fail
  obtain ⟨M, hMe⟩ : ∃ M, w2.heap.size = M := ⟨_, rfl⟩
  have HMe := Lib.hid hMe
  rw [hMe] at HM ⊢
  clear hMe
  go_loopw [24] (fun i wr => ∃ (k : Nat) (S D : Nat → Prop) (ps : List PC) (ss : List Nm) (aa : List Int), k ≤ n ∧ i = .int .i64 k ∧ IsT wr S T ps ∧ IsD wr D M ss aa ∧ Both ps ss aa ∧ ss.length ≤ k ∧ (∀ j, S j → ¬ D j) ∧ (∀ j, S j → w.heap.size ≤ j) ∧ (∀ j, D j → w.heap.size ≤ j) ∧ Fr (fun _ => False) w wr) (fun i _ => ((n : Int) - intOf i).toNat)
  case atStart => exact ⟨0, S, _, empty8, [], [], Nat.zero_le _, rfl, HT.out, HM.out, both_nil, Nat.zero_le _, fun j h1 h2 => by have h2 : j = M := h2; have := HMe.out; have := HSl.out j h1; omega, HSw.out, fun j h2 => by have h2 : j = M := h2; have := HMe.out; have := HW2.out; omega, F2.out⟩
  case round =>
    obtain ⟨k, S, D, ps, ss, aa, hk, rfl, ht, hm, hb, hsl, hd, hlow, hlowD, hf⟩ := hrel
    have HTr := Lib.hid ht
    have HMr := Lib.hid hm
    have HB := Lib.hid hb
    have HSn := Lib.hid hsl
    have HD := Lib.hid hd
    have HLow := Lib.hid hlow
    have HLowD := Lib.hid hlowD
    have HF := Lib.hid hf
    by_cases hlt : k < n
    · have hltI : (k : Int) < n := by omega
      obtain ⟨b, off, rfl, hbk, x0, x1, x2, x3⟩ := (HR.out.fr hf (fun _ _ h => h)).pk (i := k) (by rw [HN.out]; exact hlt)
      obtain ⟨c, hce⟩ : ∃ c, cs[k]'(by rw [HN.out]; exact hlt) = c := ⟨_, rfl⟩
      rw [hce] at x0 x1 x2 x3
      obtain ⟨kd, ⟨chi, clo⟩, cat⟩ := c
      have x0 : wr.cell? ⟨b, off + k * 4, none⟩ = some (.int .i64 kd) := x0
      have x1 : wr.cell? ⟨b, off + k * 4 + 1, none⟩ = some (.int .u64 chi) := x1
      have x2 : wr.cell? ⟨b, off + k * 4 + 2, none⟩ = some (.int .u64 clo) := x2
      have x3 : wr.cell? ⟨b, off + k * 4 + 3, none⟩ = some (.int .i64 cat) := x3
      have w1 : IntKind.i64.wrap ((k : Int) + 1) = k + 1 := IntWalk.i64_in _ (by omega)
      have FAc := Lib.hid ((Fr.refl (fun _ => False) wr).alloc (.cells #[.int .i64 kd, .int .u64 chi, .int .u64 clo, .int .i64 cat] 30))
      have Hbc := Lib.hid (heap_alloc_new wr (.cells #[.int .i64 kd, .int .u64 chi, .int .u64 clo, .int .i64 cat] 30))
      have q0 := blk_cell Hbc.out 0 rfl; have q1 := blk_cell Hbc.out 1 rfl; have q2 := blk_cell Hbc.out 2 rfl; have q3 := blk_cell Hbc.out 3 rfl
      have Hns := Lib.hid (show ¬ S wr.heap.size ∧ ¬ D wr.heap.size from ⟨fun h2 => by have := Rw.lt ht.is h2; omega, fun h2 => by have := hm.lt h2; omega⟩)
      have Hsw := Lib.hid (show w.heap.size ≤ wr.heap.size from HF.out.size)
      have Hsz := Lib.hid (show (wr.alloc (.cells #[.int .i64 kd, .int .u64 chi, .int .u64 clo, .int .i64 cat] 30)).drew.heap.size = wr.heap.size + 1 from Array.size_push ..)
      have HD1 := Lib.hid (fun W (h : Fr (fun _ => False) wr W) => does_any W S D T M ps ss aa ⟨kd, ⟨chi, clo⟩, cat⟩ (HTr.out.fr h (fun _ _ h => h)) (HMr.out.fr h (fun _ _ h => h)) HD.out (by have := HSn.out; omega) HB.out)
      clear ht hm hb hsl hd hlow hlowD hf hce
      go_upto_region 9 with fail
      go_region_law
        (first
          | (go_simp; go_at_call 12; go_must (with_reducible refine (HD1.out _ (FAc.out.then_ (S2 := fun _ => False) (by repeat (first | (with_reducible exact Fr.refl _ _) | (with_reducible refine Fr.drew ?_) | (with_reducible refine Fr.drewN ?_ _) | (with_reducible refine Fr.alloc ?_ _) | (with_reducible refine Fr.set1 ?_ _) | (with_reducible refine Fr.setNew ?_ (by omega) _))) (fun _ h => h.elim))).mono ?_); rintro e w2 ⟨rfl, S2, D2, ps2, aa2, o2, m2, b2, d2, f2, g2, gt2⟩; have hrl := PK.runS_len ⟨kd, ⟨chi, clo⟩, cat⟩ ss; obtain ⟨rs2, hrs⟩ : ∃ r, PK.runS ⟨kd, ⟨chi, clo⟩, cat⟩ ss = r := ⟨_, rfl⟩; rw [hrs] at m2 b2 hrl; have HLn := Lib.hid (len_any w2 S2 T _ o2); rw [b2.num] at HLn; obtain ⟨n2, hn2⟩ : ∃ n2, rs2.length = n2 := ⟨_, rfl⟩; rw [hn2] at hrl HLn; obtain ⟨v1, v2, hb2, o12, -, -, -, -, -, -⟩ := IsD.fr (S2 := fun _ => False) m2 (Fr.refl _ _) (fun _ _ h => h); obtain ⟨a1, c1, rfl, -, -⟩ := own_form o12; have c0 := blk_cell hb2 0 rfl; rw [hn2] at c0; have hbc2 := f2.blk (blk_drew Hbc.out) (fun h => h.elim Hns.out.1 Hns.out.2); have q0 := blk_cell hbc2 0 rfl; have q1 := blk_cell hbc2 1 rfl; have q2 := blk_cell hbc2 2 rfl; have q3 := blk_cell hbc2 3 rfl; have O2 := Lib.hid o2; have M2 := Lib.hid m2; have B2 := Lib.hid b2; have D2' := Lib.hid d2; have Fd := Lib.hid f2; have G2 := Lib.hid g2; have GT2 := Lib.hid gt2; have HRl := Lib.hid hrl; have HN2 := Lib.hid hn2; clear hb2 o12 hbc2 o2 m2 b2 d2 f2 g2 gt2 hrs hrl hn2)
          | (go_simp; go_at_call 11; go_must (with_reducible refine HLn.out.mono ?_); rintro e w3 ⟨rfl, rfl⟩))
      all_goals
        go_wp2_with fail
        go_roundw
        case rel =>
          refine ⟨k + 1, S2, D2, ps2, rs2, aa2, by omega, by go_num, O2.out, M2.out, B2.out, by have := HRl.out; have := HN2.out; have := HSn.out; omega, D2'.out, fun j hj => ?_, fun j hj => ?_, ?_⟩
          · rcases G2.out j hj with h | h
            · exact HLow.out j h
            · have := Hsw.out; have := Hsz.out; omega
          · rcases GT2.out j hj with h | h
            · exact HLowD.out j h
            · have := Hsw.out; have := Hsz.out; omega
          · exact (HF.out.then_ FAc.out (fun _ h => h.elim)).drew.then_ Fd.out (fun j hj => .inr (hj.elim (HLow.out j) (HLowD.out j)))
        case measure => simp [intOf]; omega
    · have hltI : ¬ (k : Int) < n := by omega
      obtain ⟨v1, v2, hbM, o1, o2, -, -, -, -, -⟩ := hm
      obtain ⟨a1, c1, rfl, -, -⟩ := own_form o1
      obtain ⟨a2, c2, rfl, -, -⟩ := own_form o2
      have HbM := Lib.hid hbM
      have O1 := Lib.hid o1
      have O2 := Lib.hid o2
      obtain ⟨m, hmm⟩ : ∃ m, ss.length = m := ⟨_, rfl⟩
      have hma : aa.length = m := hb.len.symm.trans hmm
      have HMm := Lib.hid hmm
      have HMa := Lib.hid hma
      rw [hmm] at o1 hbM hsl
      rw [hma] at o2 hbM
      have c0 := blk_cell hbM 0 rfl
      have hm4 : m ≤ 400 := by omega
      clear ht hb hd hlow hlowD hf hbM o1 o2 hmm hma hsl
      go_wp2_with fail
      go_loopw [49] (fun i w5 => ∃ j : Nat, j ≤ m ∧ i = .int .i64 j ∧ Fr (fun _ => False) wr w5) (fun i _ => ((m : Int) - intOf i).toNat)
      case atStart => exact ⟨0, Nat.zero_le _, rfl, Fr.refl _ _⟩
      case round =>
        obtain ⟨j, hj, rfl, hf5⟩ := hrel
        have F5 := Lib.hid hf5
        by_cases hjl : j < m
        · have hjI : (j : Int) < m := by omega
          have hjs : j < ss.length := by rw [HMm.out]; exact hjl
          have hja : j < aa.length := by rw [HMa.out]; exact hjl
          obtain ⟨g, cp, e1⟩ := own_some O1.out (by rw [HMm.out]; omega)
          rw [HMm.out] at e1
          simp only [Value.slice.injEq] at e1
          obtain ⟨rfl, -, rfl⟩ := e1
          obtain ⟨g2, cp2, e2⟩ := own_some O2.out (by rw [HMa.out]; omega)
          rw [HMa.out] at e2
          simp only [Value.slice.injEq] at e2
          obtain ⟨rfl, -, rfl⟩ := e2
          have ho1 := own_fr O1.out hf5 (fun _ _ h => h)
          rw [HMm.out] at ho1
          obtain ⟨⟨xhi, xlo⟩, hx⟩ : ∃ x, ss[j] = x := ⟨_, rfl⟩
          obtain ⟨y, hy⟩ : ∃ y, aa[j] = y := ⟨_, rfl⟩
          have p0 := own_nm ho1 HMm.out hjs 0 (by omega) (v := .int .u64 xhi) (by rw [hx]; rfl)
          rw [Nat.add_zero] at p0
          have p1 := own_nm ho1 HMm.out hjs 1 (by omega) (v := .int .u64 xlo) (by rw [hx]; rfl)
          have hwj : IntKind.i64.wrap ((j : Int) + 1) = j + 1 := IntWalk.i64_in _ (by omega)
          have Hc := Lib.hid (heap_alloc_new wr (.cells #[.int .u64 xhi, .int .u64 xlo] 25))
          have FC := Lib.hid ((Fr.refl (fun _ => False) wr).alloc (.cells #[.int .u64 xhi, .int .u64 xlo] 25))
          have y0 := blk_cell Hc.out 0 rfl
          have y1 := blk_cell Hc.out 1 rfl
          have hfst : firstN ss ⟨xhi, xlo⟩ = j := by
            have hs : ss[j]? = some ⟨xhi, xlo⟩ := by rw [List.getElem?_eq_getElem hjs, hx]
            have hl2 : firstN ss ⟨xhi, xlo⟩ < ss.length := firstN_mem.2 (List.mem_of_getElem? hs)
            exact HB.out.uniq _ _ _ (firstN_some hl2) hs
          have HG := Lib.hid (show Calls Try.prog 10 #[.pointer (some ⟨T, 0, none⟩), .agg #[.int .u64 xhi, .int .u64 xlo]] (wr.alloc (.cells #[.int .u64 xhi, .int .u64 xlo] 25)) fun e w' => e = .returned (.tuple #[.int .i64 y, .bool true]) ∧ Fr (fun _ => False) (wr.alloc (.cells #[.int .u64 xhi, .int .u64 xlo] 25)) w' from by
            have h := get_both (wr.alloc (.cells #[.int .u64 xhi, .int .u64 xlo] 25)) S T ps ss aa ⟨xhi, xlo⟩ ((HTr.out.fr hf5 (fun _ _ h => h)).fr FC.out (fun _ _ h => h)) HB.out
            unfold GetB at h
            have e : aa.getD j 0 = y := by rw [List.getD_eq_getElem?_getD, List.getElem?_eq_getElem hja, hy]; rfl
            rw [hfst, decide_eq_true hjs, e] at h
            exact h)
          have HY := Lib.hid hy
          have HJa := Lib.hid hja
          clear hf5 ho1 hx hfst hy
          go_wp2_with fail
          refine HG.out.mono ?_
          rintro e w6 ⟨rfl, f6⟩
          have F6 := Lib.hid ((F5.out.then_ FC.out (fun _ h => h.elim)).then_ f6 (fun _ h => h.elim))
          have hbM6 := F6.out.blk HbM.out (fun h => h)
          rw [HMm.out, HMa.out] at hbM6
          have d1 := blk_cell hbM6 1 rfl
          have ca : w6.cell? ⟨g2, j, none⟩ = some (.int .i64 y) := by
            have hja := HJa.out
            rw [(own_fr O2.out F6.out (fun _ _ h => h)).cellAt j (by omega)]; simp [ints, hja, HY.out]
          clear f6 hbM6
          go_wp2_with fail
          go_roundw
          case rel => exact ⟨j + 1, by omega, by go_num, F6.out⟩
          case measure => simp [intOf]; omega
        · have hjI : ¬ (j : Int) < m := by omega
          have HE1 := Lib.hid (fun W => nil_get W zeroN)
          have HE2 := Lib.hid (fun W => nil_put W zeroN 1)
          have HE3 := Lib.hid (fun W => nil_drop W zeroN)
          clear hf5
          go_wp2_with fail
          refine (HE1.out _).mono ?_
          rintro e w6 ⟨rfl, f6⟩
          have F6 := Lib.hid (F5.out.then_ f6 (fun _ h => h.elim))
          clear f6
          go_wp2_with fail
          refine (HE2.out _).mono ?_
          rintro e w7 ⟨rfl, f7⟩
          have F7 := Lib.hid (F6.out.then_ f7 (fun _ h => h.elim))
          clear f7
          go_wp2_with fail
          refine (HE3.out _).mono ?_
          rintro e w8 ⟨rfl, f8⟩
          have F8 := Lib.hid (F7.out.then_ f8 (fun _ h => h.elim))
          clear f8
          go_wp2_with fail
          refine (nil_len _).mono ?_
          rintro e _ ⟨rfl, rfl⟩
          go_wp2_with fail
          refine (nil_cells _).mono ?_
          rintro e _ ⟨rfl, rfl⟩
          go_wp2_with fail
          go_ret
          exact ⟨rfl, HF.out.then_ F8.out (fun _ h => h.elim)⟩
end Go.Proofs.Ythkmdhkifkapkaa
