/- Several texts in one, for the law BooksBack: Qe, Qf, Qg, Due, Keep, RfB, SmA. Each says what it shows; conditions: what each theorem names. -/
import Derived.Test.YtjchjpmgbmeohaaDoorMk7
import Derived.Test.YtjchjpmgbmeohaaDoorMk6
import Derived.Test.YtjchjpmgbmeohaaDoorMk5
import Derived.Test.YtjchjpmgbmeohaaDoorMk2
import Derived.Deep.RegionHeld3
import Derived.Test.YtjchjpmgbmeohaaDoorMk3
/- Package queue: Put, Drop. -/
set_option linter.unusedSimpArgs false
set_option linter.unusedVariables false
namespace Go.Proofs.YtjchjpmgbmeohaaDoor
open Go.RowKit

theorem Tryd.infoItm : (Tryd.prog.info? 113).map (fun i => (i.zero, i.size, i.bytes)) = some (some (.agg #[.int .i64 0, .int .i64 0, .int .u64 0, .int .u64 0]), 4, 32) := by kernel_rfl
theorem its_snoc (hp : List Itm) (x : Itm) : its (hp ++ [x]) = its hp ++ x.cells := by simp [its]
theorem heap_snoc {hp : List Itm} {x : Itm} (h : Heap hp) : HeapUp (hp ++ [x]) hp.length := by
  refine ⟨fun k u v h0 hk hu hv => ?_, fun k u v h0 hi hki hu hv => ?_⟩
  · have hkl := (List.getElem?_eq_some_iff.1 hu).1
    rw [List.length_append, List.length_singleton] at hkl
    rw [List.getElem?_append_left (by omega)] at hu hv
    exact h k u v h0 hu hv
  · have hkl := (List.getElem?_eq_some_iff.1 hu).1
    rw [List.length_append, List.length_singleton] at hkl
    omega
set_option maxRecDepth 4000 in
set_option maxHeartbeats 6400000 in
theorem qput_any (w : World) (S : Nat → Prop) (L : Bq 6) (hp : List Itm) (x : Itm) (h : IsQ w S L hp) (hn : hp.length ≤ 90000) (hh : Heap hp) :
    Calls Tryd.prog 68 #[.pointer (some ⟨L.b, 6, none⟩), .agg #[.int .i64 x.due, .int .i64 x.stamp, .int .u64 x.id.hi, .int .u64 x.id.lo]] w fun e w' => e = .returned (.tuple #[]) ∧ ∃ hp', IsQ w' (Gro S w w') L hp' ∧ Heap hp' ∧ hp'.Perm (x :: hp) ∧ Fr S w w' := by
  obtain ⟨i0, hi, hz0, hz1, hz2⟩ := info_parts Tryd.infoItm
  have HH := Lib.hid hh
  have HSlt := Lib.hid (show ∀ k, S k → k < w.heap.size from fun k hk => Rq.lt h hk)
  obtain ⟨v, hb, ho, hS, hSv, hlt⟩ := h
  obtain ⟨a0, cap, rfl, hc, -⟩ := own_form ho
  have Hb := Lib.hid (blk_alloc hb (.cells #[.int .i64 x.due, .int .i64 x.stamp, .int .u64 x.id.hi, .int .u64 x.id.lo] 113))
  have Ho := Lib.hid (ho.alloc (.cells #[.int .i64 x.due, .int .i64 x.stamp, .int .u64 x.id.hi, .int .u64 x.id.lo] 113))
  have Hs := Lib.hid hS
  have Hsv := Lib.hid hSv
  have FA := Lib.hid ((Fr.refl (fun _ => False) w).alloc (.cells #[.int .i64 x.due, .int .i64 x.stamp, .int .u64 x.id.hi, .int .u64 x.id.lo] 113))
  have hA0 := heap_alloc_new w (.cells #[.int .i64 x.due, .int .i64 x.stamp, .int .u64 x.id.hi, .int .u64 x.id.lo] 113)
  have HA0 := Lib.hid hA0
  have HZ := Lib.hid (show (w.alloc (.cells #[.int .i64 x.due, .int .i64 x.stamp, .int .u64 x.id.hi, .int .u64 x.id.lo] 113)).heap.size = w.heap.size + 1 from by simp)
  have Hl1 := Lib.hid (show ∀ k, S k → k < (w.alloc (.cells #[.int .i64 x.due, .int .i64 x.stamp, .int .u64 x.id.hi, .int .u64 x.id.lo] 113)).heap.size from fun k hk => by have := HSlt.out k hk; have := HZ.out; omega)
  have Hne := Lib.hid (show ¬ (Value.slice a0 hp.length cap).ownBlock = some L.b from fun he => (hSv L.b he).2 rfl)
  have Hng := Lib.hid (show ¬ (Value.slice a0 hp.length cap).ownBlock = some w.heap.size from fun he => by have := hlt _ (hSv _ he).1; omega)
  clear hb ho hlt hS hSv hh hA0
  go_enter Tryd.func68, Tryd.ntmps68
  go_upto_region 2 with fail
  go_cut [] from 6 (fun w' => IsQ w' (Gro S w w') L (hp ++ [x]) ∧ Fr S w w')
  case first =>
    have c6 := blk_cell Hb.out 6 (L.get _)
    have c6x := blk_cell (blk_alloc Hb.out (.cells #[.int .i64 x.due, .int .i64 x.stamp, .int .u64 x.id.hi, .int .u64 x.id.lo] 113)) 6 (L.get _)
    have f6x := blk_free (blk_alloc Hb.out (.cells #[.int .i64 x.due, .int .i64 x.stamp, .int .u64 x.id.hi, .int .u64 x.id.lo] 113)) 6
    have x0 := blk_cell HA0.out 0 rfl; have x1 := blk_cell HA0.out 1 rfl; have x2 := blk_cell HA0.out 2 rfl; have x3 := blk_cell HA0.out 3 rfl
    go_region_law (first | (refine step_append_fresh _ (w.alloc (.cells #[.int .i64 x.due, .int .i64 x.stamp, .int .u64 x.id.hi, .int .u64 x.id.lo] 113)).drew rfl (.tmp 10) (.tmp 12) 96 rfl 113 i0 (.agg #[.int .i64 0, .int .i64 0, .int .u64 0, .int .u64 0]) 4 32 Tryd.underlying96 hi hz0 hz1 hz2 rfl (by decide) (.slice a0 hp.length cap) hp.length _ (by simp only [Act.eval, Act.put]; rfl) Ho.out.drew #[.int .i64 x.due, .int .i64 x.stamp, .int .u64 x.id.hi, .int .u64 x.id.lo] rfl (by simp [Act.eval, Act.put]) rfl (by simp [Value.oneCell']) (by omega) (by omega) ?_; intro g2 cap2 w2 hown2 hf2 hat2; have hb' := hf2.blk (blk_alloc (w := (w.alloc (.cells #[.int .i64 x.due, .int .i64 x.stamp, .int .u64 x.id.hi, .int .u64 x.id.lo] 113)).drew) Hb.out _) Hne.out; have c6' := blk_cell hb' 6 (L.get _); have f6' := blk_free hb' 6))
    all_goals
      have HR := Lib.hid (rq_push (L := L) Hb.out Hs.out Hsv.out Hl1.out ((Fr.refl _ (w.alloc (.cells #[.int .i64 x.due, .int .i64 x.stamp, .int .u64 x.id.hi, .int .u64 x.id.lo] 113))).drew.alloc (.cells #[.int .i64 x.due, .int .i64 x.stamp, .int .u64 x.id.hi, .int .u64 x.id.lo] 113)) hown2 hf2 hat2)
      clear hown2 hf2 hat2
      go_wp2_with fail
      go_meet
      refine ⟨?_, (FA.out.mono (fun _ h => h.elim)).then_ HR.out.2 (fun k hk => .inl hk)⟩
      unfold IsQ
      rw [its_snoc, List.length_append, List.length_singleton]
      exact Rq.mono HR.out.1 (fun k hk => hk.imp id (fun h => ⟨by have := HZ.out; have := h.1; omega, h.2⟩)) (fun k hk => by
        rcases hk with hk | hk
        · exact Nat.lt_of_lt_of_le (Hl1.out k hk) HR.out.2.size
        · exact hk.2)
  case rest =>
  obtain ⟨q2, f2⟩ := hcut
  have Q2 := Lib.hid q2
  have F2 := Lib.hid f2
  have HUp := Lib.hid (up_any wc _ L (hp ++ [x]) hp.length q2 (by simp) (by simp; omega) (heap_snoc HH.out))
  obtain ⟨v2, hb2, ho2, -, -, -⟩ := q2
  obtain ⟨a2, cap2, rfl, -, -⟩ := own_form ho2
  obtain ⟨N, hN⟩ : ∃ N, (hp ++ [x]).length = N := ⟨_, rfl⟩
  rw [hN] at hb2
  have hN2 : N = hp.length + 1 := by rw [← hN]; simp
  have b1 : IntKind.i64.wrap ((N : Int) - 1) = hp.length := by rw [IntWalk.i64_in _ (by omega)]; omega
  have b2 : ((N : Int) - 1) = hp.length := by omega
  have b3 : IntKind.i64.wrap (hp.length : Int) = hp.length := IntWalk.i64_in _ (by omega)
  have c6 := blk_cell hb2 6 (L.get _)
  clear ho2 f2 hb2 hN hN2
  go_wp2_with fail
  refine HUp.out.mono ?_
  rintro e w5 ⟨rfl, h5, q5, u5, p5, f5⟩
  have Q5 := Lib.hid q5; have U5 := Lib.hid u5; have P5 := Lib.hid p5; have F5 := Lib.hid f5
  clear q5 u5 p5 f5
  go_wp2_with fail
  go_end0
  refine ⟨rfl, h5, Rq.mono Q5.out (fun k hk => hk.imp id (fun h => ⟨h.1, Nat.lt_of_lt_of_le h.2 F5.out.size⟩)) (fun k hk => ?_), U5.out, P5.out.trans (List.perm_append_comm (l₁ := hp) (l₂ := [x])), F2.out.then_ F5.out (fun k hk => hk.imp id (fun h => h.1))⟩
  rcases hk with hk | hk
  · exact Nat.lt_of_lt_of_le (HSlt.out k hk) (Nat.le_trans F2.out.size F5.out.size)
  · exact hk.2
/-- What Drop leaves. -/
def QDrop (S : Nat → Prop) (L : Bq 6) (hp : List Itm) (s : Int) (e : Ending) (w' : World) : Prop :=
  (e = .returned (.bool false) ∧ (∀ x ∈ hp, x.stamp ≠ s) ∧ IsQ w' S L hp) ∨ (e = .returned (.bool true) ∧ ∃ x hp', x.stamp = s ∧ IsQ w' S L hp' ∧ Heap hp' ∧ (x :: hp').Perm hp)
set_option maxRecDepth 4000 in
set_option maxHeartbeats 6400000 in
theorem qdrop_any (w : World) (S : Nat → Prop) (L : Bq 6) (hp : List Itm) (s : Int) (h : IsQ w S L hp) (hn : hp.length ≤ 90000) (hh : Heap hp) :
    Calls Tryd.prog 70 #[.pointer (some ⟨L.b, 6, none⟩), .int .i64 s] w fun e w' => QDrop S L hp s e w' ∧ Fr S w w' := by
  have HT := Lib.hid (fun W i x a b => take_any W S L hp i x a b (by omega) hh)
  have H := Lib.hid h
  have HSlt := Lib.hid (show ∀ k, S k → k < w.heap.size from fun k hk => Rq.lt h hk)
  obtain ⟨v, hb, ho, hS, hSv, hlt⟩ := h
  obtain ⟨a0, cap, rfl, hc, -⟩ := own_form ho
  have HB := Lib.hid hb
  have HO := Lib.hid ho
  obtain ⟨n, hnl⟩ : ∃ n, hp.length = n := ⟨_, rfl⟩
  have HN := Lib.hid hnl
  rw [hnl] at hb HB hn
  have HO2 := Lib.hid (show w.ownsRow 0 113 4 (.slice a0 n cap) n (its hp) from by rw [← hnl]; exact ho)
  have c6 := blk_cell hb 6 (L.get _)
  clear hb ho hlt hS hSv hh hc hnl
  go_enter Tryd.func70, Tryd.ntmps70
  go_wp2_with fail
  go_loopw [14] (fun i wr => ∃ j : Nat, j ≤ n ∧ i = .int .i64 j ∧ (∀ (k : Nat) (x : Itm), k < j → hp[k]? = some x → x.stamp ≠ s) ∧ Fr (fun _ => False) w wr) (fun i _ => ((n : Int) - intOf i).toNat)
  case atStart => exact ⟨0, by omega, rfl, fun k x hk => absurd hk (by omega), Fr.refl _ _⟩
  case round =>
    obtain ⟨j, hj, rfl, hno, hf⟩ := hrel
    have HF := Lib.hid hf
    have HNo := Lib.hid hno
    by_cases hjm : j < n
    · have hjI : (j : Int) < n := by omega
      have hjJ : (0 : Int) ≤ j := by omega
      obtain ⟨g, cc, e0⟩ := own_some HO2.out (by omega)
      simp only [Value.slice.injEq] at e0
      obtain ⟨rfl, -, rfl⟩ := e0
      obtain ⟨x, hx⟩ : ∃ x, hp[j]? = some x := ⟨hp[j]'(by rw [HN.out]; exact hjm), List.getElem?_eq_getElem _⟩
      obtain ⟨x0, x1, x2, x3⟩ := own_itm (own_fr HO2.out hf (fun _ _ h => h)) HN.out hx
      have HX := Lib.hid hx
      have w1 : IntKind.i64.wrap ((j : Int) + 1) = j + 1 := IntWalk.i64_in _ (by omega)
      have hQr := H.out.fr hf (fun _ _ h => h)
      have hlt := HSlt.out
      have hfs := hf.size
      have HTk := Lib.hid (HT.out _ j x (hQr.fr (S2 := fun _ => False) ((Fr.refl _ wr).alloc (.cells #[.int .i64 x.due, .int .i64 x.stamp, .int .u64 x.id.hi, .int .u64 x.id.lo] 113)) (fun _ _ h => h)) hx)
      by_cases he : x.stamp = s
      · have heI : (x.stamp == s) = true := by simpa using he
        have HE := Lib.hid he
        clear hf hno hx hQr hlt hfs he
        go_wp2_with fail
        refine HTk.out.mono ?_
        rintro e w5 ⟨rfl, h5, q5, u5, p5, f5⟩
        have Q5 := Lib.hid q5; have U5 := Lib.hid u5; have P5 := Lib.hid p5; have F5 := Lib.hid f5
        clear q5 u5 p5 f5
        go_wp2_with fail
        go_ret
        exact ⟨.inr ⟨rfl, x, h5, HE.out, Q5.out, U5.out, P5.out⟩, ((HF.out.mono (fun _ h => h.elim)).alloc _).then_ F5.out (fun k hk => .inl hk)⟩
      · have heI : (x.stamp == s) = false := by simpa using he
        have HE := Lib.hid he
        clear hf hno hx hQr hlt hfs he
        go_wp2_with fail
        go_roundw
        case rel => exact ⟨j + 1, by omega, by go_num, fun k y hk hy => by
          by_cases e : k = j
          · subst e
            rw [HX.out] at hy
            cases hy
            exact HE.out
          · exact HNo.out k y (by omega) hy, by (repeat (first | (with_reducible exact Fr.refl _ _) | (with_reducible refine Fr.drew ?_) | (with_reducible refine Fr.drewN ?_ _) | (with_reducible refine Fr.alloc ?_ _) | (with_reducible refine Fr.set1 ?_ _) | (with_reducible refine Fr.setNew ?_ (by omega) _))) <;> exact HF.out⟩
        case measure => simp [intOf]; omega
    · have hjI : ¬ (j : Int) < n := by omega
      clear hf hno
      go_wp2_with fail
      go_ret
      refine ⟨.inl ⟨rfl, fun x hx => ?_, H.out.fr HF.out (fun _ _ h => h)⟩, HF.out.mono (fun _ h => h.elim)⟩
      obtain ⟨k, hk, rfl⟩ := List.getElem_of_mem hx
      have := HN.out
      exact HNo.out k _ (by omega) (List.getElem?_eq_getElem hk)
end Go.Proofs.YtjchjpmgbmeohaaDoor

/- Package queue: Len, First. -/
set_option linter.unusedSimpArgs false
set_option linter.unusedVariables false
namespace Go.Proofs.YtjchjpmgbmeohaaDoor
open Go.RowKit

theorem qlen_any (w : World) (S : Nat → Prop) (L : Bq 6) (hp : List Itm) (h : IsQ w S L hp) :
    Calls Tryd.prog 103 #[.pointer (some ⟨L.b, 6, none⟩)] w fun e w' => e = .returned (.int .i64 hp.length) ∧ Fr (fun _ => False) w w' := by
  obtain ⟨v, hb, ho, hS, hSv, hlt⟩ := h
  obtain ⟨a0, cap, rfl, hc, -⟩ := own_form ho
  obtain ⟨n, hnl⟩ : ∃ n, hp.length = n := ⟨_, rfl⟩
  rw [hnl] at hb
  rw [hnl]
  have c6 := blk_cell hb 6 (L.get _)
  clear hb ho hlt hS hSv hc hnl
  go_enter Tryd.func103, Tryd.ntmps103
  go_wp2_with fail
  go_ret
  exact ⟨rfl, by repeat (first | (with_reducible exact Fr.refl _ _) | (with_reducible refine Fr.drew ?_) | (with_reducible refine Fr.drewN ?_ _) | (with_reducible refine Fr.alloc ?_ _) | (with_reducible refine Fr.set1 ?_ _) | (with_reducible refine Fr.setNew ?_ (by omega) _))⟩
def Itm.zero : Itm := ⟨0, 0, ⟨0, 0⟩⟩
set_option maxRecDepth 4000 in
set_option maxHeartbeats 3200000 in
theorem qfirst_any (w : World) (S : Nat → Prop) (L : Bq 6) (hp : List Itm) (x : Itm) (is : Bool) (h : IsQ w S L hp) (hx : hp[0]? = if is then some x else none) (hz : is = false → x = Itm.zero) (hn : hp.length ≤ 100000) :
    Calls Tryd.prog 84 #[.pointer (some ⟨L.b, 6, none⟩)] w fun e w' => e = .returned (.tuple #[.agg #[.int .i64 x.due, .int .i64 x.stamp, .int .u64 x.id.hi, .int .u64 x.id.lo], .bool is]) ∧ Fr (fun _ => False) w w' := by
  have HL := Lib.hid (fun W a => qlen_any W S L hp a)
  have H := Lib.hid h
  have HX := Lib.hid hx
  have FA := Lib.hid ((Fr.refl (fun _ => False) w).alloc (.cells #[.int .i64 0, .int .i64 0, .int .u64 0, .int .u64 0] 113))
  have BA := Lib.hid (heap_alloc_new w (.cells #[.int .i64 0, .int .i64 0, .int .u64 0, .int .u64 0] 113))
  have HQa := Lib.hid (HL.out _ (h.fr FA.out (fun _ _ h => h)))
  cases is with
  | false =>
    obtain rfl := hz rfl
    have hl : hp.length = 0 := by
      cases hp with
      | nil => rfl
      | cons a l => simp at hx
    rw [hl] at HQa
    clear hx h hl hz
    go_enter Tryd.func84, Tryd.ntmps84
    go_wp2_with fail
    refine HQa.out.mono ?_
    rintro e w5 ⟨rfl, f5⟩
    have F5 := Lib.hid (FA.out.then_ f5 (fun _ h => h.elim))
    have B5 := Lib.hid (f5.blk BA.out (fun h => h))
    clear f5
    go_wp2_with (first | ((refine wpList_store_row rfl 113 (.tmp 2) (.tmp 7) rfl w.heap.size #[.int .i64 0, .int .i64 0, .int .u64 0, .int .u64 0] rfl rfl B5.out rfl rfl (by simp [Value.oneCell']) ?_); intro w9 hb9 f9; have HB9 := Lib.hid hb9; have F9 := Lib.hid f9; clear hb9 f9) | fail)
    refine bodyPost_ret (results_cell2 (p := 2) (q := 3) rfl _ _ w.heap.size 113 _ (0, 0) _ rfl HB9.out Tryd.underlying113 rfl rfl) rfl ?_
    exact ⟨rfl, F5.out.then_ F9.out (fun k hk => .inr (by omega))⟩
  | true =>
    have hl : 0 < hp.length := (List.getElem?_eq_some_iff.1 hx).1
    have HL2 := Lib.hid hl
    obtain ⟨n, hnl⟩ : ∃ n, hp.length = n := ⟨_, rfl⟩
    have HN := Lib.hid hnl
    rw [hnl] at HQa hl
    obtain ⟨v, hb, ho, hS, hSv, hlt⟩ := h
    obtain ⟨g, cap, rfl⟩ := own_some ho (by omega)
    rw [hnl] at hb ho
    have HB := Lib.hid hb
    have HO := Lib.hid ho
    have b1 : ((n : Int) == 0) = false := by simp; omega
    have b2 : (0 : Int) < n := by omega
    have b3 : 0 < n := by omega
    clear hb ho hS hSv hlt hx hz hnl hl
    go_enter Tryd.func84, Tryd.ntmps84
    go_wp2_with fail
    refine HQa.out.mono ?_
    rintro e w5 ⟨rfl, f5⟩
    have F5 := Lib.hid (FA.out.then_ f5 (fun _ h => h.elim))
    have B5 := Lib.hid (f5.blk BA.out (fun h => h))
    have c6 := blk_cell (F5.out.blk HB.out (fun h => h)) 6 (L.get _)
    obtain ⟨x0, x1, x2, x3⟩ := own_itm (own_fr HO.out F5.out (fun _ _ h => h)) HN.out HX.out
    simp only [Nat.zero_mul, Nat.zero_add] at x0 x1 x2 x3
    clear f5
    go_wp2_with (first | ((refine wpList_store_row rfl 113 (.tmp 2) (.tmp 13) rfl w.heap.size #[.int .i64 x.due, .int .i64 x.stamp, .int .u64 x.id.hi, .int .u64 x.id.lo] rfl rfl B5.out rfl rfl (by simp [Value.oneCell']) ?_); intro w9 hb9 f9; have HB9 := Lib.hid hb9; have F9 := Lib.hid f9; clear hb9 f9) | fail)
    refine bodyPost_ret (results_cell2 (p := 2) (q := 3) rfl _ _ w.heap.size 113 _ (0, 0) _ rfl HB9.out Tryd.underlying113 rfl rfl) rfl ?_
    exact ⟨rfl, F5.out.then_ F9.out (fun k hk => .inr (by omega))⟩
end Go.Proofs.YtjchjpmgbmeohaaDoor

/- Books: what is to end goes on. -/
set_option linter.unusedSimpArgs false
set_option linter.unusedVariables false
namespace Go.Proofs.YtjchjpmgbmeohaaDoor
open Go.RowKit

/-- The queue's place in the state's block. -/
def Dd.L6 (d : Dd) (lv sv : Value) (c s : Int) : Bq 6 := ⟨d.B, fun v => #[lv, .pointer (some ⟨d.A, 0, none⟩), .pointer (some ⟨d.K, 0, none⟩), .pointer (some ⟨d.I, 0, none⟩), .pointer (some ⟨d.N, 0, none⟩), sv, v, .int .i64 c, .int .i64 s], fun _ => rfl, fun _ _ => rfl⟩
section
variable {w w' : World} {lab : Nat → Nat} {d : Dd} {r : Raw} {es : List Ent} {big : Nat} {lv sv qv : Value} {ps : List Pr} {hp : List Itm}
theorem Sta.ensAt (h : Sta w lab d r es big) (b : SB w lab d r es big lv sv qv ps hp) : IsQ w (fun k => lab k = 7 ∨ k = d.B) (d.L6 lv sv r.clock r.stamp) hp := by
  refine ⟨qv, b.blk, b.ens, .inr rfl, fun k hk => ⟨.inl (b.ensl k hk), fun e => ?_⟩, fun k hk => ?_⟩
  · have h1 := b.ensl k hk
    have h8 := h.labB
    rw [show k = d.B from e, h8] at h1
    cases h1
  · rcases hk with hk | rfl
    · exact h.lt k (by rw [hk]; decide)
    · exact h.lt _ (by rw [h.labB]; decide)
theorem Sta.reens (h : Sta w lab d r es big) (b : SB w lab d r es big lv sv qv ps hp) {S' : Nat → Prop} {hq : List Itm} {f : Int → Option Itm} {big' : Nat} (hf : Fr (fun k => lab k = 7 ∨ k = d.B) w w')
    (ho : IsQ w' S' (d.L6 lv sv r.clock r.stamp) hq) (hS : ∀ k, S' k → (lab k = 7 ∨ k = d.B) ∨ w.heap.size ≤ k) (hR : QRel hq f) (hb : big ≤ big') (hl : hq.length + es.length ≤ big') : Sta w' (ext lab w.heap.size w'.heap.size 7) d { r with ends := f } es big' := by
  have hr := ext_rel (c := 7) h hf.size
  have hn : ∀ k, (lab k = 7 ∨ k = d.B) → lab k = 7 ∨ lab k = 8 := fun k hk => hk.imp id (fun e => by rw [e]; exact h.labB)
  have hne : ∀ c, c ≠ 7 → c ≠ 8 → ∀ k, (lab k = 7 ∨ k = d.B) → lab k ≠ c := fun c h1 h8 k hs e => by
    rcases hn k hs with h | h
    · rw [h] at e; exact h1 e.symm
    · rw [h] at e; exact h8 e.symm
  have hk : ∀ k c, c ≠ 0 → lab k = c → ext lab w.heap.size w'.heap.size 7 k = c := fun k c h0 h1 => by rw [hr.nz k (by rw [h1]; exact h0), h1]
  obtain ⟨qv', hb', ho', _, hl', hlt'⟩ := ho
  refine ⟨⟨lv, sv, qv', ps, hq, ⟨hb', own_fr b.log hf (fun k hk hs => hne 1 (by decide) (by decide) k hs (b.logl k hk)), fun k h => hk k 1 (by decide) (b.logl k h), own_fr b.sts hf (fun k hk hs => hne 6 (by decide) (by decide) k hs (b.stsl k hk)), fun k h => hk k 6 (by decide) (b.stsl k h), b.orel, ho', fun k hk' => ?_, hR, Nat.le_trans b.psb hb, hl⟩⟩, hk _ 8 (by decide) h.labB, h.acc.rel (by decide) hf (hne 2 (by decide) (by decide)) hr, h.kep.rel (by decide) hf (hne 3 (by decide) (by decide)) hr, tab_more (h.ids.rel (by decide) hf (hne 4 (by decide) (by decide)) hr) hb, tab_more (h.nms.rel (by decide) hf (hne 5 (by decide) (by decide)) hr) hb, hr.lt, ents_rel h.ents hf (hne 9 (by decide) (by decide)) hr⟩
  have hs := hl' k hk'
  rcases hS k hs.1 with (h6 | rfl) | hge
  · exact hk k 7 (by decide) h6
  · exact absurd rfl hs.2
  · rw [ext, if_neg (by omega), if_pos (hlt' k hs.1)]
theorem Sta.stp7 (h : Sta w lab d r es big) (hf : Fr (fun k => lab k = 7 ∨ k = d.B) w w') : Stp w.heap.size w lab w' (ext lab w.heap.size w'.heap.size 7) := ext_stp (Nat.le_refl _) (hf.mono (fun k hk => by
  rcases hk with hk | rfl
  · rw [hk]; decide
  · rw [h.labB]; decide))
theorem ensPutS (w : World) (lab : Nat → Nat) (d : Dd) (r : Raw) (es : List Ent) (big : Nat) (x : Itm) (h : Sta w lab d r es big) (hb : big ≤ 90000) (hx : r.ends x.stamp = none) :
    Calls Tryd.prog 68 #[.pointer (some ⟨d.B, 6, none⟩), .agg #[.int .i64 x.due, .int .i64 x.stamp, .int .u64 x.id.hi, .int .u64 x.id.lo]] w fun e w' => e = .returned (.tuple #[]) ∧ ∃ lab', Sta w' lab' d { r with ends := upd r.ends x.stamp (some x) } es (big + 1) ∧ Stp w.heap.size w lab w' lab' := by
  obtain ⟨lv, sv, qv, ps, hp, b⟩ := h.bb
  have hpb := b.hpb
  refine (qput_any w _ (d.L6 lv sv r.clock r.stamp) hp x (h.ensAt b) (by omega) b.qrel.heap).mono ?_
  rintro e w' ⟨rfl, hq, ho, hh, hpm, hf⟩
  exact ⟨rfl, _, h.reens b hf ho (fun k hk => hk.imp id (fun h => h.1)) (b.qrel.put hh hpm hx) (Nat.le_succ _) (by rw [hpm.length_eq]; simp only [List.length_cons]; omega), h.stp7 hf⟩
theorem ensDropS (w : World) (lab : Nat → Nat) (d : Dd) (r : Raw) (es : List Ent) (big : Nat) (s : Int) (h : Sta w lab d r es big) (hb : big ≤ 90000) :
    Calls Tryd.prog 70 #[.pointer (some ⟨d.B, 6, none⟩), .int .i64 s] w fun e w' => e = .returned (.bool (r.ends s).isSome) ∧ ∃ lab', Sta w' lab' d { r with ends := upd r.ends s none } es big ∧ Stp w.heap.size w lab w' lab' := by
  obtain ⟨lv, sv, qv, ps, hp, b⟩ := h.bb
  have hpb := b.hpb
  refine (qdrop_any w _ (d.L6 lv sv r.clock r.stamp) hp s (h.ensAt b) (by omega) b.qrel.heap).mono ?_
  rintro e w' ⟨hq, hf⟩
  rcases hq with ⟨rfl, hno, ho⟩ | ⟨rfl, x, hq, hx, ho, hh, hpm⟩
  · have hn : r.ends s = none := by
      cases hx : r.ends s with
      | none => rfl
      | some y => obtain ⟨h1, h2⟩ := (b.qrel.iff s y).1 hx; exact absurd h2 (hno y h1)
    have e1 : upd r.ends s none = r.ends := by
      funext t
      by_cases e : t = s
      · rw [e, upd_self, hn]
      · rw [upd_ne _ _ e]
    rw [hn, e1]
    exact ⟨rfl, _, h.reens b hf ho (fun k hk => .inl hk) b.qrel (Nat.le_refl _) b.hpb, h.stp7 hf⟩
  · have hs : r.ends s = some x := (b.qrel.iff s x).2 ⟨hpm.mem_iff.1 (List.mem_cons_self ..), hx⟩
    have hl := hpm.length_eq
    rw [List.length_cons] at hl
    rw [hs]
    refine ⟨rfl, _, h.reens b hf ho (fun k hk => .inl hk) (hx ▸ b.qrel.drop hh hpm) (Nat.le_refl _) (by omega), h.stp7 hf⟩
/-- What First tells: none waits, or the one ahead of all. -/
def FirstR (f : Int → Option Itm) (x : Itm) (is : Bool) : Prop := (is = false ∧ ∀ s, f s = none) ∨ (is = true ∧ f x.stamp = some x ∧ ∀ s y, f s = some y → ¬ y.before x)
theorem ensFirstS (w : World) (lab : Nat → Nat) (d : Dd) (r : Raw) (es : List Ent) (big : Nat) (h : Sta w lab d r es big) (hb : big ≤ 90000) : ∃ x is, FirstR r.ends x is ∧
    Calls Tryd.prog 84 #[.pointer (some ⟨d.B, 6, none⟩)] w fun e w' => e = .returned (.tuple #[.agg #[.int .i64 x.due, .int .i64 x.stamp, .int .u64 x.id.hi, .int .u64 x.id.lo], .bool is]) ∧ Fr (fun _ => False) w w' := by
  obtain ⟨lv, sv, qv, ps, hp, b⟩ := h.bb
  have hpb := b.hpb
  cases hp0 : hp with
  | nil =>
    subst hp0
    refine ⟨Itm.zero, false, .inl ⟨rfl, fun s => ?_⟩, qfirst_any w _ (d.L6 lv sv r.clock r.stamp) [] Itm.zero false (h.ensAt b) rfl (fun _ => rfl) (by simp)⟩
    cases hx : r.ends s with
    | none => rfl
    | some y => obtain ⟨h1, -⟩ := (b.qrel.iff s y).1 hx; cases h1
  | cons x l =>
    subst hp0
    refine ⟨x, true, .inr ⟨rfl, (b.qrel.iff _ _).2 ⟨List.mem_cons_self .., rfl⟩, fun s y hy => ?_⟩, qfirst_any w _ (d.L6 lv sv r.clock r.stamp) (x :: l) x true (h.ensAt b) rfl (fun h => by cases h) (by omega)⟩
    obtain ⟨h1, -⟩ := (b.qrel.iff s y).1 hy
    obtain ⟨k, hk, e⟩ := List.getElem_of_mem h1
    exact heap_first b.qrel.heap (x := x) rfl k y (by rw [← e]; exact List.getElem?_eq_getElem hk)
end
end Go.Proofs.YtjchjpmgbmeohaaDoor

/- Books: when a transfer that waits ends. -/
set_option linter.unusedSimpArgs false
set_option linter.unusedVariables false
namespace Go.Proofs.YtjchjpmgbmeohaaDoor
open Go.RowKit

def Kp.itm (k : Kp) : Itm := ⟨IntKind.i64.wrap (k.move.born + k.move.timeout), k.move.stamp, k.move.id⟩
def dueB (k : Kp) : Bool := k.fate == 1 && decide (0 < k.move.timeout)
theorem blk_four {w : World} {g : Nat} {a b c e x y u v : Value} {t : TypeId} (h : w.heap[g]? = some (.cells #[a, b, c, e] t (0, 0))) : ((((w.setCell ⟨g, 0, none⟩ x).setCell ⟨g, 1, none⟩ y).setCell ⟨g, 2, none⟩ u).setCell ⟨g, 3, none⟩ v).heap[g]? = some (.cells #[x, y, u, v] t (0, 0)) := by
  have h2 := blk_set (blk_set (blk_set (blk_set h 0 x) 1 y) 2 u) 3 v
  simpa using h2
set_option maxRecDepth 4000 in
set_option maxHeartbeats 3200000 in
theorem due_any (w : World) (k : Kp) : Calls Tryd.prog 67 #[.agg k.cells.toArray] w fun e w' => e = .returned (.tuple #[.agg #[.int .i64 k.itm.due, .int .i64 k.itm.stamp, .int .u64 k.itm.id.hi, .int .u64 k.itm.id.lo], .bool (dueB k)]) ∧ Fr (fun _ => False) w w' := by
  obtain ⟨m, hm⟩ : ∃ m, k.move = m := ⟨_, rfl⟩
  obtain ⟨f, hf⟩ : ∃ f, k.fate = f := ⟨_, rfl⟩
  have hi : k.itm = ⟨IntKind.i64.wrap (m.born + m.timeout), m.stamp, m.id⟩ := by rw [Kp.itm, hm]
  have hd : dueB k = (f == 1 && decide (0 < m.timeout)) := by rw [dueB, hm, hf]
  rw [hi, hd]
  obtain ⟨C, hC⟩ : ∃ C, k.cells.toArray = C := ⟨_, rfl⟩
  rw [hC]
  have B0 := Lib.hid (blk_alloc (heap_alloc_new w (.cells C 63)) (.cells #[.int .i64 0, .int .i64 0, .int .u64 0, .int .u64 0] 113))
  have B1 := Lib.hid (blk1 w (.cells C 63) (.cells #[.int .i64 0, .int .i64 0, .int .u64 0, .int .u64 0] 113))
  have FA := Lib.hid (((Fr.refl (fun _ => False) w).alloc (.cells C 63)).alloc (.cells #[.int .i64 0, .int .i64 0, .int .u64 0, .int .u64 0] 113))
  have hg : ∀ (j : Nat) (v : Value), k.cells[j]? = some v → ((w.alloc (.cells C 63)).alloc (.cells #[.int .i64 0, .int .i64 0, .int .u64 0, .int .u64 0] 113)).cell? ⟨w.heap.size, j, none⟩ = some v := fun j v hv => blk_cell B0.out j (by rw [← hC]; simpa using hv)
  have q16 := hg 16 (.int .u64 m.id.hi) (by rw [← hm]; rfl)
  have q17 := hg 17 (.int .u64 m.id.lo) (by rw [← hm]; rfl)
  have q26 := hg 26 (.int .i64 m.timeout) (by rw [← hm]; rfl)
  have q30 := hg 30 (.int .i64 m.stamp) (by rw [← hm]; rfl)
  have q31 := hg 31 (.int .i64 m.born) (by rw [← hm]; rfl)
  have q32 := hg 32 (.int .i64 f) (by rw [← hf]; rfl)
  have z0 := blk_free B1.out 0; have z1 := blk_free B1.out 1; have z2 := blk_free B1.out 2; have z3 := blk_free B1.out 3
  have y0 := blk_cell B1.out 0 rfl; have y1 := blk_cell B1.out 1 rfl; have y2 := blk_cell B1.out 2 rfl; have y3 := blk_cell B1.out 3 rfl
  obtain ⟨bn, hbn⟩ : ∃ b, IntKind.i64.wrap (m.born + m.timeout) = b := ⟨_, rfl⟩
  rw [hbn]
  have HB4 := Lib.hid (fun (W : World) (h : W.heap[w.heap.size + 1]? = some (.cells #[.int .i64 0, .int .i64 0, .int .u64 0, .int .u64 0] 113 (0, 0))) => blk_four (x := .int .i64 bn) (y := .int .i64 m.stamp) (u := .int .u64 m.id.hi) (v := .int .u64 m.id.lo) h)
  have q26x : ((w.alloc (.cells C 63)).alloc (.cells #[.int .i64 bn, .int .i64 m.stamp, .int .u64 m.id.hi, .int .u64 m.id.lo] 113)).cell? ⟨w.heap.size, 26, none⟩ = some (.int .i64 m.timeout) := blk_cell (blk_alloc (heap_alloc_new w (.cells C 63)) _) 26 (by rw [← hC, ← hm]; rfl)
  clear hg hC hi hd hm hf
  cases hc : (f == 1)
  · go_enter Tryd.func67, Tryd.ntmps67
    go_upto_region 1 with fail
    go_region
    all_goals
      go_wp2_with fail
      refine bodyPost_ret (results_cell2 (p := 2) (q := 3) rfl _ _ (w.heap.size + 1) 113 _ (0, 0) _ rfl (blk_drew (blk1 w _ _)) Tryd.underlying113 rfl rfl) rfl ?_
      exact ⟨rfl, (((Fr.refl _ w).alloc _).alloc _).drew⟩
  by_cases ht : 0 < m.timeout
  · have Hd := Lib.hid (decide_eq_true ht)
    go_enter Tryd.func67, Tryd.ntmps67
    go_upto_region 1 with fail
    go_region
    all_goals
      go_wp2_with fail
      refine bodyPost_ret (results_cell2 (p := 2) (q := 3) rfl _ _ (w.heap.size + 1) 113 _ (0, 0) _ rfl (blk_drew (blk1 w _ _)) Tryd.underlying113 rfl rfl) rfl ?_
      exact ⟨by rw [Hd.out]; rfl, (((Fr.refl _ w).alloc _).alloc _).drew⟩
  · have Hd := Lib.hid (decide_eq_false ht)
    go_enter Tryd.func67, Tryd.ntmps67
    go_upto_region 1 with fail
    go_region
    all_goals
      go_wp2_with fail
      refine bodyPost_ret (results_cell2 (p := 2) (q := 3) rfl _ _ (w.heap.size + 1) 113 _ (0, 0) _ rfl (blk_drew (blk1 w _ _)) Tryd.underlying113 rfl rfl) rfl ?_
      exact ⟨by rw [Hd.out]; rfl, (((Fr.refl _ w).alloc _).alloc _).drew⟩
end Go.Proofs.YtjchjpmgbmeohaaDoor

/- Books: Keep. -/
set_option linter.unusedSimpArgs false
set_option linter.unusedVariables false
namespace Go.Proofs.YtjchjpmgbmeohaaDoor
open Go.RowKit

theorem fun3_blk (w : World) (a b c : Obj) : (((w.alloc a).alloc b).alloc c).heap[w.heap.size + 1]? = some b := blk_alloc (blk1 w a b) c
theorem ld_nm {P : Program} {W : World} {g o : Nat} {x y : Value} (hx : W.cell? ⟨g, o, none⟩ = some x) (hy : W.cell? ⟨g, o + 1, none⟩ = some y) : (loadCells ⟨g, o, none⟩ 2).run P W = .ok #[x, y] W := by
  have h := run_loadCells_list (P := P) W ⟨g, o, none⟩ [x, y] (fun j v hv => by
    have hadd : (⟨g, o, none⟩ : Addr).add j = ⟨g, o + j, none⟩ := by unfold Addr.add; split <;> simp_all
    rw [hadd]
    match j, hv with
    | 0, hv => cases hv; exact hx
    | 1, hv => cases hv; exact hy
    | j + 2, hv => simp at hv)
  simpa using h
/-- The transfer that is kept. -/
def kept1 (a m : Tx) (wt : Bool) (s c : Int) : Kp := ⟨a, { m with stamp := s, born := c }, if wt then 1 else 0⟩
/-- What Keep makes of a state. -/
inductive KeepR (r : Raw) (es : List Ent) (a m : Tx) (wt : Bool) : Int → Raw → List Ent → Prop
  | full (h : 96 ≤ r.kept.length) : KeepR r es a m wt 6 r es
  | there (h : r.kept.length < 96) (h2 : (r.nms m.id).isSome = true) : KeepR r es a m wt 1 r es
  | rests (h : r.kept.length < 96) (h2 : r.nms m.id = none) (hd : dueB (kept1 a m wt (r.stamp + 1) r.clock) = false) (b1 b2 b3 b4 b5 b6 : Nat) : KeepR r es a m wt 0 { r with kept := r.kept ++ [kept1 a m wt (r.stamp + 1) r.clock], nms := upd r.nms m.id (some (r.kept.length : Int)), sts := upd r.sts (r.stamp + 1) (some (r.kept.length : Int)), stamp := r.stamp + 1 } (.nmDrop b1 b2 b3 m (kept1 a m wt (r.stamp + 1) r.clock) :: .kepCut b4 b5 r.kept.length :: .stDec b6 :: es)
  | waits (h : r.kept.length < 96) (h2 : r.nms m.id = none) (hd : dueB (kept1 a m wt (r.stamp + 1) r.clock) = true) (b1 b2 b3 b4 b5 b6 b7 b8 : Nat) : KeepR r es a m wt 0 { r with kept := r.kept ++ [kept1 a m wt (r.stamp + 1) r.clock], nms := upd r.nms m.id (some (r.kept.length : Int)), sts := upd r.sts (r.stamp + 1) (some (r.kept.length : Int)), ends := upd r.ends (r.stamp + 1) (some (kept1 a m wt (r.stamp + 1) r.clock).itm), stamp := r.stamp + 1 } (.enDrop b7 b8 (kept1 a m wt (r.stamp + 1) r.clock).itm :: .nmDrop b1 b2 b3 m (kept1 a m wt (r.stamp + 1) r.clock) :: .kepCut b4 b5 r.kept.length :: .stDec b6 :: es)
def KeepFPost (w : World) (lab : Nat → Nat) (d : Dd) (r : Raw) (es : List Ent) (big : Nat) (a m : Tx) (wt : Bool) (e : Ending) (w' : World) : Prop :=
  ∃ c lab' r' es', e = .returned (.int .i64 c) ∧ KeepR r es a m wt c r' es' ∧ Sta w' lab' d r' es' (big + 7) ∧ Stp w.heap.size w lab w' lab'
/-- Keep's own blocks: the state's box, the transfer's, the kept one. -/
structure KOwn (w : World) (lab : Nat → Nat) (d : Dd) (m : Tx) (k : Kp) (s0 sm sk : Nat) : Prop where
  b0 : w.heap[s0]? = some (.cells #[.pointer (some ⟨d.B, 0, none⟩)] 35 (0, 0))
  bm : w.heap[sm]? = some (.cells m.cells.toArray 40 (0, 0))
  bk : w.heap[sk]? = some (.cells k.cells.toArray 63 (0, 0))
  l0 : lab s0 = 0 ∨ lab s0 = 9
  lm : lab sm = 0 ∨ lab sm = 9
  lk : lab sk = 0 ∨ lab sk = 9
theorem KOwn.stp {n : Nat} {w w' : World} {lab lab' : Nat → Nat} {d : Dd} {m : Tx} {k : Kp} {s0 sm sk : Nat} (o : KOwn w lab d m k s0 sm sk) (p : Stp n w lab w' lab') : KOwn w' lab' d m k s0 sm sk :=
  ⟨(p.blk o.b0 o.l0).1, (p.blk o.bm o.lm).1, (p.blk o.bk o.lk).1, (p.blk o.b0 o.l0).2, (p.blk o.bm o.lm).2, (p.blk o.bk o.lk).2⟩
theorem KOwn.fr {w w' : World} {lab : Nat → Nat} {d : Dd} {m : Tx} {k : Kp} {s0 sm sk : Nat} (o : KOwn w lab d m k s0 sm sk) (f : Fr (fun _ => False) w w') : KOwn w' lab d m k s0 sm sk :=
  ⟨f.blk o.b0 (fun h => h), f.blk o.bm (fun h => h), f.blk o.bk (fun h => h), o.l0, o.lm, o.lk⟩
theorem KOwn.stamped {w : World} {lab : Nat → Nat} {d : Dd} {a m : Tx} {F : Int} {s0 sm sk : Nat} (o : KOwn w lab d m ⟨a, m, F⟩ s0 sm sk) (h0 : s0 ≠ sk) (hm : sm ≠ sk) (s c : Int) : KOwn ((w.setCell ⟨sk, 30, none⟩ (.int .i64 s)).setCell ⟨sk, 31, none⟩ (.int .i64 c)) lab d m ⟨a, { m with stamp := s, born := c }, F⟩ s0 sm sk :=
  ⟨blk_far2 (blk_far2 o.b0 h0 _) h0 _, blk_far2 (blk_far2 o.bm hm _) hm _, blk_set (blk_set o.bk 30 (.int .i64 s)) 31 (.int .i64 c), o.l0, o.lm, o.lk⟩
theorem Stp.frs {n : Nat} {w w1 w2 : World} {lab lab' : Nat → Nat} {S2 : Nat → Prop} (h : Stp n w lab w1 lab') (f : Fr S2 w1 w2) (hs : ∀ k, S2 k → w.heap.size ≤ k) : Stp n w lab w2 lab' := ⟨h.fr.then_ f (fun k hk => .inr (hs k hk)), h.le, h.lx, h.nz, h.own⟩
attribute [-go_sem] loadCells
set_option maxRecDepth 4000 in
set_option maxHeartbeats 6400000 in
theorem keepFS (w : World) (lab : Nat → Nat) (d : Dd) (r : Raw) (es : List Ent) (big : Nat) (a m : Tx) (wt : Bool) (h : Sta w lab d r es big) (hb : big ≤ 80000) (h0 : 0 ≤ r.stamp) (h1 : r.stamp ≤ 4611686018427387904) (hlen : r.kept.length ≤ 10000) (hfr : r.ends (r.stamp + 1) = none) :
    Calls Tryd.prog 18 #[.pointer (some ⟨d.B, 0, none⟩), .agg #[.int .u64 a.id.hi, .int .u64 a.id.lo, .int .u64 a.debit.hi, .int .u64 a.debit.lo, .int .u64 a.credit.hi, .int .u64 a.credit.lo, .int .u64 a.amount.hi, .int .u64 a.amount.lo, .int .u64 a.pending.hi, .int .u64 a.pending.lo, .int .i64 a.timeout, .int .i64 a.ledger, .int .i64 a.code, .int .i64 a.flags, .int .i64 a.stamp, .int .i64 a.born], .agg #[.int .u64 m.id.hi, .int .u64 m.id.lo, .int .u64 m.debit.hi, .int .u64 m.debit.lo, .int .u64 m.credit.hi, .int .u64 m.credit.lo, .int .u64 m.amount.hi, .int .u64 m.amount.lo, .int .u64 m.pending.hi, .int .u64 m.pending.lo, .int .i64 m.timeout, .int .i64 m.ledger, .int .i64 m.code, .int .i64 m.flags, .int .i64 m.stamp, .int .i64 m.born], .bool wt] w (KeepFPost w lab d r es big a m wt) := by
  have HS := Lib.hid (((h.alloc (.cells #[.pointer (some ⟨d.B, 0, none⟩)] 35)).alloc (.cells #[.int .u64 a.id.hi, .int .u64 a.id.lo, .int .u64 a.debit.hi, .int .u64 a.debit.lo, .int .u64 a.credit.hi, .int .u64 a.credit.lo, .int .u64 a.amount.hi, .int .u64 a.amount.lo, .int .u64 a.pending.hi, .int .u64 a.pending.lo, .int .i64 a.timeout, .int .i64 a.ledger, .int .i64 a.code, .int .i64 a.flags, .int .i64 a.stamp, .int .i64 a.born] 40)).alloc (.cells #[.int .u64 m.id.hi, .int .u64 m.id.lo, .int .u64 m.debit.hi, .int .u64 m.debit.lo, .int .u64 m.credit.hi, .int .u64 m.credit.lo, .int .u64 m.amount.hi, .int .u64 m.amount.lo, .int .u64 m.pending.hi, .int .u64 m.pending.lo, .int .i64 m.timeout, .int .i64 m.ledger, .int .i64 m.code, .int .i64 m.flags, .int .i64 m.stamp, .int .i64 m.born] 40))
  obtain ⟨-, c2, -, c4, -, -, -, -⟩ := HS.out.cells
  have B0 := Lib.hid (blk_alloc (blk_alloc (heap_alloc_new w (.cells #[.pointer (some ⟨d.B, 0, none⟩)] 35)) (.cells #[.int .u64 a.id.hi, .int .u64 a.id.lo, .int .u64 a.debit.hi, .int .u64 a.debit.lo, .int .u64 a.credit.hi, .int .u64 a.credit.lo, .int .u64 a.amount.hi, .int .u64 a.amount.lo, .int .u64 a.pending.hi, .int .u64 a.pending.lo, .int .i64 a.timeout, .int .i64 a.ledger, .int .i64 a.code, .int .i64 a.flags, .int .i64 a.stamp, .int .i64 a.born] 40)) (.cells #[.int .u64 m.id.hi, .int .u64 m.id.lo, .int .u64 m.debit.hi, .int .u64 m.debit.lo, .int .u64 m.credit.hi, .int .u64 m.credit.lo, .int .u64 m.amount.hi, .int .u64 m.amount.lo, .int .u64 m.pending.hi, .int .u64 m.pending.lo, .int .i64 m.timeout, .int .i64 m.ledger, .int .i64 m.code, .int .i64 m.flags, .int .i64 m.stamp, .int .i64 m.born] 40))
  have B1 := Lib.hid (fun3_blk w (.cells #[.pointer (some ⟨d.B, 0, none⟩)] 35) (.cells #[.int .u64 a.id.hi, .int .u64 a.id.lo, .int .u64 a.debit.hi, .int .u64 a.debit.lo, .int .u64 a.credit.hi, .int .u64 a.credit.lo, .int .u64 a.amount.hi, .int .u64 a.amount.lo, .int .u64 a.pending.hi, .int .u64 a.pending.lo, .int .i64 a.timeout, .int .i64 a.ledger, .int .i64 a.code, .int .i64 a.flags, .int .i64 a.stamp, .int .i64 a.born] 40) (.cells #[.int .u64 m.id.hi, .int .u64 m.id.lo, .int .u64 m.debit.hi, .int .u64 m.debit.lo, .int .u64 m.credit.hi, .int .u64 m.credit.lo, .int .u64 m.amount.hi, .int .u64 m.amount.lo, .int .u64 m.pending.hi, .int .u64 m.pending.lo, .int .i64 m.timeout, .int .i64 m.ledger, .int .i64 m.code, .int .i64 m.flags, .int .i64 m.stamp, .int .i64 m.born] 40))
  have B2 := Lib.hid (blk2 w (.cells #[.pointer (some ⟨d.B, 0, none⟩)] 35) (.cells #[.int .u64 a.id.hi, .int .u64 a.id.lo, .int .u64 a.debit.hi, .int .u64 a.debit.lo, .int .u64 a.credit.hi, .int .u64 a.credit.lo, .int .u64 a.amount.hi, .int .u64 a.amount.lo, .int .u64 a.pending.hi, .int .u64 a.pending.lo, .int .i64 a.timeout, .int .i64 a.ledger, .int .i64 a.code, .int .i64 a.flags, .int .i64 a.stamp, .int .i64 a.born] 40) (.cells #[.int .u64 m.id.hi, .int .u64 m.id.lo, .int .u64 m.debit.hi, .int .u64 m.debit.lo, .int .u64 m.credit.hi, .int .u64 m.credit.lo, .int .u64 m.amount.hi, .int .u64 m.amount.lo, .int .u64 m.pending.hi, .int .u64 m.pending.lo, .int .i64 m.timeout, .int .i64 m.ledger, .int .i64 m.code, .int .i64 m.flags, .int .i64 m.stamp, .int .i64 m.born] 40))
  have s0 := blk_cell B0.out 0 rfl
  have m0 := blk_cell B2.out 0 rfl
  have m1 := blk_cell B2.out 1 rfl
  have L0 := Lib.hid (h.free (Nat.le_refl _))
  have L1 := Lib.hid (h.free (Nat.le_succ w.heap.size))
  have L2 := Lib.hid (h.free (Nat.le_succ_of_le (Nat.le_succ w.heap.size)))
  have HF := Lib.hid ((((Fr.refl (fun _ => False) w).alloc (.cells #[.pointer (some ⟨d.B, 0, none⟩)] 35)).alloc (.cells #[.int .u64 a.id.hi, .int .u64 a.id.lo, .int .u64 a.debit.hi, .int .u64 a.debit.lo, .int .u64 a.credit.hi, .int .u64 a.credit.lo, .int .u64 a.amount.hi, .int .u64 a.amount.lo, .int .u64 a.pending.hi, .int .u64 a.pending.lo, .int .i64 a.timeout, .int .i64 a.ledger, .int .i64 a.code, .int .i64 a.flags, .int .i64 a.stamp, .int .i64 a.born] 40)).alloc (.cells #[.int .u64 m.id.hi, .int .u64 m.id.lo, .int .u64 m.debit.hi, .int .u64 m.debit.lo, .int .u64 m.credit.hi, .int .u64 m.credit.lo, .int .u64 m.amount.hi, .int .u64 m.amount.lo, .int .u64 m.pending.hi, .int .u64 m.pending.lo, .int .i64 m.timeout, .int .i64 m.ledger, .int .i64 m.code, .int .i64 m.flags, .int .i64 m.stamp, .int .i64 m.born] 40))
  have HZ := Lib.hid (show (((w.alloc (.cells #[.pointer (some ⟨d.B, 0, none⟩)] 35)).alloc (.cells #[.int .u64 a.id.hi, .int .u64 a.id.lo, .int .u64 a.debit.hi, .int .u64 a.debit.lo, .int .u64 a.credit.hi, .int .u64 a.credit.lo, .int .u64 a.amount.hi, .int .u64 a.amount.lo, .int .u64 a.pending.hi, .int .u64 a.pending.lo, .int .i64 a.timeout, .int .i64 a.ledger, .int .i64 a.code, .int .i64 a.flags, .int .i64 a.stamp, .int .i64 a.born] 40)).alloc (.cells #[.int .u64 m.id.hi, .int .u64 m.id.lo, .int .u64 m.debit.hi, .int .u64 m.debit.lo, .int .u64 m.credit.hi, .int .u64 m.credit.lo, .int .u64 m.amount.hi, .int .u64 m.amount.lo, .int .u64 m.pending.hi, .int .u64 m.pending.lo, .int .i64 m.timeout, .int .i64 m.ledger, .int .i64 m.code, .int .i64 m.flags, .int .i64 m.stamp, .int .i64 m.born] 40)).heap.size = w.heap.size + 3 from by simp)
  have HLen := Lib.hid (fun W l (h : Sta W l d r es big) => kepLenS W l d r es big h)
  have HGet := Lib.hid (fun W l (h : Sta W l d r es big) => nmGetS W l d r es big m.id h)
  have HStm := Lib.hid (And.intro h0 h1)
  have HLen0 := Lib.hid hlen
  have HFr := Lib.hid hfr
  obtain ⟨ln, hln⟩ : ∃ n : Nat, r.kept.length = n := ⟨_, rfl⟩
  have HLn := Lib.hid hln
  obtain ⟨gi, hgi⟩ : ∃ z : Int, (r.nms m.id).getD 0 = z := ⟨_, rfl⟩
  obtain ⟨gb, hgb⟩ : ∃ z : Bool, (r.nms m.id).isSome = z := ⟨_, rfl⟩
  have HGb := Lib.hid hgb
  rw [hln] at HLen
  rw [hgi, hgb] at HGet
  clear h h0 h1 hlen hln hgi hgb hfr
  by_cases hfull : 96 ≤ ln
  · have hfull2 : (96 : Int) ≤ ln := by omega
    go_enter Tryd.func18, Tryd.ntmps18
    go_wp2_with fail
    refine (HLen.out _ _ HS.out).mono ?_
    rintro e w1 ⟨rfl, rfl⟩
    go_wp2_with fail
    go_ret
    exact ⟨6, lab, r, es, rfl, .full (by rw [HLn.out]; exact hfull), HS.out.more (by omega), .of (Nat.le_refl _) HF.out⟩
  have hfull2 : ¬ (96 : Int) ≤ ln := by omega
  go_enter Tryd.func18, Tryd.ntmps18
  go_wp2_with fail
  refine (HLen.out _ _ HS.out).mono ?_
  rintro e w1 ⟨rfl, rfl⟩
  go_upto_region 5 with fail
  go_cut [9, 10] from 25 (fun v5 v6 w' => v5 = .int .i64 gi ∧ v6 = .bool gb ∧ Fr (fun _ => False) (((w.alloc (.cells #[.pointer (some ⟨d.B, 0, none⟩)] 35)).alloc (.cells #[.int .u64 a.id.hi, .int .u64 a.id.lo, .int .u64 a.debit.hi, .int .u64 a.debit.lo, .int .u64 a.credit.hi, .int .u64 a.credit.lo, .int .u64 a.amount.hi, .int .u64 a.amount.lo, .int .u64 a.pending.hi, .int .u64 a.pending.lo, .int .i64 a.timeout, .int .i64 a.ledger, .int .i64 a.code, .int .i64 a.flags, .int .i64 a.stamp, .int .i64 a.born] 40)).alloc (.cells #[.int .u64 m.id.hi, .int .u64 m.id.lo, .int .u64 m.debit.hi, .int .u64 m.debit.lo, .int .u64 m.credit.hi, .int .u64 m.credit.lo, .int .u64 m.amount.hi, .int .u64 m.amount.lo, .int .u64 m.pending.hi, .int .u64 m.pending.lo, .int .i64 m.timeout, .int .i64 m.ledger, .int .i64 m.code, .int .i64 m.flags, .int .i64 m.stamp, .int .i64 m.born] 40)) w')
  case first =>
    have lm := ld_nm (P := Tryd.prog) (W := (((w.alloc (.cells #[.pointer (some ⟨d.B, 0, none⟩)] 35)).alloc (.cells #[.int .u64 a.id.hi, .int .u64 a.id.lo, .int .u64 a.debit.hi, .int .u64 a.debit.lo, .int .u64 a.credit.hi, .int .u64 a.credit.lo, .int .u64 a.amount.hi, .int .u64 a.amount.lo, .int .u64 a.pending.hi, .int .u64 a.pending.lo, .int .i64 a.timeout, .int .i64 a.ledger, .int .i64 a.code, .int .i64 a.flags, .int .i64 a.stamp, .int .i64 a.born] 40)).alloc (.cells #[.int .u64 m.id.hi, .int .u64 m.id.lo, .int .u64 m.debit.hi, .int .u64 m.debit.lo, .int .u64 m.credit.hi, .int .u64 m.credit.lo, .int .u64 m.amount.hi, .int .u64 m.amount.lo, .int .u64 m.pending.hi, .int .u64 m.pending.lo, .int .i64 m.timeout, .int .i64 m.ledger, .int .i64 m.code, .int .i64 m.flags, .int .i64 m.stamp, .int .i64 m.born] 40)).drew) m0 m1
    go_region_held3 (fun w' => w'.cell? ⟨w.heap.size, 0, none⟩ = some (Value.pointer (some ⟨d.B, 0, none⟩)) ∧ w'.cell? ⟨d.B, 4, none⟩ = some (Value.pointer (some ⟨d.N, 0, none⟩)) ∧ (loadCells ⟨w.heap.size + 1 + 1, 0, none⟩ 2).run Tryd.prog w' = .ok #[.int .u64 m.id.hi, .int .u64 m.id.lo] w')
      (first | exact ⟨s0, c4, lm⟩ | exact ⟨q0, q1, q2⟩ | go_keep)
      (first | (go_at_call 55; go_must (with_reducible refine (HGet.out _ _ HS.out.drew).mono ?_); rintro e w2 ⟨rfl, f2⟩; have q0 := blk_cell (f2.blk (blk_drew B0.out) (fun h => h)) 0 rfl; have q1 := f2.cell (p := ⟨d.B, 4, none⟩) c4 (fun h => h); have b2 := f2.blk (blk_drew B2.out) (fun h => h); have q2 := ld_nm (P := Tryd.prog) (blk_cell b2 0 rfl) (blk_cell b2 1 rfl); have F2 := Lib.hid f2; clear f2 b2))
    go_wp2_with fail
    go_meet
    exact ⟨rfl, rfl, (Fr.refl _ _).drew.then_ F2.out (fun _ h => h.elim)⟩
  case rest =>
  obtain ⟨rfl, rfl, fc⟩ := hcut
  have HSc := Lib.hid (HS.out.fr fc (fun _ h => h.elim))
  have Bc0 := Lib.hid (fc.blk B0.out (fun h => h))
  have Bc1 := Lib.hid (fc.blk B1.out (fun h => h))
  have Bc2 := Lib.hid (fc.blk B2.out (fun h => h))
  have Fc := Lib.hid fc
  have HZc := Lib.hid (show w.heap.size + 3 ≤ wc.heap.size from by have := fc.size; have := HZ.out; omega)
  clear fc s0 c2 c4 m0 m1
  by_cases hgt : gb = true
  · subst hgt
    go_wp2_with fail
    go_ret
    exact ⟨1, lab, r, es, rfl, .there (by rw [HLn.out]; omega) HGb.out, HSc.out.more (by omega), .of (Nat.le_refl _) (HF.out.then_ Fc.out (fun _ h => h.elim))⟩
  have HNone := Lib.hid (show r.nms m.id = none from by have := HGb.out; cases hx : r.nms m.id with | none => rfl | some v => rw [hx] at this; exact absurd this.symm hgt)
  obtain rfl : gb = false := by simpa using hgt
  clear hgt
  go_upto_region 8 with fail
  obtain ⟨w1, hw1⟩ : ∃ W, W = wc := ⟨_, rfl⟩
  subst hw1
  go_cut [11] from 25 (fun v11 w' => v11 = .pointer (some ⟨w1.heap.size, 0, none⟩) ∧ w'.heap[w1.heap.size]? = some (.cells #[.int .u64 a.id.hi, .int .u64 a.id.lo, .int .u64 a.debit.hi, .int .u64 a.debit.lo, .int .u64 a.credit.hi, .int .u64 a.credit.lo, .int .u64 a.amount.hi, .int .u64 a.amount.lo, .int .u64 a.pending.hi, .int .u64 a.pending.lo, .int .i64 a.timeout, .int .i64 a.ledger, .int .i64 a.code, .int .i64 a.flags, .int .i64 a.stamp, .int .i64 a.born, .int .u64 m.id.hi, .int .u64 m.id.lo, .int .u64 m.debit.hi, .int .u64 m.debit.lo, .int .u64 m.credit.hi, .int .u64 m.credit.lo, .int .u64 m.amount.hi, .int .u64 m.amount.lo, .int .u64 m.pending.hi, .int .u64 m.pending.lo, .int .i64 m.timeout, .int .i64 m.ledger, .int .i64 m.code, .int .i64 m.flags, .int .i64 m.stamp, .int .i64 m.born, .int .i64 0] 63 (0, 0)) ∧ Fr (fun _ => False) w1 w')
  case first =>
    have la := ld_row (P := Tryd.prog) (w.heap.size + 1) #[.int .u64 a.id.hi, .int .u64 a.id.lo, .int .u64 a.debit.hi, .int .u64 a.debit.lo, .int .u64 a.credit.hi, .int .u64 a.credit.lo, .int .u64 a.amount.hi, .int .u64 a.amount.lo, .int .u64 a.pending.hi, .int .u64 a.pending.lo, .int .i64 a.timeout, .int .i64 a.ledger, .int .i64 a.code, .int .i64 a.flags, .int .i64 a.stamp, .int .i64 a.born] (n := 16) rfl Bc1.out
    have lm := ld_row (P := Tryd.prog) (w.heap.size + 1 + 1) #[.int .u64 m.id.hi, .int .u64 m.id.lo, .int .u64 m.debit.hi, .int .u64 m.debit.lo, .int .u64 m.credit.hi, .int .u64 m.credit.lo, .int .u64 m.amount.hi, .int .u64 m.amount.lo, .int .u64 m.pending.hi, .int .u64 m.pending.lo, .int .i64 m.timeout, .int .i64 m.ledger, .int .i64 m.code, .int .i64 m.flags, .int .i64 m.stamp, .int .i64 m.born] (n := 16) rfl Bc2.out
    have HN := Lib.hid (heap_alloc_new w1 (.cells #[.int .u64 0, .int .u64 0, .int .u64 0, .int .u64 0, .int .u64 0, .int .u64 0, .int .u64 0, .int .u64 0, .int .u64 0, .int .u64 0, .int .i64 0, .int .i64 0, .int .i64 0, .int .i64 0, .int .i64 0, .int .i64 0, .int .u64 0, .int .u64 0, .int .u64 0, .int .u64 0, .int .u64 0, .int .u64 0, .int .u64 0, .int .u64 0, .int .u64 0, .int .u64 0, .int .i64 0, .int .i64 0, .int .i64 0, .int .i64 0, .int .i64 0, .int .i64 0, .int .i64 0] 63))
    go_wp2_with (first | ((refine wpList_store_row rfl 63 (.tmp 11) (.tmp 38) rfl w1.heap.size #[.int .u64 a.id.hi, .int .u64 a.id.lo, .int .u64 a.debit.hi, .int .u64 a.debit.lo, .int .u64 a.credit.hi, .int .u64 a.credit.lo, .int .u64 a.amount.hi, .int .u64 a.amount.lo, .int .u64 a.pending.hi, .int .u64 a.pending.lo, .int .i64 a.timeout, .int .i64 a.ledger, .int .i64 a.code, .int .i64 a.flags, .int .i64 a.stamp, .int .i64 a.born, .int .u64 m.id.hi, .int .u64 m.id.lo, .int .u64 m.debit.hi, .int .u64 m.debit.lo, .int .u64 m.credit.hi, .int .u64 m.credit.lo, .int .u64 m.amount.hi, .int .u64 m.amount.lo, .int .u64 m.pending.hi, .int .u64 m.pending.lo, .int .i64 m.timeout, .int .i64 m.ledger, .int .i64 m.code, .int .i64 m.flags, .int .i64 m.stamp, .int .i64 m.born, .int .i64 0] rfl rfl HN.out rfl rfl (by simp [Value.oneCell']) ?_); intro w9 hb9 f9; have HB9 := Lib.hid hb9; have F9 := Lib.hid f9; clear hb9 f9) | fail)
    go_meet
    exact ⟨rfl, HB9.out, ((Fr.refl _ _).alloc _).then_ F9.out (fun k hk => .inr (by omega))⟩
  case rest =>
  obtain ⟨rfl, bk, f2⟩ := hcut
  obtain ⟨F, hF⟩ : ∃ F : Int, (if wt then 1 else 0) = F := ⟨_, rfl⟩
  have HFt := Lib.hid hF
  obtain ⟨w2, hw2⟩ : ∃ W, W = wc := ⟨_, rfl⟩
  subst hw2
  have HSd := Lib.hid (HSc.out.fr f2 (fun _ h => h.elim))
  have Bd0 := Lib.hid (f2.blk Bc0.out (fun h => h))
  have Bd2 := Lib.hid (f2.blk Bc2.out (fun h => h))
  have Bk := Lib.hid bk
  have LK := Lib.hid (show lab w1.heap.size = 0 from HSc.out.free (Nat.le_refl _))
  have F2 := Lib.hid (HF.out.then_ (Fc.out.then_ f2 (fun _ h => h.elim)) (fun _ h => h.elim))
  have HZd := Lib.hid (show w1.heap.size < w2.heap.size from blk_lt bk)
  clear f2 bk hF
  go_upto_if 39 with fail
  go_cut [] from 39 (fun w' => w'.heap[w1.heap.size]? = some (.cells #[.int .u64 a.id.hi, .int .u64 a.id.lo, .int .u64 a.debit.hi, .int .u64 a.debit.lo, .int .u64 a.credit.hi, .int .u64 a.credit.lo, .int .u64 a.amount.hi, .int .u64 a.amount.lo, .int .u64 a.pending.hi, .int .u64 a.pending.lo, .int .i64 a.timeout, .int .i64 a.ledger, .int .i64 a.code, .int .i64 a.flags, .int .i64 a.stamp, .int .i64 a.born, .int .u64 m.id.hi, .int .u64 m.id.lo, .int .u64 m.debit.hi, .int .u64 m.debit.lo, .int .u64 m.credit.hi, .int .u64 m.credit.lo, .int .u64 m.amount.hi, .int .u64 m.amount.lo, .int .u64 m.pending.hi, .int .u64 m.pending.lo, .int .i64 m.timeout, .int .i64 m.ledger, .int .i64 m.code, .int .i64 m.flags, .int .i64 m.stamp, .int .i64 m.born, .int .i64 F] 63 (0, 0)) ∧ Fr (fun k => k = w1.heap.size) w2 w')
  case first =>
    have z32 := blk_free Bk.out 32
    have k32 := blk_cell Bk.out 32 rfl
    cases wt
    · go_wp2_with fail
      go_meet
      exact ⟨by rw [← HFt.out]; exact Bk.out, Fr.refl _ _⟩
    · go_wp2_with fail
      go_meet
      exact ⟨by rw [← HFt.out]; exact blk_set Bk.out 32 (.int .i64 1), (Fr.refl (fun k => k = w1.heap.size) w2).set1 _⟩
  case rest =>
  obtain ⟨bk, f3⟩ := hcut
  obtain ⟨w3, hw3⟩ : ∃ W, W = wc := ⟨_, rfl⟩
  subst hw3
  have HSe := Lib.hid (HSd.out.fr f3 (fun k hk => by rw [hk]; exact LK.out))
  have OE := Lib.hid (show KOwn w3 lab d m ⟨a, m, F⟩ w.heap.size (w.heap.size + 1 + 1) w1.heap.size from ⟨f3.blk Bd0.out (fun e => by have := HZc.out; omega), f3.blk Bd2.out (fun e => by have := HZc.out; omega), bk, .inl L0.out, .inl L2.out, .inl LK.out⟩)
  have PE := Lib.hid ((Stp.of (Nat.le_refl _) F2.out : Stp w.heap.size w lab w2 lab).frs f3 (fun k hk => by have := HZc.out; omega))
  have hdB : d.B < w1.heap.size := HSc.out.lt d.B (by rw [HSc.out.labB]; decide)
  have hw01 : w.heap.size < w1.heap.size := by have := HZc.out; omega
  have HZe := Lib.hid (show w1.heap.size < w3.heap.size from blk_lt bk)
  clear f3 bk
  go_upto_region 11 with fail
  go_cut [] from 39 (fun w' => ∃ lab' b, Sta w' lab' d { r with stamp := r.stamp + 1 } (.stDec b :: es) (big + 1) ∧ Stp w.heap.size w lab w' lab' ∧ KOwn w' lab' d m (kept1 a m wt (r.stamp + 1) r.clock) w.heap.size (w.heap.size + 1 + 1) w1.heap.size)
  case first =>
    have HNx := Lib.hid (nextS w3.drew lab d r es big HSe.out.drew (by omega) HStm.out.1 HStm.out.2)
    have s0 := blk_cell OE.out.b0 0 rfl
    have c7 := HSe.out.cells.2.2.2.2.1
    go_region_held3 (fun w' => w'.cell? ⟨w.heap.size, 0, none⟩ = some (Value.pointer (some ⟨d.B, 0, none⟩)) ∧ w'.cell? ⟨d.B, 7, none⟩ = some (Value.int .i64 r.clock))
      (first | exact ⟨s0, c7⟩ | exact ⟨q0, q7⟩ | exact ⟨q0x, q7x⟩ | exact ⟨q0y, q7y⟩ | go_keep)
      (first | (go_at_call 56; go_must (with_reducible refine HNx.out.mono ?_); rintro e w4 ⟨rfl, lab4, b6, h4, p4⟩; have o4 := OE.out.fr (Fr.refl _ w3).drew |>.stp p4; have q0 := blk_cell o4.b0 0 rfl; have q7 : w4.cell? ⟨d.B, 7, none⟩ = some (Value.int .i64 r.clock) := h4.cells.2.2.2.2.1; have k30 := blk_cell o4.bk 30 rfl; have k31 := blk_cell o4.bk 31 rfl; have z30 := blk_free o4.bk 30; have z31 := blk_free o4.bk 31; have l4 : lab4 w1.heap.size = 0 := (by rw [p4.lx _ HZe.out]; exact LK.out); have hst := o4.stamped (Nat.ne_of_lt hw01) (by have := HZc.out; omega) (r.stamp + 1) r.clock; have h41 := h4.set l4 (.int .i64 (r.stamp + 1)) (j := 30); have q0x := blk_cell (blk_far2 o4.b0 (j := 30) (Nat.ne_of_lt hw01) (.int .i64 (r.stamp + 1))) 0 rfl; have q7x : (w4.setCell ⟨w1.heap.size, 30, none⟩ (.int .i64 (r.stamp + 1))).cell? ⟨d.B, 7, none⟩ = some (Value.int .i64 r.clock) := h41.cells.2.2.2.2.1; have q0y := blk_cell hst.b0 0 rfl; have q7y : ((w4.setCell ⟨w1.heap.size, 30, none⟩ (.int .i64 (r.stamp + 1))).setCell ⟨w1.heap.size, 31, none⟩ (.int .i64 r.clock)).cell? ⟨d.B, 7, none⟩ = some (Value.int .i64 r.clock) := (h41.set l4 (.int .i64 r.clock) (j := 31)).cells.2.2.2.2.1; have HSt4 := Lib.hid hst; have HL4 := Lib.hid l4; clear hst h41 l4; have H4 := Lib.hid h4; have P4 := Lib.hid p4; have O4 := Lib.hid o4; clear h4 p4 o4))
    all_goals
      go_wp2_with fail
      go_meet
      have l4 := HL4.out
      refine ⟨lab4, b6, (H4.out.set l4 _).set l4 _, ((((PE.out.fr_ (Fr.refl _ _).drew).then_ P4.out PE.out.fr.size HSe.out.lt).set (by omega) _).set (by omega) _), ?_⟩
      unfold kept1
      rw [HFt.out]
      exact HSt4.out
  case rest =>
  obtain ⟨lab4, b6, h4, p4, o4⟩ := hcut
  obtain ⟨kp, hkp⟩ : ∃ k, kept1 a m wt (r.stamp + 1) r.clock = k := ⟨_, rfl⟩
  rw [hkp] at o4
  have HKs := Lib.hid (show kp.move.stamp = r.stamp + 1 from by rw [← hkp]; rfl)
  have HKp := Lib.hid hkp
  obtain ⟨w4, hw4⟩ : ∃ W, W = wc := ⟨_, rfl⟩
  subst hw4
  have H4 := Lib.hid h4
  have P4 := Lib.hid p4
  have O4 := Lib.hid o4
  clear h4 p4 o4 hkp
  go_upto_region 12 with fail
  go_cut [12] from 39 (fun v12 w' => v12 = .int .i64 ln ∧ ∃ lab' b4 b5, Sta w' lab' d { r with stamp := r.stamp + 1, kept := r.kept ++ [kp] } (.kepCut b4 b5 ln :: .stDec b6 :: es) (big + 1 + 1) ∧ Stp w.heap.size w lab w' lab' ∧ KOwn w' lab' d m kp w.heap.size (w.heap.size + 1 + 1) w1.heap.size)
  case first =>
    have hA := kepAddS w4.drew lab4 d _ _ _ kp H4.out.drew (by show r.kept.length ≤ _; have := HLen0.out; omega) (by omega)
    rw [show ({ r with stamp := r.stamp + 1 } : Raw).kept.length = ln from HLn.out] at hA
    have HAdd := Lib.hid hA
    have s0 := blk_cell O4.out.b0 0 rfl
    have c2 := H4.out.cells.2.1
    have lk := ld_row (P := Tryd.prog) (W := w4.drew) w1.heap.size kp.cells.toArray (n := 33) rfl (blk_drew O4.out.bk)
    clear hA
    go_region_held3 (fun w' => w'.cell? ⟨w.heap.size, 0, none⟩ = some (Value.pointer (some ⟨d.B, 0, none⟩)) ∧ w'.cell? ⟨d.B, 2, none⟩ = some (Value.pointer (some ⟨d.K, 0, none⟩)) ∧ (loadCells ⟨w1.heap.size, 0, none⟩ 33).run Tryd.prog w' = .ok kp.cells.toArray w')
      (first | exact ⟨s0, c2, lk⟩ | exact ⟨q0, q2, qk⟩ | go_keep)
      (first | (go_at_call 63; go_must (with_reducible refine HAdd.out.mono ?_); rintro e w5 ⟨rfl, lab5, h5, p5⟩; have o5 := O4.out.fr (Fr.refl _ w4).drew |>.stp p5; have q0 := blk_cell o5.b0 0 rfl; have q2 := h5.cells.2.1; have qk := ld_row (P := Tryd.prog) (W := w5) w1.heap.size kp.cells.toArray (n := 33) rfl o5.bk; have H5 := Lib.hid h5; have P5 := Lib.hid p5; have O5 := Lib.hid o5; clear h5 p5 o5))
    go_wp2_with fail
    go_meet
    exact ⟨rfl, lab5, _, _, H5.out, (P4.out.fr_ (Fr.refl _ _).drew).then_ P5.out P4.out.fr.size H4.out.lt, O5.out⟩
  case rest =>
  obtain ⟨rfl, lab5, b4, b5, h5, p5, o5⟩ := hcut
  obtain ⟨w5, hw5⟩ : ∃ W, W = wc := ⟨_, rfl⟩
  subst hw5
  have H5 := Lib.hid h5
  have P5 := Lib.hid p5
  have O5 := Lib.hid o5
  clear h5 p5 o5
  go_upto_region 13 with fail
  go_cut [] from 39 (fun w' => ∃ lab', Sta w' lab' d { r with stamp := r.stamp + 1, kept := r.kept ++ [kp], nms := upd r.nms m.id (some (ln : Int)) } (.kepCut b4 b5 ln :: .stDec b6 :: es) (big + 1 + 1 + 1) ∧ Stp w.heap.size w lab w' lab' ∧ KOwn w' lab' d m kp w.heap.size (w.heap.size + 1 + 1) w1.heap.size)
  case first =>
    have HPut := Lib.hid (nmPutS w5.drew lab5 d _ _ _ m.id ln H5.out.drew (by omega))
    have s0 := blk_cell O5.out.b0 0 rfl
    have c4 := H5.out.cells.2.2.2.1
    have lm := ld_nm (P := Tryd.prog) (W := w5.drew) (blk_cell O5.out.bm 0 rfl) (blk_cell O5.out.bm 1 rfl)
    go_region_held3 (fun w' => w'.cell? ⟨w.heap.size, 0, none⟩ = some (Value.pointer (some ⟨d.B, 0, none⟩)) ∧ w'.cell? ⟨d.B, 4, none⟩ = some (Value.pointer (some ⟨d.N, 0, none⟩)) ∧ (loadCells ⟨w.heap.size + 1 + 1, 0, none⟩ 2).run Tryd.prog w' = .ok #[.int .u64 m.id.hi, .int .u64 m.id.lo] w')
      (first | exact ⟨s0, c4, lm⟩ | exact ⟨q0, q4, qm⟩ | go_keep)
      (first | (go_at_call 57; go_must (with_reducible refine HPut.out.mono ?_); rintro e w6 ⟨rfl, lab6, h6, p6⟩; have o6 := O5.out.fr (Fr.refl _ w5).drew |>.stp p6; have q0 := blk_cell o6.b0 0 rfl; have q4 := h6.cells.2.2.2.1; have qm := ld_nm (P := Tryd.prog) (W := w6) (blk_cell o6.bm 0 rfl) (blk_cell o6.bm 1 rfl); have H6 := Lib.hid h6; have P6 := Lib.hid p6; have O6 := Lib.hid o6; clear h6 p6 o6))
    go_wp2_with fail
    go_meet
    exact ⟨lab6, H6.out, (P5.out.fr_ (Fr.refl _ _).drew).then_ P6.out P5.out.fr.size H5.out.lt, O6.out⟩
  case rest =>
  obtain ⟨lab6, h6, p6, o6⟩ := hcut
  obtain ⟨w6, hw6⟩ : ∃ W, W = wc := ⟨_, rfl⟩
  subst hw6
  have H6 := Lib.hid h6
  have P6 := Lib.hid p6
  have O6 := Lib.hid o6
  clear h6 p6 o6
  go_upto_region 14 with fail
  go_cut [] from 39 (fun w' => ∃ lab', Sta w' lab' d { r with stamp := r.stamp + 1, kept := r.kept ++ [kp], nms := upd r.nms m.id (some (ln : Int)), sts := upd r.sts (r.stamp + 1) (some (ln : Int)) } (.kepCut b4 b5 ln :: .stDec b6 :: es) (big + 1 + 1 + 1 + 1) ∧ Stp w.heap.size w lab w' lab' ∧ KOwn w' lab' d m kp w.heap.size (w.heap.size + 1 + 1) w1.heap.size)
  case first =>
    have HPut := Lib.hid (stsPutS w6.drew lab6 d _ _ _ (r.stamp + 1) ln H6.out.drew (by omega))
    have s0 := blk_cell O6.out.b0 0 rfl
    have k30 : w6.cell? ⟨w1.heap.size, 30, none⟩ = some (Value.int .i64 (r.stamp + 1)) := by rw [← HKs.out]; exact blk_cell O6.out.bk 30 rfl
    go_region_held3 (fun w' => w'.cell? ⟨w.heap.size, 0, none⟩ = some (Value.pointer (some ⟨d.B, 0, none⟩)) ∧ w'.cell? ⟨w1.heap.size, 30, none⟩ = some (Value.int .i64 (r.stamp + 1)))
      (first | exact ⟨s0, k30⟩ | exact ⟨q0, q30⟩ | go_keep)
      (first | (go_at_call 64; go_must (with_reducible refine HPut.out.mono ?_); rintro e w7 ⟨rfl, lab7, h7, p7⟩; have o7 := O6.out.fr (Fr.refl _ w6).drew |>.stp p7; have q0 := blk_cell o7.b0 0 rfl; have q30 : w7.cell? ⟨w1.heap.size, 30, none⟩ = some (Value.int .i64 (r.stamp + 1)) := (by rw [← HKs.out]; exact blk_cell o7.bk 30 rfl); have H7 := Lib.hid h7; have P7 := Lib.hid p7; have O7 := Lib.hid o7; clear h7 p7 o7))
    go_wp2_with fail
    go_meet
    exact ⟨lab7, H7.out, (P6.out.fr_ (Fr.refl _ _).drew).then_ P7.out P6.out.fr.size H6.out.lt, O7.out⟩
  case rest =>
  obtain ⟨lab7, h7, p7, o7⟩ := hcut
  obtain ⟨w7, hw7⟩ : ∃ W, W = wc := ⟨_, rfl⟩
  subst hw7
  have HK := Lib.hid (show Calls Tryd.prog 58 #[.pointer (some ⟨d.B, 0, none⟩), .func (.func 65) #[] #[.pointer (some ⟨w.heap.size, 0, none⟩), .pointer (some ⟨w.heap.size + 1 + 1, 0, none⟩), .pointer (some ⟨w1.heap.size, 0, none⟩)]] w7 _ from keepS _ _ d _ _ _ w.heap.size (.nmDrop w.heap.size (w.heap.size + 1 + 1) w1.heap.size m kp) h7 ⟨o7.b0, o7.bm, o7.bk⟩ (fun k hk => by
    rcases hk with rfl | rfl | rfl
    · exact ⟨Nat.le_refl _, blk_lt o7.b0, o7.l0⟩
    · exact ⟨by omega, blk_lt o7.bm, o7.lm⟩
    · exact ⟨by omega, blk_lt o7.bk, o7.lk⟩) p7.fr.size (by omega))
  have H7 := Lib.hid h7
  have P7 := Lib.hid p7
  have O7 := Lib.hid o7
  have s0 := blk_cell o7.b0 0 rfl
  clear h7 p7 o7
  go_wp2_with fail
  refine HK.out.mono ?_
  rintro e w8 ⟨rfl, lab8, h8, p8⟩
  have o8 := O7.out.stp p8
  have H8 := Lib.hid h8
  have P8 := Lib.hid (P7.out.then_ p8 (Nat.le_refl _) H7.out.lt)
  have O8 := Lib.hid o8
  have lk := ld_row (P := Tryd.prog) (W := w8) w1.heap.size kp.cells.toArray (n := 33) rfl o8.bk
  have HDu := Lib.hid (due_any w8 kp)
  obtain ⟨x, hx⟩ : ∃ x, kp.itm = x := ⟨_, rfl⟩
  have HXs := Lib.hid (show x.stamp = r.stamp + 1 from by rw [← hx]; exact HKs.out)
  have HX := Lib.hid hx
  rw [hx] at HDu
  clear h8 p8 o8 s0 hx
  go_wp2_with fail
  refine HDu.out.mono ?_
  rintro e w9 ⟨rfl, f9⟩
  have H9 := Lib.hid (H8.out.fr f9 (fun _ h => h.elim))
  have P9 := Lib.hid (P8.out.fr_ f9)
  have O9 := Lib.hid (O8.out.fr f9)
  clear f9 lk
  cases hd : dueB kp
  · go_wp2_with fail
    go_ret
    have hkp := HKp.out
    have hln := HLn.out
    subst hln
    subst hkp
    exact ⟨0, lab8, _, _, rfl, .rests (by omega) HNone.out hd _ _ _ _ _ _, (H9.out.alloc _).more (by omega), P9.out.fr_ ((Fr.refl _ _).alloc _)⟩
  go_upto_region 18 with fail
  obtain ⟨wx, hwx⟩ : ∃ W, w9.alloc (.cells #[.int .i64 x.due, .int .i64 x.stamp, .int .u64 x.id.hi, .int .u64 x.id.lo] 113) = W := ⟨_, rfl⟩
  have Bx := Lib.hid (show wx.heap[w9.heap.size]? = some (.cells x.cells.toArray 113 (0, 0)) from by rw [← hwx]; exact heap_alloc_new w9 _)
  have Hx := Lib.hid (show Sta wx lab8 d _ _ _ from by rw [← hwx]; exact H9.out.alloc _)
  have Px := Lib.hid (show Stp w.heap.size w lab wx lab8 from by rw [← hwx]; exact P9.out.fr_ ((Fr.refl _ _).alloc _))
  have Ox := Lib.hid (show KOwn wx lab8 d m kp w.heap.size (w.heap.size + 1 + 1) w1.heap.size from by rw [← hwx]; exact O9.out.fr ((Fr.refl _ _).alloc _))
  have LX := Lib.hid (show lab8 w9.heap.size = 0 from H9.out.free (Nat.le_refl _))
  (try rw [hwx])
  clear hwx
  have HPut := Lib.hid (ensPutS wx.drew lab8 d _ _ _ x Hx.out.drew (by omega) (by rw [HXs.out]; exact HFr.out))
  have s0 := blk_cell Ox.out.b0 0 rfl
  have lx := ld_row (P := Tryd.prog) (W := wx.drew) w9.heap.size #[.int .i64 x.due, .int .i64 x.stamp, .int .u64 x.id.hi, .int .u64 x.id.lo] (n := 4) rfl (blk_drew Bx.out)
  go_region_held3 (fun w' => w'.cell? ⟨w.heap.size, 0, none⟩ = some (Value.pointer (some ⟨d.B, 0, none⟩)) ∧ (loadCells ⟨w9.heap.size, 0, none⟩ 4).run Tryd.prog w' = .ok #[.int .i64 x.due, .int .i64 x.stamp, .int .u64 x.id.hi, .int .u64 x.id.lo] w')
    (first | exact ⟨s0, lx⟩ | exact ⟨q0, qx⟩ | go_keep)
    (first | (go_at_call 68; go_must (with_reducible refine HPut.out.mono ?_); rintro e w10 ⟨rfl, lab10, h10, p10⟩; have o10 := Ox.out.fr (Fr.refl _ wx).drew |>.stp p10; have b10 := p10.blk (blk_drew Bx.out) (.inl LX.out); have q0 := blk_cell o10.b0 0 rfl; have qx := ld_row (P := Tryd.prog) (W := w10) w9.heap.size #[.int .i64 x.due, .int .i64 x.stamp, .int .u64 x.id.hi, .int .u64 x.id.lo] (n := 4) rfl b10.1; have H10 := Lib.hid h10; have P10 := Lib.hid ((Px.out.fr_ (Fr.refl _ _).drew).then_ p10 Px.out.fr.size Hx.out.lt); have O10 := Lib.hid o10; have B10 := Lib.hid b10; clear h10 p10 o10 b10))
  clear s0 lx q0 qx
  have HK := Lib.hid (show Calls Tryd.prog 58 #[.pointer (some ⟨d.B, 0, none⟩), .func (.func 69) #[] #[.pointer (some ⟨w.heap.size, 0, none⟩), .pointer (some ⟨w9.heap.size, 0, none⟩)]] w10 _ from keepS _ _ d _ _ _ w.heap.size (.enDrop w.heap.size w9.heap.size x) H10.out ⟨O10.out.b0, B10.out.1⟩ (fun k hk => by
    rcases hk with rfl | rfl
    · exact ⟨Nat.le_refl _, blk_lt O10.out.b0, O10.out.l0⟩
    · exact ⟨by have := blk_lt Ox.out.b0; have := P9.out.fr.size; omega, blk_lt B10.out.1, B10.out.2⟩) P10.out.fr.size (by omega))
  have s0 := blk_cell O10.out.b0 0 rfl
  go_wp2_with fail
  refine HK.out.mono ?_
  rintro e w11 ⟨rfl, lab11, h11, p11⟩
  have H11 := Lib.hid h11
  have P11 := Lib.hid (P10.out.then_ p11 (Nat.le_refl _) H10.out.lt)
  clear h11 p11
  go_wp2_with fail
  go_ret
  have hkp := HKp.out
  have hln := HLn.out
  have hx := HX.out
  have hxs := HXs.out
  have h11 := H11.out
  rw [hxs] at h11
  subst hln
  subst hx
  subst hkp
  exact ⟨0, lab11, _, _, rfl, .waits (by omega) HNone.out hd _ _ _ _ _ _ _ _, h11, P11.out⟩
end Go.Proofs.YtjchjpmgbmeohaaDoor

/- The document's state: rows of it go on; Open, Turn, Time, End. -/
set_option linter.unusedSimpArgs false
set_option linter.unusedVariables false
namespace Go.Proofs.YtjchjpmgbmeohaaDoor
open Go.RowKit

def mL0 (M : Nat) (kv : Value) (c s : Int) : Bq 0 := ⟨M, fun v => #[v, kv, .int .i64 c, .int .i64 s], fun _ => rfl, fun _ _ => rfl⟩
def mL1 (M : Nat) (av : Value) (c s : Int) : Bq 1 := ⟨M, fun v => #[av, v, .int .i64 c, .int .i64 s], fun _ => rfl, fun _ _ => rfl⟩
section
variable {w w' : World} {T : Nat → Prop} {M : Nat} {m : RM} {av kv : Value}
theorem ms_reacc {S' : Nat → Prop} {xs : List Acc} (hb : w.heap[M]? = some (.cells #[av, kv, .int .i64 m.clock, .int .i64 m.stamp] 56 (0, 0))) (hk : w.ownsRow 0 63 33 kv m.kept.length (m.kept.flatMap Kp.cells)) (hM : T M) (hA : ∀ k, av.ownBlock = some k → T k ∧ k ≠ M) (hK : ∀ k, kv.ownBlock = some k → T k ∧ k ≠ M) (hd : ∀ k, av.ownBlock = some k → ¬ kv.ownBlock = some k) (hl : ∀ k, T k → k < w.heap.size)
    (hq : Rq w' S' (mL0 M kv m.clock m.stamp) 56 26 14 xs.length (xs.flatMap Acc.cells)) (hS : ∀ k, S' k → (k = M ∨ av.ownBlock = some k) ∨ w.heap.size ≤ k) (hf : Fr (fun k => k = M ∨ av.ownBlock = some k) w w') : MS w' (Gro T w w') M { m with accs := xs } := by
  obtain ⟨v, hb', ho, _, hv, hlt⟩ := hq
  refine ⟨v, kv, hb', ho, own_fr hk hf (fun k hk hs => ?_), .inl hM, fun k hvk => ?_, fun k hkk => ⟨.inl (hK k hkk).1, (hK k hkk).2⟩, fun k hvk hkk => ?_, fun k hT => ?_⟩
  · rcases hs with h | h
    · exact (hK k hk).2 h
    · exact hd k h hk
  · have h := hv k hvk
    refine ⟨?_, h.2⟩
    rcases hS k h.1 with (h1 | h1) | h1
    · exact .inl (h1 ▸ hM)
    · exact .inl (hA k h1).1
    · exact .inr ⟨h1, hlt k h.1⟩
  · have h := hv k hvk
    rcases hS k h.1 with (h1 | h1) | h1
    · exact h.2 h1
    · exact hd k h1 hkk
    · have := hl k (hK k hkk).1; omega
  · rcases hT with h | h
    · exact Nat.lt_of_lt_of_le (hl k h) hf.size
    · exact h.2
theorem ms_rekept {S' : Nat → Prop} {xs : List Kp} (hb : w.heap[M]? = some (.cells #[av, kv, .int .i64 m.clock, .int .i64 m.stamp] 56 (0, 0))) (ha : w.ownsRow 0 26 14 av m.accs.length (m.accs.flatMap Acc.cells)) (hM : T M) (hA : ∀ k, av.ownBlock = some k → T k ∧ k ≠ M) (hK : ∀ k, kv.ownBlock = some k → T k ∧ k ≠ M) (hd : ∀ k, av.ownBlock = some k → ¬ kv.ownBlock = some k) (hl : ∀ k, T k → k < w.heap.size)
    (hq : Rq w' S' (mL1 M av m.clock m.stamp) 56 63 33 xs.length (xs.flatMap Kp.cells)) (hS : ∀ k, S' k → (k = M ∨ kv.ownBlock = some k) ∨ w.heap.size ≤ k) (hf : Fr (fun k => k = M ∨ kv.ownBlock = some k) w w') : MS w' (Gro T w w') M { m with kept := xs } := by
  obtain ⟨v, hb', ho, _, hv, hlt⟩ := hq
  refine ⟨av, v, hb', own_fr ha hf (fun k hk hs => ?_), ho, .inl hM, fun k hkk => ⟨.inl (hA k hkk).1, (hA k hkk).2⟩, fun k hvk => ?_, fun k hak hvk => ?_, fun k hT => ?_⟩
  · rcases hs with h | h
    · exact (hA k hk).2 h
    · exact hd k hk h
  · have h := hv k hvk
    refine ⟨?_, h.2⟩
    rcases hS k h.1 with (h1 | h1) | h1
    · exact .inl (h1 ▸ hM)
    · exact .inl (hK k h1).1
    · exact .inr ⟨h1, hlt k h.1⟩
  · have h := hv k hvk
    rcases hS k h.1 with (h1 | h1) | h1
    · exact h.2 h1
    · exact hd k hak h1
    · have := hl k (hA k hak).1; omega
  · rcases hT with h | h
    · exact Nat.lt_of_lt_of_le (hl k h) hf.size
    · exact h.2
theorem MS.restamp (h : MS w T M m) (s : Int) : MS (w.setCell ⟨M, 3, none⟩ (.int .i64 s)) T M { m with stamp := s } ∧ Fr T w (w.setCell ⟨M, 3, none⟩ (.int .i64 s)) := by
  obtain ⟨av, kv, hb, ha, hk, hM, hA, hK, hd, hl⟩ := h
  have hf : Fr (fun k => k = M) w (w.setCell ⟨M, 3, none⟩ (.int .i64 s)) := (Fr.refl (fun k => k = M) w).set1 _
  exact ⟨⟨av, kv, by simpa using blk_set hb 3 (.int .i64 s), own_fr ha hf (fun k hk => (hA k hk).2), own_fr hk hf (fun k hk => (hK k hk).2), hM, hA, hK, hd, fun k hk => Nat.lt_of_lt_of_le (hl k hk) hf.size⟩, hf.mono (fun k hk => by rw [hk]; exact hM)⟩
theorem MS.reclock (h : MS w T M m) (s : Int) : MS (w.setCell ⟨M, 2, none⟩ (.int .i64 s)) T M { m with clock := s } ∧ Fr T w (w.setCell ⟨M, 2, none⟩ (.int .i64 s)) := by
  obtain ⟨av, kv, hb, ha, hk, hM, hA, hK, hd, hl⟩ := h
  have hf : Fr (fun k => k = M) w (w.setCell ⟨M, 2, none⟩ (.int .i64 s)) := (Fr.refl (fun k => k = M) w).set1 _
  exact ⟨⟨av, kv, by simpa using blk_set hb 2 (.int .i64 s), own_fr ha hf (fun k hk => (hA k hk).2), own_fr hk hf (fun k hk => (hK k hk).2), hM, hA, hK, hd, fun k hk => Nat.lt_of_lt_of_le (hl k hk) hf.size⟩, hf.mono (fun k hk => by rw [hk]; exact hM)⟩
theorem MS.cells (h : MS w T M m) : ∃ av kv : Value, w.cell? ⟨M, 0, none⟩ = some av ∧ w.cell? ⟨M, 1, none⟩ = some kv ∧ w.cell? ⟨M, 2, none⟩ = some (.int .i64 m.clock) ∧ w.cell? ⟨M, 3, none⟩ = some (.int .i64 m.stamp) ∧ w.frozen? ⟨M, 0, none⟩ = false ∧ w.frozen? ⟨M, 1, none⟩ = false ∧ w.frozen? ⟨M, 2, none⟩ = false ∧ w.frozen? ⟨M, 3, none⟩ = false := by
  obtain ⟨av, kv, hb, -⟩ := h
  exact ⟨av, kv, blk_cell hb 0 rfl, blk_cell hb 1 rfl, blk_cell hb 2 rfl, blk_cell hb 3 rfl, blk_free hb 0, blk_free hb 1, blk_free hb 2, blk_free hb 3⟩
theorem MS.gro (h : MS w T M m) (f : Fr (fun _ => False) w w') : MS w' (Gro T w w') M m := (h.fr f (fun _ _ h => h)).mono (fun k hk => .inl hk) (fun k hk => hk.elim (fun hk => Nat.lt_of_lt_of_le (h.lt hk) f.size) (fun h => h.2))
end
/-- What a call on the document's state answers and leaves. -/
def MAns (R : Int → RM → Prop) (w : World) (T : Nat → Prop) (M : Nat) (e : Ending) (w' : World) : Prop := ∃ c m', e = .returned (.int .i64 c) ∧ R c m' ∧ MS w' (Gro T w w') M m' ∧ Fr T w w'
/-- What the document's Open makes. -/
inductive MOpen (m : RM) (a : Acc) : Int → RM → Prop
  | full (h : 32 ≤ m.accs.length) : MOpen m a 6 m
  | there (h : m.accs.length < 32) (h2 : ∃ x ∈ m.accs, x.id = a.id) : MOpen m a 1 m
  | done (h : m.accs.length < 32) (h2 : ∀ x ∈ m.accs, x.id ≠ a.id) : MOpen m a 0 { m with accs := m.accs ++ [{ a with stamp := m.stamp + 1 }], stamp := m.stamp + 1 }
attribute [-go_sem] loadCells
set_option maxRecDepth 4000 in
set_option maxHeartbeats 6400000 in
theorem mOpen (w : World) (T : Nat → Prop) (M : Nat) (m : RM) (a : Acc) (h : MS w T M m) (hn : m.accs.length ≤ 100000) (h0 : 0 ≤ m.stamp) (h1 : m.stamp ≤ 4611686018427387904) :
    Calls Tryd.prog 73 #[.pointer (some ⟨M, 0, none⟩), .agg #[.int .u64 a.id.hi, .int .u64 a.id.lo, .int .u64 a.dp.hi, .int .u64 a.dp.lo, .int .u64 a.dq.hi, .int .u64 a.dq.lo, .int .u64 a.cp.hi, .int .u64 a.cp.lo, .int .u64 a.cq.hi, .int .u64 a.cq.lo, .int .i64 a.ledger, .int .i64 a.code, .int .i64 a.flags, .int .i64 a.stamp]] w (MAns (MOpen m a) w T M) := by
  have HS := Lib.hid (h.fr ((Fr.refl (fun _ => False) w).alloc (.cells #[.int .u64 a.id.hi, .int .u64 a.id.lo, .int .u64 a.dp.hi, .int .u64 a.dp.lo, .int .u64 a.dq.hi, .int .u64 a.dq.lo, .int .u64 a.cp.hi, .int .u64 a.cp.lo, .int .u64 a.cq.hi, .int .u64 a.cq.lo, .int .i64 a.ledger, .int .i64 a.code, .int .i64 a.flags, .int .i64 a.stamp] 26)) (fun _ _ h => h))
  have HB := Lib.hid (heap_alloc_new w (.cells #[.int .u64 a.id.hi, .int .u64 a.id.lo, .int .u64 a.dp.hi, .int .u64 a.dp.lo, .int .u64 a.dq.hi, .int .u64 a.dq.lo, .int .u64 a.cp.hi, .int .u64 a.cp.lo, .int .u64 a.cq.hi, .int .u64 a.cq.lo, .int .i64 a.ledger, .int .i64 a.code, .int .i64 a.flags, .int .i64 a.stamp] 26))
  have F0 := Lib.hid ((Fr.refl (fun _ => False) w).alloc (.cells #[.int .u64 a.id.hi, .int .u64 a.id.lo, .int .u64 a.dp.hi, .int .u64 a.dp.lo, .int .u64 a.dq.hi, .int .u64 a.dq.lo, .int .u64 a.cp.hi, .int .u64 a.cp.lo, .int .u64 a.cq.hi, .int .u64 a.cq.lo, .int .i64 a.ledger, .int .i64 a.code, .int .i64 a.flags, .int .i64 a.stamp] 26))
  have HTl := Lib.hid (show ∀ k, T k → k < w.heap.size from fun k hk => h.lt hk)
  have HH := Lib.hid h
  obtain ⟨n, hnl⟩ : ∃ n, m.accs.length = n := ⟨_, rfl⟩
  have HN := Lib.hid hnl
  obtain ⟨av, kv, hb, ha, -⟩ := HS.out
  obtain ⟨a0, cap, rfl, -, -⟩ := own_form ha
  have c0 := blk_cell hb 0 rfl
  rw [hnl] at c0 hn
  have HAc := Lib.hid (mAcct (w.alloc (.cells #[.int .u64 a.id.hi, .int .u64 a.id.lo, .int .u64 a.dp.hi, .int .u64 a.dp.lo, .int .u64 a.dq.hi, .int .u64 a.dq.lo, .int .u64 a.cp.hi, .int .u64 a.cp.lo, .int .u64 a.cq.hi, .int .u64 a.cq.lo, .int .i64 a.ledger, .int .i64 a.code, .int .i64 a.flags, .int .i64 a.stamp] 26)) T M m a.id HS.out (by rw [hnl]; exact hn))
  have lm := ld_nm (P := Tryd.prog) (W := w.alloc (.cells #[.int .u64 a.id.hi, .int .u64 a.id.lo, .int .u64 a.dp.hi, .int .u64 a.dp.lo, .int .u64 a.dq.hi, .int .u64 a.dq.lo, .int .u64 a.cp.hi, .int .u64 a.cp.lo, .int .u64 a.cq.hi, .int .u64 a.cq.lo, .int .i64 a.ledger, .int .i64 a.code, .int .i64 a.flags, .int .i64 a.stamp] 26)) (blk_cell HB.out 0 rfl) (blk_cell HB.out 1 rfl)
  clear h hb ha hnl
  by_cases hfull : 32 ≤ n
  · have hfI : (32 : Int) ≤ n := by omega
    go_enter Tryd.func73, Tryd.ntmps73
    go_wp2_with fail
    go_ret
    exact ⟨6, m, rfl, .full (by rw [HN.out]; exact hfull), HH.out.gro F0.out, F0.out.mono (fun _ h => h.elim)⟩
  have hfI : ¬ (32 : Int) ≤ n := by omega
  go_enter Tryd.func73, Tryd.ntmps73
  go_wp2_with fail
  refine HAc.out.mono ?_
  rintro e w2 ⟨⟨i, rfl, hi⟩, f2⟩
  have HI := Lib.hid hi
  have F2 := Lib.hid (F0.out.then_ f2 (fun _ h => h.elim))
  have HS2 := Lib.hid (HS.out.fr f2 (fun _ _ h => h))
  have B2 := Lib.hid (f2.blk HB.out (fun h => h))
  rcases hi with ⟨rfl, hno⟩ | ⟨k, x, rfl, hx, hxe⟩
  rotate_left
  · have hkI : (0 : Int) ≤ k := by omega
    have HE := Lib.hid (show ∃ x ∈ m.accs, x.id = a.id from ⟨x, List.mem_of_getElem? hx, hxe⟩)
    clear hx hxe f2
    go_wp2_with fail
    go_ret
    exact ⟨1, m, rfl, .there (by rw [HN.out]; omega) HE.out, HH.out.gro F2.out, F2.out.mono (fun _ h => h.elim)⟩
  have HNo := Lib.hid hno
  obtain ⟨s, hs⟩ : ∃ s, m.stamp = s := ⟨_, rfl⟩
  have HSs := Lib.hid hs
  rw [hs] at h0 h1
  have ws : IntKind.i64.wrap (s + 1) = s + 1 := IntWalk.i64_in _ (by omega)
  clear hno f2 lm c0 hs
  go_upto_region 5 with fail
  go_cut [] from 5 (fun w' => MS w' T M { m with stamp := s + 1 } ∧ Fr T w2 w')
  case first =>
    obtain ⟨av2, kv2, -, -, -, c3, -, -, -, z3⟩ := HS2.out.cells
    rw [HSs.out] at c3
    have hr := Lib.hid (HS2.out.restamp (s + 1))
    go_wp2_with fail
    go_meet
    exact hr.out
  case rest =>
  obtain ⟨s3, f3⟩ := hcut
  obtain ⟨w3, hw3⟩ : ∃ W, W = wc := ⟨_, rfl⟩
  subst hw3
  have HS3 := Lib.hid s3
  have B3 := Lib.hid (f3.blk B2.out (fun hk => by have := HTl.out _ hk; omega))
  have F3 := Lib.hid ((F2.out.mono (fun _ h => h.elim)).then_ f3 (fun k hk => .inl hk) : Fr T w w3)
  clear s3 f3
  go_upto_region 6 with fail
  go_cut [] from 5 (fun w' => w'.heap[w.heap.size]? = some (.cells ({ a with stamp := s + 1 } : Acc).cells.toArray 26 (0, 0)) ∧ Fr (fun k => k = w.heap.size) w3 w')
  case first =>
    obtain ⟨av2, kv2, -, -, -, c3, -, -, -, -⟩ := HS3.out.cells
    have a13 := blk_cell B3.out 13 rfl
    have z13 := blk_free B3.out 13
    go_wp2_with fail
    go_meet
    exact ⟨blk_set B3.out 13 (.int .i64 (s + 1)), (Fr.refl (fun k => k = w.heap.size) w3).set1 _⟩
  case rest =>
  obtain ⟨b4, f4⟩ := hcut
  obtain ⟨w4, hw4⟩ : ∃ W, W = wc := ⟨_, rfl⟩
  subst hw4
  have HS4 := Lib.hid (HS3.out.fr f4 (fun k hk e => by have := HTl.out k hk; omega))
  have B4 := Lib.hid b4
  have F4 := Lib.hid (F3.out.then_ f4 (fun k hk => .inr (by omega)))
  clear b4 f4
  go_upto_region 7 with fail
  obtain ⟨i0, hi0, hz0, hz1, hz2⟩ := info_parts Tryd.infoAcc
  obtain ⟨av, kv, hb, ha, hk, hM, hA, hK, hd, hl⟩ := HS4.out
  obtain ⟨a0, cap, rfl, -, -⟩ := own_form ha
  have Hb := Lib.hid hb
  have Ha := Lib.hid ha
  have HAll := Lib.hid (And.intro hk (And.intro hM (And.intro hA (And.intro hK (And.intro hd hl)))))
  have Hne := Lib.hid (show ¬ (Value.slice a0 m.accs.length cap).ownBlock = some M from fun he => (hA M he).2 rfl)
  obtain ⟨C, hC⟩ : ∃ C, ({ a with stamp := s + 1 } : Acc).cells.toArray = C := ⟨_, rfl⟩
  have hCs : C.size = 14 := by rw [← hC]; rfl
  have HCo := Lib.hid (show ∀ u ∈ C.toList, u.oneCell' = true from by rw [← hC]; simp [Acc.cells, Value.oneCell'])
  have HFo := Lib.hid (fold_set #[.int .u64 0, .int .u64 0, .int .u64 0, .int .u64 0, .int .u64 0, .int .u64 0, .int .u64 0, .int .u64 0, .int .u64 0, .int .u64 0, .int .i64 0, .int .i64 0, .int .i64 0, .int .i64 0] C 14 rfl hCs)
  have HN2 := Lib.hid (show (m.accs ++ [{ a with stamp := s + 1 }]).flatMap Acc.cells = m.accs.flatMap Acc.cells ++ C.toList from by rw [List.flatMap_append, ← hC]; simp)
  have HBx := Lib.hid (show w4.heap[w.heap.size]? = some (.cells C 26 (0, 0)) from by rw [← hC]; exact B4.out)
  clear hb ha hk hM hA hK hd hl hC
  go_cut [] from 5 (fun w' => MS w' (Gro T w4 w') M { m with stamp := s + 1, accs := m.accs ++ [{ a with stamp := s + 1 }] } ∧ Fr T w4 w')
  case first =>
    have c0 := blk_cell Hb.out 0 rfl
    have hfo : Array.foldl (fun cs (x : Value × Nat) => cs.setIfInBounds x.snd x.fst) #[.int .u64 0, .int .u64 0, .int .u64 0, .int .u64 0, .int .u64 0, .int .u64 0, .int .u64 0, .int .u64 0, .int .u64 0, .int .u64 0, .int .i64 0, .int .i64 0, .int .i64 0, .int .i64 0] C.zipIdx 0 14 = C := HFo.out
    have lx := ld_row (P := Tryd.prog) (W := w4.drew) w.heap.size C (n := 14) hCs (blk_drew HBx.out)
    have c0x := blk_cell (blk_alloc Hb.out (.cells C 26)) 0 rfl
    go_region_law (first | (refine step_append_fresh _ w4.drew rfl (.tmp 32) (.tmp 34) 42 rfl 26 i0 (.agg #[.int .u64 0, .int .u64 0, .int .u64 0, .int .u64 0, .int .u64 0, .int .u64 0, .int .u64 0, .int .u64 0, .int .u64 0, .int .u64 0, .int .i64 0, .int .i64 0, .int .i64 0, .int .i64 0]) 14 112 Tryd.underlying42 hi0 hz0 hz1 hz2 rfl (by decide) (.slice a0 m.accs.length cap) m.accs.length _ (by simp only [Act.eval, Act.put]; rfl) Ha.out.drew C rfl (by simp [Act.eval, Act.put]) hCs HCo.out (by rw [HN.out]; omega) (by rw [HN.out]; omega) ?_; intro g2 cap2 w5 hown2 hf2 hat2; have hb' := hf2.blk (blk_alloc (w := w4.drew) Hb.out _) Hne.out; have c0' := blk_cell hb' 0 rfl; have f0' := blk_free hb' 0))
    all_goals
      have HR := Lib.hid (rq_push (L := mL0 M kv m.clock (s + 1)) (S := fun k => k = M ∨ (Value.slice a0 m.accs.length cap).ownBlock = some k) Hb.out (.inl rfl) (fun k hk => ⟨.inr hk, (HAll.out.2.2.1 k hk).2⟩) (fun k hk => hk.elim (fun e => HAll.out.2.2.2.2.2 k (e ▸ HAll.out.2.1)) (fun h => HAll.out.2.2.2.2.2 k (HAll.out.2.2.1 k h).1)) ((Fr.refl _ w4).drew.alloc (.cells C 26)) hown2 hf2 hat2)
      clear hown2 hf2 hat2
      go_wp2_with fail
      go_meet
      have hr := HR.out
      rw [← HN2.out] at hr
      refine ⟨ms_reacc (m := { m with stamp := s + 1 }) Hb.out HAll.out.1 HAll.out.2.1 HAll.out.2.2.1 HAll.out.2.2.2.1 HAll.out.2.2.2.2.1 HAll.out.2.2.2.2.2 (by rw [List.length_append, List.length_singleton]; exact hr.1) ?_ hr.2, hr.2.mono (fun k hk => hk.elim (fun e => e ▸ HAll.out.2.1) (fun h => (HAll.out.2.2.1 k h).1))⟩
      exact fun k hk => Or.imp id (fun h => h.1) hk
  case rest =>
  obtain ⟨s5, f5⟩ := hcut
  have HS5 := Lib.hid s5
  have F5 := Lib.hid f5
  clear s5 f5
  go_wp2_with fail
  go_ret
  have hs := HSs.out
  subst hs
  exact ⟨0, { m with accs := m.accs ++ [{ a with stamp := m.stamp + 1 }], stamp := m.stamp + 1 }, rfl, .done (by rw [HN.out]; omega) HNo.out, HS5.out.mono (fun k hk => hk.imp id (fun h => ⟨Nat.le_trans F4.out.size h.1, h.2⟩)) (fun k hk => hk.elim (fun h => Nat.lt_of_lt_of_le (HTl.out k h) (Nat.le_trans F4.out.size F5.out.size)) (fun h => h.2)), F4.out.then_ F5.out (fun k hk => .inl hk)⟩
theorem mTime (w : World) (T : Nat → Prop) (M : Nat) (m : RM) (now : Int) (h : MS w T M m) :
    Calls Tryd.prog 77 #[.pointer (some ⟨M, 0, none⟩), .int .i64 now] w fun e w' => e = .returned (.tuple #[]) ∧ MS w' T M { m with clock := if m.clock < now ∧ now ≤ 1099511627776 then now else m.clock } ∧ Fr T w w' := by
  obtain ⟨av, kv, -, -, c2, -, -, -, z2, -⟩ := h.cells
  obtain ⟨c, hc⟩ : ∃ c, m.clock = c := ⟨_, rfl⟩
  rw [hc] at c2
  have HC := Lib.hid hc
  have HH := Lib.hid h
  have HR := Lib.hid (h.reclock now)
  rw [hc]
  by_cases hg : c < now ∧ now ≤ 1099511627776
  · rw [if_pos hg]
    obtain ⟨g1, g2⟩ := hg
    clear h hc
    go_enter Tryd.func77, Tryd.ntmps77
    go_wp2_with fail
    go_end0
    exact ⟨rfl, HR.out.1, HR.out.2⟩
  · rw [if_neg hg]
    have hm : { m with clock := c } = m := by rw [← hc]
    rw [hm]
    rcases (show ¬ c < now ∨ (c < now ∧ ¬ now ≤ 1099511627776) from by omega) with g1 | ⟨g1, g2⟩
    all_goals
      clear h hc hg hm
      go_enter Tryd.func77, Tryd.ntmps77
      go_wp2_with fail
      go_end0
      exact ⟨rfl, HH.out, Fr.refl _ _⟩
end Go.Proofs.YtjchjpmgbmeohaaDoor

/- The document's Same, of what is the same. -/
set_option linter.unusedSimpArgs false
set_option linter.unusedVariables false
namespace Go.Proofs.YtjchjpmgbmeohaaDoor
open Go.RowKit

attribute [-go_sem] loadCells
set_option maxRecDepth 8000 in
set_option maxHeartbeats 6400000 in
theorem mSame (w : World) (T : Nat → Prop) (M : Nat) (m : RM) (ga gk : Option Addr) (ca ck : Nat) (h : MS w T M m) (ha : w.ownsRow 0 26 14 (.slice ga m.accs.length ca) m.accs.length (m.accs.flatMap Acc.cells)) (hk : w.ownsRow 0 63 33 (.slice gk m.kept.length ck) m.kept.length (m.kept.flatMap Kp.cells)) (hn1 : m.accs.length ≤ 100000) (hn2 : m.kept.length ≤ 100000) :
    Calls Tryd.prog 82 #[.pointer (some ⟨M, 0, none⟩), .slice ga m.accs.length ca, .slice gk m.kept.length ck, .int .i64 m.clock, .int .i64 m.stamp] w fun e w' => e = .returned (.bool true) ∧ Fr (fun _ => False) w w' := by
  obtain ⟨av, kv, hb, h1, h2, -, -, -, -, -⟩ := h
  obtain ⟨a0, c0, rfl, -, -⟩ := own_form h1
  obtain ⟨k0, d0, rfl, -, -⟩ := own_form h2
  have HA := Lib.hid ha
  have HK := Lib.hid hk
  have HA1 := Lib.hid h1
  have HK1 := Lib.hid h2
  have m0 : w.cell? ⟨M, 0, none⟩ = some (.slice a0 m.accs.length c0) := blk_cell hb 0 rfl
  have m1 : w.cell? ⟨M, 1, none⟩ = some (.slice k0 m.kept.length d0) := blk_cell hb 1 rfl
  have m2 : w.cell? ⟨M, 2, none⟩ = some (.int .i64 m.clock) := blk_cell hb 2 rfl
  have m3 : w.cell? ⟨M, 3, none⟩ = some (.int .i64 m.stamp) := blk_cell hb 3 rfl
  obtain ⟨xs, hxs⟩ : ∃ l, m.accs = l := ⟨_, rfl⟩
  obtain ⟨ks, hks⟩ : ∃ l, m.kept = l := ⟨_, rfl⟩
  rw [hxs] at HA HA1 m0 hn1
  rw [hks] at HK HK1 m1 hn2
  rw [hxs, hks]
  obtain ⟨n, hn⟩ : ∃ n, xs.length = n := ⟨_, rfl⟩
  obtain ⟨nk, hnk⟩ : ∃ n, ks.length = n := ⟨_, rfl⟩
  have HN := Lib.hid hn
  have HNk := Lib.hid hnk
  rw [hn] at m0 hn1
  rw [hnk] at m1 hn2
  rw [hn, hnk]
  clear hb h1 h2 ha hk hxs hks hn hnk
  go_enter Tryd.func82, Tryd.ntmps82
  go_wp2_with fail
  go_loopw [49] (fun iv wr => ∃ j : Nat, j ≤ n ∧ iv = .int .i64 j ∧ Fr (fun _ => False) w wr) (fun iv _ => ((n : Int) - intOf iv).toNat)
  case atStart => exact ⟨0, by omega, rfl, by first | exact Fr.refl _ _ | exact (Fr.refl _ _).drew⟩
  case round =>
    obtain ⟨j, hj, rfl, hf⟩ := hrel
    have HF := Lib.hid hf
    by_cases hjm : j < n
    · have jI : (j : Int) < n := by omega
      have jJ : (0 : Int) ≤ j := by omega
      have w1' : IntKind.i64.wrap ((j : Int) + 1) = j + 1 := IntWalk.i64_in _ (by omega)
      have hl : j < xs.length := by rw [HN.out]; exact hjm
      have ho := own_fr HA.out hf (fun _ _ h => h)
      have ho1 := own_fr HA1.out hf (fun _ _ h => h)
      rw [HN.out] at ho ho1
      obtain ⟨g, cg, e0⟩ := own_some ho (by omega)
      simp only [Value.slice.injEq] at e0
      obtain ⟨rfl, -, rfl⟩ := e0
      obtain ⟨g1, cg1, e0⟩ := own_some ho1 (by omega)
      simp only [Value.slice.injEq] at e0
      obtain ⟨rfl, -, rfl⟩ := e0
      obtain ⟨x, hx⟩ : ∃ x, xs[j] = x := ⟨_, rfl⟩
      have hr := rw_range (f := Acc.cells) (sz := 14) (fun _ => rfl) ho HN.out hl
      have hr1 := rw_range (f := Acc.cells) (sz := 14) (fun _ => rfl) ho1 HN.out hl
      rw [hx] at hr hr1
      have mm := hf.cell (p := ⟨M, 0, none⟩) m0 (fun h => h)
      have heq := eqm_AccS x
      obtain ⟨C, hC⟩ : ∃ C, x.cells.toArray = C := ⟨_, rfl⟩
      have hCs : C.size = 14 := by rw [← hC]; rfl
      have hCl : x.cells = C.toList := by rw [← hC]
      rw [hC] at heq
      rw [hCl] at hr hr1
      have lg := ld_range (P := Tryd.prog) (W := wr.drew) (g := g) (o := j * 14) C ((World.rangeAt_drew _ _ _ _).2 hr) hCs
      have lg1 := ld_range (P := Tryd.prog) (W := wr.drew) (g := g1) (o := j * 14) C ((World.rangeAt_drew _ _ _ _).2 hr1) hCs
      clear hr hr1 hx hf ho ho1 hC hCl hl m0 m1 m2 m3
      go_upto_region 6 with fail
      go_region
      all_goals
        go_wp2_with fail
        go_roundw
        case rel => exact ⟨j + 1, by omega, by go_num, HF.out.drew⟩
        case measure => simp [intOf]; omega
    · obtain rfl : j = n := by omega
      have hjI : ¬ (j : Int) < j := by omega
      clear hf m0 m2 m3
      go_wp2_with fail
      go_loopw [67] (fun iv wr => ∃ i : Nat, i ≤ nk ∧ iv = .int .i64 i ∧ Fr (fun _ => False) w wr) (fun iv _ => ((nk : Int) - intOf iv).toNat)
      case atStart => exact ⟨0, by omega, rfl, by first | exact HF.out | exact HF.out.drew⟩
      case round =>
        obtain ⟨i, hi, rfl, hf⟩ := hrel
        have HF := Lib.hid hf
        by_cases him : i < nk
        · have iI : (i : Int) < nk := by omega
          have iJ : (0 : Int) ≤ i := by omega
          have w1' : IntKind.i64.wrap ((i : Int) + 1) = i + 1 := IntWalk.i64_in _ (by omega)
          have hl : i < ks.length := by rw [HNk.out]; exact him
          have ho := own_fr HK.out hf (fun _ _ h => h)
          have ho1 := own_fr HK1.out hf (fun _ _ h => h)
          rw [HNk.out] at ho ho1
          obtain ⟨g, cg, e0⟩ := own_some ho (by omega)
          simp only [Value.slice.injEq] at e0
          obtain ⟨rfl, -, rfl⟩ := e0
          obtain ⟨g1, cg1, e0⟩ := own_some ho1 (by omega)
          simp only [Value.slice.injEq] at e0
          obtain ⟨rfl, -, rfl⟩ := e0
          obtain ⟨x, hx⟩ : ∃ x, ks[i] = x := ⟨_, rfl⟩
          have hr := rw_range (f := Kp.cells) (sz := 33) (fun _ => rfl) ho HNk.out hl
          have hr1 := rw_range (f := Kp.cells) (sz := 33) (fun _ => rfl) ho1 HNk.out hl
          rw [hx] at hr hr1
          have mm := hf.cell (p := ⟨M, 1, none⟩) m1 (fun h => h)
          have heq := eqm_Kp x
          obtain ⟨C, hC⟩ : ∃ C, x.cells.toArray = C := ⟨_, rfl⟩
          have hCs : C.size = 33 := by rw [← hC]; rfl
          have hCl : x.cells = C.toList := by rw [← hC]
          rw [hC] at heq
          rw [hCl] at hr hr1
          have lg := ld_range (P := Tryd.prog) (W := wr.drew) (g := g) (o := i * 33) C ((World.rangeAt_drew _ _ _ _).2 hr) hCs
          have lg1 := ld_range (P := Tryd.prog) (W := wr.drew) (g := g1) (o := i * 33) C ((World.rangeAt_drew _ _ _ _).2 hr1) hCs
          clear hr hr1 hx hf ho ho1 hC hCl hl m1
          go_upto_region 12 with fail
          go_region
          all_goals
            go_wp2_with fail
            go_roundw
            case rel => exact ⟨i + 1, by omega, by go_num, HF.out.drew⟩
            case measure => simp [intOf]; omega
        · obtain rfl : i = nk := by omega
          have hiI : ¬ (i : Int) < i := by omega
          clear hf m1
          go_wp2_with fail
          go_ret
          exact ⟨rfl, HF.out⟩
end Go.Proofs.YtjchjpmgbmeohaaDoor
