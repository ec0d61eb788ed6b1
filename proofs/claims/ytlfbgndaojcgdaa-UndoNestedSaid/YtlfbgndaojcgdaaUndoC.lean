/- Package undo: Back. -/
import Derived.Test.YtlfbgndaojcgdaaUndoB
namespace Go.Proofs.Ytlfbgndaojcgdaa
open Go.RowKit

theorem foldl_undo_le (new : List Ent) (xs : List Int) : (new.foldl (fun l e => e.undo l) xs).length ≤ xs.length := by
  induction new generalizing xs with
  | nil => exact Nat.le_refl _
  | cons e new ih => exact Nat.le_trans (ih _) (undo_le e xs)
/-- One less to be taken back. -/
theorem st_back {w w2 : World} {S G : Nat → Prop} {L g : Nat} {xs : List Int} {es : List Ent} {e : Ent} (h : St w S G L g xs (e :: es)) (l2 : IsL w2 S L (some g) (e.undo xs)) (f2 : Fr S w w2) :
    IsG w2 G g (e :: es) ∧ ∀ w3, IsG w3 G g es → Fr G w2 w3 → St w3 S G L g (e.undo xs) es ∧ Fr (fun k => S k ∨ G k) w w3 := by
  refine ⟨Rw.fr h.g f2 (fun k hk hs => h.dis k hs hk), fun w3 g3 f3 => ?_⟩
  have hfr : Fr (fun k => S k ∨ G k) w w3 := (f2.mono (fun k hk => .inl hk)).then_ f3 (fun k hk => .inl (.inr hk))
  refine ⟨⟨Rw.fr l2 f3 h.dis, g3, h.dis, fun e' he' => ?_, h.fits.2⟩, hfr⟩
  obtain ⟨ha, hh⟩ := h.ents e' (List.mem_cons_of_mem _ he')
  exact ⟨ent_fr ha hfr (fun k hk hs => hs.elim (hh k hk).2.1 (hh k hk).2.2), fun k hk => ⟨Nat.lt_of_lt_of_le (hh k hk).1 hfr.size, (hh k hk).2⟩⟩

set_option maxHeartbeats 1600000 in
theorem back_any (w : World) (S G : Nat → Prop) (L g : Nat) (xs : List Int) (new old : List Ent) (h : St w S G L g xs (new ++ old)) (hx : xs.length ≤ 1000000) (hn : (new ++ old).length ≤ 1000000) :
    Calls Try.prog 15 #[.pointer (some ⟨g, 0, none⟩), .int .i64 old.length] w fun r w' => r = .returned (.tuple #[]) ∧ St w' S G L g (new.foldl (fun l e => e.undo l) xs) old ∧ Fr (fun k => S k ∨ G k) w w' := by
  have H := Lib.hid h
  clear h
  have hm : ¬ ((old.length : Int) < 0) := by omega
  go_enter Try.func15, Try.ntmps15
  go_wp2_with fail
  go_loopg [4] (new.length) (fun k _ wr => ∃ n1 n2, new = n1 ++ n2 ∧ n2.length = k ∧ St wr S G L g (n1.foldl (fun l e => e.undo l) xs) (n2 ++ old) ∧ Fr (fun k => S k ∨ G k) w wr)
  case atStart => exact ⟨[], new, rfl, rfl, H.out, Fr.refl _ _⟩
  case round =>
    obtain ⟨n1, n2, rfl, rfl, hs, hf⟩ := hrel
    have hy := foldl_undo_le n1 xs
    obtain ⟨ys, hys⟩ : ∃ ys, n1.foldl (fun l e => e.undo l) xs = ys := ⟨_, rfl⟩
    rw [hys] at hs hy
    have HF := Lib.hid hf
    clear H hf
    obtain ⟨v, hb, ho, hG, hSv, hl⟩ := hs.g
    cases n2 with
    | nil =>
      obtain ⟨a, cap, rfl, -, -⟩ := own_form ho
      have c0 := blk_cell hb 0 rfl
      have HS := Lib.hid hs
      have HY := Lib.hid hys
      clear hb ho hG hSv hl hs hys
      have hnn : (([] : List Ent) ++ old).length = old.length := rfl
      rw [hnn] at c0
      go_wp2_with fail
      go_end0
      exact ⟨rfl, by rw [List.append_nil, HY.out]; exact HS.out, HF.out⟩
    | cons e n2 =>
      obtain ⟨N, hN⟩ : ∃ N, (n2 ++ old).length = N := ⟨_, rfl⟩
      have hN2 : (e :: n2 ++ old).length = N + 1 := by rw [← hN]; rfl
      have hNo : (old.length : Int) < N + 1 := by rw [← hN, List.length_append]; omega
      have hNb : N ≤ 1000000 := by simp only [List.length_append, List.length_cons] at hn hN; omega
      have hlist : ((e :: n2 ++ old).reverse.map Ent.val) = (n2 ++ old).reverse.map Ent.val ++ [e.val] := by simp
      rw [hN2, hlist] at ho
      obtain ⟨gb, cap, rfl⟩ := own_some ho (by omega)
      have hcap : N + 1 ≤ cap := by
        obtain ⟨a', c', e', hc, -⟩ := own_form ho
        simp only [Value.slice.injEq] at e'
        omega
      have he := (hs.ents e (List.mem_cons_self ..)).1
      have hfit := hs.fits.1
      have hle := undo_le e ys
      have hnx := hs.fits.2
      rcases e with ⟨bl, bn, n⟩ | ⟨bo, bl, bi, i, ov⟩
      · have hcall := undo_cut wr S L _ ys bl bn n hs.l he hfit (by omega)
        have c0 := blk_cell hb 0 rfl
        have ca : wr.cell? ⟨gb, N, none⟩ = some (.func (.func 30) #[] #[.pointer (some ⟨bl, 0, none⟩), .pointer (some ⟨bn, 0, none⟩)]) := by
          rw [ho.cellAt N (by omega)]
          have hl2 : ((n2 ++ old).reverse.map Ent.val).length = N := by rw [List.length_map, List.length_reverse, hN]
          rw [List.getElem?_append_right (by omega), hl2]
          simp [Ent.val]
        have HC := Lib.hid hcall
        have HS := Lib.hid hs
        have Ho := Lib.hid ho
        have Hl := Lib.hid hl
        have Hsv := Lib.hid hSv
        have Hg := Lib.hid hG
        have HY := Lib.hid hys
        have hwrap : IntKind.i64.wrap ((N : Int) + 1 - 1) = N := by rw [IntWalk.i64_in _ (by omega)]; omega
        have HLe := Lib.hid hle
        have Hb := Lib.hid hb
        have HN := Lib.hid hN
        clear hb ho hl hSv hG hs hys hcall hlist hn he hfit hle hN2 hnx
        go_wp2_with (go_at_call 30; go_must (refine HC.out.mono ?_); rintro r w2 ⟨rfl, l2, f2⟩; have hbk := st_back HS.out l2 f2; have Hbk := Lib.hid hbk; clear hbk; have F2 := Lib.hid f2; have hb2 := f2.blk Hb.out (fun hk => HS.out.dis _ hk Hg.out); have ho2 := own_fr Ho.out f2 (fun k hk hs => HS.out.dis _ hs (Hsv.out k hk).1); have c2 := blk_cell hb2 0 rfl; have fz := blk_free hb2 0; have Hct := Lib.hid (rw_cut (m := N) hb2 ho2 Hg.out Hsv.out (fun k hk => Nat.lt_of_lt_of_le (Hl.out k hk) f2.size) rfl (by omega)); clear hb2 ho2 l2 f2)
        have hgN : IsG (w2.setCell ⟨g, 0, none⟩ (.slice (some ⟨gb, 0, none⟩) N cap)) G g (n2 ++ old) := by
          have h := Hct.out.1
          unfold IsG
          rw [HN.out]
          have e : ((n2 ++ old).reverse.map Ent.val ++ [Ent.val (.cut bl bn n)]).take (N * 1) = (n2 ++ old).reverse.map Ent.val := by
            have hl2 : ((n2 ++ old).reverse.map Ent.val).length = N := by rw [List.length_map, List.length_reverse, HN.out]
            rw [Nat.mul_one, List.take_append_of_le_length (by omega), List.take_of_length_le (by omega)]
          rwa [e] at h
        have hst := Hbk.out.2 _ hgN Hct.out.2
        have HST := Lib.hid hst
        clear hst hgN
        go_roundg n2.length
        case measure => simp
        case rel => exact ⟨n1 ++ [.cut bl bn n], n2, by simp, rfl, by rw [List.foldl_append, HY.out]; exact HST.out.1, HF.out.then_ HST.out.2 (fun k hk => .inl hk)⟩
      · have hcall := undo_put wr S L _ ys bo bl bi i ov hs.l he hfit (by omega)
        have c0 := blk_cell hb 0 rfl
        have ca : wr.cell? ⟨gb, N, none⟩ = some (.func (.func 31) #[] #[.pointer (some ⟨bo, 0, none⟩), .pointer (some ⟨bl, 0, none⟩), .pointer (some ⟨bi, 0, none⟩)]) := by
          rw [ho.cellAt N (by omega)]
          have hl2 : ((n2 ++ old).reverse.map Ent.val).length = N := by rw [List.length_map, List.length_reverse, hN]
          rw [List.getElem?_append_right (by omega), hl2]
          simp [Ent.val]
        have HC := Lib.hid hcall
        have HS := Lib.hid hs
        have Ho := Lib.hid ho
        have Hl := Lib.hid hl
        have Hsv := Lib.hid hSv
        have Hg := Lib.hid hG
        have HY := Lib.hid hys
        have hwrap : IntKind.i64.wrap ((N : Int) + 1 - 1) = N := by rw [IntWalk.i64_in _ (by omega)]; omega
        have HLe := Lib.hid hle
        have Hb := Lib.hid hb
        have HN := Lib.hid hN
        clear hb ho hl hSv hG hs hys hcall hlist hn he hfit hle hN2 hnx
        go_wp2_with (go_at_call 31; go_must (refine HC.out.mono ?_); rintro r w2 ⟨rfl, l2, f2⟩; have hbk := st_back HS.out l2 f2; have Hbk := Lib.hid hbk; clear hbk; have F2 := Lib.hid f2; have hb2 := f2.blk Hb.out (fun hk => HS.out.dis _ hk Hg.out); have ho2 := own_fr Ho.out f2 (fun k hk hs => HS.out.dis _ hs (Hsv.out k hk).1); have c2 := blk_cell hb2 0 rfl; have fz := blk_free hb2 0; have Hct := Lib.hid (rw_cut (m := N) hb2 ho2 Hg.out Hsv.out (fun k hk => Nat.lt_of_lt_of_le (Hl.out k hk) f2.size) rfl (by omega)); clear hb2 ho2 l2 f2)
        have hgN : IsG (w2.setCell ⟨g, 0, none⟩ (.slice (some ⟨gb, 0, none⟩) N cap)) G g (n2 ++ old) := by
          have h := Hct.out.1
          unfold IsG
          rw [HN.out]
          have e : ((n2 ++ old).reverse.map Ent.val ++ [Ent.val (.put bo bl bi i ov)]).take (N * 1) = (n2 ++ old).reverse.map Ent.val := by
            have hl2 : ((n2 ++ old).reverse.map Ent.val).length = N := by rw [List.length_map, List.length_reverse, HN.out]
            rw [Nat.mul_one, List.take_append_of_le_length (by omega), List.take_of_length_le (by omega)]
          rwa [e] at h
        have hst := Hbk.out.2 _ hgN Hct.out.2
        have HST := Lib.hid hst
        clear hst hgN
        go_roundg n2.length
        case measure => simp
        case rel => exact ⟨n1 ++ [.put bo bl bi i ov], n2, by simp, rfl, by rw [List.foldl_append, HY.out]; exact HST.out.1, HF.out.then_ HST.out.2 (fun k hk => .inl hk)⟩
end Go.Proofs.Ytlfbgndaojcgdaa
