/- tape.Read; the law's alive; TapeJoins. -/
import Derived.Test.YtpmebmkifdgjcaaItem
import Derived.Test.YtpmebmkifdgjcaaBaseS
namespace Go.Proofs.Ytpmebmkifdgjcaa
open Go.RowKit

theorem tRead_any (w : World) (l : List Int) :
    Calls Try.prog 12 #[.string (strOfNums l)] w fun e w' => ∃ g, e = .returned (.pointer (some ⟨g, 0, none⟩)) ∧ g = w.heap.size ∧ IsR w' g l false ∧ Fr (fun _ => False) w w' := by
  go_enter Try.func12, Try.ntmps12
  go_wp2
  go_ret
  exact ⟨_, rfl, rfl, heap_alloc_new w _, (Fr.refl _ w).alloc _⟩

theorem str_258 : strOfNums ([] ++ bytesOf 258 (clamp 2)) = ⟨#[2, 1]⟩ := by decide +kernel
theorem str_a : (⟨#[97]⟩ : ByteArray) = strOfNums [97] := rfl
theorem str_e : (⟨#[]⟩ : ByteArray) = strOfNums [] := rfl

set_option maxHeartbeats 1600000 in
theorem alive_any (w : World) :
    Calls Try.prog 7 #[] w fun e w' => e = .returned (.bool true) ∧ Fr (fun _ => False) w w' := by
  have F0 := Lib.hid ((Fr.refl (fun _ => False) w).alloc (.cells #[.slice none 0 0] 48))
  have W0 := Lib.hid (show IsW (w.alloc (.cells #[.slice none 0 0] 48)) (fun k => k = w.heap.size) w.heap.size [] from ⟨.slice none 0 0, heap_alloc_new w _, World.ownsRow_nil _ 0 5 1, rfl, fun k hk => by simp [Value.ownBlock] at hk⟩)
  go_enter Try.func7, Try.ntmps7
  go_wp2_with fail
  refine (wInt_any _ (fun k => k = w.heap.size) _ [] 2 258 W0.out (by simp)).mono ?_
  rintro e w1 ⟨rfl, h1, f1⟩
  have F1 := Lib.hid (F0.out.then_ f1 (fun k hk => .inr (by omega)))
  have W1 := Lib.hid h1
  clear h1 f1
  go_wp2_with fail
  refine (wString_any _ _ _ _ W1.out).mono ?_
  rintro e w2 ⟨rfl, rfl⟩
  rw [str_258]
  go_wp2_with fail
  refine (tRead_any _ []).mono ?_
  rintro e w3 ⟨g3, rfl, -, h3, f3⟩
  have H3 := Lib.hid h3
  have F3 := Lib.hid (F1.out.then_ f3 (fun _ h => h.elim))
  clear h3 f3
  go_wp2_with fail
  refine (rEnd_any _ _ _ _ H3.out).mono ?_
  rintro e w4 ⟨rfl, rfl⟩
  go_wp2_with fail
  refine (tRead_any _ [97]).mono ?_
  rintro e w5 ⟨g5, rfl, -, h5, f5⟩
  have H5 := Lib.hid h5
  have F5 := Lib.hid (F3.out.then_ f5 (fun _ h => h.elim))
  clear h5 f5
  go_wp2_with fail
  refine (rEnd_any _ _ _ _ H5.out).mono ?_
  rintro e w6 ⟨rfl, rfl⟩
  go_wp2
  go_ret
  exact ⟨rfl, F5.out⟩

theorem fr_new {w w1 w2 : World} {g n c : Nat} (h : Fr (fun _ => False) w w1) (h2 : Fr (fun k => (Value.slice (some ⟨g, 0, none⟩) n c).ownBlock = some k) w1 w2) (hg : w.heap.size ≤ g) : Fr (fun _ => False) w w2 :=
  h.then_ h2 fun k hk => .inr (by have e : g = k := by simpa [Value.ownBlock] using hk
                                  omega)
theorem fr_lies {w w1 w2 : World} {v : Value} {B : Nat} (h : Fr (fun _ => False) w w1) (h2 : Fr (fun k => v.ownBlock = some k) w1 w2) (hg : ∀ k, v.ownBlock = some k → B ≤ k) (hB : w.heap.size ≤ B) : Fr (fun _ => False) w w2 :=
  h.then_ h2 fun k hk => .inr (Nat.le_trans hB (hg k hk))

theorem own_ge {g n c k : Nat} (h : (Value.slice (some ⟨g, 0, none⟩) n c).ownBlock = some k) : g ≤ k := by
  have e : g = k := by simpa [Value.ownBlock] using h
  omega
theorem cells_one (l : List It) : ∀ u ∈ l.flatMap It.cells, u.oneCell' = true := by
  intro u hu
  obtain ⟨x, _, hx⟩ := List.mem_flatMap.1 hu
  simp only [It.cells, List.mem_cons, List.not_mem_nil, or_false] at hx
  rcases hx with rfl | rfl | rfl | rfl | rfl | rfl | rfl <;> rfl
theorem cells_len (l : List It) : (l.flatMap It.cells).length = l.length * 7 := by
  induction l with
  | nil => rfl
  | cons x r ih =>
    rw [List.flatMap_cons, List.length_append, ih, List.length_cons, Nat.succ_mul]
    have : (It.cells x).length = 7 := rfl
    omega
theorem Row.src {P : Program} {w : World} {a : Option Addr} {cap : Nat} {l : List It} (h : Row w a (l.flatMap It.cells)) (hnil : a = none → l = []) {tx e' : TypeId} (hk : P.underlying tx = some (.slice e')) :
    Src P 7 tx (.slice a l.length cap) l.length (l.flatMap It.cells) w := by
  cases a with
  | none =>
    obtain rfl := hnil rfl
    exact Src.ofNil w hk cap
  | some ad =>
    refine Src.ofSlice w hk ad _ cap _ (cells_len l) (fun j u hu => ?_) (cells_one l)
    obtain ⟨b, off, e, hc⟩ := h j u hu
    simp only [Option.some.injEq] at e
    subst e
    rw [Addr.add_lit]
    exact hc
theorem own_row {w : World} {base e size : Nat} {a : Option Addr} {n m cap : Nat} {xs : List Value} (h : w.ownsRow base e size (.slice a m cap) n xs) : Row w a xs := fun j u hu => by
  rcases h.2 with ⟨hv, h0⟩ | ⟨g, cp, cur, hv, _, hh, _⟩
  · have := h.1
    rw [h0] at this
    simp at this
    subst this
    simp at hu
  · simp only [Value.slice.injEq] at hv
    obtain ⟨rfl, _, _⟩ := hv
    have := h.cells (g := g) rfl j u hu
    rw [Addr.add_lit] at this
    exact ⟨g, 0, rfl, this⟩

theorem Try.infoItem : (Try.prog.info? 37).map (fun i => (i.zero, i.size, i.bytes)) = some (some (.agg #[.int .i64 0, .int .i64 0, .int .i64 0, .int .u64 0, .int .u64 0, .bool false, .string ⟨#[]⟩]), 7, 64) := by kernel_rfl

set_option maxHeartbeats 6400000 in
theorem joins_any (w : World) (a b : Option Addr) (ca cb : Nat) (l m : List It) (hr : Row w a (l.flatMap It.cells)) (hs : Row w b (m.flatMap It.cells)) (han : a = none → l = []) (hbn : b = none → m = [])
    (ol : ∀ x ∈ l, x.ok) (om : ∀ x ∈ m, x.ok) (hl : l.length ≤ 140737488355328) (hm : m.length ≤ 140737488355328) (tl : ∀ x ∈ l, x.text.length ≤ 140737488355328) (tm : ∀ x ∈ m, x.text.length ≤ 140737488355328) :
    Calls Try.prog 3 #[.slice a l.length ca, .slice b m.length cb] w fun e w' => e = .returned (.bool true) ∧ Fr (fun _ => False) w w' := by
  obtain ⟨i0, hi, hz0, hz1, hz2⟩ := info_parts Try.infoItem
  have HR := Lib.hid hr
  have HS := Lib.hid hs
  have HN := Lib.hid han
  have HM := Lib.hid hbn
  have OL := Lib.hid ol
  have OM := Lib.hid om
  have TL := Lib.hid tl
  have TM := Lib.hid tm
  clear hr hs han hbn ol om tl tm
  go_enter Try.func3, Try.ntmps3
  go_wp2_with fail
  refine (alive_any _).mono ?_
  rintro e w1 ⟨rfl, f1⟩
  have F1 := Lib.hid f1
  clear f1
  go_wp2_with fail
  refine (great_any w1 a ca l (HR.out.fr F1.out (fun _ _ h => h)) hl TL.out).mono ?_
  rintro e w2 ⟨rfl, f2⟩
  have F2 := Lib.hid (F1.out.then_ f2 (fun _ h => h.elim))
  clear f2
  cases gl : gr l
  · have GL := Lib.hid gl
    clear gl
    go_wp2_with fail
    refine (great_any w2 b cb m (HS.out.fr F2.out (fun _ _ h => h)) hm TM.out).mono ?_
    rintro e w3 ⟨rfl, f3⟩
    have F3 := Lib.hid (F2.out.then_ f3 (fun _ h => h.elim))
    clear f3
    cases gm : gr m
    · have GM := Lib.hid gm
      clear gm
      obtain ⟨bl1, bl2⟩ := gr_no GL.out
      obtain ⟨bm1, bm2⟩ := gr_no GM.out
      by_cases h60 : l.length + m.length ≤ 60
      · have h60' : ¬ (60 : Int) < (l.length : Int) + (m.length : Int) := by omega
        go_wp2_with fail
        refine (put_any w3 a ca l (HR.out.fr F3.out (fun _ _ h => h)) OL.out (by omega) (by omega)).mono ?_
        rintro e w4 ⟨gx, rfl, wx, f4⟩
        have F4 := Lib.hid (F3.out.then_ f4 (fun _ h => h.elim))
        have X4 := Lib.hid wx
        clear wx f4
        go_wp2_with fail
        refine (put_any w4 b cb m (HS.out.fr F4.out (fun _ _ h => h)) OM.out (by omega) (by omega)).mono ?_
        rintro e w5 ⟨gy, rfl, wy, f5⟩
        have F5 := Lib.hid (F4.out.then_ f5 (fun _ h => h.elim))
        have Y5 := Lib.hid wy
        have X5 := Lib.hid (isW_fr X4.out f5 (fun _ _ h => h))
        clear wy f5
        have E0 := Lib.hid (World.ownsRow_made (base := 0) (e := 37) (size := 7) w5 #[] 0 (Nat.zero_le _) (by decide) rfl)
        have R5 := Lib.hid ((HR.out.fr F5.out (fun _ _ h => h)).fr ((Fr.refl (fun _ => False) w5).alloc (.cells #[] 37)) (fun _ _ h => h))
        have sz := Lib.hid F5.out.size
        go_wp2_with (first | (at_builtin; ((refine wpList_append_src _ rfl (.tmp 38) (.tmp 39) 22 22 rfl 37 i0 _ 7 64 Try.underlying22 hi hz0 hz1 hz2 rfl (by decide) _ 0 [] rfl E0.out _ l.length (l.flatMap It.cells) rfl (R5.out.src HN.out Try.underlying22) (by omega) (by omega) ?_); intro g6 c6 w6 o6 f6 l6; simp only [Nat.zero_add, List.nil_append] at o6 l6; have F6 := Lib.hid (fr_new ((Fr.refl (fun _ => False) w5).alloc (.cells #[] 37)) f6 (Nat.le_refl _)); have O6 := Lib.hid o6; have L6 := Lib.hid l6; clear o6 l6 f6)) | (at_builtin; ((refine wpList_append_src _ rfl (.tmp 40) (.tmp 41) 22 22 rfl 37 i0 _ 7 64 Try.underlying22 hi hz0 hz1 hz2 rfl (by decide) _ l.length (l.flatMap It.cells) rfl O6.out _ m.length (m.flatMap It.cells) rfl ((HS.out.fr (F5.out.then_ F6.out (fun _ h => h.elim)) (fun _ _ h => h)).src HM.out Try.underlying22) (by omega) (by omega) ?_); intro g7 c7 w7 o7 f7 l7; have F7 := Lib.hid (fr_lies F6.out f7 (fun k hk => (L6.out k hk).elim (fun h => own_ge h) (fun h => Nat.le_trans (by simp) h)) (Nat.le_refl _)); have O7 := Lib.hid o7; have L7 := Lib.hid l7; clear o7 l7 f7)))
        have el := Lib.hid (show (l ++ m).length = l.length + m.length from List.length_append)
        rw [← el.out]
        refine (put_any w7 g7 c7 (l ++ m) (by rw [List.flatMap_append]; exact own_row O7.out) (fun x hx => (List.mem_append.1 hx).elim (OL.out x) (OM.out x)) (by rw [el.out]; omega) (by
          have : texts (l ++ m) = texts l + texts m := by simp only [texts, List.map_append, List.sum_append]
          omega)).mono ?_
        rintro e w8 ⟨gz, rfl, wz, f8⟩
        have F58 := F7.out.then_ f8 (fun _ h => h.elim)
        have X8 := Lib.hid (isW_fr X5.out F58 (fun _ _ h => h))
        have Y8 := Lib.hid (isW_fr Y5.out F58 (fun _ _ h => h))
        have Z8 := Lib.hid wz
        have F8 := Lib.hid (F5.out.then_ F58 (fun _ h => h.elim))
        clear wz f8 F58
        go_wp2_with fail
        refine (wString_any _ _ _ _ Z8.out).mono ?_
        rintro e w9 ⟨rfl, rfl⟩
        go_wp2_with fail
        refine (wString_any _ _ _ _ X8.out).mono ?_
        rintro e w10 ⟨rfl, rfl⟩
        go_wp2_with fail
        refine (wString_any _ _ _ _ Y8.out).mono ?_
        rintro e w11 ⟨rfl, rfl⟩
        have ea : strOfNums (allBytes l) ++ strOfNums (allBytes m) = strOfNums (allBytes (l ++ m)) := by
          rw [strOf_append]; simp only [allBytes, List.flatMap_append]
        have eb : (allBytes (l ++ m)).length = (allBytes l).length + (allBytes m).length := by simp only [allBytes, List.flatMap_append, List.length_append]
        have zl := allBytes_len l
        have zm := allBytes_len m
        have sl := strOfNums_size (allBytes l)
        have sm := strOfNums_size (allBytes m)
        go_wp2_with fail
        refine (wLen_any _ _ _ _ Z8.out).mono ?_
        rintro e w12 ⟨rfl, rfl⟩
        rw [eb]
        go_wp2_with fail
        refine (wLen_any _ _ _ _ X8.out).mono ?_
        rintro e w13 ⟨rfl, rfl⟩
        go_wp2_with fail
        refine (wLen_any _ _ _ _ Y8.out).mono ?_
        rintro e w14 ⟨rfl, rfl⟩
        go_wp2
        go_ret
        exact ⟨by simp, F8.out⟩
      · have h60' : (60 : Int) < (l.length : Int) + (m.length : Int) := by omega
        go_wp2
        go_ret
        exact ⟨rfl, F3.out⟩
    · go_wp2
      go_ret
      exact ⟨rfl, F3.out⟩
  · go_wp2
    go_ret
    exact ⟨rfl, F2.out⟩
end Go.Proofs.Ytpmebmkifdgjcaa
