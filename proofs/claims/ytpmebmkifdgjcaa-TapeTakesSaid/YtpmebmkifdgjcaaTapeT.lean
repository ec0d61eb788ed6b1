/- TapeTakes. -/
import Derived.Test.YtpmebmkifdgjcaaTapeL
import Derived.Test.YtpmebmkifdgjcaaPlain3
import Derived.Test.YtpmebmkifdgjcaaBack
import Derived.Deep.RegionHeld3
import Derived.Deep.DeepMust
import Derived.WalkLawsBesides
namespace Go.Proofs.Ytpmebmkifdgjcaa
open Go.RowKit

theorem wz : wrap64 (le []) = 0 := by simp [le, wrap64]
theorem str_nil : (strOfNums []).toList = [] := by rw [ByteArray.toList_eq]; rfl
theorem flag_u8 {c : Int} (hc : 0 ≤ c ∧ c < 256) : ∃ u : UInt8, u.toNat = c.toNat ∧ (strOfNums [c]).toList = [u] := by
  refine ⟨UInt8.ofNat c.toNat, ?_, ?_⟩
  · rw [UInt8.toNat_ofNat']; omega
  · rw [ByteArray.toList_eq]; rfl
theorem flag_eq {c : Int} (hc : 0 ≤ c ∧ c < 256) : ((strOfNums [c]).toList == [1]) = (c == 1) := by
  obtain ⟨u, h1, h2⟩ := flag_u8 hc
  rw [h2]
  by_cases h : c = 1
  · subst h
    have : u = 1 := UInt8.toNat_inj.1 h1
    subst this; rfl
  · have : ¬ u = 1 := fun e => by subst e; simp at h1; omega
    rw [show (c == 1) = false by simpa using h, show ([u] == [1]) = false by simpa using this]
theorem flag_lt {c : Int} (hc : 0 ≤ c ∧ c < 256) : Op.bytesLess (strOfNums [c]).toList [1] = decide (c < 1) := by
  obtain ⟨u, h1, h2⟩ := flag_u8 hc
  rw [h2]
  have h3 : (u < 1) ↔ c < 1 := by rw [UInt8.lt_iff_toNat_lt, h1]; simp; omega
  by_cases h : c < 1
  · simp [Op.bytesLess, h3, h]
  · simp [Op.bytesLess, h3, h]
set_option maxRecDepth 4000 in
set_option maxHeartbeats 12800000 in
theorem takes_any (w : World) (S : List Int) (a : Option Addr) (ca : Nat) (l : List It) (hS : Bytes S) (hsl : S.length ≤ 140737488355328) (hr : Row w a (l.flatMap It.cells)) (ol : ∀ x ∈ l, x.ok) (hl : l.length ≤ 140737488355328) (tl : ∀ x ∈ l, x.text.length ≤ 140737488355328) :
    Calls Try.prog 4 #[.string (strOfNums S), .slice a l.length ca] w fun e w' => e = .returned (.bool true) ∧ Fr (fun _ => False) w w' := by
  have HR := Lib.hid hr
  have OL := Lib.hid ol
  have TL := Lib.hid tl
  have HS := Lib.hid hS
  have sS := strOfNums_size S
  clear hr ol tl hS
  go_enter Try.func4, Try.ntmps4
  go_wp2_with fail
  refine (alive_any _).mono ?_
  rintro e w1 ⟨rfl, f1⟩
  have F1 := Lib.hid f1
  clear f1
  go_wp2_with fail
  refine (great_any w1 a ca l (HR.out.fr F1.out (fun _ _ h => h)) hl TL.out).mono ?_
  rintro e w2 ⟨rfl, f2⟩
  have F2 := Lib.hid (F1.out.then_ f2 (fun _ h => h.elim))
  clear f2
  cases gl : gr l
  · have GL := Lib.hid gl
    clear gl
    by_cases hbig : (4096 : Int) < (S.length : Int)
    · go_wp2_with fail
      go_ret
      exact ⟨rfl, F2.out⟩
    go_wp2_with fail
    refine (tRead_any _ S).mono ?_
    rintro e w7 ⟨gr7, rfl, hg7, h7, f7⟩
    have Hg := Lib.hid (show w.heap.size ≤ gr7 from by have := F2.out.size; omega)
    have F7 := Lib.hid (F2.out.then_ f7 (fun _ h => h.elim))
    have H7 := Lib.hid h7
    clear h7 f7 hg7
    go_wp2
    go_loopw [0, 6, 28] (fun s t i wr => ∃ (k : Nat) (R : List Int) (T : Bool), k ≤ l.length ∧ i = .int .i64 k ∧ s = .string (strOfNums R) ∧ t = .bool T ∧ Bytes R ∧ R.length ≤ 4096 ∧ IsR wr gr7 R T ∧ Fr (fun _ => False) w wr)
      (fun _ _ i _ => l.length - (intOf i).toNat)
    case atStart => exact ⟨0, S, false, by omega, rfl, rfl, rfl, HS.out, by omega, H7.out, F7.out⟩
    case round =>
      obtain ⟨k, R, T, hk, rfl, rfl, rfl, hBR, hRl, hrd, hf⟩ := hrel
      have Hrd := Lib.hid hrd
      have HBR := Lib.hid hBR
      have sR := strOfNums_size R
      clear hrd hBR
      by_cases hlt : k < l.length
      · obtain ⟨b, off, rfl, hb, x0, x1, x2, x3, x4, x5, x6⟩ := (HR.out.fr hf (fun _ _ h => h)).item hlt
        have Hf := Lib.hid hf
        clear hf
        obtain ⟨x, hxx⟩ : ∃ x, l[k] = x := ⟨_, rfl⟩
        have Hxk := Lib.hid (hxx ▸ OL.out _ (List.getElem_mem hlt))
        rw [hxx] at x0 x1 x2 x3 x4 x5 x6
        have s6 := strOfNums_size x.text
        clear hxx
        have hblk := Lib.hid (heap_alloc_new wr (.cells #[.int .i64 x.kind, .int .i64 x.size, .int .i64 x.n, .int .u64 x.hi, .int .u64 x.lo, .bool x.yes, .string (strOfNums x.text)] 37))
        have hne := Lib.hid (show ¬ wr.heap.size = gr7 from by have := blk_lt Hrd.out; omega)
        by_cases k0 : x.kind = 0
        · have kb0 : (x.kind == 0) = true := by simpa using k0
          clear k0
          obtain ⟨sz, hsz⟩ : ∃ sz, x.size = sz := ⟨_, rfl⟩
          rw [hsz] at x1 hblk
          clear hsz
          rcases (show sz < 1 ∨ (∃ m : Nat, sz = m ∧ 1 ≤ m ∧ m ≤ 8) ∨ 8 < sz from by
            rcases (show sz < 1 ∨ (1 ≤ sz ∧ sz ≤ 8) ∨ 8 < sz from by omega) with h | h | h
            · exact .inl h
            · exact .inr (.inl ⟨sz.toNat, by omega, by omega, by omega⟩)
            · exact .inr (.inr h)) with z1 | ⟨m, rfl, z1, z2⟩ | z1
          · have Hc := Lib.hid (show clampN sz = 1 from by unfold clampN; omega)
            by_cases hn : T = true ∨ R.length < 1
            · have Hn := Lib.hid (show T = true ∨ R.length < clampN sz from by rw [Hc.out]; exact hn)
              rcases (show T = true ∨ (T = false ∧ (R.length : Int) < 1) from by
                rcases hn with h | h
                · exact .inl h
                · cases T
                  · exact .inr ⟨rfl, by omega⟩
                  · exact .inl rfl) with rfl | ⟨rfl, hn2⟩
              all_goals
                clear hn
                go_wp2_with (first | (go_at_call 13; go_must (refine (rInt_no _ gr7 R _ sz (blk_alloc Hrd.out _) Hn.out).mono ?_; rintro e w8 ⟨rfl, hr8, hf8⟩; have Hr8 := Lib.hid hr8; have Hf8 := Lib.hid hf8; clear hr8 hf8)) | (go_at_call 14; go_must (refine (refBack_any _ [] Bytes.nil (by decide)).mono ?_; rintro e w10 ⟨rfl, rfl⟩; rw [wz])) | (go_at_call 19; go_must (refine (rTorn_any _ gr7 _ _ Hr8.out).mono ?_; rintro e w9 ⟨rfl, rfl⟩)) | (go_at_call 20; go_must (refine (rLeft_any _ gr7 _ _ Hr8.out).mono ?_; rintro e w9 ⟨rfl, rfl⟩)) | (go_at_call 21; go_must (refine (rEnd_any _ gr7 _ _ Hr8.out).mono ?_; rintro e w9 ⟨rfl, rfl⟩)))
                go_roundw
                case rel => exact ⟨k + 1, R, true, by omega, by go_num, rfl, rfl, HBR.out, hRl, Hr8.out, (Hf.out.alloc _).then_ Hf8.out (fun k hk => .inr (by rw [hk]; exact Hg.out))⟩
                case measure => simp [intOf]; omega
            · obtain ⟨hn0, hn1⟩ := not_or.1 hn
              obtain rfl : T = false := by cases T <;> simp_all
              have hn2 : 1 ≤ R.length := by omega
              clear hn0 hn1
              clear hn
              have hE1 := strOf_take R 1
              have hE2 := strOf_drop R 1
              have sR2 := strOfNums_size (R.drop 1)
              have hE3 := strOf_toList (R.drop 1)
              try simp only [List.drop_one] at hE2 hE3 sR2
              have HB2 := Lib.hid (HBR.out.drop 1)
              have HB1 := Lib.hid (HBR.out.take 1)
              have Hl1 := Lib.hid (show (R.take 1).length < 4294967296 from by rw [List.length_take]; omega)
              have Hl2 := Lib.hid (show (R.drop 1).length ≤ 4096 from by rw [List.length_drop]; omega)
              have Hn := Lib.hid (show clampN sz ≤ R.length from by rw [Hc.out]; exact hn2)
              have hi2 : ¬ ((R.length : Int) < 1) := by omega
              go_wp2_with (first | (go_at_call 13; go_must (refine (rInt_yes _ gr7 R sz (blk_alloc Hrd.out _) HBR.out Hn.out).mono ?_; rintro e w8 ⟨rfl, hr8, hf8⟩; rw [Hc.out]; rw [Hc.out] at hr8; (try rw [List.drop_one] at hr8); have Hr8 := Lib.hid hr8; have Hf8 := Lib.hid hf8; clear hr8 hf8)) | (go_at_call 14; go_must (refine (refBack_any _ _ HB1.out Hl1.out).mono ?_; rintro e w10 ⟨rfl, rfl⟩)) | (go_at_call 19; go_must (refine (rTorn_any _ gr7 _ _ Hr8.out).mono ?_; rintro e w9 ⟨rfl, rfl⟩)) | (go_at_call 20; go_must (refine (rLeft_any _ gr7 _ _ Hr8.out).mono ?_; rintro e w9 ⟨rfl, rfl⟩)) | (go_at_call 21; go_must (refine (rEnd_any _ gr7 _ _ Hr8.out).mono ?_; rintro e w9 ⟨rfl, rfl⟩)))
              go_roundw
              case rel => exact ⟨k + 1, R.drop 1, false, by omega, by go_num, by first | rfl | rw [List.drop_one], rfl, HB2.out, Hl2.out, by (try rw [List.drop_one]); exact Hr8.out, (Hf.out.alloc _).then_ Hf8.out (fun k hk => .inr (by rw [hk]; exact Hg.out))⟩
              case measure => simp [intOf]; omega
          · have Hc := Lib.hid (show clampN (m : Int) = m from by unfold clampN; omega)
            by_cases hn : T = true ∨ R.length < m
            · have Hn := Lib.hid (show T = true ∨ R.length < clampN (m : Int) from by rw [Hc.out]; exact hn)
              rcases (show T = true ∨ (T = false ∧ (R.length : Int) < (m : Int)) from by
                rcases hn with h | h
                · exact .inl h
                · cases T
                  · exact .inr ⟨rfl, by omega⟩
                  · exact .inl rfl) with rfl | ⟨rfl, hn2⟩
              all_goals
                clear hn
                go_wp2_with (first | (go_at_call 13; go_must (refine (rInt_no _ gr7 R _ (m : Int) (blk_alloc Hrd.out _) Hn.out).mono ?_; rintro e w8 ⟨rfl, hr8, hf8⟩; have Hr8 := Lib.hid hr8; have Hf8 := Lib.hid hf8; clear hr8 hf8)) | (go_at_call 14; go_must (refine (refBack_any _ [] Bytes.nil (by decide)).mono ?_; rintro e w10 ⟨rfl, rfl⟩; rw [wz])) | (go_at_call 19; go_must (refine (rTorn_any _ gr7 _ _ Hr8.out).mono ?_; rintro e w9 ⟨rfl, rfl⟩)) | (go_at_call 20; go_must (refine (rLeft_any _ gr7 _ _ Hr8.out).mono ?_; rintro e w9 ⟨rfl, rfl⟩)) | (go_at_call 21; go_must (refine (rEnd_any _ gr7 _ _ Hr8.out).mono ?_; rintro e w9 ⟨rfl, rfl⟩)))
                go_roundw
                case rel => exact ⟨k + 1, R, true, by omega, by go_num, rfl, rfl, HBR.out, hRl, Hr8.out, (Hf.out.alloc _).then_ Hf8.out (fun k hk => .inr (by rw [hk]; exact Hg.out))⟩
                case measure => simp [intOf]; omega
            · obtain ⟨hn0, hn1⟩ := not_or.1 hn
              obtain rfl : T = false := by cases T <;> simp_all
              have hn2 : m ≤ R.length := by omega
              clear hn0 hn1
              clear hn
              have hE1 := strOf_take R m
              have hE2 := strOf_drop R m
              have sR2 := strOfNums_size (R.drop m)
              have hE3 := strOf_toList (R.drop m)
              try simp only [List.drop_one] at hE2 hE3 sR2
              have HB2 := Lib.hid (HBR.out.drop m)
              have HB1 := Lib.hid (HBR.out.take m)
              have Hl1 := Lib.hid (show (R.take m).length < 4294967296 from by rw [List.length_take]; omega)
              have Hl2 := Lib.hid (show (R.drop m).length ≤ 4096 from by rw [List.length_drop]; omega)
              have Hn := Lib.hid (show clampN (m : Int) ≤ R.length from by rw [Hc.out]; exact hn2)
              have hi2 : ¬ ((R.length : Int) < (m : Int)) := by omega
              go_wp2_with (first | (go_at_call 13; go_must (refine (rInt_yes _ gr7 R (m : Int) (blk_alloc Hrd.out _) HBR.out Hn.out).mono ?_; rintro e w8 ⟨rfl, hr8, hf8⟩; rw [Hc.out]; rw [Hc.out] at hr8; (try rw [List.drop_one] at hr8); have Hr8 := Lib.hid hr8; have Hf8 := Lib.hid hf8; clear hr8 hf8)) | (go_at_call 14; go_must (refine (refBack_any _ _ HB1.out Hl1.out).mono ?_; rintro e w10 ⟨rfl, rfl⟩)) | (go_at_call 19; go_must (refine (rTorn_any _ gr7 _ _ Hr8.out).mono ?_; rintro e w9 ⟨rfl, rfl⟩)) | (go_at_call 20; go_must (refine (rLeft_any _ gr7 _ _ Hr8.out).mono ?_; rintro e w9 ⟨rfl, rfl⟩)) | (go_at_call 21; go_must (refine (rEnd_any _ gr7 _ _ Hr8.out).mono ?_; rintro e w9 ⟨rfl, rfl⟩)))
              go_roundw
              case rel => exact ⟨k + 1, R.drop m, false, by omega, by go_num, by first | rfl | rw [List.drop_one], rfl, HB2.out, Hl2.out, by (try rw [List.drop_one]); exact Hr8.out, (Hf.out.alloc _).then_ Hf8.out (fun k hk => .inr (by rw [hk]; exact Hg.out))⟩
              case measure => simp [intOf]; omega
          · have Hc := Lib.hid (show clampN sz = 8 from by unfold clampN; omega)
            by_cases hn : T = true ∨ R.length < 8
            · have Hn := Lib.hid (show T = true ∨ R.length < clampN sz from by rw [Hc.out]; exact hn)
              rcases (show T = true ∨ (T = false ∧ (R.length : Int) < 8) from by
                rcases hn with h | h
                · exact .inl h
                · cases T
                  · exact .inr ⟨rfl, by omega⟩
                  · exact .inl rfl) with rfl | ⟨rfl, hn2⟩
              all_goals
                clear hn
                go_wp2_with (first | (go_at_call 13; go_must (refine (rInt_no _ gr7 R _ sz (blk_alloc Hrd.out _) Hn.out).mono ?_; rintro e w8 ⟨rfl, hr8, hf8⟩; have Hr8 := Lib.hid hr8; have Hf8 := Lib.hid hf8; clear hr8 hf8)) | (go_at_call 14; go_must (refine (refBack_any _ [] Bytes.nil (by decide)).mono ?_; rintro e w10 ⟨rfl, rfl⟩; rw [wz])) | (go_at_call 19; go_must (refine (rTorn_any _ gr7 _ _ Hr8.out).mono ?_; rintro e w9 ⟨rfl, rfl⟩)) | (go_at_call 20; go_must (refine (rLeft_any _ gr7 _ _ Hr8.out).mono ?_; rintro e w9 ⟨rfl, rfl⟩)) | (go_at_call 21; go_must (refine (rEnd_any _ gr7 _ _ Hr8.out).mono ?_; rintro e w9 ⟨rfl, rfl⟩)))
                go_roundw
                case rel => exact ⟨k + 1, R, true, by omega, by go_num, rfl, rfl, HBR.out, hRl, Hr8.out, (Hf.out.alloc _).then_ Hf8.out (fun k hk => .inr (by rw [hk]; exact Hg.out))⟩
                case measure => simp [intOf]; omega
            · obtain ⟨hn0, hn1⟩ := not_or.1 hn
              obtain rfl : T = false := by cases T <;> simp_all
              have hn2 : 8 ≤ R.length := by omega
              clear hn0 hn1
              clear hn
              have hE1 := strOf_take R 8
              have hE2 := strOf_drop R 8
              have sR2 := strOfNums_size (R.drop 8)
              have hE3 := strOf_toList (R.drop 8)
              try simp only [List.drop_one] at hE2 hE3 sR2
              have HB2 := Lib.hid (HBR.out.drop 8)
              have HB1 := Lib.hid (HBR.out.take 8)
              have Hl1 := Lib.hid (show (R.take 8).length < 4294967296 from by rw [List.length_take]; omega)
              have Hl2 := Lib.hid (show (R.drop 8).length ≤ 4096 from by rw [List.length_drop]; omega)
              have Hn := Lib.hid (show clampN sz ≤ R.length from by rw [Hc.out]; exact hn2)
              have hi2 : ¬ ((R.length : Int) < 8) := by omega
              go_wp2_with (first | (go_at_call 13; go_must (refine (rInt_yes _ gr7 R sz (blk_alloc Hrd.out _) HBR.out Hn.out).mono ?_; rintro e w8 ⟨rfl, hr8, hf8⟩; rw [Hc.out]; rw [Hc.out] at hr8; (try rw [List.drop_one] at hr8); have Hr8 := Lib.hid hr8; have Hf8 := Lib.hid hf8; clear hr8 hf8)) | (go_at_call 14; go_must (refine (refBack_any _ _ HB1.out Hl1.out).mono ?_; rintro e w10 ⟨rfl, rfl⟩)) | (go_at_call 19; go_must (refine (rTorn_any _ gr7 _ _ Hr8.out).mono ?_; rintro e w9 ⟨rfl, rfl⟩)) | (go_at_call 20; go_must (refine (rLeft_any _ gr7 _ _ Hr8.out).mono ?_; rintro e w9 ⟨rfl, rfl⟩)) | (go_at_call 21; go_must (refine (rEnd_any _ gr7 _ _ Hr8.out).mono ?_; rintro e w9 ⟨rfl, rfl⟩)))
              go_roundw
              case rel => exact ⟨k + 1, R.drop 8, false, by omega, by go_num, by first | rfl | rw [List.drop_one], rfl, HB2.out, Hl2.out, by (try rw [List.drop_one]); exact Hr8.out, (Hf.out.alloc _).then_ Hf8.out (fun k hk => .inr (by rw [hk]; exact Hg.out))⟩
              case measure => simp [intOf]; omega
        · by_cases k1 : x.kind = 1
          · have kb0 : (x.kind == 0) = false := by simpa using k0
            have kb1 : (x.kind == 1) = true := by simpa using k1
            clear k0 k1
            by_cases hn : T = true ∨ R.length < 16
            · have Hn := Lib.hid hn
              rcases (show T = true ∨ (T = false ∧ (R.length : Int) < 16) from by
                rcases hn with h | h
                · exact .inl h
                · cases T
                  · exact .inr ⟨rfl, by omega⟩
                  · exact .inl rfl) with rfl | ⟨rfl, hn2⟩
              all_goals
                clear hn
                go_wp2_with (first | (go_at_call 15; go_must (refine (rNum_no _ gr7 R _ (blk_alloc Hrd.out _) Hn.out).mono ?_; rintro e w8 ⟨rfl, hr8, hf8⟩; have Hr8 := Lib.hid hr8; have Hf8 := Lib.hid hf8; clear hr8 hf8)) | (go_at_call 19; go_must (refine (rTorn_any _ gr7 _ _ (blk_alloc Hr8.out _)).mono ?_; rintro e w9 ⟨rfl, rfl⟩)) | (go_at_call 20; go_must (refine (rLeft_any _ gr7 _ _ (blk_alloc Hr8.out _)).mono ?_; rintro e w9 ⟨rfl, rfl⟩)) | (go_at_call 21; go_must (refine (rEnd_any _ gr7 _ _ (blk_alloc Hr8.out _)).mono ?_; rintro e w9 ⟨rfl, rfl⟩)))
                go_roundw
                case rel => exact ⟨k + 1, R, true, by omega, by go_num, rfl, rfl, HBR.out, hRl, blk_alloc Hr8.out _, ((Hf.out.alloc _).then_ Hf8.out (fun k hk => .inr (by rw [hk]; exact Hg.out))).alloc _⟩
                case measure => simp [intOf]; omega
            · obtain ⟨hn0, hn1⟩ := not_or.1 hn
              obtain rfl : T = false := by cases T <;> simp_all
              have hn2 : 16 ≤ R.length := by omega
              clear hn0 hn1
              have hE1 := strOf_take R 16
              have hE2 := strOf_drop R 16
              have sR2 := strOfNums_size (R.drop 16)
              have hE3 := strOf_toList (R.drop 16)
              have HB2 := Lib.hid (HBR.out.drop 16)
              have Hl2 := Lib.hid (show (R.drop 16).length ≤ 4096 from by rw [List.length_drop]; omega)
              have hi2 : ¬ ((R.length : Int) < 16) := by omega
              have hb8 : ∀ m : List Int, Bytes m → m.length = 8 → 0 ≤ le m ∧ le m < 18446744073709551616 := fun m hm h8 => by have := le_bd hm; rw [h8] at this; exact this
              have Hw := Lib.hid (show wideBytes (le ((R.drop 8).take 8)) (le (R.take 8)) = R.take 16 from by
                have e1 := bytesOf_le (R.take 8) (HBR.out.take 8)
                have e2 := bytesOf_le ((R.drop 8).take 8) ((HBR.out.drop 8).take 8)
                rw [List.length_take, Nat.min_eq_left (by omega)] at e1
                rw [List.length_take, List.length_drop, Nat.min_eq_left (by omega)] at e2
                rw [wideBytes, e1, e2, ← List.take_add])
              have H1 := Lib.hid (hb8 ((R.drop 8).take 8) ((HBR.out.drop 8).take 8) (by rw [List.length_take, List.length_drop]; omega))
              have H2 := Lib.hid (hb8 (R.take 8) (HBR.out.take 8) (by rw [List.length_take]; omega))
              clear hb8 hn
              have Hn2 := Lib.hid hn2
              go_wp2_with (first | (go_at_call 15; go_must (refine (rNum_yes _ gr7 R (blk_alloc Hrd.out _) HBR.out Hn2.out).mono ?_; rintro e w8 ⟨rfl, hr8, hf8⟩; have Hr8 := Lib.hid hr8; have Hf8 := Lib.hid hf8; clear hr8 hf8)) | (go_at_call 16; go_must (refine (refBytes_any _ _ _ H1.out.1 H1.out.2 H2.out.1 H2.out.2).mono ?_; rintro e w10 ⟨rfl, f10⟩; rw [Hw.out]; have F10 := Lib.hid f10; clear f10)) | (go_at_call 19; go_must (refine (rTorn_any _ gr7 _ _ (F10.out.blk (blk_alloc Hr8.out _) (fun h => h))).mono ?_; rintro e w9 ⟨rfl, rfl⟩)) | (go_at_call 20; go_must (refine (rLeft_any _ gr7 _ _ (F10.out.blk (blk_alloc Hr8.out _) (fun h => h))).mono ?_; rintro e w9 ⟨rfl, rfl⟩)) | (go_at_call 21; go_must (refine (rEnd_any _ gr7 _ _ (F10.out.blk (blk_alloc Hr8.out _) (fun h => h))).mono ?_; rintro e w9 ⟨rfl, rfl⟩)))
              go_roundw
              case rel => exact ⟨k + 1, R.drop 16, false, by omega, by go_num, rfl, rfl, HB2.out, Hl2.out, F10.out.blk (blk_alloc Hr8.out _) (fun h => h), (((Hf.out.alloc _).then_ Hf8.out (fun k hk => .inr (by rw [hk]; exact Hg.out))).alloc _).then_ F10.out (fun _ h => h.elim)⟩
              case measure => simp [intOf]; omega
          · by_cases k2 : x.kind = 2
            · have kb0 : (x.kind == 0) = false := by simpa using k0
              have kb1 : (x.kind == 1) = false := by simpa using k1
              have kb2 : (x.kind == 2) = true := by simpa using k2
              clear k0 k1 k2
              by_cases hn : T = true ∨ R = []
              · have Hn := Lib.hid hn
                rcases (show T = true ∨ (T = false ∧ (R.length : Int) < 1) from by
                  rcases hn with h | h
                  · exact .inl h
                  · cases T
                    · subst h; exact .inr ⟨rfl, by simp⟩
                    · exact .inl rfl) with rfl | ⟨rfl, hn2⟩
                all_goals
                  clear hn
                  go_wp2_with (first | (go_at_call 17; go_must (refine (rFlag_no _ gr7 R _ (blk_alloc Hrd.out _) Hn.out).mono ?_; rintro e w8 ⟨rfl, hr8, hf8⟩; have Hr8 := Lib.hid hr8; have Hf8 := Lib.hid hf8; clear hr8 hf8)) | (go_at_call 19; go_must (refine (rTorn_any _ gr7 _ _ Hr8.out).mono ?_; rintro e w9 ⟨rfl, rfl⟩)) | (go_at_call 20; go_must (refine (rLeft_any _ gr7 _ _ Hr8.out).mono ?_; rintro e w9 ⟨rfl, rfl⟩)) | (go_at_call 21; go_must (refine (rEnd_any _ gr7 _ _ Hr8.out).mono ?_; rintro e w9 ⟨rfl, rfl⟩)))
                  go_roundw
                  case rel => exact ⟨k + 1, R, true, by omega, by go_num, rfl, rfl, HBR.out, hRl, Hr8.out, (Hf.out.alloc _).then_ Hf8.out (fun k hk => .inr (by rw [hk]; exact Hg.out))⟩
                  case measure => simp [intOf]; omega
              · obtain ⟨hn0, hn1⟩ := not_or.1 hn
                obtain rfl : T = false := by cases T <;> simp_all
                clear hn0 hn
                obtain ⟨c, R', hR'⟩ := List.exists_cons_of_ne_nil hn1
                clear hn1
                have hE1 : (strOfNums R).extract 0 1 = strOfNums [c] := by rw [strOf_take, hR']; rfl
                have hE2 : (strOfNums R).extract 1 R.length = strOfNums R' := by rw [strOf_drop, hR']; rfl
                have sR1 := strOfNums_size [c]
                have sR2 := strOfNums_size R'
                have hE3 := strOf_toList R'
                have hcB := HBR.out c (by rw [hR']; exact List.mem_cons_self ..)
                have HB2 := Lib.hid (show Bytes R' from fun x hx => HBR.out x (by rw [hR']; exact List.mem_cons_of_mem _ hx))
                have HcB := Lib.hid hcB
                have hi2 : ¬ ((R.length : Int) < 1) := by rw [hR']; simp; omega
                have Hl2 := Lib.hid (show R'.length ≤ 4096 from by rw [hR'] at hRl; simp at hRl; omega)
                have Hrd := Lib.hid (show IsR wr gr7 (c :: R') false from hR' ▸ Hrd.out)
                have hq1 := flag_eq hcB
                have hq2 := flag_lt hcB
                clear hcB hR'
                rcases (show 1 < c ∨ c = 1 ∨ c < 1 from by omega) with hc1 | hc1 | hc1
                · skip
                  have hq3 : (decide (1 < c)) = true := by simp; omega
                  have hq4 : (c == 1) = false := by simp; omega
                  rw [show decide (c < 1) = false by simp; omega] at hq2
                  rw [hq4] at hq1
                  clear hc1
                  go_wp2_with (first | (go_at_call 17; go_must (refine (rFlag_any _ gr7 c R' (blk_alloc Hrd.out _) HcB.out HB2.out).mono ?_; rintro e w8 ⟨rfl, hr8, hf8⟩; rw [hq3] at hr8; rw [hq4]; have Hr8 := Lib.hid hr8; have Hf8 := Lib.hid hf8; clear hr8 hf8)) | (go_at_call 19; go_must (refine (rTorn_any _ gr7 _ _ Hr8.out).mono ?_; rintro e w9 ⟨rfl, rfl⟩)) | (go_at_call 20; go_must (refine (rLeft_any _ gr7 _ _ Hr8.out).mono ?_; rintro e w9 ⟨rfl, rfl⟩)) | (go_at_call 21; go_must (refine (rEnd_any _ gr7 _ _ Hr8.out).mono ?_; rintro e w9 ⟨rfl, rfl⟩)))
                  go_roundw
                  case rel => exact ⟨k + 1, R', true, by omega, by go_num, rfl, rfl, HB2.out, Hl2.out, Hr8.out, (Hf.out.alloc _).then_ Hf8.out (fun k hk => .inr (by rw [hk]; exact Hg.out))⟩
                  case measure => simp [intOf]; omega
                · skip
                  have hq3 : (decide (1 < c)) = false := by simp; omega
                  have hq4 : (c == 1) = true := by simp; omega
                  rw [show decide (c < 1) = false by simp; omega] at hq2
                  rw [hq4] at hq1
                  clear hc1
                  go_wp2_with (first | (go_at_call 17; go_must (refine (rFlag_any _ gr7 c R' (blk_alloc Hrd.out _) HcB.out HB2.out).mono ?_; rintro e w8 ⟨rfl, hr8, hf8⟩; rw [hq3] at hr8; rw [hq4]; have Hr8 := Lib.hid hr8; have Hf8 := Lib.hid hf8; clear hr8 hf8)) | (go_at_call 19; go_must (refine (rTorn_any _ gr7 _ _ Hr8.out).mono ?_; rintro e w9 ⟨rfl, rfl⟩)) | (go_at_call 20; go_must (refine (rLeft_any _ gr7 _ _ Hr8.out).mono ?_; rintro e w9 ⟨rfl, rfl⟩)) | (go_at_call 21; go_must (refine (rEnd_any _ gr7 _ _ Hr8.out).mono ?_; rintro e w9 ⟨rfl, rfl⟩)))
                  go_roundw
                  case rel => exact ⟨k + 1, R', false, by omega, by go_num, rfl, rfl, HB2.out, Hl2.out, Hr8.out, (Hf.out.alloc _).then_ Hf8.out (fun k hk => .inr (by rw [hk]; exact Hg.out))⟩
                  case measure => simp [intOf]; omega
                · skip
                  have hq3 : (decide (1 < c)) = false := by simp; omega
                  have hq4 : (c == 1) = false := by simp; omega
                  rw [show decide (c < 1) = true by simp; omega] at hq2
                  rw [hq4] at hq1
                  clear hc1
                  go_wp2_with (first | (go_at_call 17; go_must (refine (rFlag_any _ gr7 c R' (blk_alloc Hrd.out _) HcB.out HB2.out).mono ?_; rintro e w8 ⟨rfl, hr8, hf8⟩; rw [hq3] at hr8; rw [hq4]; have Hr8 := Lib.hid hr8; have Hf8 := Lib.hid hf8; clear hr8 hf8)) | (go_at_call 19; go_must (refine (rTorn_any _ gr7 _ _ Hr8.out).mono ?_; rintro e w9 ⟨rfl, rfl⟩)) | (go_at_call 20; go_must (refine (rLeft_any _ gr7 _ _ Hr8.out).mono ?_; rintro e w9 ⟨rfl, rfl⟩)) | (go_at_call 21; go_must (refine (rEnd_any _ gr7 _ _ Hr8.out).mono ?_; rintro e w9 ⟨rfl, rfl⟩)))
                  go_roundw
                  case rel => exact ⟨k + 1, R', false, by omega, by go_num, rfl, rfl, HB2.out, Hl2.out, Hr8.out, (Hf.out.alloc _).then_ Hf8.out (fun k hk => .inr (by rw [hk]; exact Hg.out))⟩
                  case measure => simp [intOf]; omega
            · have kb0 : (x.kind == 0) = false := by simpa using k0
              have kb1 : (x.kind == 1) = false := by simpa using k1
              have kb2 : (x.kind == 2) = false := by simpa using k2
              clear k0 k1 k2
              obtain ⟨n, hnn⟩ : ∃ n, x.n = n := ⟨_, rfl⟩
              rw [hnn] at x2 hblk
              clear hnn
              have hse := str_nil
              by_cases hn : T = true ∨ n < 0 ∨ (R.length : Int) < n
              · have Hn := Lib.hid hn
                rcases (show T = true ∨ (T = false ∧ n < 0) ∨ (T = false ∧ ¬ n < 0 ∧ (R.length : Int) < n) from by
                  cases T
                  · rcases hn with h | h | h
                    · cases h
                    · exact .inr (.inl ⟨rfl, h⟩)
                    · exact .inr (.inr ⟨rfl, by omega, h⟩)
                  · exact .inl rfl) with rfl | ⟨rfl, hn2⟩ | ⟨rfl, hn2, hn3⟩
                all_goals
                  clear hn
                  go_wp2_with (first | (go_at_call 18; go_must (refine (rRaw_no _ gr7 R _ n (blk_alloc Hrd.out _) Hn.out).mono ?_; rintro e w8 ⟨rfl, hr8, hf8⟩; have Hr8 := Lib.hid hr8; have Hf8 := Lib.hid hf8; clear hr8 hf8)) | (go_at_call 19; go_must (refine (rTorn_any _ gr7 _ _ Hr8.out).mono ?_; rintro e w9 ⟨rfl, rfl⟩)) | (go_at_call 20; go_must (refine (rLeft_any _ gr7 _ _ Hr8.out).mono ?_; rintro e w9 ⟨rfl, rfl⟩)) | (go_at_call 21; go_must (refine (rEnd_any _ gr7 _ _ Hr8.out).mono ?_; rintro e w9 ⟨rfl, rfl⟩)))
                  go_roundw
                  case rel => exact ⟨k + 1, R, true, by omega, by go_num, rfl, rfl, HBR.out, hRl, Hr8.out, (Hf.out.alloc _).then_ Hf8.out (fun k hk => .inr (by rw [hk]; exact Hg.out))⟩
                  case measure => simp [intOf]; omega
              · obtain ⟨hn0, hn1⟩ := not_or.1 hn
                obtain ⟨hn2, hn3⟩ := not_or.1 hn1
                obtain rfl : T = false := by cases T <;> simp_all
                clear hn0 hn hn1
                obtain ⟨m, rfl⟩ : ∃ m : Nat, n = m := ⟨n.toNat, by omega⟩
                have hE1 := strOf_take R m
                have hE2 := strOf_drop R m
                have sR1 := strOfNums_size (R.take m)
                have sR2 := strOfNums_size (R.drop m)
                have hE3 := strOf_toList (R.drop m)
                have HB2 := Lib.hid (HBR.out.drop m)
                have Hl2 := Lib.hid (show (R.drop m).length ≤ 4096 from by rw [List.length_drop]; omega)
                have Hm := Lib.hid (show m ≤ R.length from by omega)
                go_wp2_with (first | (go_at_call 18; go_must (refine (rRaw_yes _ gr7 R m (blk_alloc Hrd.out _) Hm.out).mono ?_; rintro e w8 ⟨rfl, hr8, hf8⟩; have Hr8 := Lib.hid hr8; have Hf8 := Lib.hid hf8; clear hr8 hf8)) | (go_at_call 19; go_must (refine (rTorn_any _ gr7 _ _ Hr8.out).mono ?_; rintro e w9 ⟨rfl, rfl⟩)) | (go_at_call 20; go_must (refine (rLeft_any _ gr7 _ _ Hr8.out).mono ?_; rintro e w9 ⟨rfl, rfl⟩)) | (go_at_call 21; go_must (refine (rEnd_any _ gr7 _ _ Hr8.out).mono ?_; rintro e w9 ⟨rfl, rfl⟩)))
                go_roundw
                case rel => exact ⟨k + 1, R.drop m, false, by omega, by go_num, rfl, rfl, HB2.out, Hl2.out, Hr8.out, (Hf.out.alloc _).then_ Hf8.out (fun k hk => .inr (by rw [hk]; exact Hg.out))⟩
                case measure => simp [intOf]; omega
      · obtain rfl : k = l.length := by omega
        have Hf := Lib.hid hf
        clear hf
        have hse := str_nil
        go_wp2_with fail
        refine (rRaw_nil _ _).mono ?_
        rintro e w8 ⟨rfl, rfl⟩
        go_wp2_with fail
        refine (rInt_nil _ 1).mono ?_
        rintro e w9 ⟨rfl, f9⟩
        have F9 := Lib.hid (Hf.out.then_ f9 (fun _ h => h.elim))
        clear f9
        go_wp2_with fail
        refine (rNum_nil _).mono ?_
        rintro e w10 ⟨rfl, f10⟩
        have F10 := Lib.hid (F9.out.then_ f10 (fun _ h => h.elim))
        clear f10
        go_wp2_with fail
        refine (rFlag_nil _).mono ?_
        rintro e w11 ⟨rfl, f11⟩
        have F11 := Lib.hid (F10.out.then_ f11 (fun _ h => h.elim))
        clear f11
        go_wp2_with (first | (refine (rTorn_nil _).mono ?_; rintro e w12 ⟨rfl, rfl⟩) | (refine (rLeft_nil _).mono ?_; rintro e w12 ⟨rfl, rfl⟩) | (refine (rEnd_nil _).mono ?_; rintro e w12 ⟨rfl, rfl⟩))
        go_ret
        exact ⟨rfl, F11.out⟩
  · go_wp2_with fail
    go_ret
    exact ⟨rfl, F2.out⟩
end Go.Proofs.Ytpmebmkifdgjcaa
