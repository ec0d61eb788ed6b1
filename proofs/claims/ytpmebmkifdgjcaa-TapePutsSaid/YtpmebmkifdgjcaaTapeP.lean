/- TapePuts. -/
import Derived.Test.YtpmebmkifdgjcaaTapeL
import Derived.Test.YtpmebmkifdgjcaaPlain3
import Derived.Deep.RegionHeld3
namespace Go.Proofs.Ytpmebmkifdgjcaa
open Go.RowKit

set_option maxHeartbeats 12800000 in
theorem puts_any (w : World) (a : Option Addr) (ca : Nat) (l : List It) (hr : Row w a (l.flatMap It.cells)) (ol : ∀ x ∈ l, x.ok) (hl : l.length ≤ 140737488355328) (tl : ∀ x ∈ l, x.text.length ≤ 140737488355328) :
    Calls Try.prog 6 #[.slice a l.length ca] w fun e w' => e = .returned (.bool true) ∧ Fr (fun _ => False) w w' := by
  have HR := Lib.hid hr
  have OL := Lib.hid ol
  have TL := Lib.hid tl
  clear hr ol tl
  go_enter Try.func6, Try.ntmps6
  go_wp2_with fail
  refine (alive_any _).mono ?_
  rintro e w1 ⟨rfl, f1⟩
  have F1 := Lib.hid f1
  clear f1
  go_wp2_with fail
  refine (great_any w1 a ca l (HR.out.fr F1.out (fun _ _ h => h)) hl TL.out).mono ?_
  rintro e w2 ⟨rfl, f2⟩
  have F2 := Lib.hid (F1.out.then_ f2 (fun _ h => h.elim))
  clear f2
  cases gl : gr l
  · have GL := Lib.hid gl
    clear gl
    obtain ⟨bl1, bl2⟩ := gr_no GL.out
    go_wp2_with fail
    refine (put_any w2 a ca l (HR.out.fr F2.out (fun _ _ h => h)) OL.out (by omega) (by omega)).mono ?_
    rintro e w4 ⟨gx, rfl, wx, f4⟩
    have F4 := Lib.hid (F2.out.then_ f4 (fun _ h => h.elim))
    have X4 := Lib.hid wx
    clear wx f4
    go_wp2_with fail
    refine (wString_any _ _ _ _ X4.out).mono ?_
    rintro e w5 ⟨rfl, rfl⟩
    have sA := strOfNums_size (allBytes l)
    go_wp2_with fail
    refine (wLen_any _ _ _ _ X4.out).mono ?_
    rintro e w6 ⟨rfl, rfl⟩
    go_wp2_with fail
    refine (tRead_any _ (allBytes l)).mono ?_
    rintro e w7 ⟨gr7, rfl, hg7, h7, f7⟩
    have Hg := Lib.hid (show w.heap.size ≤ gr7 from by have := F4.out.size; omega)
    have F7 := Lib.hid (F4.out.then_ f7 (fun _ h => h.elim))
    have H7 := Lib.hid h7
    clear h7 f7 hg7
    go_wp2
    go_loopw [32] (fun i wr => ∃ k : Nat, k ≤ l.length ∧ i = .int .i64 k ∧ IsR wr gr7 (allBytes (l.drop k)) false ∧ Fr (fun _ => False) w wr)
      (fun i _ => l.length - (intOf i).toNat)
    case atStart => exact ⟨0, by omega, rfl, H7.out, F7.out⟩
    case round =>
      obtain ⟨k, hk, rfl, hrd, hf⟩ := hrel
      have Hrd := Lib.hid hrd
      clear hrd
      by_cases hlt : k < l.length
      · obtain ⟨b, off, rfl, hb, x0, x1, x2, x3, x4, x5, x6⟩ := (HR.out.fr hf (fun _ _ h => h)).item hlt
        have Hf := Lib.hid hf
        clear hf
        have Hd := Lib.hid (allBytes_drop hlt)
        have HB := Lib.hid (allBytes_ok (l := l.drop k) (fun x hx => OL.out x (List.mem_of_mem_drop hx)))
        have hx := OL.out _ (List.getElem_mem hlt)
        obtain ⟨x, hxx⟩ : ∃ x, l[k] = x := ⟨_, rfl⟩
        rw [hxx] at x0 x1 x2 x3 x4 x5 x6
        have Hx := Lib.hid hxx
        have Hxk := Lib.hid (hxx ▸ hx)
        clear hxx hx
        obtain ⟨R, hR⟩ : ∃ R, allBytes (l.drop (k + 1)) = R := ⟨_, rfl⟩
        have HRR := Lib.hid hR
        clear hR
        have Hrd2 := Lib.hid (show IsR wr gr7 (x.bytes ++ R) false from by have := Hrd.out; rw [Hd.out, Hx.out, HRR.out] at this; exact this)
        have HB2 := Lib.hid (show Bytes (x.bytes ++ R) from by have := HB.out; rw [Hd.out, Hx.out, HRR.out] at this; exact this)
        have hblk := Lib.hid (heap_alloc_new wr (.cells #[.int .i64 x.kind, .int .i64 x.size, .int .i64 x.n, .int .u64 x.hi, .int .u64 x.lo, .bool x.yes, .string (strOfNums x.text)] 37))
        have hne := Lib.hid (show ¬ wr.heap.size = gr7 from by have := blk_lt Hrd2.out; omega)
        by_cases k0 : x.kind = 0
        · have kb0 : (x.kind == 0) = true := by simpa using k0
          have K0 := Lib.hid k0
          clear k0
          have He := Lib.hid (show x.bytes = bytesOf x.n (clampN x.size) from by have k0 := K0.out; simp [It.bytes, k0])
          have Ht := Lib.hid (show (x.bytes ++ R).take (clampN x.size) = bytesOf x.n (clampN x.size) from take_app (by rw [He.out, blen]) |>.trans He.out)
          have Hdr := Lib.hid (show (x.bytes ++ R).drop (clampN x.size) = R from drop_app (by rw [He.out, blen]))
          have Hn := Lib.hid (show clampN x.size ≤ (x.bytes ++ R).length from by rw [He.out]; simp [blen])
          have Hbl := Lib.hid (show (bytesOf x.n (clampN x.size)).length < 4294967296 from by rw [blen]; have := clampN_le x.size; omega)
          go_wp2
          go_region_held3 (fun w' => w'.cell? ⟨wr.heap.size, 1, none⟩ = some (.int .i64 x.size) ∧ w'.cell? ⟨wr.heap.size, 2, none⟩ = some (.int .i64 x.n))
            (first | go_keep | exact ⟨y1, y2⟩ | exact ⟨z1, z2⟩)
            (first
              | (go_at_call 13; refine (rInt_yes _ gr7 (x.bytes ++ R) x.size (blk_drew (blk_alloc Hrd2.out _)) HB2.out Hn.out).mono ?_; rintro e w8 ⟨rfl, hr8, hf8⟩; rw [Ht.out]; have hb2 := hf8.blk (blk_drew hblk.out) hne.out; have y1 := blk_cell hb2 1 rfl; have y2 := blk_cell hb2 2 rfl; have Hb2 := Lib.hid hb2; have Hr8 := Lib.hid hr8; have Hf8 := Lib.hid hf8; clear hr8 hf8 hb2)
              | (go_at_call 22; refine (refInt_any w8 x.size x.n).mono ?_; rintro e w9 ⟨rfl, hf9⟩; have hb3 := hf9.blk Hb2.out (fun h => h); have z1 := blk_cell hb3 1 rfl; have z2 := blk_cell hb3 2 rfl; have Hf9 := Lib.hid hf9; clear hf9 hb3)
              | (go_at_call 14; refine (refBack_any _ _ (bytesOf_bytes _ _) Hbl.out).mono ?_; rintro e w10 ⟨rfl, rfl⟩))
          go_wp2
          go_roundw
          case rel =>
            refine ⟨k + 1, by omega, by go_num, ?_, ?_⟩
            · have := Hf9.out.blk Hr8.out (fun h => h)
              rw [Hdr.out] at this
              rw [HRR.out]; exact this
            · exact ((((Hf.out.alloc _).drew).then_ Hf8.out (fun k hk => .inr (by rw [hk]; exact Hg.out)))).then_ Hf9.out (fun _ h => h.elim)
          case measure => simp [intOf]; omega
        · by_cases k1 : x.kind = 1
          · have kb0 : (x.kind == 0) = false := by simpa using k0
            have kb1 : (x.kind == 1) = true := by simpa using k1
            have K1 := Lib.hid k1
            clear k1
            have He := Lib.hid (show x.bytes = wideBytes x.hi x.lo from by have k1 := K1.out; simp [It.bytes, k1])
            have Hhi := Lib.hid (show le (((x.bytes ++ R).drop 8).take 8) = x.hi from by rw [He.out]; exact wide_hi R Hxk.out.hi0 Hxk.out.hi1)
            have Hlo := Lib.hid (show le ((x.bytes ++ R).take 8) = x.lo from by rw [He.out]; exact wide_lo R Hxk.out.lo0 Hxk.out.lo1)
            have Hdr := Lib.hid (show (x.bytes ++ R).drop 16 = R from by rw [He.out]; exact wide_drop R)
            have Hn := Lib.hid (show 16 ≤ (x.bytes ++ R).length from by rw [He.out]; simp [wideBytes_len])
            go_wp2
            go_region_held3 (fun w' => w'.cell? ⟨wr.heap.size, 3, none⟩ = some (.int .u64 x.hi) ∧ w'.cell? ⟨wr.heap.size, 4, none⟩ = some (.int .u64 x.lo))
              (first | go_keep | exact ⟨y1, y2⟩)
              (first
                | (go_at_call 15; refine (rNum_yes _ gr7 (x.bytes ++ R) (blk_drew (blk_alloc Hrd2.out _)) HB2.out Hn.out).mono ?_; rintro e w8 ⟨rfl, hr8, hf8⟩; rw [Hhi.out, Hlo.out]; have hb2 := hf8.blk (blk_drew hblk.out) hne.out; have y1 := blk_cell hb2 3 rfl; have y2 := blk_cell hb2 4 rfl; have Hr8 := Lib.hid hr8; have Hf8 := Lib.hid hf8; clear hr8 hf8 hb2))
            go_wp2
            go_roundw
            case rel =>
              refine ⟨k + 1, by omega, by go_num, ?_, ?_⟩
              · rw [HRR.out, ← Hdr.out]; exact Hr8.out
              · exact (((Hf.out.alloc _).drew).then_ Hf8.out (fun k hk => .inr (by rw [hk]; exact Hg.out)))
            case measure => simp [intOf]; omega
          · by_cases k2 : x.kind = 2
            · have kb0 : (x.kind == 0) = false := by simpa using k0
              have kb1 : (x.kind == 1) = false := by simpa using k1
              have kb2 : (x.kind == 2) = true := by simpa using k2
              have K2 := Lib.hid k2
              clear k2
              have He := Lib.hid (show x.bytes = [if x.yes then 1 else 0] from by have k2 := K2.out; simp [It.bytes, k2])
              obtain ⟨c, hc⟩ : ∃ c : Int, (if x.yes then 1 else 0 : Int) = c := ⟨_, rfl⟩
              have Hc1 := Lib.hid (show (c == 1) = x.yes from by rw [← hc]; cases x.yes <;> rfl)
              have Hc2 := Lib.hid (show decide (1 < c) = false from by rw [← hc]; cases x.yes <;> rfl)
              have Hc3 := Lib.hid (show 0 ≤ c ∧ c < 256 from by rw [← hc]; split <;> omega)
              have He2 := Lib.hid (show x.bytes ++ R = c :: R from by rw [He.out, hc]; rfl)
              have Hdr := Lib.hid (show R = R from rfl)
              have HBR := Lib.hid (show Bytes R from fun y hy => HB2.out y (List.mem_append_right _ hy))
              have Hrd3 := Lib.hid (show IsR wr gr7 (c :: R) false from by have := Hrd2.out; rw [He2.out] at this; exact this)
              clear hc
              go_wp2
              go_region_held3 (fun w' => w'.cell? ⟨wr.heap.size, 5, none⟩ = some (.bool x.yes))
                (first | go_keep | exact y1)
                (first
                  | (go_at_call 17; refine (rFlag_any _ gr7 c R (blk_drew (blk_alloc Hrd3.out _)) Hc3.out HBR.out).mono ?_; rintro e w8 ⟨rfl, hr8, hf8⟩; rw [Hc1.out]; rw [Hc2.out] at hr8; have hb2 := hf8.blk (blk_drew hblk.out) hne.out; have y1 := blk_cell hb2 5 rfl; have Hr8 := Lib.hid hr8; have Hf8 := Lib.hid hf8; clear hr8 hf8 hb2))
              go_wp2
              go_roundw
              case rel =>
                refine ⟨k + 1, by omega, by go_num, ?_, ?_⟩
                · rw [HRR.out]; exact Hr8.out
                · exact (((Hf.out.alloc _).drew).then_ Hf8.out (fun k hk => .inr (by rw [hk]; exact Hg.out)))
              case measure => simp [intOf]; omega
            · by_cases k3 : x.kind = 3
              · have kb0 : (x.kind == 0) = false := by simpa using k0
                have kb1 : (x.kind == 1) = false := by simpa using k1
                have kb2 : (x.kind == 2) = false := by simpa using k2
                have kb3 : (x.kind == 3) = true := by simpa using k3
                have K3 := Lib.hid k3
                clear k3
                have He := Lib.hid (show x.bytes = x.text from by have k3 := K3.out; simp [It.bytes, k3])
                have Ht := Lib.hid (show (x.bytes ++ R).take x.text.length = x.text from by rw [He.out]; exact take_app rfl)
                have Hdr := Lib.hid (show (x.bytes ++ R).drop x.text.length = R from by rw [He.out]; exact drop_app rfl)
                have Hn := Lib.hid (show x.text.length ≤ (x.bytes ++ R).length from by rw [He.out]; simp)
                have s6 := strOfNums_size x.text
                go_wp2
                go_region_held3 (fun w' => w'.cell? ⟨wr.heap.size, 6, none⟩ = some (.string (strOfNums x.text)))
                  (first | go_keep | exact y1)
                  (first
                    | (go_at_call 18; refine (rRaw_yes _ gr7 (x.bytes ++ R) x.text.length (blk_drew (blk_alloc Hrd2.out _)) Hn.out).mono ?_; rintro e w8 ⟨rfl, hr8, hf8⟩; rw [Ht.out]; have hb2 := hf8.blk (blk_drew hblk.out) hne.out; have y1 := blk_cell hb2 6 rfl; have Hr8 := Lib.hid hr8; have Hf8 := Lib.hid hf8; clear hr8 hf8 hb2))
                go_wp2
                go_roundw
                case rel =>
                  refine ⟨k + 1, by omega, by go_num, ?_, ?_⟩
                  · rw [HRR.out, ← Hdr.out]; exact Hr8.out
                  · exact (((Hf.out.alloc _).drew).then_ Hf8.out (fun k hk => .inr (by rw [hk]; exact Hg.out)))
                case measure => simp [intOf]; omega
              · have kb0 : (x.kind == 0) = false := by simpa using k0
                have kb1 : (x.kind == 1) = false := by simpa using k1
                have kb2 : (x.kind == 2) = false := by simpa using k2
                have kb3 : (x.kind == 3) = false := by simpa using k3
                have He := Lib.hid (show x.bytes = [] from by simp [It.bytes, k0, k1, k2, k3])
                go_wp2
                go_roundw
                case rel =>
                  refine ⟨k + 1, by omega, by go_num, ?_, Hf.out.alloc _⟩
                  have := Hrd2.out
                  rw [He.out, List.nil_append] at this
                  rw [HRR.out]; exact blk_alloc this _
                case measure => simp [intOf]; omega
      · obtain rfl : k = l.length := by omega
        have Hf := Lib.hid hf
        clear hf
        have Hrd2 := Lib.hid (show IsR wr gr7 [] false from by have := Hrd.out; rw [List.drop_length] at this; exact this)
        go_wp2_with fail
        refine (rEnd_any _ _ _ _ Hrd2.out).mono ?_
        rintro e w8 ⟨rfl, rfl⟩
        go_wp2_with fail
        refine (rTorn_any _ _ _ _ Hrd2.out).mono ?_
        rintro e w8 ⟨rfl, rfl⟩
        go_wp2_with fail
        refine (rLeft_any _ _ _ _ Hrd2.out).mono ?_
        rintro e w8 ⟨rfl, rfl⟩
        go_wp2
        go_ret
        exact ⟨rfl, Hf.out⟩
  · go_wp2
    go_ret
    exact ⟨rfl, F2.out⟩
end Go.Proofs.Ytpmebmkifdgjcaa
