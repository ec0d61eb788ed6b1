/- TapeCuts. -/
import Derived.Test.YtpmebmkifdgjcaaTapeL
import Derived.Test.YtpmebmkifdgjcaaPlain3
namespace Go.Proofs.Ytpmebmkifdgjcaa
open Go.RowKit

theorem cut_part {A C P b Q : List Int} {cut : Nat} (hA : A = P ++ (b ++ Q)) (hC : C = A.take cut) (hle : P.length + b.length ≤ cut) : ∃ Q', C.drop P.length = b ++ Q' ∧ C.drop (P.length + b.length) = Q' := by
  subst hA
  subst hC
  have e : (P ++ (b ++ Q)).take cut = P ++ (b ++ Q.take (cut - P.length - b.length)) := by
    rw [List.take_append, List.take_of_length_le (by omega), List.take_append, List.take_of_length_le (l := b) (by omega)]
  refine ⟨Q.take (cut - P.length - b.length), ?_, ?_⟩
  · rw [e, drop_app rfl]
  · rw [e, ← List.drop_drop, drop_app rfl, drop_app rfl]
theorem cut_len {A C : List Int} {N cut : Nat} (hC : C = A.take cut) (hcut : cut ≤ A.length) : (C.drop N).length = cut - N := by
  subst hC
  simp
  omega

set_option maxHeartbeats 25600000 in
theorem cuts_any (w : World) (a : Option Addr) (ca : Nat) (l : List It) (cut : Int) (hr : Row w a (l.flatMap It.cells)) (ol : ∀ x ∈ l, x.ok) (hl : l.length ≤ 140737488355328) (tl : ∀ x ∈ l, x.text.length ≤ 140737488355328) :
    Calls Try.prog 5 #[.slice a l.length ca, .int .i64 cut] w fun e w' => e = .returned (.bool true) ∧ Fr (fun _ => False) w w' := by
  have HR := Lib.hid hr
  have OL := Lib.hid ol
  have TL := Lib.hid tl
  clear hr ol tl
  go_enter Try.func5, Try.ntmps5
  go_wp2_with fail
  refine (alive_any _).mono ?_
  rintro e w1 ⟨rfl, f1⟩
  have F1 := Lib.hid f1
  clear f1
  go_wp2_with fail
  refine (great_any w1 a ca l (HR.out.fr F1.out (fun _ _ h => h)) hl TL.out).mono ?_
  rintro e w2 ⟨rfl, f2⟩
  have F2 := Lib.hid (F1.out.then_ f2 (fun _ h => h.elim))
  clear f2
  cases gl : gr l
  case true =>
    go_wp2
    go_ret
    exact ⟨rfl, F2.out⟩
  case false =>
    have GL := Lib.hid gl
    clear gl
    obtain ⟨bl1, bl2⟩ := gr_no GL.out
    go_wp2_with fail
    refine (put_any w2 a ca l (HR.out.fr F2.out (fun _ _ h => h)) OL.out (by omega) (by omega)).mono ?_
    rintro e w4 ⟨gx, rfl, wx, f4⟩
    have F4 := Lib.hid (F2.out.then_ f4 (fun _ h => h.elim))
    clear wx f4
    have sA := strOfNums_size (allBytes l)
    have hall := allBytes_len l
    have Hok := Lib.hid (allBytes_ok OL.out)
    by_cases c0 : cut < 0
    · go_wp2
      go_ret
      exact ⟨rfl, F4.out⟩
    obtain ⟨cut, rfl⟩ := Int.eq_ofNat_of_zero_le (show 0 ≤ cut by omega)
    by_cases c1 : (allBytes l).length ≤ cut
    · have c1' : ((allBytes l).length : Int) ≤ (cut : Int) := by omega
      go_wp2
      go_ret
      exact ⟨rfl, F4.out⟩
    have c1' : ¬ ((allBytes l).length : Int) ≤ (cut : Int) := by omega
    have c1'' : (cut : Int) ≤ ((allBytes l).length : Int) := by omega
    obtain ⟨C, hC⟩ : ∃ C, (allBytes l).take cut = C := ⟨_, rfl⟩
    have HC := Lib.hid hC.symm
    have hCs : (strOfNums (allBytes l)).extract 0 cut = strOfNums C := by rw [strOf_take, hC]
    have HCB := Lib.hid (show Bytes C from by rw [← hC]; exact Hok.out.take cut)
    have Hcut := Lib.hid (show cut ≤ (allBytes l).length from by omega)
    clear hC
    go_wp2_with fail
    refine (tRead_any _ C).mono ?_
    rintro e w7 ⟨gr7, rfl, hg7, h7, f7⟩
    have Hg := Lib.hid (show w.heap.size ≤ gr7 from by have := F4.out.size; omega)
    have F7 := Lib.hid (F4.out.then_ f7 (fun _ h => h.elim))
    have H7 := Lib.hid h7
    clear h7 f7 hg7 hCs
    go_wp2
    go_loopw [8, 34] (fun n i wr => ∃ (k N : Nat) (R : List Int) (t : Bool), k ≤ l.length ∧ i = .int .i64 k ∧ n = .int .i64 N ∧ N = (allBytes (l.take k)).length ∧ IsR wr gr7 R t ∧ (t = false → N ≤ cut ∧ R = C.drop N) ∧ (t = true → cut < N) ∧ Fr (fun _ => False) w wr)
      (fun _ i _ => l.length - (intOf i).toNat)
    case atStart => exact ⟨0, 0, C, false, by omega, rfl, rfl, by simp [allBytes], H7.out, fun _ => ⟨by omega, by simp⟩, (fun h => by cases h), F7.out⟩
    case round =>
      obtain ⟨k, N, R, t, hk, rfl, rfl, hN, hrd, ht0, ht1, hf⟩ := hrel
      have Hrd := Lib.hid hrd
      have HN := Lib.hid hN
      have Ht0 := Lib.hid ht0
      have Ht1 := Lib.hid ht1
      clear hrd hN ht0 ht1
      by_cases hlt : k < l.length
      case neg =>
        obtain rfl : k = l.length := by omega
        have Hf := Lib.hid hf
        clear hf
        have htt : t = true := by
          cases ht : t with
          | true => rfl
          | false =>
            have h1 := (Ht0.out ht).1
            have h2 := HN.out
            rw [List.take_length] at h2
            omega
        subst htt
        go_wp2_with fail
        refine (rTorn_any _ _ _ _ Hrd.out).mono ?_
        rintro e w8 ⟨rfl, rfl⟩
        go_wp2_with fail
        refine (rEnd_any _ _ _ _ Hrd.out).mono ?_
        rintro e w8 ⟨rfl, rfl⟩
        go_wp2
        go_ret
        exact ⟨rfl, Hf.out⟩
      case pos =>
      obtain ⟨b, off, rfl, hb, x0, x1, x2, x3, x4, x5, x6⟩ := (HR.out.fr hf (fun _ _ h => h)).item hlt
      have Hf := Lib.hid hf
      clear hf
      have hx := OL.out _ (List.getElem_mem hlt)
      have Hs := Lib.hid (allBytes_succ hlt)
      have Hpart := Lib.hid (show allBytes l = allBytes (l.take k) ++ (l[k].bytes ++ allBytes (l.drop (k + 1))) from by
        rw [← allBytes_drop hlt]
        conv => lhs; rw [← List.take_append_drop k l]
        simp only [allBytes, List.flatMap_append])
      have hNb : N ≤ 6000 := by
        have h1 := HN.out
        have h2 := allBytes_len (l.take k)
        have h3 := texts_le l k
        rw [List.length_take] at h2
        omega
      obtain ⟨x, hxx⟩ : ∃ x, l[k] = x := ⟨_, rfl⟩
      rw [hxx] at x0 x1 x2 x3 x4 x5 x6
      have Hx := Lib.hid hxx
      have Hxk := Lib.hid (hxx ▸ hx)
      have Hxb := Lib.hid (show x.text.length ≤ 4096 from by
        have h1 := texts_succ hlt
        have h2 := texts_le l (k + 1)
        rw [hxx] at h1
        omega)
      clear hxx hx
      -- what the next place is, and how the state stands behind this item
      have next := Lib.hid (show (allBytes (l.take (k + 1))).length = N + x.bytes.length from by rw [Hs.out, Hx.out, List.length_append, HN.out])
      have there := Lib.hid (show t = false → N + x.bytes.length ≤ cut → ∃ Q, R = x.bytes ++ Q ∧ C.drop (N + x.bytes.length) = Q from fun ht hle => by
        obtain ⟨_, hR⟩ := Ht0.out ht
        have hp := Hpart.out
        rw [Hx.out] at hp
        have hn := HN.out
        obtain ⟨Q, h1, h2⟩ := cut_part (cut := cut) hp HC.out (by omega)
        rw [← hn] at h1 h2
        exact ⟨Q, by rw [hR, h1], h2⟩)
      have short := Lib.hid (show ¬ (t = false ∧ N + x.bytes.length ≤ cut) → (t = true ∨ R.length < x.bytes.length) ∧ cut < N + x.bytes.length from fun h => by
        cases ht : t with
        | true => exact ⟨.inl rfl, by have := Ht1.out ht; omega⟩
        | false =>
          obtain ⟨h1, h2⟩ := Ht0.out ht
          have h3 := cut_len (N := N) HC.out Hcut.out
          have h4 : ¬ N + x.bytes.length ≤ cut := fun h5 => h ⟨ht, h5⟩
          exact ⟨.inr (by rw [h2, h3]; omega), by omega⟩)
      have hblk := Lib.hid (heap_alloc_new wr (.cells #[.int .i64 x.kind, .int .i64 x.size, .int .i64 x.n, .int .u64 x.hi, .int .u64 x.lo, .bool x.yes, .string (strOfNums x.text)] 37))
      have hne := Lib.hid (show ¬ wr.heap.size = gr7 from by have := blk_lt Hrd.out; omega)
      have s6 := strOfNums_size x.text
      have hx6 := Hxb.out
      have cl8 := clampN_le x.size
      by_cases k0 : x.kind = 0
      · have kb0 : (x.kind == 0) = true := by simpa using k0
        have K0 := Lib.hid k0
        clear k0
        by_cases z1 : x.size < 1
        case pos =>
          have He := Lib.hid (show x.bytes = bytesOf x.n (clampN x.size) from by have k0 := K0.out; simp [It.bytes, k0])
          have Hlen := Lib.hid (show (x.bytes.length : Int) = 1 from by rw [He.out]; rw [blen]; unfold clampN; omega)
          by_cases hcase : t = false ∧ N + x.bytes.length ≤ cut
          · obtain ⟨rfl, hle⟩ := hcase
            obtain ⟨Q, hRQ, hQ⟩ := there.out rfl hle
            have HQ := Lib.hid hQ
            have Hrd2 := Lib.hid (show IsR wr gr7 (x.bytes ++ Q) false from hRQ ▸ Hrd.out)
            have HB2 := Lib.hid (show Bytes (x.bytes ++ Q) from by rw [← hRQ, (Ht0.out rfl).2]; exact HCB.out.drop N)
            have HD := Lib.hid (show ¬ (cut : Int) < (N : Int) + 1 from by have := Hlen.out; omega)
            have Hle := Lib.hid hle
            clear hRQ hQ hle
            go_wp2_with fail
            refine (rInt_yes _ gr7 (x.bytes ++ Q) x.size (blk_alloc Hrd2.out _) HB2.out (by rw [He.out]; simp [blen])).mono ?_
            rintro e w8 ⟨rfl, hr8, hf8⟩
            rw [show (x.bytes ++ Q).drop (clampN x.size) = Q from drop_app (by rw [He.out, blen])] at hr8
            have hb2 := hf8.blk hblk.out hne.out
            have y1 := blk_cell hb2 1 rfl
            have y6 := blk_cell hb2 6 rfl
            have Hr8 := Lib.hid hr8
            have Hf8 := Lib.hid hf8
            clear hr8 hf8 hb2
            go_wp2_with fail
            refine (rTorn_any _ _ _ _ Hr8.out).mono ?_
            rintro e w9 ⟨rfl, rfl⟩
            have hd := HD.out
            go_wp2
            go_roundw
            case rel => exact ⟨k + 1, N + x.bytes.length, _, _, by omega, by go_num, by have := Hlen.out; go_num, next.out.symm, Hr8.out, (fun _ => ⟨Hle.out, by rw [HQ.out]⟩), (fun h => by cases h), ((Hf.out.alloc _).then_ Hf8.out (fun k hk => .inr (by rw [hk]; exact Hg.out)))⟩
            case measure => simp [intOf]; omega
          · obtain ⟨hno, hgt⟩ := short.out hcase
            have Hno := Lib.hid hno
            have HD := Lib.hid (show (cut : Int) < (N : Int) + 1 from by have := Hlen.out; omega)
            have Hgt := Lib.hid hgt
            clear hno hgt hcase
            go_wp2_with fail
            refine (rInt_no _ gr7 R t x.size (blk_alloc Hrd.out _) (by have := Hno.out; rw [He.out, blen] at this; exact this)).mono ?_
            rintro e w8 ⟨rfl, hr8, hf8⟩
            have hb2 := hf8.blk hblk.out hne.out
            have y1 := blk_cell hb2 1 rfl
            have y6 := blk_cell hb2 6 rfl
            have Hr8 := Lib.hid hr8
            have Hf8 := Lib.hid hf8
            clear hr8 hf8 hb2
            go_wp2_with fail
            refine (rTorn_any _ _ _ _ Hr8.out).mono ?_
            rintro e w9 ⟨rfl, rfl⟩
            have hd := HD.out
            go_wp2
            go_roundw
            case rel => exact ⟨k + 1, N + x.bytes.length, _, _, by omega, by go_num, by have := Hlen.out; go_num, next.out.symm, Hr8.out, (fun h => by cases h), (fun _ => Hgt.out), ((Hf.out.alloc _).then_ Hf8.out (fun k hk => .inr (by rw [hk]; exact Hg.out)))⟩
            case measure => simp [intOf]; omega
        by_cases z8 : x.size ≤ 8
        case pos =>
          have z1' : 1 ≤ x.size := by omega
          have He := Lib.hid (show x.bytes = bytesOf x.n (clampN x.size) from by have k0 := K0.out; simp [It.bytes, k0])
          have Hlen := Lib.hid (show (x.bytes.length : Int) = x.size from by rw [He.out]; rw [blen]; unfold clampN; omega)
          by_cases hcase : t = false ∧ N + x.bytes.length ≤ cut
          · obtain ⟨rfl, hle⟩ := hcase
            obtain ⟨Q, hRQ, hQ⟩ := there.out rfl hle
            have HQ := Lib.hid hQ
            have Hrd2 := Lib.hid (show IsR wr gr7 (x.bytes ++ Q) false from hRQ ▸ Hrd.out)
            have HB2 := Lib.hid (show Bytes (x.bytes ++ Q) from by rw [← hRQ, (Ht0.out rfl).2]; exact HCB.out.drop N)
            have HD := Lib.hid (show ¬ (cut : Int) < (N : Int) + x.size from by have := Hlen.out; omega)
            have Hle := Lib.hid hle
            clear hRQ hQ hle
            go_wp2_with fail
            refine (rInt_yes _ gr7 (x.bytes ++ Q) x.size (blk_alloc Hrd2.out _) HB2.out (by rw [He.out]; simp [blen])).mono ?_
            rintro e w8 ⟨rfl, hr8, hf8⟩
            rw [show (x.bytes ++ Q).drop (clampN x.size) = Q from drop_app (by rw [He.out, blen])] at hr8
            have hb2 := hf8.blk hblk.out hne.out
            have y1 := blk_cell hb2 1 rfl
            have y6 := blk_cell hb2 6 rfl
            have Hr8 := Lib.hid hr8
            have Hf8 := Lib.hid hf8
            clear hr8 hf8 hb2
            go_wp2_with fail
            refine (rTorn_any _ _ _ _ Hr8.out).mono ?_
            rintro e w9 ⟨rfl, rfl⟩
            have hd := HD.out
            go_wp2
            go_roundw
            case rel => exact ⟨k + 1, N + x.bytes.length, _, _, by omega, by go_num, by have := Hlen.out; go_num, next.out.symm, Hr8.out, (fun _ => ⟨Hle.out, by rw [HQ.out]⟩), (fun h => by cases h), ((Hf.out.alloc _).then_ Hf8.out (fun k hk => .inr (by rw [hk]; exact Hg.out)))⟩
            case measure => simp [intOf]; omega
          · obtain ⟨hno, hgt⟩ := short.out hcase
            have Hno := Lib.hid hno
            have HD := Lib.hid (show (cut : Int) < (N : Int) + x.size from by have := Hlen.out; omega)
            have Hgt := Lib.hid hgt
            clear hno hgt hcase
            go_wp2_with fail
            refine (rInt_no _ gr7 R t x.size (blk_alloc Hrd.out _) (by have := Hno.out; rw [He.out, blen] at this; exact this)).mono ?_
            rintro e w8 ⟨rfl, hr8, hf8⟩
            have hb2 := hf8.blk hblk.out hne.out
            have y1 := blk_cell hb2 1 rfl
            have y6 := blk_cell hb2 6 rfl
            have Hr8 := Lib.hid hr8
            have Hf8 := Lib.hid hf8
            clear hr8 hf8 hb2
            go_wp2_with fail
            refine (rTorn_any _ _ _ _ Hr8.out).mono ?_
            rintro e w9 ⟨rfl, rfl⟩
            have hd := HD.out
            go_wp2
            go_roundw
            case rel => exact ⟨k + 1, N + x.bytes.length, _, _, by omega, by go_num, by have := Hlen.out; go_num, next.out.symm, Hr8.out, (fun h => by cases h), (fun _ => Hgt.out), ((Hf.out.alloc _).then_ Hf8.out (fun k hk => .inr (by rw [hk]; exact Hg.out)))⟩
            case measure => simp [intOf]; omega
        have z8' : 8 < x.size := by omega
        have He := Lib.hid (show x.bytes = bytesOf x.n (clampN x.size) from by have k0 := K0.out; simp [It.bytes, k0])
        have Hlen := Lib.hid (show (x.bytes.length : Int) = 8 from by rw [He.out]; rw [blen]; unfold clampN; omega)
        by_cases hcase : t = false ∧ N + x.bytes.length ≤ cut
        · obtain ⟨rfl, hle⟩ := hcase
          obtain ⟨Q, hRQ, hQ⟩ := there.out rfl hle
          have HQ := Lib.hid hQ
          have Hrd2 := Lib.hid (show IsR wr gr7 (x.bytes ++ Q) false from hRQ ▸ Hrd.out)
          have HB2 := Lib.hid (show Bytes (x.bytes ++ Q) from by rw [← hRQ, (Ht0.out rfl).2]; exact HCB.out.drop N)
          have HD := Lib.hid (show ¬ (cut : Int) < (N : Int) + 8 from by have := Hlen.out; omega)
          have Hle := Lib.hid hle
          clear hRQ hQ hle
          go_wp2_with fail
          refine (rInt_yes _ gr7 (x.bytes ++ Q) x.size (blk_alloc Hrd2.out _) HB2.out (by rw [He.out]; simp [blen])).mono ?_
          rintro e w8 ⟨rfl, hr8, hf8⟩
          rw [show (x.bytes ++ Q).drop (clampN x.size) = Q from drop_app (by rw [He.out, blen])] at hr8
          have hb2 := hf8.blk hblk.out hne.out
          have y1 := blk_cell hb2 1 rfl
          have y6 := blk_cell hb2 6 rfl
          have Hr8 := Lib.hid hr8
          have Hf8 := Lib.hid hf8
          clear hr8 hf8 hb2
          go_wp2_with fail
          refine (rTorn_any _ _ _ _ Hr8.out).mono ?_
          rintro e w9 ⟨rfl, rfl⟩
          have hd := HD.out
          go_wp2
          go_roundw
          case rel => exact ⟨k + 1, N + x.bytes.length, _, _, by omega, by go_num, by have := Hlen.out; go_num, next.out.symm, Hr8.out, (fun _ => ⟨Hle.out, by rw [HQ.out]⟩), (fun h => by cases h), ((Hf.out.alloc _).then_ Hf8.out (fun k hk => .inr (by rw [hk]; exact Hg.out)))⟩
          case measure => simp [intOf]; omega
        · obtain ⟨hno, hgt⟩ := short.out hcase
          have Hno := Lib.hid hno
          have HD := Lib.hid (show (cut : Int) < (N : Int) + 8 from by have := Hlen.out; omega)
          have Hgt := Lib.hid hgt
          clear hno hgt hcase
          go_wp2_with fail
          refine (rInt_no _ gr7 R t x.size (blk_alloc Hrd.out _) (by have := Hno.out; rw [He.out, blen] at this; exact this)).mono ?_
          rintro e w8 ⟨rfl, hr8, hf8⟩
          have hb2 := hf8.blk hblk.out hne.out
          have y1 := blk_cell hb2 1 rfl
          have y6 := blk_cell hb2 6 rfl
          have Hr8 := Lib.hid hr8
          have Hf8 := Lib.hid hf8
          clear hr8 hf8 hb2
          go_wp2_with fail
          refine (rTorn_any _ _ _ _ Hr8.out).mono ?_
          rintro e w9 ⟨rfl, rfl⟩
          have hd := HD.out
          go_wp2
          go_roundw
          case rel => exact ⟨k + 1, N + x.bytes.length, _, _, by omega, by go_num, by have := Hlen.out; go_num, next.out.symm, Hr8.out, (fun h => by cases h), (fun _ => Hgt.out), ((Hf.out.alloc _).then_ Hf8.out (fun k hk => .inr (by rw [hk]; exact Hg.out)))⟩
          case measure => simp [intOf]; omega
      by_cases k1 : x.kind = 1
      · have kb0 : (x.kind == 0) = false := by simpa using k0
        have kb1 : (x.kind == 1) = true := by simpa using k1
        have K1 := Lib.hid k1
        clear k1
        have He := Lib.hid (show x.bytes = wideBytes x.hi x.lo from by have k1 := K1.out; simp [It.bytes, k1])
        have Hlen := Lib.hid (show (x.bytes.length : Int) = 16 from by rw [He.out]; simp [wideBytes_len])
        by_cases hcase : t = false ∧ N + x.bytes.length ≤ cut
        · obtain ⟨rfl, hle⟩ := hcase
          obtain ⟨Q, hRQ, hQ⟩ := there.out rfl hle
          have HQ := Lib.hid hQ
          have Hrd2 := Lib.hid (show IsR wr gr7 (x.bytes ++ Q) false from hRQ ▸ Hrd.out)
          have HB2 := Lib.hid (show Bytes (x.bytes ++ Q) from by rw [← hRQ, (Ht0.out rfl).2]; exact HCB.out.drop N)
          have HD := Lib.hid (show ¬ (cut : Int) < (N : Int) + 16 from by have := Hlen.out; omega)
          have Hle := Lib.hid hle
          clear hRQ hQ hle
          go_wp2_with fail
          refine (rNum_yes _ gr7 (x.bytes ++ Q) (blk_alloc Hrd2.out _) HB2.out (by rw [He.out]; simp [wideBytes_len])).mono ?_
          rintro e w8 ⟨rfl, hr8, hf8⟩
          rw [show (x.bytes ++ Q).drop 16 = Q from by rw [He.out]; exact wide_drop Q] at hr8
          have hb2 := hf8.blk hblk.out hne.out
          have y1 := blk_cell hb2 1 rfl
          have y6 := blk_cell hb2 6 rfl
          have Hr8 := Lib.hid hr8
          have Hf8 := Lib.hid hf8
          clear hr8 hf8 hb2
          go_wp2_with fail
          refine (rTorn_any _ _ _ _ Hr8.out).mono ?_
          rintro e w9 ⟨rfl, rfl⟩
          have hd := HD.out
          go_wp2
          go_roundw
          case rel => exact ⟨k + 1, N + x.bytes.length, _, _, by omega, by go_num, by have := Hlen.out; go_num, next.out.symm, Hr8.out, (fun _ => ⟨Hle.out, by rw [HQ.out]⟩), (fun h => by cases h), ((Hf.out.alloc _).then_ Hf8.out (fun k hk => .inr (by rw [hk]; exact Hg.out)))⟩
          case measure => simp [intOf]; omega
        · obtain ⟨hno, hgt⟩ := short.out hcase
          have Hno := Lib.hid hno
          have HD := Lib.hid (show (cut : Int) < (N : Int) + 16 from by have := Hlen.out; omega)
          have Hgt := Lib.hid hgt
          clear hno hgt hcase
          go_wp2_with fail
          refine (rNum_no _ gr7 R t (blk_alloc Hrd.out _) (by have := Hno.out; rw [He.out, wideBytes_len] at this; exact this)).mono ?_
          rintro e w8 ⟨rfl, hr8, hf8⟩
          have hb2 := hf8.blk hblk.out hne.out
          have y1 := blk_cell hb2 1 rfl
          have y6 := blk_cell hb2 6 rfl
          have Hr8 := Lib.hid hr8
          have Hf8 := Lib.hid hf8
          clear hr8 hf8 hb2
          go_wp2_with fail
          refine (rTorn_any _ _ _ _ Hr8.out).mono ?_
          rintro e w9 ⟨rfl, rfl⟩
          have hd := HD.out
          go_wp2
          go_roundw
          case rel => exact ⟨k + 1, N + x.bytes.length, _, _, by omega, by go_num, by have := Hlen.out; go_num, next.out.symm, Hr8.out, (fun h => by cases h), (fun _ => Hgt.out), ((Hf.out.alloc _).then_ Hf8.out (fun k hk => .inr (by rw [hk]; exact Hg.out)))⟩
          case measure => simp [intOf]; omega
      by_cases k2 : x.kind = 2
      · have kb0 : (x.kind == 0) = false := by simpa using k0
        have kb1 : (x.kind == 1) = false := by simpa using k1
        have kb2 : (x.kind == 2) = true := by simpa using k2
        have K2 := Lib.hid k2
        clear k2
        have He := Lib.hid (show x.bytes = [if x.yes then 1 else 0] from by have k2 := K2.out; simp [It.bytes, k2])
        have Hlen := Lib.hid (show (x.bytes.length : Int) = 1 from by rw [He.out]; rfl)
        by_cases hcase : t = false ∧ N + x.bytes.length ≤ cut
        · obtain ⟨rfl, hle⟩ := hcase
          obtain ⟨Q, hRQ, hQ⟩ := there.out rfl hle
          have HQ := Lib.hid hQ
          have Hrd2 := Lib.hid (show IsR wr gr7 (x.bytes ++ Q) false from hRQ ▸ Hrd.out)
          have HB2 := Lib.hid (show Bytes (x.bytes ++ Q) from by rw [← hRQ, (Ht0.out rfl).2]; exact HCB.out.drop N)
          have HD := Lib.hid (show ¬ (cut : Int) < (N : Int) + 1 from by have := Hlen.out; omega)
          have Hle := Lib.hid hle
          clear hRQ hQ hle
          obtain ⟨c, hc⟩ : ∃ c : Int, (if x.yes then 1 else 0 : Int) = c := ⟨_, rfl⟩
          have Hc2 := Lib.hid (show decide (1 < c) = false from by rw [← hc]; cases x.yes <;> rfl)
          have Hc3 := Lib.hid (show 0 ≤ c ∧ c < 256 from by rw [← hc]; split <;> omega)
          have He2 := Lib.hid (show x.bytes ++ Q = c :: Q from by rw [He.out, hc]; rfl)
          have HBR := Lib.hid (show Bytes Q from fun y hy => HB2.out y (List.mem_append_right _ hy))
          have Hrd3 := Lib.hid (show IsR wr gr7 (c :: Q) false from by have := Hrd2.out; rw [He2.out] at this; exact this)
          clear hc
          go_wp2_with fail
          refine (rFlag_any _ gr7 c Q (blk_alloc Hrd3.out _) Hc3.out HBR.out).mono ?_
          rintro e w8 ⟨rfl, hr8, hf8⟩
          rw [Hc2.out] at hr8
          have hb2 := hf8.blk hblk.out hne.out
          have y1 := blk_cell hb2 1 rfl
          have y6 := blk_cell hb2 6 rfl
          have Hr8 := Lib.hid hr8
          have Hf8 := Lib.hid hf8
          clear hr8 hf8 hb2
          go_wp2_with fail
          refine (rTorn_any _ _ _ _ Hr8.out).mono ?_
          rintro e w9 ⟨rfl, rfl⟩
          have hd := HD.out
          go_wp2
          go_roundw
          case rel => exact ⟨k + 1, N + x.bytes.length, _, _, by omega, by go_num, by have := Hlen.out; go_num, next.out.symm, Hr8.out, (fun _ => ⟨Hle.out, by rw [HQ.out]⟩), (fun h => by cases h), ((Hf.out.alloc _).then_ Hf8.out (fun k hk => .inr (by rw [hk]; exact Hg.out)))⟩
          case measure => simp [intOf]; omega
        · obtain ⟨hno, hgt⟩ := short.out hcase
          have Hno := Lib.hid hno
          have HD := Lib.hid (show (cut : Int) < (N : Int) + 1 from by have := Hlen.out; omega)
          have Hgt := Lib.hid hgt
          clear hno hgt hcase
          go_wp2_with fail
          refine (rFlag_no _ gr7 R t (blk_alloc Hrd.out _) (by have := Hno.out; rw [He.out] at this; exact this.imp id (fun h => List.eq_nil_of_length_eq_zero (by simp at h; simp [h])))).mono ?_
          rintro e w8 ⟨rfl, hr8, hf8⟩
          have hb2 := hf8.blk hblk.out hne.out
          have y1 := blk_cell hb2 1 rfl
          have y6 := blk_cell hb2 6 rfl
          have Hr8 := Lib.hid hr8
          have Hf8 := Lib.hid hf8
          clear hr8 hf8 hb2
          go_wp2_with fail
          refine (rTorn_any _ _ _ _ Hr8.out).mono ?_
          rintro e w9 ⟨rfl, rfl⟩
          have hd := HD.out
          go_wp2
          go_roundw
          case rel => exact ⟨k + 1, N + x.bytes.length, _, _, by omega, by go_num, by have := Hlen.out; go_num, next.out.symm, Hr8.out, (fun h => by cases h), (fun _ => Hgt.out), ((Hf.out.alloc _).then_ Hf8.out (fun k hk => .inr (by rw [hk]; exact Hg.out)))⟩
          case measure => simp [intOf]; omega
      by_cases k3 : x.kind = 3
      · have kb0 : (x.kind == 0) = false := by simpa using k0
        have kb1 : (x.kind == 1) = false := by simpa using k1
        have kb2 : (x.kind == 2) = false := by simpa using k2
        have kb3 : (x.kind == 3) = true := by simpa using k3
        have K3 := Lib.hid k3
        clear k3
        have He := Lib.hid (show x.bytes = x.text from by have k3 := K3.out; simp [It.bytes, k3])
        have Hlen := Lib.hid (show (x.bytes.length : Int) = (x.text.length : Int) from by rw [He.out])
        by_cases hcase : t = false ∧ N + x.bytes.length ≤ cut
        · obtain ⟨rfl, hle⟩ := hcase
          obtain ⟨Q, hRQ, hQ⟩ := there.out rfl hle
          have HQ := Lib.hid hQ
          have Hrd2 := Lib.hid (show IsR wr gr7 (x.bytes ++ Q) false from hRQ ▸ Hrd.out)
          have HB2 := Lib.hid (show Bytes (x.bytes ++ Q) from by rw [← hRQ, (Ht0.out rfl).2]; exact HCB.out.drop N)
          have HD := Lib.hid (show ¬ (cut : Int) < (N : Int) + (x.text.length : Int) from by have := Hlen.out; omega)
          have Hle := Lib.hid hle
          clear hRQ hQ hle
          go_wp2_with fail
          refine (rRaw_yes _ gr7 (x.bytes ++ Q) x.text.length (blk_alloc Hrd2.out _) (by rw [He.out]; simp)).mono ?_
          rintro e w8 ⟨rfl, hr8, hf8⟩
          rw [show (x.bytes ++ Q).drop x.text.length = Q from by rw [He.out]; exact drop_app rfl] at hr8
          have hb2 := hf8.blk hblk.out hne.out
          have y1 := blk_cell hb2 1 rfl
          have y6 := blk_cell hb2 6 rfl
          have Hr8 := Lib.hid hr8
          have Hf8 := Lib.hid hf8
          clear hr8 hf8 hb2
          go_wp2_with fail
          refine (rTorn_any _ _ _ _ Hr8.out).mono ?_
          rintro e w9 ⟨rfl, rfl⟩
          have hd := HD.out
          go_wp2
          go_roundw
          case rel => exact ⟨k + 1, N + x.bytes.length, _, _, by omega, by go_num, by have := Hlen.out; go_num, next.out.symm, Hr8.out, (fun _ => ⟨Hle.out, by rw [HQ.out]⟩), (fun h => by cases h), ((Hf.out.alloc _).then_ Hf8.out (fun k hk => .inr (by rw [hk]; exact Hg.out)))⟩
          case measure => simp [intOf]; omega
        · obtain ⟨hno, hgt⟩ := short.out hcase
          have Hno := Lib.hid hno
          have HD := Lib.hid (show (cut : Int) < (N : Int) + (x.text.length : Int) from by have := Hlen.out; omega)
          have Hgt := Lib.hid hgt
          clear hno hgt hcase
          go_wp2_with fail
          refine (rRaw_no _ gr7 R t x.text.length (blk_alloc Hrd.out _) (by have := Hno.out; rw [He.out] at this; exact this.imp id (fun h => .inr (by omega)))).mono ?_
          rintro e w8 ⟨rfl, hr8, hf8⟩
          have hb2 := hf8.blk hblk.out hne.out
          have y1 := blk_cell hb2 1 rfl
          have y6 := blk_cell hb2 6 rfl
          have Hr8 := Lib.hid hr8
          have Hf8 := Lib.hid hf8
          clear hr8 hf8 hb2
          go_wp2_with fail
          refine (rTorn_any _ _ _ _ Hr8.out).mono ?_
          rintro e w9 ⟨rfl, rfl⟩
          have hd := HD.out
          go_wp2
          go_roundw
          case rel => exact ⟨k + 1, N + x.bytes.length, _, _, by omega, by go_num, by have := Hlen.out; go_num, next.out.symm, Hr8.out, (fun h => by cases h), (fun _ => Hgt.out), ((Hf.out.alloc _).then_ Hf8.out (fun k hk => .inr (by rw [hk]; exact Hg.out)))⟩
          case measure => simp [intOf]; omega
      · have kb0 : (x.kind == 0) = false := by simpa using k0
        have kb1 : (x.kind == 1) = false := by simpa using k1
        have kb2 : (x.kind == 2) = false := by simpa using k2
        have kb3 : (x.kind == 3) = false := by simpa using k3
        have He := Lib.hid (show x.bytes = [] from by simp [It.bytes, k0, k1, k2, k3])
        have Hlen := Lib.hid (show (x.bytes.length : Int) = 0 from by rw [He.out]; rfl)
        have Hrd2 := Lib.hid (show IsR (wr.alloc (.cells #[.int .i64 x.kind, .int .i64 x.size, .int .i64 x.n, .int .u64 x.hi, .int .u64 x.lo, .bool x.yes, .string (strOfNums x.text)] 37)) gr7 R t from blk_alloc Hrd.out _)
        have nx := Lib.hid (show N = (allBytes (l.take (k + 1))).length from by have := next.out; rw [He.out] at this; simp at this; omega)
        go_wp2_with fail
        refine (rTorn_any _ _ _ _ Hrd2.out).mono ?_
        rintro e w9 ⟨rfl, rfl⟩
        cases ht : t
        · have hd : ¬ (cut : Int) < (N : Int) := by have := (Ht0.out ht).1; omega
          have HT := Lib.hid ht
          clear ht
          go_wp2
          go_roundw
          case rel => exact ⟨k + 1, N, R, false, by omega, by go_num, by go_num, nx.out, by have := Hrd2.out; rw [HT.out] at this; exact this, (fun _ => Ht0.out HT.out), (fun h => by cases h), Hf.out.alloc _⟩
          case measure => simp [intOf]; omega
        · have hd : (cut : Int) < (N : Int) := by have := Ht1.out ht; omega
          have HT := Lib.hid ht
          clear ht
          go_wp2
          go_roundw
          case rel => exact ⟨k + 1, N, R, true, by omega, by go_num, by go_num, nx.out, by have := Hrd2.out; rw [HT.out] at this; exact this, (fun h => by cases h), (fun _ => Ht1.out HT.out), Hf.out.alloc _⟩
          case measure => simp [intOf]; omega
end Go.Proofs.Ytpmebmkifdgjcaa
