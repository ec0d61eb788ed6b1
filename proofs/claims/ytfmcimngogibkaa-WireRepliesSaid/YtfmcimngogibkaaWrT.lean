/- Replies: their bytes, and the document's. -/
import Derived.Test.YtfmcimngogibkaaWrS
import Derived.Test.YtfmcimngogibkaaWrL
set_option linter.unusedSimpArgs false
set_option linter.unusedVariables false
namespace Go.Proofs.Ytfmcimngogibkaa
open Go.RowKit

def iBytes (x : Int) : List Int := bytesOf x 1
theorem iBytes_len (x : Int) : (iBytes x).length = 1 := blen x 1
def repBytes (er : Int) (rs : List Int) (la : List Acc) (lt : List Tx) : List Int :=
  bytesOf er 1 ++ (bytesOf rs.length 1 ++ rs.flatMap iBytes) ++ (bytesOf la.length 1 ++ la.flatMap Acc.bytes) ++ (bytesOf lt.length 1 ++ lt.flatMap Tx.bytes)
def repOut (er : Int) (rs : List Int) (la : List Acc) (lt : List Tx) : List Int := if rfits er rs la lt = true then repBytes er rs la lt else repBytes 3 [] [] []
structure RFit (er : Int) (rs : List Int) (la : List Acc) (lt : List Tx) : Prop where
  er : 0 ≤ er ∧ er ≤ 255
  n0 : rs.length ≤ 16
  n1 : la.length ≤ 16
  n2 : lt.length ≤ 16
  rs : ∀ x ∈ rs, 0 ≤ x ∧ x ≤ 255
  la : la.all Acc.good = true
  lt : lt.all Tx.good = true
theorem rfit_of {er : Int} {rs : List Int} {la : List Acc} {lt : List Tx} (h : rfits er rs la lt = true) : RFit er rs la lt := by
  simp only [rfits, byteOk, Bool.and_eq_true, decide_eq_true_eq] at h
  obtain ⟨⟨h1, h2, h3, h4⟩, h5, h6, h7⟩ := h
  refine ⟨h1, h2, h3, h4, fun x hx => ?_, h6, h7⟩
  have := (List.all_eq_true.1 h5) x hx
  simpa [byteOk] using this
theorem rfit_err : RFit 3 [] [] [] := ⟨by omega, by simp, by simp, by simp, fun _ h => (nomatch h), rfl, rfl⟩

set_option maxRecDepth 4000 in
set_option maxHeartbeats 6400000 in
theorem reply_any (w : World) (er : Int) (a0 : Option Addr) (n0 c0 : Nat) (a1 : Option Addr) (n1 c1 : Nat) (a2 : Option Addr) (n2 c2 : Nat) (rs : List Int) (la : List Acc) (lt : List Tx) (hn0 : rs.length = n0) (hn1 : la.length = n1) (hn2 : lt.length = n2) (hb0 : n0 ≤ 140737488355328) (hb1 : n1 ≤ 140737488355328) (hb2 : n2 ≤ 140737488355328) (h0 : Row w a0 (rs.flatMap iCells)) (h1 : Row w a1 (la.flatMap Acc.cells)) (h2 : Row w a2 (lt.flatMap Tx.cells)) :
    Calls Try.prog 19 #[.agg #[.int .i64 er, .slice a0 n0 c0, .slice a1 n1 c1, .slice a2 n2 c2]] w fun e w' => e = .returned (.string (strOfNums (repOut er rs la lt))) ∧ Fr (fun _ => False) w w' := by
  have HBq := Lib.hid (heap_alloc_new w (.cells #[.int .i64 er, .slice a0 n0 c0, .slice a1 n1 c1, .slice a2 n2 c2] 47))
  have FAq := Lib.hid ((Fr.refl (fun _ => False) w).alloc (.cells #[.int .i64 er, .slice a0 n0 c0, .slice a1 n1 c1, .slice a2 n2 c2] 47))
  have HFi := Lib.hid (fits_any (w.alloc (.cells #[.int .i64 er, .slice a0 n0 c0, .slice a1 n1 c1, .slice a2 n2 c2] 47)) er a0 n0 c0 a1 n1 c1 a2 n2 c2 rs la lt hn0 hn1 hn2 hb0 hb1 hb2 (h0.fr FAq.out (fun _ _ h => h)) (h1.fr FAq.out (fun _ _ h => h)) (h2.fr FAq.out (fun _ _ h => h)))
  obtain ⟨gd, hgd⟩ : ∃ gd, rfits er rs la lt = gd := ⟨_, rfl⟩
  obtain ⟨ro, hro⟩ : ∃ ro, repOut er rs la lt = ro := ⟨_, rfl⟩
  have HRo := Lib.hid (show (if gd = true then repBytes er rs la lt else repBytes 3 [] [] []) = ro from by rw [← hro, repOut, hgd])
  have HGd := Lib.hid hgd
  rw [hgd] at HFi
  rw [hro]
  have H0 := Lib.hid h0
  have H1 := Lib.hid h1
  have H2 := Lib.hid h2
  have HN0 := Lib.hid hn0
  have HN1 := Lib.hid hn1
  have HN2 := Lib.hid hn2
  have q0 := blk_cell HBq.out 0 rfl; have q1 := blk_cell HBq.out 1 rfl; have q2 := blk_cell HBq.out 2 rfl; have q3 := blk_cell HBq.out 3 rfl
  clear hgd hro h0 h1 h2 hn0 hn1 hn2
  go_enter Try.func19, Try.ntmps19
  go_wp2_with fail
  refine HFi.out.mono ?_
  rintro e w2 ⟨rfl, f2⟩
  have F2 := Lib.hid (FAq.out.then_ f2 (fun _ h => h.elim))
  have HB2 := Lib.hid (f2.blk HBq.out (fun h => h))
  clear f2 q0 q1 q2 q3
  go_upto_if 8 with fail
  go_cut [] from 6 (fun w' => ∃ er' rs' la' lt' b0 d0 b1 d1 b2 d2, w'.heap[w.heap.size]? = some (.cells #[.int .i64 er', .slice b0 rs'.length d0, .slice b1 la'.length d1, .slice b2 lt'.length d2] 47 (0, 0)) ∧ Row w b0 (rs'.flatMap iCells) ∧ Row w b1 (la'.flatMap Acc.cells) ∧ Row w b2 (lt'.flatMap Tx.cells) ∧ RFit er' rs' la' lt' ∧ repBytes er' rs' la' lt' = ro ∧ Fr (fun _ => False) w w')
  case first =>
    cases gd
    · go_wp2_with ((refine wpList_store_row rfl 47 (.tmp 1) (.tmp 9) rfl w.heap.size #[.int .i64 3, .slice none 0 0, .slice none 0 0, .slice none 0 0] rfl rfl HB2.out rfl rfl (by simp [Value.oneCell']) ?_); intro w9 hb9 f9; have HB9 := Lib.hid hb9; have F9 := Lib.hid f9; clear hb9 f9)
      go_meet
      exact ⟨3, [], [], [], none, 0, none, 0, none, 0, HB9.out, row_nil, row_nil, row_nil, rfit_err, HRo.out, F2.out.then_ F9.out (fun k hk => .inr (Nat.le_of_eq hk.symm))⟩
    · go_wp2_with fail
      go_meet
      exact ⟨er, rs, la, lt, a0, c0, a1, c1, a2, c2, by rw [HN0.out, HN1.out, HN2.out]; exact HB2.out, H0.out, H1.out, H2.out, rfit_of HGd.out, HRo.out, F2.out⟩
  case rest =>
  clear H0 H1 H2 HN0 HN1 HN2 HBq HB2 F2 HRo HGd HFi
  obtain ⟨er', rs', la', lt', b0, d0, b1, d1, b2, d2, hb, h0, h1, h2, hfit, hro, hf⟩ := hcut
  obtain ⟨m0, hm0⟩ : ∃ n, rs'.length = n := ⟨_, rfl⟩
  obtain ⟨m1, hm1⟩ : ∃ n, la'.length = n := ⟨_, rfl⟩
  obtain ⟨m2, hm2⟩ : ∃ n, lt'.length = n := ⟨_, rfl⟩
  rw [hm0, hm1, hm2] at hb
  have hl0 : m0 ≤ 16 := hm0 ▸ hfit.n0
  have hl1 : m1 ≤ 16 := hm1 ▸ hfit.n1
  have hl2 : m2 ≤ 16 := hm2 ▸ hfit.n2
  have HB1 := Lib.hid hb
  have F1 := Lib.hid hf
  have H0 := Lib.hid h0
  have H1 := Lib.hid h1
  have H2 := Lib.hid h2
  have HM0 := Lib.hid hm0
  have HM1 := Lib.hid hm1
  have HM2 := Lib.hid hm2
  have HFt := Lib.hid hfit
  have HRo := Lib.hid (show bytesOf er' 1 ++ (bytesOf m0 1 ++ rs'.flatMap iBytes) ++ (bytesOf m1 1 ++ la'.flatMap Acc.bytes) ++ (bytesOf m2 1 ++ lt'.flatMap Tx.bytes) = ro from by rw [← hro, repBytes, hm0, hm1, hm2])
  clear hb hf h0 h1 h2 hm0 hm1 hm2 hfit hro
  have HW1 := Lib.hid (wr_new w wc F1.out w.heap.size (blk_lt HB1.out))
  have HB2 := Lib.hid (blk_alloc HB1.out (.cells #[.slice none 0 0] 67))
  go_upto_region 4 with fail
  have qc := blk_cell HB2.out 0 rfl
  go_region_held3 (fun w' => w'.cell? ⟨w.heap.size, 0, none⟩ = some (Value.int .i64 er'))
    (first | exact qc | go_keep)
    (first
      | (go_at_call 26; go_must (refine (Wr.call (l2 := bytesOf er' 1) (HW1.out.keep (by repeat (first | (with_reducible exact Fr.refl _ _) | (with_reducible refine Fr.drew ?_) | (with_reducible refine Fr.drewN ?_ _) | (with_reducible refine Fr.alloc ?_ _) | (with_reducible refine Fr.set1 ?_ _) | (with_reducible refine Fr.setNew ?_ (by omega) _)))) (fun S hw => by have h := wInt_any _ S _ [] 1 er' hw (by simp); rwa [show clamp 1 = 1 from rfl, List.nil_append] at h)).mono ?_); rintro e w3 ⟨rfl, h2, k2⟩; have H3 := Lib.hid h2; have HB3 := Lib.hid ((k2 _ rfl).trans (blk_drew HB2.out)); have qc := blk_cell HB3.out 0 rfl; clear h2 k2))
  obtain ⟨gw, hgw⟩ : ∃ gw, wc.heap.size = gw := ⟨_, rfl⟩
  rw [hgw] at H3 ⊢
  clear hgw qc
  go_upto_region 5 with fail
  have qc := blk_cell HB3.out 1 rfl
  go_region_held3 (fun w' => w'.cell? ⟨w.heap.size, 1, none⟩ = some (Value.slice b0 m0 d0))
    (first | exact qc | go_keep)
    (first
      | (go_at_call 26; go_must (refine (Wr.call (l2 := bytesOf er' 1 ++ bytesOf m0 1) (H3.out.keep (by repeat (first | (with_reducible exact Fr.refl _ _) | (with_reducible refine Fr.drew ?_) | (with_reducible refine Fr.drewN ?_ _) | (with_reducible refine Fr.alloc ?_ _) | (with_reducible refine Fr.set1 ?_ _) | (with_reducible refine Fr.setNew ?_ (by omega) _)))) (fun S hw => by have h := wInt_any _ S _ (bytesOf er' 1) 1 m0 hw (by rw [blen]; omega); rwa [show clamp 1 = 1 from rfl] at h)).mono ?_); rintro e w3 ⟨rfl, h2, k2⟩; have H4 := Lib.hid h2; have HB4 := Lib.hid ((k2 _ rfl).trans (blk_drew HB3.out)); have qc := blk_cell HB4.out 1 rfl; clear h2 k2))
  clear qc
  have q1 := blk_cell HB4.out 1 rfl
  go_wp2_with fail
  go_loopw [28] (fun i wr => ∃ k : Nat, k ≤ m0 ∧ i = .int .i64 k ∧ Wr w (fun _ => False) (fun k => k = w.heap.size) wr gw (bytesOf er' 1 ++ bytesOf m0 1 ++ (rs'.take k).flatMap iBytes) ∧ wr.heap[w.heap.size]? = some (.cells #[.int .i64 er', .slice b0 m0 d0, .slice b1 m1 d1, .slice b2 m2 d2] 47 (0, 0))) (fun i _ => ((m0 : Int) - intOf i).toNat)
  case atStart => exact ⟨0, Nat.zero_le _, rfl, by simpa using H4.out, HB4.out⟩
  case round =>
    obtain ⟨k, hk, rfl, hw, hbk⟩ := hrel
    have HW := Lib.hid hw
    have HBk := Lib.hid hbk
    by_cases hlt : k < m0
    · have hltI : (k : Int) < m0 := by omega
      have hkl : k < rs'.length := by rw [HM0.out]; exact hlt
      obtain ⟨b, off, rfl, HRg⟩ := rowI (H0.out.fr hw.fr (fun _ _ h => h)) hkl
      obtain ⟨x, hx⟩ : ∃ x, rs'[k] = x := ⟨_, rfl⟩
      rw [hx] at HRg
      have p0 : wr.cell? ⟨b, off + k, none⟩ = some (.int .i64 x) := by have h := HRg 0 _ rfl; simpa using h
      have HX := Lib.hid (take_flat (f := iBytes) hkl hx)
      have hlen := flat_take_len (f := iBytes) (sz := 1) iBytes_len rs' k (by omega)
      have HL := Lib.hid (show (bytesOf er' 1 ++ bytesOf m0 1 ++ (rs'.take k).flatMap iBytes).length + 1000 ≤ 140737488355328 from by rw [List.length_append, List.length_append, blen, blen, hlen]; omega)
      have HP := Lib.hid (Wr.call HW.out (fun S hw => by have h := wInt_any wr S gw _ 1 x hw (by have := HL.out; omega); rwa [show clamp 1 = 1 from rfl] at h))
      have w1 : IntKind.i64.wrap ((k : Int) + 1) = k + 1 := IntWalk.i64_in _ (by omega)
      clear hw hbk hx hlen HRg
      go_wp2_with (go_at_call 26; go_must (with_reducible refine HP.out.mono ?_); rintro e w5 ⟨rfl, h5, k5⟩; have H5 := Lib.hid h5; have HB5 := Lib.hid ((k5 _ rfl).trans HBk.out); clear h5 k5)
      go_roundw
      case rel => exact ⟨k + 1, by omega, by go_num, by rw [HX.out, ← List.append_assoc]; exact H5.out, HB5.out⟩
      case measure => simp [intOf]; omega
    · have hltI : ¬ (k : Int) < m0 := by omega
      have e : rs'.take k = rs' := List.take_of_length_le (by have := HM0.out; omega)
      rw [e] at HW
      have hlen := flat_take_len (f := iBytes) (sz := 1) iBytes_len rs' rs'.length (Nat.le_refl _)
      rw [List.take_length] at hlen
      have hl5 : (bytesOf er' 1 ++ bytesOf m0 1 ++ rs'.flatMap iBytes).length ≤ 1000 := by rw [List.length_append, List.length_append, blen, blen, hlen]; have := HM0.out; omega
      have HP1 := Lib.hid (wAccs_any w wr (fun _ => False) (fun k => k = w.heap.size) gw _ b1 m1 d1 la' HW.out (by omega) HM1.out (by omega) H1.out (fun _ _ h => h) HFt.out.la)
      have HP2 := Lib.hid (fun W L h hL => wTxs_any w W (fun _ => False) (fun k => k = w.heap.size) gw L b2 m2 d2 lt' h hL HM2.out (by omega) H2.out (fun _ _ h => h) HFt.out.lt)
      have q2 := blk_cell HBk.out 2 rfl
      have HL5 := Lib.hid hl5
      clear hw hbk e hlen hl5
      go_wp2_with fail
      refine HP1.out.mono ?_
      rintro e w6 ⟨rfl, h6, k6⟩
      have H6 := Lib.hid h6
      have HB6 := Lib.hid ((k6 _ rfl).trans HBk.out)
      have q3 := blk_cell HB6.out 3 rfl
      clear h6 k6
      go_wp2_with fail
      refine (HP2.out _ _ H6.out (by
        have hA := flat_take_len (f := Acc.bytes) (sz := 96) Acc.bytes_len la' la'.length (Nat.le_refl _)
        rw [List.take_length] at hA
        have h5 := HL5.out
        have h6 := HM1.out
        rw [List.length_append, List.length_append, blen, hA]
        omega)).mono ?_
      rintro e w7 ⟨rfl, ⟨S, hs, -, hf7, -⟩, -⟩
      have HS := Lib.hid hs
      have F7 := Lib.hid hf7
      clear hs hf7
      go_wp2_with fail
      refine (wString_any _ S gw _ HS.out).mono ?_
      rintro e w8 ⟨rfl, rfl⟩
      go_wp2_with fail
      go_ret
      refine ⟨?_, F7.out⟩
      rw [← HRo.out]
      simp only [List.append_assoc]
      rfl

set_option maxRecDepth 4000 in
set_option maxHeartbeats 6400000 in
theorem refReply_any (w : World) (er : Int) (a0 : Option Addr) (n0 c0 : Nat) (a1 : Option Addr) (n1 c1 : Nat) (a2 : Option Addr) (n2 c2 : Nat) (rs : List Int) (la : List Acc) (lt : List Tx) (hn0 : rs.length = n0) (hn1 : la.length = n1) (hn2 : lt.length = n2) (hb0 : n0 ≤ 140737488355328) (hb1 : n1 ≤ 140737488355328) (hb2 : n2 ≤ 140737488355328) (h0 : Row w a0 (rs.flatMap iCells)) (h1 : Row w a1 (la.flatMap Acc.cells)) (h2 : Row w a2 (lt.flatMap Tx.cells)) (ha : ∀ x ∈ la, x.ok) (ht : ∀ x ∈ lt, x.ok) :
    Calls Try.prog 17 #[.int .i64 er, .slice a0 n0 c0, .slice a1 n1 c1, .slice a2 n2 c2] w fun e w' => e = .returned (.string (strOfNums (repOut er rs la lt))) ∧ Fr (fun _ => False) w w' := by
  have HFi := Lib.hid (refFits_any w er a0 n0 c0 a1 n1 c1 a2 n2 c2 rs la lt hn0 hn1 hn2 hb0 hb1 hb2 h0 h1 h2)
  obtain ⟨gd, hgd⟩ : ∃ gd, rfits er rs la lt = gd := ⟨_, rfl⟩
  obtain ⟨ro, hro⟩ : ∃ ro, repOut er rs la lt = ro := ⟨_, rfl⟩
  have HRo := Lib.hid (show (if gd = true then repBytes er rs la lt else repBytes 3 [] [] []) = ro from by rw [← hro, repOut, hgd])
  have HGd := Lib.hid hgd
  rw [hgd] at HFi
  rw [hro]
  have H0 := Lib.hid h0
  have H1 := Lib.hid h1
  have H2 := Lib.hid h2
  have HN0 := Lib.hid hn0
  have HN1 := Lib.hid hn1
  have HN2 := Lib.hid hn2
  have HOa := Lib.hid ha
  have HOt := Lib.hid ht
  clear hgd hro h0 h1 h2 hn0 hn1 hn2 ha ht
  cases gd
  · go_enter Try.func17, Try.ntmps17
    go_wp2_with fail
    refine HFi.out.mono ?_
    rintro e w2 ⟨rfl, f2⟩
    have F2 := Lib.hid f2
    clear f2
    go_wp2_with fail
    go_ret
    exact ⟨by rw [← HRo.out]; rfl, F2.out⟩
  · have hfit := rfit_of HGd.out
    have hl0 : n0 ≤ 16 := HN0.out ▸ hfit.n0
    have hl1 : n1 ≤ 16 := HN1.out ▸ hfit.n1
    have hl2 : n2 ≤ 16 := HN2.out ▸ hfit.n2
    have HRi := Lib.hid (show bytesOf er 1 ++ (bytesOf n0 1 ++ rs.flatMap iBytes) ++ (bytesOf n1 1 ++ la.flatMap Acc.bytes) ++ (bytesOf n2 1 ++ lt.flatMap Tx.bytes) = ro from by
      have h := HRo.out
      rw [if_pos rfl, repBytes, HN0.out, HN1.out, HN2.out] at h
      exact h)
    have HI0 := Lib.hid (fun W => by have h := refInt_any W 1 er; rwa [show clampN 1 = 1 from rfl] at h)
    have HI1 := Lib.hid (fun W => by have h := refInt_any W 1 (n0 : Int); rwa [show clampN 1 = 1 from rfl] at h)
    have s1 : (strOfNums (bytesOf er 1)).size = 1 := by rw [strOfNums_size, blen]
    have s2 : (strOfNums (bytesOf (n0 : Int) 1)).size = 1 := by rw [strOfNums_size, blen]
    have hap := strOf_append (bytesOf er 1) (bytesOf (n0 : Int) 1)
    have HPl := Lib.hid (show (bytesOf er 1 ++ bytesOf (n0 : Int) 1).length ≤ 2 from by rw [List.length_append, blen, blen]; omega)
    clear hfit
    go_enter Try.func17, Try.ntmps17
    go_wp2_with fail
    refine HFi.out.mono ?_
    rintro e w2 ⟨rfl, f2⟩
    have F2 := Lib.hid f2
    clear f2
    go_wp2_with fail
    refine (HI0.out _).mono ?_
    rintro e w3 ⟨rfl, f3⟩
    have F2 := Lib.hid (F2.out.then_ f3 (fun _ h => h.elim))
    clear f3
    go_wp2_with fail
    refine (HI1.out _).mono ?_
    rintro e w3 ⟨rfl, f3⟩
    have F2 := Lib.hid (F2.out.then_ f3 (fun _ h => h.elim))
    clear f3
    go_wp2_with fail
    clear s1 s2 hap
    go_loopw [30, 9] (fun i s wr => ∃ k : Nat, k ≤ n0 ∧ i = .int .i64 k ∧ s = .string (strOfNums (bytesOf er 1 ++ bytesOf n0 1 ++ (rs.take k).flatMap iBytes)) ∧ Fr (fun _ => False) w wr) (fun i _ _ => ((n0 : Int) - intOf i).toNat)
    case atStart => exact ⟨0, Nat.zero_le _, rfl, by simp, F2.out⟩
    case round =>
      obtain ⟨k, hk, rfl, rfl, hf⟩ := hrel
      have HF := Lib.hid hf
      by_cases hlt : k < n0
      · have hltI : (k : Int) < n0 := by omega
        have hkl : k < rs.length := by rw [HN0.out]; exact hlt
        obtain ⟨b, off, rfl, HRg⟩ := rowI (H0.out.fr hf (fun _ _ h => h)) hkl
        have hbl : b < wr.heap.size := World.block_lt_of_cell? _ _ (HRg 0 _ rfl)
        obtain ⟨x, hx⟩ : ∃ x, rs[k] = x := ⟨_, rfl⟩
        rw [hx] at HRg
        have HX := Lib.hid (take_flat (f := iBytes) hkl hx)
        have p0 : wr.cell? ⟨b, off + k, none⟩ = some (.int .i64 x) := by have h := HRg 0 _ rfl; simpa using h
        have HG := Lib.hid (by have h := refInt_any wr 1 x; rwa [show clampN 1 = 1 from rfl, show bytesOf x 1 = iBytes x from rfl] at h)
        clear HRg
        have hlen := flat_take_len (f := iBytes) (sz := 1) iBytes_len rs k (by omega)
        obtain ⟨L, hL⟩ : ∃ L, bytesOf er 1 ++ bytesOf n0 1 ++ (rs.take k).flatMap iBytes = L := ⟨_, rfl⟩
        have HLe := Lib.hid hL
        have hLl : L.length ≤ 200000 := by rw [← hL, List.length_append, hlen]; have := HPl.out; omega
        rw [hL]
        have s1 := strOfNums_size L
        have s2 : (strOfNums (iBytes x)).size = 1 := by rw [strOfNums_size, iBytes_len]
        have hap := strOf_append L (iBytes x)
        have w1 : IntKind.i64.wrap ((k : Int) + 1) = k + 1 := IntWalk.i64_in _ (by omega)
        clear hf hx hlen hL
        go_wp2_with (first
          | (go_at_call 46; go_must (with_reducible refine HG.out.mono ?_); rintro e w3 ⟨rfl, f3⟩; have F3 := Lib.hid f3; clear f3))
        go_roundw
        case rel => exact ⟨k + 1, by omega, by go_num, by rw [HX.out, ← List.append_assoc, HLe.out], HF.out.then_ F3.out (fun _ h => h.elim)⟩
        case measure => simp [intOf]; omega
      · have hltI : ¬ (k : Int) < n0 := by omega
        have e : rs.take k = rs := List.take_of_length_le (by have := HN0.out; omega)
        rw [e]
        have hlen := flat_take_len (f := iBytes) (sz := 1) iBytes_len rs rs.length (Nat.le_refl _)
        rw [List.take_length] at hlen
        have HPl := Lib.hid (show (bytesOf er 1 ++ bytesOf n0 1 ++ rs.flatMap iBytes).length ≤ 18 from by rw [List.length_append, hlen]; have := HPl.out; have := HN0.out; omega)
        have F2 := Lib.hid HF.out
        clear hf e hlen
        have HI := Lib.hid (fun W => by have h := refInt_any W 1 (n1 : Int); rwa [show clampN 1 = 1 from rfl] at h)
        obtain ⟨L, hL⟩ : ∃ L, bytesOf er 1 ++ bytesOf n0 1 ++ rs.flatMap iBytes = L := ⟨_, rfl⟩
        have HLe := Lib.hid hL
        have hLl : L.length ≤ 200000 := by rw [← hL]; have := HPl.out; omega
        rw [hL]
        have s1 := strOfNums_size L
        have s2 : (strOfNums (bytesOf (n1 : Int) 1)).size = 1 := by rw [strOfNums_size, blen]
        have hap := strOf_append L (bytesOf (n1 : Int) 1)
        clear hL
        go_wp2_with (go_at_call 46; go_must (with_reducible refine (HI.out _).mono ?_); rintro e w3 ⟨rfl, f3⟩; have F2 := Lib.hid (F2.out.then_ f3 (fun _ h => h.elim)); clear f3)
        clear s1 s2 hap
        have HPl := Lib.hid (show (bytesOf er 1 ++ bytesOf n0 1 ++ rs.flatMap iBytes ++ bytesOf n1 1).length ≤ 19 from by rw [List.length_append, blen]; have := HPl.out; omega)
        have he : L ++ bytesOf (n1 : Int) 1 = bytesOf er 1 ++ bytesOf n0 1 ++ rs.flatMap iBytes ++ bytesOf n1 1 := by rw [HLe.out]
        rw [he]
        clear he
        go_loopw [46, 9] (fun i s wr => ∃ k : Nat, k ≤ n1 ∧ i = .int .i64 k ∧ s = .string (strOfNums (bytesOf er 1 ++ bytesOf n0 1 ++ rs.flatMap iBytes ++ bytesOf n1 1 ++ (la.take k).flatMap Acc.bytes)) ∧ Fr (fun _ => False) w wr) (fun i _ _ => ((n1 : Int) - intOf i).toNat)
        case atStart => exact ⟨0, Nat.zero_le _, rfl, by simp, F2.out⟩
        case round =>
          obtain ⟨k, hk, rfl, rfl, hf⟩ := hrel
          have HF := Lib.hid hf
          by_cases hlt : k < n1
          · have hltI : (k : Int) < n1 := by omega
            have hkl : k < la.length := by rw [HN1.out]; exact hlt
            obtain ⟨b, off, rfl, HRg⟩ := rowAcc (H1.out.fr hf (fun _ _ h => h)) hkl
            have hbl : b < wr.heap.size := World.block_lt_of_cell? _ _ (HRg 0 _ rfl)
            obtain ⟨x, hx⟩ : ∃ x, la[k] = x := ⟨_, rfl⟩
            rw [hx] at HRg
            have HX := Lib.hid (take_flat (f := Acc.bytes) hkl hx)
            have HRg := Lib.hid (show wr.rangeAt b (off + k * 14) (#[.int .u64 x.id.hi, .int .u64 x.id.lo, .int .u64 x.dp.hi, .int .u64 x.dp.lo, .int .u64 x.dq.hi, .int .u64 x.dq.lo, .int .u64 x.cp.hi, .int .u64 x.cp.lo, .int .u64 x.cq.hi, .int .u64 x.cq.lo, .int .i64 x.ledger, .int .i64 x.code, .int .i64 x.flags, .int .i64 x.stamp] : Array Value).toList from HRg)
            have HBk := Lib.hid (heap_alloc_new wr (.cells #[.int .u64 x.id.hi, .int .u64 x.id.lo, .int .u64 x.dp.hi, .int .u64 x.dp.lo, .int .u64 x.dq.hi, .int .u64 x.dq.lo, .int .u64 x.cp.hi, .int .u64 x.cp.lo, .int .u64 x.cq.hi, .int .u64 x.cq.lo, .int .i64 x.ledger, .int .i64 x.code, .int .i64 x.flags, .int .i64 x.stamp] 58))
            have FA := Lib.hid ((Fr.refl (fun _ => False) wr).alloc (.cells #[.int .u64 x.id.hi, .int .u64 x.id.lo, .int .u64 x.dp.hi, .int .u64 x.dp.lo, .int .u64 x.dq.hi, .int .u64 x.dq.lo, .int .u64 x.cp.hi, .int .u64 x.cp.lo, .int .u64 x.cq.hi, .int .u64 x.cq.lo, .int .i64 x.ledger, .int .i64 x.code, .int .i64 x.flags, .int .i64 x.stamp] 58))
            have HG := Lib.hid (refBytesOf_any (wr.alloc (.cells #[.int .u64 x.id.hi, .int .u64 x.id.lo, .int .u64 x.dp.hi, .int .u64 x.dp.lo, .int .u64 x.dq.hi, .int .u64 x.dq.lo, .int .u64 x.cp.hi, .int .u64 x.cp.lo, .int .u64 x.cq.hi, .int .u64 x.cq.lo, .int .i64 x.ledger, .int .i64 x.code, .int .i64 x.flags, .int .i64 x.stamp] 58)) x (HOa.out x (hx ▸ List.getElem_mem hkl)))
            rw [show x.val = .agg #[.int .u64 x.id.hi, .int .u64 x.id.lo, .int .u64 x.dp.hi, .int .u64 x.dp.lo, .int .u64 x.dq.hi, .int .u64 x.dq.lo, .int .u64 x.cp.hi, .int .u64 x.cp.lo, .int .u64 x.cq.hi, .int .u64 x.cq.lo, .int .i64 x.ledger, .int .i64 x.code, .int .i64 x.flags, .int .i64 x.stamp] from rfl] at HG
            have hlen := flat_take_len (f := Acc.bytes) (sz := 96) Acc.bytes_len la k (by omega)
            obtain ⟨L, hL⟩ : ∃ L, bytesOf er 1 ++ bytesOf n0 1 ++ rs.flatMap iBytes ++ bytesOf n1 1 ++ (la.take k).flatMap Acc.bytes = L := ⟨_, rfl⟩
            have HLe := Lib.hid hL
            have hLl : L.length ≤ 200000 := by rw [← hL, List.length_append, hlen]; have := HPl.out; omega
            rw [hL]
            have s1 := strOfNums_size L
            have s2 : (strOfNums (Acc.bytes x)).size = 96 := by rw [strOfNums_size, Acc.bytes_len]
            have hap := strOf_append L (Acc.bytes x)
            have w1 : IntKind.i64.wrap ((k : Int) + 1) = k + 1 := IntWalk.i64_in _ (by omega)
            clear hf hx hlen hL
            go_wp2_with (first
              | ((with_reducible refine wpList_load_mid_w ?lw 58 _ rfl b (off + k * 14) rfl #[.int .u64 x.id.hi, .int .u64 x.id.lo, .int .u64 x.dp.hi, .int .u64 x.dp.lo, .int .u64 x.dq.hi, .int .u64 x.dq.lo, .int .u64 x.cp.hi, .int .u64 x.cp.lo, .int .u64 x.cq.hi, .int .u64 x.cq.lo, .int .i64 x.ledger, .int .i64 x.code, .int .i64 x.flags, .int .i64 x.stamp] _ HRg.out Try.underlying58 rfl rfl ?_); (case lw => rfl))
              | ((with_reducible refine wpList_load_row_w ?lw 58 _ rfl wr.heap.size rfl 58 _ _ _ HBk.out Try.underlying58 rfl rfl ?_); (case lw => rfl))
              | (go_at_call 47; go_must (with_reducible refine HG.out.mono ?_); rintro e w3 ⟨rfl, f3⟩; have F3 := Lib.hid f3; clear f3))
            go_roundw
            case rel => first | exact ⟨k + 1, by omega, by go_num, by rw [HX.out, ← List.append_assoc, HLe.out], (HF.out.then_ FA.out (fun _ h => h.elim)).then_ F3.out (fun _ h => h.elim)⟩ | ((repeat apply Exists.intro); refine (fun a b => ⟨b, a⟩ : ∀ {P Q : Prop}, P → Q → Q ∧ P) ?_ ?_; (first | rfl | exact ⟨rfl, rfl⟩ | exact ⟨rfl, rfl, rfl⟩); exact ⟨k + 1, by omega, by go_num, by rw [HX.out, ← List.append_assoc, HLe.out], (HF.out.then_ FA.out (fun _ h => h.elim)).then_ F3.out (fun _ h => h.elim)⟩)
            case measure => simp [intOf]; omega
          · have hltI : ¬ (k : Int) < n1 := by omega
            have e : la.take k = la := List.take_of_length_le (by have := HN1.out; omega)
            rw [e]
            have hlen := flat_take_len (f := Acc.bytes) (sz := 96) Acc.bytes_len la la.length (Nat.le_refl _)
            rw [List.take_length] at hlen
            have HPl := Lib.hid (show (bytesOf er 1 ++ bytesOf n0 1 ++ rs.flatMap iBytes ++ bytesOf n1 1 ++ la.flatMap Acc.bytes).length ≤ 2000 from by rw [List.length_append, hlen]; have := HPl.out; have := HN1.out; omega)
            have F2 := Lib.hid HF.out
            clear hf e hlen
            have HI := Lib.hid (fun W => by have h := refInt_any W 1 (n2 : Int); rwa [show clampN 1 = 1 from rfl] at h)
            obtain ⟨L, hL⟩ : ∃ L, bytesOf er 1 ++ bytesOf n0 1 ++ rs.flatMap iBytes ++ bytesOf n1 1 ++ la.flatMap Acc.bytes = L := ⟨_, rfl⟩
            have HLe := Lib.hid hL
            have hLl : L.length ≤ 200000 := by rw [← hL]; have := HPl.out; omega
            rw [hL]
            have s1 := strOfNums_size L
            have s2 : (strOfNums (bytesOf (n2 : Int) 1)).size = 1 := by rw [strOfNums_size, blen]
            have hap := strOf_append L (bytesOf (n2 : Int) 1)
            clear hL
            go_wp2_with (go_at_call 46; go_must (with_reducible refine (HI.out _).mono ?_); rintro e w3 ⟨rfl, f3⟩; have F2 := Lib.hid (F2.out.then_ f3 (fun _ h => h.elim)); clear f3)
            clear s1 s2 hap
            have HPl := Lib.hid (show (bytesOf er 1 ++ bytesOf n0 1 ++ rs.flatMap iBytes ++ bytesOf n1 1 ++ la.flatMap Acc.bytes ++ bytesOf n2 1).length ≤ 2001 from by rw [List.length_append, blen]; have := HPl.out; omega)
            have he : L ++ bytesOf (n2 : Int) 1 = bytesOf er 1 ++ bytesOf n0 1 ++ rs.flatMap iBytes ++ bytesOf n1 1 ++ la.flatMap Acc.bytes ++ bytesOf n2 1 := by rw [HLe.out]
            rw [he]
            clear he
            (try simp only [List.append_assoc])
            go_loopw [62, 9] (fun i s wr => ∃ k : Nat, k ≤ n2 ∧ i = .int .i64 k ∧ s = .string (strOfNums (bytesOf er 1 ++ bytesOf n0 1 ++ rs.flatMap iBytes ++ bytesOf n1 1 ++ la.flatMap Acc.bytes ++ bytesOf n2 1 ++ (lt.take k).flatMap Tx.bytes)) ∧ Fr (fun _ => False) w wr) (fun i _ _ => ((n2 : Int) - intOf i).toNat)
            case atStart => exact ⟨0, Nat.zero_le _, rfl, by simp, F2.out⟩
            case round =>
              obtain ⟨k, hk, rfl, rfl, hf⟩ := hrel
              have HF := Lib.hid hf
              by_cases hlt : k < n2
              · have hltI : (k : Int) < n2 := by omega
                have hkl : k < lt.length := by rw [HN2.out]; exact hlt
                obtain ⟨b, off, rfl, HRg⟩ := rowTx (H2.out.fr hf (fun _ _ h => h)) hkl
                have hbl : b < wr.heap.size := World.block_lt_of_cell? _ _ (HRg 0 _ rfl)
                obtain ⟨x, hx⟩ : ∃ x, lt[k] = x := ⟨_, rfl⟩
                rw [hx] at HRg
                have HX := Lib.hid (take_flat (f := Tx.bytes) hkl hx)
                have HRg := Lib.hid (show wr.rangeAt b (off + k * 16) (#[.int .u64 x.id.hi, .int .u64 x.id.lo, .int .u64 x.debit.hi, .int .u64 x.debit.lo, .int .u64 x.credit.hi, .int .u64 x.credit.lo, .int .u64 x.amount.hi, .int .u64 x.amount.lo, .int .u64 x.pending.hi, .int .u64 x.pending.lo, .int .i64 x.timeout, .int .i64 x.ledger, .int .i64 x.code, .int .i64 x.flags, .int .i64 x.stamp, .int .i64 x.born] : Array Value).toList from HRg)
                have HBk := Lib.hid (heap_alloc_new wr (.cells #[.int .u64 x.id.hi, .int .u64 x.id.lo, .int .u64 x.debit.hi, .int .u64 x.debit.lo, .int .u64 x.credit.hi, .int .u64 x.credit.lo, .int .u64 x.amount.hi, .int .u64 x.amount.lo, .int .u64 x.pending.hi, .int .u64 x.pending.lo, .int .i64 x.timeout, .int .i64 x.ledger, .int .i64 x.code, .int .i64 x.flags, .int .i64 x.stamp, .int .i64 x.born] 61))
                have FA := Lib.hid ((Fr.refl (fun _ => False) wr).alloc (.cells #[.int .u64 x.id.hi, .int .u64 x.id.lo, .int .u64 x.debit.hi, .int .u64 x.debit.lo, .int .u64 x.credit.hi, .int .u64 x.credit.lo, .int .u64 x.amount.hi, .int .u64 x.amount.lo, .int .u64 x.pending.hi, .int .u64 x.pending.lo, .int .i64 x.timeout, .int .i64 x.ledger, .int .i64 x.code, .int .i64 x.flags, .int .i64 x.stamp, .int .i64 x.born] 61))
                have HG := Lib.hid (xrefBytesOf_any (wr.alloc (.cells #[.int .u64 x.id.hi, .int .u64 x.id.lo, .int .u64 x.debit.hi, .int .u64 x.debit.lo, .int .u64 x.credit.hi, .int .u64 x.credit.lo, .int .u64 x.amount.hi, .int .u64 x.amount.lo, .int .u64 x.pending.hi, .int .u64 x.pending.lo, .int .i64 x.timeout, .int .i64 x.ledger, .int .i64 x.code, .int .i64 x.flags, .int .i64 x.stamp, .int .i64 x.born] 61)) x (HOt.out x (hx ▸ List.getElem_mem hkl)))
                rw [show x.val = .agg #[.int .u64 x.id.hi, .int .u64 x.id.lo, .int .u64 x.debit.hi, .int .u64 x.debit.lo, .int .u64 x.credit.hi, .int .u64 x.credit.lo, .int .u64 x.amount.hi, .int .u64 x.amount.lo, .int .u64 x.pending.hi, .int .u64 x.pending.lo, .int .i64 x.timeout, .int .i64 x.ledger, .int .i64 x.code, .int .i64 x.flags, .int .i64 x.stamp, .int .i64 x.born] from rfl] at HG
                have hlen := flat_take_len (f := Tx.bytes) (sz := 108) Tx.bytes_len lt k (by omega)
                obtain ⟨L, hL⟩ : ∃ L, bytesOf er 1 ++ bytesOf n0 1 ++ rs.flatMap iBytes ++ bytesOf n1 1 ++ la.flatMap Acc.bytes ++ bytesOf n2 1 ++ (lt.take k).flatMap Tx.bytes = L := ⟨_, rfl⟩
                have HLe := Lib.hid hL
                have hLl : L.length ≤ 200000 := by rw [← hL, List.length_append, hlen]; have := HPl.out; omega
                rw [hL]
                have s1 := strOfNums_size L
                have s2 : (strOfNums (Tx.bytes x)).size = 108 := by rw [strOfNums_size, Tx.bytes_len]
                have hap := strOf_append L (Tx.bytes x)
                have w1 : IntKind.i64.wrap ((k : Int) + 1) = k + 1 := IntWalk.i64_in _ (by omega)
                clear hf hx hlen hL
                go_wp2_with (first
                  | ((with_reducible refine wpList_load_mid_w ?lw 61 _ rfl b (off + k * 16) rfl #[.int .u64 x.id.hi, .int .u64 x.id.lo, .int .u64 x.debit.hi, .int .u64 x.debit.lo, .int .u64 x.credit.hi, .int .u64 x.credit.lo, .int .u64 x.amount.hi, .int .u64 x.amount.lo, .int .u64 x.pending.hi, .int .u64 x.pending.lo, .int .i64 x.timeout, .int .i64 x.ledger, .int .i64 x.code, .int .i64 x.flags, .int .i64 x.stamp, .int .i64 x.born] _ HRg.out Try.underlying61 rfl rfl ?_); (case lw => rfl))
                  | ((with_reducible refine wpList_load_row_w ?lw 61 _ rfl wr.heap.size rfl 61 _ _ _ HBk.out Try.underlying61 rfl rfl ?_); (case lw => rfl))
                  | (go_at_call 48; go_must (with_reducible refine HG.out.mono ?_); rintro e w3 ⟨rfl, f3⟩; have F3 := Lib.hid f3; clear f3))
                go_roundw
                case rel => first | exact ⟨k + 1, by omega, by go_num, by rw [HX.out, ← List.append_assoc, HLe.out], (HF.out.then_ FA.out (fun _ h => h.elim)).then_ F3.out (fun _ h => h.elim)⟩ | ((repeat apply Exists.intro); refine (fun a b => ⟨b, a⟩ : ∀ {P Q : Prop}, P → Q → Q ∧ P) ?_ ?_; (first | rfl | exact ⟨rfl, rfl⟩ | exact ⟨rfl, rfl, rfl⟩); exact ⟨k + 1, by omega, by go_num, by rw [HX.out, ← List.append_assoc, HLe.out], (HF.out.then_ FA.out (fun _ h => h.elim)).then_ F3.out (fun _ h => h.elim)⟩)
                case measure => simp [intOf]; omega
              · have hltI : ¬ (k : Int) < n2 := by omega
                have e : lt.take k = lt := List.take_of_length_le (by have := HN2.out; omega)
                rw [e]
                have hlen := flat_take_len (f := Tx.bytes) (sz := 108) Tx.bytes_len lt lt.length (Nat.le_refl _)
                rw [List.take_length] at hlen
                have HPl := Lib.hid (show (bytesOf er 1 ++ bytesOf n0 1 ++ rs.flatMap iBytes ++ bytesOf n1 1 ++ la.flatMap Acc.bytes ++ bytesOf n2 1 ++ lt.flatMap Tx.bytes).length ≤ 5000 from by rw [List.length_append, hlen]; have := HPl.out; have := HN2.out; omega)
                have F2 := Lib.hid HF.out
                clear hf e hlen
                go_wp2_with fail
                go_ret
                refine ⟨?_, F2.out⟩
                rw [← HRi.out]
                simp only [List.append_assoc]
                rfl
end Go.Proofs.Ytfmcimngogibkaa
