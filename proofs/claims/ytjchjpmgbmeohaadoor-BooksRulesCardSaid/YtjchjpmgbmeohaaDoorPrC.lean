/- Package probe: find. -/
import Derived.Test.YtjchjpmgbmeohaaDoorPrB
set_option linter.unusedSimpArgs false
set_option linter.unusedVariables false
namespace Go.Proofs.YtjchjpmgbmeohaaDoor
open Go.RowKit

def pcs (cs : List PC) : List Value := cs.flatMap PC.cells
theorem pcs_len (cs : List PC) : (pcs cs).length = cs.length * 4 := flat_len (f := PC.cells) (n := 4) (fun _ => rfl) cs
theorem pcs_get (cs : List PC) {i : Nat} (hi : i < cs.length) (j : Nat) (hj : j < 4) : (pcs cs)[i * 4 + j]? = (PC.cells cs[i])[j]? := flat_get (f := PC.cells) (n := 4) (fun _ => rfl) cs i hi j hj
/-- A table. -/
def IsP (w : World) (S : Nat → Prop) (T : Nat) (cs : List PC) (u l : Int) : Prop := Rw w S T 135 141 4 [.int .i64 u, .int .i64 l] cs.length (pcs cs)
theorem IsP.fr {w w' : World} {S S2 : Nat → Prop} {T : Nat} {cs : List PC} {u l : Int} (h : IsP w S T cs u l) (hf : Fr S2 w w') (hd : ∀ k, S k → ¬ S2 k) : IsP w' S T cs u l := Rw.fr h hf hd
theorem own_pc {w : World} {g n cap : Nat} {cs : List PC} (h : w.ownsRow 0 141 4 (.slice (some ⟨g, 0, none⟩) n cap) n (pcs cs)) (hn : cs.length = n) {i : Nat} (hi : i < cs.length) (j : Nat) (hj : j < 4) {v : Value} (hv : (PC.cells cs[i])[j]? = some v) :
    w.cell? ⟨g, i * 4 + j, none⟩ = some v := by
  rw [h.cellAt (i * 4 + j) (by omega), pcs_get cs hi j hj, hv]
theorem mod_gen (m : Int) {n : Nat} (h : 0 < n) : (((m % n).toNat : Nat) : Int) = m % n := by
  have := Int.emod_nonneg m (show (n : Int) ≠ 0 by omega)
  omega
theorem home_int {n : Nat} (h : 0 < n) (x : Nm) : ((home n x : Nat) : Int) = mix x % n := mod_gen (mix x) h
theorem slot_val {n H j : Nat} (hH : H < n) (hj : j < n) : (H + j) % n = if H + j < n then H + j else H + j - n := by
  split
  · rename_i h; exact Nat.mod_eq_of_lt h
  · rename_i h
    rw [Nat.mod_eq_sub_mod (by omega), Nat.mod_eq_of_lt (by omega)]
def gap (F n k : Nat) : Nat := if k ≤ F then F - k else F + n - k
theorem gap_at {n H fd j : Nat} (hH : H < n) (hf : fd < n) (hj : j ≤ fd) : gap ((H + fd) % n) n ((H + j) % n) = fd - j := by
  rw [slot_val hH hf, slot_val hH (by omega), gap]
  split <;> split <;> split <;> omega
def putI : Option Nat → Int
  | none => -1
  | some p => p

def FindPost (cs : List PC) (x : Nm) (w : World) (e : Ending) (w' : World) : Prop := ∃ (p : Nat) (b : Bool), e = .returned (.tuple #[.int .i64 p, .bool b]) ∧ Fnd home cs x p b ∧ Fr (fun _ => False) w w'
set_option maxRecDepth 4000 in
set_option maxHeartbeats 6400000 in
theorem find_any (w : World) (T : Nat) (S : Nat → Prop) (cs : List PC) (u l : Int) (x : Nm) (h : IsP w S T cs u l) (hi : PInv home cs) (hfree : ∃ p, p < cs.length ∧ knd cs p = 0) :
    Calls Tryd.prog 95 #[.pointer (some ⟨T, 0, none⟩), .agg #[.int .u64 x.hi, .int .u64 x.lo]] w (FindPost cs x w) := by
  obtain ⟨e2, hpw, he3, he30⟩ := hi.pow
  obtain ⟨hn8, hn30⟩ := hi.len
  obtain ⟨fp, hfp, hfk⟩ := hfree
  have hhl : home cs.length x < cs.length := home_lt (by omega) x
  obtain ⟨fd, hfd, hfs⟩ := free_at hfp hhl
  have HFk := Lib.hid (show knd cs ((home cs.length x + fd) % cs.length) = 0 from by rw [hfs]; exact hfk)
  have HI := Lib.hid hi
  obtain ⟨v, hb, ho, -, -, -⟩ := h
  obtain ⟨g, cap, rfl⟩ := own_some ho (by omega)
  have HB := Lib.hid hb
  have HO := Lib.hid ho
  have c0 := blk_cell hb 0 rfl
  obtain ⟨n, hnn⟩ : ∃ n, cs.length = n := ⟨_, rfl⟩
  have HN := Lib.hid hnn
  have hmx := mix_in x
  have hmask := and_mask (x := mix x) (hnn.symm.trans hpw) (by omega) hmx.1 hmx.2
  have hH0 : ((home n x : Nat) : Int) = mix x % n := home_int (by omega) x
  rw [← hH0] at hmask
  rw [hnn] at c0 hn8 hn30 hfd hhl
  have wm : IntKind.u64.wrap ((n : Int) - 1) = n - 1 := by rw [IntKind.wrap_u64]; omega
  have HMa := Lib.hid (fun (i : Nat) (hi : i < n) => show bits .and .u64 ((i : Int) + 1) ((n : Int) - 1) = (((i + 1) % n : Nat) : Int) from by
    have h := and_mask (x := (i : Int) + 1) (hnn.symm.trans hpw) (by omega) (by omega) (by omega)
    rw [h, Int.natCast_emod, Int.natCast_add]
    rfl)
  have HSp := Lib.hid (fun W => spread_any W x)
  have Bx := Lib.hid (heap_alloc_new w (.cells #[.int .u64 x.hi, .int .u64 x.lo] 24))
  have FA := Lib.hid ((Fr.refl (fun _ => False) w).alloc (.cells #[.int .u64 x.hi, .int .u64 x.lo] 24))
  have HBl := Lib.hid (blk_lt hb)
  have c0' := blk_cell (blk_alloc hb (.cells #[.int .u64 x.hi, .int .u64 x.lo] 24)) 0 rfl
  rw [hnn] at c0'
  obtain ⟨H0, hH⟩ : ∃ H0, home n x = H0 := ⟨_, rfl⟩
  have HH := Lib.hid hH
  rw [hH] at hmask hhl
  clear hi hpw he3 he30 hfp hfk hfs hb ho hnn hH0 hH c0
  go_enter Tryd.func95, Tryd.ntmps95
  go_wp2_with fail
  refine (HSp.out _).mono ?_
  rintro e w1 ⟨rfl, f1⟩
  have F1 := Lib.hid (FA.out.then_ f1 (fun _ h => h.elim))
  have Bx1 := Lib.hid (f1.blk Bx.out (fun h => h))
  clear f1 c0'
  go_wp2_with fail
  have HIx := Lib.hid HI.out
  go_loopw [7, 8] (fun pv iv wr => ∃ (j i : Nat) (put : Option Nat), j ≤ fd ∧ iv = .int .u64 i ∧ (H0 + j) % n = i ∧ pv = .int .i64 (putI put) ∧ Way home cs x j put ∧ Fr (fun _ => False) w wr ∧ wr.heap[w.heap.size]? = some (.cells #[.int .u64 x.hi, .int .u64 x.lo] 24 (0, 0))) (fun _ iv wr => gap ((H0 + fd) % n) n (intOf iv).toNat)
  case atStart => exact ⟨0, H0, none, Nat.zero_le _, rfl, by rw [Nat.add_zero, Nat.mod_eq_of_lt hhl], rfl, way_zero, F1.out, Bx1.out⟩
  case round =>
    obtain ⟨j, i, put, hj, rfl, hie, rfl, hway, hf, hbx⟩ := hrel
    have HWay := Lib.hid hway
    have HF := Lib.hid hf
    have HBx := Lib.hid hbx
    have hb1 := hf.blk HB.out (fun h => h)
    have c0 := blk_cell hb1 0 rfl
    rw [HN.out] at c0
    have ho1 := own_fr HO.out hf (fun _ _ h => h)
    rw [HN.out] at ho1
    have hjn : j < n := by omega
    have hin : i < n := by rw [← hie]; exact Nat.mod_lt _ (by omega)
    have hil : i < cs.length := by rw [HN.out]; exact hin
    have HIe := Lib.hid hie
    obtain ⟨c, hce⟩ : ∃ c, cs[i] = c := ⟨_, rfl⟩
    have hget : cs[i]? = some c := by rw [List.getElem?_eq_getElem hil, hce]
    have HGt := Lib.hid (show cs[(home cs.length x + j) % cs.length]? = some c from by rw [HN.out, HH.out, hie]; exact hget)
    have hmem : c ∈ cs := hce ▸ List.getElem_mem hil
    have hkk := HI.out.kinds c hmem
    have HGap := Lib.hid (fun (k : Nat) (hk : k ≤ fd) => gap_at (n := n) (H := H0) (fd := fd) (j := k) hhl (by omega) hk)
    obtain ⟨⟨chi, clo⟩, cat, ckd⟩ := c
    have p0 := own_pc ho1 HN.out hil 0 (by omega) (v := .int .u64 chi) (by rw [hce]; rfl)
    rw [Nat.add_zero] at p0
    have p1 := own_pc ho1 HN.out hil 1 (by omega) (v := .int .u64 clo) (by rw [hce]; rfl)
    have p2 := own_pc ho1 HN.out hil 2 (by omega) (v := .int .i64 cat) (by rw [hce]; rfl)
    have p3 := own_pc ho1 HN.out hil 3 (by omega) (v := .int .u8 ckd) (by rw [hce]; rfl)
    have Hc := Lib.hid (heap_alloc_new wr (.cells #[.int .u64 chi, .int .u64 clo, .int .i64 cat, .int .u8 ckd] 141))
    have FC := Lib.hid (hf.alloc (.cells #[.int .u64 chi, .int .u64 clo, .int .i64 cat, .int .u8 ckd] 141))
    have HBx2 := Lib.hid (blk_alloc hbx (.cells #[.int .u64 chi, .int .u64 clo, .int .i64 cat, .int .u8 ckd] 141))
    have x0 := blk_cell HBx2.out 0 rfl
    have x1 := blk_cell HBx2.out 1 rfl
    have he := eqm_Num
    have hI1 : (i : Int) < n := by omega
    have hI0 : (0 : Int) ≤ i := by omega
    have wi : IntKind.i64.wrap (i : Int) = i := IntWalk.i64_in _ (by omega)
    have wu : IntKind.u64.wrap ((i : Int) + 1) = i + 1 := by rw [IntKind.wrap_u64]; omega
    have hnx := HMa.out i hin
    have HNx := Lib.hid (show (i + 1) % n = (H0 + (j + 1)) % n from by rw [← hie, Nat.mod_add_mod, Nat.add_assoc])
    have HMs := Lib.hid (show j + 1 ≤ fd → gap ((H0 + fd) % n) n (((i : Int) + 1) % (n : Int)).toNat < gap ((H0 + fd) % n) n ((i : Int)).toNat from fun h => by
      have e1 : (((i : Int) + 1) % (n : Int)).toNat = (i + 1) % n := by
        rw [show ((i : Int) + 1) = ((i + 1 : Nat) : Int) from rfl, ← Int.natCast_emod, Int.toNat_natCast]
      rw [e1, Int.toNat_natCast, HNx.out, ← hie, HGap.out j hj, gap_at hhl (by omega) h]
      omega)
    clear hway hf hbx hb1 ho1 hie hce hget hmem hil
    rcases hkk with hk | hk | hk
    · have hk : ckd = 0 := hk
      subst hk
      have HE := Lib.hid (way_end HI.out HWay.out (by rw [knd_at HGt.out]) (by rw [HN.out]; omega))
      cases put with
      | none =>
        have hpi : putI none = -1 := rfl
        rw [hpi]
        go_wp2_with fail
        go_ret2
        refine ⟨i, false, rfl, ?_, FC.out⟩
        have h := HE.out
        rw [Option.getD_none, HN.out, HH.out, HIe.out] at h
        exact h
      | some p =>
        have hpi : putI (some p) = p := rfl
        have hp0 : ¬ (p : Int) < 0 := by omega
        rw [hpi]
        go_wp2_with fail
        go_ret2
        exact ⟨p, false, rfl, HE.out, FC.out⟩
    · have hk : ckd = 1 := hk
      subst hk
      by_cases hkx : chi = x.hi ∧ clo = x.lo
      · obtain ⟨hk1, hk2⟩ := hkx
        have b1 : (chi == x.hi) = true := by simpa using hk1
        have b2 : (clo == x.lo) = true := by simpa using hk2
        have HFd := Lib.hid (show Fnd home cs x i true from ⟨by rw [HN.out]; exact hin, .inl ⟨rfl, ⟨⟨chi, clo⟩, cat, 1⟩, by have h := HGt.out; rw [HN.out, HH.out, HIe.out] at h; exact h, rfl, by obtain ⟨h, l⟩ := x; simp only at hk1 hk2; rw [hk1, hk2]⟩⟩)
        clear hk1 hk2
        go_wp2_with fail
        go_ret2
        exact ⟨i, true, rfl, HFd.out, by (repeat (first | (with_reducible exact Fr.refl _ _) | (with_reducible refine Fr.drew ?_) | (with_reducible refine Fr.drewN ?_ _) | (with_reducible refine Fr.alloc ?_ _) | (with_reducible refine Fr.set1 ?_ _) | (with_reducible refine Fr.setNew ?_ (by omega) _))) <;> exact HF.out⟩
      · have hne : ¬ ((1 : Int) = 1 ∧ (⟨chi, clo⟩ : Nm) = x) := fun h => hkx (by rw [← h.2]; exact ⟨rfl, rfl⟩)
        have HW2 := Lib.hid (way_next (put' := put) HWay.out HGt.out (show (1 : Int) ≠ 0 by decide) hne (by rw [HN.out]; omega) (.inl rfl))
        have hjd : j + 1 ≤ fd := by
          apply Decidable.byContradiction
          intro hc
          have e : j = fd := by omega
          have h := HFk.out
          rw [← e, knd_at HGt.out] at h
          exact absurd h (show (1 : Int) ≠ 0 by decide)
        cases q1 : (chi == x.hi)
        all_goals
          cases q2 : (clo == x.lo)
        all_goals first
          | (exfalso; apply hkx; exact ⟨by simpa using q1, by simpa using q2⟩)
          | (go_wp2_with fail
             go_roundw
             case rel => exact ⟨j + 1, (i + 1) % n, put, hjd, by go_num, HNx.out.symm, rfl, HW2.out, by (repeat (first | (with_reducible exact Fr.refl _ _) | (with_reducible refine Fr.drew ?_) | (with_reducible refine Fr.drewN ?_ _) | (with_reducible refine Fr.alloc ?_ _) | (with_reducible refine Fr.set1 ?_ _) | (with_reducible refine Fr.setNew ?_ (by omega) _))) <;> exact HF.out, by (repeat (first | (with_reducible refine blk_drew ?_) | (with_reducible refine blk_drewN ?_ _) | (with_reducible refine blk_alloc ?_ _) | (with_reducible refine blk_far2 ?_ (by omega) _))) <;> exact HBx.out⟩
             case measure => exact HMs.out hjd)
    · have hk : ckd = 2 := hk
      subst hk
      have hjd : j + 1 ≤ fd := by
        apply Decidable.byContradiction
        intro hc
        have e : j = fd := by omega
        have h := HFk.out
        rw [← e, knd_at HGt.out] at h
        exact absurd h (show (2 : Int) ≠ 0 by decide)
      have hne : ¬ ((2 : Int) = 1 ∧ (⟨chi, clo⟩ : Nm) = x) := fun h => absurd h.1 (by decide)
      cases put with
      | none =>
        have hpi : putI none = -1 := rfl
        rw [hpi]
        have HW2 := Lib.hid (way_next (put' := some i) HWay.out HGt.out (show (2 : Int) ≠ 0 by decide) hne (by rw [HN.out]; omega) (.inr ⟨by rw [HN.out, HH.out, HIe.out], rfl⟩))
        go_wp2_with fail
        go_roundw
        case rel => exact ⟨j + 1, (i + 1) % n, some i, hjd, by go_num, HNx.out.symm, rfl, HW2.out, by (repeat (first | (with_reducible exact Fr.refl _ _) | (with_reducible refine Fr.drew ?_) | (with_reducible refine Fr.drewN ?_ _) | (with_reducible refine Fr.alloc ?_ _) | (with_reducible refine Fr.set1 ?_ _) | (with_reducible refine Fr.setNew ?_ (by omega) _))) <;> exact HF.out, by (repeat (first | (with_reducible refine blk_drew ?_) | (with_reducible refine blk_drewN ?_ _) | (with_reducible refine blk_alloc ?_ _) | (with_reducible refine blk_far2 ?_ (by omega) _))) <;> exact HBx.out⟩
        case measure => exact HMs.out hjd
      | some p =>
        have hpi : putI (some p) = p := rfl
        have hp0 : ¬ (p : Int) < 0 := by omega
        rw [hpi]
        have HW2 := Lib.hid (way_next (put' := some p) HWay.out HGt.out (show (2 : Int) ≠ 0 by decide) hne (by rw [HN.out]; omega) (.inl rfl))
        go_wp2_with fail
        go_roundw
        case rel => exact ⟨j + 1, (i + 1) % n, some p, hjd, by go_num, HNx.out.symm, rfl, HW2.out, by (repeat (first | (with_reducible exact Fr.refl _ _) | (with_reducible refine Fr.drew ?_) | (with_reducible refine Fr.drewN ?_ _) | (with_reducible refine Fr.alloc ?_ _) | (with_reducible refine Fr.set1 ?_ _) | (with_reducible refine Fr.setNew ?_ (by omega) _))) <;> exact HF.out, by (repeat (first | (with_reducible refine blk_drew ?_) | (with_reducible refine blk_drewN ?_ _) | (with_reducible refine blk_alloc ?_ _) | (with_reducible refine blk_far2 ?_ (by omega) _))) <;> exact HBx.out⟩
        case measure => exact HMs.out hjd
end Go.Proofs.YtjchjpmgbmeohaaDoor
