/- Items: how they lie, what their bytes are; great, put. -/
import Derived.Test.YtpmebmkifdgjcaaRef3
import Derived.Test.YtpmebmkifdgjcaaRow
namespace Go.Proofs.Ytpmebmkifdgjcaa
open Go.RowKit

structure It where
  kind : Int
  size : Int
  n : Int
  hi : Int
  lo : Int
  yes : Bool
  text : List Int

def It.cells (x : It) : List Value := [.int .i64 x.kind, .int .i64 x.size, .int .i64 x.n, .int .u64 x.hi, .int .u64 x.lo, .bool x.yes, .string (strOfNums x.text)]
structure It.ok (x : It) : Prop where
  hi0 : 0 ≤ x.hi
  hi1 : x.hi < 18446744073709551616
  lo0 : 0 ≤ x.lo
  lo1 : x.lo < 18446744073709551616
  text : Bytes x.text

/-- The cells of item i. -/
theorem Row.item {w : World} {a : Option Addr} {l : List It} (h : Row w a (l.flatMap It.cells)) {i : Nat} (hi : i < l.length) :
    ∃ b off, a = some ⟨b, off, none⟩ ∧ b < w.heap.size ∧ w.cell? ⟨b, off + i * 7, none⟩ = some (.int .i64 l[i].kind) ∧ w.cell? ⟨b, off + i * 7 + 1, none⟩ = some (.int .i64 l[i].size) ∧ w.cell? ⟨b, off + i * 7 + 2, none⟩ = some (.int .i64 l[i].n) ∧
      w.cell? ⟨b, off + i * 7 + 3, none⟩ = some (.int .u64 l[i].hi) ∧ w.cell? ⟨b, off + i * 7 + 4, none⟩ = some (.int .u64 l[i].lo) ∧ w.cell? ⟨b, off + i * 7 + 5, none⟩ = some (.bool l[i].yes) ∧ w.cell? ⟨b, off + i * 7 + 6, none⟩ = some (.string (strOfNums l[i].text)) := by
  have g : ∀ j u, j < 7 → (It.cells l[i])[j]? = some u → ∃ b off, a = some ⟨b, off, none⟩ ∧ w.cell? ⟨b, off + i * 7 + j, none⟩ = some u := fun j u hj hu => by
    obtain ⟨b, off, e, hc⟩ := h (i * 7 + j) u ((flat_get (f := It.cells) (n := 7) (fun _ => rfl) l i hi j hj).trans hu)
    exact ⟨b, off, e, by rw [Nat.add_assoc]; exact hc⟩
  obtain ⟨b, off, e, c0⟩ := g 0 _ (by omega) rfl
  subst e
  have g2 : ∀ j u, j < 7 → (It.cells l[i])[j]? = some u → w.cell? ⟨b, off + i * 7 + j, none⟩ = some u := fun j u hj hu => by
    obtain ⟨b', off', e, hc⟩ := g j u hj hu
    simp only [Option.some.injEq, Addr.mk.injEq] at e
    obtain ⟨rfl, rfl, _⟩ := e
    exact hc
  exact ⟨b, off, rfl, World.block_lt_of_cell? w _ c0, c0, g2 1 _ (by omega) rfl, g2 2 _ (by omega) rfl, g2 3 _ (by omega) rfl, g2 4 _ (by omega) rfl, g2 5 _ (by omega) rfl, g2 6 _ (by omega) rfl⟩

def texts (l : List It) : Nat := (l.map fun x => x.text.length).sum

theorem texts_succ {l : List It} {k : Nat} (h : k < l.length) : texts (l.take (k + 1)) = texts (l.take k) + l[k].text.length := by
  rw [List.take_succ_eq_append_getElem h]
  simp only [texts, List.map_append, List.sum_append, List.map_cons, List.map_nil, List.sum_cons, List.sum_nil, Nat.add_zero]
theorem texts_le (l : List It) (k : Nat) : texts (l.take k) ≤ texts l := by
  have h : texts (l.take k ++ l.drop k) = texts (l.take k) + texts (l.drop k) := by simp only [texts, List.map_append, List.sum_append]
  rw [List.take_append_drop] at h
  omega

/-- More than is played. -/
def gr (l : List It) : Bool := decide (texts l > 4096) || decide (60 < l.length)
theorem gr_no {l : List It} (h : gr l = false) : texts l ≤ 4096 ∧ l.length ≤ 60 := by
  simp [gr] at h
  omega

set_option maxHeartbeats 1600000 in
theorem great_any (w : World) (a : Option Addr) (cap : Nat) (l : List It) (hr : Row w a (l.flatMap It.cells)) (hl : l.length ≤ 140737488355328) (ht : ∀ x ∈ l, x.text.length ≤ 140737488355328) :
    Calls Try.prog 8 #[.slice a l.length cap] w fun e w' => e = .returned (.bool (gr l)) ∧ Fr (fun _ => False) w w' := by
  have HR := Lib.hid hr
  clear hr
  go_enter Try.func8, Try.ntmps8
  go_wp2
  go_loopw [3, 8] (fun n i wr => ∃ k : Nat, k ≤ l.length ∧ i = .int .i64 k ∧ n = .int .i64 (texts (l.take k)) ∧ texts (l.take k) ≤ 4096 ∧ Fr (fun _ => False) w wr)
    (fun _ i _ => l.length - (intOf i).toNat)
  case atStart => exact ⟨0, by omega, rfl, by simp [texts], by simp [texts], Fr.refl _ _⟩
  case round =>
    obtain ⟨k, hk, rfl, rfl, hn, hf⟩ := hrel
    by_cases hlt : k < l.length
    · obtain ⟨b, off, rfl, hb, x0, x1, x2, x3, x4, x5, x6⟩ := (HR.out.fr hf (fun _ _ h => h)).item hlt
      have s6 := strOfNums_size l[k].text
      have Hf := Lib.hid hf
      obtain ⟨T, hT⟩ : ∃ T, texts (l.take k) = T := ⟨_, rfl⟩
      have hts := texts_succ hlt
      have htl := texts_le l (k + 1)
      have hbd := ht _ (List.getElem_mem hlt)
      rw [hT] at hts hn ⊢
      obtain ⟨m, hm⟩ : ∃ m, l[k].text.length = m := ⟨_, rfl⟩
      rw [hm] at hts hbd s6
      have Hts := Lib.hid hts
      clear hf hT hts hm
      by_cases hbig : 4096 < T + m
      · have hb2 : (4096 : Int) < (T : Int) + (m : Int) := by omega
        go_wp2
        go_ret
        have h1 : 4096 < texts l := by have := Hts.out; omega
        exact ⟨by simp [gr, h1], Hf.out.alloc _⟩
      · have hb2 : ¬ (4096 : Int) < (T : Int) + (m : Int) := by omega
        go_wp2
        go_roundw
        case rel => exact ⟨k + 1, by omega, by go_num, by rw [Hts.out]; go_num, by have := Hts.out; omega, Hf.out.alloc _⟩
        case measure => simp [intOf]; omega
    · obtain rfl : k = l.length := by omega
      rw [List.take_length] at hn
      have Hn := Lib.hid hn
      have Hf := Lib.hid hf
      clear hn hf
      go_wp2
      go_ret
      have e1 : decide (texts l > 4096) = false := by have := Hn.out; simp; omega
      have e2 : decide ((60 : Int) < (l.length : Int)) = decide (60 < l.length) := by
        by_cases h : 60 < l.length
        · rw [decide_eq_true h, decide_eq_true (by omega)]
        · rw [decide_eq_false h, decide_eq_false (by omega)]
      unfold gr
      rw [e1, Bool.false_or, ← e2]
      exact ⟨rfl, Hf.out⟩

/-- An item's bytes. -/
def It.bytes (x : It) : List Int := if x.kind = 0 then bytesOf x.n (clampN x.size) else if x.kind = 1 then wideBytes x.hi x.lo else if x.kind = 2 then [if x.yes then 1 else 0] else if x.kind = 3 then x.text else []
def allBytes (l : List It) : List Int := l.flatMap It.bytes
theorem allBytes_succ {l : List It} {k : Nat} (h : k < l.length) : allBytes (l.take (k + 1)) = allBytes (l.take k) ++ l[k].bytes := by
  rw [List.take_succ_eq_append_getElem h]
  simp only [allBytes, List.flatMap_append, List.flatMap_cons, List.flatMap_nil, List.append_nil]
theorem clampN_le (s : Int) : clampN s ≤ 8 := by unfold clampN; omega
theorem It.bytes_len (x : It) : x.bytes.length ≤ 16 + x.text.length := by
  unfold It.bytes
  have := clampN_le x.size
  split
  · rw [blen]; omega
  · split
    · rw [wideBytes_len]; omega
    · split
      · simp; omega
      · split
        · omega
        · simp
theorem allBytes_len (l : List It) : (allBytes l).length ≤ 16 * l.length + texts l := by
  induction l with
  | nil => simp [allBytes]
  | cons x r ih =>
    have h1 := x.bytes_len
    have e1 : allBytes (x :: r) = x.bytes ++ allBytes r := by simp [allBytes]
    have e2 : texts (x :: r) = x.text.length + texts r := by simp [texts]
    rw [e1, e2, List.length_append, List.length_cons]
    omega

theorem isW_mono {w : World} {S S2 : Nat → Prop} {g : Nat} {l : List Int} (h : IsW w S g l) (hs : ∀ k, S k → S2 k) : IsW w S2 g l := by
  obtain ⟨v, hb, ho, hg, hv⟩ := h
  exact ⟨v, hb, ho, hs _ hg, fun k hk => ⟨hs _ (hv k hk).1, (hv k hk).2⟩⟩
theorem isW_fr {w w2 : World} {S S2 : Nat → Prop} {g : Nat} {l : List Int} (h : IsW w S g l) (hf : Fr S2 w w2) (hd : ∀ k, S k → ¬ S2 k) : IsW w2 S g l := by
  obtain ⟨v, hb, ho, hg, hv⟩ := h
  exact ⟨v, hf.blk hb (hd _ hg), own_fr ho hf (fun k hk => hd _ (hv k hk).1), hg, hv⟩
theorem isW_alloc {w : World} {S : Nat → Prop} {g : Nat} {l : List Int} (h : IsW w S g l) (o : Obj) : IsW (w.alloc o) S g l := isW_fr (S2 := fun _ => False) h ((Fr.refl _ w).alloc o) (fun _ _ h => h)

/-- What one item's calls leave. -/
theorem put_step {w wr w2 w3 : World} {o : Obj} {B : Nat} {L : List Int} (f1 : Fr (fun _ => False) w wr) (h2 : IsW w2 (Gro (Gro (fun _ => False) w wr) (wr.alloc o) w2) B L) (f2 : Fr (Gro (fun _ => False) w wr) (wr.alloc o) w2) (f3 : Fr (fun _ => False) w2 w3) :
    IsW w3 (Gro (fun _ => False) w w3) B L ∧ Fr (fun _ => False) w w3 := by
  have s1 := f1.size
  have s2 := f2.size
  have s3 := f3.size
  simp at s2
  refine ⟨isW_fr (S2 := fun _ => False) (isW_mono h2 fun k hk => ?_) f3 (fun _ _ h => h), ((f1.alloc o).then_ f2 fun k hk => ?_).then_ f3 (fun _ h => h.elim)⟩
  · rcases hk with (h | h) | h
    · exact .inl h
    · exact .inr ⟨h.1, by omega⟩
    · exact .inr ⟨by have := h.1; simp at this; omega, by omega⟩
  · rcases hk with h | h
    · exact h.elim
    · exact .inr h.1

theorem strOf_one : (⟨#[1]⟩ : ByteArray) = strOfNums [1] := rfl
theorem strOf_zero : (⟨#[0]⟩ : ByteArray) = strOfNums [0] := rfl
theorem numsOf_str {l : List Int} (h : Bytes l) : numsOf (strOfNums l) = l := numsOf_strOf h

set_option maxHeartbeats 6400000 in
theorem put_any (w : World) (a : Option Addr) (cap : Nat) (l : List It) (hr : Row w a (l.flatMap It.cells)) (hok : ∀ x ∈ l, x.ok) (hl : l.length ≤ 1000) (ht : texts l ≤ 100000) :
    Calls Try.prog 9 #[.slice a l.length cap] w fun e w' => ∃ g, e = .returned (.tuple #[.pointer (some ⟨g, 0, none⟩), .string (strOfNums (allBytes l))]) ∧ IsW w' (Gro (fun _ => False) w w') g (allBytes l) ∧ Fr (fun _ => False) w w' := by
  have HR := Lib.hid hr
  have Hok := Lib.hid hok
  clear hr hok
  obtain ⟨B, hB⟩ : ∃ B, w.heap.size = B := ⟨_, rfl⟩
  have HB := Lib.hid hB
  go_enter Try.func9, Try.ntmps9
  go_wp2
  go_loopw [5, 12] (fun s i wr => ∃ k : Nat, k ≤ l.length ∧ i = .int .i64 k ∧ s = .string (strOfNums (allBytes (l.take k))) ∧ IsW wr (Gro (fun _ => False) w wr) B (allBytes (l.take k)) ∧ Fr (fun _ => False) w wr)
    (fun _ i _ => l.length - (intOf i).toNat)
  case atStart =>
    refine ⟨0, by omega, rfl, by simp [allBytes, strOfNums], ?_, (Fr.refl _ w).alloc _⟩
    refine ⟨.slice none 0 0, by rw [← HB.out]; exact heap_alloc_new w _, by simpa [allBytes] using World.ownsRow_nil _ 0 5 1, .inr ⟨by rw [HB.out]; omega, by simp [HB.out]⟩, fun k hk => by simp [Value.ownBlock] at hk⟩
  case round =>
    obtain ⟨k, hk, rfl, rfl, hw, hf⟩ := hrel
    have Hw := Lib.hid hw
    clear hw
    by_cases hlt : k < l.length
    · obtain ⟨b, off, rfl, hb, x0, x1, x2, x3, x4, x5, x6⟩ := (HR.out.fr hf (fun _ _ h => h)).item hlt
      have Hf := Lib.hid hf
      clear hf
      have Hs := Lib.hid (allBytes_succ hlt)
      have hlen := allBytes_len (l.take k)
      have htl := texts_le l k
      have hall : (allBytes (l.take k)).length ≤ 200000 := by rw [List.length_take] at hlen; omega
      obtain ⟨L, hL⟩ : ∃ L, allBytes (l.take k) = L := ⟨_, rfl⟩
      have HL := Lib.hid hL
      rw [hL] at hall ⊢
      clear hlen htl hL
      have hx := Hok.out _ (List.getElem_mem hlt)
      have Hbd := Lib.hid (show l[k].text.length ≤ 100000 from by
        have h1 := texts_succ hlt
        have h2 := texts_le l (k + 1)
        omega)
      obtain ⟨x, hxx⟩ : ∃ x, l[k] = x := ⟨_, rfl⟩
      rw [hxx] at x0 x1 x2 x3 x4 x5 x6
      have Hx := Lib.hid hxx
      have Hxk := Lib.hid (hxx ▸ hx)
      clear hxx hx
      have sL := strOfNums_size L
      have hblk := Lib.hid (heap_alloc_new wr (.cells #[.int .i64 x.kind, .int .i64 x.size, .int .i64 x.n, .int .u64 x.hi, .int .u64 x.lo, .bool x.yes, .string (strOfNums x.text)] 37))
      have hout := Lib.hid (show ¬ Gro (fun _ => False) w wr wr.heap.size from fun h => by rcases h with h | h; exact h; omega)
      by_cases k0 : x.kind = 0
      · have kb0 : (x.kind == 0) = true := by simpa using k0
        have K0 := Lib.hid k0
        clear k0
        go_wp2_with fail
        refine (wInt_any _ (Gro (fun _ => False) w wr) B L x.size x.n (isW_alloc (by have := Hw.out; rw [HL.out] at this; exact this) _) (by omega)).mono ?_
        rintro e w2 ⟨rfl, h2, f2⟩
        have hb2 := f2.blk hblk.out hout.out
        have y1 := blk_cell hb2 1 rfl
        have y2 := blk_cell hb2 2 rfl
        have y3 := blk_cell hb2 3 rfl
        have y4 := blk_cell hb2 4 rfl
        have y5 := blk_cell hb2 5 rfl
        have y6 := blk_cell hb2 6 rfl
        have H2 := Lib.hid h2
        have F2 := Lib.hid f2
        clear h2 f2 hb2
        go_wp2_with fail
        refine (refInt_any w2 x.size x.n).mono ?_
        rintro e w3 ⟨rfl, f3⟩
        have F3 := Lib.hid f3
        clear f3
        have s1 := strOfNums_size (bytesOf x.n (clampN x.size))
        have s2 := blen x.n (clampN x.size)
        have s3 := clampN_le x.size
        have he := Lib.hid (show x.bytes = bytesOf x.n (clampN x.size) from by have k0 := K0.out; simp [It.bytes, k0])
        go_wp2
        go_roundw
        case rel =>
          refine ⟨k + 1, by omega, by go_num, ?_, ?_⟩
          · rw [Hs.out, HL.out, Hx.out]
            rw [he.out]; first | (rw [strOf_append]; done) | skip
          · rw [Hs.out, HL.out, Hx.out]
            rw [he.out]; first | (rw [strOf_append]; done) | skip
            exact put_step Hf.out H2.out F2.out F3.out
        case measure => simp [intOf]; omega
      · by_cases k1 : x.kind = 1
        · have kb0 : (x.kind == 0) = false := by simpa using k0
          have kb1 : (x.kind == 1) = true := by simpa using k1
          have K1 := Lib.hid k1
          clear k1
          go_wp2_with fail
          refine (wNum_any _ (Gro (fun _ => False) w wr) B L x.hi x.lo (isW_alloc (by have := Hw.out; rw [HL.out] at this; exact this) _) (by omega)).mono ?_
          rintro e w2 ⟨rfl, h2, f2⟩
          have hb2 := f2.blk hblk.out hout.out
          have y1 := blk_cell hb2 1 rfl
          have y2 := blk_cell hb2 2 rfl
          have y3 := blk_cell hb2 3 rfl
          have y4 := blk_cell hb2 4 rfl
          have y5 := blk_cell hb2 5 rfl
          have y6 := blk_cell hb2 6 rfl
          have H2 := Lib.hid h2
          have F2 := Lib.hid f2
          clear h2 f2 hb2
          go_wp2_with fail
          refine (refBytes_any w2 x.hi x.lo Hxk.out.hi0 Hxk.out.hi1 Hxk.out.lo0 Hxk.out.lo1).mono ?_
          rintro e w3 ⟨rfl, f3⟩
          have F3 := Lib.hid f3
          clear f3
          have s1 := strOfNums_size (wideBytes x.hi x.lo)
          have s2 := wideBytes_len x.hi x.lo
          have he := Lib.hid (show x.bytes = wideBytes x.hi x.lo from by have k1 := K1.out; simp [It.bytes, k1])
          go_wp2
          go_roundw
          case rel =>
            refine ⟨k + 1, by omega, by go_num, ?_, ?_⟩
            · rw [Hs.out, HL.out, Hx.out]
              rw [he.out]; first | (rw [strOf_append]; done) | skip
            · rw [Hs.out, HL.out, Hx.out]
              rw [he.out]; first | (rw [strOf_append]; done) | skip
              exact put_step Hf.out H2.out F2.out F3.out
          case measure => simp [intOf]; omega
        · by_cases k2 : x.kind = 2
          · have kb0 : (x.kind == 0) = false := by simpa using k0
            have kb1 : (x.kind == 1) = false := by simpa using k1
            have kb2 : (x.kind == 2) = true := by simpa using k2
            have K2 := Lib.hid k2
            clear k2
            have o1 := strOf_one
            have o0 := strOf_zero
            have HO1 := Lib.hid o1
            have HO0 := Lib.hid o0
            clear o1 o0
            have he := Lib.hid (show x.bytes = [if x.yes then 1 else 0] from by have k2 := K2.out; simp [It.bytes, k2])
            cases hy : x.yes
            all_goals
              rw [hy] at x5
              have HY := Lib.hid hy
              clear hy
              go_wp2_with fail
              refine (wFlag_any _ (Gro (fun _ => False) w wr) B L _ (isW_alloc (by have := Hw.out; rw [HL.out] at this; exact this) _) (by omega)).mono ?_
              rintro e w2 ⟨rfl, h2, f2⟩
              have hb2 := f2.blk (HY.out ▸ hblk.out) hout.out
              have y1 := blk_cell hb2 1 rfl
              have y2 := blk_cell hb2 2 rfl
              have y3 := blk_cell hb2 3 rfl
              have y4 := blk_cell hb2 4 rfl
              have y5 := blk_cell hb2 5 rfl
              have y6 := blk_cell hb2 6 rfl
              have H2 := Lib.hid h2
              have F2 := Lib.hid f2
              clear h2 f2 hb2
              have F3 := Lib.hid (Fr.refl (fun _ => False) w2)
              go_wp2
              go_roundw
              case rel =>
                refine ⟨k + 1, by omega, by go_num, ?_, ?_⟩
                · rw [Hs.out, HL.out, Hx.out]
                  rw [he.out, HY.out]; first | (rw [HO1.out, strOf_append]; rfl) | (rw [HO0.out, strOf_append]; rfl) | skip
                · rw [Hs.out, HL.out, Hx.out]
                  rw [he.out, HY.out]; first | (rw [HO1.out, strOf_append]; rfl) | (rw [HO0.out, strOf_append]; rfl) | skip
                  exact put_step Hf.out H2.out F2.out F3.out
              case measure => simp [intOf]; omega
          · by_cases k3 : x.kind = 3
            · have kb0 : (x.kind == 0) = false := by simpa using k0
              have kb1 : (x.kind == 1) = false := by simpa using k1
              have kb2 : (x.kind == 2) = false := by simpa using k2
              have kb3 : (x.kind == 3) = true := by simpa using k3
              have K3 := Lib.hid k3
              clear k3
              have Hn := Lib.hid (numsOf_str Hxk.out.text)
              have hb3 : x.text.length ≤ 100000 := by have := Hbd.out; rw [Hx.out] at this; exact this
              go_wp2_with fail
              refine (wRaw_any _ (Gro (fun _ => False) w wr) B L (strOfNums x.text) (isW_alloc (by have := Hw.out; rw [HL.out] at this; exact this) _) (by rw [strOfNums_size]; omega)).mono ?_
              rintro e w2 ⟨rfl, h2, f2⟩
              have hb2 := f2.blk hblk.out hout.out
              have y1 := blk_cell hb2 1 rfl
              have y2 := blk_cell hb2 2 rfl
              have y3 := blk_cell hb2 3 rfl
              have y4 := blk_cell hb2 4 rfl
              have y5 := blk_cell hb2 5 rfl
              have y6 := blk_cell hb2 6 rfl
              have H2 := Lib.hid (Hn.out ▸ h2)
              have F2 := Lib.hid f2
              clear h2 f2 hb2
              have F3 := Lib.hid (Fr.refl (fun _ => False) w2)
              have s1 := strOfNums_size x.text
              have he := Lib.hid (show x.bytes = x.text from by have k3 := K3.out; simp [It.bytes, k3])
              go_wp2
              go_roundw
              case rel =>
                refine ⟨k + 1, by omega, by go_num, ?_, ?_⟩
                · rw [Hs.out, HL.out, Hx.out]
                  rw [he.out]; first | (rw [strOf_append]; done) | skip
                · rw [Hs.out, HL.out, Hx.out]
                  rw [he.out]; first | (rw [strOf_append]; done) | skip
                  exact put_step Hf.out H2.out F2.out F3.out
              case measure => simp [intOf]; omega
            · have kb0 : (x.kind == 0) = false := by simpa using k0
              have kb1 : (x.kind == 1) = false := by simpa using k1
              have kb2 : (x.kind == 2) = false := by simpa using k2
              have kb3 : (x.kind == 3) = false := by simpa using k3
              go_wp2
              go_roundw
              case rel =>
                refine ⟨k + 1, by omega, by go_num, ?_, ?_⟩
                · rw [Hs.out, HL.out, Hx.out]
                  simp [It.bytes, k0, k1, k2, k3]
                · rw [Hs.out, HL.out, Hx.out]
                  have e : It.bytes x = [] := by simp [It.bytes, k0, k1, k2, k3]
                  rw [e, List.append_nil]
                  exact put_step Hf.out (isW_gro (isW_alloc (by have := Hw.out; rw [HL.out] at this; exact this) _)) (Fr.refl _ _) (Fr.refl _ _)
              case measure => simp [intOf]; omega
    · go_wp2
      obtain rfl : k = l.length := by omega
      go_ret2
      rw [List.take_length] at *
      exact ⟨B, rfl, Hw.out, hf⟩
end Go.Proofs.Ytpmebmkifdgjcaa
