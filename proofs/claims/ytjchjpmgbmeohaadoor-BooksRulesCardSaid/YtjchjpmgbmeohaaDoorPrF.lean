/- Package probe: Get, Drop. -/
import Derived.Test.YtjchjpmgbmeohaaDoorPrE
set_option linter.unusedSimpArgs false
set_option linter.unusedVariables false
namespace Go.Proofs.YtjchjpmgbmeohaaDoor
open Go.RowKit

/-- A table as it must be. -/
structure IsT (w : World) (S : Nat → Prop) (T : Nat) (cs : List PC) : Prop where
  is : IsP w S T cs (cnt 1 cs) (cnt 2 cs)
  inv : PInv home cs
  room : 4 * (cnt 1 cs + cnt 2 cs) ≤ 3 * cs.length
theorem IsT.fr {w w' : World} {S S2 : Nat → Prop} {T : Nat} {cs : List PC} (h : IsT w S T cs) (hf : Fr S2 w w') (hd : ∀ k, S k → ¬ S2 k) : IsT w' S T cs := ⟨IsP.fr h.is hf hd, h.inv, h.room⟩
theorem IsT.free {w : World} {S : Nat → Prop} {T : Nat} {cs : List PC} (h : IsT w S T cs) : ∃ p, p < cs.length ∧ knd cs p = 0 := by
  have h1 := cnt_all h.inv.kinds
  have h2 := h.inv.len
  have h3 := h.room
  exact free_of_cnt (by omega)
theorem IsT.find {w : World} {S : Nat → Prop} {T : Nat} {cs : List PC} (h : IsT w S T cs) (x : Nm) : Calls Tryd.prog 95 #[.pointer (some ⟨T, 0, none⟩), .agg #[.int .u64 x.hi, .int .u64 x.lo]] w (FindPost cs x w) :=
  find_any w T S cs _ _ x h.is h.inv h.free
def GetPost (cs : List PC) (x : Nm) (w : World) (e : Ending) (w' : World) : Prop := ∃ (a : Int) (b : Bool), e = .returned (.tuple #[.int .i64 a, .bool b]) ∧ ((b = true ∧ Has cs x a) ∨ (b = false ∧ a = 0 ∧ ¬ IsIn cs x)) ∧ Fr (fun _ => False) w w'
set_option maxRecDepth 4000 in
set_option maxHeartbeats 3200000 in
theorem get_any (w : World) (S : Nat → Prop) (T : Nat) (cs : List PC) (x : Nm) (h : IsT w S T cs) :
    Calls Tryd.prog 55 #[.pointer (some ⟨T, 0, none⟩), .agg #[.int .u64 x.hi, .int .u64 x.lo]] w (GetPost cs x w) := by
  have FA := Lib.hid ((Fr.refl (fun _ => False) w).alloc (.cells #[.int .u64 x.hi, .int .u64 x.lo] 24))
  have HF := Lib.hid ((h.fr FA.out (fun _ _ h => h)).find x)
  obtain ⟨hn8, hn30⟩ := h.inv.len
  have HI := Lib.hid h.inv
  obtain ⟨v, hb, ho, -, -, -⟩ := h.is
  obtain ⟨g, cap, rfl⟩ := own_some ho (by omega)
  have HB := Lib.hid (FA.out.blk hb (fun h => h))
  have HO := Lib.hid (own_fr ho FA.out (fun _ _ h => h))
  clear h hb ho
  go_enter Tryd.func55, Tryd.ntmps55
  go_wp2_with fail
  refine HF.out.mono ?_
  rintro e w2 ⟨p, b, rfl, hfd, f2⟩
  have HFd := Lib.hid hfd
  have F2 := Lib.hid (FA.out.then_ f2 (fun _ h => h.elim))
  have hb2 := f2.blk HB.out (fun h => h)
  have c0 := blk_cell hb2 0 rfl
  have ho2 := own_fr HO.out f2 (fun _ _ h => h)
  cases b with
  | false =>
    clear hfd f2 hb2 c0 ho2
    go_wp2_with fail
    go_ret2
    have hno : ¬ IsIn cs x := by
      rcases HFd.out.2 with h | h
      · cases h.1
      · exact h.2.2.1
    exact ⟨0, false, rfl, .inr ⟨rfl, rfl, hno⟩, F2.out⟩
  | true =>
    have hp := hfd.1
    have hc : ∃ c : PC, cs[p]? = some c ∧ c.kind = 1 ∧ c.key = x := by
      rcases hfd.2 with ⟨_, h⟩ | ⟨h, _⟩
      · exact h
      · cases h
    obtain ⟨c, hc1, hc2, hc3⟩ := hc
    have hge : cs[p] = c := by rw [List.getElem?_eq_getElem hp] at hc1; exact Option.some.inj hc1
    have p2 := own_pc ho2 rfl hp 2 (by omega) (v := .int .i64 c.at_) (by rw [hge]; rfl)
    have HHas := Lib.hid (show Has cs x c.at_ from ⟨p, c, hc1, hc2, hc3, rfl⟩)
    obtain ⟨a, ha⟩ : ∃ a, c.at_ = a := ⟨_, rfl⟩
    rw [ha] at p2 HHas
    have hpI : (p : Int) < cs.length := by omega
    clear hfd f2 hb2 ho2 hc1 hc2 hc3 hge ha
    go_wp2_with fail
    go_ret2
    exact ⟨a, true, rfl, .inl ⟨rfl, HHas.out⟩, F2.out⟩
def DropPost (S : Nat → Prop) (T : Nat) (cs : List PC) (x : Nm) (w : World) (e : Ending) (w' : World) : Prop :=
  ∃ (b : Bool) (cs' : List PC), e = .returned (.bool b) ∧ (b = true ↔ IsIn cs x) ∧ IsT w' S T cs' ∧ (∀ y a, Has cs' y a ↔ Has cs y a ∧ y ≠ x) ∧ cnt 1 cs' + (if b = true then 1 else 0) = cnt 1 cs ∧ cs'.length = cs.length ∧ Fr S w w'
set_option maxRecDepth 4000 in
set_option maxHeartbeats 3200000 in
theorem drop_any (w : World) (S : Nat → Prop) (T : Nat) (cs : List PC) (x : Nm) (h : IsT w S T cs) :
    Calls Tryd.prog 60 #[.pointer (some ⟨T, 0, none⟩), .agg #[.int .u64 x.hi, .int .u64 x.lo]] w (DropPost S T cs x w) := by
  have FA := Lib.hid ((Fr.refl (fun _ => False) w).alloc (.cells #[.int .u64 x.hi, .int .u64 x.lo] 24))
  have HT := Lib.hid (h.fr FA.out (fun _ _ h => h))
  have HF := Lib.hid (HT.out.find x)
  obtain ⟨hn8, hn30⟩ := h.inv.len
  clear h
  go_enter Tryd.func60, Tryd.ntmps60
  go_wp2_with fail
  refine HF.out.mono ?_
  rintro e w2 ⟨p, b, rfl, hfd, f2⟩
  have HFd := Lib.hid hfd
  have F2 := Lib.hid (FA.out.then_ f2 (fun _ h => h.elim))
  have HT2 := Lib.hid (HT.out.fr f2 (fun _ _ h => h))
  cases b with
  | false =>
    clear hfd f2
    go_wp2_with fail
    go_ret
    have hno : ¬ IsIn cs x := by
      rcases HFd.out.2 with h | h
      · cases h.1
      · exact h.2.2.1
    exact ⟨false, cs, rfl, ⟨fun h => Bool.noConfusion h, fun h => absurd h hno⟩, HT2.out, fun y a => ⟨fun h => ⟨h, fun e => hno (e ▸ has_in h)⟩, fun h => h.1⟩, by simp, rfl, F2.out.mono (fun _ h => h.elim)⟩
  | true =>
    have hp := hfd.1
    have hc : ∃ c : PC, cs[p]? = some c ∧ c.kind = 1 ∧ c.key = x := by
      rcases hfd.2 with ⟨_, h⟩ | ⟨h, _⟩
      · exact h
      · cases h
    obtain ⟨c, hc1, hc2, hc3⟩ := hc
    have HIn := Lib.hid (show IsIn cs x from ⟨p, c, hc1, hc2, hc3⟩)
    have k1 := cnt_set 1 (d := PC.left) hc1
    have k2 := cnt_set 2 (d := PC.left) hc1
    rw [hc2] at k1 k2
    have k1' : cnt 1 (cs.set p PC.left) + 1 = cnt 1 cs := by simpa [PC.left] using k1
    have k2' : cnt 2 (cs.set p PC.left) = cnt 2 cs + 1 := by simpa [PC.left] using k2
    have HInv := Lib.hid (HT2.out.inv.drop hc1 (d := PC.left) rfl)
    have HHas := Lib.hid (fun y b => has_drop (b := b) HT2.out.inv hc1 hc2 (d := PC.left) rfl y)
    rw [hc3] at HHas
    have HK1 := Lib.hid k1'
    have HK2 := Lib.hid k2'
    obtain ⟨u, hu⟩ : ∃ u : Int, (cnt 1 cs : Int) = u := ⟨_, rfl⟩
    obtain ⟨l, hl⟩ : ∃ l : Int, (cnt 2 cs : Int) = l := ⟨_, rfl⟩
    have HR := Lib.hid HT2.out.room
    have hu0 : 1 ≤ u := by omega
    have hl0 : 0 ≤ l := by omega
    have hul : 4 * (u + l) ≤ 3 * (cs.length : Int) := by have := HR.out; omega
    have HU := Lib.hid hu
    have HL := Lib.hid hl
    have his : IsP w2 S T cs u l := by rw [← hu, ← hl]; exact HT2.out.is
    have HIs := Lib.hid his
    obtain ⟨v, hb, ho, -, -, -⟩ := his
    obtain ⟨g, cap, rfl⟩ := own_some ho (by omega)
    have HB := Lib.hid hb
    have c0 := blk_cell hb 0 rfl
    have hpI : (p : Int) < cs.length := by omega
    have HP := Lib.hid hp
    clear hfd f2 hb ho hc1 hc2 hc3 k1 k2 k1' k2' hu hl hp
    go_wp2_with ((refine wpList_store_pc rfl (.tmp 23) (.tmp 22) rfl PC.left rfl rfl HB.out HIs.out HP.out rfl ?_); intro w3 hb3 h3 f3; have HIs3 := Lib.hid h3; have F3 := Lib.hid f3; have HB3 := Lib.hid hb3; have c1 := blk_cell hb3 1 rfl; have c2 := blk_cell hb3 2 rfl; have fz1 := blk_free hb3 1; have fz2 := blk_free hb3 2; clear h3 f3 hb3)
    go_ret
    have h4 := HIs3.out.set1 (u - 1)
    have h5 := h4.1.set2 (l + 1)
    refine ⟨true, cs.set p PC.left, rfl, ⟨fun _ => HIn.out, fun _ => rfl⟩, ⟨?_, HInv.out, ?_⟩, HHas.out, by simpa using HK1.out, List.length_set .., ((F2.out.mono (fun _ h => h.elim)).then_ F3.out (fun _ h => .inl h) |>.then_ h4.2 (fun _ h => .inl h)).then_ h5.2 (fun _ h => .inl h)⟩
    · have e1 : ((cnt 1 (cs.set p PC.left) : Nat) : Int) = u - 1 := by have := HK1.out; have := HU.out; omega
      have e2 : ((cnt 2 (cs.set p PC.left) : Nat) : Int) = l + 1 := by have := HK2.out; have := HL.out; omega
      rw [e1, e2]
      exact h5.1
    · have := HK1.out; have := HK2.out; have := HR.out; rw [List.length_set]; omega
end Go.Proofs.YtjchjpmgbmeohaaDoor
