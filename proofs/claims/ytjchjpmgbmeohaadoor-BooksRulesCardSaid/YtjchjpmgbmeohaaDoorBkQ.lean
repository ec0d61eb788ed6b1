/- Books: the transfers' names; Account, Kept. -/
import Derived.Test.YtjchjpmgbmeohaaDoorBkP
set_option linter.unusedSimpArgs false
set_option linter.unusedVariables false
namespace Go.Proofs.YtjchjpmgbmeohaaDoor
open Go.RowKit

section
variable {w w' : World} {lab : Nat → Nat} {d : Dd} {r : Raw} {es : List Ent} {big c : Nat}
theorem Sta.renms (h : Sta w lab d r es big) {f : Nm → Option Int} {big' : Nat} (hf : Fr (fun k => lab k = 5) w w') (ht : TabS w' (Gro (fun k => lab k = 5) w w') d.N f big') (hb : big ≤ big') : Sta w' (ext lab w.heap.size w'.heap.size 5) d { r with nms := f } es big' := by
  have hr := ext_rel (c := 5) h hf.size
  have hn : ∀ c, c ≠ 5 → ∀ k, lab k = 5 → lab k ≠ c := fun c hc k hk e => hc (by rw [← e, hk])
  obtain ⟨lv, sv, qv, ps, hp, b⟩ := h.bb
  obtain ⟨cs, t1, t2⟩ := ht
  exact ⟨⟨lv, sv, qv, ps, hp, (b.rel h.labB hf (fun k hk => ⟨hn 1 (by decide) k hk, hn 6 (by decide) k hk, hn 7 (by decide) k hk, hn 8 (by decide) k hk⟩) hr (r' := { r with nms := f }) rfl rfl rfl rfl).more hb⟩, by rw [hr.nz _ (by rw [h.labB]; decide), h.labB], h.acc.rel (by decide) hf (hn 2 (by decide)) hr, h.kep.rel (by decide) hf (hn 3 (by decide)) hr,
    tab_more (h.ids.rel (by decide) hf (hn 4 (by decide)) hr) hb, ⟨cs, t1.mono (fun k hk => ext_gro h (by decide) hk) (fun k hk => ext_in h (by decide) hf.size hk), t2⟩, hr.lt, ents_rel h.ents hf (hn 9 (by decide)) hr⟩
theorem nmGetS (w : World) (lab : Nat → Nat) (d : Dd) (r : Raw) (es : List Ent) (big : Nat) (x : Nm) (h : Sta w lab d r es big) :
    Calls Tryd.prog 55 #[.pointer (some ⟨d.N, 0, none⟩), .agg #[.int .u64 x.hi, .int .u64 x.lo]] w fun e w' => e = .returned (.tuple #[.int .i64 ((r.nms x).getD 0), .bool (r.nms x).isSome]) ∧ Fr (fun _ => False) w w' := by
  obtain ⟨cs, h1, h2, h3⟩ := h.nms
  refine (get_any w _ d.N cs x h1).mono ?_
  rintro e w' ⟨a, b, rfl, hab, hf⟩
  refine ⟨?_, hf⟩
  rcases hab with ⟨rfl, hh⟩ | ⟨rfl, rfl, hh⟩
  · rw [(h2 x a).1 hh]; rfl
  · have : r.nms x = none := by
      cases hx : r.nms x with
      | none => rfl
      | some a => exact (hh (has_in ((h2 x a).2 hx))).elim
    rw [this]; rfl
theorem nmPutS (w : World) (lab : Nat → Nat) (d : Dd) (r : Raw) (es : List Ent) (big : Nat) (x : Nm) (a : Int) (h : Sta w lab d r es big) (hb : big ≤ 100000) :
    Calls Tryd.prog 57 #[.pointer (some ⟨d.N, 0, none⟩), .agg #[.int .u64 x.hi, .int .u64 x.lo], .int .i64 a] w fun e w' => e = .returned (.bool (r.nms x).isNone) ∧ ∃ lab', Sta w' lab' d { r with nms := upd r.nms x (some a) } es (big + 1) ∧ Stp w.heap.size w lab w' lab' := by
  obtain ⟨cs, h1, h2, h3⟩ := h.nms
  refine (put_any w _ d.N cs x a h1 (by omega)).mono ?_
  intro e w' hp
  obtain ⟨rfl, ht, hf⟩ := tab_put h2 h3 hp
  exact ⟨rfl, _, h.renms hf ht (Nat.le_succ _), ext_stp (Nat.le_refl _) (hf.mono (fun k hk => by rw [hk]; decide))⟩
theorem nmDropS (w : World) (lab : Nat → Nat) (d : Dd) (r : Raw) (es : List Ent) (big : Nat) (x : Nm) (h : Sta w lab d r es big) :
    Calls Tryd.prog 60 #[.pointer (some ⟨d.N, 0, none⟩), .agg #[.int .u64 x.hi, .int .u64 x.lo]] w fun e w' => e = .returned (.bool (r.nms x).isSome) ∧ ∃ lab', Sta w' lab' d { r with nms := upd r.nms x none } es big ∧ Stp w.heap.size w lab w' lab' := by
  obtain ⟨cs, h1, h2, h3⟩ := h.nms
  refine (drop_any w _ d.N cs x h1).mono ?_
  intro e w' hp
  obtain ⟨rfl, ⟨cs', t1, t2⟩, hf⟩ := tab_drop h2 h3 hp
  exact ⟨rfl, _, h.renms hf ⟨cs', t1.mono (fun k hk => .inl hk) (fun k hk => hk.elim (fun hk => Nat.lt_of_lt_of_le (h.lt k (by rw [hk]; decide)) hf.size) (fun hk => hk.2)), t2⟩ (Nat.le_refl _), ext_stp (Nat.le_refl _) (hf.mono (fun k hk => by rw [hk]; decide))⟩
end

/-- What Account finds. -/
def acctR (r : Raw) (id : Nm) : Option Acc := (r.ids id).bind (atZ r.accs)
set_option maxRecDepth 4000 in
set_option maxHeartbeats 3200000 in
theorem acctS (w : World) (lab : Nat → Nat) (d : Dd) (r : Raw) (es : List Ent) (big : Nat) (id : Nm) (h : Sta w lab d r es big) (hl : r.accs.length ≤ 1000000) :
    Calls Tryd.prog 32 #[.pointer (some ⟨d.B, 0, none⟩), .agg #[.int .u64 id.hi, .int .u64 id.lo]] w fun e w' => e = .returned (.tuple #[.agg ((acctR r id).getD Acc.zero).cells.toArray, .bool (acctR r id).isSome]) ∧ Fr (fun _ => False) w w' := by
  have HS := Lib.hid ((h.alloc (.cells #[.int .u64 id.hi, .int .u64 id.lo] 24)).alloc (.cells #[.int .u64 0, .int .u64 0, .int .u64 0, .int .u64 0, .int .u64 0, .int .u64 0, .int .u64 0, .int .u64 0, .int .u64 0, .int .u64 0, .int .i64 0, .int .i64 0, .int .i64 0, .int .i64 0] 26))
  obtain ⟨k1, -, k3, -, -, -, -, -⟩ := HS.out.cells
  have B0 := Lib.hid (blk_alloc (heap_alloc_new w (.cells #[.int .u64 id.hi, .int .u64 id.lo] 24)) (.cells #[.int .u64 0, .int .u64 0, .int .u64 0, .int .u64 0, .int .u64 0, .int .u64 0, .int .u64 0, .int .u64 0, .int .u64 0, .int .u64 0, .int .i64 0, .int .i64 0, .int .i64 0, .int .i64 0] 26))
  have B1 := Lib.hid (blk1 w (.cells #[.int .u64 id.hi, .int .u64 id.lo] 24) (.cells #[.int .u64 0, .int .u64 0, .int .u64 0, .int .u64 0, .int .u64 0, .int .u64 0, .int .u64 0, .int .u64 0, .int .u64 0, .int .u64 0, .int .i64 0, .int .i64 0, .int .i64 0, .int .i64 0] 26))
  have s0 := blk_cell B0.out 0 rfl
  have s1 := blk_cell B0.out 1 rfl
  have HF := Lib.hid (((Fr.refl (fun _ => False) w).alloc (.cells #[.int .u64 id.hi, .int .u64 id.lo] 24)).alloc (.cells #[.int .u64 0, .int .u64 0, .int .u64 0, .int .u64 0, .int .u64 0, .int .u64 0, .int .u64 0, .int .u64 0, .int .u64 0, .int .u64 0, .int .i64 0, .int .i64 0, .int .i64 0, .int .i64 0] 26))
  have HGet := Lib.hid (fun W (h : Sta W lab d r es big) => idGetS W lab d r es big id h)
  have HL := Lib.hid hl
  obtain ⟨gi, hgi⟩ : ∃ z : Int, (r.ids id).getD 0 = z := ⟨_, rfl⟩
  obtain ⟨gb, hgb⟩ : ∃ z : Bool, (r.ids id).isSome = z := ⟨_, rfl⟩
  have HGb := Lib.hid hgb
  have HGi := Lib.hid hgi
  rw [hgi, hgb] at HGet
  clear h hl hgi hgb
  go_enter Tryd.func32, Tryd.ntmps32
  go_upto_region 3 with fail
  go_cut [6, 7] from 11 (fun v6 v7 w' => v6 = .int .i64 gi ∧ v7 = .bool gb ∧ Fr (fun _ => False) ((w.alloc (.cells #[.int .u64 id.hi, .int .u64 id.lo] 24)).alloc (.cells #[.int .u64 0, .int .u64 0, .int .u64 0, .int .u64 0, .int .u64 0, .int .u64 0, .int .u64 0, .int .u64 0, .int .u64 0, .int .u64 0, .int .i64 0, .int .i64 0, .int .i64 0, .int .i64 0] 26)) w')
  case first =>
    go_region_held3 (fun w' => w'.cell? ⟨d.B, 3, none⟩ = some (Value.pointer (some ⟨d.I, 0, none⟩)) ∧ w'.cell? ⟨w.heap.size, 0, none⟩ = some (Value.int .u64 id.hi) ∧ w'.cell? ⟨w.heap.size, 1, none⟩ = some (Value.int .u64 id.lo))
      (first | exact ⟨k3, s0, s1⟩ | exact ⟨q3, q0, q1⟩ | go_keep)
      (first | (go_at_call 55; go_must (with_reducible refine (HGet.out _ HS.out.drew).mono ?_); rintro e w2 ⟨rfl, f2⟩; have q3 := f2.cell (p := ⟨d.B, 3, none⟩) k3 (fun h => h); have q0 := blk_cell (f2.blk (blk_drew B0.out) (fun h => h)) 0 rfl; have q1 := blk_cell (f2.blk (blk_drew B0.out) (fun h => h)) 1 rfl; have F2 := Lib.hid f2; clear f2))
    go_wp2_with fail
    go_meet
    exact ⟨rfl, rfl, (Fr.refl _ _).drew.then_ F2.out (fun _ h => h.elim)⟩
  case rest =>
  obtain ⟨rfl, rfl, fc⟩ := hcut
  have Fc := Lib.hid (HF.out.then_ fc (fun _ h => h.elim))
  have HSc := Lib.hid (HS.out.fr fc (fun _ h => h.elim))
  have Bc1 := Lib.hid (fc.blk B1.out (fun h => h))
  have m1 := fc.cell (p := ⟨d.B, 1, none⟩) k1 (fun h => h)
  clear fc k1 k3 s0 s1
  cases gb with
  | false =>
    have hv := Lib.hid (show acctR r id = none from by have := HGb.out; rw [acctR]; cases hx : r.ids id with | none => rfl | some v => rw [hx] at this; cases this)
    go_wp2_with (first | ((refine wpList_store_row rfl 26 (.tmp 4) (.tmp 22) rfl (w.heap.size + 1) #[.int .u64 0, .int .u64 0, .int .u64 0, .int .u64 0, .int .u64 0, .int .u64 0, .int .u64 0, .int .u64 0, .int .u64 0, .int .u64 0, .int .i64 0, .int .i64 0, .int .i64 0, .int .i64 0] rfl rfl Bc1.out rfl rfl (by simp [Acc.cells, Acc.zero, Value.oneCell']) ?_); intro w9 hb9 f9; have HB9 := Lib.hid hb9; have F9 := Lib.hid f9; clear hb9 f9) | fail)
    refine bodyPost_ret (results_cell2 (p := 4) (q := 5) rfl _ _ (w.heap.size + 1) 26 _ (0, 0) _ rfl HB9.out Tryd.underlying26 rfl rfl) rfl ?_
    exact ⟨by rw [hv.out]; rfl, Fc.out.then_ F9.out (fun k hk => .inr (by omega))⟩
  | true =>
    have hv := Lib.hid (show acctR r id = atZ r.accs gi from by have := HGb.out; have hg := HGi.out; rw [acctR]; cases hx : r.ids id with | none => rw [hx] at this; cases this | some v => rw [hx] at hg; rw [← hg]; rfl)
    have HAt := Lib.hid (accAt wc _ d.A d.B r.accs gi HSc.out.acc HL.out)
    obtain ⟨V, hV⟩ : ∃ V, ((atZ r.accs gi).getD Acc.zero).cells.toArray = V := ⟨_, rfl⟩
    obtain ⟨Vb, hVb⟩ : ∃ V, (atZ r.accs gi).isSome = V := ⟨_, rfl⟩
    have HVs := Lib.hid (show V.size = 14 from by rw [← hV]; rfl)
    have HVo := Lib.hid (show V.all (·.oneCell') = true from by rw [← hV]; simp [Acc.cells, Value.oneCell'])
    rw [hV, hVb] at HAt
    have HV := Lib.hid (And.intro hV hVb)
    clear hV hVb
    go_wp2_with fail
    refine HAt.out.mono ?_
    rintro e w7 ⟨rfl, f7⟩
    have B7 := Lib.hid (f7.blk Bc1.out (fun h => h))
    have F7 := Lib.hid (Fc.out.then_ f7 (fun _ h => h.elim))
    clear f7
    go_wp2_with (first | ((refine wpList_store_row rfl 26 (.tmp 4) (.tmp 29) rfl (w.heap.size + 1) V rfl rfl B7.out HVs.out (by rw [HVs.out]; rfl) HVo.out ?_); intro w9 hb9 f9; have HB9 := Lib.hid hb9; have F9 := Lib.hid f9; clear hb9 f9) | fail)
    refine bodyPost_ret (results_cell2 (p := 4) (q := 5) rfl _ _ (w.heap.size + 1) 26 _ (0, 0) _ rfl HB9.out Tryd.underlying26 rfl (by rw [HVs.out]; rfl)) rfl ?_
    exact ⟨by rw [hv.out, HV.out.1, HV.out.2]; rfl, F7.out.then_ F9.out (fun k hk => .inr (by omega))⟩
/-- What Kept finds. -/
def keptR (r : Raw) (id : Nm) : Option Kp := (r.nms id).bind (atZ r.kept)
set_option maxRecDepth 4000 in
set_option maxHeartbeats 3200000 in
theorem keptS (w : World) (lab : Nat → Nat) (d : Dd) (r : Raw) (es : List Ent) (big : Nat) (id : Nm) (h : Sta w lab d r es big) (hl : r.kept.length ≤ 1000000) :
    Calls Tryd.prog 30 #[.pointer (some ⟨d.B, 0, none⟩), .agg #[.int .u64 id.hi, .int .u64 id.lo]] w fun e w' => e = .returned (.tuple #[.agg ((keptR r id).getD Kp.zero).cells.toArray, .bool (keptR r id).isSome]) ∧ Fr (fun _ => False) w w' := by
  have HS := Lib.hid ((h.alloc (.cells #[.int .u64 id.hi, .int .u64 id.lo] 24)).alloc (.cells #[.int .u64 0, .int .u64 0, .int .u64 0, .int .u64 0, .int .u64 0, .int .u64 0, .int .u64 0, .int .u64 0, .int .u64 0, .int .u64 0, .int .i64 0, .int .i64 0, .int .i64 0, .int .i64 0, .int .i64 0, .int .i64 0, .int .u64 0, .int .u64 0, .int .u64 0, .int .u64 0, .int .u64 0, .int .u64 0, .int .u64 0, .int .u64 0, .int .u64 0, .int .u64 0, .int .i64 0, .int .i64 0, .int .i64 0, .int .i64 0, .int .i64 0, .int .i64 0, .int .i64 0] 63))
  obtain ⟨-, k1, -, k3, -, -, -, -⟩ := HS.out.cells
  have B0 := Lib.hid (blk_alloc (heap_alloc_new w (.cells #[.int .u64 id.hi, .int .u64 id.lo] 24)) (.cells #[.int .u64 0, .int .u64 0, .int .u64 0, .int .u64 0, .int .u64 0, .int .u64 0, .int .u64 0, .int .u64 0, .int .u64 0, .int .u64 0, .int .i64 0, .int .i64 0, .int .i64 0, .int .i64 0, .int .i64 0, .int .i64 0, .int .u64 0, .int .u64 0, .int .u64 0, .int .u64 0, .int .u64 0, .int .u64 0, .int .u64 0, .int .u64 0, .int .u64 0, .int .u64 0, .int .i64 0, .int .i64 0, .int .i64 0, .int .i64 0, .int .i64 0, .int .i64 0, .int .i64 0] 63))
  have B1 := Lib.hid (blk1 w (.cells #[.int .u64 id.hi, .int .u64 id.lo] 24) (.cells #[.int .u64 0, .int .u64 0, .int .u64 0, .int .u64 0, .int .u64 0, .int .u64 0, .int .u64 0, .int .u64 0, .int .u64 0, .int .u64 0, .int .i64 0, .int .i64 0, .int .i64 0, .int .i64 0, .int .i64 0, .int .i64 0, .int .u64 0, .int .u64 0, .int .u64 0, .int .u64 0, .int .u64 0, .int .u64 0, .int .u64 0, .int .u64 0, .int .u64 0, .int .u64 0, .int .i64 0, .int .i64 0, .int .i64 0, .int .i64 0, .int .i64 0, .int .i64 0, .int .i64 0] 63))
  have s0 := blk_cell B0.out 0 rfl
  have s1 := blk_cell B0.out 1 rfl
  have HF := Lib.hid (((Fr.refl (fun _ => False) w).alloc (.cells #[.int .u64 id.hi, .int .u64 id.lo] 24)).alloc (.cells #[.int .u64 0, .int .u64 0, .int .u64 0, .int .u64 0, .int .u64 0, .int .u64 0, .int .u64 0, .int .u64 0, .int .u64 0, .int .u64 0, .int .i64 0, .int .i64 0, .int .i64 0, .int .i64 0, .int .i64 0, .int .i64 0, .int .u64 0, .int .u64 0, .int .u64 0, .int .u64 0, .int .u64 0, .int .u64 0, .int .u64 0, .int .u64 0, .int .u64 0, .int .u64 0, .int .i64 0, .int .i64 0, .int .i64 0, .int .i64 0, .int .i64 0, .int .i64 0, .int .i64 0] 63))
  have HGet := Lib.hid (fun W (h : Sta W lab d r es big) => nmGetS W lab d r es big id h)
  have HL := Lib.hid hl
  obtain ⟨gi, hgi⟩ : ∃ z : Int, (r.nms id).getD 0 = z := ⟨_, rfl⟩
  obtain ⟨gb, hgb⟩ : ∃ z : Bool, (r.nms id).isSome = z := ⟨_, rfl⟩
  have HGb := Lib.hid hgb
  have HGi := Lib.hid hgi
  rw [hgi, hgb] at HGet
  clear h hl hgi hgb
  go_enter Tryd.func30, Tryd.ntmps30
  go_upto_region 3 with fail
  go_cut [6, 7] from 11 (fun v6 v7 w' => v6 = .int .i64 gi ∧ v7 = .bool gb ∧ Fr (fun _ => False) ((w.alloc (.cells #[.int .u64 id.hi, .int .u64 id.lo] 24)).alloc (.cells #[.int .u64 0, .int .u64 0, .int .u64 0, .int .u64 0, .int .u64 0, .int .u64 0, .int .u64 0, .int .u64 0, .int .u64 0, .int .u64 0, .int .i64 0, .int .i64 0, .int .i64 0, .int .i64 0, .int .i64 0, .int .i64 0, .int .u64 0, .int .u64 0, .int .u64 0, .int .u64 0, .int .u64 0, .int .u64 0, .int .u64 0, .int .u64 0, .int .u64 0, .int .u64 0, .int .i64 0, .int .i64 0, .int .i64 0, .int .i64 0, .int .i64 0, .int .i64 0, .int .i64 0] 63)) w')
  case first =>
    go_region_held3 (fun w' => w'.cell? ⟨d.B, 4, none⟩ = some (Value.pointer (some ⟨d.N, 0, none⟩)) ∧ w'.cell? ⟨w.heap.size, 0, none⟩ = some (Value.int .u64 id.hi) ∧ w'.cell? ⟨w.heap.size, 1, none⟩ = some (Value.int .u64 id.lo))
      (first | exact ⟨k3, s0, s1⟩ | exact ⟨q3, q0, q1⟩ | go_keep)
      (first | (go_at_call 55; go_must (with_reducible refine (HGet.out _ HS.out.drew).mono ?_); rintro e w2 ⟨rfl, f2⟩; have q3 := f2.cell (p := ⟨d.B, 4, none⟩) k3 (fun h => h); have q0 := blk_cell (f2.blk (blk_drew B0.out) (fun h => h)) 0 rfl; have q1 := blk_cell (f2.blk (blk_drew B0.out) (fun h => h)) 1 rfl; have F2 := Lib.hid f2; clear f2))
    go_wp2_with fail
    go_meet
    exact ⟨rfl, rfl, (Fr.refl _ _).drew.then_ F2.out (fun _ h => h.elim)⟩
  case rest =>
  obtain ⟨rfl, rfl, fc⟩ := hcut
  have Fc := Lib.hid (HF.out.then_ fc (fun _ h => h.elim))
  have HSc := Lib.hid (HS.out.fr fc (fun _ h => h.elim))
  have Bc1 := Lib.hid (fc.blk B1.out (fun h => h))
  have m1 := fc.cell (p := ⟨d.B, 2, none⟩) k1 (fun h => h)
  clear fc k1 k3 s0 s1
  cases gb with
  | false =>
    have hv := Lib.hid (show keptR r id = none from by have := HGb.out; rw [keptR]; cases hx : r.nms id with | none => rfl | some v => rw [hx] at this; cases this)
    go_wp2_with (first | ((refine wpList_store_row rfl 63 (.tmp 4) (.tmp 22) rfl (w.heap.size + 1) #[.int .u64 0, .int .u64 0, .int .u64 0, .int .u64 0, .int .u64 0, .int .u64 0, .int .u64 0, .int .u64 0, .int .u64 0, .int .u64 0, .int .i64 0, .int .i64 0, .int .i64 0, .int .i64 0, .int .i64 0, .int .i64 0, .int .u64 0, .int .u64 0, .int .u64 0, .int .u64 0, .int .u64 0, .int .u64 0, .int .u64 0, .int .u64 0, .int .u64 0, .int .u64 0, .int .i64 0, .int .i64 0, .int .i64 0, .int .i64 0, .int .i64 0, .int .i64 0, .int .i64 0] rfl rfl Bc1.out rfl rfl (by simp [Kp.cells, Tx.cells, Kp.zero, Value.oneCell']) ?_); intro w9 hb9 f9; have HB9 := Lib.hid hb9; have F9 := Lib.hid f9; clear hb9 f9) | fail)
    refine bodyPost_ret (results_cell2 (p := 4) (q := 5) rfl _ _ (w.heap.size + 1) 63 _ (0, 0) _ rfl HB9.out Tryd.underlying63 rfl rfl) rfl ?_
    exact ⟨by rw [hv.out]; rfl, Fc.out.then_ F9.out (fun k hk => .inr (by omega))⟩
  | true =>
    have hv := Lib.hid (show keptR r id = atZ r.kept gi from by have := HGb.out; have hg := HGi.out; rw [keptR]; cases hx : r.nms id with | none => rw [hx] at this; cases this | some v => rw [hx] at hg; rw [← hg]; rfl)
    have HAt := Lib.hid (kepAt wc _ d.K d.B r.kept gi HSc.out.kep HL.out)
    obtain ⟨V, hV⟩ : ∃ V, ((atZ r.kept gi).getD Kp.zero).cells.toArray = V := ⟨_, rfl⟩
    obtain ⟨Vb, hVb⟩ : ∃ V, (atZ r.kept gi).isSome = V := ⟨_, rfl⟩
    have HVs := Lib.hid (show V.size = 33 from by rw [← hV]; rfl)
    have HVo := Lib.hid (show V.all (·.oneCell') = true from by rw [← hV]; simp [Kp.cells, Tx.cells, Value.oneCell'])
    rw [hV, hVb] at HAt
    have HV := Lib.hid (And.intro hV hVb)
    clear hV hVb
    go_wp2_with fail
    refine HAt.out.mono ?_
    rintro e w7 ⟨rfl, f7⟩
    have B7 := Lib.hid (f7.blk Bc1.out (fun h => h))
    have F7 := Lib.hid (Fc.out.then_ f7 (fun _ h => h.elim))
    clear f7
    go_wp2_with (first | ((refine wpList_store_row rfl 63 (.tmp 4) (.tmp 29) rfl (w.heap.size + 1) V rfl rfl B7.out HVs.out (by rw [HVs.out]; rfl) HVo.out ?_); intro w9 hb9 f9; have HB9 := Lib.hid hb9; have F9 := Lib.hid f9; clear hb9 f9) | fail)
    refine bodyPost_ret (results_cell2 (p := 4) (q := 5) rfl _ _ (w.heap.size + 1) 63 _ (0, 0) _ rfl HB9.out Tryd.underlying63 rfl (by rw [HVs.out]; rfl)) rfl ?_
    exact ⟨by rw [hv.out, HV.out.1, HV.out.2]; rfl, F7.out.then_ F9.out (fun k hk => .inr (by omega))⟩
end Go.Proofs.YtjchjpmgbmeohaaDoor
