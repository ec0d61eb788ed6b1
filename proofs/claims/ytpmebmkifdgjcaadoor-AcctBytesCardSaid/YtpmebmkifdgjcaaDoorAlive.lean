/- alive of the package of laws 09. -/
import Derived.Test.YtpmebmkifdgjcaaDoorAcct
namespace Go.Proofs.YtpmebmkifdgjcaaDoor
open Go.RowKit
theorem alive_any (w : World) (hm : Most w) :
    Calls Tryd.prog 8 #[] w fun e w' => e = .returned (.bool true) ∧ Fr (fun _ => False) w w' := by
  have hpos : 0 < w.heap.size := World.block_lt_of_cell? w _ hm.hi
  have HM := Lib.hid hm
  clear hm
  have e1 := Lib.hid (show Acc.check ⟨⟨0, 1⟩, ⟨0, 0⟩, ⟨0, 0⟩, ⟨0, 0⟩, ⟨0, 0⟩, 1, 0, 0, 0⟩ = 9 from by decide)
  have e2 := Lib.hid (show Acc.check ⟨⟨0, 1⟩, ⟨0, 0⟩, ⟨0, 0⟩, ⟨0, 0⟩, ⟨0, 0⟩, 1, 1, 0, 0⟩ = 0 from by decide)
  go_enter Tryd.func8, Tryd.ntmps8
  go_wp2_with fail
  refine (check_any _ (Acc.mk ⟨0, 1⟩ ⟨0, 0⟩ ⟨0, 0⟩ ⟨0, 0⟩ ⟨0, 0⟩ 1 0 0 0) (HM.out.fr (S := fun _ => False) (by repeat (first | (with_reducible exact Fr.refl _ _) | (with_reducible refine Fr.drew ?_) | (with_reducible refine Fr.drewN ?_ _) | (with_reducible refine Fr.alloc ?_ _) | (with_reducible refine Fr.set1 ?_ _) | (with_reducible refine Fr.setNew ?_ (by omega) _))) (fun h => h))).mono ?_
  rintro e w1 ⟨rfl, f1⟩
  rw [e1.out]
  have hm1 := HM.out.fr (S := fun _ => False) (Fr.then_ (by repeat (first | (with_reducible exact Fr.refl _ _) | (with_reducible refine Fr.drew ?_) | (with_reducible refine Fr.drewN ?_ _) | (with_reducible refine Fr.alloc ?_ _) | (with_reducible refine Fr.set1 ?_ _) | (with_reducible refine Fr.setNew ?_ (by omega) _))) f1 (fun _ h => h.elim)) (fun h => h)
  have HM1 := Lib.hid hm1
  have F1 := Lib.hid f1
  clear f1 hm1
  go_wp2_with fail
  refine (check_any _ (Acc.mk ⟨0, 1⟩ ⟨0, 0⟩ ⟨0, 0⟩ ⟨0, 0⟩ ⟨0, 0⟩ 1 1 0 0) (HM1.out.fr (S := fun _ => False) (by repeat (first | (with_reducible exact Fr.refl _ _) | (with_reducible refine Fr.drew ?_) | (with_reducible refine Fr.drewN ?_ _) | (with_reducible refine Fr.alloc ?_ _) | (with_reducible refine Fr.set1 ?_ _) | (with_reducible refine Fr.setNew ?_ (by omega) _))) (fun h => h))).mono ?_
  rintro e w2 ⟨rfl, f2⟩
  rw [e2.out]
  have F2 := Lib.hid f2
  clear f2
  go_wp2_with fail
  go_ret
  exact ⟨rfl, Fr.then_ (Fr.then_ (by repeat (first | (with_reducible exact Fr.refl _ _) | (with_reducible refine Fr.drew ?_) | (with_reducible refine Fr.drewN ?_ _) | (with_reducible refine Fr.alloc ?_ _) | (with_reducible refine Fr.set1 ?_ _) | (with_reducible refine Fr.setNew ?_ (by omega) _))) F1.out (fun _ h => h.elim)) (Fr.then_ (S := fun _ => False) (by repeat (first | (with_reducible exact Fr.refl _ _) | (with_reducible refine Fr.drew ?_) | (with_reducible refine Fr.drewN ?_ _) | (with_reducible refine Fr.alloc ?_ _) | (with_reducible refine Fr.set1 ?_ _) | (with_reducible refine Fr.setNew ?_ (by omega) _))) F2.out (fun _ h => h.elim)) (fun _ h => h.elim)⟩

end Go.Proofs.YtpmebmkifdgjcaaDoor
