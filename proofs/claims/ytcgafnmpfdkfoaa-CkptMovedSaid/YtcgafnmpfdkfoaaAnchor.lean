/- Law 11's anchor. -/
import Derived.Test.YtcgafnmpfdkfoaaMap5
namespace Go.Proofs.Ytcgafnmpfdkfoaa
open Go.RowKit

def g0 : G := ⟨3, 8, 8, 4, 0, 4⟩
def e0 : E := ⟨1, 0, 8, 0, 1, 0⟩
theorem g0_right : g0.right = true := by decide
theorem set0 : setCode g0 (nones g0) 2 e0 = 0 := by decide
theorem live0 : rdI (setV g0 (nones g0) (noLive g0) 2 e0) 0 = 1 ∧ rdI (setV g0 (nones g0) (noLive g0) 2 e0) 8 = 1 ∧ rdI (setV g0 (nones g0) (noLive g0) 2 e0) 1 = 0 ∧ (setV g0 (nones g0) (noLive g0) 2 e0).length = 24 := by decide

theorem anchor11 (w : World) : Calls Try.prog 24 #[] w fun r w' => r = .returned (.bool true) ∧ Below w.heap.size w w' := by
  go_enter Try.func24, Try.ntmps24
  go_wp2_with fail
  refine (map_new_yes g0 w g0_right).mono ?_
  rintro r w1 ⟨p, bl, bv, rfl, ⟨n1, n2, n3⟩, hm, hb⟩
  have HM := Lib.hid hm
  have HB := Lib.hid hb
  clear hm hb
  go_wp2_with fail
  refine (map_set w1 p bl bv g0 _ _ HM.out (MapOk.new g0_right) 2 e0).mono ?_
  rintro r w2 ⟨rfl, hm2, hk2⟩
  have HM2 := Lib.hid hm2
  have HK2 := Lib.hid hk2
  obtain ⟨l0, l1, l2, l3⟩ := live0
  clear hm2 hk2
  rw [set0]
  go_wp2_with fail
  refine (map_live w2 p bl bv g0 _ _ HM2.out 0 (by omega) (by omega)).mono ?_
  rintro r w3 ⟨rfl, rfl⟩
  go_wp2_with fail
  refine (map_live w2 p bl bv g0 _ _ HM2.out 8 (by omega) (by omega)).mono ?_
  rintro r w3 ⟨rfl, rfl⟩
  go_wp2_with fail
  refine (map_live w2 p bl bv g0 _ _ HM2.out 1 (by omega) (by omega)).mono ?_
  rintro r w3 ⟨rfl, rfl⟩
  go_wp2
  go_ret
  exact ⟨rfl, HB.out.trans ((HK2.out.mono (B' := w.heap.size) (by have := HB.out.size; omega) (fun _ h => h)).below (by simp; omega))⟩
end Go.Proofs.Ytcgafnmpfdkfoaa
