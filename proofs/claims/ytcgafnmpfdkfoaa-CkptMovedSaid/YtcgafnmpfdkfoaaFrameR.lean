/- May a frame be: frame.Right; two frames compared. -/
import Derived.Test.YtcgafnmpfdkfoaaFrameV
import Derived.Test.YtcgafnmpfdkfoaaPure12b
import Derived.Laws.StructEq
namespace Go.Proofs.Ytcgafnmpfdkfoaa
open Go.RowKit

theorem frame_within (n l m : Int) (w : World) : Calls Try.prog 84 #[.int .i64 n, .int .i64 l, .int .i64 m] w fun e w' => e = .returned (.bool (wi n l m)) ∧ w = w' := by
  by_cases h1 : l ≤ n
  · by_cases h2 : n ≤ m
    · go_enter Try.func84, Try.ntmps84
      go_wp2
      go_ret
      exact ⟨by simp [wi, h1, h2], rfl⟩
    · go_enter Try.func84, Try.ntmps84
      go_wp2
      go_ret
      exact ⟨by simp [wi]; omega, rfl⟩
  · go_enter Try.func84, Try.ntmps84
    go_wp2
    go_ret
    exact ⟨by simp [wi]; omega, rfl⟩
def Fr.right (f : Fr) : Bool := wi f.kd 1 5 && wi f.zn 0 65535 && wi f.off 0 65535 && wi f.ep 1 4294967295 && wi f.sq 0 281474976710655
abbrev Fr.v (f : Fr) : Value := .agg f.arr
theorem Blk.fcells {w : World} {b : Nat} {t : TypeId} {f : Fr} (h : Blk w b t f.arr) : (w.cell? ⟨b, 0, none⟩ = some (.int .i64 f.kd) ∧ w.cell? ⟨b, 1, none⟩ = some (.int .i64 f.zn)) ∧ (w.cell? ⟨b, 2, none⟩ = some (.int .i64 f.off) ∧ w.cell? ⟨b, 3, none⟩ = some (.int .i64 f.ep)) ∧ w.cell? ⟨b, 4, none⟩ = some (.int .i64 f.sq) :=
  ⟨⟨by rw [h.cell]; unfold Fr.arr; simp, by rw [h.cell]; unfold Fr.arr; simp⟩, ⟨by rw [h.cell]; unfold Fr.arr; simp, by rw [h.cell]; unfold Fr.arr; simp⟩, by rw [h.cell]; unfold Fr.arr; simp⟩
theorem frame_right (f : Fr) (w : World) : Calls Try.prog 42 #[f.v] w fun e w' => e = .returned (.bool f.right) ∧ Below w.heap.size w w' := by
  obtain ⟨V0, hV0⟩ : ∃ V0, w.alloc (.cells f.arr 64) = V0 := ⟨_, rfl⟩
  have U0 : Below w.heap.size w V0 := by rw [← hV0]; exact below_box _ _
  have k0 : Blk V0 w.heap.size 64 f.arr := by rw [← hV0]; exact Blk.newAt rfl
  obtain ⟨⟨x0, x1⟩, ⟨x2, x3⟩, x4⟩ := k0.fcells
  have HU := Lib.hid U0
  clear U0 k0
  go_enter Try.func42, Try.ntmps42
  go_wp2_with (go_at_call 84; refine (frame_within _ _ _ _).mono ?_; rintro e w' ⟨rfl, rfl⟩)
  all_goals (go_ret; exact ⟨by simp [Fr.right, *], HU.out⟩)
end Go.Proofs.Ytcgafnmpfdkfoaa
