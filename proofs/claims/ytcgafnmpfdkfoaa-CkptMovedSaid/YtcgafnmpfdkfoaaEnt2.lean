/- Which entries may be: the other arms; the reference's words. -/
import Derived.Test.YtcgafnmpfdkfoaaEnt
namespace Go.Proofs.Ytcgafnmpfdkfoaa
open Go.RowKit

theorem entry_right_zero (e : E) (g : G) (w : World) (h1 : e.st = 0 ∨ e.st = 2) : Calls Try.prog 35 #[e.v, g.v] w fun r w' => r = .returned (.bool (e.right g)) ∧ Below w.heap.size w w' := by
  rcases h1 with h1 | h1
  · go_enter Try.func35, Try.ntmps35
    go_wp2
    all_goals (go_ret; exact ⟨ret_bool (by simp [E.right, *]), (below_box w _).alloc (by simp) _⟩)
  · go_enter Try.func35, Try.ntmps35
    go_wp2
    all_goals (go_ret; exact ⟨ret_bool (by simp [E.right, *]), (below_box w _).alloc (by simp) _⟩)
theorem entry_right_other (e : E) (g : G) (w : World) (h0 : ¬ e.st = 0) (h1 : ¬ e.st = 1) (h2 : ¬ e.st = 2) : Calls Try.prog 35 #[e.v, g.v] w fun r w' => r = .returned (.bool (e.right g)) ∧ Below w.heap.size w w' := by
  have n0 : (e.st == 0) = false := by simp [h0]
  have n1 : (e.st == 1) = false := by simp [h1]
  have n2 : (e.st == 2) = false := by simp [h2]
  have hr : e.right g = false := by simp [E.right, h0, h1, h2]
  rw [hr]
  clear h0 h1 h2 hr
  go_enter Try.func35, Try.ntmps35
  go_wp2
  go_ret
  exact ⟨rfl, (below_box w _).alloc (by simp) _⟩
theorem entry_right (e : E) (g : G) (w : World) : Calls Try.prog 35 #[e.v, g.v] w fun r w' => r = .returned (.bool (e.right g)) ∧ Below w.heap.size w w' := by
  by_cases h0 : e.st = 0
  · exact entry_right_zero e g w (.inl h0)
  · by_cases h2 : e.st = 2
    · exact entry_right_zero e g w (.inr h2)
    · by_cases h1 : e.st = 1
      · exact entry_right_lives e g w h1
      · exact entry_right_other e g w h0 h1 h2
theorem entry_right_b (e : E) (g : G) (w : World) (b : Bool) (h : e.right g = b) : Calls Try.prog 35 #[e.v, g.v] w fun r w' => r = .returned (.bool b) ∧ Below w.heap.size w w' := h ▸ entry_right e g w

theorem ref_holds (g : G) (z o : Int) (w : World) (hs : g.Small) : Calls Try.prog 76 #[g.v, .int .i64 z, .int .i64 o] w fun r w' => r = .returned (.bool (wi z 0 (g.all - 1) && wi o 0 (g.S - 1))) ∧ Below w.heap.size w w' := by
  have ha := hs.all_le
  unfold G.all at ha ⊢
  obtain ⟨a0, a1⟩ := ha
  by_cases h1 : 0 ≤ z
  · by_cases h2 : z < g.D * g.Z
    · by_cases h3 : 0 ≤ o
      · by_cases h4 : o < g.S
        · go_enter Try.func76, Try.ntmps76
          go_wp2
          go_ret
          exact ⟨ret_bool (by simp [wi]; omega), below_box w _⟩
        · go_enter Try.func76, Try.ntmps76
          go_wp2
          go_ret
          exact ⟨ret_bool (by simp [wi]; omega), below_box w _⟩
      · go_enter Try.func76, Try.ntmps76
        go_wp2
        go_ret
        exact ⟨ret_bool (by simp [wi]; omega), below_box w _⟩
    · go_enter Try.func76, Try.ntmps76
      go_wp2
      go_ret
      exact ⟨ret_bool (by simp [wi]; omega), below_box w _⟩
  · go_enter Try.func76, Try.ntmps76
    go_wp2
    go_ret
    exact ⟨ret_bool (by simp [wi]; omega), below_box w _⟩
end Go.Proofs.Ytcgafnmpfdkfoaa
