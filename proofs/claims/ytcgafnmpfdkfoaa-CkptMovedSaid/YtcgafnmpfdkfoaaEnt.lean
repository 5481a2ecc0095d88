/- Which entries may be: bmap's and the reference's Right come to E.right. -/
import Derived.Test.YtcgafnmpfdkfoaaMap
namespace Go.Proofs.Ytcgafnmpfdkfoaa
open Go.RowKit

theorem geom_holds_b (g : G) (z o : Int) (w : World) (b : Bool) (h : g.holds z o = b) : Calls Try.prog 41 #[g.v, .int .i64 z, .int .i64 o] w fun e w' => e = .returned (.bool b) ∧ Below w.heap.size w w' := h ▸ geom_holds g z o w

theorem G.small_of_holds {g : G} {z o : Int} (h : g.holds z o = true) : g.Small := by
  simp only [G.holds, Bool.and_eq_true] at h
  exact G.small_of_right h.1.1
theorem E.right_eq {e : E} {g : G} (h : e.st = 1) : e.right g = (g.holds e.zn e.off && g.holds e.mt e.off && (g.dom e.zn != g.dom e.mt) && decide (1 ≤ e.sq) && decide (e.sq ≤ 281474976710655) && decide (0 ≤ e.sm) && decide (e.sm ≤ 4294967295)) := by
  unfold E.right wi
  rw [if_neg (by omega)]
  simp [h, bne, Bool.and_assoc]

set_option maxHeartbeats 1000000 in
theorem entry_right_lives (e : E) (g : G) (w : World) (h1 : e.st = 1) : Calls Try.prog 35 #[e.v, g.v] w fun r w' => r = .returned (.bool (e.right g)) ∧ Below w.heap.size w w' := by
  have hfrom := @From.cell ((w.alloc e.box).alloc g.box)
  have H1 := Lib.hid h1
  have n0 : (e.st == 0) = false := by simp [h1]
  have n2 : (e.st == 2) = false := by simp [h1]
  have n1 : (e.st == 1) = true := by simp [h1]
  clear h1
  go_enter Try.func35, Try.ntmps35
  go_wp2_with fail
  refine region_from (by kernel_rfl) (by kernel_rfl) ?_
  cases c1 : g.holds e.zn e.off with
  | false =>
    repeat (go_big_quiet_step ((first | (go_at_call 41; with_reducible exact from_call (geom_holds_b _ _ _ _ _ c1)))))
    refine wpQuiet_nil ?_
    intro W hW
    go_wp2
    go_ret
    exact ⟨ret_bool (by rw [E.right_eq H1.out]; simp [c1]), ((below_box w e.box).alloc (by simp) _).trans (hW.mono (by simp; omega))⟩
  | true =>
    repeat (go_big_quiet_step ((first | (go_at_call 41; with_reducible exact from_call (geom_holds_b _ _ _ _ _ c1)))))
    cases c2 : g.holds e.mt e.off with
    | false =>
      repeat (go_big_quiet_step ((first | (go_at_call 41; with_reducible exact from_call (geom_holds_b _ _ _ _ _ c1)) | (go_at_call 41; with_reducible exact from_call (geom_holds_b _ _ _ _ _ c2)))))
      refine wpQuiet_nil ?_
      intro W hW
      go_wp2
      go_ret
      exact ⟨ret_bool (by rw [E.right_eq H1.out]; simp [c1, c2]), ((below_box w e.box).alloc (by simp) _).trans (hW.mono (by simp; omega))⟩
    | true =>
      have HS := Lib.hid (G.small_of_holds c1)
      repeat (go_big_quiet_step ((first | (go_at_call 41; with_reducible exact from_call (geom_holds_b _ _ _ _ _ c1)) | (go_at_call 41; with_reducible exact from_call (geom_holds_b _ _ _ _ _ c2)) | (go_at_call 77; exact from_call (geom_domain _ _ _ HS.out)))))
      cases c3 : (g.dom e.zn != g.dom e.mt) with
      | false =>
        repeat (go_big_quiet_step ((first | (go_at_call 41; with_reducible exact from_call (geom_holds_b _ _ _ _ _ c1)) | (go_at_call 41; with_reducible exact from_call (geom_holds_b _ _ _ _ _ c2)) | (go_at_call 77; exact from_call (geom_domain _ _ _ HS.out)))))
        refine wpQuiet_nil ?_
        intro W hW
        go_wp2
        go_ret
        exact ⟨ret_bool (by rw [E.right_eq H1.out]; simp [c1, c2, c3]), ((below_box w e.box).alloc (by simp) _).trans (hW.mono (by simp; omega))⟩
      | true =>
        repeat (go_big_quiet_step ((first | (go_at_call 41; with_reducible exact from_call (geom_holds_b _ _ _ _ _ c1)) | (go_at_call 41; with_reducible exact from_call (geom_holds_b _ _ _ _ _ c2)) | (go_at_call 77; exact from_call (geom_domain _ _ _ HS.out)))))
        cases c4 : decide (1 ≤ e.sq) with
        | false =>
          repeat (go_big_quiet_step ((first | (go_at_call 41; with_reducible exact from_call (geom_holds_b _ _ _ _ _ c1)) | (go_at_call 41; with_reducible exact from_call (geom_holds_b _ _ _ _ _ c2)) | (go_at_call 77; exact from_call (geom_domain _ _ _ HS.out)))))
          refine wpQuiet_nil ?_
          intro W hW
          go_wp2
          go_ret
          exact ⟨ret_bool (by rw [E.right_eq H1.out]; simp [c1, c2, c3, c4]), ((below_box w e.box).alloc (by simp) _).trans (hW.mono (by simp; omega))⟩
        | true =>
          repeat (go_big_quiet_step ((first | (go_at_call 41; with_reducible exact from_call (geom_holds_b _ _ _ _ _ c1)) | (go_at_call 41; with_reducible exact from_call (geom_holds_b _ _ _ _ _ c2)) | (go_at_call 77; exact from_call (geom_domain _ _ _ HS.out)))))
          cases c5 : decide (e.sq ≤ 281474976710655) with
          | false =>
            repeat (go_big_quiet_step ((first | (go_at_call 41; with_reducible exact from_call (geom_holds_b _ _ _ _ _ c1)) | (go_at_call 41; with_reducible exact from_call (geom_holds_b _ _ _ _ _ c2)) | (go_at_call 77; exact from_call (geom_domain _ _ _ HS.out)))))
            refine wpQuiet_nil ?_
            intro W hW
            go_wp2
            go_ret
            exact ⟨ret_bool (by rw [E.right_eq H1.out]; simp [c1, c2, c3, c4, c5]), ((below_box w e.box).alloc (by simp) _).trans (hW.mono (by simp; omega))⟩
          | true =>
            repeat (go_big_quiet_step ((first | (go_at_call 41; with_reducible exact from_call (geom_holds_b _ _ _ _ _ c1)) | (go_at_call 41; with_reducible exact from_call (geom_holds_b _ _ _ _ _ c2)) | (go_at_call 77; exact from_call (geom_domain _ _ _ HS.out)))))
            cases c6 : decide (0 ≤ e.sm) with
            | false =>
              repeat (go_big_quiet_step ((first | (go_at_call 41; with_reducible exact from_call (geom_holds_b _ _ _ _ _ c1)) | (go_at_call 41; with_reducible exact from_call (geom_holds_b _ _ _ _ _ c2)) | (go_at_call 77; exact from_call (geom_domain _ _ _ HS.out)))))
              refine wpQuiet_nil ?_
              intro W hW
              go_wp2
              go_ret
              exact ⟨ret_bool (by rw [E.right_eq H1.out]; simp [c1, c2, c3, c4, c5, c6]), ((below_box w e.box).alloc (by simp) _).trans (hW.mono (by simp; omega))⟩
            | true =>
              repeat (go_big_quiet_step ((first | (go_at_call 41; with_reducible exact from_call (geom_holds_b _ _ _ _ _ c1)) | (go_at_call 41; with_reducible exact from_call (geom_holds_b _ _ _ _ _ c2)) | (go_at_call 77; exact from_call (geom_domain _ _ _ HS.out)))))
              cases c7 : decide (e.sm ≤ 4294967295) with
              | false =>
                repeat (go_big_quiet_step ((first | (go_at_call 41; with_reducible exact from_call (geom_holds_b _ _ _ _ _ c1)) | (go_at_call 41; with_reducible exact from_call (geom_holds_b _ _ _ _ _ c2)) | (go_at_call 77; exact from_call (geom_domain _ _ _ HS.out)))))
                refine wpQuiet_nil ?_
                intro W hW
                go_wp2
                go_ret
                exact ⟨ret_bool (by rw [E.right_eq H1.out]; simp [c1, c2, c3, c4, c5, c6, c7]), ((below_box w e.box).alloc (by simp) _).trans (hW.mono (by simp; omega))⟩
              | true =>
                repeat (go_big_quiet_step ((first | (go_at_call 41; with_reducible exact from_call (geom_holds_b _ _ _ _ _ c1)) | (go_at_call 41; with_reducible exact from_call (geom_holds_b _ _ _ _ _ c2)) | (go_at_call 77; exact from_call (geom_domain _ _ _ HS.out)))))
                refine wpQuiet_nil ?_
                intro W hW
                go_wp2
                go_ret
                exact ⟨ret_bool (by rw [E.right_eq H1.out]; simp [c1, c2, c3, c4, c5, c6, c7]), ((below_box w e.box).alloc (by simp) _).trans (hW.mono (by simp; omega))⟩
end Go.Proofs.Ytcgafnmpfdkfoaa
