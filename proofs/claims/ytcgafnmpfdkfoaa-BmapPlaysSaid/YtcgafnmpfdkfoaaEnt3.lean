/- Which entries may be: the reference's E.Right in a right geometry. -/
import Derived.Test.YtcgafnmpfdkfoaaEnt2
namespace Go.Proofs.Ytcgafnmpfdkfoaa
open Go.RowKit

theorem ref_holds_b (g : G) (z o : Int) (w : World) (hs : g.Small) (b : Bool) (h : (wi z 0 (g.all - 1) && wi o 0 (g.S - 1)) = b) : Calls Try.prog 76 #[g.v, .int .i64 z, .int .i64 o] w fun r w' => r = .returned (.bool b) ∧ Below w.heap.size w w' := h ▸ ref_holds g z o w hs
theorem ref_entry_zero (e : E) (g : G) (w : World) (h1 : e.st = 0 ∨ e.st = 2) : Calls Try.prog 34 #[e.v, g.v] w fun r w' => r = .returned (.bool (e.right g)) ∧ Below w.heap.size w w' := by
  rcases h1 with h1 | h1
  · go_enter Try.func34, Try.ntmps34
    go_wp2
    all_goals (go_ret; exact ⟨ret_bool (by simp [E.right, *]; try (by_cases hh : e.sm = 0 <;> simp [hh])), (below_box w _).alloc (by simp) _⟩)
  · go_enter Try.func34, Try.ntmps34
    go_wp2
    all_goals (go_ret; exact ⟨ret_bool (by simp [E.right, *]; try (by_cases hh : e.sm = 0 <;> simp [hh])), (below_box w _).alloc (by simp) _⟩)
theorem ref_entry_other (e : E) (g : G) (w : World) (h0 : ¬ e.st = 0) (h1 : ¬ e.st = 1) (h2 : ¬ e.st = 2) : Calls Try.prog 34 #[e.v, g.v] w fun r w' => r = .returned (.bool (e.right g)) ∧ Below w.heap.size w w' := by
  have n0 : (e.st == 0) = false := by simp [h0]
  have n1 : (e.st != 1) = true := by simp [h1]
  have n2 : (e.st == 2) = false := by simp [h2]
  have hr : e.right g = false := by simp [E.right, h0, h1, h2]
  rw [hr]
  clear h0 h1 h2 hr
  go_enter Try.func34, Try.ntmps34
  go_wp2
  go_ret
  exact ⟨rfl, (below_box w _).alloc (by simp) _⟩
theorem holds_of_small {g : G} (hr : g.right = true) (z o : Int) : g.holds z o = (wi z 0 (g.all - 1) && wi o 0 (g.S - 1)) := by simp [G.holds, hr]
/-- A first or second zone that isn't there. -/
theorem ref_entry_out (e : E) (g : G) (w : World) (hr : g.right = true) (h1 : e.st = 1) (b1 b2 : Bool) (c1 : (wi e.zn 0 (g.all - 1) && wi e.off 0 (g.S - 1)) = b1) (c2 : (wi e.mt 0 (g.all - 1) && wi e.off 0 (g.S - 1)) = b2) (hb : (b1 && b2) = false) :
    Calls Try.prog 34 #[e.v, g.v] w fun r w' => r = .returned (.bool false) ∧ Below w.heap.size w w' := by
  have hs := Lib.hid (G.small_of_right hr)
  have n0 : (e.st == 0) = false := by simp [h1]
  have n1 : (e.st != 1) = false := by simp [h1]
  have n2 : (e.st == 2) = false := by simp [h1]
  clear h1
  cases b1 with
  | false =>
    clear hb
    go_enter Try.func34, Try.ntmps34
    go_wp2_with fail
    refine (ref_holds_b _ _ _ _ hs.out _ c1).mono ?_
    rintro r w1 ⟨rfl, hb⟩
    go_wp2
    go_ret
    exact ⟨rfl, below_then ((below_box w _).alloc (by simp) _) (by simp; omega) hb⟩
  | true =>
    cases b2 with
    | true => cases hb
    | false =>
      clear hb
      go_enter Try.func34, Try.ntmps34
      go_wp2_with fail
      refine (ref_holds_b _ _ _ _ hs.out _ c1).mono ?_
      rintro r w1 ⟨rfl, hb⟩
      obtain ⟨hc, hf⟩ := bcell hb
      have hz : w.heap.size + 1 < w1.heap.size := by have := hb.size; simp at this; omega
      go_wp2_with fail
      refine (ref_holds_b _ _ _ _ hs.out _ c2).mono ?_
      rintro r w2 ⟨rfl, hb2⟩
      go_wp2
      go_ret
      exact ⟨rfl, (below_then ((below_box w _).alloc (by simp) _) (by simp; omega) hb).trans (hb2.mono (by omega))⟩
theorem E.right_in {e : E} {g : G} (hr : g.right = true) (h : e.st = 1) (c1 : (wi e.zn 0 (g.all - 1) && wi e.off 0 (g.S - 1)) = true) (c2 : (wi e.mt 0 (g.all - 1) && wi e.off 0 (g.S - 1)) = true) :
    e.right g = ((e.zn / g.Z != e.mt / g.Z) && decide (1 ≤ e.sq) && decide (e.sq ≤ 281474976710655) && decide (0 ≤ e.sm) && decide (e.sm ≤ 4294967295)) := by
  rw [E.right_eq h, holds_of_small hr, holds_of_small hr, c1, c2]
  simp only [Bool.and_eq_true, wi_true] at c1 c2
  have d1 : g.dom e.zn = e.zn / g.Z := by unfold G.dom; rw [if_neg (by omega)]
  have d2 : g.dom e.mt = e.mt / g.Z := by unfold G.dom; rw [if_neg (by omega)]
  rw [d1, d2]; rfl
set_option maxHeartbeats 1000000 in
theorem ref_entry_in (e : E) (g : G) (w : World) (hr : g.right = true) (h1 : e.st = 1) (c1 : (wi e.zn 0 (g.all - 1) && wi e.off 0 (g.S - 1)) = true) (c2 : (wi e.mt 0 (g.all - 1) && wi e.off 0 (g.S - 1)) = true) :
    Calls Try.prog 34 #[e.v, g.v] w fun r w' => r = .returned (.bool (e.right g)) ∧ Below w.heap.size w w' := by
  have HR := Lib.hid (E.right_in hr h1 c1 c2)
  have hs := Lib.hid (G.small_of_right hr)
  have n0 : (e.st == 0) = false := by simp [h1]
  have n1 : (e.st != 1) = false := by simp [h1]
  have n2 : (e.st == 2) = false := by simp [h1]
  have z0 : 1 ≤ g.Z := hs.out.Z0
  have z1 : (g.Z == 0) = false := by simp; omega
  have B : (0 ≤ e.zn ∧ e.zn / g.Z ≤ 512 ∧ 0 ≤ e.zn / g.Z) ∧ (0 ≤ e.mt ∧ e.mt / g.Z ≤ 512 ∧ 0 ≤ e.mt / g.Z) := by
    have ha := hs.out.all_le
    simp only [Bool.and_eq_true, wi_true] at c1 c2
    have q1 := Int.ediv_le_self g.Z c1.1.1
    have q2 := Int.ediv_le_self g.Z c2.1.1
    have q3 := Int.ediv_nonneg c1.1.1 (show 0 ≤ g.Z by omega)
    have q4 := Int.ediv_nonneg c2.1.1 (show 0 ≤ g.Z by omega)
    omega
  obtain ⟨⟨p1, p2, p3⟩, p4, p5, p6⟩ := B
  have q1 : wrap64 (e.zn.tdiv g.Z) = e.zn / g.Z := by rw [Int.tdiv_eq_ediv_of_nonneg p1]; unfold wrap64; omega
  have q2 : wrap64 (e.mt.tdiv g.Z) = e.mt / g.Z := by rw [Int.tdiv_eq_ediv_of_nonneg p4]; unfold wrap64; omega
  clear h1 hr
  go_enter Try.func34, Try.ntmps34
  go_wp2_with fail
  refine (ref_holds_b _ _ _ _ hs.out _ c1).mono ?_
  rintro r w1 ⟨rfl, hb⟩
  obtain ⟨hc, hf⟩ := bcell hb
  have hz : w.heap.size + 1 < w1.heap.size := by have := hb.size; simp at this; omega
  go_wp2_with fail
  refine (ref_holds_b _ _ _ _ hs.out _ c2).mono ?_
  rintro r w2 ⟨rfl, hb2⟩
  obtain ⟨hc2, hf2⟩ := bcell hb2
  have hz2 : w.heap.size + 1 < w2.heap.size := by have := hb2.size; omega
  have hz3 : w.heap.size < w2.heap.size := by omega
  have HB : Hid (Below w.heap.size w w2) := (below_then ((below_box w _).alloc (by simp) _) (by simp; omega) hb).trans (hb2.mono (by omega))
  have HZ : Hid (w.heap.size ≤ w2.heap.size) := by show _ ≤ _; omega
  have f0 : w2.cell? ⟨w.heap.size, 1, none⟩ = some (.int .i64 e.zn) := by rw [hc2 _ _ (by omega), hc _ _ (by simp; omega)]; simp [go_sem]
  have f1 : w2.cell? ⟨w.heap.size, 2, none⟩ = some (.int .i64 e.mt) := by rw [hc2 _ _ (by omega), hc _ _ (by simp; omega)]; simp [go_sem]
  have f2 : w2.cell? ⟨w.heap.size, 4, none⟩ = some (.int .i64 e.sq) := by rw [hc2 _ _ (by omega), hc _ _ (by simp; omega)]; simp [go_sem]
  have f3 : w2.cell? ⟨w.heap.size, 5, none⟩ = some (.int .i64 e.sm) := by rw [hc2 _ _ (by omega), hc _ _ (by simp; omega)]; simp [go_sem]
  have f4 : w2.cell? ⟨w.heap.size + 1, 1, none⟩ = some (.int .i64 g.Z) := by rw [hc2 _ _ (by omega), hc _ _ (by simp)]; simp [go_sem]
  clear hc2 hf2 hc hf hb hb2 c1 c2
  go_wp2_with fail
  have hfrom := @From.cell w2
  refine region_from (by kernel_rfl) (by kernel_rfl) ?_
  repeat (go_big_quiet_step (fail))
  cases c3 : (e.zn / g.Z != e.mt / g.Z) with
  | false =>
    repeat (go_big_quiet_step (fail))
    refine wpQuiet_nil ?_
    intro W hW
    go_wp2
    go_ret
    exact ⟨ret_bool (by rw [HR.out]; simp [c3]), HB.out.trans (hW.mono HZ.out)⟩
  | true =>
    repeat (go_big_quiet_step (fail))
    cases c4 : decide (1 ≤ e.sq) with
    | false =>
      repeat (go_big_quiet_step (fail))
      refine wpQuiet_nil ?_
      intro W hW
      go_wp2
      go_ret
      exact ⟨ret_bool (by rw [HR.out]; simp [c3, c4]), HB.out.trans (hW.mono HZ.out)⟩
    | true =>
      repeat (go_big_quiet_step (fail))
      cases c5 : decide (e.sq ≤ 281474976710655) with
      | false =>
        repeat (go_big_quiet_step (fail))
        refine wpQuiet_nil ?_
        intro W hW
        go_wp2
        go_ret
        exact ⟨ret_bool (by rw [HR.out]; simp [c3, c4, c5]), HB.out.trans (hW.mono HZ.out)⟩
      | true =>
        repeat (go_big_quiet_step (fail))
        cases c6 : decide (0 ≤ e.sm) with
        | false =>
          repeat (go_big_quiet_step (fail))
          refine wpQuiet_nil ?_
          intro W hW
          go_wp2
          go_ret
          exact ⟨ret_bool (by rw [HR.out]; simp [c3, c4, c5, c6]), HB.out.trans (hW.mono HZ.out)⟩
        | true =>
          repeat (go_big_quiet_step (fail))
          cases c7 : decide (e.sm ≤ 4294967295) with
          | false =>
            repeat (go_big_quiet_step (fail))
            refine wpQuiet_nil ?_
            intro W hW
            go_wp2
            go_ret
            exact ⟨ret_bool (by rw [HR.out]; simp [c3, c4, c5, c6, c7]), HB.out.trans (hW.mono HZ.out)⟩
          | true =>
            repeat (go_big_quiet_step (fail))
            refine wpQuiet_nil ?_
            intro W hW
            go_wp2
            go_ret
            exact ⟨ret_bool (by rw [HR.out]; simp [c3, c4, c5, c6, c7]), HB.out.trans (hW.mono HZ.out)⟩
theorem ref_entry_right (e : E) (g : G) (w : World) (hr : g.right = true) : Calls Try.prog 34 #[e.v, g.v] w fun r w' => r = .returned (.bool (e.right g)) ∧ Below w.heap.size w w' := by
  by_cases h0 : e.st = 0
  · exact ref_entry_zero e g w (.inl h0)
  · by_cases h2 : e.st = 2
    · exact ref_entry_zero e g w (.inr h2)
    · by_cases h1 : e.st = 1
      · cases c1 : (wi e.zn 0 (g.all - 1) && wi e.off 0 (g.S - 1)) with
        | false =>
          have : e.right g = false := by rw [E.right_eq h1, holds_of_small hr, c1]; rfl
          rw [this]
          exact ref_entry_out e g w hr h1 false _ c1 rfl rfl
        | true =>
          cases c2 : (wi e.mt 0 (g.all - 1) && wi e.off 0 (g.S - 1)) with
          | false =>
            have : e.right g = false := by rw [E.right_eq h1, holds_of_small hr, holds_of_small hr, c2]; simp
            rw [this]
            exact ref_entry_out e g w hr h1 true false c1 c2 rfl
          | true => exact ref_entry_in e g w hr h1 c1 c2
      · exact ref_entry_other e g w h0 h1 h2
end Go.Proofs.Ytcgafnmpfdkfoaa
