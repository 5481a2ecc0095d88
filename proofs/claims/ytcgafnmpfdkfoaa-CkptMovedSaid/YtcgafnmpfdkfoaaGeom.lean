/- The functions of layer 5 (geom) over this seat's program come to the plain words of XPure1; walked once each. -/
import Derived.Test.YtcgafnmpfdkfoaaProg
import Derived.Test.YtcgafnmpfdkfoaaPure1
import Derived.Test.YtcgafnmpfdkfoaaBase
import Derived.Deep.RegionHeld3
namespace Go.Proofs.Ytcgafnmpfdkfoaa
open Go.RowKit

abbrev G.v (g : G) : Value := .agg #[.int .i64 g.D, .int .i64 g.Z, .int .i64 g.S, .int .i64 g.B, .int .i64 g.P, .int .i64 g.O]
abbrev G.box (g : G) : Obj := .cells #[.int .i64 g.D, .int .i64 g.Z, .int .i64 g.S, .int .i64 g.B, .int .i64 g.P, .int .i64 g.O] 23

theorem geom_within (n l m : Int) (w : World) : Calls Try.prog 83 #[.int .i64 n, .int .i64 l, .int .i64 m] w fun e w' => e = .returned (.bool (wi n l m)) ∧ w = w' := by
  by_cases h1 : l ≤ n
  · by_cases h2 : n ≤ m
    · go_enter Try.func83, Try.ntmps83
      go_wp2
      go_ret
      exact ⟨by simp [wi, h1, h2], rfl⟩
    · go_enter Try.func83, Try.ntmps83
      go_wp2
      go_ret
      exact ⟨by simp [wi]; omega, rfl⟩
  · go_enter Try.func83, Try.ntmps83
    go_wp2
    go_ret
    exact ⟨by simp [wi]; omega, rfl⟩

theorem geom_small (g : G) (w : World) : Calls Try.prog 87 #[g.v] w fun e w' => e = .returned (.bool g.small) ∧ w.alloc g.box = w' := by
  go_enter Try.func87, Try.ntmps87
  go_wp2_with (go_at_call 83; refine (geom_within _ _ _ _).mono ?_; rintro e w' ⟨rfl, rfl⟩)
  all_goals (go_ret; exact ⟨by simp [G.small, *], rfl⟩)

theorem geom_parts (g : G) (w : World) (h0 : 0 ≤ g.B) (h1 : g.B ≤ 1000000) : Calls Try.prog 43 #[g.v] w fun e w' => e = .returned (.int .i64 g.parts) ∧ w.alloc g.box = w' := by
  go_enter Try.func43, Try.ntmps43
  go_wp2
  go_ret
  exact ⟨by simp [G.parts]; omega, rfl⟩

theorem geom_reserve (g : G) (w : World) (hs : g.Small) : Calls Try.prog 123 #[g.v] w fun e w' => e = .returned (.int .i64 g.reserve) ∧ w.alloc g.box = w' := by
  have h := hs.dp_le
  obtain ⟨h0, h1⟩ := h
  go_enter Try.func123, Try.ntmps123
  go_wp2
  go_ret
  exact ⟨by simp [G.reserve], rfl⟩

theorem geom_all (g : G) (w : World) (hs : g.Small) : Calls Try.prog 27 #[g.v] w fun e w' => e = .returned (.int .i64 g.all) ∧ w.alloc g.box = w' := by
  have h := hs.all_le
  unfold G.all at h
  obtain ⟨h0, h1⟩ := h
  go_enter Try.func27, Try.ntmps27
  go_wp2
  go_ret
  exact ⟨by simp [G.all], rfl⟩

theorem geom_segs (g : G) (w : World) (hs : g.Small) : Calls Try.prog 88 #[g.v] w fun e w' => e = .returned (.int .i64 g.segs) ∧ Below w.heap.size w w' := by
  have h1 := hs.dp_le
  have h2 := hs.du_le
  have hr : 4 ≤ g.reserve ∧ g.reserve ≤ 36 := by unfold G.reserve; omega
  unfold G.u at h2
  obtain ⟨h1a, h1b⟩ := h1
  obtain ⟨h2a, h2b, h2c, h2d⟩ := h2
  obtain ⟨hra, hrb⟩ := hr
  have d0 := hs.D0
  have d1 := hs.D1
  have z0 := hs.Z0
  have z1 := hs.Z1
  have p0 := hs.P0
  have p1 := hs.P1
  have e1 : IntKind.i64.wrap (g.Z - g.P) = g.Z - g.P := IntWalk.i64_in _ (by omega)
  have e2 : IntKind.i64.wrap (g.Z - g.P - 2) = g.Z - g.P - 2 := IntWalk.i64_in _ (by omega)
  go_enter Try.func88, Try.ntmps88
  go_wp2_with fail
  go_region_held3 (fun w' => w'.cell? ⟨w.heap.size, 0, none⟩ = some (.int .i64 g.D) ∧ w'.cell? ⟨w.heap.size, 1, none⟩ = some (.int .i64 g.Z) ∧ w'.cell? ⟨w.heap.size, 2, none⟩ = some (.int .i64 g.S) ∧ w'.cell? ⟨w.heap.size, 3, none⟩ = some (.int .i64 g.B) ∧ w'.cell? ⟨w.heap.size, 4, none⟩ = some (.int .i64 g.P) ∧ w'.cell? ⟨w.heap.size, 5, none⟩ = some (.int .i64 g.O)) (go_keep)
    (first | (go_at_call 123; refine (geom_reserve _ _ hs).mono ?_; rintro e w' ⟨rfl, rfl⟩))
  clear e1 e2
  go_wp2
  all_goals
    go_ret
    refine ⟨ret_int ?_, ?_⟩
    · unfold G.segs G.u
      omega
    · exact ((below_box w _).alloc (by simp) _).drew

theorem G.right_small {g : G} (h : g.small = false) : g.right = false := by simp [G.right, h]
theorem G.right_of_small {g : G} (h : g.small = true) : g.right = (decide (g.parts ≤ g.S) && decide (2 * g.B ≤ g.S * g.segs)) := by simp [G.right, h]

theorem geom_small_b (g : G) (w : World) (b : Bool) (h : g.small = b) : Calls Try.prog 87 #[g.v] w fun e w' => e = .returned (.bool b) ∧ w.alloc g.box = w' := h ▸ geom_small g w

theorem geom_right_no (g : G) (w : World) (hs : g.small = false) : Calls Try.prog 47 #[g.v] w fun e w' => e = .returned (.bool false) ∧ Below w.heap.size w w' := by
  have hfrom := @From.cell (w.alloc g.box)
  go_enter Try.func47, Try.ntmps47
  go_wp2_with fail
  refine region_from (by kernel_rfl) (by kernel_rfl) ?_
  repeat (go_big_quiet_step ((first | (go_at_call 87; exact from_call_box (geom_small_b _ _ _ hs)))))
  refine wpQuiet_nil ?_
  intro W hW
  go_wp2
  go_ret
  exact ⟨rfl, (below_box w g.box).trans (hW.mono (by simp))⟩
theorem geom_right_mid (g : G) (w : World) (hs : g.small = true) (hp : g.S < g.parts) : Calls Try.prog 47 #[g.v] w fun e w' => e = .returned (.bool false) ∧ Below w.heap.size w w' := by
  have H := Lib.hid (G.small_iff.1 hs)
  have h0 : 0 ≤ g.B := by have := H.out.B0; omega
  have h1 : g.B ≤ 1000000 := by have := H.out.B1; omega
  have hd : decide (g.parts ≤ g.S) = false := by simp; omega
  have hfrom := @From.cell (w.alloc g.box)
  go_enter Try.func47, Try.ntmps47
  go_wp2_with fail
  refine region_from (by kernel_rfl) (by kernel_rfl) ?_
  repeat (go_big_quiet_step ((first | (go_at_call 87; exact from_call_box (geom_small_b _ _ _ hs)) | (go_at_call 43; exact from_call_box (geom_parts _ _ h0 h1)))))
  refine wpQuiet_nil ?_
  intro W hW
  go_wp2
  go_ret
  exact ⟨rfl, (below_box w g.box).trans (hW.mono (by simp))⟩
theorem geom_right_yes (g : G) (w : World) (hs : g.small = true) (hp : g.parts ≤ g.S) : Calls Try.prog 47 #[g.v] w fun e w' => e = .returned (.bool (decide (2 * g.B ≤ g.S * g.segs))) ∧ Below w.heap.size w w' := by
  have H := G.small_iff.1 hs
  have h0 : 0 ≤ g.B := by have := H.B0; omega
  have h1 : g.B ≤ 1000000 := by have := H.B1; omega
  have h2 := H.B1
  have hsg := H.segs_le
  have e1 : IntKind.i64.wrap (2 * g.B) = 2 * g.B := IntWalk.i64_in _ (by omega)
  have e2 : IntKind.i64.wrap (g.S * g.segs) = g.S * g.segs := IntWalk.i64_in _ (by omega)
  have hfrom := @From.cell (w.alloc g.box)
  go_enter Try.func47, Try.ntmps47
  go_wp2_with fail
  refine region_from (by kernel_rfl) (by kernel_rfl) ?_
  repeat (go_big_quiet_step ((first | (go_at_call 87; exact from_call_box (geom_small_b _ _ _ hs)) | (go_at_call 43; exact from_call_box (geom_parts _ _ h0 h1)) | (go_at_call 88; exact from_call (geom_segs _ _ H)))))
  refine wpQuiet_nil ?_
  intro W hW
  go_wp2
  go_ret
  exact ⟨by simp, (below_box w g.box).trans (hW.mono (by simp))⟩

theorem geom_right (g : G) (w : World) : Calls Try.prog 47 #[g.v] w fun e w' => e = .returned (.bool g.right) ∧ Below w.heap.size w w' := by
  cases hs : g.small with
  | false => rw [G.right_small hs]; exact geom_right_no g w hs
  | true =>
    rw [G.right_of_small hs]
    by_cases hp : g.parts ≤ g.S
    · simp only [hp, decide_true, Bool.true_and]; exact geom_right_yes g w hs hp
    · simp only [hp, decide_false, Bool.false_and]; exact geom_right_mid g w hs (by omega)

theorem geom_domain (g : G) (z : Int) (w : World) (hs : g.Small) : Calls Try.prog 77 #[g.v, .int .i64 z] w fun e w' => e = .returned (.int .i64 (g.dom z)) ∧ Below w.heap.size w w' := by
  have hz := hs.Z0
  by_cases h1 : z < 0
  · go_enter Try.func77, Try.ntmps77
    go_wp2_with (go_at_call 27; refine (geom_all _ _ hs).mono ?_; rintro e w' ⟨rfl, rfl⟩)
    go_ret
    exact ⟨ret_int (by simp [G.dom, h1]), below_box w g.box⟩
  · by_cases h2 : g.all ≤ z
    · go_enter Try.func77, Try.ntmps77
      go_wp2_with (go_at_call 27; refine (geom_all _ _ hs).mono ?_; rintro e w' ⟨rfl, rfl⟩)
      go_ret
      exact ⟨ret_int (by simp [G.dom, h2]), (below_box w g.box).alloc (by simp) _⟩
    · have h1' : 0 ≤ z := by omega
      have ha := hs.all_le.2
      have hq0 : 0 ≤ z / g.Z := Int.ediv_nonneg h1' (by omega)
      have hq1 : z / g.Z ≤ z := Int.ediv_le_self _ h1'
      clear h1
      go_enter Try.func77, Try.ntmps77
      go_wp2_with (go_at_call 27; refine (geom_all _ _ hs).mono ?_; rintro e w' ⟨rfl, rfl⟩)
      go_ret
      exact ⟨ret_int (by simp only [G.dom]; rw [if_neg (by omega)]), (below_box w g.box).alloc (by simp) _⟩

theorem geom_right_b (g : G) (w : World) (b : Bool) (h : g.right = b) : Calls Try.prog 47 #[g.v] w fun e w' => e = .returned (.bool b) ∧ Below w.heap.size w w' := h ▸ geom_right g w

theorem geom_holds_no (g : G) (z o : Int) (w : World) (hs : g.right = false) : Calls Try.prog 41 #[g.v, .int .i64 z, .int .i64 o] w fun e w' => e = .returned (.bool false) ∧ Below w.heap.size w w' := by
  go_enter Try.func41, Try.ntmps41
  go_wp2_with fail
  refine (geom_right_b _ _ _ hs).mono ?_
  rintro e w1 ⟨rfl, hb⟩
  go_wp2
  go_ret
  exact ⟨rfl, below_then (below_box w g.box) (by simp) hb⟩
theorem geom_holds_yes (g : G) (z o : Int) (w : World) (hr : g.right = true) : Calls Try.prog 41 #[g.v, .int .i64 z, .int .i64 o] w fun e w' => e = .returned (.bool (wi z 0 (g.all - 1) && wi o 0 (g.S - 1))) ∧ Below w.heap.size w w' := by
  have hs := G.small_of_right hr
  have h0 := hs.all_le.1
  have h1 := hs.all_le.2
  have h2 := hs.S0
  have h3 := hs.S1
  have hS := Lib.hid hs
  clear hs
  go_enter Try.func41, Try.ntmps41
  go_wp2_with fail
  refine (geom_right_b _ _ _ hr).mono ?_
  rintro e w1 ⟨rfl, hb⟩
  obtain ⟨hc, hf⟩ := bcell hb
  have hz : w.heap.size < w1.heap.size := by have := hb.size; simp at this; omega
  go_wp2_with (first | (go_at_call 27; refine (geom_all _ _ hS.out).mono ?_; rintro e w' ⟨rfl, rfl⟩) | (go_at_call 83; refine (geom_within _ _ _ _).mono ?_; rintro e w' ⟨rfl, rfl⟩))
  all_goals
    go_ret
    first
      | exact ⟨ret_bool (by simp [*]), ((below_then (below_box w g.box) (by simp) hb).alloc (by omega) _)⟩
      | exact ⟨ret_bool (by simp [*]), (((below_then (below_box w g.box) (by simp) hb).alloc (by omega) _).alloc (by simp; omega) _)⟩
theorem geom_holds (g : G) (z o : Int) (w : World) : Calls Try.prog 41 #[g.v, .int .i64 z, .int .i64 o] w fun e w' => e = .returned (.bool (g.holds z o)) ∧ Below w.heap.size w w' := by
  cases hr : g.right with
  | false => simp only [G.holds, hr, Bool.false_and]; exact geom_holds_no g z o w hr
  | true => simp only [G.holds, hr, Bool.true_and]; exact geom_holds_yes g z o w hr
end Go.Proofs.Ytcgafnmpfdkfoaa
