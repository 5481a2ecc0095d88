/- The reference of layer 5 (revetmentref05) answers as the plain words do. -/
import Derived.Test.YtcgafnmpfdkfoaaGeom
namespace Go.Proofs.Ytcgafnmpfdkfoaa
open Go.RowKit

abbrev G.rbox (g : G) : Obj := .cells #[.int .i64 g.D, .int .i64 g.Z, .int .i64 g.S, .int .i64 g.B, .int .i64 g.P, .int .i64 g.O] 42

theorem ref_half (n : Int) (w : World) (h0 : -1000000 ≤ n) (h1 : n ≤ 1000000) : Calls Try.prog 115 #[.int .i64 n] w fun e w' => e = .returned (.int .i64 (n / 2)) ∧ w = w' := by
  by_cases hn : n < 0
  · go_enter Try.func115, Try.ntmps115
    go_wp2
    go_ret
    exact ⟨ret_int (by omega), rfl⟩
  · have hn' : 0 ≤ n := by omega
    go_enter Try.func115, Try.ntmps115
    go_wp2
    go_ret
    exact ⟨ret_int (by omega), rfl⟩

theorem ref_parts (g : G) (w : World) (h0 : 1 ≤ g.B) (h1 : g.B ≤ 256) : Calls Try.prog 72 #[g.v] w fun e w' => e = .returned (.int .i64 g.parts) ∧ w.alloc g.rbox = w' := by
  go_enter Try.func72, Try.ntmps72
  go_wp2
  go_loop [3, 4] (fun n b => ∃ i : Nat, (2 * i : Int) ≤ g.B + 1 ∧ n = .int .i64 (1 + i) ∧ b = .int .i64 (2 * i)) (fun _ b => (g.B + 2 - intOf b).toNat)
  case atStart => exact ⟨0, by omega, rfl, rfl⟩
  case round =>
    obtain ⟨i, hi, rfl, rfl⟩ := hrel
    by_cases hlt : (2 * i : Int) < g.B
    · go_wp2
      go_round
      case rel => exact ⟨i + 1, by omega, by simp; omega, by simp; omega⟩
      case measure => simp [intOf]; omega
    · have hge : g.B ≤ 2 * (i : Int) := by omega
      clear hlt
      go_wp2
      go_ret
      exact ⟨ret_int (by unfold G.parts; omega), rfl⟩

theorem ref_segs (g : G) (w : World) (hs : g.Small) : Calls Try.prog 73 #[g.v] w fun e w' => e = .returned (.int .i64 g.segs) ∧ Below w.heap.size w w' := by
  have h1 := hs.dp_le
  have h2 := hs.du_le
  unfold G.u at h2
  obtain ⟨h1a, h1b⟩ := h1
  obtain ⟨h2a, h2b, h2c, h2d⟩ := h2
  have d0 := hs.D0
  have d1 := hs.D1
  have z0 := hs.Z0
  have z1 := hs.Z1
  have p0 := hs.P0
  have p1 := hs.P1
  have e1 : IntKind.i64.wrap (g.Z - g.P) = g.Z - g.P := IntWalk.i64_in _ (by omega)
  have e2 : IntKind.i64.wrap (g.Z - g.P - 2) = g.Z - g.P - 2 := IntWalk.i64_in _ (by omega)
  have hfrom := @From.cell (w.alloc g.rbox)
  by_cases hm : g.D * (g.Z - g.P - 2) - 2 * (g.D * g.P + 4) + 1 < (g.D - 1) * (g.Z - g.P - 2) - (g.D * g.P + 4) + 1
  · have hsg : g.segs = (g.D * (g.Z - g.P - 2) - 2 * (g.D * g.P + 4) + 1) / 2 - 1 - g.D * g.P := by
      unfold G.segs G.u G.reserve; rw [Int.min_def, if_neg (by omega)]
    rw [hsg]
    clear hsg
    go_enter Try.func73, Try.ntmps73
    go_wp2_with fail
    refine region_from (by kernel_rfl) (by kernel_rfl) ?_
    repeat (go_big_quiet_step ((first | (go_at_call 115; exact from_call_same (ref_half _ _ (by omega) (by omega))))))
    refine wpQuiet_nil ?_
    intro W hW
    go_wp2
    go_ret
    exact ⟨ret_int (by omega), (below_box w g.rbox).trans (hW.mono (by simp))⟩
  · have hsg : g.segs = ((g.D - 1) * (g.Z - g.P - 2) - (g.D * g.P + 4) + 1) / 2 - 1 - g.D * g.P := by
      unfold G.segs G.u G.reserve; rw [Int.min_def]; split <;> omega
    have hm' : (g.D - 1) * (g.Z - g.P - 2) - (g.D * g.P + 4) + 1 ≤ g.D * (g.Z - g.P - 2) - 2 * (g.D * g.P + 4) + 1 := by omega
    rw [hsg]
    clear hsg hm
    go_enter Try.func73, Try.ntmps73
    go_wp2_with fail
    refine region_from (by kernel_rfl) (by kernel_rfl) ?_
    repeat (go_big_quiet_step ((first | (go_at_call 115; exact from_call_same (ref_half _ _ (by omega) (by omega))))))
    refine wpQuiet_nil ?_
    intro W hW
    go_wp2
    go_ret
    exact ⟨ret_int (by omega), (below_box w g.rbox).trans (hW.mono (by simp))⟩

set_option maxHeartbeats 2000000 in
theorem ref_right_no (g : G) (w : World) (hs : g.small = false) : Calls Try.prog 31 #[g.v] w fun e w' => e = .returned (.bool false) ∧ Below w.heap.size w w' := by
  have hn : ¬ g.Small := fun h => by rw [G.small_iff.2 h] at hs; cases hs
  have hn := Lib.hid hn
  clear hs
  go_enter Try.func31, Try.ntmps31
  go_wp2_with fail
  all_goals first
    | (exfalso; exact hn.out ⟨by omega, by omega, by omega, by omega, by omega, by omega, by omega, by omega, by omega, by omega, by omega, by omega⟩)
    | (go_wp2; go_ret; exact ⟨rfl, below_box w g.rbox⟩)

set_option maxHeartbeats 1000000 in
theorem ref_right_mid (g : G) (w : World) (hs : g.small = true) (hp : g.S < g.parts) : Calls Try.prog 31 #[g.v] w fun e w' => e = .returned (.bool false) ∧ Below w.heap.size w w' := by
  obtain ⟨D0, D1, Z0, Z1, S0, S1, B0, B1, P0, P1, O0, O1⟩ := G.small_iff.1 hs
  have hd : decide (g.parts ≤ g.S) = false := by simp; omega
  have hfrom := @From.cell (w.alloc g.rbox)
  go_enter Try.func31, Try.ntmps31
  go_wp2_with fail
  refine region_from (by kernel_rfl) (by kernel_rfl) ?_
  repeat (go_big_quiet_step ((first | (go_at_call 72; exact from_call_box (ref_parts _ _ B0 B1)))))
  refine wpQuiet_nil ?_
  intro W hW
  go_wp2
  go_ret
  exact ⟨rfl, (below_box w g.rbox).trans (hW.mono (by simp))⟩
set_option maxHeartbeats 1000000 in
theorem ref_right_yes (g : G) (w : World) (hs : g.small = true) (hp : g.parts ≤ g.S) : Calls Try.prog 31 #[g.v] w fun e w' => e = .returned (.bool (decide (2 * g.B ≤ g.S * g.segs))) ∧ Below w.heap.size w w' := by
  have H := G.small_iff.1 hs
  obtain ⟨D0, D1, Z0, Z1, S0, S1, B0, B1, P0, P1, O0, O1⟩ := H
  have H := Lib.hid (G.small_iff.1 hs)
  have hsg := (G.small_iff.1 hs).segs_le
  have e1 : IntKind.i64.wrap (2 * g.B) = 2 * g.B := IntWalk.i64_in _ (by omega)
  have e2 : IntKind.i64.wrap (g.S * g.segs) = g.S * g.segs := IntWalk.i64_in _ (by omega)
  have hfrom := @From.cell (w.alloc g.rbox)
  clear hsg
  go_enter Try.func31, Try.ntmps31
  go_wp2_with fail
  refine region_from (by kernel_rfl) (by kernel_rfl) ?_
  repeat (go_big_quiet_step ((first | (go_at_call 72; exact from_call_box (ref_parts _ _ B0 B1)) | (go_at_call 73; exact from_call (ref_segs _ _ H.out)))))
  refine wpQuiet_nil ?_
  intro W hW
  go_wp2
  go_ret
  exact ⟨by simp, (below_box w g.rbox).trans (hW.mono (by simp))⟩

theorem ref_right (g : G) (w : World) : Calls Try.prog 31 #[g.v] w fun e w' => e = .returned (.bool g.right) ∧ Below w.heap.size w w' := by
  cases hs : g.small with
  | false => rw [G.right_small hs]; exact ref_right_no g w hs
  | true =>
    rw [G.right_of_small hs]
    by_cases hp : g.parts ≤ g.S
    · simp only [hp, decide_true, Bool.true_and]; exact ref_right_yes g w hs hp
    · simp only [hp, decide_false, Bool.false_and]; exact ref_right_mid g w hs (by omega)
end Go.Proofs.Ytcgafnmpfdkfoaa
