/- Layer 13: which copy counts: the order, the greatest. -/
import Derived.Test.YtcgafnmpfdkfoaaTail
import Derived.Test.YtcgafnmpfdkfoaaMap2
namespace Go.Proofs.Ytcgafnmpfdkfoaa
open Go.RowKit

/-- A copy whose snapshot has a Gen alone: its zone, its Gen. -/
structure Cp where
  z : Int
  g : Int
abbrev Cp.arr (c : Cp) : Array Value := #[.int .i64 c.z, .int .i64 c.g, .int .i64 0, .int .i64 0, .pointer none]
abbrev Cp.v (c : Cp) : Value := .agg #[.int .i64 c.z, .int .i64 c.g, .int .i64 0, .int .i64 0, .pointer none]
abbrev Cp.box (c : Cp) : Obj := .cells #[.int .i64 c.z, .int .i64 c.g, .int .i64 0, .int .i64 0, .pointer none] 93
def sgn (a b : Int) : Int := if a < b then -1 else if b < a then 1 else 0
def Cp.ord (a b : Cp) : Int := if sgn a.g b.g = 0 then sgn b.z a.z else sgn a.g b.g
/-- x counts more than c. -/
def Cp.better (x c : Cp) : Prop := c.g < x.g ∨ (x.g = c.g ∧ x.z < c.z)
theorem Cp.ord_pos (a b : Cp) : 0 < a.ord b ↔ a.better b := by
  unfold Cp.ord Cp.better sgn
  repeat' split
  all_goals omega

theorem cmp_nan (a : Int) (w : World) : Calls Try.prog 146 #[.int .i64 a] w fun e w' => e = .returned (.bool false) ∧ w = w' := by
  go_enter Try.func146, Try.ntmps146
  go_wp2
  go_ret
  exact ⟨ret_bool (by simp), rfl⟩
theorem cmp_compare (a b : Int) (w : World) : Calls Try.prog 128 #[.int .i64 a, .int .i64 b] w fun e w' => e = .returned (.int .i64 (sgn a b)) ∧ w = w' := by
  by_cases h1 : a < b
  · go_enter Try.func128, Try.ntmps128
    go_wp2_with (go_at_call 146; refine (cmp_nan _ _).mono ?_; rintro e w' ⟨rfl, rfl⟩)
    go_ret
    exact ⟨ret_int (by unfold sgn; rw [if_pos h1]), rfl⟩
  · by_cases h2 : b < a
    · go_enter Try.func128, Try.ntmps128
      go_wp2_with (go_at_call 146; refine (cmp_nan _ _).mono ?_; rintro e w' ⟨rfl, rfl⟩)
      go_ret
      exact ⟨ret_int (by unfold sgn; rw [if_neg (by omega), if_pos h2]), rfl⟩
    · go_enter Try.func128, Try.ntmps128
      go_wp2_with (go_at_call 146; refine (cmp_nan _ _).mono ?_; rintro e w' ⟨rfl, rfl⟩)
      go_ret
      exact ⟨ret_int (by unfold sgn; rw [if_neg (by omega), if_neg (by omega)]), rfl⟩
theorem cmp_or (b : Nat) (x y : Int) (w : World) (h0 : w.cell? ⟨b, 0, none⟩ = some (.int .i64 x)) (h1 : w.cell? ⟨b, 1, none⟩ = some (.int .i64 y)) :
    Calls Try.prog 127 #[.slice (some ⟨b, 0, none⟩) 2 2] w fun e w' => e = .returned (.int .i64 (if x = 0 then y else x)) ∧ w = w' := by
  by_cases hx : x = 0
  · subst hx
    by_cases hy : y = 0
    · subst hy
      go_enter Try.func127, Try.ntmps127
      go_wp2
      refine wp_loop_rounds 3 ?_
      rw [rounds_succ]
      go_wp2
      rw [rounds_succ]
      go_wp2
      rw [rounds_succ]
      go_wp2
      go_ret
      exact ⟨by simp, rfl⟩
    · go_enter Try.func127, Try.ntmps127
      go_wp2
      refine wp_loop_rounds 2 ?_
      rw [rounds_succ]
      go_wp2
      rw [rounds_succ]
      go_wp2
      go_ret
      exact ⟨by simp, rfl⟩
  · go_enter Try.func127, Try.ntmps127
    go_wp2
    refine wp_loop_rounds 1 ?_
    rw [rounds_succ]
    go_wp2
    go_ret
    exact ⟨rfl, rfl⟩
theorem cmp_or_v (b : Nat) (x y t : Int) (ht : (if x = 0 then y else x) = t) (w : World) (h0 : w.cell? ⟨b, 0, none⟩ = some (.int .i64 x)) (h1 : w.cell? ⟨b, 1, none⟩ = some (.int .i64 y)) :
    Calls Try.prog 127 #[.slice (some ⟨b, 0, none⟩) 2 2] w fun e w' => e = .returned (.int .i64 t) ∧ w = w' := ht ▸ cmp_or b x y w h0 h1
theorem ckpt_order (a b : Cp) (w : World) : Calls Try.prog 94 #[a.v, b.v] w fun e w' => e = .returned (.int .i64 (a.ord b)) ∧ Below w.heap.size w w' := by
  obtain ⟨V, hV⟩ : ∃ V, (w.alloc a.box).alloc b.box = V := ⟨_, rfl⟩
  have b0 : Below w.heap.size w V := by rw [← hV]; exact (below_box _ _).alloc (by simp) _
  have ka : Blk V w.heap.size 93 a.arr := by rw [← hV]; exact (Blk.newAt rfl).alloc _
  have kb : Blk V (w.heap.size + 1) 93 b.arr := by rw [← hV]; exact Blk.newAt (by simp)
  have a0 : V.cell? ⟨w.heap.size, 0, none⟩ = some (.int .i64 a.z) := by rw [ka.cell]; rfl
  have a1 : V.cell? ⟨w.heap.size, 1, none⟩ = some (.int .i64 a.g) := by rw [ka.cell]; rfl
  have c0 : V.cell? ⟨w.heap.size + 1, 0, none⟩ = some (.int .i64 b.z) := by rw [kb.cell]; rfl
  have c1 : V.cell? ⟨w.heap.size + 1, 1, none⟩ = some (.int .i64 b.g) := by rw [kb.cell]; rfl
  have q1 := ka.lt
  have q2 := kb.lt
  have HB := Lib.hid b0
  have hfrom := @From.cell V
  clear ka kb b0
  go_enter Try.func94, Try.ntmps94
  go_wp2_with fail
  refine region_from_tail 12 (by kernel_rfl) (by kernel_rfl) ?_
  dsimp only [List.take, List.drop]
  repeat (go_big_quiet_step ((go_at_call 128; exact from_call_same (cmp_compare _ _ _))))
  refine wpQuiet_nil ?_
  intro W hW
  have HW := Lib.hid hW
  clear hW hfrom
  obtain ⟨V2, hV2⟩ : ∃ V, W.alloc (.cells #[.int .i64 (sgn a.g b.g), .int .i64 (sgn b.z a.z)] 3) = V := ⟨_, rfl⟩
  have b2 : Below W.heap.size W V2 := by rw [← hV2]; exact below_box _ _
  have kk : Blk V2 W.heap.size 3 #[.int .i64 (sgn a.g b.g), .int .i64 (sgn b.z a.z)] := by rw [← hV2]; exact Blk.newAt rfl
  go_wp2_with fail
  refine (cmp_or_v W.heap.size _ _ (a.ord b) rfl V2 (by rw [kk.cell]; rfl) (by rw [kk.cell]; rfl)).mono ?_
  rintro e w' ⟨rfl, rfl⟩
  go_wp2
  go_ret
  exact ⟨rfl, HB.out.trans ((HW.out.trans (b2.mono HW.out.size)).mono HB.out.size)⟩
end Go.Proofs.Ytcgafnmpfdkfoaa
