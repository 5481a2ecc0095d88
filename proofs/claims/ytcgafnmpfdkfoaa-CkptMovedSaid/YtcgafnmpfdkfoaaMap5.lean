/- bmap's Count. -/
import Derived.Test.YtcgafnmpfdkfoaaMap4
import Derived.LoopTactic
namespace Go.Proofs.Ytcgafnmpfdkfoaa
open Go.RowKit

theorem states_snoc (l : List E) (k : Nat) (e : E) (s : Int) (h : l[k]? = some e) : states (l.take (k + 1)) s = states (l.take k) s + (if e.st = s then 1 else 0) := by
  unfold states
  have : l.take (k + 1) = l.take k ++ [e] := by rw [List.take_add_one, h]; rfl
  rw [this, List.countP_append]
  by_cases hs : e.st = s <;> simp [hs]
theorem states_bound (l : List E) (s : Int) : 0 ≤ states l s ∧ states l s ≤ l.length := by
  unfold states
  have := List.countP_le_length (p := fun e : E => decide (e.st = s)) (l := l)
  omega

set_option maxHeartbeats 1000000 in
theorem map_states (w : World) (p bl bv : Nat) (g : G) (l : List E) (lv : List Int) (h : MapAt w p bl bv g l lv) (s : Int) :
    Calls Try.prog 29 #[.pointer (some ⟨p, 0, none⟩), .int .i64 s] w fun r w' => r = .returned (.int .i64 (states l s)) ∧ Below w.heap.size w w' := by
  have H := Lib.hid h
  obtain ⟨hp, hl, hv⟩ := h.lt
  obtain ⟨cl, cv, _, _, _, zl, _, _, _, _, _, _, _, s6, _⟩ := h.reads
  clear h
  go_enter Try.func29, Try.ntmps29
  go_wp2
  go_loopw [5, 13] (fun n i wr => ∃ k : Nat, k ≤ l.length ∧ i = .int .i64 k ∧ n = .int .i64 (states (l.take k) s) ∧ Below w.heap.size w wr)
    (fun _ i _ => l.length - (intOf i).toNat)
  case atStart => exact ⟨0, Nat.zero_le _, rfl, rfl, Below.refl _ _⟩
  case round =>
    obtain ⟨k, hk, rfl, rfl, hB⟩ := hrel
    have HB := Lib.hid hB
    by_cases hlt : k < l.length
    · obtain ⟨e, he⟩ : ∃ e, l[k]? = some e := ⟨_, List.getElem?_eq_getElem hlt⟩
      obtain ⟨d0, d1, d2, d3, d4, d5⟩ := (H.out.below hB hp hl hv).ent he
      have hs := states_snoc l k e s he
      have hs2 := states_bound (l.take k) s
      have hs3 : (l.take k).length = k := by rw [List.length_take]; omega
      have hs4 : 0 ≤ states (l.take k) s := hs2.1
      have hs5 : states (l.take k) s ≤ k := by omega
      have zb := hB.size
      clear he hB hs2 hs3
      by_cases hst : e.st = s
      · have hb : (e.st == s) = true := by simp [hst]
        rw [if_pos hst] at hs
        have HS := Lib.hid hs
        clear hs hst
        go_wp2
        go_roundw
        case rel => exact ⟨k + 1, by omega, by go_num, by rw [HS.out], HB.out.alloc (by omega) _⟩
        case measure => simp [intOf]; omega
      · have hb : (e.st == s) = false := by simp [hst]
        rw [if_neg hst] at hs
        have HS := Lib.hid hs
        clear hs hst
        go_wp2
        go_roundw
        case rel => exact ⟨k + 1, by omega, by go_num, by rw [HS.out, Int.add_zero], HB.out.alloc (by omega) _⟩
        case measure => simp [intOf]; omega
    · obtain rfl : k = l.length := by omega
      go_wp2
      go_ret
      exact ⟨by simp, HB.out⟩
end Go.Proofs.Ytcgafnmpfdkfoaa
