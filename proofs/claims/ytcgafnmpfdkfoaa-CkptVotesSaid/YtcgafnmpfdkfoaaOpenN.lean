/- A slice of whole numbers as it came in. -/
import Derived.Test.YtcgafnmpfdkfoaaOpen
import Derived.Test.YtcgafnmpfdkfoaaVotes
namespace Go.Proofs.Ytcgafnmpfdkfoaa
open Go.RowKit
theorem nums_of {w : World} {A : Option Addr} {n c : Nat} (h : RowAt w A n c 1 (fun _ => .i64)) : ∃ xs, NumsAt w A n c xs := by
  obtain ⟨h1, h2, h3⟩ := h
  rcases Nat.eq_zero_or_pos n with h0 | h0
  · subst h0
    exact ⟨[], rfl, h1, h2, fun h => absurd h (by omega)⟩
  · obtain ⟨b, off, hA, hb, hc⟩ := h3 h0
    obtain ⟨l, hl, hq⟩ := exists_list (α := Int) (n := n) (Q := fun k x => w.cell? ⟨b, off + k, none⟩ = some (.int .i64 x)) (fun i hi => by
      obtain ⟨v, e, _⟩ := hc i hi 0 (by omega)
      rw [Nat.mul_one, Nat.add_zero] at e
      exact ⟨v, e⟩)
    exact ⟨l, hl, h1, h2, fun _ => ⟨b, off, hA, hb, hq⟩⟩
end Go.Proofs.Ytcgafnmpfdkfoaa
