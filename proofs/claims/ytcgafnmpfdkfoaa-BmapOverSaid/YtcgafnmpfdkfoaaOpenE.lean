/- Entries out of opened arguments. -/
import Derived.Test.YtcgafnmpfdkfoaaOpen
import Derived.Test.YtcgafnmpfdkfoaaOver2
namespace Go.Proofs.Ytcgafnmpfdkfoaa
open Go.RowKit
theorem ents_of {w : World} {A : Option Addr} {n c : Nat} (h : RowAt w A n c 6 (fun _ => .i64)) : ∃ es, EntsAt w A n c es := by
  obtain ⟨h1, h2, h3⟩ := h
  rcases Nat.eq_zero_or_pos n with h0 | h0
  · subst h0
    exact ⟨[], rfl, h1, h2, fun h => absurd h (by omega)⟩
  · obtain ⟨b, off, hA, hb, hc⟩ := h3 h0
    obtain ⟨l, hl, hq⟩ := exists_list (α := E) (n := n) (Q := fun k e => w.cell? ⟨b, off + k * 6, none⟩ = some (.int .i64 e.st) ∧ w.cell? ⟨b, off + k * 6 + 1, none⟩ = some (.int .i64 e.zn) ∧ w.cell? ⟨b, off + k * 6 + 2, none⟩ = some (.int .i64 e.mt) ∧ w.cell? ⟨b, off + k * 6 + 3, none⟩ = some (.int .i64 e.off) ∧
      w.cell? ⟨b, off + k * 6 + 4, none⟩ = some (.int .i64 e.sq) ∧ w.cell? ⟨b, off + k * 6 + 5, none⟩ = some (.int .i64 e.sm)) (fun i hi => by
        obtain ⟨v0, e0, _⟩ := hc i hi 0 (by omega)
        obtain ⟨v1, e1, _⟩ := hc i hi 1 (by omega)
        obtain ⟨v2, e2, _⟩ := hc i hi 2 (by omega)
        obtain ⟨v3, e3, _⟩ := hc i hi 3 (by omega)
        obtain ⟨v4, e4, _⟩ := hc i hi 4 (by omega)
        obtain ⟨v5, e5, _⟩ := hc i hi 5 (by omega)
        exact ⟨⟨v0, v1, v2, v3, v4, v5⟩, e0, e1, e2, e3, e4, e5⟩)
    exact ⟨l, hl, h1, h2, fun _ => ⟨b, off, hA, hb, hq⟩⟩
theorem over_walk (w : World) (g : G) (A : Option Addr) (n c : Nat) (es : List E) (h : EntsAt w A n c es) (b : Int) :
    Calls Try.prog 4 #[g.v, .slice A n c, .int .i64 b] w fun r w' => r = .returned (.bool true) ∧ Below w.heap.size w w' := by
  by_cases he : g.right = false ∨ 60 < n ∨ b < 0 ∨ g.B ≤ b
  · exact over_early w g A n c b he
  · exact over_main w g A n c es h b (by cases hr : g.right with | true => rfl | false => exact absurd (.inl hr) he) (by omega) (by omega) (by omega)
end Go.Proofs.Ytcgafnmpfdkfoaa
