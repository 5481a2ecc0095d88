/- Geometries and steps out of opened arguments. -/
import Derived.Test.YtcgafnmpfdkfoaaOpen
import Derived.Test.YtcgafnmpfdkfoaaSums2
namespace Go.Proofs.Ytcgafnmpfdkfoaa
open Go.RowKit
theorem geom_of {cs : Array Value} (hs : cs.size = 6) (h : ∀ i, i < 6 → ∃ n, cs[i]? = some (.int .i64 n) ∧ (Lit.int .i64 n).wf = true) : ∃ g : G, Value.agg cs = g.v := by
  obtain ⟨l⟩ := cs
  match l, hs with
  | [c0, c1, c2, c3, c4, c5], _ =>
    obtain ⟨n0, h0, _⟩ := h 0 (by omega)
    obtain ⟨n1, h1, _⟩ := h 1 (by omega)
    obtain ⟨n2, h2, _⟩ := h 2 (by omega)
    obtain ⟨n3, h3, _⟩ := h 3 (by omega)
    obtain ⟨n4, h4, _⟩ := h 4 (by omega)
    obtain ⟨n5, h5, _⟩ := h 5 (by omega)
    simp at h0 h1 h2 h3 h4 h5
    subst h0 h1 h2 h3 h4 h5
    exact ⟨⟨n0, n1, n2, n3, n4, n5⟩, rfl⟩
theorem ops_of {w : World} {A : Option Addr} {n c : Nat} (h : RowAt w A n c 7 (fun _ => .i64)) : ∃ ops, OpsAt w A n c ops := by
  obtain ⟨h1, h2, h3⟩ := h
  rcases Nat.eq_zero_or_pos n with h0 | h0
  · subst h0
    exact ⟨[], rfl, h1, h2, fun h => absurd h (by omega)⟩
  · obtain ⟨b, off, hA, hb, hc⟩ := h3 h0
    obtain ⟨l, hl, hq⟩ := exists_list (α := Op11) (n := n) (Q := fun k o => w.cell? ⟨b, off + k * 7, none⟩ = some (.int .i64 o.b) ∧ w.cell? ⟨b, off + k * 7 + 1, none⟩ = some (.int .i64 o.e.st) ∧ w.cell? ⟨b, off + k * 7 + 2, none⟩ = some (.int .i64 o.e.zn) ∧ w.cell? ⟨b, off + k * 7 + 3, none⟩ = some (.int .i64 o.e.mt) ∧
      w.cell? ⟨b, off + k * 7 + 4, none⟩ = some (.int .i64 o.e.off) ∧ w.cell? ⟨b, off + k * 7 + 5, none⟩ = some (.int .i64 o.e.sq) ∧ w.cell? ⟨b, off + k * 7 + 6, none⟩ = some (.int .i64 o.e.sm)) (fun i hi => by
        obtain ⟨v0, e0, _⟩ := hc i hi 0 (by omega)
        obtain ⟨v1, e1, _⟩ := hc i hi 1 (by omega)
        obtain ⟨v2, e2, _⟩ := hc i hi 2 (by omega)
        obtain ⟨v3, e3, _⟩ := hc i hi 3 (by omega)
        obtain ⟨v4, e4, _⟩ := hc i hi 4 (by omega)
        obtain ⟨v5, e5, _⟩ := hc i hi 5 (by omega)
        obtain ⟨v6, e6, _⟩ := hc i hi 6 (by omega)
        exact ⟨⟨v0, ⟨v1, v2, v3, v4, v5, v6⟩⟩, e0, e1, e2, e3, e4, e5, e6⟩)
    exact ⟨l, hl, h1, h2, fun _ => ⟨b, off, hA, hb, hq⟩⟩
end Go.Proofs.Ytcgafnmpfdkfoaa
