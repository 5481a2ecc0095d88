/- Frames out of opened arguments. -/
import Derived.Test.YtcgafnmpfdkfoaaOpen
import Derived.Test.YtcgafnmpfdkfoaaRead0
namespace Go.Proofs.Ytcgafnmpfdkfoaa
open Go.RowKit
abbrev KF : Nat → IntKind := fun i => if i < 5 then .i64 else .u8
theorem frs_of {w : World} {A : Option Addr} {n c : Nat} (h : RowAt w A n c 49 KF) : ∃ fs, FrsAt w A n c fs := by
  obtain ⟨h1, h2, h3⟩ := h
  rcases Nat.eq_zero_or_pos n with h0 | h0
  · subst h0
    exact ⟨[], rfl, h1, h2, by simp, fun h => absurd h (by omega)⟩
  · obtain ⟨b, off, hA, hb, hc⟩ := h3 h0
    obtain ⟨l, hl, hq⟩ := exists_list (α := Fr) (n := n) (Q := fun k f => f.Ok ∧ Byt f.bd ∧ w.rangeAt b (off + k * 49) f.arr.toList) (fun i hi => by
        obtain ⟨v0, e0, _⟩ := hc i hi 0 (by omega)
        obtain ⟨v1, e1, _⟩ := hc i hi 1 (by omega)
        obtain ⟨v2, e2, _⟩ := hc i hi 2 (by omega)
        obtain ⟨v3, e3, _⟩ := hc i hi 3 (by omega)
        obtain ⟨v4, e4, _⟩ := hc i hi 4 (by omega)
        obtain ⟨bd, hbl, hbd⟩ := exists_list (α := Int) (n := 44) (Q := fun j v => w.cell? ⟨b, off + i * 49 + (5 + j), none⟩ = some (.int .u8 v) ∧ 0 ≤ v ∧ v < 256) (fun j hj => by
          obtain ⟨v, e, hw⟩ := hc i hi (5 + j) (by omega)
          rw [show KF (5 + j) = .u8 by simp [KF]] at e hw
          refine ⟨v, e, ?_⟩
          simp [Lit.wf, IntKind.min, IntKind.max, IntKind.signed, IntKind.bits] at hw
          omega)
        refine ⟨⟨v0, v1, v2, v3, v4, bd⟩, hbl, fun x hx => ?_, ?_⟩
        · obtain ⟨j, hj⟩ := List.getElem?_of_mem hx
          exact (hbd j x hj).2
        · intro j v hv
          simp only [Fr.arr, Array.toList_append, List.getElem?_append] at hv
          split at hv
          · rename_i hj
            simp at hj
            have : j = 0 ∨ j = 1 ∨ j = 2 ∨ j = 3 ∨ j = 4 := by omega
            rcases this with rfl | rfl | rfl | rfl | rfl <;> (simp at hv; subst hv; assumption)
          · rename_i hj
            simp at hj
            simp [bys] at hv
            obtain ⟨x, hx, rfl⟩ := hv
            have := (hbd _ x hx).1
            rwa [show 5 + (j - 5) = j by omega] at this)
    refine ⟨l, hl, h1, h2, fun f hf => ?_, fun _ => ⟨b, off, hA, hb, fun k f hk => (hq k f hk).2.2⟩⟩
    obtain ⟨k, hk⟩ := List.getElem?_of_mem hf
    exact ⟨(hq k f hk).1, (hq k f hk).2.1⟩
end Go.Proofs.Ytcgafnmpfdkfoaa
