/- Law BmapOver: what the walk wants beside the map. -/
import Derived.Test.YtcgafnmpfdkfoaaSums2
namespace Go.Proofs.Ytcgafnmpfdkfoaa
open Go.RowKit

/-- A slice of entries, as it lies. -/
def EntsAt (w : World) (A : Option Addr) (n c : Nat) (es : List E) : Prop :=
  es.length = n ∧ n ≤ c ∧ c ≤ maxLen ∧ (0 < n → ∃ b off, A = some ⟨b, off, none⟩ ∧ b < w.heap.size ∧ ∀ k e, es[k]? = some e →
    w.cell? ⟨b, off + k * 6, none⟩ = some (.int .i64 e.st) ∧ w.cell? ⟨b, off + k * 6 + 1, none⟩ = some (.int .i64 e.zn) ∧ w.cell? ⟨b, off + k * 6 + 2, none⟩ = some (.int .i64 e.mt) ∧ w.cell? ⟨b, off + k * 6 + 3, none⟩ = some (.int .i64 e.off) ∧
    w.cell? ⟨b, off + k * 6 + 4, none⟩ = some (.int .i64 e.sq) ∧ w.cell? ⟨b, off + k * 6 + 5, none⟩ = some (.int .i64 e.sm))

/-- The map in which one block has an entry. -/
def one (g : G) (b : Int) (e : E) : List E := (nones g).set b.toNat e
theorem one_len (g : G) (b : Int) (e : E) : (one g b e).length = g.B.toNat := by simp [one, nones]
theorem one_at (g : G) (b : Int) (e : E) (h0 : 0 ≤ b) (h1 : b < g.B) : (one g b e)[b.toNat]? = some e := by
  unfold one
  rw [List.getElem?_set_self (by simp [nones]; omega)]
theorem one_set (g : G) (b : Int) (e x : E) : (one g b e).set b.toNat x = one g b x := by simp [one]
theorem one_zero (g : G) (b : Int) : one g b E0 = nones g := by
  unfold one nones
  apply List.ext_getElem?
  intro i
  rw [List.getElem?_set]
  split
  · rename_i h
    subst h
    split
    · rename_i h2
      rw [List.getElem?_replicate, if_pos (by simpa using h2)]
    · rename_i h2
      rw [List.getElem?_replicate, if_neg (by simpa using h2)]
  · rfl
theorem one_cnt (g : G) (b : Int) (e : E) (h0 : 0 ≤ b) (h1 : b < g.B) (z : Int) : cnt (one g b e) z = b2i (e.has z) := by
  have hl : b.toNat < (nones g).length := by simp [nones]; omega
  unfold one
  rw [cnt_set hl]
  have h2 : cnt (nones g) z = 0 := by
    unfold cnt nones
    rw [List.countP_replicate]
    simp [E.has, E0]
  have h3 : (nones g)[b.toNat] = E0 := by simp [nones]
  rw [h2, h3]
  simp [E.has, E0, b2i]
theorem nones_states (g : G) (h : 0 ≤ g.B) : states (nones g) 0 = g.B := by
  unfold states nones
  rw [List.countP_replicate]
  simp [E0]; omega
theorem setL_one {g : G} {b : Int} {e x : E} (h0 : 0 ≤ b) (h1 : b < g.B) : setCode g (one g b e) b x = (if x.right g then 0 else 10) ∧ setL g (one g b e) b x = (if x.right g then one g b x else one g b e) := by
  have hl := one_len g b e
  have hc : setCode g (one g b e) b x = (if x.right g then 0 else 10) := by
    unfold setCode
    rw [if_neg (by omega)]
  refine ⟨hc, ?_⟩
  unfold setL
  rw [hc]
  cases x.right g <;> simp [one_set]
/-- An entry stored into a block of its own. -/
abbrev World.putBox (w : World) (b : Nat) (e : E) : World := (((((w.setCell ⟨b, 0, none⟩ (.int .i64 e.st)).setCell ⟨b, 1, none⟩ (.int .i64 e.zn)).setCell ⟨b, 2, none⟩ (.int .i64 e.mt)).setCell ⟨b, 3, none⟩ (.int .i64 e.off)).setCell ⟨b, 4, none⟩ (.int .i64 e.sq)).setCell ⟨b, 5, none⟩ (.int .i64 e.sm)
theorem Blk.set_ {w : World} {g : Nat} {t : TypeId} {cs : Array Value} (h : Blk w g t cs) (i : Nat) (u : Value) : Blk (w.setCell ⟨g, i, none⟩ u) g t (cs.setIfInBounds i u) := by
  unfold Blk at h ⊢
  simp [World.setCell, Array.getElem?_modify, h]
theorem Blk.put {w : World} {b : Nat} {t : TypeId} {x : E} (h : Blk w b t x.arr) (e : E) : Blk (World.putBox w b e) b t e.arr ∧ Keeps w.heap.size [b] w (World.putBox w b e) :=
  ⟨by simpa using ((((((h.set_ 0 (.int .i64 e.st)).set_ 1 (.int .i64 e.zn)).set_ 2 (.int .i64 e.mt)).set_ 3 (.int .i64 e.off)).set_ 4 (.int .i64 e.sq)).set_ 5 (.int .i64 e.sm)),
    (((((((Keeps.refl _ _ _).setCell _ _ (.inl (by simp))).setCell _ _ (.inl (by simp))).setCell _ _ (.inl (by simp))).setCell _ _ (.inl (by simp))).setCell _ _ (.inl (by simp))).setCell _ _ (.inl (by simp)))⟩
end Go.Proofs.Ytcgafnmpfdkfoaa
