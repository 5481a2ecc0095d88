/- Law CkptVotes: the walk. -/
import Derived.Test.YtcgafnmpfdkfoaaVote2
import Derived.Deep.AppendLies
import Derived.Deep.RegionHeld3
namespace Go.Proofs.Ytcgafnmpfdkfoaa
open Go.RowKit

/-- Numbers, as they lie. -/
def NumsAt (w : World) (A : Option Addr) (n c : Nat) (xs : List Int) : Prop :=
  xs.length = n ∧ n ≤ c ∧ c ≤ maxLen ∧ (0 < n → ∃ b off, A = some ⟨b, off, none⟩ ∧ b < w.heap.size ∧ ∀ k x, xs[k]? = some x → w.cell? ⟨b, off + k, none⟩ = some (.int .i64 x))
theorem NumsAt.grow {w w1 : World} {A : Option Addr} {n c : Nat} {xs : List Int} (h : NumsAt w A n c xs) (k : Below w.heap.size w w1) : NumsAt w1 A n c xs := by
  obtain ⟨h1, h2, h3, h4⟩ := h
  refine ⟨h1, h2, h3, fun hp => ?_⟩
  obtain ⟨b, off, e1, e2, e3⟩ := h4 hp
  exact ⟨b, off, e1, Nat.lt_of_lt_of_le e2 k.size, fun i x hx => (k.cell (p := ⟨b, off + i, none⟩) e2).trans (e3 i x hx)⟩
theorem nums_of_own {W : World} {base n : Nat} {v : Value} {xs : List Int} (h : W.ownsRow base 3 1 v n (nums xs)) (hn : xs.length = n) : ∃ A c, v = .slice A n c ∧ NumsAt W A n c xs := by
  rcases h.2 with ⟨rfl, rfl⟩ | ⟨g, c, cs, rfl, _, hg, hnc, hcm, _, _⟩
  · exact ⟨none, 0, rfl, hn, Nat.le_refl _, Nat.zero_le _, fun h => absurd h (by omega)⟩
  · refine ⟨_, c, rfl, hn, hnc, hcm, fun _ => ⟨g, 0, rfl, (h.lt _ rfl).2, fun k x hx => ?_⟩⟩
    have hk := (List.getElem?_eq_some_iff.1 hx).1
    rw [Nat.zero_add, h.cellAt k (by omega)]
    simp [nums, hx]
def cpC (c : Cp) : List Value := [.int .i64 c.z, .int .i64 c.g, .int .i64 0, .int .i64 0, .pointer none]
def flatC (cs : List Cp) : List Value := cs.flatMap cpC
theorem flatC_snoc (cs : List Cp) (k : Nat) (x : Cp) (h : cs[k]? = some x) : flatC (cs.take (k + 1)) = flatC (cs.take k) ++ cpC x := by
  rw [List.take_add_one, h]; simp [flatC]
theorem flatC_length (cs : List Cp) : (flatC cs).length = cs.length * 5 := by
  induction cs with
  | nil => rfl
  | cons x r ih => rw [show flatC (x :: r) = cpC x ++ flatC r from rfl, List.length_append, ih]; simp [cpC]; omega
theorem flatC_get (cs : List Cp) (k : Nat) (x : Cp) (h : cs[k]? = some x) (j : Nat) (hj : j < 5) : (flatC cs)[k * 5 + j]? = (cpC x)[j]? := by
  induction cs generalizing k with
  | nil => simp at h
  | cons y r ih =>
    have l5 : (cpC y).length = 5 := rfl
    rw [show flatC (y :: r) = cpC y ++ flatC r from rfl]
    cases k with
    | zero =>
      simp at h; subst h
      rw [List.getElem?_append_left (by omega)]
      congr 1; omega
    | succ k =>
      rw [List.getElem?_cons_succ] at h
      rw [List.getElem?_append_right (by omega), l5, show (k + 1) * 5 + j - 5 = k * 5 + j by omega]
      exact ih k h
theorem cps_of_own {W : World} {base n : Nat} {v : Value} {cs : List Cp} (h : W.ownsRow base 93 5 v n (flatC cs)) (hn : cs.length = n) : ∃ A c, v = .slice A n c ∧ CpsAt W A n c cs := by
  rcases h.2 with ⟨rfl, rfl⟩ | ⟨g, c, cur, rfl, _, hg, hnc, hcm, _, _⟩
  · exact ⟨none, 0, rfl, hn, Nat.le_refl _, Nat.zero_le _, fun h => absurd h (by omega)⟩
  · refine ⟨_, c, rfl, hn, hnc, hcm, fun _ => ⟨g, rfl, (h.lt _ rfl).2, fun k x hx => ?_⟩⟩
    have hk := (List.getElem?_eq_some_iff.1 hx).1
    have key : ∀ j, j < 5 → W.cell? ⟨g, k * 5 + j, none⟩ = (cpC x)[j]? := fun j hj => by
      rw [h.cellAt (k * 5 + j) (by omega)]
      exact flatC_get cs k x hx j hj
    exact ⟨key 0 (by omega), key 1 (by omega), key 2 (by omega), key 3 (by omega), key 4 (by omega)⟩
theorem info_copy : (Try.prog.info? 93).map (fun i => (i.zero, i.size, i.bytes)) = some (some (.agg #[.int .i64 0, .int .i64 0, .int .i64 0, .int .i64 0, .pointer none]), 5, 40) := by kernel_rfl
theorem sorted_length (zs : List Int) : (sorted zs).length = zs.length := by simp [sorted]
theorem sorted_mem (zs : List Int) (z : Int) : z ∈ sorted zs ↔ z ∈ zs := by simp [sorted]
theorem sorted_le (zs : List Int) (k : Nat) (x y : Int) (hx : (sorted zs)[k]? = some x) (hy : (sorted zs)[k + 1]? = some y) : x ≤ y := by
  have h := List.pairwise_mergeSort (le := fun (x y : Int) => decide (x ≤ y)) (by intro a b c; simp; omega) (by intro a b; simp; omega) zs
  rw [List.pairwise_iff_getElem] at h
  obtain ⟨h1, e1⟩ := List.getElem?_eq_some_iff.1 hx
  obtain ⟨h2, e2⟩ := List.getElem?_eq_some_iff.1 hy
  have := h k (k + 1) h1 h2 (by omega)
  unfold sorted at e1 e2
  rw [e1, e2] at this
  simpa using this
theorem held_mem (cs : List Cp) (gen z : Int) (h : z ∈ held cs gen) : ∃ (k : Nat) (x : Cp), cs[k]? = some x ∧ x.z = z ∧ x.g = gen := by
  unfold held at h
  obtain ⟨x, hx, rfl⟩ := List.mem_map.1 h
  obtain ⟨hm, hg⟩ := List.mem_filter.1 hx
  obtain ⟨k, hk⟩ := List.mem_iff_getElem?.1 hm
  exact ⟨k, x, hk, rfl, by simpa using hg⟩
end Go.Proofs.Ytcgafnmpfdkfoaa
