/- Arguments that hold whole numbers alone (structs, arrays, slices of them), opened to their cells. Over any program. -/
import Derived.WalkKit
import Derived.ProofKit
import Derived.OpenShut
import Derived.Deep.Slices
import Derived.KernelRfl
namespace Go.Proofs.Ytcgafnmpfdkfoaa
open Go.RowKit Go.ChangeShapes Go.WideShapes Go.Deep

/-- Which kind of whole number lies at a cell of a type. -/
def kindAt (P : Program) : Nat → TypeId → Nat → Option IntKind
  | 0, _, _ => none
  | f + 1, t, i =>
    match P.underlying t with
    | some (.int k) => if i = 0 then some k else none
    | some (.struct fs) => fs.toList.findSome? fun x => if x.offset ≤ i ∧ i < x.offset + P.cellsOf x.type then kindAt P f x.type (i - x.offset) else none
    | some (.array n e) => if 0 < P.cellsOf e ∧ i / P.cellsOf e < n then kindAt P f e (i % P.cellsOf e) else none
    | _ => none

section
variable {H : Type} {enc : TypeId × Value → H} {P : Program} {w : World} {base : Nat} {spare : Nat → Bool} {held : Bool}
theorem cell_of_trod (f : Nat) : ∀ {t : TypeId} {i : Nat} {k : IntKind} {fuel : Nat} {cs : List Value} {x : DataW H × List MemPlace}, kindAt P f t i = some k → DataW.trod enc P w base spare held fuel t cs = some x → ∃ n, cs[i]? = some (.int k n) ∧ (Lit.int k n).wf = true := by
  induction f with
  | zero => intro t i k fuel cs x h; simp [kindAt] at h
  | succ f ih =>
    intro t i k fuel cs x h hx
    unfold kindAt at h
    split at h
    · rename_i k' ht
      split at h
      · rename_i hi
        subst hi
        injection h with h
        subst h
        obtain ⟨n, rfl, _, hw⟩ := DataW.trod_int ht hx
        exact ⟨n, rfl, hw⟩
      · cases h
    · rename_i fs ht
      obtain ⟨fl, hmem, hf⟩ := List.exists_of_findSome?_eq_some h
      split at hf
      · rename_i hr
        obtain ⟨xs, m, _, _, hl, hxs, hg⟩ := DataW.trod_struct ht hx
        obtain ⟨j, hj, hje⟩ := List.getElem_of_mem hmem
        have hj' : fs[j]? = some fl := by
          rw [Array.getElem?_eq_getElem (by simpa using hj)]
          simpa using hje
        have hy := hg j fl hj'
        have hjl : j < xs.length := by rw [hxs]; simpa using hj
        rw [List.getElem?_eq_getElem hjl] at hy
        obtain ⟨n, hn, hw⟩ := ih hf hy
        refine ⟨n, ?_, hw⟩
        rw [List.getElem?_take, if_pos (by omega), List.getElem?_drop] at hn
        rw [← hn]; congr 1; omega
      · cases hf
    · rename_i n e ht
      split at h
      · rename_i hr
        obtain ⟨xs, m, _, _, hl, hxs, hg⟩ := DataW.trod_array ht hx
        have hy := hg (i / P.cellsOf e) hr.2
        rw [List.getElem?_eq_getElem (by omega)] at hy
        obtain ⟨v, hn, hw⟩ := ih h hy
        refine ⟨v, ?_, hw⟩
        have hlt := Nat.mod_lt i hr.1
        rw [List.getElem?_take, if_pos hlt, List.getElem?_drop] at hn
        rw [← hn]; congr 1
        have := Nat.div_add_mod i (P.cellsOf e)
        rw [Nat.mul_comm]; exact this.symm
      · cases h
    · cases h

/-- A struct or an array by value: each of its cells. -/
theorem open_flat {r : Reach} {b0 : Nat} {t : TypeId} {v : Value} {d : DataW H} {p : List MemPlace} (f sz : Nat) (K : Nat → IntKind) (hk : ∀ i, i < sz → kindAt P f t i = some (K i)) (hC : P.cellsOf t = sz)
    (hs : (∃ fs, P.underlying t = some (.struct fs)) ∨ ∃ n e, P.underlying t = some (.array n e)) (hv : Value.okWide P w r b0 t v) (h : DataW.Trod enc P w base spare held t v d p) :
    ∃ cs : Array Value, v = .agg cs ∧ cs.size = sz ∧ ∀ i, i < sz → ∃ n, cs[i]? = some (.int (K i) n) ∧ (Lit.int (K i) n).wf = true := by
  have hv' : ∃ cs, v = .agg cs ∧ cs.size = P.cellsOf t := by
    unfold Value.okWide at hv
    rcases hs with ⟨fs, hs⟩ | ⟨n, e, hs⟩ <;> rw [hs] at hv <;> obtain ⟨cs, h1, h2, _⟩ := hv <;> exact ⟨cs, h1, h2⟩
  obtain ⟨cs, rfl, hz⟩ := hv'
  obtain ⟨fuel, hf⟩ := h
  refine ⟨cs, rfl, hz.trans hC, fun i hi => ?_⟩
  obtain ⟨n, hn, hw⟩ := cell_of_trod f (hk i hi) hf
  exact ⟨n, by simpa [Value.cells] using hn, hw⟩

/-- A slice of such: where it has elements, a row of cells. -/
def RowAt (w : World) (A : Option Addr) (n c sz : Nat) (K : Nat → IntKind) : Prop :=
  n ≤ c ∧ c ≤ maxLen ∧ (0 < n → ∃ b off, A = some ⟨b, off, none⟩ ∧ b < w.heap.size ∧ ∀ i, i < n → ∀ j, j < sz → ∃ v, w.cell? ⟨b, off + i * sz + j, none⟩ = some (.int (K j) v) ∧ (Lit.int (K j) v).wf = true)
theorem add_plain (b o j : Nat) : (⟨b, o, none⟩ : Addr).add j = ⟨b, o + j, none⟩ := by unfold Addr.add; split <;> simp_all
theorem open_rows {r : Reach} {b0 : Nat} {t e : TypeId} {v : Value} {d : DataW H} {p : List MemPlace} (f sz : Nat) (K : Nat → IntKind) (hk : ∀ i, i < sz → kindAt P f e i = some (K i)) (hC : P.cellsOf e = sz) (hz : 0 < sz)
    (ht : P.underlying t = some (.slice e)) (hv : Value.okWide P w r b0 t v) (h : DataW.Trod enc P w base spare held t v d p) : ∃ A n c, v = .slice A n c ∧ RowAt w A n c sz K := by
  obtain ⟨A, n, c, rfl⟩ := okWide_slice ht hv
  refine ⟨A, n, c, rfl, ?_⟩
  obtain ⟨fuel, hf⟩ := h
  rcases open_slice ht hf with ⟨hcs, _⟩ | ⟨a, len, cap, m, _, D, Pl, hcs, _, hl, hm, hmm, _, hi⟩
  · simp [Value.cells] at hcs
    obtain ⟨rfl, rfl, rfl⟩ := hcs
    exact ⟨Nat.le_refl _, Nat.zero_le _, fun h => absurd h (by omega)⟩
  · simp [Value.cells] at hcs
    obtain ⟨rfl, rfl, rfl⟩ := hcs
    refine ⟨hl, hm, fun hn => ?_⟩
    have hnm : n ≤ m := by rw [hmm]; split <;> omega
    have key : ∀ i, i < n → ∀ j, j < sz → ∃ v, w.cell? (a.add (i * sz + j)) = some (.int (K j) v) ∧ (Lit.int (K j) v).wf = true := by
      intro i hi' j hj
      obtain ⟨cs', hc, ht'⟩ := hi i (by omega)
      obtain ⟨v, hv, hw⟩ := cell_of_trod f (hk j hj) ht'
      refine ⟨v, ?_, hw⟩
      obtain ⟨_, hcl, hat⟩ := World.cells?_some hc
      have hcell := hat j (by rw [hC]; exact hj)
      rw [Go.Deep.add_add, hC] at hcell
      rw [hcell, hv]
    obtain ⟨v0, h0, _⟩ := key 0 hn 0 hz
    have hadd : a.add (0 * sz + 0) = a := by simp [Addr.add]
    rw [hadd] at h0
    have hblk := World.block_lt_of_cell? w a h0
    have hspot : a.spot = none := by
      unfold World.cell? at h0
      split at h0
      · cases hsp : a.spot with
        | none => rfl
        | some s => rw [hsp] at h0; simp at h0
      · cases h0
    obtain ⟨b, off, spot⟩ := a
    dsimp only at hspot hblk
    subst hspot
    refine ⟨b, off, rfl, hblk, fun i hi' j hj => ?_⟩
    have := key i hi' j hj
    rw [add_plain, ← Nat.add_assoc] at this
    exact this
theorem exists_list {α : Type} {n : Nat} {Q : Nat → α → Prop} (h : ∀ i, i < n → ∃ x, Q i x) : ∃ l : List α, l.length = n ∧ ∀ i x, l[i]? = some x → Q i x := by
  induction n with
  | zero => exact ⟨[], rfl, fun i x hx => by simp at hx⟩
  | succ n ih =>
    obtain ⟨l, hl, hq⟩ := ih (fun i hi => h i (by omega))
    obtain ⟨x, hx⟩ := h n (by omega)
    refine ⟨l ++ [x], by simp [hl], fun i y hy => ?_⟩
    by_cases hi : i < n
    · rw [List.getElem?_append_left (by omega)] at hy; exact hq i y hy
    · rw [List.getElem?_append_right (by omega)] at hy
      have : i - l.length = 0 := by
        rcases Nat.eq_zero_or_pos (i - l.length) with h0 | h0
        · exact h0
        · rw [List.getElem?_eq_none (by simp; omega)] at hy; cases hy
      rw [this] at hy
      simp at hy
      subst hy
      obtain rfl : i = n := by omega
      exact hx
end
end Go.Proofs.Ytcgafnmpfdkfoaa
