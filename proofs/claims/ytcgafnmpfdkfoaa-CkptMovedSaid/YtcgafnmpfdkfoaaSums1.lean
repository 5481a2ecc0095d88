/- Law BmapSums: the plain part. All zones together hold twice as many blocks as live. -/
import Derived.Test.YtcgafnmpfdkfoaaMap5
namespace Go.Proofs.Ytcgafnmpfdkfoaa
open Go.RowKit

/-- The sum of the first counts. -/
def sumTo (lv : List Int) : Nat → Int
  | 0 => 0
  | k + 1 => sumTo lv k + rdI lv k
def hasTo (e : E) : Nat → Int
  | 0 => 0
  | k + 1 => hasTo e k + b2i (e.has k)
theorem hasTo_other {e : E} (h : e.st ≠ 1) (k : Nat) : hasTo e k = 0 := by
  induction k with
  | zero => rfl
  | succ k ih => simp [hasTo, ih, E.has, h, b2i]
theorem hasTo_lives {e : E} (h : e.st = 1) (hz : 0 ≤ e.zn) (hm : 0 ≤ e.mt) (hne : e.zn ≠ e.mt) (k : Nat) : hasTo e k = b2i (decide (e.zn < k)) + b2i (decide (e.mt < k)) := by
  induction k with
  | zero => simp [hasTo, b2i]; omega
  | succ k ih =>
    simp only [hasTo, ih, E.has, h, true_and, b2i, decide_eq_true_eq]
    split <;> split <;> split <;> split <;> split <;> omega
def cntTo (l : List E) : Nat → Int
  | 0 => 0
  | k + 1 => cntTo l k + cnt l k
theorem cntTo_cons (e : E) (l : List E) (k : Nat) : cntTo (e :: l) k = hasTo e k + cntTo l k := by
  induction k with
  | zero => simp [cntTo, hasTo]
  | succ k ih =>
    have : cnt (e :: l) k = b2i (e.has k) + cnt l k := by
      unfold cnt b2i
      rw [List.countP_cons]
      split <;> omega
    simp only [cntTo, hasTo, ih, this]; omega
theorem states_cons (e : E) (l : List E) (s : Int) : states (e :: l) s = (if e.st = s then 1 else 0) + states l s := by
  unfold states
  rw [List.countP_cons]
  by_cases h : e.st = s <;> simp [h]; omega
theorem cntTo_all {g : G} (l : List E) (h : ∀ e ∈ l, e.right g = true) (n : Nat) (hn : (n : Int) = g.all) : cntTo l n = 2 * states l 1 := by
  induction l with
  | nil =>
    have : ∀ k, cntTo [] k = 0 := fun k => by induction k with | zero => rfl | succ k ih => simp [cntTo, ih, cnt]
    rw [this]; rfl
  | cons e l ih =>
    rw [cntTo_cons, ih (fun x hx => h x (List.mem_cons_of_mem _ hx)), states_cons]
    have hr := h e (List.mem_cons_self)
    by_cases h1 : e.st = 1
    · obtain ⟨⟨a, b⟩, ⟨c, d⟩, _, hne, _⟩ := E.right_lives hr h1
      rw [hasTo_lives h1 a c hne, if_pos h1]
      have e1 : decide (e.zn < (n : Int)) = true := by simp; omega
      have e2 : decide (e.mt < (n : Int)) = true := by simp; omega
      rw [e1, e2]
      simp [b2i]; omega
    · rw [hasTo_other h1, if_neg h1]; omega
theorem sumTo_cnt {g : G} {l : List E} {lv : List Int} (h : MapOk g l lv) (k : Nat) (hk : (k : Int) ≤ g.all) : sumTo lv k = cntTo l k := by
  induction k with
  | zero => rfl
  | succ k ih => simp only [sumTo, cntTo, ih (by omega)]; rw [h.live k (by omega) (by omega)]
/-- **All zones together hold twice as many blocks as live.** -/
theorem MapOk.twice {g : G} {l : List E} {lv : List Int} (h : MapOk g l lv) (n : Nat) (hn : (n : Int) = g.all) : sumTo lv n = 2 * states l 1 := by
  rw [sumTo_cnt h n (by omega), cntTo_all l h.all n hn]
theorem MapOk.sum_bound {g : G} {l : List E} {lv : List Int} (h : MapOk g l lv) (k : Nat) (hk : (k : Int) ≤ g.all) : 0 ≤ sumTo lv k ∧ sumTo lv k ≤ 256 * k := by
  induction k with
  | zero => simp [sumTo]
  | succ k ih =>
    have := ih (by omega)
    have := h.bound k (by omega) (by omega)
    simp only [sumTo]; omega
/-- Each block is None, lives or is lost. -/
theorem MapOk.three {g : G} {l : List E} {lv : List Int} (h : MapOk g l lv) : states l 0 + states l 1 + states l 2 = g.B := by
  have hl := h.len
  have ha := h.all
  rw [← hl]
  clear hl h
  induction l with
  | nil => rfl
  | cons e l ih =>
    rw [states_cons, states_cons, states_cons, List.length_cons]
    have := ih (fun x hx => ha x (List.mem_cons_of_mem _ hx))
    have hr := ha e List.mem_cons_self
    have h3 : e.st = 0 ∨ e.st = 1 ∨ e.st = 2 := by
      by_cases h1 : e.st = 1
      · exact .inr (.inl h1)
      · rcases (E.right_zero hr h1).1 with h | h
        · exact .inl h
        · exact .inr (.inr h)
    rcases h3 with h | h | h <;> simp [h] <;> omega
end Go.Proofs.Ytcgafnmpfdkfoaa
