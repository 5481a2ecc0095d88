/- A region that draws its order, in a round of a range over a function: walked once, as elsewhere. -/
import Derived.Test.YtcgafnmpfdkfoaaIter
import Derived.Sort.QuietThIn
namespace Go.Proofs.Ytcgafnmpfdkfoaa
open Go.RowKit

theorem upon_wide {P : Program} {C : World → Prop} {w : World} {v : Value} {n : Nat} : ∀ {r : Result Next}, Oper.quietUpon P C w v r → Oper.quietUponIn Fence.wide n P C w v r
  | .ok (.value _) _, h => h
  | .ok .skip _, h => h
  | .ok (.enter _ _) _, h => ⟨h.1, wide_any, callsIn_wide.2 h.2⟩
theorem quiet_wide {P : Program} {ops : Array Oper} {C : World → Prop} {Q : Act → Prop} {n : Nat} : ∀ (l : List Oper) (a : Act), wpQuiet P ops C Q l a → wpQuietIn Fence.wide n P ops C Q l a
  | [], _, h => h
  | o :: rest, a, h => by
    unfold wpQuiet at h
    unfold wpQuietIn
    refine ⟨fun _ _ _ _ => trivial, ?_⟩
    split
    · rename_i hw
      rw [if_pos hw] at h
      obtain ⟨v, h1, h2⟩ := h
      exact ⟨v, fun w hw => upon_wide (h1 w hw), quiet_wide rest _ h2⟩
    · rename_i hw
      rw [if_neg hw] at h
      exact quiet_wide rest _ h

def noDefer (o : Oper) : Bool := match o.op with | .defer _ => false | _ => true
theorem noDefer_ne {o : Oper} (h : noDefer o = true) : ∀ c, o.op ≠ .defer c := by
  intro c hc
  simp [noDefer, hc] at h

theorem op_round {n l : Nat} {P : Program} {ops : Array Oper} {Q : Exit → Act → World → Prop} (hd : ops.all noDefer = true) (i : Nat) (K : Act → World → Prop) (a : Act) (w : World)
    (h : wpOpIn Fence.wide n P ops Q i K a w) : wpOpIn (Fence.wide.inRound l) n P ops Q i K a w := by
  unfold wpOpIn at h ⊢
  split
  · rename_i hi; rw [hi] at h; exact h
  · rename_i o hi
    rw [hi] at h
    dsimp only at h
    have hn : noDefer o = true := by
      rw [Array.all_eq_true] at hd
      obtain ⟨hi', rfl⟩ := Array.getElem?_eq_some_iff.1 hi
      exact hd i hi'
    split
    · rename_i hw
      rw [if_pos hw] at h
      refine ⟨h.1, ?_⟩
      have h2 := h.2
      rw [Oper.semAt_eq _ _ _ (noDefer_ne hn)] at h2 ⊢
      exact h2
    · rename_i hw
      rw [if_neg hw] at h
      exact h
theorem any_round {n l : Nat} {P : Program} {ops : Array Oper} {md : Region.Mode} {Q : Exit → Act → World → Prop} (hd : ops.all noDefer = true) : ∀ (fuel : Nat) (listed : Array Bool) (a : Act) (w : World),
    wpAnyIn Fence.wide n P md ops Q fuel listed a w → wpAnyIn (Fence.wide.inRound l) n P md ops Q fuel listed a w
  | 0, _, _, _, h => h
  | fuel + 1, _, a, w, h => ⟨h.1, fun i hi => op_round hd i _ a w (wpOpIn_mono (fun a' w' h' => any_round hd fuel _ a' w' h') (h.2 i hi))⟩

theorem wpIn_region_round {P : Program} {id n lo : Nat} {C : World → Prop} {Q : Exit → Act → World → Prop} {a : Act} {w : World} {ops : Array Oper} (hm : P.follows .mixedOrders = true) (hB : Region.lexB .any ops = true) (hd : ops.all noDefer = true) (hC : C { w with drawn := w.drawn + 1 })
    (h : wpQuietIn Fence.wide n P ops C (fun a' => ∀ w', C w' → Q .normal a' w') ops.toList a) : (Code.region id ops true).wpIn (Fence.wide.inRound lo) n P Q a w := by
  simp only [Region.lexB, Bool.and_eq_true] at hB
  refine wpIn_region_any hm (any_round hd _ _ _ _ (wpAnyIn_of_quiet (Q := fun a' => ∀ w', C w' → Q .normal a' w') rfl (fun _ w' hw' h => h w' hw') _ _ _ _ hC ?_))
  have := wpAnyQIn_lex (F := Fence.wide) (n := n) (C := C) (md := .any) hB.1 ops.toList 0 (Array.replicate ops.size false) a (by simp) (by simpa using hB.2) h
  simpa using this

/-- A region that draws, in a round, over the worlds From w. -/
theorem region_from_round {P : Program} {id n lo : Nat} {Q : Exit → Act → World → Prop} {a : Act} {w : World} {l : List Oper} (hm : P.follows .mixedOrders = true) (hB : Region.lexB .any l.toArray = true) (hd : l.toArray.all noDefer = true)
    (h : wpQuiet P l.toArray (fun W => ∃ x : From w, W = x.val) (fun a' => ∀ W, Below w.heap.size w W → Q .normal a' W) l a) : (Code.region id l.toArray true).wpIn (Fence.wide.inRound lo) n P Q a w := by
  refine wpIn_region_round (C := fun W => ∃ x : From w, W = x.val) hm hB hd ⟨⟨w.drew, below_drew (Below.refl _ _)⟩, rfl⟩ (quiet_wide _ _ ?_)
  have key : ∀ (m : List Oper) (b : Act), wpQuiet P l.toArray (fun W => ∃ x : From w, W = x.val) (fun a' => ∀ W, Below w.heap.size w W → Q .normal a' W) m b →
      wpQuiet P l.toArray (fun W => ∃ x : From w, W = x.val) (fun a' => ∀ W, (∃ x : From w, W = x.val) → Q .normal a' W) m b := by
    intro m
    induction m with
    | nil => intro b hb W ⟨x, hx⟩; subst hx; exact hb _ x.below
    | cons o r ih =>
      intro b hb
      unfold wpQuiet at hb ⊢
      split
      · rename_i hw
        rw [if_pos hw] at hb
        exact Oper.quiet_mono ih hb
      · rename_i hw
        rw [if_neg hw] at hb
        exact ih _ hb
  simpa using key l a h
end Go.Proofs.Ytcgafnmpfdkfoaa
