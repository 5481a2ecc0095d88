/- Small laws over any program: a region that draws its order, walked once in the text's order, where every operation reads, computes or calls what leaves the old blocks alone. -/
import Derived.WalkKit
import Derived.IntWalk
import Derived.KernelRfl
import Derived.RowKit3
import Derived.Deep.QuietTactic
import Derived.BigQuiet
import Derived.Outline
import Derived.Deep.DeepFit
import Derived.Lib.Hide
namespace Go.Proofs.Ytcgafnmpfdkfoaa
open Go.RowKit

/-- The worlds in which all that lay in w lies as it lay. -/
structure From (w : World) where
  val : World
  below : Below w.heap.size w val
instance (w : World) : Nonempty (From w) := ⟨⟨w, Below.refl _ _⟩⟩
theorem From.cell {w : World} (x : From w) (b o : Nat) (h : b < w.heap.size) : x.val.cell? ⟨b, o, none⟩ = w.cell? ⟨b, o, none⟩ := x.below.cell (p := ⟨b, o, none⟩) h
theorem From.frozen {w : World} (x : From w) (b o : Nat) (h : b < w.heap.size) : x.val.frozen? ⟨b, o, none⟩ = w.frozen? ⟨b, o, none⟩ := x.below.frozen (p := ⟨b, o, none⟩) h

theorem below_drew {B : Nat} {w W : World} (h : Below B w W) : Below B w W.drew := ⟨h.os, h.tape, h.output, h.size, h.block⟩
theorem below_then {B : Nat} {w w1 w2 : World} (h : Below B w w1) (hB : B ≤ w1.heap.size) (k : Below w1.heap.size w1 w2) : Below B w w2 :=
  h.trans (k.mono hB)
theorem below_box (w : World) (o : Obj) : Below w.heap.size w (w.alloc o) := (Below.refl _ _).alloc (Nat.le_refl _) _

/-- A region that draws, over the worlds From w. -/
theorem region_from {P : Program} {id : Nat} {Q : Exit → Act → World → Prop} {a : Act} {w : World} {l : List Oper} (hm : P.follows .mixedOrders = true) (hB : Region.lexB .any l.toArray = true)
    (h : wpQuiet P l.toArray (fun W => ∃ x : From w, W = x.val) (fun a' => ∀ W, Below w.heap.size w W → Q .normal a' W) l a) : (Code.region id l.toArray true).wp P Q a w := by
  refine wp_region_quiet (C := fun W => ∃ x : From w, W = x.val) hm hB ⟨⟨w.drew, below_drew (Below.refl _ _)⟩, rfl⟩ ?_
  have key : ∀ (m : List Oper) (b : Act), wpQuiet P l.toArray (fun W => ∃ x : From w, W = x.val) (fun a' => ∀ W, Below w.heap.size w W → Q .normal a' W) m b →
      wpQuiet P l.toArray (fun W => ∃ x : From w, W = x.val) (fun a' => ∀ W, (∃ x : From w, W = x.val) → Q .normal a' W) m b := by
    intro m
    induction m with
    | nil => intro b hb W ⟨x, hx⟩; subst hx; exact hb _ x.below
    | cons o r ih =>
      intro b hb
      unfold wpQuiet at hb ⊢
      split
      · rename_i hw
        rw [if_pos hw] at hb
        exact Oper.quiet_mono ih hb
      · rename_i hw
        rw [if_neg hw] at hb
        exact ih _ hb
  simpa using key l a h

/-- A callee's contract at a world of the class. -/
theorem from_call {P : Program} {f : FuncId} {args : Array Value} {w : World} {x : From w} {v : Value}
    (h : Calls P f args x.val fun e w' => e = .returned v ∧ Below x.val.heap.size x.val w') : Calls P f args x.val fun e w'' => e = .returned v ∧ ∃ y : From w, w'' = y.val :=
  h.mono fun _ _ ⟨he, hm⟩ => ⟨he, ⟨_, below_then x.below x.below.size hm⟩, rfl⟩
theorem from_call_box {P : Program} {f : FuncId} {args : Array Value} {w : World} {x : From w} {v : Value} {o : Obj}
    (h : Calls P f args x.val fun e w' => e = .returned v ∧ x.val.alloc o = w') : Calls P f args x.val fun e w'' => e = .returned v ∧ ∃ y : From w, w'' = y.val :=
  from_call (h.mono fun _ _ ⟨he, hm⟩ => ⟨he, hm ▸ below_box _ _⟩)
theorem from_call_same {P : Program} {f : FuncId} {args : Array Value} {w : World} {x : From w} {v : Value}
    (h : Calls P f args x.val fun e w' => e = .returned v ∧ x.val = w') : Calls P f args x.val fun e w'' => e = .returned v ∧ ∃ y : From w, w'' = y.val :=
  from_call (h.mono fun _ _ ⟨he, hm⟩ => ⟨he, hm ▸ Below.refl _ _⟩)

theorem bcell {W w1 : World} (hb : Below W.heap.size W w1) : (∀ b o, b < W.heap.size → w1.cell? ⟨b, o, none⟩ = W.cell? ⟨b, o, none⟩) ∧ (∀ b o, b < W.heap.size → w1.frozen? ⟨b, o, none⟩ = W.frozen? ⟨b, o, none⟩) :=
  ⟨fun b o h => hb.cell (p := ⟨b, o, none⟩) h, fun b o h => hb.frozen (p := ⟨b, o, none⟩) h⟩
theorem ret_int {k : IntKind} {a b : Int} (h : a = b) : Ending.returned (.int k a) = .returned (.int k b) := by rw [h]
theorem ret_bool {a b : Bool} (h : a = b) : Ending.returned (.bool a) = .returned (.bool b) := by rw [h]
end Go.Proofs.Ytcgafnmpfdkfoaa
