/- A range over a function whose rounds all go on: a law over iterators that hand a known list to yield. -/
import Derived.Test.YtcgafnmpfdkfoaaMap3
import Derived.RangeFuncNested
import Derived.RangeFuncBound
import Derived.RangeFuncCalls
import Derived.RangeFuncLeaves
import Derived.Shelf.Abstract
import Derived.OwnWalkIn
import Derived.TacticsInMore
import Derived.LoopNIn
import Derived.LoopIn
namespace Go.Proofs.Ytcgafnmpfdkfoaa
open Go.RowKit Go.Shelf

theorem wide_any {p : Prop} : Fence.wide.depth.isSome = true → p := fun h => by simp [Fence.wide] at h
theorem wide_round {p : Prop} {l : Nat} : (Fence.wide.inRound l).depth.isSome = true → p := fun h => by simp [Fence.wide] at h
theorem Keeps.putObj {B : Nat} {S : List Nat} {w w1 : World} (h : Keeps B S w w1) (l : Nat) (o : Obj) (hl : l ∈ S ∨ B ≤ l) : Keeps B S w (w1.putObj l o) :=
  ⟨h.os, h.tape, h.output, by simpa using h.size, fun i hi hn => (World.putObj_heap_other (by rintro rfl; rcases hl with hl | hl; exact hn hl; omega)).trans (h.block i hi hn)⟩

/-- An iterator that hands xs to yield, one behind the other, whatever J the rounds carry on; a round may write the blocks of S. -/
def Iter {α : Type} (P : Program) (g : Nat) (lb : Array Value) (encs : α → Array Value) (xs : List α) (S : List Nat) (w : World) : Prop :=
  ∀ (n l : Nat) (J : List α → World → Prop) (W : World), Below w.heap.size w W → w.heap.size ≤ l → l < W.heap.size →
    (∀ s X Y, J s X → Below W.heap.size X Y → J s Y) →
    (∀ m pre x rest W1, xs = pre ++ x :: rest → J pre W1 → W.heap.size ≤ W1.heap.size → YieldAt Fence.wide m P l (encs x) W1 fun e W' =>
      e = .returned (.bool true) ∧ J (pre ++ [x]) W' ∧ Keeps W1.heap.size (l :: S) W1 W') →
    J [] W →
    CallsIn Fence.wide n P g (#[.func (.yield l) #[] #[]] ++ lb) W fun e W' => (∃ v, e = .returned v) ∧ J xs W'

/-- How a round ends. -/
def RoundEnds {α : Type} (I : List α → World → Prop) (pre : List α) (S : List Nat) (W : World) : Exit → Act → World → Prop
  | .normal, _, W' => I pre W' ∧ Keeps W.heap.size S W W'
  | _, _, _ => False

theorem range_run {α : Type} {n : Nat} {P : Program} {g : Operand} {ps : Array Tmp} {assign body : Code} {Q : Exit → Act → World → Prop} {a : Act} {w : World}
    {gf : Nat} {lb : Array Value} (hg : a.eval g = .func (.func gf) #[] lb) (eg : ∀ args w, (callFunc gf args).run P w = .ok (.enter gf args) w)
    {encs : α → Array Value} {xs : List α} {S : List Nat} (hit : Iter P gf lb encs xs S w) (hS : ∀ i ∈ S, i < w.heap.size) (hps : ∀ x, (encs x).size = ps.size)
    (I : List α → World → Prop) (hI : ∀ s X Y, I s X → Below w.heap.size X Y → I s Y) (h0 : I [] w)
    (hround : ∀ m l pre x rest W, l = w.heap.size + 1 → xs = pre ++ x :: rest → I pre W → l < W.heap.size →
      assign.wpIn (Fence.wide.inRound l) m P (Exit.then (fun a1 W1 => Below W.heap.size W W1 ∧ ∀ W2, Keeps W1.heap.size [l] W1 W2 → W2.heap.size = W1.heap.size →
        body.wpIn (Fence.wide.inRound l) m P (RoundEnds I (pre ++ [x]) S W2) a1 W2) (fun _ _ _ => False)) { tmps := (ps.zip (encs x)).foldl (fun t (p, v) => t.setIfInBounds p v) a.tmps, defers := [] } W)
    (hdone : ∀ (D : Nat) (W : World), w.heap.size ≤ D → I xs W → W.heap[D]? = some (.deferred (some [])) → Q .normal { a with defers := { target := .collected D, args := #[] } :: a.defers } W) :
    (Code.rangeFunc g ps assign body).wpIn Fence.wide n P Q a w := by
  refine wpIn_rangeFunc ?_
  intro fn _
  obtain ⟨rec, hrec⟩ : ∃ rec : LoopState → Option Code → Loop, rec = fun st pe => { state := st, pending := pe, fn, tmps := a.tmps, params := ps, assign, body, defers := w.heap.size } := ⟨_, rfl⟩
  obtain ⟨W1, hW1⟩ : ∃ W1, (w.alloc (.deferred (some []))).alloc (.loop (rec .ready none)) = W1 := ⟨_, rfl⟩
  have hsz : W1.heap.size = w.heap.size + 2 := by rw [← hW1]; simp
  have hL1 : W1.heap[w.heap.size + 1]? = some (.loop (rec .ready none)) := by
    rw [← hW1]; have := World.alloc_heap_new (w.alloc (.deferred (some []))) (.loop (rec .ready none)); rwa [World.size_alloc] at this
  have hK1 : W1.heap[w.heap.size]? = some (.deferred (some [])) := by
    rw [← hW1]; exact (Below.heap_alloc _ _ _ (by simp)).trans (World.alloc_heap_new w _)
  have hb1 : Below w.heap.size w W1 := by
    rw [← hW1]; exact ((Below.refl _ w).alloc (Nat.le_refl _) _).alloc (by simp) _
  refine ⟨w.heap.size + 1, [{ target := .collected w.heap.size, args := #[] }], W1, { target := .fn (.func gf) lb, args := #[.func (.yield (w.heap.size + 1)) #[] #[]] }, W1, gf,
    #[.func (.yield (w.heap.size + 1)) #[] #[]] ++ lb, W1, ?_, ?_, ?_, ?_, ?_, ?_⟩
  · rw [← hW1, hrec]; exact run_enterLoop_outer _ _ _ _ _
  · simp only [resolve, hg]
    simp [go_sem]
  · intro _ _; trivial
  · simp [invoke, go_sem, eg]
  · intro h; simp [Fence.wide] at h
  · refine (hit (n - 1) (w.heap.size + 1)
      (fun pre W => I pre W ∧ W.heap[w.heap.size + 1]? = some (.loop (rec .ready none)) ∧ W.heap[w.heap.size]? = some (.deferred (some [])))
      W1 hb1 (by omega) (by omega)
      (fun s X Y hs hb => ⟨hI _ _ _ hs.1 (hb.mono (by omega)), (hb.block _ (by omega)).trans hs.2.1, (hb.block _ (by omega)).trans hs.2.2⟩)
      ?_ ⟨hI _ _ _ h0 hb1, hL1, hK1⟩).mono ?_
    · rintro m pre x rest W hx ⟨hi, hl, hk⟩ hle
      have hlt : w.heap.size + 1 < W.heap.size := by omega
      have hy := run_yield (P := P) (args := encs x) hl (by rw [hrec]; exact hps x)
      rw [hrec] at hy
      refine ⟨fn, _, assign, body, hy, roundIn_of_wpIn trivial (wpIn_mono (hround m _ pre x rest W rfl hx hi hlt) ?_)⟩
      clear hy
      rintro e a1 Wa hp
      cases e with
      | normal =>
        obtain ⟨hb, hbody⟩ := hp
        have hl1 := (hb.block _ hlt).trans hl
        have hk1 := (hb.block w.heap.size (by omega)).trans hk
        have hsa := hb.size
        refine ⟨_, run_beginRound hl1 (by rw [hrec]), ?_⟩
        have hl2 : (Wa.putObj (w.heap.size + 1) (.loop { rec .ready none with state := .busy })).heap[w.heap.size + 1]? = some (.loop { rec .ready none with state := .busy }) := World.putObj_heap_same (by omega)
        have kp : Keeps Wa.heap.size [w.heap.size + 1] Wa (Wa.putObj (w.heap.size + 1) (.loop { rec .ready none with state := .busy })) := (Keeps.refl _ _ _).putObj _ _ (.inl (by simp))
        have sz2 : (Wa.putObj (w.heap.size + 1) (.loop { rec .ready none with state := .busy })).heap.size = Wa.heap.size := by simp
        refine wpIn_mono (hbody _ kp sz2) ?_
        generalize Wa.putObj (w.heap.size + 1) (.loop { rec .ready none with state := .busy }) = Wb at hl2 kp sz2
        rintro e2 a3 W3 hq
        cases e2 with
        | normal =>
          obtain ⟨hi3, k3⟩ := hq
          have n3 : w.heap.size + 1 ∉ S := fun h => by have := hS _ h; omega
          have n4 : w.heap.size ∉ S := fun h => by have := hS _ h; omega
          have hl3 := (k3.block (w.heap.size + 1) (by omega) n3).trans hl2
          have hr := run_endRound (P := P) none hl3
          have s3 := k3.size
          refine ⟨_, _, hr, rfl, ⟨hI _ _ _ hi3 ?_, ?_, ?_⟩, ?_⟩
          · exact Keeps.below ((Keeps.refl w.heap.size [w.heap.size + 1] W3).putObj _ _ (.inl (by simp))) (by simp)
          · rw [World.putObj_heap_same (by omega)]; rw [hrec]; rfl
          · rw [World.putObj_heap_other (by omega), k3.block _ (by omega) n4, kp.block _ (by omega) (by simp)]; exact hk1
          · refine Keeps.putObj ?_ _ _ (.inl (by simp))
            exact ((Keeps.of_below hb).trans (kp.mono (by omega) (by simp))).trans (k3.mono (by omega) (by intro i hi; exact List.mem_cons_of_mem _ hi))
        | _ => exact hq.elim
      | _ => exact hp.elim
    · rintro e W2 ⟨⟨v, rfl⟩, hi, hl, hk⟩
      refine ⟨none, _, by have := run_endLoop (P := P) hl (by rw [hrec]; simp); rw [hrec] at this; exact this, hdone _ _ (Nat.le_refl _) (hI _ _ _ hi ?_) ((World.putObj_heap_other (by omega)).trans hk)⟩
      exact Keeps.below ((Keeps.refl w.heap.size [w.heap.size + 1] W2).putObj _ _ (.inl (by simp))) (by simp)
end Go.Proofs.Ytcgafnmpfdkfoaa
