/- A range over a function whose rounds may write what has come since the loop began, and may leave early. -/
import Derived.Test.YtcgafnmpfdkfoaaIter2
namespace Go.Proofs.Ytcgafnmpfdkfoaa
open Go.RowKit Go.Shelf

/-- An iterator that hands xs to yield, one behind the other, till a round ends it; a round may write the blocks of S, and whatever came since. -/
def IterW {α : Type} (P : Program) (g : Nat) (lb : Array Value) (encs : α → Array Value) (xs : List α) (S : List Nat) (w : World) : Prop :=
  ∀ (n l : Nat) (J K : List α → World → Prop) (W : World), Below w.heap.size w W → w.heap.size ≤ l → l < W.heap.size →
    (∀ s X o, J s X → J s (X.alloc o)) →
    (∀ m pre x rest W1, xs = pre ++ x :: rest → J pre W1 → W.heap.size ≤ W1.heap.size → YieldAt Fence.wide m P l (encs x) W1 fun e W' =>
      (e = .returned (.bool true) ∧ J (pre ++ [x]) W' ∧ Keeps W.heap.size (l :: S) W1 W') ∨ (e = .returned (.bool false) ∧ K (pre ++ [x]) W')) →
    J [] W →
    CallsIn Fence.wide n P g (#[.func (.yield l) #[] #[]] ++ lb) W fun e W' => (∃ v, e = .returned v) ∧ (J xs W' ∨ ∃ pre x rest, xs = pre ++ x :: rest ∧ K (pre ++ [x]) W')

/-- How a round ends. -/
def RoundEndsW {α : Type} (I : List α → World → Prop) (Ix : Code → List α → World → Prop) (pre : List α) (B : Nat) (S : List Nat) (W : World) : Exit → Act → World → Prop
  | .normal, _, W' => I pre W' ∧ Keeps B S W W'
  | .ret, _, W' => Ix .ret pre W' ∧ Keeps B S W W'
  | .exit id, _, W' => Ix (.exit id) pre W' ∧ Keeps B S W W'
  | _, _, _ => False

theorem range_go {α : Type} {n : Nat} {P : Program} {g : Operand} {ps : Array Tmp} {assign body : Code} {Q : Exit → Act → World → Prop} {a : Act} {w : World}
    {gf : Nat} {lb : Array Value} (hg : a.eval g = .func (.func gf) #[] lb) (eg : ∀ args w, (callFunc gf args).run P w = .ok (.enter gf args) w)
    {encs : α → Array Value} {xs : List α} {S : List Nat} (hit : IterW P gf lb encs xs S w) (hS : ∀ i ∈ S, i < w.heap.size) (hps : ∀ x, (encs x).size = ps.size)
    (I : List α → World → Prop) (Ix : Code → List α → World → Prop) (hI : ∀ s X Y, I s X → w.heap.size ≤ X.heap.size → Keeps X.heap.size [w.heap.size, w.heap.size + 1] X Y → I s Y)
    (hIx : ∀ c s X Y, Ix c s X → w.heap.size ≤ X.heap.size → Keeps X.heap.size [w.heap.size, w.heap.size + 1] X Y → Ix c s Y) (h0 : I [] w)
    (hround : ∀ m l pre x rest W, l = w.heap.size + 1 → xs = pre ++ x :: rest → I pre W → l < W.heap.size →
      assign.wpIn (Fence.wide.inRound l) m P (Exit.then (fun a1 W1 => Below W.heap.size W W1 ∧ ∀ W2, Keeps W1.heap.size [l] W1 W2 → W2.heap.size = W1.heap.size →
        body.wpIn (Fence.wide.inRound l) m P (RoundEndsW I Ix (pre ++ [x]) (w.heap.size + 2) S W2) a1 W2) (fun _ _ _ => False)) { tmps := (ps.zip (encs x)).foldl (fun t (p, v) => t.setIfInBounds p v) a.tmps, defers := [] } W)
    (hdone : ∀ (D : Nat) (W : World), w.heap.size ≤ D → I xs W → W.heap[D]? = some (.deferred (some [])) → Q .normal { a with defers := { target := .collected D, args := #[] } :: a.defers } W)
    (hstop : ∀ (D : Nat) (c : Code) (pre : List α) (x : α) (rest : List α) (W : World), w.heap.size ≤ D → xs = pre ++ x :: rest → Ix c (pre ++ [x]) W → W.heap[D]? = some (.deferred (some [])) → c.wpIn Fence.wide n P Q { a with defers := { target := .collected D, args := #[] } :: a.defers } W) :
    (Code.rangeFunc g ps assign body).wpIn Fence.wide n P Q a w := by
  refine wpIn_rangeFunc ?_
  intro fn _
  obtain ⟨rec, hrec⟩ : ∃ rec : LoopState → Option Code → Loop, rec = fun st pe => { state := st, pending := pe, fn, tmps := a.tmps, params := ps, assign, body, defers := w.heap.size } := ⟨_, rfl⟩
  obtain ⟨W1, hW1⟩ : ∃ W1, (w.alloc (.deferred (some []))).alloc (.loop (rec .ready none)) = W1 := ⟨_, rfl⟩
  have hsz : W1.heap.size = w.heap.size + 2 := by rw [← hW1]; simp
  have hL1 : W1.heap[w.heap.size + 1]? = some (.loop (rec .ready none)) := by
    rw [← hW1]; have := World.alloc_heap_new (w.alloc (.deferred (some []))) (.loop (rec .ready none)); rwa [World.size_alloc] at this
  have hK1 : W1.heap[w.heap.size]? = some (.deferred (some [])) := by
    rw [← hW1]; exact (Below.heap_alloc _ _ _ (by simp)).trans (World.alloc_heap_new w _)
  have hb1 : Below w.heap.size w W1 := by
    rw [← hW1]; exact ((Below.refl _ w).alloc (Nat.le_refl _) _).alloc (by simp) _
  have nS0 : w.heap.size ∉ S := fun h => by have := hS _ h; omega
  have nS1 : w.heap.size + 1 ∉ S := fun h => by have := hS _ h; omega
  refine ⟨w.heap.size + 1, [{ target := .collected w.heap.size, args := #[] }], W1, { target := .fn (.func gf) lb, args := #[.func (.yield (w.heap.size + 1)) #[] #[]] }, W1, gf,
    #[.func (.yield (w.heap.size + 1)) #[] #[]] ++ lb, W1, ?_, ?_, ?_, ?_, ?_, ?_⟩
  · rw [← hW1, hrec]; exact run_enterLoop_outer _ _ _ _ _
  · simp only [resolve, hg]
    simp [go_sem]
  · intro _ _; trivial
  · simp [invoke, go_sem, eg]
  · intro h; simp [Fence.wide] at h
  · refine (hit (n - 1) (w.heap.size + 1)
      (fun pre W => I pre W ∧ (w.heap.size + 1 < W.heap.size) ∧ W.heap[w.heap.size + 1]? = some (.loop (rec .ready none)) ∧ W.heap[w.heap.size]? = some (.deferred (some [])))
      (fun pre W => ∃ c, Ix c pre W ∧ (w.heap.size + 1 < W.heap.size) ∧ W.heap[w.heap.size + 1]? = some (.loop (rec .done (some c))) ∧ W.heap[w.heap.size]? = some (.deferred (some [])))
      W1 hb1 (by omega) (by omega)
      (fun s X o hs => ⟨hI _ _ _ hs.1 (by omega) (Keeps.of_below ((Below.refl _ _).alloc (Nat.le_refl _) _)), by have := hs.2.1; simp; omega, (Below.heap_alloc _ _ _ hs.2.1).trans hs.2.2.1, (Below.heap_alloc _ _ _ (by omega)).trans hs.2.2.2⟩)
      ?_ ⟨hI _ _ _ h0 (Nat.le_refl _) (Keeps.of_below hb1), by omega, hL1, hK1⟩).mono ?_
    · rintro m pre x rest W hx ⟨hi, hlt, hl, hk⟩ hle
      have hy := run_yield (P := P) (args := encs x) hl (by rw [hrec]; exact hps x)
      rw [hrec] at hy
      refine ⟨fn, _, assign, body, hy, roundIn_of_wpIn trivial (wpIn_mono (hround m _ pre x rest W rfl hx hi hlt) ?_)⟩
      clear hy
      rintro e a1 Wa hp
      cases e with
      | normal =>
        obtain ⟨hb, hbody⟩ := hp
        have hl1 := (hb.block _ hlt).trans hl
        have hk1 := (hb.block w.heap.size (by omega)).trans hk
        have hsa := hb.size
        refine ⟨_, run_beginRound hl1 (by rw [hrec]), ?_⟩
        have hl2 : (Wa.putObj (w.heap.size + 1) (.loop { rec .ready none with state := .busy })).heap[w.heap.size + 1]? = some (.loop { rec .ready none with state := .busy }) := World.putObj_heap_same (by omega)
        have kp : Keeps Wa.heap.size [w.heap.size + 1] Wa (Wa.putObj (w.heap.size + 1) (.loop { rec .ready none with state := .busy })) := (Keeps.refl _ _ _).putObj _ _ (.inl (by simp))
        have sz2 : (Wa.putObj (w.heap.size + 1) (.loop { rec .ready none with state := .busy })).heap.size = Wa.heap.size := by simp
        refine wpIn_mono (hbody _ kp sz2) ?_
        generalize Wa.putObj (w.heap.size + 1) (.loop { rec .ready none with state := .busy }) = Wb at hl2 kp sz2
        have fin : ∀ (jump : Option Code) (W3 : World), Keeps (w.heap.size + 2) S Wb W3 →
            (Instr.endRound (w.heap.size + 1) jump).run P W3 = .ok (.bool jump.isNone) (W3.putObj (w.heap.size + 1) (.loop (rec (if jump.isNone then .ready else .done) jump))) ∧
            w.heap.size + 1 < W3.heap.size ∧
            (W3.putObj (w.heap.size + 1) (.loop (rec (if jump.isNone then .ready else .done) jump))).heap[w.heap.size + 1]? = some (.loop (rec (if jump.isNone then .ready else .done) jump)) ∧
            (W3.putObj (w.heap.size + 1) (.loop (rec (if jump.isNone then .ready else .done) jump))).heap[w.heap.size]? = some (.deferred (some [])) ∧
            Keeps W3.heap.size [w.heap.size, w.heap.size + 1] W3 (W3.putObj (w.heap.size + 1) (.loop (rec (if jump.isNone then .ready else .done) jump))) ∧
            Keeps W1.heap.size ((w.heap.size + 1) :: S) W (W3.putObj (w.heap.size + 1) (.loop (rec (if jump.isNone then .ready else .done) jump))) := fun jump W3 k3 => by
          have s3 := k3.size
          have hl3 := (k3.block (w.heap.size + 1) (by omega) nS1).trans hl2
          have hk3 : W3.heap[w.heap.size]? = some (.deferred (some [])) := by rw [k3.block _ (by omega) nS0, kp.block _ (by omega) (by simp)]; exact hk1
          have hr := run_endRound (P := P) jump hl3
          rw [hrec] at hr ⊢
          refine ⟨hr, by omega, World.putObj_heap_same (by omega), (World.putObj_heap_other (by omega)).trans hk3, (Keeps.refl _ _ _).putObj _ _ (.inl (by simp)), ?_⟩
          refine Keeps.putObj ?_ _ _ (.inl (by simp))
          exact (((Keeps.of_below hb).mono (by omega) (fun i hi => hi)).trans (kp.mono (by omega) (by simp))).trans (k3.mono (by omega) (fun i hi => List.mem_cons_of_mem _ hi))
        rintro e2 a3 W3 hq
        cases e2 with
        | normal =>
          obtain ⟨hi3, k3⟩ := hq
          obtain ⟨hr, z1, z2, z3, z4, z5⟩ := fin none W3 k3
          exact ⟨_, _, hr, .inl ⟨rfl, ⟨hI _ _ _ hi3 (by omega) z4, by have := z4.size; omega, z2, z3⟩, z5⟩⟩
        | ret =>
          obtain ⟨hi3, k3⟩ := hq
          obtain ⟨hr, z1, z2, z3, z4, z5⟩ := fin (some .ret) W3 k3
          exact ⟨_, _, hr, .inr ⟨rfl, _, hIx _ _ _ _ hi3 (by omega) z4, by have := z4.size; omega, z2, z3⟩⟩
        | exit id =>
          obtain ⟨hi3, k3⟩ := hq
          obtain ⟨hr, z1, z2, z3, z4, z5⟩ := fin (some (.exit id)) W3 k3
          exact ⟨_, _, hr, .inr ⟨rfl, _, hIx _ _ _ _ hi3 (by omega) z4, by have := z4.size; omega, z2, z3⟩⟩
        | _ => exact hq.elim
      | _ => exact hp.elim
    · rintro e W2 ⟨⟨v, rfl⟩, ⟨hi, hlt, hl, hk⟩ | ⟨pre, x, rest, hx, c, hi, hlt, hl, hk⟩⟩
      · exact ⟨none, _, by have := run_endLoop (P := P) hl (by rw [hrec]; simp); rw [hrec] at this; exact this, hdone _ _ (Nat.le_refl _) (hI _ _ _ hi (by omega) ((Keeps.refl _ _ _).putObj _ _ (.inl (by simp)))) ((World.putObj_heap_other (by omega)).trans hk)⟩
      · exact ⟨some c, _, by have := run_endLoop (P := P) hl (by rw [hrec]; simp); rw [hrec] at this; exact this, hstop _ c pre x rest _ (Nat.le_refl _) hx (hIx _ _ _ _ hi (by omega) ((Keeps.refl _ _ _).putObj _ _ (.inl (by simp)))) ((World.putObj_heap_other (by omega)).trans hk)⟩

attribute [local go_sem] Oper.semAt_some

set_option maxRecDepth 100000 in
set_option maxHeartbeats 2000000 in
theorem all_iterW (w : World) (Bs bl cap : Nat) (l : List E) (S : List Nat) (hBs : w.cell? ⟨Bs, 0, none⟩ = some (.slice (some ⟨bl, 0, none⟩) l.length cap)) (hB : Bs < w.heap.size) (hl : bl < w.heap.size) (hlS : bl ∉ S)
    (hz : l.length ≤ 1000) (he : ∀ i e, l[i]? = some e → EntReads w bl i e) :
    IterW Try.prog 139 #[.pointer (some ⟨Bs, 0, none⟩)] (fun x : Nat × E => #[.int .i64 x.1, x.2.v]) (enum l) S w := by
  intro n lo J K W hW hlo hlt hJ hY h0
  have hBs' := (hW.cell (p := ⟨Bs, 0, none⟩) hB).trans hBs
  refine callsIn_of_wp Try.func139 rfl trivial ?_ rfl
  simp only [Try.ntmps139, List.size_toArray, List.length_cons, List.length_nil, Nat.reduceAdd, Nat.reduceSub, Array.replicate_succ, Array.replicate_zero, List.push_toArray, List.append_toArray, List.nil_append, List.cons_append]
  gi_wp2
  gi_loopw [7] (fun i wr => ∃ k : Nat, k ≤ l.length ∧ i = .int .i64 k ∧ J ((enum l).take k) wr ∧ Keeps W.heap.size (lo :: S) W wr)
    (fun i _ => l.length - (intOf i).toNat)
  case atStart => exact ⟨0, Nat.zero_le _, rfl, h0, Keeps.refl _ _ _⟩
  case round =>
    obtain ⟨k, hk, rfl, hJs, hkw⟩ := hrel
    by_cases hlt' : k < l.length
    · have hek : l[k]? = some l[k] := List.getElem?_eq_getElem hlt'
      generalize l[k] = e at hek
      have hsW := hW.size
      obtain ⟨e0, e1, e2, e3, e4, e5⟩ := he k e hek
      have hc : ∀ o, wr.cell? ⟨bl, o, none⟩ = w.cell? ⟨bl, o, none⟩ := fun o => (hkw.cell bl o (by omega) (by simp; exact ⟨by omega, hlS⟩)).trans (hW.cell (p := ⟨bl, o, none⟩) hl)
      have d0 := (hc _).trans e0
      have d1 := (hc _).trans e1
      have d2 := (hc _).trans e2
      have d3 := (hc _).trans e3
      have d4 := (hc _).trans e4
      have d5 := (hc _).trans e5
      obtain ⟨t1, rest, t2⟩ := take_snoc _ _ _ (enum_get l k e hek)
      have hsr := hkw.size
      obtain ⟨fn, tmps, assign, body, hy, hR⟩ := hY (n - 1) _ _ rest (wr.alloc e.box) t2 (hJ _ _ _ hJs) (by simp; omega)
      dsimp only at hy
      clear hc e0 e1 e2 e3 e4 e5
      gi_wp2
      refine ⟨fun h => by simp [Fence.wide] at h, hR.mono ?_⟩
      clear hR
      rintro e' W3 (⟨rfl, hJ3, hk3⟩ | ⟨rfl, hK3⟩)
      · gi_wp2
        go_roundw
        case rel =>
          refine ⟨k + 1, by omega, by simp, by rw [t1]; exact hJ3, ?_⟩
          exact (hkw.trans (Keeps.of_below ((Below.refl _ _).alloc hsr _))).trans hk3
        case measure => simp [intOf]; omega
      · gi_wp2
        exact bodyPost_ret (v := .tuple #[]) (by simp [results, Try.results139, go_sem]) rfl ⟨⟨_, rfl⟩, .inr ⟨_, _, rest, t2, hK3⟩⟩
    · obtain rfl : k = l.length := by omega
      gi_wp2
      go_end0
      refine ⟨⟨_, rfl⟩, .inl ?_⟩
      rw [List.take_of_length_le (by rw [enum_length]; omega)] at hJs
      exact hJs
theorem MapAt.iterW {w w' : World} {p bl bv : Nat} {g : G} {l : List E} {lv : List Int} (h : MapAt w p bl bv g l lv) (hz : l.length ≤ 1000) (hb : Below w.heap.size w w') (hs : w.heap.size < w'.heap.size) (hc : ∃ cap, w'.cell? ⟨w.heap.size, 0, none⟩ = some (.slice (some ⟨bl, 0, none⟩) l.length cap))
    (S : List Nat) (h2 : bl ∉ S) :
    IterW Try.prog 139 #[.pointer (some ⟨w.heap.size, 0, none⟩)] (fun x : Nat × E => #[.int .i64 x.1, x.2.v]) (enum l) S w' := by
  obtain ⟨cap, hc⟩ := hc
  have hl := h.lt
  exact all_iterW w' _ bl cap l S hc hs (by omega) h2 hz (fun i e he => (h.grow hb).ent he)
end Go.Proofs.Ytcgafnmpfdkfoaa
