/- The law SnapLost holds of the given program for every input of bulk at most 1048576: lost blocks are kept as lost. -/
import Derived.Test.YtcgafnmpfdkfoaaRows
import Derived.Test.YtcgafnmpfdkfoaaLost
import Derived.Test.YtcgafnmpfdkfoaaOpenG
import Derived.Test.YtcgafnmpfdkfoaaOpen
import Derived.Test.YtcgafnmpfdkfoaaHead
import Derived.WalkKit
import Derived.ProofKit
import Derived.OpenShut
import Derived.ShutString
import Derived.ChangeOld
import Derived.Below
import Derived.SizedLaws
import Derived.JoinedCond
namespace Go.Proofs.Ytcgafnmpfdkfoaa.snapLost
open Go.ChangeShapes Go.WideShapes Go.ChangeAt Go.RowKit
set_option linter.unusedVariables false
theorem own : ownKnob Try.prog.godebug = none := by kernel_rfl
theorem laidOut : laidOutB Try.prog = true := by kernel_rfl
theorem bulk_len {H : Type} (l : List (DataW H)) : l.length ≤ Rows.uptoBulkAll l := by
  induction l with
  | nil => simp [Rows.uptoBulkAll]
  | cons x r ih =>
    have : 1 ≤ Rows.uptoBulk x := by
      cases x with
      | lit l => cases l <;> simp [Rows.uptoBulk]
      | _ => simp [Rows.uptoBulk]
    simp only [Rows.uptoBulkAll, List.length_cons]
    omega
theorem rows_bulk {H : Type} {enc : TypeId × Value → H} {P : Program} {w : World} {base : Nat} {spare : Nat → Bool} {held : Bool} {t e : TypeId} {A : Option Addr} {n c : Nat} {d : DataW H} {p : List MemPlace} (ht : P.underlying t = some (.slice e)) (h : DataW.Trod enc P w base spare held t (.slice A n c) d p) : n ≤ Rows.uptoBulk d := by
  obtain ⟨fuel, hf⟩ := h
  rcases Go.Deep.open_slice ht hf with ⟨hcs, _⟩ | ⟨a, len, cap, m, _, D, Pl, hcs, _, hl, hm, hmm, hx, hi⟩
  · simp [Value.cells] at hcs
    omega
  · simp [Value.cells] at hcs
    obtain ⟨rfl, rfl, rfl⟩ := hcs
    have hd : d = _ := congrArg Prod.fst hx
    rw [hd]
    have h1 := bulk_len ((List.range n).map D)
    rw [List.length_map, List.length_range] at h1
    simp only [Rows.uptoBulk]
    omega
theorem ints_of {w : World} {A : Option Addr} {n c : Nat} (h : RowAt w A n c 1 (fun _ => .i64)) : ∃ xs, IntsAt w A n c xs := by
  obtain ⟨h1, h2, h3⟩ := h
  rcases Nat.eq_zero_or_pos n with h0 | h0
  · subst h0
    exact ⟨[], rfl, h1, h2, fun h => absurd h (by omega)⟩
  · obtain ⟨b, off, hA, hb, hc⟩ := h3 h0
    obtain ⟨l, hl, hq⟩ := exists_list (α := Int) (n := n) (Q := fun k x => w.cell? ⟨b, off + k, none⟩ = some (.int .i64 x)) (fun i hi => by
      obtain ⟨v, e, _⟩ := hc i hi 0 (by omega)
      rw [Nat.mul_one, Nat.add_zero] at e
      exact ⟨v, e⟩)
    exact ⟨l, hl, h1, h2, fun _ => ⟨b, off, hA, hb, hq⟩⟩
theorem small {H : Type} {d0 d1 : DataW H} {gs : List (DataW H)} {n : Nat} (h : Rows.uptoSmall H ([d0, d1] ++ gs) = true) (hn : n ≤ Rows.uptoBulk d1) : n ≤ 1048576 := by
  have h' : Rows.uptoBulkAll ([d0, d1] ++ gs) ≤ 1048576 := of_decide_eq_true h
  simp only [List.cons_append, List.nil_append, Rows.uptoBulkAll] at h'
  omega
theorem kinds_geom_Geom' : (List.range 6).all (fun i => kindAt Try.prog 6 23 i == some ((fun _ => .i64) i)) = true := by kernel_rfl
theorem kinds_geom_Geom : ∀ i, i < 6 → kindAt Try.prog 6 23 i = some ((fun _ => .i64) i) := fun i hi => by simpa using List.all_eq_true.1 kinds_geom_Geom' i (by simpa using hi)
theorem kinds_int' : (List.range 1).all (fun i => kindAt Try.prog 6 3 i == some ((fun _ => .i64) i)) = true := by kernel_rfl
theorem kinds_int : ∀ i, i < 1 → kindAt Try.prog 6 3 i = some ((fun _ => .i64) i) := fun i hi => by simpa using List.all_eq_true.1 kinds_int' i (by simpa using hi)
set_option maxRecDepth 100000 in
theorem lifted (os : Os) (started : os.Started) (H : Type) (enc : TypeId × Value → H) (F : Stop.Interp) :
    ReturnsInHanded {} Try.checked os 10 .any ((Rows.OpenSpec.upto Rows.snapLostSpec).pre6 enc Try.prog Try.f10 Rows.snapLostUptoRow.domain false) (((Rows.OpenSpec.upto Rows.snapLostSpec).at F).post enc Try.prog Try.f10 false true false false) := by
  refine returnsInHanded_of_cond (C := Try.checked) (s := (Rows.OpenSpec.upto Rows.snapLostSpec)) (k := Rows.uptoSmall) rfl own started (by kernel_rfl) Try.func10
    (OpenSpec.witness (enc := enc) (C := Try.checked) (s := (Rows.OpenSpec.upto Rows.snapLostSpec)) (k := Rows.uptoSmall) rfl false ⟨#[], #[.agg #[.int .i64 0, .int .i64 0, .int .i64 0, .int .i64 0, .int .i64 0, .int .i64 0], .slice none 0 0], []⟩ 8 (by kernel_rfl) (by kernel_rfl) (by kernel_rfl)
      (x := ([.agg [.lit (.int .i64 0), .lit (.int .i64 0), .lit (.int .i64 0), .lit (.int .i64 0), .lit (.int .i64 0), .lit (.int .i64 0)], .nil], [], [])) (by kernel_rfl) rfl (by kernel_rfl)) ?_
  intro W base args ds gs before hval0 hW hcnd hk _
  have hval : ∀ (j : Nat) t v, Try.f10.params[j]? = some t → args[j]? = some v → Value.okWide Try.prog W .any base t v := hval0
  have hW' := hW
  obtain ⟨p, q, hA0, hV, rfl, hfz, hnd⟩ := hW
  have hA : DataW.TrodAll enc Try.prog W 0 (fun _ => true) true Try.f10.params.toList args.toList ds p := hA0
  rw [Try.params10] at hA hval
  obtain ⟨v0, vs0, d0, ds0, p0, q0, hargs, rfl, rfl, h0, r0⟩ := trodAll_cons hA
  obtain ⟨v1, vs1, d1, ds1, p1, q1, rfl, rfl, rfl, h1, r1⟩ := trodAll_cons r0
  obtain ⟨rfl, rfl, rfl⟩ := trodAll_nil r1
  obtain rfl : args = #[v0, v1] := by cases args; simp_all
  obtain ⟨rfl, rfl⟩ := trodVars_none hV
  have lt0 : ∀ x ∈ p0, x.block < W.heap.size := by obtain ⟨m, hm⟩ := h0; exact DataW.trod_lt m _ _ _ hm
  obtain ⟨cs0, rfl, hz0, hc0⟩ := open_flat 6 6 (fun _ => .i64) (kinds_geom_Geom) (by kernel_rfl) (.inl ⟨_, Try.underlying23⟩) (hval 0 23 v0 rfl rfl) h0
  obtain ⟨a0, hg0⟩ := geom_of hz0 hc0
  have lt1 : ∀ x ∈ p1, x.block < W.heap.size := by obtain ⟨m, hm⟩ := h1; exact DataW.trod_lt m _ _ _ hm
  obtain ⟨A1, n1, c1, rfl, hr1⟩ := open_rows 6 1 (fun _ => .i64) (kinds_int) (by kernel_rfl) (by omega) Try.underlying73 (hval 1 73 v1 rfl rfl) h1
  obtain ⟨a1, ho1⟩ := ints_of hr1
  clear hA0 hval0
  rw [hg0] at h0 hW' ⊢
  refine (lost_walk W a0 A1 n1 c1 a1 ho1 (small hk (rows_bulk Try.underlying73 h1))).mono fun e W' ⟨he, bel⟩ => ?_
  subst he
  exact ⟨_, rfl, _, _, _, [], _, [], hW', trodAll_mk1 (shut_bool Try.underlying4 _),
    (trodAll_cons_mk (Below.trod laidOut (by kernel_rfl) (of_decide_eq_true (by kernel_rfl)) h0 bel lt0) (trodAll_cons_mk (Below.trod laidOut (by kernel_rfl) (of_decide_eq_true (by kernel_rfl)) h1 bel lt1) trodAll_mk0)), rfl, bel.frame _, fun h => by cases h⟩
set_option maxHeartbeats 4000000 in
theorem closed : joinedFacts Try.prog 10 Try.f10 (Rows.OpenSpec.upto Rows.snapLostSpec).bare Rows.snapLostUptoRow = true := by
  simp only [joinedFacts, Bool.and_eq_true]
  exact ⟨⟨⟨⟨⟨⟨⟨⟨⟨⟨⟨⟨⟨⟨⟨⟨⟨⟨⟨⟨⟨⟨⟨⟨⟨⟨⟨⟨⟨⟨⟨(by as_aux_lemma => kernel_rfl), (by as_aux_lemma => kernel_rfl)⟩, (by as_aux_lemma => kernel_rfl)⟩, (by as_aux_lemma => kernel_rfl)⟩, (by as_aux_lemma => kernel_rfl)⟩, (by as_aux_lemma => kernel_rfl)⟩, (by as_aux_lemma => kernel_rfl)⟩, (by as_aux_lemma => kernel_rfl)⟩, (by as_aux_lemma => kernel_rfl)⟩, (by as_aux_lemma => kernel_rfl)⟩, (by as_aux_lemma => kernel_rfl)⟩, (by as_aux_lemma => kernel_rfl)⟩, (by as_aux_lemma => kernel_rfl)⟩, (by as_aux_lemma => kernel_rfl)⟩, (by as_aux_lemma => kernel_rfl)⟩, (by as_aux_lemma => kernel_rfl)⟩, (by as_aux_lemma => kernel_rfl)⟩, (by as_aux_lemma => kernel_rfl)⟩, (by as_aux_lemma => kernel_rfl)⟩, (by as_aux_lemma => kernel_rfl)⟩, (by as_aux_lemma => kernel_rfl)⟩, (by as_aux_lemma => kernel_rfl)⟩, (by as_aux_lemma => kernel_rfl)⟩, (by as_aux_lemma => kernel_rfl)⟩, (by as_aux_lemma => kernel_rfl)⟩, head_enter⟩, (by rw [head_lifts]; kernel_rfl)⟩, (by rw [head_make]; kernel_rfl)⟩, (by as_aux_lemma => kernel_rfl)⟩, (by as_aux_lemma => kernel_rfl)⟩, (by as_aux_lemma => kernel_rfl)⟩, (by as_aux_lemma => kernel_rfl)⟩
theorem over : Rows.snapLostUptoRow.holds Try.pinned (Rows.OpenSpec.upto Rows.snapLostSpec) :=
  OpenClaim.holds_of_cond 10 Try.f10 rfl rfl rfl rfl rfl rfl rfl ⟨rfl, rfl, rfl, rfl, rfl⟩ rfl rfl rfl rfl rfl (by kernel_rfl) Try.func10 closed
    (of_decide_eq_true (by kernel_rfl)) (by unfold Func.isWrapper; first | (rw [if_pos (by decide +kernel)]; kernel_rfl) | (rw [if_neg (by decide +kernel)]; exact ⟨rfl, rfl⟩))
    (fun os started H enc _ F => lifted os started H enc F)
theorem proved : Rows.SnapLostUptoSaid := over
end Go.Proofs.Ytcgafnmpfdkfoaa.snapLost
namespace Go.Proofs.Ytcgafnmpfdkfoaa
theorem snapLost_holds : Rows.SnapLostUptoSaid := snapLost.proved
#print axioms snapLost_holds
end Go.Proofs.Ytcgafnmpfdkfoaa
