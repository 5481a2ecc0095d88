/- The law BmapSums holds of the given program for every input: all zones of a map together hold twice as many blocks as live. No condition. -/
import Derived.Test.YtcgafnmpfdkfoaaRows
import Derived.Test.YtcgafnmpfdkfoaaSums2
import Derived.Test.YtcgafnmpfdkfoaaOpen
import Derived.Test.YtcgafnmpfdkfoaaHead
import Derived.WalkKit
import Derived.ProofKit
import Derived.OpenShut
import Derived.ShutString
import Derived.ChangeOld
import Derived.Below
import Derived.SizedLaws
namespace Go.Proofs.Ytcgafnmpfdkfoaa.bmapSums
open Go.ChangeShapes Go.WideShapes Go.ChangeAt Go.RowKit
set_option linter.unusedVariables false
theorem own : ownKnob Try.prog.godebug = none := by kernel_rfl
theorem laidOut : laidOutB Try.prog = true := by kernel_rfl
theorem geomKinds' : (List.range 6).all (fun i => kindAt Try.prog 5 23 i == some .i64) = true := by kernel_rfl
theorem geomKinds : ∀ i, i < 6 → kindAt Try.prog 5 23 i = some .i64 := fun i hi => by simpa using List.all_eq_true.1 geomKinds' i (by simpa using hi)
theorem opKinds' : (List.range 7).all (fun i => kindAt Try.prog 5 33 i == some .i64) = true := by kernel_rfl
theorem opKinds : ∀ i, i < 7 → kindAt Try.prog 5 33 i = some .i64 := fun i hi => by simpa using List.all_eq_true.1 opKinds' i (by simpa using hi)
theorem geom_of {cs : Array Value} (hs : cs.size = 6) (h : ∀ i, i < 6 → ∃ n, cs[i]? = some (.int .i64 n) ∧ (Lit.int .i64 n).wf = true) : ∃ g : G, Value.agg cs = g.v := by
  obtain ⟨l⟩ := cs
  match l, hs with
  | [c0, c1, c2, c3, c4, c5], _ =>
    obtain ⟨n0, h0, _⟩ := h 0 (by omega)
    obtain ⟨n1, h1, _⟩ := h 1 (by omega)
    obtain ⟨n2, h2, _⟩ := h 2 (by omega)
    obtain ⟨n3, h3, _⟩ := h 3 (by omega)
    obtain ⟨n4, h4, _⟩ := h 4 (by omega)
    obtain ⟨n5, h5, _⟩ := h 5 (by omega)
    simp at h0 h1 h2 h3 h4 h5
    subst h0 h1 h2 h3 h4 h5
    exact ⟨⟨n0, n1, n2, n3, n4, n5⟩, rfl⟩
theorem ops_of {w : World} {A : Option Addr} {n c : Nat} (h : RowAt w A n c 7 (fun _ => .i64)) : ∃ ops, OpsAt w A n c ops := by
  obtain ⟨h1, h2, h3⟩ := h
  rcases Nat.eq_zero_or_pos n with h0 | h0
  · subst h0
    exact ⟨[], rfl, h1, h2, fun h => absurd h (by omega)⟩
  · obtain ⟨b, off, hA, hb, hc⟩ := h3 h0
    obtain ⟨l, hl, hq⟩ := exists_list (α := Op11) (n := n) (Q := fun k o => w.cell? ⟨b, off + k * 7, none⟩ = some (.int .i64 o.b) ∧ w.cell? ⟨b, off + k * 7 + 1, none⟩ = some (.int .i64 o.e.st) ∧ w.cell? ⟨b, off + k * 7 + 2, none⟩ = some (.int .i64 o.e.zn) ∧ w.cell? ⟨b, off + k * 7 + 3, none⟩ = some (.int .i64 o.e.mt) ∧
      w.cell? ⟨b, off + k * 7 + 4, none⟩ = some (.int .i64 o.e.off) ∧ w.cell? ⟨b, off + k * 7 + 5, none⟩ = some (.int .i64 o.e.sq) ∧ w.cell? ⟨b, off + k * 7 + 6, none⟩ = some (.int .i64 o.e.sm)) (fun i hi => by
        obtain ⟨v0, e0, _⟩ := hc i hi 0 (by omega)
        obtain ⟨v1, e1, _⟩ := hc i hi 1 (by omega)
        obtain ⟨v2, e2, _⟩ := hc i hi 2 (by omega)
        obtain ⟨v3, e3, _⟩ := hc i hi 3 (by omega)
        obtain ⟨v4, e4, _⟩ := hc i hi 4 (by omega)
        obtain ⟨v5, e5, _⟩ := hc i hi 5 (by omega)
        obtain ⟨v6, e6, _⟩ := hc i hi 6 (by omega)
        exact ⟨⟨v0, ⟨v1, v2, v3, v4, v5, v6⟩⟩, e0, e1, e2, e3, e4, e5, e6⟩)
    exact ⟨l, hl, h1, h2, fun _ => ⟨b, off, hA, hb, hq⟩⟩
set_option maxRecDepth 100000 in
theorem lifted (os : Os) (started : os.Started) (H : Type) (enc : TypeId × Value → H) :
    ReturnsInHanded {} Try.checked os 3 .any (Rows.bmapSumsSpec.pre6 enc Try.prog Try.f3 Rows.bmapSumsRow.domain false) (Rows.bmapSumsSpec.post enc Try.prog Try.f3 false true false false) := by
  refine returnsInHanded_of_change_sized (C := Try.checked) own started (by kernel_rfl) Try.func3
    (ChangeSpec.witness6 (enc := enc) (C := Try.checked) false ⟨#[], #[.agg #[.int .i64 0, .int .i64 0, .int .i64 0, .int .i64 0, .int .i64 0, .int .i64 0], .slice none 0 0], []⟩ 8 (by kernel_rfl) (by kernel_rfl) (by kernel_rfl) (by kernel_rfl)) ?_
  intro W base args ds gs before hval0 hW hcnd hsz0 _
  have hval : ∀ (j : Nat) t v, Try.f3.params[j]? = some t → args[j]? = some v → Value.okWide Try.prog W .any base t v := hval0
  have hW' := hW
  obtain ⟨p, q, hA0, hV, rfl, hfz, hnd⟩ := hW
  have hA : DataW.TrodAll enc Try.prog W 0 (fun _ => true) true Try.f3.params.toList args.toList ds p := hA0
  rw [Try.params3] at hA hval
  obtain ⟨v0, vs0, d0, ds0, p0, q0, hargs, rfl, rfl, h0, r0⟩ := trodAll_cons hA
  obtain ⟨v1, vs1, d1, ds1, p1, q1, rfl, rfl, rfl, h1, r1⟩ := trodAll_cons r0
  obtain ⟨rfl, rfl, rfl⟩ := trodAll_nil r1
  obtain rfl : args = #[v0, v1] := by cases args; simp_all
  obtain ⟨rfl, rfl⟩ := trodVars_none hV
  have lt0 : ∀ x ∈ p0, x.block < W.heap.size := by obtain ⟨m, hm⟩ := h0; exact DataW.trod_lt m _ _ _ hm
  have lt1 : ∀ x ∈ p1, x.block < W.heap.size := by obtain ⟨m, hm⟩ := h1; exact DataW.trod_lt m _ _ _ hm
  obtain ⟨cs, rfl, hz, hc⟩ := open_flat 5 6 (fun _ => .i64) geomKinds (by kernel_rfl) (.inl ⟨_, Try.underlying23⟩) (hval 0 23 v0 rfl rfl) h0
  obtain ⟨g, hg⟩ := geom_of hz hc
  obtain ⟨A, n, c, rfl, hr⟩ := open_rows 5 7 (fun _ => .i64) opKinds (by kernel_rfl) (by omega) Try.underlying24 (hval 1 24 v1 rfl rfl) h1
  obtain ⟨ops, ho⟩ := ops_of hr
  clear hA0 hval0 hsz0
  rw [hg] at h0 hW' ⊢
  refine (sums_walk W g A n c ops ho).mono fun e W' ⟨he, bel⟩ => ?_
  subst he
  exact ⟨_, rfl, _, _, _, [], _, [], hW', trodAll_mk1 (shut_bool Try.underlying4 _),
    (trodAll_cons_mk (Below.trod laidOut (by kernel_rfl) (of_decide_eq_true (by kernel_rfl)) h0 bel lt0) (trodAll_cons_mk (Below.trod laidOut (by kernel_rfl) (of_decide_eq_true (by kernel_rfl)) h1 bel lt1) trodAll_mk0)), rfl, bel.frame _, fun h => by cases h⟩
set_option maxHeartbeats 4000000 in
theorem closed : joinedFacts Try.prog 3 Try.f3 Rows.bmapSumsSpec Rows.bmapSumsRow = true := by
  simp only [joinedFacts, Bool.and_eq_true]
  exact ⟨⟨⟨⟨⟨⟨⟨⟨⟨⟨⟨⟨⟨⟨⟨⟨⟨⟨⟨⟨⟨⟨⟨⟨⟨⟨⟨⟨⟨⟨⟨(by as_aux_lemma => kernel_rfl), (by as_aux_lemma => kernel_rfl)⟩, (by as_aux_lemma => kernel_rfl)⟩, (by as_aux_lemma => kernel_rfl)⟩, (by as_aux_lemma => kernel_rfl)⟩, (by as_aux_lemma => kernel_rfl)⟩, (by as_aux_lemma => kernel_rfl)⟩, (by as_aux_lemma => kernel_rfl)⟩, (by as_aux_lemma => kernel_rfl)⟩, (by as_aux_lemma => kernel_rfl)⟩, (by as_aux_lemma => kernel_rfl)⟩, (by as_aux_lemma => kernel_rfl)⟩, (by as_aux_lemma => kernel_rfl)⟩, (by as_aux_lemma => kernel_rfl)⟩, (by as_aux_lemma => kernel_rfl)⟩, (by as_aux_lemma => kernel_rfl)⟩, (by as_aux_lemma => kernel_rfl)⟩, (by as_aux_lemma => kernel_rfl)⟩, (by as_aux_lemma => kernel_rfl)⟩, (by as_aux_lemma => kernel_rfl)⟩, (by as_aux_lemma => kernel_rfl)⟩, (by as_aux_lemma => kernel_rfl)⟩, (by as_aux_lemma => kernel_rfl)⟩, (by as_aux_lemma => kernel_rfl)⟩, (by as_aux_lemma => kernel_rfl)⟩, head_enter⟩, (by rw [head_lifts]; kernel_rfl)⟩, (by rw [head_make]; kernel_rfl)⟩, (by as_aux_lemma => kernel_rfl)⟩, (by as_aux_lemma => kernel_rfl)⟩, (by as_aux_lemma => kernel_rfl)⟩, (by as_aux_lemma => kernel_rfl)⟩
theorem over : Rows.bmapSumsRow.holds Try.pinned (OpenSpec.ofChange Rows.bmapSumsSpec) :=
  OpenClaim.holds_of_wide 3 Try.f3 rfl rfl rfl rfl rfl rfl rfl ⟨rfl, rfl, rfl, rfl, rfl⟩ rfl rfl rfl rfl rfl (by kernel_rfl) Try.func3 closed
    (of_decide_eq_true (by kernel_rfl)) (by unfold Func.isWrapper; first | (rw [if_pos (by decide +kernel)]; kernel_rfl) | (rw [if_neg (by decide +kernel)]; exact ⟨rfl, rfl⟩))
    (fun os started H enc _ => lifted os started H enc)
theorem proved : Rows.BmapSumsSaid := over
end Go.Proofs.Ytcgafnmpfdkfoaa.bmapSums
namespace Go.Proofs.Ytcgafnmpfdkfoaa
theorem bmapSums_holds : Rows.BmapSumsSaid := bmapSums.proved
#print axioms bmapSums_holds
end Go.Proofs.Ytcgafnmpfdkfoaa
