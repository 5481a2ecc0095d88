/- Two frames compared. -/
import Derived.Test.YtcgafnmpfdkfoaaFrameR
namespace Go.Proofs.Ytcgafnmpfdkfoaa
open Go.RowKit

theorem isAgg_int {P : Program} {e : TypeId} {k : IntKind} (he : P.underlying e = some (.int k)) (w : World) : (isAgg e).run P w = .ok false w := by
  unfold isAgg
  rw [Sem.run_bind, run_underlying he w]
  rfl
theorem part_byte {P : Program} {e : TypeId} (he : P.underlying e = some (.int .u8)) (xs : List Int) (i : Nat) (hi : i < xs.length) (w : World) : (part e (bys xs).toArray i).run P w = .ok (.int .u8 xs[i]) w := by
  unfold part
  have hx : (bys xs).toArray[i]? = some (.int .u8 xs[i]) := by simp [bys, hi]
  rw [Sem.run_bind, isAgg_int he w]
  simp [Result.andThen, hx]
theorem bytes_loop {P : Program} (w : World) (d : Nat) {e : TypeId} (he : P.underlying e = some (.int .u8)) (hcmp : ∀ (a b : Int) (w : World), (Op.equalIn d e (.int .u8 a) (.int .u8 b)).run P w = .ok (a == b) w) (xs ys : List Int) (hl : xs.length = ys.length) (m : Nat) :
    ∀ k, k + m = xs.length → (forIn (List.range' k m) ((none, ()) : Option Bool × Unit) fun i _ => (do
      let a ← part e (bys xs).toArray (i * 1)
      let b ← part e (bys ys).toArray (i * 1)
      let r ← Op.equalIn d e a b
      if (!r) = true then pure (ForInStep.done (some false, ())) else pure (ForInStep.yield (none, ())) : Sem (ForInStep (Option Bool × Unit)))).run P w = .ok (if xs.drop k = ys.drop k then (none, ()) else (some false, ())) w := by
  induction m with
  | zero =>
    intro k hk
    simp at hk
    simp [hk, hl]
  | succ m ih =>
    intro k hk
    have h1 : k < xs.length := by omega
    have h2 : k < ys.length := by omega
    rw [List.range'_succ, List.forIn_cons]
    simp only [Sem.run_bind, Nat.mul_one, part_byte he xs k h1 w, part_byte he ys k h2 w, Result.andThen_ok, hcmp]
    rw [List.drop_eq_getElem_cons h1, List.drop_eq_getElem_cons h2]
    by_cases hxy : xs[k] = ys[k]
    · have e1 : (xs[k] == ys[k]) = true := by simp [hxy]
      rw [e1]
      simp only [Bool.not_true, Bool.false_eq_true, if_false, Sem.run_pure, Result.andThen_ok]
      have h3 := ih (k + 1) (by omega)
      simp only [Nat.mul_one] at h3
      refine h3.trans ?_
      rw [hxy]
      by_cases h4 : xs.drop (k + 1) = ys.drop (k + 1)
      · rw [if_pos h4, if_pos (by rw [h4])]
      · rw [if_neg h4, if_neg (fun h => h4 (List.cons.inj h).2)]
    · have e1 : (xs[k] == ys[k]) = false := by simp [hxy]
      rw [e1, if_neg (fun h => hxy (List.cons.inj h).1)]
      simp only [Bool.not_false, if_true, Sem.run_pure, Result.andThen_ok]
theorem run_equalIn_bytes {P : Program} (w : World) (d : Nat) {t e : TypeId} {n : Nat} (hu : P.underlying t = some (.array n e)) (he : P.underlying e = some (.int .u8)) (hsz : (P.info? e).map (·.size) = some 1)
    (hcmp : ∀ (a b : Int) (w : World), (Op.equalIn d e (.int .u8 a) (.int .u8 b)).run P w = .ok (a == b) w) (xs ys : List Int) (hx : xs.length = n) (hy : ys.length = n) :
    (Op.equalIn (d + 1) t (.agg (bys xs).toArray) (.agg (bys ys).toArray)).run P w = .ok (decide (xs = ys)) w := by
  have hso : (sizeOf e).run P w = .ok 1 w := by
    cases hq : P.info? e with
    | none => simp [hq] at hsz
    | some i => simp [sizeOf, typeInfo, hq]; simpa [hq] using hsz
  have hb := bytes_loop w d he hcmp xs ys (by omega) n 0 (by omega)
  simp only [Op.equalIn, Sem.run_bind, run_underlying hu, Result.andThen_ok, hso]
  rw [Std.Legacy.Range.forIn_eq_forIn_range']
  simp only [Std.Legacy.Range.size]
  have e0 : (n - 0 + 1 - 1) / 1 = n := by simp
  rw [e0, hb]
  by_cases h : xs = ys
  · subst h; simp
  · simp [h]
theorem stood_frame : (Try.prog).stoodInHeld 64 = false := by kernel_rfl
set_option maxRecDepth 100000 in
theorem frame_eq (f h : Fr) (hf : f.Ok) (hh : h.Ok) (W : World) : (Op.equalIn 10000 64 (.agg f.arr) (.agg h.arr)).run Try.prog W = .ok (decide (f = h)) W := by
  have hb := run_equalIn_bytes (P := Try.prog) W 9998 Try.underlying62 Try.underlying5 size_byte (fun a b w => run_equalIn_int w 9997 5 .u8 .u8 a b Try.underlying5) f.bd h.bd hf hh
  have hu : (Try.prog).underlying 64 = some (.struct ((Try.prog).fieldsOf 64)) := by unfold Program.fieldsOf; rw [Try.underlying64]
  rw [run_equalIn_struct W 9999 64 f.arr h.arr hu stood_frame]
  have hp : ∀ (x : Fr), x.Ok → (∀ w, (part 3 x.arr 0).run Try.prog w = .ok (.int .i64 x.kd) w) ∧ (∀ w, (part 3 x.arr 1).run Try.prog w = .ok (.int .i64 x.zn) w) ∧ (∀ w, (part 3 x.arr 2).run Try.prog w = .ok (.int .i64 x.off) w) ∧
      (∀ w, (part 3 x.arr 3).run Try.prog w = .ok (.int .i64 x.ep) w) ∧ (∀ w, (part 3 x.arr 4).run Try.prog w = .ok (.int .i64 x.sq) w) ∧ (∀ w, (part 62 x.arr 5).run Try.prog w = .ok (.agg (bys x.bd).toArray) w) := by
    intro x hx
    have key : ∀ j v, x.arr[j]? = some v → ∀ w, (part 3 x.arr j).run Try.prog w = .ok v w := fun j v hv w => by
      unfold part
      rw [Sem.run_bind, isAgg_int (k := .i64) Try.underlying3 w]
      simp [Result.andThen, hv]
    refine ⟨key 0 _ (by unfold Fr.arr; simp), key 1 _ (by unfold Fr.arr; simp), key 2 _ (by unfold Fr.arr; simp), key 3 _ (by unfold Fr.arr; simp), key 4 _ (by unfold Fr.arr; simp), fun w => ?_⟩
    have hagg : (isAgg 62).run Try.prog w = .ok true w := by
      unfold isAgg
      rw [Sem.run_bind, run_underlying Try.underlying62 w]
      rfl
    have hso : (sizeOf 62).run Try.prog w = .ok 44 w := by
      have hs := size_body
      cases hq : (Try.prog).info? 62 with
      | none => rw [hq] at hs; cases hs
      | some i => rw [hq] at hs; simp [sizeOf, typeInfo, hq]; simpa using hs
    unfold part
    rw [Sem.run_bind, hagg]
    simp only [Result.andThen_ok, if_true, Sem.run_bind, hso, Sem.run_pure]
    congr 2
    unfold Fr.arr
    have h2 := bys_length x.bd
    rw [hx] at h2
    apply Array.ext'
    simp
    exact List.take_of_length_le (by omega)
  obtain ⟨f0, f1, f2, f3, f4, f5⟩ := hp f hf
  obtain ⟨h0, h1, h2, h3, h4, h5⟩ := hp h hh
  have hfl : (((Try.prog).fieldsOf 64).toList) = (((Try.prog).fieldsOf 64).toList) := rfl
  conv at hfl => rhs; unfold Program.fieldsOf; rw [Try.underlying64]
  rw [hfl]
  have i0 := fun (a b : Int) (w : World) => run_equalIn_int (P := Try.prog) w 9998 3 .i64 .i64 a b Try.underlying3
  have key : decide (f = h) = (f.kd == h.kd && (f.zn == h.zn && (f.off == h.off && (f.ep == h.ep && (f.sq == h.sq && decide (f.bd = h.bd)))))) := by
    rw [Bool.eq_iff_iff]
    simp only [decide_eq_true_eq, Bool.and_eq_true, beq_iff_eq]
    constructor
    · rintro rfl; exact ⟨rfl, rfl, rfl, rfl, rfl, rfl⟩
    · rintro ⟨a, b, c, d, e, k⟩; cases f; cases h; simp_all
  rw [key]
  simp only [Op.eqFields, f0, f1, f2, f3, f4, f5, h0, h1, h2, h3, h4, h5, Sem.run_bind, Result.andThen_ok, i0, hb, Sem.run_ite, Sem.run_pure]
  cases f.kd == h.kd <;> cases f.zn == h.zn <;> cases f.off == h.off <;> cases f.ep == h.ep <;> cases f.sq == h.sq <;> cases decide (f.bd = h.bd) <;> simp
theorem frame_neq (f h : Fr) (hf : f.Ok) (hh : h.Ok) (W : World) : (binOp .neq 64 f.v h.v).run Try.prog W = .ok (.bool (!decide (f = h))) W := by
  rw [run_neq_struct, frame_eq f h hf hh]
  rfl
end Go.Proofs.Ytcgafnmpfdkfoaa
