/- Two of the reference's frames compared. -/
import Derived.Test.YtcgafnmpfdkfoaaFrameEq
namespace Go.Proofs.Ytcgafnmpfdkfoaa
open Go.RowKit

theorem stood_rframe : (Try.prog).stoodInHeld 77 = false := by kernel_rfl
set_option maxRecDepth 100000 in
theorem rframe_eq (f h : Fr) (hf : f.Ok) (hh : h.Ok) (W : World) : (Op.equalIn 10000 77 (.agg f.arr) (.agg h.arr)).run Try.prog W = .ok (decide (f = h)) W := by
  have hb := run_equalIn_bytes (P := Try.prog) W 9998 Try.underlying62 Try.underlying5 size_byte (fun a b w => run_equalIn_int w 9997 5 .u8 .u8 a b Try.underlying5) f.bd h.bd hf hh
  have hu : (Try.prog).underlying 77 = some (.struct ((Try.prog).fieldsOf 77)) := by unfold Program.fieldsOf; rw [Try.underlying77]
  rw [run_equalIn_struct W 9999 77 f.arr h.arr hu stood_rframe]
  have hp : ∀ (x : Fr), x.Ok → (∀ w, (part 3 x.arr 0).run Try.prog w = .ok (.int .i64 x.kd) w) ∧ (∀ w, (part 3 x.arr 1).run Try.prog w = .ok (.int .i64 x.zn) w) ∧ (∀ w, (part 3 x.arr 2).run Try.prog w = .ok (.int .i64 x.off) w) ∧
      (∀ w, (part 3 x.arr 3).run Try.prog w = .ok (.int .i64 x.ep) w) ∧ (∀ w, (part 3 x.arr 4).run Try.prog w = .ok (.int .i64 x.sq) w) ∧ (∀ w, (part 62 x.arr 5).run Try.prog w = .ok (.agg (bys x.bd).toArray) w) := by
    intro x hx
    have key : ∀ j v, x.arr[j]? = some v → ∀ w, (part 3 x.arr j).run Try.prog w = .ok v w := fun j v hv w => by
      unfold part
      rw [Sem.run_bind, isAgg_int (k := .i64) Try.underlying3 w]
      simp [Result.andThen, hv]
    refine ⟨key 0 _ (by unfold Fr.arr; simp), key 1 _ (by unfold Fr.arr; simp), key 2 _ (by unfold Fr.arr; simp), key 3 _ (by unfold Fr.arr; simp), key 4 _ (by unfold Fr.arr; simp), fun w => ?_⟩
    have hagg : (isAgg 62).run Try.prog w = .ok true w := by
      unfold isAgg
      rw [Sem.run_bind, run_underlying Try.underlying62 w]
      rfl
    have hso : (sizeOf 62).run Try.prog w = .ok 44 w := by
      have hs := size_body
      cases hq : (Try.prog).info? 62 with
      | none => rw [hq] at hs; cases hs
      | some i => rw [hq] at hs; simp [sizeOf, typeInfo, hq]; simpa using hs
    unfold part
    rw [Sem.run_bind, hagg]
    simp only [Result.andThen_ok, if_true, Sem.run_bind, hso, Sem.run_pure]
    congr 2
    unfold Fr.arr
    have h2 := bys_length x.bd
    rw [hx] at h2
    apply Array.ext'
    simp
    exact List.take_of_length_le (by omega)
  obtain ⟨f0, f1, f2, f3, f4, f5⟩ := hp f hf
  obtain ⟨h0, h1, h2, h3, h4, h5⟩ := hp h hh
  have hfl : (((Try.prog).fieldsOf 77).toList) = (((Try.prog).fieldsOf 77).toList) := rfl
  conv at hfl => rhs; unfold Program.fieldsOf; rw [Try.underlying77]
  rw [hfl]
  have i0 := fun (a b : Int) (w : World) => run_equalIn_int (P := Try.prog) w 9998 3 .i64 .i64 a b Try.underlying3
  have key : decide (f = h) = (f.kd == h.kd && (f.zn == h.zn && (f.off == h.off && (f.ep == h.ep && (f.sq == h.sq && decide (f.bd = h.bd)))))) := by
    rw [Bool.eq_iff_iff]
    simp only [decide_eq_true_eq, Bool.and_eq_true, beq_iff_eq]
    constructor
    · rintro rfl; exact ⟨rfl, rfl, rfl, rfl, rfl, rfl⟩
    · rintro ⟨a, b, c, d, e, k⟩; cases f; cases h; simp_all
  rw [key]
  simp only [Op.eqFields, f0, f1, f2, f3, f4, f5, h0, h1, h2, h3, h4, h5, Sem.run_bind, Result.andThen_ok, i0, hb, Sem.run_ite, Sem.run_pure]
  cases f.kd == h.kd <;> cases f.zn == h.zn <;> cases f.off == h.off <;> cases f.ep == h.ep <;> cases f.sq == h.sq <;> cases decide (f.bd = h.bd) <;> simp
theorem rframe_neq (f h : Fr) (hf : f.Ok) (hh : h.Ok) (W : World) : (binOp .neq 77 f.v h.v).run Try.prog W = .ok (.bool (!decide (f = h))) W := by
  rw [run_neq_struct, rframe_eq f h hf hh]
  rfl
end Go.Proofs.Ytcgafnmpfdkfoaa
