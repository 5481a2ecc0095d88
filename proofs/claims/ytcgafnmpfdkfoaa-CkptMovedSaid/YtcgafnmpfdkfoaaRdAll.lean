/- Layer 2: a reader's last bytes; all was read. -/
import Derived.Test.YtcgafnmpfdkfoaaReader
namespace Go.Proofs.Ytcgafnmpfdkfoaa
open Go.RowKit

/-- A reader at its end. -/
def RdEnd (B : Nat) (w : World) (r : Nat) : Prop := B ≤ r ∧ ∃ A c, Blk w r 234 #[.slice A 0 c, .bool false]
def TakeAllPost (B : Nat) (w : World) (r : Nat) (ys : List Int) (k : Nat) (e : Ending) (w' : World) : Prop :=
  ∃ g o, e = .returned (.slice (some ⟨g, o, none⟩) k k) ∧ RdEnd B w' r ∧ Keeps w.heap.size [r] w w' ∧ (B ≤ g ∧ g < w'.heap.size ∧ g ≠ r) ∧ ∀ j v, ys[j]? = some v → w'.cell? ⟨g, o + j, none⟩ = some (.int .u8 v)
set_option maxRecDepth 100000 in
set_option maxHeartbeats 1000000 in
theorem rd_take_all (B : Nat) (w : World) (r : Nat) (ys : List Int) (k : Nat) (h : RdAt B w r ys) (h1 : 1 ≤ k) (h2 : ys.length = k) (h3 : k ≤ 1000) :
    Calls Try.prog 144 #[.pointer (some ⟨r, 0, none⟩), .int .i64 k] w (TakeAllPost B w r ys k) := by
  obtain ⟨bb, o, c, cs, p0, ⟨p1, p2⟩, ⟨p5, p6⟩, p8, p7⟩ := h
  rw [h2] at p0 p5
  have p3 : r ≠ bb := p0.ne_ p8 (by decide)
  have q0 : w.cell? ⟨r, 0, none⟩ = some (.slice (some ⟨bb, o, none⟩) k c) := by rw [p0.cell]; rfl
  have q1 : w.cell? ⟨r, 1, none⟩ = some (.bool false) := by rw [p0.cell]; rfl
  have qf : w.frozen? ⟨r, 0, none⟩ = false := p0.frozen 0
  have ql := p0.lt
  have H0 := Lib.hid p0
  have H7 := Lib.hid p7
  have hc : c ≤ 9223372036854775807 := by unfold maxLen at p6; omega
  have H8 := Lib.hid p8
  have fin : ∀ A' c', Hid (TakeAllPost B w r ys k (.returned (.slice (some ⟨bb, o, none⟩) k k)) (w.setCell ⟨r, 0, none⟩ (.slice A' 0 c'))) := fun A' c' => Lib.hid (by
    have hk : Keeps w.heap.size [r] w (w.setCell ⟨r, 0, none⟩ (.slice A' 0 c')) := (Keeps.refl _ _ w).setCell _ _ (.inl (by simp))
    have hB := H0.out.set_ 0 (.slice A' 0 c')
    have hC := hk.blk H8.out.lt (by simp; omega) H8.out
    exact ⟨bb, o, rfl, ⟨p1, A', c', by simpa using hB⟩, hk, ⟨p2, hC.lt, Ne.symm p3⟩, fun j v hv => by rw [hC.cell]; exact H7.out j v hv⟩)
  have FIN := Lib.hid fin
  clear p0 p7 p8 fin
  by_cases hck : c = k
  · subst hck
    go_enter Try.func144, Try.ntmps144
    go_wp2
    go_ret
    exact (FIN.out _ _).out
  · have hlt : k < c := by omega
    go_enter Try.func144, Try.ntmps144
    go_wp2
    go_ret
    exact (FIN.out _ _).out
theorem rd_bytes_all (B : Nat) (w : World) (r : Nat) (ys : List Int) (k : Nat) (h : RdAt B w r ys) (h1 : 1 ≤ k) (h2 : ys.length = k) (h3 : k ≤ 1000) :
    Calls Try.prog 133 #[.pointer (some ⟨r, 0, none⟩), .int .i64 k] w (TakeAllPost B w r ys k) := by
  have HT := Lib.hid (rd_take_all B w r ys k h h1 h2 h3)
  go_enter Try.func133, Try.ntmps133
  go_wp2_with fail
  refine HT.out.mono ?_
  rintro e w' ⟨g, o, rfl, q1, q2, q3, q4⟩
  have Q := Lib.hid (And.intro q1 (And.intro q2 (And.intro q3 q4)))
  clear q1 q2 q3 q4
  go_wp2
  go_ret
  exact ⟨g, o, rfl, Q.out.1, Q.out.2.1, Q.out.2.2.1, Q.out.2.2.2⟩
theorem rd_done (B : Nat) (w : World) (r : Nat) (h : RdEnd B w r) : Calls Try.prog 134 #[.pointer (some ⟨r, 0, none⟩)] w fun e w' => e = .returned (.int .i64 0) ∧ w = w' := by
  obtain ⟨_, A, c, hB⟩ := h
  have q0 : w.cell? ⟨r, 0, none⟩ = some (.slice A 0 c) := by rw [hB.cell]; rfl
  have q1 : w.cell? ⟨r, 1, none⟩ = some (.bool false) := by rw [hB.cell]; rfl
  have ql := hB.lt
  clear hB
  go_enter Try.func134, Try.ntmps134
  go_wp2
  go_ret
  exact ⟨rfl, rfl⟩
end Go.Proofs.Ytcgafnmpfdkfoaa
