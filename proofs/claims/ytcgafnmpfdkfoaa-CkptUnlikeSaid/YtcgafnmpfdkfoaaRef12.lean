/- The reference of layer 12: may a snapshot be. -/
import Derived.Test.YtcgafnmpfdkfoaaSame12
namespace Go.Proofs.Ytcgafnmpfdkfoaa
open Go.RowKit

theorem Blk.rcells {w : World} {b : Nat} {t : TypeId} {s : Sn} {g : G} {v : Value} (h : Blk w b t (refArr s g v)) : (w.cell? ⟨b, 0, none⟩ = some (.int .i64 s.gen) ∧ w.cell? ⟨b, 1, none⟩ = some (.int .i64 s.ep)) ∧ w.cell? ⟨b, 2, none⟩ = some (.int .i64 s.nx) ∧ w.cell? ⟨b, 9, none⟩ = some v :=
  ⟨⟨by rw [h.cell]; rfl, by rw [h.cell]; rfl⟩, by rw [h.cell]; rfl, by rw [h.cell]; rfl⟩
theorem Sn.right_no {s : Sn} {l : List E} (h : ¬ ((1 ≤ s.gen ∧ s.gen ≤ 281474976710655) ∧ (1 ≤ s.ep ∧ s.ep ≤ 4294967295) ∧ (1 ≤ s.nx ∧ s.nx ≤ 281474976710655))) : s.right l = false := by
  rw [← Bool.not_eq_true]
  intro hr
  apply h
  simp only [Sn.right, Bool.and_eq_true, wi_true] at hr
  exact ⟨hr.1.1.1, hr.1.1.2, hr.1.2⟩
theorem Sn.right_all {s : Sn} {l : List E} (h : (1 ≤ s.gen ∧ s.gen ≤ 281474976710655) ∧ (1 ≤ s.ep ∧ s.ep ≤ 4294967295) ∧ (1 ≤ s.nx ∧ s.nx ≤ 281474976710655)) : s.right l = l.all fun e => decide (e.sq < s.nx) := by
  unfold Sn.right
  rw [wi_true.2 h.1, wi_true.2 h.2.1, wi_true.2 h.2.2]
  rfl

set_option maxRecDepth 100000 in
set_option maxHeartbeats 1000000 in
theorem ref12_right_no (w : World) (s : Sn) (g : G) (v : Value) (l : List E) (h : ¬ ((1 ≤ s.gen ∧ s.gen ≤ 281474976710655) ∧ (1 ≤ s.ep ∧ s.ep ≤ 4294967295) ∧ (1 ≤ s.nx ∧ s.nx ≤ 281474976710655))) :
    Calls Try.prog 44 #[.agg (refArr s g v)] w fun r w' => r = .returned (.bool (s.right l)) ∧ Below w.heap.size w w' := by
  rw [Sn.right_no h]
  by_cases h1 : s.gen < 1
  · go_enter Try.func44, Try.ntmps44
    go_wp2
    go_ret
    exact ⟨rfl, below_box _ _⟩
  · by_cases h2 : 281474976710655 < s.gen
    · go_enter Try.func44, Try.ntmps44
      go_wp2
      go_ret
      exact ⟨rfl, below_box _ _⟩
    · by_cases h3 : s.ep < 1
      · go_enter Try.func44, Try.ntmps44
        go_wp2
        go_ret
        exact ⟨rfl, below_box _ _⟩
      · by_cases h4 : 4294967295 < s.ep
        · go_enter Try.func44, Try.ntmps44
          go_wp2
          go_ret
          exact ⟨rfl, below_box _ _⟩
        · by_cases h5 : s.nx < 1
          · go_enter Try.func44, Try.ntmps44
            go_wp2
            go_ret
            exact ⟨rfl, below_box _ _⟩
          · have h6 : 281474976710655 < s.nx := by omega
            go_enter Try.func44, Try.ntmps44
            go_wp2
            go_ret
            exact ⟨rfl, below_box _ _⟩
set_option maxRecDepth 100000 in
set_option maxHeartbeats 1000000 in
theorem ref12_right_yes (w : World) (s : Sn) (g : G) (b c : Nat) (l : List E) (hz : l.length ≤ 1000) (hb : b < w.heap.size) (he : ∀ i e, l[i]? = some e → EntReads w b i e)
    (h : (1 ≤ s.gen ∧ s.gen ≤ 281474976710655) ∧ (1 ≤ s.ep ∧ s.ep ≤ 4294967295) ∧ (1 ≤ s.nx ∧ s.nx ≤ 281474976710655)) :
    Calls Try.prog 44 #[.agg (refArr s g (.slice (some ⟨b, 0, none⟩) l.length c))] w fun r w' => r = .returned (.bool (s.right l)) ∧ Below w.heap.size w w' := by
  rw [Sn.right_all h]
  obtain ⟨⟨h1, h2⟩, ⟨h3, h4⟩, h5, h6⟩ := h
  obtain ⟨W0, hW0⟩ : ∃ W0, w.alloc (.cells (refArr s g (.slice (some ⟨b, 0, none⟩) l.length c)) 55) = W0 := ⟨_, rfl⟩
  have k0 : Blk W0 w.heap.size 55 (refArr s g (.slice (some ⟨b, 0, none⟩) l.length c)) := by rw [← hW0]; exact Blk.newAt rfl
  have U0 : Below w.heap.size w W0 := by rw [← hW0]; exact below_box _ _
  obtain ⟨⟨x0, x1⟩, x2, x9⟩ := k0.rcells
  have HU := Lib.hid U0
  have K0 := Lib.hid k0
  have HE := Lib.hid he
  clear U0 k0 he
  go_enter Try.func44, Try.ntmps44
  go_wp2_with fail
  clear hW0
  go_loopw [3] (fun i wr => ∃ k : Nat, k ≤ l.length ∧ i = .int .i64 k ∧ (∀ j e, j < k → l[j]? = some e → e.sq < s.nx) ∧ Below W0.heap.size W0 wr) (fun i _ => l.length - (intOf i).toNat)
  case atStart => exact ⟨0, Nat.zero_le _, rfl, fun j e hj => absurd hj (by omega), Below.refl _ _⟩
  case round =>
    obtain ⟨k, hk, rfl, ht, hB⟩ := hrel
    have kr := (Keeps.of_below (S := []) hB).blk K0.out.lt (by simp) K0.out
    obtain ⟨⟨x0, x1⟩, x2, x9⟩ := kr.rcells
    have hrl := kr.lt
    have HT := Lib.hid ht
    have HB := Lib.hid hB
    clear ht kr hB
    by_cases hlt : k < l.length
    · obtain ⟨e, hel⟩ : ∃ e, l[k]? = some e := ⟨_, List.getElem?_eq_getElem hlt⟩
      obtain ⟨_, _, _, _, e4, _⟩ := HE.out k e hel
      have hbr : b < wr.heap.size := by have := HU.out.size; have := HB.out.size; omega
      have d4 : wr.cell? ⟨b, k * 6 + 4, none⟩ = some (.int .i64 e.sq) := by
        rw [HB.out.cell (p := ⟨b, k * 6 + 4, none⟩) (Nat.lt_of_lt_of_le hb HU.out.size), HU.out.cell (p := ⟨b, k * 6 + 4, none⟩) hb]; exact e4
      have HEL := Lib.hid hel
      clear e4 hel
      have hfrom := @From.cell wr
      by_cases hsq : e.sq < s.nx
      · go_wp2_with fail
        refine region_from (by kernel_rfl) (by kernel_rfl) ?_
        repeat (go_big_quiet_step (fail))
        refine wpQuiet_nil ?_
        intro W hW
        have HW := Lib.hid (HB.out.trans (hW.mono HB.out.size))
        clear hW hfrom
        go_wp2
        go_roundw
        case rel =>
          refine ⟨k + 1, by omega, by simp, fun j x hj hx => ?_, HW.out⟩
          by_cases hjk : j = k
          · subst hjk
            have := HEL.out.symm.trans hx
            injection this with this
            subst this
            exact hsq
          · exact HT.out j x (by omega) hx
        case measure => simp [intOf]; omega
      · have hge : s.nx ≤ e.sq := by omega
        have hall : (l.all fun e => decide (e.sq < s.nx)) = false := by
          rw [← Bool.not_eq_true, List.all_eq_true]
          intro hx
          have := hx e (List.mem_of_getElem? HEL.out)
          simp at this
          omega
        have HA := Lib.hid hall
        clear hsq hall
        go_wp2_with fail
        refine region_from (by kernel_rfl) (by kernel_rfl) ?_
        repeat (go_big_quiet_step (fail))
        refine wpQuiet_nil ?_
        intro W hW
        have HW := Lib.hid (HB.out.trans (hW.mono HB.out.size))
        clear hW hfrom
        go_wp2
        go_ret
        exact ⟨by rw [HA.out]; rfl, HU.out.trans (HW.out.mono HU.out.size)⟩
    · obtain rfl : k = l.length := by omega
      have hall : (l.all fun e => decide (e.sq < s.nx)) = true := by
        rw [List.all_eq_true]
        intro x hx
        obtain ⟨j, hj, rfl⟩ := List.getElem_of_mem hx
        have := HT.out j _ hj (List.getElem?_eq_getElem hj)
        simpa using this
      have HA := Lib.hid hall
      clear hall
      go_wp2
      go_ret
      exact ⟨by rw [HA.out]; rfl, HU.out.trans (HB.out.mono HU.out.size)⟩
theorem ref12_right (w : World) (s : Sn) (g : G) (b c : Nat) (l : List E) (hz : l.length ≤ 1000) (hb : b < w.heap.size) (he : ∀ i e, l[i]? = some e → EntReads w b i e) :
    Calls Try.prog 44 #[.agg (refArr s g (.slice (some ⟨b, 0, none⟩) l.length c))] w fun r w' => r = .returned (.bool (s.right l)) ∧ Below w.heap.size w w' := by
  by_cases h : (1 ≤ s.gen ∧ s.gen ≤ 281474976710655) ∧ (1 ≤ s.ep ∧ s.ep ≤ 4294967295) ∧ (1 ≤ s.nx ∧ s.nx ≤ 281474976710655)
  · exact ref12_right_yes w s g b c l hz hb he h
  · exact ref12_right_no w s g _ l h
theorem ref12_right_v (w : World) (s : Sn) (g : G) (b c : Nat) (l : List E) (hz : l.length ≤ 1000) (hb : b < w.heap.size) (he : ∀ i e, l[i]? = some e → EntReads w b i e) (t : Bool) (ht : s.right l = t) :
    Calls Try.prog 44 #[.agg (refArr s g (.slice (some ⟨b, 0, none⟩) l.length c))] w fun r w' => r = .returned (.bool t) ∧ Below w.heap.size w w' := ht ▸ ref12_right w s g b c l hz hb he
end Go.Proofs.Ytcgafnmpfdkfoaa
