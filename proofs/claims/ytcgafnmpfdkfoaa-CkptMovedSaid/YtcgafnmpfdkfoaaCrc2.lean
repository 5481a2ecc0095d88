/- Layer 1: the table. -/
import Derived.Test.YtcgafnmpfdkfoaaCrc1
namespace Go.Proofs.Ytcgafnmpfdkfoaa
open Go.RowKit
def ptab (k : Nat) : Array Value := ((List.range 256).map fun i => Value.int .u32 (if i < k then (tabN i : Int) else 0)).toArray
theorem ptab_size (k : Nat) : (ptab k).size = 256 := by simp [ptab]
theorem ptab_zero : Try.zeroCells83 = ptab 0 := by kernel_rfl
theorem ptab_full : ptab 256 = tabV := by
  unfold ptab tabV
  refine congrArg List.toArray (List.map_congr_left fun i hi => ?_)
  rw [if_pos (by simpa using hi)]
theorem ptab_set (k : Nat) : (ptab k).setIfInBounds k (.int .u32 (tabN k)) = ptab (k + 1) := by
  apply Array.ext
  · simp [ptab]
  · intro i h1 h2
    have hi : i < 256 := by simpa [ptab] using h2
    rw [Array.getElem_setIfInBounds (by simpa [ptab] using h2)]
    by_cases e : k = i
    · subst e; simp [ptab]
    · rw [if_neg e]
      simp only [ptab, List.getElem_toArray, List.getElem_map, List.getElem_range]
      by_cases hlt : i < k
      · rw [if_pos hlt, if_pos (by omega)]
      · rw [if_neg hlt, if_neg (by omega)]
set_option maxRecDepth 100000 in
theorem crc_new (w : World) : Calls Try.prog 51 #[] w fun e w' => e = .returned (.agg tabV) ∧ Below w.heap.size w w' := by
  obtain ⟨V, hV⟩ : ∃ V, (w.alloc (.cells Try.zeroCells83 83)).alloc (.cells Try.zeroCells83 83) = V := ⟨_, rfl⟩
  have b0 : Below w.heap.size w V := by rw [← hV]; exact (below_box _ _).alloc (by simp) _
  have k0 : Blk V w.heap.size 83 (ptab 0) := by rw [← hV, ptab_zero]; exact (Blk.newAt rfl).alloc _
  have k1 : Blk V (w.heap.size + 1) 83 (ptab 0) := by rw [← hV, ptab_zero]; exact Blk.newAt (by simp)
  have HB := Lib.hid b0
  have K0 := Lib.hid k0
  have K1 := Lib.hid k1
  clear b0 k0 k1
  go_enter Try.func51, Try.ntmps51
  go_wp2
  clear hV
  go_loopw [5] (fun i wr => ∃ k : Nat, k ≤ 256 ∧ i = .int .i64 k ∧ Blk wr (w.heap.size + 1) 83 (ptab k) ∧ Blk wr w.heap.size 83 (ptab 0) ∧ Below w.heap.size w wr) (fun i _ => 256 - (intOf i).toNat)
  case atStart => exact ⟨0, by omega, rfl, K1.out, K0.out, HB.out⟩
  case round =>
    obtain ⟨k, hk, rfl, hk1, hk0, hB⟩ := hrel
    by_cases hlt : k < 256
    · have hki : (k : Int) < 256 := by omega
      have H1 := Lib.hid hk1
      have H0 := Lib.hid hk0
      have HB2 := Lib.hid hB
      obtain ⟨W, rfl⟩ : ∃ W : World, W = wr := ⟨_, rfl⟩
      clear hk1 hk0 hB
      go_wp2
      go_loopw [3, 10] (fun v j wr => ∃ m : Nat, m ≤ 8 ∧ j = .int .i64 m ∧ v = .int .u32 (fIt m k) ∧ wr = W) (fun _ j _ => 8 - (intOf j).toNat)
      case atStart => exact ⟨0, by omega, rfl, rfl, rfl⟩
      case round =>
        obtain ⟨m, hm, rfl, rfl, rfl⟩ := hrel
        by_cases hlm : m < 8
        · obtain ⟨R, hR⟩ : ∃ R, fIt m k = R := ⟨_, rfl⟩
          have hR32 : R < 4294967296 := hR ▸ fIt_lt m k (by omega)
          have hnext : Hid (fIt (m + 1) k = fN R) := Lib.hid (by rw [fIt_add, hR]; rfl)
          rw [hR]
          have hand : bits .and .u32 (R : Int) 1 = ((R % 2 : Nat) : Int) := by
            have h := u32_and_nat R 1 hR32 (by omega)
            rw [Nat.and_one_is_mod] at h
            exact h
          obtain ⟨t, ht⟩ : ∃ t : Nat, R % 2 = t := ⟨_, rfl⟩
          rw [ht] at hand
          have HT := Lib.hid ht
          have hm8 : (m : Int) < 8 := by omega
          by_cases h1 : t = 1
          · subst h1
            have hx : bits .xor .u32 ((R : Int) / 2) 2197175160 = (fN R : Int) := by
              have h := u32_xor_nat (R / 2) 2197175160 (by omega) (by omega)
              unfold fN
              rw [if_pos HT.out]
              simpa using h
            clear hR ht
            go_wp2
            go_roundw
            case rel => exact ⟨m + 1, by omega, by simp, by rw [hnext.out], by first | trivial | rfl⟩
            case measure => simp [intOf]; omega
          · obtain rfl : t = 0 := by omega
            have hx : (fN R : Int) = (R : Int) / 2 := by
              unfold fN
              rw [if_neg (by have := HT.out; omega), Nat.xor_zero]
              simp
            have HX := Lib.hid hx
            clear hR ht hx
            go_wp2
            go_roundw
            case rel => exact ⟨m + 1, by omega, by simp, by rw [hnext.out, HX.out], by first | trivial | rfl⟩
            case measure => simp [intOf]; omega
        · obtain rfl : m = 8 := by omega
          have hkl := H1.out.lt
          have hf := H1.out.frozen k
          have hc : wr.cell? ⟨w.heap.size + 1, k, none⟩ = some (.int .u32 0) := by
            rw [H1.out.cell]; simp [ptab, hlt]
          have hki0 : (0 : Int) ≤ (k : Int) := by omega
          obtain ⟨T, hT⟩ : ∃ T, fIt 8 k = T := ⟨_, rfl⟩
          have HT := Lib.hid hT
          rw [hT]
          clear hT
          go_wp2
          go_roundw
          case rel =>
            refine ⟨k + 1, by omega, by simp, ?_, ?_, ?_⟩
            · have h := H1.out.set_ k (.int .u32 (T : Int))
              rw [show ((T : Nat) : Int) = ((tabN k : Nat) : Int) by rw [← HT.out]; rfl, ptab_set k] at h
              rw [show ((T : Nat) : Int) = ((tabN k : Nat) : Int) by rw [← HT.out]; rfl]
              exact h
            · exact ((Keeps.refl (w.heap.size + 1) [] wr).setCell _ _ (.inr (by simp))).blk (by omega) (by simp) H0.out
            · exact HB2.out.setCell (by simp) _
          case measure => simp [intOf]; omega
    · obtain rfl : k = 256 := by omega
      rw [ptab_full] at hk1
      have H1 := Lib.hid hk1
      have H0 := Lib.hid hk0
      have HB2 := Lib.hid hB
      have hsz : (Try.prog.info? 83).map (·.size) = some tabV.size := by rw [tabV_size]; exact size_table
      have HSZ := Lib.hid hsz
      have h1 : tabV.all (·.oneCell') = true := by
        rw [Array.all_eq_true_iff_forall_mem]
        intro v hv
        simp only [tabV, List.mem_toArray, List.mem_map] at hv
        obtain ⟨i, _, rfl⟩ := hv
        rfl
      have HONE := Lib.hid h1
      have hfit : 0 + tabV.size ≤ (ptab 0).size := by rw [tabV_size, ptab_size]; exact Nat.le_refl _
      clear hk1 hk0 hB hsz h1
      go_wp2_with (first
        | (refine wpList_load_blk rfl 83 (.tmp 1) rfl (w.heap.size + 1) 0 rfl H1.out tabV (row_whole tabV) _ Try.underlying83 rfl HSZ.out ?_)
        | (refine wpList_store_blk rfl 83 (.tmp 0) (.tmp 25) rfl w.heap.size 0 tabV rfl rfl H0.out hfit HSZ.out HONE.out ?_; intro W8 hG8 hK8 hs8))
      have hG := hG8.out
      rw [over_all (by rw [ptab_size, tabV_size])] at hG
      refine bodyPost_ret (v := .agg tabV) (results_cell_row Try.results51 _ _ w.heap.size 83 tabV (0, 0) _ (by simp [Act.put]) hG Try.underlying83 rfl HSZ.out) rfl ?_
      exact ⟨rfl, HB2.out.trans (Keeps.below (hK8.out.mono HB2.out.size (fun _ h => h)) (by simp))⟩
end Go.Proofs.Ytcgafnmpfdkfoaa
