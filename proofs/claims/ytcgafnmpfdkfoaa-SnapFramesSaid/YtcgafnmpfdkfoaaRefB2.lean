/- The reference's bytes as a body: revetmentref12.bytes. -/
import Derived.Test.YtcgafnmpfdkfoaaRefB
import Derived.Test.YtcgafnmpfdkfoaaBody
namespace Go.Proofs.Ytcgafnmpfdkfoaa
open Go.RowKit

/-- Bytes copied so far, noughts behind them. -/
def part44 (ys : List Int) (k : Nat) : List Int := ys.take k ++ List.replicate (44 - k) 0
theorem part44_set (ys : List Int) (k : Nat) (x : Int) (h : ys[k]? = some x) (hk : k < 44) : (part44 ys k).set k x = part44 ys (k + 1) := by
  have hl := (List.getElem?_eq_some_iff.1 h).1
  unfold part44
  have e1 : 44 - k = (44 - (k + 1)) + 1 := by omega
  rw [List.take_add_one, h, e1, List.replicate_succ, Option.toList_some, List.append_assoc, List.set_append]
  rw [if_neg (by simp; omega)]
  congr 1
  rw [show k - (ys.take k).length = 0 by simp; omega]
  rfl
theorem part44_full (ys : List Int) : part44 ys ys.length = pad44 ys := by
  unfold part44 pad44
  rw [List.take_of_length_le (Nat.le_refl _)]
theorem part44_length (ys : List Int) (k : Nat) (h : k ≤ ys.length) (h44 : k ≤ 44) : (part44 ys k).length = 44 := by
  unfold part44
  simp
  omega
set_option maxRecDepth 100000 in
set_option maxHeartbeats 1000000 in
theorem ref_bytes (w : World) (g c n : Nat) (ys : List Int) (hx : ∀ j v, ys[j]? = some v → w.cell? ⟨g, j, none⟩ = some (.int .u8 v)) (hg : g < w.heap.size) (hn : ys.length = n) (h44 : n ≤ 44) :
    Calls Try.prog 90 #[.slice (some ⟨g, 0, none⟩) n c] w fun r w' => r = .returned (.agg (bys (pad44 ys)).toArray) ∧ Below w.heap.size w w' := by
  obtain ⟨W0, hW0⟩ : ∃ W, (w.alloc (.cells Z44 62)).alloc (.cells Z44 62) = W := ⟨_, rfl⟩
  obtain ⟨N1, hN1⟩ : ∃ N, w.heap.size + 1 = N := ⟨_, rfl⟩
  have b0 : Below w.heap.size w W0 := by rw [← hW0]; exact (below_box _ _).alloc (by simp) _
  have k0 : Blk W0 w.heap.size 62 Z44 := by rw [← hW0]; exact (Blk.newAt rfl).alloc _
  have k1 : Blk W0 N1 62 Z44 := by rw [← hW0]; exact Blk.newAt (by simp; omega)
  have B0 := Lib.hid b0
  have K0 := Lib.hid k0
  have K1 := Lib.hid k1
  have HX := Lib.hid hx
  clear b0 k0 k1 hx
  go_enter Try.func90, Try.ntmps90
  go_wp2_with fail
  clear hW0
  have HN1 := Lib.hid hN1
  clear hN1
  have hp0 : Hid (bys (part44 ys 0) = Z44.toList) := Lib.hid (by rw [Z44_list]; simp [part44])
  go_loopw [4] (fun i wr => ∃ k : Nat, k ≤ n ∧ i = .int .i64 k ∧ Blk wr N1 62 (bys (part44 ys k)).toArray ∧ Keeps W0.heap.size [N1] W0 wr) (fun i _ => n - (intOf i).toNat)
  case atStart => exact ⟨0, Nat.zero_le _, rfl, by rw [hp0.out]; exact K1.out, Keeps.refl _ _ _⟩
  case round =>
    obtain ⟨k, hk, rfl, hD, hK⟩ := hrel
    have HD := Lib.hid hD
    have HK := Lib.hid hK
    by_cases hlt : k < n
    · obtain ⟨x, hx⟩ : ∃ x, ys[k]? = some x := ⟨_, List.getElem?_eq_getElem (by omega)⟩
      have hgN : g ≠ N1 := by have := HN1.out; omega
      have hgl : g < W0.heap.size := Nat.lt_of_lt_of_le hg B0.out.size
      have hcx : wr.cell? ⟨g, k, none⟩ = some (.int .u8 x) := by
        rw [hK.cell g k hgl (by simpa using hgN), B0.out.cell (p := ⟨g, k, none⟩) hg]
        exact HX.out k x hx
      obtain ⟨y, hy⟩ : ∃ y, (part44 ys k)[k]? = some y := ⟨_, List.getElem?_eq_getElem (by rw [part44_length ys k (by omega) (by omega)]; omega)⟩
      have hcd : wr.cell? ⟨N1, k, none⟩ = some (.int .u8 y) := by rw [hD.cell]; simp [bys, hy]
      have hcf : wr.frozen? ⟨N1, k, none⟩ = false := hD.frozen k
      have hcl := hD.lt
      have hk44 : k < 44 := by omega
      have hset : Hid (((bys (part44 ys k)).toArray.setIfInBounds k (.int .u8 x)) = (bys (part44 ys (k + 1))).toArray) := Lib.hid (by
        rw [← part44_set ys k x hx hk44]
        simp [bys, List.map_set])
      clear hD hK hx hy
      go_wp2
      go_roundw
      case rel => exact ⟨k + 1, by omega, by simp, by rw [← hset.out]; exact HD.out.set_ k _, HK.out.setCell _ _ (.inl (by simp))⟩
      case measure => simp [intOf]; omega
    · obtain rfl : k = n := by omega
      obtain ⟨D, hDD⟩ : ∃ D : Array Value, Hid ((bys (part44 ys k)).toArray = D) := ⟨_, Lib.hid rfl⟩
      have hDs : D.size = 44 := by rw [← hDD.out, List.size_toArray, bys_length, part44_length ys k (by omega) (by omega)]
      have hDi : (Try.prog.info? 62).map (·.size) = some D.size := by rw [hDs]; exact size_body
      have hD1 : D.all (·.oneCell') = true := by rw [← hDD.out]; exact all_oneCell_toArray (bys_one _)
      rw [hDD.out] at HD
      have G0 := Lib.hid (HK.out.blk K0.out.lt (by have := HN1.out; simp; omega) K0.out)
      have HDI := Lib.hid hDi
      have HDS := Lib.hid hDs
      have HD1 := Lib.hid hD1
      clear hD hK hDs hDi hD1
      go_wp2_with (first
        | (refine wpList_load_blk rfl 62 (.tmp 3) rfl N1 0 rfl HD.out D (row_whole D) _ Try.underlying62 rfl HDI.out ?_)
        | (refine wpList_store_blk rfl 62 (.tmp 2) (.tmp 17) rfl w.heap.size 0 D rfl rfl G0.out (by rw [HDS.out]; decide) HDI.out HD1.out ?_; intro w3 hG3 hK3 hs3))
      refine bodyPost_ret (v := .agg D) (results_cell_row Try.results90 _ _ w.heap.size 62 D (0, 0) _ (by simp) (by have := hG3.out; rwa [over_all (by rw [HDS.out]; rfl)] at this) Try.underlying62 rfl HDI.out) rfl ?_
      refine ⟨by rw [← hDD.out, ← hn, part44_full], ?_⟩
      have k1 : Keeps w.heap.size [N1] w wr := ((Keeps.of_below (S := [N1]) B0.out)).trans (HK.out.mono B0.out.size (fun _ h => h))
      have u1 : Below w.heap.size w wr := Keeps.below k1 (by have := HN1.out; simp; omega)
      exact u1.trans (Keeps.below (hK3.out.mono u1.size (fun _ h => h)) (by simp))
end Go.Proofs.Ytcgafnmpfdkfoaa
