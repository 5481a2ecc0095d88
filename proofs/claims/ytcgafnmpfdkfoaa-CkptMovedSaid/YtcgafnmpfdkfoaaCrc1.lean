/- Layer 1: the table's steps. -/
import Derived.Test.YtcgafnmpfdkfoaaCrc0
import Derived.Test.YtcgafnmpfdkfoaaBody
import Derived.Laws.BitsAllLaws
namespace Go.Proofs.Ytcgafnmpfdkfoaa
open Go.RowKit

def tabV : Array Value := ((List.range 256).map fun i => Value.int .u32 (tabN i)).toArray
theorem tabV_size : tabV.size = 256 := by simp [tabV]
theorem tabV_get (i : Nat) (h : i < 256) : tabV[i]? = some (.int .u32 (tabN i)) := by simp [tabV, h]
theorem crc_step (w : World) (r c : Nat) (hr : r < 4294967296) (hc : c < 256) :
    Calls Try.prog 167 #[.agg tabV, .int .u32 r, .int .u8 c] w fun e w' => e = .returned (.int .u32 (stepN r c)) ∧ Below w.heap.size w w' := by
  obtain ⟨x, hx⟩ : ∃ x : Nat, (r % 256) ^^^ c = x := ⟨_, rfl⟩
  have hx8 : x < 256 := hx ▸ xor_byte_lt r c hc
  have hb1 : bits .xor .u8 ((r : Int) % 256) (c : Int) = (x : Int) := by
    rw [← hx, show ((r : Int) % 256) = ((r % 256 : Nat) : Int) by omega]
    exact u8_xor_nat _ _ (Nat.mod_lt _ (by omega)) hc
  have hb2 : bits .xor .u32 ((r : Int) / 256) (tabN x : Int) = (stepN r c : Int) := by
    rw [stepN_eq r c hc, hx, show ((r : Int) / 256) = ((r / 256 : Nat) : Int) by omega]
    exact u32_xor_nat _ _ (by omega) (tabN_lt x (by omega))
  have hx0 : (0 : Int) ≤ (x : Int) := by omega
  have hx1 : (x : Int) < 256 := by omega
  obtain ⟨V, hV⟩ : ∃ V, w.alloc (.cells tabV 83) = V := ⟨_, rfl⟩
  have b0 : Below w.heap.size w V := by rw [← hV]; exact below_box _ _
  have k0 : Blk V w.heap.size 83 tabV := by rw [← hV]; exact Blk.newAt rfl
  have c0 : V.cell? ⟨w.heap.size, x, none⟩ = some (.int .u32 (tabN x)) := by rw [k0.cell]; exact tabV_get x hx8
  have HB := Lib.hid b0
  clear b0 k0 hx
  go_enter Try.func167, Try.ntmps167
  go_wp2
  go_ret
  exact ⟨rfl, HB.out⟩

theorem size_table : (Try.prog.info? 83).map (·.size) = some 256 := by kernel_rfl
/-- Bytes, as they lie. -/
def BysAt (w : World) (A : Option Addr) (n c : Nat) (xs : List Int) : Prop :=
  xs.length = n ∧ n ≤ c ∧ c ≤ maxLen ∧ Byt xs ∧ (0 < n → ∃ b off, A = some ⟨b, off, none⟩ ∧ b < w.heap.size ∧ ∀ k x, xs[k]? = some x → w.cell? ⟨b, off + k, none⟩ = some (.int .u8 x))
theorem BysAt.grow {w w1 : World} {A : Option Addr} {n c : Nat} {xs : List Int} (h : BysAt w A n c xs) (k : Below w.heap.size w w1) : BysAt w1 A n c xs := by
  obtain ⟨h1, h2, h3, h4, h5⟩ := h
  refine ⟨h1, h2, h3, h4, fun hp => ?_⟩
  obtain ⟨b, off, e1, e2, e3⟩ := h5 hp
  exact ⟨b, off, e1, Nat.lt_of_lt_of_le e2 k.size, fun i x hx => (k.cell (p := ⟨b, off + i, none⟩) e2).trans (e3 i x hx)⟩
theorem bys_of_own {W : World} {base n : Nat} {v : Value} {xs : List Int} (h : W.ownsRow base 5 1 v n (bys xs)) (hn : xs.length = n) (hb : Byt xs) : ∃ A c, v = .slice A n c ∧ BysAt W A n c xs := by
  rcases h.2 with ⟨rfl, rfl⟩ | ⟨g, c, cs, rfl, _, hg, hnc, hcm, _, _⟩
  · exact ⟨none, 0, rfl, hn, Nat.le_refl _, Nat.zero_le _, hb, fun h => absurd h (by omega)⟩
  · refine ⟨_, c, rfl, hn, hnc, hcm, hb, fun _ => ⟨g, 0, rfl, (h.lt _ rfl).2, fun k x hx => ?_⟩⟩
    have hk := (List.getElem?_eq_some_iff.1 hx).1
    rw [Nat.zero_add, h.cellAt k (by omega)]
    simp [bys, hx]
def natsOf (xs : List Int) : List Nat := xs.map Int.toNat
theorem natsOf_lt {xs : List Int} (h : Byt xs) : ∀ x ∈ natsOf xs, x < 256 := by
  intro x hx
  obtain ⟨y, hy, rfl⟩ := List.mem_map.1 hx
  have := h y hy
  omega
theorem natsOf_append (xs ys : List Int) : natsOf (xs ++ ys) = natsOf xs ++ natsOf ys := by simp [natsOf]
theorem natsOf_snoc (xs : List Int) (k : Nat) (x : Int) (h : xs[k]? = some x) : natsOf (xs.take (k + 1)) = natsOf (xs.take k) ++ [x.toNat] := by
  rw [List.take_add_one, h]; simp [natsOf]
theorem Byt.take {xs : List Int} (h : Byt xs) (k : Nat) : Byt (xs.take k) := fun b hb => h b (List.mem_of_mem_take hb)
theorem Byt.drop {xs : List Int} (h : Byt xs) (k : Nat) : Byt (xs.drop k) := fun b hb => h b (List.mem_of_mem_drop hb)
set_option maxRecDepth 100000 in
theorem crc_over (w : World) (tb : Nat) (hT : Blk w tb 83 tabV) (r : Nat) (hr : r < 4294967296) (A : Option Addr) (n c : Nat) (xs : List Int) (h : BysAt w A n c xs) (h1000 : n ≤ 1000) :
    Calls Try.prog 160 #[.pointer (some ⟨tb, 0, none⟩), .int .u32 r, .slice A n c] w fun e w' => e = .returned (.int .u32 (overN r (natsOf xs))) ∧ Below w.heap.size w w' := by
  obtain ⟨hl, hnc, hcm, hb, hc⟩ := h
  have HC := Lib.hid hc
  have HT := Lib.hid hT
  have hc63 : c ≤ 9223372036854775807 := by unfold maxLen at hcm; omega
  clear hc hT
  go_enter Try.func160, Try.ntmps160
  go_wp2
  go_loopw [1, 11] (fun v i wr => ∃ k : Nat, k ≤ n ∧ i = .int .i64 k ∧ v = .int .u32 (overN r (natsOf (xs.take k))) ∧ Below w.heap.size w wr) (fun _ i _ => n - (intOf i).toNat)
  case atStart => exact ⟨0, Nat.zero_le _, rfl, by simp [natsOf, overN], Below.refl _ _⟩
  case round =>
    obtain ⟨k, hk, rfl, rfl, hB⟩ := hrel
    by_cases hlt : k < n
    · obtain ⟨b, off, rfl, hbl, hcells⟩ := HC.out (by omega)
      obtain ⟨x, hx⟩ : ∃ x, xs[k]? = some x := ⟨_, List.getElem?_eq_getElem (by omega)⟩
      have hxb := hb x (List.mem_of_getElem? hx)
      obtain ⟨y, rfl⟩ : ∃ y : Nat, x = y := ⟨x.toNat, by omega⟩
      have hy : y < 256 := by omega
      have ex : wr.cell? ⟨b, off + k, none⟩ = some (.int .u8 (y : Int)) := (hB.cell (p := ⟨b, off + k, none⟩) hbl).trans (hcells k y hx)
      have KT := Lib.hid ((Keeps.of_below (S := []) hB).blk HT.out.lt (by simp) HT.out)
      have HX := Lib.hid hx
      have HB := Lib.hid hB
      have hR := overN_lt r (natsOf (xs.take k)) hr (natsOf_lt (hb.take k))
      have hsz : (Try.prog.info? 83).map (·.size) = some tabV.size := by rw [tabV_size]; exact size_table
      have HSZ := Lib.hid hsz
      obtain ⟨R, hRe⟩ : ∃ R, overN r (natsOf (xs.take k)) = R := ⟨_, rfl⟩
      rw [hRe] at hR ⊢
      have HRe := Lib.hid hRe
      clear hB hx hcells hsz hRe
      go_wp2_with (refine wpList_load_blk rfl 83 (.tmp 16) rfl tb 0 rfl KT.out tabV (row_whole tabV) _ Try.underlying83 rfl HSZ.out ?_)
      refine (crc_step wr R y hR hy).mono ?_
      rintro e w' ⟨rfl, hb2⟩
      have B2 := Lib.hid (HB.out.trans (hb2.mono HB.out.size))
      clear hb2
      go_wp2
      go_roundw
      case rel => exact ⟨k + 1, by omega, by simp, by rw [natsOf_snoc _ _ _ HX.out, overN_snoc, HRe.out]; rfl, B2.out⟩
      case measure => simp [intOf]; omega
    · obtain rfl : k = n := by omega
      rw [List.take_of_length_le (by omega)]
      have HB := Lib.hid hB
      clear hB
      go_wp2
      go_ret
      exact ⟨rfl, HB.out⟩
def sumN (xs : List Int) : Nat := overN 4294967295 (natsOf xs) ^^^ 4294967295
theorem sumN_lt {xs : List Int} (h : Byt xs) : sumN xs < 4294967296 := Nat.xor_lt_two_pow (n := 32) (overN_lt _ _ (by omega) (natsOf_lt h)) (by omega)
theorem crc_sum (w : World) (A : Option Addr) (n c : Nat) (xs : List Int) (h : BysAt w A n c xs) (h1000 : n ≤ 1000) :
    Calls Try.prog 145 #[.agg tabV, .slice A n c] w fun e w' => e = .returned (.int .u32 (sumN xs)) ∧ Below w.heap.size w w' := by
  obtain ⟨V, hV⟩ : ∃ V, w.alloc (.cells tabV 83) = V := ⟨_, rfl⟩
  have b0 : Below w.heap.size w V := by rw [← hV]; exact below_box _ _
  have k0 : Blk V w.heap.size 83 tabV := by rw [← hV]; exact Blk.newAt rfl
  have HB := Lib.hid b0
  have K0 := Lib.hid k0
  have H0 := Lib.hid (h.grow b0)
  have hx : bits .xor .u32 (overN 4294967295 (natsOf xs) : Int) 4294967295 = (sumN xs : Int) := u32_xor_nat _ 4294967295 (overN_lt _ _ (by omega) (natsOf_lt h.2.2.2.1)) (by omega)
  clear b0 k0
  go_enter Try.func145, Try.ntmps145
  go_wp2_with fail
  clear hV
  refine (crc_over V w.heap.size K0.out 4294967295 (by omega) A n c xs H0.out h1000).mono ?_
  rintro e w' ⟨rfl, hb2⟩
  have B2 := Lib.hid (HB.out.trans (hb2.mono HB.out.size))
  clear hb2
  go_wp2
  go_ret
  exact ⟨by rfl, B2.out⟩
end Go.Proofs.Ytcgafnmpfdkfoaa
