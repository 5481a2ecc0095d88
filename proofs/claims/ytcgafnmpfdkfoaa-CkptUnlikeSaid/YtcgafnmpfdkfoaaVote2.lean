/- Layer 13: ckpt.Holders; the anchor. -/
import Derived.Test.YtcgafnmpfdkfoaaVote1
import Derived.Test.YtcgafnmpfdkfoaaSort
import Derived.Test.YtcgafnmpfdkfoaaCodec
namespace Go.Proofs.Ytcgafnmpfdkfoaa
open Go.RowKit

def held (cs : List Cp) (gen : Int) : List Int := (cs.filter fun c => decide (c.g = gen)).map Cp.z
theorem held_snoc (cs : List Cp) (k : Nat) (x : Cp) (gen : Int) (h : cs[k]? = some x) : held (cs.take (k + 1)) gen = held (cs.take k) gen ++ (if x.g = gen then [x.z] else []) := by
  unfold held
  rw [List.take_add_one, h, List.filter_append, List.map_append]
  by_cases hg : x.g = gen <;> simp [hg]
theorem held_length (cs : List Cp) (gen : Int) : (held cs gen).length ≤ cs.length := by
  unfold held
  rw [List.length_map]
  exact List.length_filter_le _ _
theorem ints_one (xs : List Int) : ∀ u ∈ nums xs, u.oneCell' = true := by
  intro u hu
  obtain ⟨x, _, rfl⟩ := List.mem_map.1 hu
  rfl
def HoldPost (w : World) (cs : List Cp) (gen : Int) (r : Ending) (w' : World) : Prop :=
  ∃ v, r = .returned v ∧ w'.ownsRow w.heap.size 3 1 v (held cs gen).length (nums (sorted (held cs gen))) ∧ Below w.heap.size w w'
set_option maxRecDepth 100000 in
set_option maxHeartbeats 1000000 in
theorem ckpt_holders (w : World) (A : Option Addr) (n c : Nat) (cs : List Cp) (h : CpsAt w A n c cs) (h60 : n ≤ 1000) (gen : Int) :
    Calls Try.prog 54 #[.slice A n c, .int .i64 gen] w (HoldPost w cs gen) := by
  obtain ⟨hl, hnc, hcm, hc⟩ := h
  have HC := Lib.hid hc
  have hc63 : c ≤ 9223372036854775807 := by unfold maxLen at hcm; omega
  clear hc hcm
  go_enter Try.func54, Try.ntmps54
  go_wp2
  go_loopw [5, 10] (fun v i wr => ∃ k : Nat, k ≤ n ∧ i = .int .i64 k ∧ wr.ownsRow w.heap.size 3 1 v (held (cs.take k) gen).length (nums (held (cs.take k) gen)) ∧ Below w.heap.size w wr) (fun _ i _ => n - (intOf i).toNat)
  case atStart => exact ⟨0, Nat.zero_le _, rfl, ⟨by simp [held, nums], .inl ⟨rfl, by simp [held]⟩⟩, Below.refl _ _⟩
  case round =>
    obtain ⟨k, hkn, rfl, hown, hB⟩ := hrel
    have HB := Lib.hid hB
    have HO := Lib.hid hown
    by_cases hlt : k < n
    · obtain ⟨b, rfl, hbl, hcells⟩ := HC.out (by omega)
      obtain ⟨x, hx⟩ : ∃ x, cs[k]? = some x := ⟨_, List.getElem?_eq_getElem (by omega)⟩
      have hbr : b < wr.heap.size := Nat.lt_of_lt_of_le hbl hB.size
      have hcell : ∀ o, wr.cell? ⟨b, o, none⟩ = w.cell? ⟨b, o, none⟩ := fun o => hB.cell (p := ⟨b, o, none⟩) hbl
      obtain ⟨e0, e1, e2, e3, e4⟩ := hcells k x hx
      rw [← hcell] at e0 e1 e2 e3 e4
      have HX := Lib.hid hx
      obtain ⟨V, hV⟩ : ∃ V, wr.alloc x.box = V := ⟨_, rfl⟩
      have b1 : Below wr.heap.size wr V := by rw [← hV]; exact below_box _ _
      have kx : Blk V wr.heap.size 93 x.arr := by rw [← hV]; exact Blk.newAt rfl
      have x0 : V.cell? ⟨wr.heap.size, 0, none⟩ = some (.int .i64 x.z) := by rw [kx.cell]; rfl
      have x1 : V.cell? ⟨wr.heap.size, 1, none⟩ = some (.int .i64 x.g) := by rw [kx.cell]; rfl
      have xl := kx.lt
      have HV := Lib.hid hV
      have B1 := Lib.hid (HB.out.trans (b1.mono HB.out.size))
      have O1 := Lib.hid (own_grow' hown b1)
      clear hB hown hcell hcells hx b1 kx hV
      by_cases hg : x.g = gen
      · obtain ⟨i0, hi, hz0, hz1, hz2⟩ := info_parts info_int
        have hlen : (held (cs.take k) gen).length ≤ 1000 := by have := held_length (cs.take k) gen; rw [List.length_take] at this; omega
        obtain ⟨V2, hV2⟩ : ∃ V2, V.alloc (.cells #[.int .i64 x.z] 3) = V2 := ⟨_, rfl⟩
        have b2 : Below V.heap.size V V2 := by rw [← hV2]; exact below_box _ _
        have O2 := Lib.hid (own_grow' O1.out b2)
        have B2 := Lib.hid (B1.out.trans (b2.mono B1.out.size))
        have X2 : Hid (∀ j u, (nums [x.z])[j]? = some u → V2.cell? ((⟨wr.heap.size + 1, 0, none⟩ : Addr).add j) = some u) := Lib.hid fun j u hu => by
          rw [show wr.heap.size + 1 = V.heap.size by rw [← HV.out]; simp, Addr.add_nat_zero, ← hV2, cell_of_row _ _ j _ _ (0, 0) (heap_alloc_new V _)]
          simpa [nums] using hu
        have hs2 : V2.heap.size = V.heap.size + 1 := by rw [← hV2]; simp
        have S2 := Lib.hid (And.intro hs2 B1.out.size)
        have hV' : wr.alloc (.cells #[.int .i64 x.z, .int .i64 gen, .int .i64 0, .int .i64 0, .pointer none] 93) = V := by rw [← HV.out, ← hg]
        have HV' := Lib.hid hV'
        have HV2 := Lib.hid hV2
        clear b2 hs2 hV' hV2
        go_wp2_with (at_builtin; refine Hid.out ?_)
        rw [HV'.out, HV2.out]
        refine Lib.hid ?_
        refine wpList_append_own _ rfl _ _ 73 rfl w.heap.size 3 i0 (.int .i64 0) 1 8 Try.underlying73 hi hz0 hz1 hz2 rfl (by omega) u5 (held (cs.take k) gen).length (nums (held (cs.take k) gen)) rfl O2.out ⟨wr.heap.size + 1, 0, none⟩ 1 1 (nums [x.z]) rfl rfl X2.out (ints_one _) (by unfold maxLen; omega) (by omega) (by have := S2.out; omega) ?_
        intro v' w10 hown' hgrow hnil
        have B10 := Lib.hid (B2.out.grown hgrow B2.out.size (fun j ej => (World.ownsRow.lt O2.out j ej).1))
        have O10 : Hid (w10.ownsRow w.heap.size 3 1 v' (held (cs.take (k + 1)) gen).length (nums (held (cs.take (k + 1)) gen))) := Lib.hid (by
          rw [held_snoc _ _ _ _ HX.out, if_pos hg, List.length_append]
          have : nums (held (cs.take k) gen ++ [x.z]) = nums (held (cs.take k) gen) ++ nums [x.z] := by simp [nums]
          rw [this]
          exact hown')
        clear hown' hgrow hnil
        go_wp2
        go_roundw
        case rel => exact ⟨k + 1, by omega, by simp, O10.out, B10.out⟩
        case measure => simp [intOf]; omega
      · have O10 : Hid (V.ownsRow w.heap.size 3 1 u5 (held (cs.take (k + 1)) gen).length (nums (held (cs.take (k + 1)) gen))) := Lib.hid (by
          rw [held_snoc _ _ _ _ HX.out, if_neg hg, List.append_nil]
          exact O1.out)
        go_wp2
        go_roundw
        case rel => exact ⟨k + 1, by omega, by simp, HV.out ▸ O10.out, HV.out ▸ B1.out⟩
        case measure => simp [intOf]; omega
    · obtain rfl : k = n := by omega
      have hfull : cs.take k = cs := List.take_of_length_le (by omega)
      rw [hfull] at HO
      clear hB hown
      go_wp2_with fail
      refine (sort_own wr w.heap.size u5 _ (held cs gen) HO.out rfl (by have := held_length cs gen; omega)).mono ?_
      rintro e w9 ⟨rfl, hown9, hg9⟩
      have O9 := Lib.hid hown9
      have B9 := Lib.hid (HB.out.grown hg9 HB.out.size (fun j ej => (World.ownsRow.lt HO.out j ej).1))
      clear hown9 hg9
      go_wp2
      go_ret
      exact ⟨u5, rfl, O9.out, B9.out⟩
theorem anchor13 (w : World) : Calls Try.prog 49 #[] w fun r w' => r = .returned (.bool true) ∧ Below w.heap.size w w' := by
  obtain ⟨V, hV⟩ : ∃ V, w.alloc (.cells #[.int .i64 1, .int .i64 3, .int .i64 0, .int .i64 0, .pointer none, .int .i64 9, .int .i64 4, .int .i64 0, .int .i64 0, .pointer none] 93) = V := ⟨_, rfl⟩
  have b0 : Below w.heap.size w V := by rw [← hV]; exact below_box _ _
  have k0 : Blk V w.heap.size 93 #[.int .i64 1, .int .i64 3, .int .i64 0, .int .i64 0, .pointer none, .int .i64 9, .int .i64 4, .int .i64 0, .int .i64 0, .pointer none] := by rw [← hV]; exact Blk.newAt rfl
  have hC : CpsAt V (some ⟨w.heap.size, 0, none⟩) 2 2 [⟨1, 3⟩, ⟨9, 4⟩] := by
    refine ⟨rfl, Nat.le_refl _, by unfold maxLen; omega, fun _ => ⟨_, rfl, k0.lt, fun k x hx => ?_⟩⟩
    match k, hx with
    | 0, hx => cases hx; exact ⟨by rw [k0.cell]; rfl, by rw [k0.cell]; rfl, by rw [k0.cell]; rfl, by rw [k0.cell]; rfl, by rw [k0.cell]; rfl⟩
    | 1, hx => cases hx; exact ⟨by rw [k0.cell]; rfl, by rw [k0.cell]; rfl, by rw [k0.cell]; rfl, by rw [k0.cell]; rfl, by rw [k0.cell]; rfl⟩
  have HB := Lib.hid b0
  have HC := Lib.hid hC
  clear b0 k0 hC
  go_enter Try.func49, Try.ntmps49
  go_wp2_with fail
  clear hV
  refine (ckpt_vote V _ _ _ _ HC.out (by omega) (by omega)).mono ?_
  rintro r w1 ⟨⟨m, hm, rfl⟩, hb1⟩
  have hm9 : m = ⟨9, 4⟩ := by
    obtain ⟨⟨j, hj, hjm⟩, hall⟩ := hm
    have h1 := hall 1 ⟨9, 4⟩ (by omega) rfl
    match j, hj, hjm with
    | 0, _, hjm => cases hjm; exact (h1 (by unfold Cp.better; simp)).elim
    | 1, _, hjm => cases hjm; rfl
  subst hm9
  have B1 := Lib.hid (HB.out.trans (hb1.mono HB.out.size))
  clear hb1 hm
  go_wp2
  go_ret
  exact ⟨rfl, B1.out.alloc B1.out.size _⟩
end Go.Proofs.Ytcgafnmpfdkfoaa
