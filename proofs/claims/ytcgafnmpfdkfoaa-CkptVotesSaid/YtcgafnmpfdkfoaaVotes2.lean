/- Law CkptVotes: the walk. -/
import Derived.Test.YtcgafnmpfdkfoaaVotes
namespace Go.Proofs.Ytcgafnmpfdkfoaa
open Go.RowKit

set_option maxRecDepth 100000 in
set_option maxHeartbeats 4000000 in
theorem votes_walk (w : World) (A : Option Addr) (n c : Nat) (gs : List Int) (hG : NumsAt w A n c gs) (A' : Option Addr) (n' c' : Nat) (zs : List Int) (hZ : NumsAt w A' n' c' zs) (gen : Int) :
    Calls Try.prog 13 #[.slice A n c, .slice A' n' c', .int .i64 gen] w fun r w' => r = .returned (.bool true) ∧ Below w.heap.size w w' := by
  have HG := Lib.hid hG
  have HZ := Lib.hid hZ
  have hcg : n ≤ c ∧ c ≤ 9223372036854775807 := by obtain ⟨_, h2, h3, _⟩ := hG; unfold maxLen at h3; omega
  have hcz : n' ≤ c' ∧ c' ≤ 9223372036854775807 := by obtain ⟨_, h2, h3, _⟩ := hZ; unfold maxLen at h3; omega
  obtain ⟨hcg1, hcg2⟩ := hcg
  obtain ⟨hcz1, hcz2⟩ := hcz
  clear hG hZ
  go_enter Try.func13, Try.ntmps13
  go_wp2_with fail
  refine (anchor13 w).mono ?_
  rintro r w1 ⟨rfl, hb1⟩
  have U1 := Lib.hid hb1
  clear hb1
  by_cases h60 : 60 < n
  · go_wp2
    go_ret
    exact ⟨rfl, U1.out⟩
  by_cases h60' : 60 < n'
  · go_wp2
    go_ret
    exact ⟨rfl, U1.out⟩
  have HG1 := Lib.hid (HG.out.grow U1.out)
  have HZ1 := Lib.hid (HZ.out.grow U1.out)
  have hlg := HG1.out.1
  have hlz := HZ1.out.1
  obtain ⟨cs, hcs⟩ : ∃ cs : List Cp, Hid (List.zipWith (fun z g => Cp.mk z g) zs gs = cs) := ⟨_, Lib.hid rfl⟩
  have hlen : cs.length = min n' n := by rw [← hcs.out, List.length_zipWith, hlz, hlg]
  have HCS : Hid (∀ (k : Nat) (z g : Int), zs[k]? = some z → gs[k]? = some g → cs[k]? = some ⟨z, g⟩) := Lib.hid fun k z g hz hg => by rw [← hcs.out, List.getElem?_zipWith, hz, hg]
  clear hcs HG HZ
  obtain ⟨m, hm⟩ : ∃ m : Nat, (m = n ∧ n ≤ n') ∨ (m = n' ∧ n' < n) := by
    by_cases h : n ≤ n'
    · exact ⟨n, .inl ⟨rfl, h⟩⟩
    · exact ⟨n', .inr ⟨rfl, by omega⟩⟩
  have hmn : m ≤ n ∧ m ≤ n' ∧ m ≤ 60 ∧ cs.length = m := by omega
  have HM := Lib.hid hmn
  obtain ⟨hm1, hm2, hm3, hm4⟩ := hmn
  have hmin : ∀ W : World, (Builtin.min_ #[3, 3] 3 #[.int .i64 n, .int .i64 n']).run Try.prog W = .ok (.int .i64 m) W := by
    intro W
    have e : (if (n' : Int) < (n : Int) then (n' : Int) else (n : Int)) = (m : Int) := by split <;> omega
    show Sem.run Try.prog (pure (Value.int .i64 (if (n' : Int) < (n : Int) then (n' : Int) else (n : Int)))) W = _
    rw [e]
    rfl
  clear hm
  go_wp2
  clear hmin
  go_loopw [7, 37] (fun v i wr => ∃ k : Nat, k ≤ m ∧ i = .int .i64 k ∧ wr.ownsRow w1.heap.size 93 5 v k (flatC (cs.take k)) ∧ Below w1.heap.size w1 wr) (fun _ i _ => m - (intOf i).toNat)
  case atStart => exact ⟨0, Nat.zero_le _, rfl, ⟨by simp [flatC], .inl ⟨rfl, rfl⟩⟩, Below.refl _ _⟩
  case round =>
    obtain ⟨k, hk, rfl, hown, hB⟩ := hrel
    have HB := Lib.hid hB
    have HO := Lib.hid hown
    by_cases hlt : k < m
    · obtain ⟨b, off, rfl, hbl, hg⟩ := HG1.out.2.2.2 (by omega)
      obtain ⟨b', off', rfl, hbl', hz⟩ := HZ1.out.2.2.2 (by omega)
      obtain ⟨x, hx⟩ : ∃ x, gs[k]? = some x := ⟨_, List.getElem?_eq_getElem (by omega)⟩
      obtain ⟨y, hy⟩ : ∃ y, zs[k]? = some y := ⟨_, List.getElem?_eq_getElem (by omega)⟩
      have hC := HCS.out k y x hy hx
      have hbr : b < wr.heap.size := Nat.lt_of_lt_of_le hbl hB.size
      have hbr' : b' < wr.heap.size := Nat.lt_of_lt_of_le hbl' hB.size
      have c0 : wr.cell? ⟨b, off + k, none⟩ = some (.int .i64 x) := (hB.cell (p := ⟨b, off + k, none⟩) hbl).trans (hg k x hx)
      have c1 : wr.cell? ⟨b', off' + k, none⟩ = some (.int .i64 y) := (hB.cell (p := ⟨b', off' + k, none⟩) hbl').trans (hz k y hy)
      have hk0 : (0 : Int) ≤ (k : Int) := by omega
      have hkn : (k : Int) < (n : Int) := by omega
      have hkn' : (k : Int) < (n' : Int) := by omega
      obtain ⟨i0, hi, hz0, hz1, hz2⟩ := info_parts info_copy
      have HK : Hid (∀ W, Below wr.heap.size wr W → W.cell? ⟨b, off + k, none⟩ = some (.int .i64 x) ∧ W.cell? ⟨b', off' + k, none⟩ = some (.int .i64 y)) := Lib.hid fun W hk => ⟨(hk.cell (p := ⟨b, off + k, none⟩) hbr).trans c0, (hk.cell (p := ⟨b', off' + k, none⟩) hbr').trans c1⟩
      have HK2 : Hid (∀ W' : World, (wr.alloc (.cells #[.int .i64 y, .int .i64 x, .int .i64 0, .int .i64 0, .pointer none] 93)).drew.grownBy W' u7.ownBlock → W'.cell? ⟨b, off + k, none⟩ = some (.int .i64 x) ∧ W'.cell? ⟨b', off' + k, none⟩ = some (.int .i64 y)) := Lib.hid fun W' hgrow => by
        have h := HK.out _ (below_drew (below_box wr (.cells #[.int .i64 y, .int .i64 x, .int .i64 0, .int .i64 0, .pointer none] 93)))
        have hs : (wr.alloc (.cells #[.int .i64 y, .int .i64 x, .int .i64 0, .int .i64 0, .pointer none] 93)).drew.heap.size = wr.heap.size + 1 := by simp
        exact ⟨(hgrow.cell_far ⟨b, off + k, none⟩ (by rw [hs]; show b < _; omega) (fun e => by have := (World.ownsRow.lt HO.out b e.symm).1; omega)).trans h.1, (hgrow.cell_far ⟨b', off' + k, none⟩ (by rw [hs]; show b' < _; omega) (fun e => by have := (World.ownsRow.lt HO.out b' e.symm).1; omega)).trans h.2⟩
      have HC := Lib.hid hC
      clear hB hown hg hz hx hy hC
      go_wp2_with fail
      go_region_held3 (fun w' => w'.cell? ⟨b, off + k, none⟩ = some (.int .i64 x) ∧ w'.cell? ⟨b', off' + k, none⟩ = some (.int .i64 y))
        (first | (go_keep; done) | exact HK2.out _ hgrow)
        ((refine step_append_lies _ (by rfl) _ _ _ (by rfl) w1.heap.size 93 i0 (.agg #[.int .i64 0, .int .i64 0, .int .i64 0, .int .i64 0, .pointer none]) 5 40 Try.underlying91 hi hz0 hz1 hz2 rfl (by omega) u7 k (flatC (cs.take k)) (by rfl) ((HO.out.alloc _).drew) ⟨wr.heap.size, 0, none⟩ 1 1 (cpC ⟨y, x⟩) (by rfl) (by rfl) (World.news_of_block (cs := #[.int .i64 y, .int .i64 x, .int .i64 0, .int .i64 0, .pointer none]) (t := 93) (fr := (0, 0)) (heap_alloc_new wr _)) (by simp [cpC, Value.oneCell']) (by omega) (by unfold maxLen; omega) (by omega) (by have := HB.out.size; simp; omega) (wr.heap.size + 1) (by simp) ?_; intro g10 c10 w10 hown' hgrow hat hlt10))
      have hBV : Below w1.heap.size w1 (wr.alloc (.cells #[.int .i64 y, .int .i64 x, .int .i64 0, .int .i64 0, .pointer none] 93)).drew := (HB.out.trans ((below_drew (below_box wr (.cells #[.int .i64 y, .int .i64 x, .int .i64 0, .int .i64 0, .pointer none] 93))).mono HB.out.size))
      have B10 := Lib.hid (hBV.grown hgrow hBV.size (fun j ej => (World.ownsRow.lt HO.out j ej).1))
      have O10 : Hid (w10.ownsRow w1.heap.size 93 5 (.slice (some ⟨g10, 0, none⟩) (k + 1) c10) (k + 1) (flatC (cs.take (k + 1)))) := Lib.hid (by rw [flatC_snoc _ _ _ HC.out]; exact hown')
      clear hown' hgrow hat hlt10 hBV c0 c1 HK HK2
      go_wp2
      go_roundw
      case rel => exact ⟨k + 1, by omega, by simp, O10.out, B10.out⟩
      case measure => simp [intOf]; omega
    · obtain rfl : k = m := by omega
      have hfull : cs.take k = cs := List.take_of_length_le (by omega)
      rw [hfull] at HO
      obtain ⟨A2, c2, rfl, hcps⟩ := cps_of_own HO.out hm4
      have C1 := Lib.hid hcps
      have U2 := Lib.hid (U1.out.trans (HB.out.mono U1.out.size))
      have hc2 : k ≤ c2 ∧ c2 ≤ 9223372036854775807 := by obtain ⟨_, h2, h3, _⟩ := hcps; unfold maxLen at h3; omega
      obtain ⟨hc21, hc22⟩ := hc2
      clear hB hown hcps
      rcases Nat.eq_zero_or_pos k with h0 | h0
      · obtain rfl := h0
        go_wp2_with fail
        refine (ckpt_vote_none wr A2 c2).mono ?_
        rintro r w3 ⟨rfl, hb3⟩
        have C3 := Lib.hid ((C1.out.grow hb3).grow (below_box w3 (.cells #[.int .i64 0, .int .i64 0, .int .i64 0, .int .i64 0, .pointer none] 93)))
        have U3 := Lib.hid ((U2.out.trans (hb3.mono U2.out.size)).alloc (Nat.le_trans U2.out.size hb3.size) (.cells #[.int .i64 0, .int .i64 0, .int .i64 0, .int .i64 0, .pointer none] 93))
        clear hb3
        go_wp2_with fail
        refine (ckpt_holders _ A2 0 c2 cs C3.out (by omega) gen).mono ?_
        rintro r w4 ⟨v, rfl, hown4, hb4⟩
        have hh : (held cs gen).length = 0 := by have := held_length cs gen; omega
        rw [hh] at hown4
        have hv : ∃ A4 c4, v = .slice A4 0 c4 := by
          rcases hown4.2 with ⟨rfl, _⟩ | ⟨g, c4, _, rfl, _⟩
          · exact ⟨_, _, rfl⟩
          · exact ⟨_, _, rfl⟩
        obtain ⟨A4, c4, rfl⟩ := hv
        have U4 := Lib.hid (U3.out.trans (hb4.mono U3.out.size))
        clear hown4 hb4
        go_wp2
        go_ret
        exact ⟨rfl, U4.out⟩
      · have h00 : ¬ (k = 0) := by omega
        go_wp2_with fail
        refine (ckpt_vote wr A2 k c2 cs C1.out h0 (by omega)).mono ?_
        rintro r w3 ⟨⟨bb, hbest, rfl⟩, hb3⟩
        obtain ⟨V3, hV3⟩ : ∃ V, w3.alloc bb.box = V := ⟨_, rfl⟩
        have b3 : Below w3.heap.size w3 V3 := by rw [← hV3]; exact below_box _ _
        have K3 : Hid (Blk V3 w3.heap.size 93 bb.arr) := Lib.hid (by rw [← hV3]; exact Blk.newAt rfl)
        have C3 := Lib.hid (C1.out.grow (hb3.trans (b3.mono hb3.size)))
        have U3 := Lib.hid (U2.out.trans ((hb3.trans (b3.mono hb3.size)).mono U2.out.size))
        have HV3 := Lib.hid hV3
        have HBest := Lib.hid hbest
        clear hb3 b3 hV3 hbest
        go_wp2
        rw [HV3.out]
        go_loopw [11, 12, 73] (fun t q i wr => ∃ j : Nat, j ≤ k ∧ i = .int .i64 j ∧ (∃ tb : Bool, t = .bool tb ∧ (tb = true ↔ ∃ (a : Nat) (x : Cp), a < j ∧ cs[a]? = some x ∧ x.g = bb.g ∧ x.z = bb.z)) ∧ q = .int .i64 (held (cs.take j) gen).length ∧ Below V3.heap.size V3 wr) (fun _ _ i _ => k - (intOf i).toNat)
        case atStart => exact ⟨0, Nat.zero_le _, rfl, ⟨false, rfl, by simp⟩, by simp [held], Below.refl _ _⟩
        case round =>
          obtain ⟨j, hj, rfl, ⟨tb, rfl, htb⟩, rfl, hB⟩ := hrel
          have HB2 := Lib.hid hB
          have HT := Lib.hid htb
          clear htb
          by_cases hlt2 : j < k
          · obtain ⟨b, rfl, hbl, hcells⟩ := C3.out.2.2.2 h0
            obtain ⟨x, hx⟩ : ∃ x, cs[j]? = some x := ⟨_, List.getElem?_eq_getElem (by omega)⟩
            have hbr : b < wr.heap.size := Nat.lt_of_lt_of_le hbl hB.size
            have hcell : ∀ o, wr.cell? ⟨b, o, none⟩ = V3.cell? ⟨b, o, none⟩ := fun o => hB.cell (p := ⟨b, o, none⟩) hbl
            obtain ⟨e0, e1, e2, e3, e4⟩ := hcells j x hx
            rw [← hcell] at e0 e1 e2 e3 e4
            have k3 := (Keeps.of_below (S := []) hB).blk K3.out.lt (by simp) K3.out
            have m0 : wr.cell? ⟨w3.heap.size, 0, none⟩ = some (.int .i64 bb.z) := by rw [k3.cell]; rfl
            have m1 : wr.cell? ⟨w3.heap.size, 1, none⟩ = some (.int .i64 bb.g) := by rw [k3.cell]; rfl
            have ml := k3.lt
            have hnb := HBest.out.2 j x hlt2 hx
            have hn1 : ¬ bb.g < x.g := fun h => hnb (.inl h)
            have HX := Lib.hid hx
            have hq : (held (cs.take j) gen).length ≤ 1000 := by have := held_length (cs.take j) gen; rw [List.length_take] at this; omega
            have HSN := Lib.hid (held_snoc cs j x gen hx)
            have B3 := Lib.hid (HB2.out.alloc HB2.out.size x.box)
            have hstep : Hid (∀ tb' : Bool, (tb' = true ↔ tb = true ∨ (x.g = bb.g ∧ x.z = bb.z)) → (tb' = true ↔ ∃ (a : Nat) (y : Cp), a < j + 1 ∧ cs[a]? = some y ∧ y.g = bb.g ∧ y.z = bb.z)) := Lib.hid fun tb' h => by
              rw [h, HT.out]
              constructor
              · rintro (⟨a, y, ha, hy, h1, h2⟩ | ⟨h1, h2⟩)
                · exact ⟨a, y, by omega, hy, h1, h2⟩
                · exact ⟨j, x, by omega, HX.out, h1, h2⟩
              · rintro ⟨a, y, ha, hy, h1, h2⟩
                by_cases e : a = j
                · subst e; rw [HX.out] at hy; cases hy; exact .inr ⟨h1, h2⟩
                · exact .inl ⟨a, y, by omega, hy, h1, h2⟩
            clear hB hcell hcells hx k3 hnb
            have hq63 : ((held (cs.take j) gen).length : Int) ≤ 1000 := by omega
            obtain ⟨b4, hb4⟩ : ∃ b, (x.g == gen) = b := ⟨_, rfl⟩
            obtain ⟨b1, hb1⟩ : ∃ b, (x.g == bb.g) = b := ⟨_, rfl⟩
            obtain ⟨b3, hb3⟩ : ∃ b, (x.z == bb.z) = b := ⟨_, rfl⟩
            have hd1 : decide (bb.g < x.g) = false := by simpa using hn1
            have H134 := Lib.hid (And.intro hb4 (And.intro hb1 hb3))
            have hend : Hid (∀ (W : World) (tb' : Bool), Below V3.heap.size V3 W → tb' = (tb || (b1 && b3)) → ∃ j' : Nat, j' ≤ k ∧ Value.int .i64 ((j : Int) + 1) = .int .i64 j' ∧ (∃ t : Bool, Value.bool tb' = .bool t ∧ (t = true ↔ ∃ (a : Nat) (y : Cp), a < j' ∧ cs[a]? = some y ∧ y.g = bb.g ∧ y.z = bb.z)) ∧ Value.int .i64 (((held (cs.take j) gen).length : Int) + (if b4 then 1 else 0)) = .int .i64 (held (cs.take j') gen).length ∧ Below V3.heap.size V3 W) := Lib.hid fun W tb' hW ht => by
              refine ⟨j + 1, by omega, by simp, ⟨tb', rfl, hstep.out tb' ?_⟩, ?_, hW⟩
              · rw [ht, ← H134.out.2.1, ← H134.out.2.2]; simp
              · rw [HSN.out, ← H134.out.1]
                by_cases e : x.g = gen
                · rw [if_pos (by simpa using e), if_pos e]; simp
                · rw [if_neg (by simpa using e), if_neg e]; simp
            clear hn1
            have hd2 : b1 = true → decide (x.z < bb.z) = false := fun h => by
              have e : x.g = bb.g := by have := H134.out.2.1; rw [h] at this; simpa using this
              exact decide_eq_false (fun hlt => HBest.out.2 j x hlt2 HX.out (.inr ⟨e, hlt⟩))
            cases b1
            · clear hd2
              cases tb
              · cases b4
                · go_wp2
                  go_roundw
                  case rel => have := hend.out (wr.alloc x.box) false (HB2.out.alloc HB2.out.size _) rfl; simpa using this
                  case measure => simp [intOf]; omega
                · go_wp2
                  go_roundw
                  case rel => have := hend.out (wr.alloc x.box) false (HB2.out.alloc HB2.out.size _) rfl; simpa using this
                  case measure => simp [intOf]; omega
              · cases b4
                · go_wp2
                  go_roundw
                  case rel => have := hend.out (wr.alloc x.box) true (HB2.out.alloc HB2.out.size _) rfl; simpa using this
                  case measure => simp [intOf]; omega
                · go_wp2
                  go_roundw
                  case rel => have := hend.out (wr.alloc x.box) true (HB2.out.alloc HB2.out.size _) rfl; simpa using this
                  case measure => simp [intOf]; omega
            · have hd3 := hd2 rfl
              clear hd2
              cases b3
              · cases tb
                · cases b4
                  · go_wp2
                    go_roundw
                    case rel => have := hend.out (wr.alloc x.box) false (HB2.out.alloc HB2.out.size _) rfl; simpa using this
                    case measure => simp [intOf]; omega
                  · go_wp2
                    go_roundw
                    case rel => have := hend.out (wr.alloc x.box) false (HB2.out.alloc HB2.out.size _) rfl; simpa using this
                    case measure => simp [intOf]; omega
                · cases b4
                  · go_wp2
                    go_roundw
                    case rel => have := hend.out (wr.alloc x.box) true (HB2.out.alloc HB2.out.size _) rfl; simpa using this
                    case measure => simp [intOf]; omega
                  · go_wp2
                    go_roundw
                    case rel => have := hend.out (wr.alloc x.box) true (HB2.out.alloc HB2.out.size _) rfl; simpa using this
                    case measure => simp [intOf]; omega
              · cases tb
                · cases b4
                  · go_wp2
                    go_roundw
                    case rel => have := hend.out (wr.alloc x.box) true (HB2.out.alloc HB2.out.size _) rfl; simpa using this
                    case measure => simp [intOf]; omega
                  · go_wp2
                    go_roundw
                    case rel => have := hend.out (wr.alloc x.box) true (HB2.out.alloc HB2.out.size _) rfl; simpa using this
                    case measure => simp [intOf]; omega
                · cases b4
                  · go_wp2
                    go_roundw
                    case rel => have := hend.out (wr.alloc x.box) true (HB2.out.alloc HB2.out.size _) rfl; simpa using this
                    case measure => simp [intOf]; omega
                  · go_wp2
                    go_roundw
                    case rel => have := hend.out (wr.alloc x.box) true (HB2.out.alloc HB2.out.size _) rfl; simpa using this
                    case measure => simp [intOf]; omega
          · obtain rfl : j = k := by omega
            have ht : tb = true := HT.out.2 (by
              obtain ⟨⟨a, ha, hx⟩, _⟩ := HBest.out
              exact ⟨a, bb, ha, hx, rfl, rfl⟩)
            subst ht
            rw [hfull]
            have C4 := Lib.hid (C3.out.grow hB)
            have U4 := Lib.hid (U3.out.trans (hB.mono U3.out.size))
            have hq : (held cs gen).length ≤ 1000 := by have := held_length cs gen; omega
            clear hB
            go_wp2_with fail
            refine (ckpt_holders wr A2 j c2 cs C4.out (by omega) gen).mono ?_
            rintro r w5 ⟨v5, rfl, hown5, hb5⟩
            obtain ⟨A5, c5, rfl, hnums⟩ := nums_of_own hown5 (sorted_length _)
            have C5 := Lib.hid (C4.out.grow hb5)
            have N5 := Lib.hid hnums
            have U5 := Lib.hid (U4.out.trans (hb5.mono U4.out.size))
            have hc5 : (held cs gen).length ≤ c5 ∧ c5 ≤ 9223372036854775807 := by obtain ⟨_, h2, h3, _⟩ := hnums; unfold maxLen at h3; omega
            obtain ⟨hc51, hc52⟩ := hc5
            obtain ⟨q, hq'⟩ : ∃ q, (held cs gen).length = q := ⟨_, rfl⟩
            rw [hq'] at N5 hc51 hq ⊢
            have HQ := Lib.hid hq'
            clear hown5 hb5 hnums hq'
            go_wp2
            go_loopw [130] (fun i wr => ∃ a : Nat, a ≤ q ∧ i = .int .i64 a ∧ Below w5.heap.size w5 wr) (fun i _ => q - (intOf i).toNat)
            case atStart => exact ⟨0, Nat.zero_le _, rfl, Below.refl _ _⟩
            case round =>
              obtain ⟨a, ha, rfl, hB⟩ := hrel
              have HB5 := Lib.hid hB
              by_cases hlt3 : a < q
              · obtain ⟨b5, off5, rfl, hbl5, hcells5⟩ := N5.out.2.2.2 (by omega)
                obtain ⟨z, hz⟩ : ∃ z, (sorted (held cs gen))[a]? = some z := ⟨_, List.getElem?_eq_getElem (by rw [sorted_length, HQ.out]; exact hlt3)⟩
                have ez : wr.cell? ⟨b5, off5 + a, none⟩ = some (.int .i64 z) := (hB.cell (p := ⟨b5, off5 + a, none⟩) hbl5).trans (hcells5 a z hz)
                have HZA := Lib.hid hz
                have hblr : b5 < wr.heap.size := Nat.lt_of_lt_of_le hbl5 hB.size
                have C6 := Lib.hid (C5.out.grow hB)
                clear hB hz
                obtain ⟨wq, rfl⟩ : ∃ wq : World, wq = wr := ⟨_, rfl⟩
                by_cases ha0 : a = 0
                · subst ha0
                  simp only [Nat.add_zero] at ez
                  go_wp2
                  go_loopw [19, 148] (fun t i wr' => ∃ e : Nat, e ≤ j ∧ i = .int .i64 e ∧ (∃ tb : Bool, t = .bool tb ∧ (tb = true ↔ ∃ (d : Nat) (x : Cp), d < e ∧ cs[d]? = some x ∧ x.z = z ∧ x.g = gen)) ∧ Below wq.heap.size wq wr') (fun _ i _ => j - (intOf i).toNat)
                  case atStart => exact ⟨0, Nat.zero_le _, rfl, ⟨false, rfl, by simp⟩, Below.refl _ _⟩
                  case round =>
                    obtain ⟨e, he, rfl, ⟨tb, rfl, htb⟩, hB⟩ := hrel
                    have HB6 := Lib.hid hB
                    have HT6 := Lib.hid htb
                    clear htb
                    by_cases hlt4 : e < j
                    · obtain ⟨b, rfl, hbl, hcells⟩ := C6.out.2.2.2 h0
                      obtain ⟨x, hx⟩ : ∃ x, cs[e]? = some x := ⟨_, List.getElem?_eq_getElem (by omega)⟩
                      have hbr : b < wr.heap.size := Nat.lt_of_lt_of_le hbl hB.size
                      obtain ⟨e0, e1, e2, e3, e4⟩ := hcells e x hx
                      replace e0 := (hB.cell (p := ⟨b, e * 5, none⟩) hbl).trans e0
                      replace e1 := (hB.cell (p := ⟨b, e * 5 + 1, none⟩) hbl).trans e1
                      replace e2 := (hB.cell (p := ⟨b, e * 5 + 2, none⟩) hbl).trans e2
                      replace e3 := (hB.cell (p := ⟨b, e * 5 + 3, none⟩) hbl).trans e3
                      replace e4 := (hB.cell (p := ⟨b, e * 5 + 4, none⟩) hbl).trans e4
                      obtain ⟨b1, hb1⟩ : ∃ b, (x.z == z) = b := ⟨_, rfl⟩
                      obtain ⟨b2, hb2⟩ : ∃ b, (x.g == gen) = b := ⟨_, rfl⟩
                      have H12 := Lib.hid (And.intro hb1 hb2)
                      have HX := Lib.hid hx
                      have hend2 : Hid (∀ (tb' : Bool), tb' = (tb || (b1 && b2)) → ∃ e' : Nat, e' ≤ j ∧ Value.int .i64 ((e : Int) + 1) = .int .i64 e' ∧ (∃ t : Bool, Value.bool tb' = .bool t ∧ (t = true ↔ ∃ (d : Nat) (x : Cp), d < e' ∧ cs[d]? = some x ∧ x.z = z ∧ x.g = gen)) ∧ Below wq.heap.size wq (wr.alloc x.box)) := Lib.hid fun tb' ht => by
                        refine ⟨e + 1, by omega, by simp, ⟨tb', rfl, ?_⟩, HB6.out.alloc HB6.out.size _⟩
                        rw [ht, ← H12.out.1, ← H12.out.2]
                        simp only [Bool.or_eq_true, HT6.out, Bool.and_eq_true, beq_iff_eq]
                        constructor
                        · rintro (⟨d, y, hd, hy, h1, h2⟩ | ⟨h1, h2⟩)
                          · exact ⟨d, y, by omega, hy, h1, h2⟩
                          · exact ⟨e, x, by omega, HX.out, h1, h2⟩
                        · rintro ⟨d, y, hd, hy, h1, h2⟩
                          by_cases e : d = e
                          · subst e; rw [HX.out] at hy; cases hy; exact .inr ⟨h1, h2⟩
                          · exact .inl ⟨d, y, by omega, hy, h1, h2⟩
                      clear hB hcells hx
                      cases tb
                      · cases b1
                        · go_wp2
                          go_roundw
                          case rel => have := hend2.out false rfl; simpa using this
                          case measure => simp [intOf]; omega
                        · cases b2
                          · go_wp2
                            go_roundw
                            case rel => have := hend2.out false rfl; simpa using this
                            case measure => simp [intOf]; omega
                          · go_wp2
                            go_roundw
                            case rel => have := hend2.out true rfl; simpa using this
                            case measure => simp [intOf]; omega
                      · go_wp2
                        go_roundw
                        case rel => have := hend2.out true rfl; simpa using this
                        case measure => simp [intOf]; omega
                    · obtain rfl : e = j := by omega
                      have ht : tb = true := HT6.out.2 (by
                        obtain ⟨d, x, h1, h2, h3⟩ := held_mem cs gen z ((sorted_mem _ _).1 (List.mem_of_getElem? HZA.out))
                        exact ⟨d, x, by have := (List.getElem?_eq_some_iff.1 h1).1; omega, h1, h2, h3⟩)
                      subst ht
                      have B7 := Lib.hid (HB5.out.trans (HB6.out.mono HB5.out.size))
                      clear hB
                      go_wp2
                      go_roundw
                      case rel => exact ⟨1, by omega, by simp, B7.out⟩
                      case measure => simp [intOf]; omega
                · obtain ⟨a1, ha1⟩ : ∃ a1 : Nat, (a : Int) - 1 = a1 := ⟨a - 1, by omega⟩
                  obtain ⟨y, hy⟩ : ∃ y, (sorted (held cs gen))[a1]? = some y := ⟨_, List.getElem?_eq_getElem (by rw [sorted_length, HQ.out]; omega)⟩
                  have ey : wq.cell? ⟨b5, off5 + a1, none⟩ = some (.int .i64 y) := (HB5.out.cell (p := ⟨b5, off5 + a1, none⟩) hbl5).trans (hcells5 a1 y hy)
                  have e1 : a1 + 1 = a := by omega
                  have hyz : y ≤ z := sorted_le (held cs gen) a1 y z hy (by rw [e1]; exact HZA.out)
                  clear e1
                  have ha2 : (a1 : Int) < (q : Int) := by omega
                  have ha3 : (0 : Int) ≤ (a1 : Int) := by omega
                  have ha4 : ¬ (a : Int) = 0 := by omega
                  clear hy
                  go_wp2
                  go_loopw [19, 148] (fun t i wr' => ∃ e : Nat, e ≤ j ∧ i = .int .i64 e ∧ (∃ tb : Bool, t = .bool tb ∧ (tb = true ↔ ∃ (d : Nat) (x : Cp), d < e ∧ cs[d]? = some x ∧ x.z = z ∧ x.g = gen)) ∧ Below wq.heap.size wq wr') (fun _ i _ => j - (intOf i).toNat)
                  case atStart => exact ⟨0, Nat.zero_le _, rfl, ⟨false, rfl, by simp⟩, Below.refl _ _⟩
                  case round =>
                    obtain ⟨e, he, rfl, ⟨tb, rfl, htb⟩, hB⟩ := hrel
                    have HB6 := Lib.hid hB
                    have HT6 := Lib.hid htb
                    clear htb
                    by_cases hlt4 : e < j
                    · obtain ⟨b, rfl, hbl, hcells⟩ := C6.out.2.2.2 h0
                      obtain ⟨x, hx⟩ : ∃ x, cs[e]? = some x := ⟨_, List.getElem?_eq_getElem (by omega)⟩
                      have hbr : b < wr.heap.size := Nat.lt_of_lt_of_le hbl hB.size
                      obtain ⟨e0, e1, e2, e3, e4⟩ := hcells e x hx
                      replace e0 := (hB.cell (p := ⟨b, e * 5, none⟩) hbl).trans e0
                      replace e1 := (hB.cell (p := ⟨b, e * 5 + 1, none⟩) hbl).trans e1
                      replace e2 := (hB.cell (p := ⟨b, e * 5 + 2, none⟩) hbl).trans e2
                      replace e3 := (hB.cell (p := ⟨b, e * 5 + 3, none⟩) hbl).trans e3
                      replace e4 := (hB.cell (p := ⟨b, e * 5 + 4, none⟩) hbl).trans e4
                      obtain ⟨b1, hb1⟩ : ∃ b, (x.z == z) = b := ⟨_, rfl⟩
                      obtain ⟨b2, hb2⟩ : ∃ b, (x.g == gen) = b := ⟨_, rfl⟩
                      have H12 := Lib.hid (And.intro hb1 hb2)
                      have HX := Lib.hid hx
                      have hend2 : Hid (∀ (tb' : Bool), tb' = (tb || (b1 && b2)) → ∃ e' : Nat, e' ≤ j ∧ Value.int .i64 ((e : Int) + 1) = .int .i64 e' ∧ (∃ t : Bool, Value.bool tb' = .bool t ∧ (t = true ↔ ∃ (d : Nat) (x : Cp), d < e' ∧ cs[d]? = some x ∧ x.z = z ∧ x.g = gen)) ∧ Below wq.heap.size wq (wr.alloc x.box)) := Lib.hid fun tb' ht => by
                        refine ⟨e + 1, by omega, by simp, ⟨tb', rfl, ?_⟩, HB6.out.alloc HB6.out.size _⟩
                        rw [ht, ← H12.out.1, ← H12.out.2]
                        simp only [Bool.or_eq_true, HT6.out, Bool.and_eq_true, beq_iff_eq]
                        constructor
                        · rintro (⟨d, y, hd, hy, h1, h2⟩ | ⟨h1, h2⟩)
                          · exact ⟨d, y, by omega, hy, h1, h2⟩
                          · exact ⟨e, x, by omega, HX.out, h1, h2⟩
                        · rintro ⟨d, y, hd, hy, h1, h2⟩
                          by_cases e : d = e
                          · subst e; rw [HX.out] at hy; cases hy; exact .inr ⟨h1, h2⟩
                          · exact .inl ⟨d, y, by omega, hy, h1, h2⟩
                      clear hB hcells hx
                      cases tb
                      · cases b1
                        · go_wp2
                          go_roundw
                          case rel => have := hend2.out false rfl; simpa using this
                          case measure => simp [intOf]; omega
                        · cases b2
                          · go_wp2
                            go_roundw
                            case rel => have := hend2.out false rfl; simpa using this
                            case measure => simp [intOf]; omega
                          · go_wp2
                            go_roundw
                            case rel => have := hend2.out true rfl; simpa using this
                            case measure => simp [intOf]; omega
                      · go_wp2
                        go_roundw
                        case rel => have := hend2.out true rfl; simpa using this
                        case measure => simp [intOf]; omega
                    · obtain rfl : e = j := by omega
                      have ht : tb = true := HT6.out.2 (by
                        obtain ⟨d, x, h1, h2, h3⟩ := held_mem cs gen z ((sorted_mem _ _).1 (List.mem_of_getElem? HZA.out))
                        exact ⟨d, x, by have := (List.getElem?_eq_some_iff.1 h1).1; omega, h1, h2, h3⟩)
                      subst ht
                      have B7 := Lib.hid (HB5.out.trans (HB6.out.mono HB5.out.size))
                      clear hB
                      go_wp2
                      go_roundw
                      case rel => exact ⟨a + 1, by omega, by simp, B7.out⟩
                      case measure => simp [intOf]; omega
              · obtain rfl : a = q := by omega
                clear hB
                go_wp2
                go_ret
                exact ⟨rfl, U5.out.trans (HB5.out.mono U5.out.size)⟩
end Go.Proofs.Ytcgafnmpfdkfoaa
