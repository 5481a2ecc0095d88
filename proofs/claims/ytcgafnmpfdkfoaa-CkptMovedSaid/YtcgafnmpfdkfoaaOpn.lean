/- Layer 1: what stands ahead of a right sum: crc.Open, of a sector's bytes. -/
import Derived.Test.YtcgafnmpfdkfoaaEnc2
import Derived.Test.YtcgafnmpfdkfoaaTail
namespace Go.Proofs.Ytcgafnmpfdkfoaa
open Go.RowKit

theorem BysAt.take {w : World} {b c : Nat} {xs : List Int} {n : Nat} (h : BysAt w (some ⟨b, 0, none⟩) n c xs) (m : Nat) (hm : m ≤ n) : BysAt w (some ⟨b, 0, none⟩) m c (xs.take m) := by
  obtain ⟨h1, h2, h3, h4, h5⟩ := h
  refine ⟨by rw [List.length_take]; omega, by omega, h3, h4.take m, fun hp => ?_⟩
  obtain ⟨b', off, e1, e2, e3⟩ := h5 (by omega)
  refine ⟨b', off, e1, e2, fun k x hx => e3 k x ?_⟩
  rw [List.getElem?_take] at hx
  split at hx
  · exact hx
  · cases hx
/-- Does a sum stand behind bytes? -/
def sealedB (xs : List Int) : Prop := xs.drop 60 = le 4 (sumN (xs.take 60))
def OpnPost (w : World) (xs : List Int) (r : Ending) (w' : World) : Prop :=
  Below w.heap.size w w' ∧ ((sealedB xs ∧ ∃ g c, r = .returned (.tuple #[.slice (some ⟨g, 0, none⟩) 60 c, .int .i64 0]) ∧ w'.ownsRow w.heap.size 5 1 (.slice (some ⟨g, 0, none⟩) 60 c) 60 (bys (xs.take 60))) ∨
    (¬ sealedB xs ∧ r = .returned (.tuple #[.slice none 0 0, .int .i64 11])))
theorem le4_get (s : Int) (k : Nat) (hk : k < 4) : (le 4 s)[k]? = some (s / 256 ^ k % 256) := by
  have h : k = 0 ∨ k = 1 ∨ k = 2 ∨ k = 3 := by omega
  rcases h with rfl | rfl | rfl | rfl
  · simp [le]
  · simp [le]
  · simp only [le, List.getElem?_cons_succ, List.getElem?_cons_zero, Option.some.injEq]
    show s / 256 / 256 % 256 = s / 65536 % 256
    omega
  · simp only [le, List.getElem?_cons_succ, List.getElem?_cons_zero, Option.some.injEq]
    show s / 256 / 256 / 256 % 256 = s / 16777216 % 256
    omega
set_option maxRecDepth 100000 in
set_option maxHeartbeats 1000000 in
theorem crc_open (w : World) (b : Nat) (xs : List Int) (h : BysAt w (some ⟨b, 0, none⟩) 64 64 xs) :
    Calls Try.prog 132 #[.agg tabV, .slice (some ⟨b, 0, none⟩) 64 64] w (OpnPost w xs) := by
  obtain ⟨V, hV⟩ : ∃ V, w.alloc (.cells tabV 83) = V := ⟨_, rfl⟩
  have b0 : Below w.heap.size w V := by rw [← hV]; exact below_box _ _
  have k0 : Blk V w.heap.size 83 tabV := by rw [← hV]; exact Blk.newAt rfl
  have HB := Lib.hid b0
  have H0 := Lib.hid (h.grow b0)
  have hszT : (Try.prog.info? 83).map (·.size) = some tabV.size := by rw [tabV_size]; exact size_table
  have HSZ := Lib.hid hszT
  have hl1 : ∀ W, (∃ x : From V, W = x.val) → W.rangeAt w.heap.size 0 tabV.toList := by
    rintro _ ⟨x, rfl⟩ j v hv
    rw [Nat.zero_add, x.cell w.heap.size _ k0.lt, k0.cell]
    simpa using hv
  have HL1 := Lib.hid hl1
  have HSUM : Hid (∀ W, Below V.heap.size V W → Calls Try.prog 145 #[.agg tabV, .slice (some ⟨b, 0, none⟩) 60 64] W fun e w' => e = .returned (.int .u32 (sumN (xs.take 60))) ∧ Below W.heap.size W w') := Lib.hid fun W k => crc_sum W _ 60 64 _ ((H0.out.grow k).take 60 (by omega)) (by omega)
  have hs := sumN_lt (H0.out.2.2.2.1.take 60)
  have hfrom := @From.cell V
  clear b0 k0 hszT hl1 h
  go_enter Try.func132, Try.ntmps132
  go_wp2_with fail
  clear hV
  refine region_from (by kernel_rfl) (by kernel_rfl) ?_
  repeat (first
    | (go_big_quiet_want; refine quiet_load 83 (.tmp 2) rfl w.heap.size 0 rfl tabV HL1.out _ Try.underlying83 rfl HSZ.out ?_; go_simp; go_big_quiet_on)
    | (go_big_quiet_step ((go_at_call 145; exact from_call (HSUM.out _ (From.below _))))))
  refine wpQuiet_nil ?_
  intro w1 hb1
  have B1 := Lib.hid (HB.out.trans (hb1.mono HB.out.size))
  have H1 := Lib.hid (H0.out.grow hb1)
  obtain ⟨s, hs'⟩ : ∃ s, sumN (xs.take 60) = s := ⟨_, rfl⟩
  rw [hs'] at hs ⊢
  have HS := Lib.hid hs'
  clear hb1 hs' hfrom HSUM
  go_wp2
  have hxl : xs.length = 64 := H1.out.1
  go_loopw [7, 24] (fun v i wr => ∃ k : Nat, k ≤ 4 ∧ i = .int .i64 k ∧ v = .int .u32 ((s : Int) / 256 ^ k) ∧ (∀ j, j < k → xs[60 + j]? = some ((s : Int) / 256 ^ j % 256)) ∧ Below w1.heap.size w1 wr) (fun _ i _ => 4 - (intOf i).toNat)
  case atStart => exact ⟨0, by omega, rfl, by simp, fun j hj => absurd hj (by omega), Below.refl _ _⟩
  case round =>
    obtain ⟨k, hk, rfl, rfl, hall, hB⟩ := hrel
    have HA := Lib.hid hall
    have HB2 := Lib.hid hB
    clear hall
    by_cases hlt : k < 4
    · obtain ⟨b', off, e1, hbl, hcells⟩ := H1.out.2.2.2.2 (by omega)
      simp only [Option.some.injEq, Addr.mk.injEq] at e1
      obtain ⟨rfl, rfl, _⟩ := e1
      obtain ⟨x, hx⟩ : ∃ x, xs[60 + k]? = some x := ⟨_, List.getElem?_eq_getElem (by omega)⟩
      have ex : wr.cell? ⟨b, 60 + k, none⟩ = some (.int .u8 x) := by
        rw [hB.cell (p := ⟨b, 60 + k, none⟩) hbl]
        have := hcells (60 + k) x hx
        rwa [Nat.zero_add] at this
      have HX := Lib.hid hx
      have hd : (s : Int) / 256 ^ k / 256 = (s : Int) / 256 ^ (k + 1) := by
        have h := @Int.ediv_ediv (s : Int) (256 ^ k) 256
        rw [if_neg (by have : (0 : Int) < 256 ^ k := Int.pow_pos (by omega); omega), Int.sub_zero, ← Int.pow_succ] at h
        exact h
      have HD := Lib.hid hd
      have hu0 : 0 ≤ (s : Int) / 256 ^ k := Int.ediv_nonneg (by omega) (Int.pow_nonneg (by omega))
      have hu1 : (s : Int) / 256 ^ k < 4294967296 := by have := Int.ediv_le_self (256 ^ k) (show 0 ≤ (s : Int) by omega); omega
      have hki : (k : Int) < 4 := by omega
      obtain ⟨u, hu⟩ : ∃ u, (s : Int) / 256 ^ k = u := ⟨_, rfl⟩
      rw [hu] at hu0 hu1 HD ⊢
      have HU := Lib.hid hu
      clear hB hcells hx hd hu
      by_cases he : x = u % 256
      · subst he
        go_wp2
        go_roundw
        case rel =>
          refine ⟨k + 1, by omega, by simp, by rw [HD.out], fun j hj => ?_, HB2.out⟩
          by_cases ejk : j = k
          · subst ejk; rw [HX.out, HU.out]
          · exact HA.out j (by omega)
        case measure => simp [intOf]; omega
      · go_wp2
        go_ret2
        refine ⟨B1.out.trans (HB2.out.mono B1.out.size), .inr ⟨fun hsl => he ?_, rfl⟩⟩
        unfold sealedB at hsl
        rw [HS.out] at hsl
        have h1 := le4_get (s : Int) k hlt
        rw [← hsl, List.getElem?_drop, HX.out, HU.out] at h1
        exact Option.some.inj h1
    · obtain rfl : k = 4 := by omega
      have hsl : sealedB xs := by
        unfold sealedB
        rw [HS.out]
        apply List.ext_getElem?
        intro j
        rw [List.getElem?_drop]
        by_cases hj : j < 4
        · rw [HA.out j hj, le4_get _ _ hj]
        · rw [List.getElem?_eq_none (by omega), List.getElem?_eq_none (by rw [le_length]; omega)]
      obtain ⟨i0, hi, hz0, hz1, hz2⟩ := info_parts info_byte
      have hn := own_nil (size := 1) (Blk.new_ wr #[] 5) wr.heap.size (Nat.le_refl _)
      have hcl : (bys (xs.take 60)).length = 60 * 1 := by rw [bys_length, List.length_take, hxl]; rfl
      have hX : ∀ j u, (bys (xs.take 60))[j]? = some u → (wr.alloc (.cells #[] 5)).cell? ((⟨b, 0, none⟩ : Addr).add j) = some u := by
        intro j u hu
        simp only [bys, List.getElem?_map, Option.map_eq_some_iff] at hu
        obtain ⟨v, hv, rfl⟩ := hu
        obtain ⟨b', off, e1, e2, e3⟩ := (H1.out.take 60 (by omega)).2.2.2.2 (by omega)
        simp only [Option.some.injEq, Addr.mk.injEq] at e1
        obtain ⟨rfl, rfl, _⟩ := e1
        rw [add_at]
        exact (((below_box wr _).cell (p := ⟨b, 0 + j, none⟩) (Nat.lt_of_lt_of_le e2 hB.size)).trans (hB.cell (p := ⟨b, 0 + j, none⟩) e2)).trans (e3 j v hv)
      have HSL := Lib.hid hsl
      clear hB hsl
      go_wp2_with (at_builtin; refine Hid.out ?_)
      refine Lib.hid ?_
      refine wpList_append_own _ rfl _ _ 106 rfl wr.heap.size 5 i0 (.int .u8 0) 1 1 Try.underlying106 hi hz0 hz1 hz2 rfl (by omega) _ 0 [] rfl hn ⟨b, 0, none⟩ 60 64 (bys (xs.take 60)) rfl hcl hX (bys_one _) (by unfold maxLen; omega) (by omega) (by simp) ?_
      intro v' w2 hown' hgrow hnil
      have hb2 : Below wr.heap.size wr w2 := (below_box wr _).grown hgrow (by simp) (fun k e => by cases e; exact Nat.le_refl _)
      rw [Nat.zero_add, List.nil_append] at hown'
      obtain ⟨g', c', rfl⟩ := own_pos' hown' (by omega)
      have B2 := Lib.hid (B1.out.trans ((HB2.out.trans (hb2.mono HB2.out.size)).mono B1.out.size))
      have O2 : Hid (w2.ownsRow w.heap.size 5 1 (.slice (some ⟨g', 0, none⟩) 60 c') 60 (bys (xs.take 60))) := Lib.hid (by
        refine ⟨hown'.1, ?_⟩
        rcases hown'.2 with h' | ⟨g1, c1, cur, e1, e2, e3⟩
        · exact .inl h'
        · exact .inr ⟨g1, c1, cur, e1, Nat.le_trans (Nat.le_trans B1.out.size HB2.out.size) e2, e3⟩)
      clear hown' hgrow hnil hb2 hX hn
      go_wp2
      go_ret2
      exact ⟨B2.out, .inl ⟨HSL.out, g', c', rfl, O2.out⟩⟩
end Go.Proofs.Ytcgafnmpfdkfoaa
