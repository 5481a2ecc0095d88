/- Law CkptUnlike: the walk. -/
import Derived.Test.YtcgafnmpfdkfoaaUnlike0
namespace Go.Proofs.Ytcgafnmpfdkfoaa
open Go.RowKit

set_option maxRecDepth 100000 in
set_option maxHeartbeats 2000000 in
theorem unlike_walk (w : World) (g : G) (A : Option Addr) (n c : Nat) (ops : List Op11) (h : OpsAt w A n c ops) (A' : Option Addr) (n' c' : Nat) (ops' : List Op11) (h' : OpsAt w A' n' c' ops') (gen ep nx : Int) :
    Calls Try.prog 12 #[g.v, .slice A n c, .slice A' n' c', .int .i64 gen, .int .i64 ep, .int .i64 nx] w fun r w' => r = .returned (.bool true) ∧ Below w.heap.size w w' := by
  obtain ⟨s, hs⟩ : ∃ s : Sn, s = ⟨gen, ep, nx⟩ := ⟨_, rfl⟩
  have hsg : gen = s.gen := by rw [hs]
  have hse : ep = s.ep := by rw [hs]
  have hsn : nx = s.nx := by rw [hs]
  subst hsg hse hsn
  clear hs
  obtain ⟨W0, hW0⟩ : ∃ W0, w.alloc g.box = W0 := ⟨_, rfl⟩
  have k0 : Blk W0 w.heap.size 23 g.arr := by rw [← hW0]; exact Blk.newAt rfl
  have U0 : Below w.heap.size w W0 := by rw [← hW0]; exact below_box _ _
  have HU := Lib.hid U0
  have K0 := Lib.hid k0
  have HO := Lib.hid h
  have HO' := Lib.hid h'
  clear h h' U0 k0
  go_enter Try.func12, Try.ntmps12
  go_wp2_with fail
  clear hW0
  refine (anchor13 W0).mono ?_
  rintro r w1 ⟨rfl, hb1⟩
  have K1 := Lib.hid ((Keeps.of_below (S := []) hb1).blk K0.out.lt (by simp) K0.out)
  have U1 : Hid (Below w.heap.size w w1) := Lib.hid (HU.out.trans (hb1.mono HU.out.size))
  obtain ⟨⟨x0, x1⟩, ⟨x2, x3⟩, x4, x5⟩ := K1.out.gcells
  clear hb1
  go_wp2_with fail
  by_cases hbad : g.right = false ∨ 60 < n
  · refine (made13_bad w1 g A n c _ _ _ hbad).mono ?_
    rintro r w2 ⟨rfl, hb2⟩
    have KK2 := Lib.hid ((Keeps.of_below (S := []) hb2).blk K1.out.lt (by simp) K1.out)
    obtain ⟨V2, hV2⟩ : ∃ V2, (w2.alloc (.cells #[.int .i64 0, .int .i64 0, .int .i64 0, .pointer none] 53)).alloc (.cells #[.int .i64 0, .int .i64 0, .int .i64 0, .int .i64 0, .int .i64 0, .int .i64 0, .int .i64 0, .int .i64 0, .int .i64 0, .slice none 0 0] 55) = V2 := ⟨_, rfl⟩
    have b3 : Below w2.heap.size w2 V2 := by rw [← hV2]; exact (below_box _ _).alloc (by simp) _
    have U3 : Hid (Below w.heap.size w V2) := Lib.hid (U1.out.trans ((hb2.trans (b3.mono hb2.size)).mono U1.out.size))
    have HV2 := Lib.hid hV2
    clear hb2 x0 x1 x2 x3 x4 x5 b3 hV2
    obtain ⟨⟨z0, z1⟩, ⟨z2, z3⟩, z4, z5⟩ := KK2.out.gcells
    have zl := KK2.out.lt
    go_wp2_with fail
    rw [HV2.out]
    by_cases hbad' : g.right = false ∨ 60 < n'
    · refine (made13_bad V2 g A' n' c' _ _ _ hbad').mono ?_
      rintro r w4 ⟨rfl, hb4⟩
      have U4 : Hid (Below w.heap.size w w4) := Lib.hid (U3.out.trans (hb4.mono U3.out.size))
      clear hb4 z0 z1 z2 z3 z4 z5 hbad hbad'
      go_wp2
      go_ret
      exact ⟨rfl, (U4.out.alloc U4.out.size _).alloc (by have := U4.out.size; simp; omega) _⟩
    · have hr : g.right = true := by cases hr : g.right with | true => rfl | false => exact absurd (.inl hr) hbad'
      refine (made13_yes V2 g A' n' c' ops' (HO'.out.up U3.out) s hr (by omega)).mono ?_
      rintro r w4 ⟨p, bl, bv, lv, rb, rc, rfl, _, _, _, _, hb4⟩
      have U4 : Hid (Below w.heap.size w w4) := Lib.hid (U3.out.trans (hb4.mono U3.out.size))
      generalize playL g ops' = l
      clear hb4 z0 z1 z2 z3 z4 z5 hbad hbad' hr
      go_wp2
      go_ret
      exact ⟨rfl, (U4.out.alloc U4.out.size _).alloc (by have := U4.out.size; simp; omega) _⟩
  · have hr : g.right = true := by cases hr : g.right with | true => rfl | false => exact absurd (.inl hr) hbad
    refine (made13_yes w1 g A n c ops (HO.out.up U1.out) s hr (by omega)).mono ?_
    rintro r w2 ⟨p, bl, bv, lv, rb, rc, rfl, hM, hOk, _, _, hb2⟩
    obtain ⟨l, hl⟩ : ∃ l, playL g ops = l := ⟨_, rfl⟩
    rw [hl] at hM hOk ⊢
    obtain ⟨t, ht⟩ : ∃ t, s.right l = t := ⟨_, rfl⟩
    rw [ht]
    obtain ⟨V2, hV2⟩ : ∃ V2, (w2.alloc (s.box p)).alloc (.cells (refArr s g (.slice (some ⟨rb, 0, none⟩) l.length rc)) 55) = V2 := ⟨_, rfl⟩
    have b3 : Below w2.heap.size w2 V2 := by rw [← hV2]; exact (below_box _ _).alloc (by simp) _
    have A3 : Hid (UnAt w g l lv s p bl bv w2.heap.size V2) := Lib.hid ⟨hM.grow b3, by rw [← hV2]; exact (Blk.newAt rfl).alloc _, (Keeps.of_below (S := []) (hb2.trans (b3.mono hb2.size))).blk K1.out.lt (by simp) K1.out, U1.out.trans ((hb2.trans (b3.mono hb2.size)).mono U1.out.size)⟩
    have OA := Lib.hid hOk
    have HR := Lib.hid hr
    have HT := Lib.hid ht
    clear hM hOk hb2 b3 hl ht x0 x1 x2 x3 x4 x5 hbad
    obtain ⟨⟨x0, x1⟩, ⟨x2, x3⟩, x4, x5⟩ := A3.out.x.gcells
    go_wp2_with fail
    clear hV2
    by_cases hbad' : 60 < n'
    · refine (made13_bad V2 g A' n' c' _ _ _ (.inr hbad')).mono ?_
      rintro r w4 ⟨rfl, hb4⟩
      have U4 : Hid (Below w.heap.size w w4) := Lib.hid (A3.out.u.trans (hb4.mono A3.out.u.size))
      clear hb4 x0 x1 x2 x3 x4 x5 hbad' hr
      cases t
      · go_wp2
        go_ret
        exact ⟨rfl, (U4.out.alloc U4.out.size _).alloc (by have := U4.out.size; simp; omega) _⟩
      · go_wp2
        go_ret
        exact ⟨rfl, (U4.out.alloc U4.out.size _).alloc (by have := U4.out.size; simp; omega) _⟩
    · refine (made13_yes V2 g A' n' c' ops' (HO'.out.up A3.out.u) s HR.out (by omega)).mono ?_
      rintro r w4 ⟨p', bl', bv', lv', rb', rc', rfl, hM', hOk', _, _, hb4⟩
      obtain ⟨l', hl'⟩ : ∃ l, playL g ops' = l := ⟨_, rfl⟩
      rw [hl'] at hM' hOk' ⊢
      obtain ⟨t', ht'⟩ : ∃ t, s.right l' = t := ⟨_, rfl⟩
      rw [ht']
      obtain ⟨V4, hV4⟩ : ∃ V, (w4.alloc (s.box p')).alloc (.cells (refArr s g (.slice (some ⟨rb', 0, none⟩) l'.length rc')) 55) = V := ⟨_, rfl⟩
      have b5 : Below w4.heap.size w4 V4 := by rw [← hV4]; exact (below_box _ _).alloc (by simp) _
      have A5 := Lib.hid ((A3.out.grow hb4).grow b5)
      have B5 : Hid (UnAt w g l' lv' s p' bl' bv' w4.heap.size V4) := Lib.hid ⟨hM'.grow b5, by rw [← hV4]; exact (Blk.newAt rfl).alloc _, A5.out.x, A5.out.u⟩
      have OB := Lib.hid hOk'
      have HT' := Lib.hid ht'
      clear hM' hOk' hb4 b5 hl' x0 x1 x2 x3 x4 x5 hbad' hr A3 ht'
      cases t
      · cases t'
        · go_wp2
          go_ret
          exact ⟨rfl, A5.out.u⟩
        · go_wp2
          go_ret
          exact ⟨rfl, A5.out.u⟩
      cases t'
      · go_wp2
        go_ret
        exact ⟨rfl, A5.out.u⟩
      go_wp2_with fail
      clear hV4
      refine (crc_new V4).mono ?_
      rintro r w6 ⟨rfl, hb6⟩
      obtain ⟨V6, hV6⟩ : ∃ V, w6.alloc (.cells tabV 83) = V := ⟨_, rfl⟩
      have b6 : Below w6.heap.size w6 V6 := by rw [← hV6]; exact below_box _ _
      have A6 := Lib.hid (A5.out.grow (hb6.trans (b6.mono hb6.size)))
      have B6 := Lib.hid (B5.out.grow (hb6.trans (b6.mono hb6.size)))
      have T6 : Hid (Blk V6 w6.heap.size 83 tabV) := Lib.hid (by rw [← hV6]; exact Blk.newAt rfl)
      have hst := store_table
      have hts := tabV_size
      have hszT : (Try.prog.info? 83).map (·.size) = some tabV.size := by rw [tabV_size]; exact size_table
      have HSZT := Lib.hid hszT
      clear hb6 b6 hszT A5 B5
      obtain ⟨⟨y0, y1⟩, y2, y3⟩ := A6.out.y.scells
      have yl := A6.out.y.lt
      go_wp2_with (refine wpList_load_blk rfl 83 (.tmp 19) rfl w6.heap.size 0 rfl T6.out tabV (row_whole tabV) _ Try.underlying83 rfl HSZT.out ?_)
      clear hV6 hst hts
      refine (sectors_yes V6 p bl bv g l lv s A6.out.m OA.out (OA.out.sn HT.out) 0 (holds00 HR.out)).mono ?_
      rintro r w7 ⟨v7, rfl, hown7, hb7⟩
      obtain ⟨fx, hfx⟩ : ∃ fx, Hid (frames s g l 0 = fx) := ⟨_, Lib.hid rfl⟩
      obtain ⟨fy, hfy⟩ : ∃ fy, Hid (frames s g l' 0 = fy) := ⟨_, Lib.hid rfl⟩
      have okX : Hid (FsOk fx) := Lib.hid (by rw [← hfx.out]; exact frames_fsok OA.out (OA.out.sn HT.out) 0 (holds00 HR.out))
      have okY : Hid (FsOk fy) := Lib.hid (by rw [← hfy.out]; exact frames_fsok OB.out (OB.out.sn HT'.out) 0 (holds00 HR.out))
      have hxy : Hid (fy.length = fx.length) := Lib.hid (by
        have a := OA.out.len
        have b := OB.out.len
        rw [← hfx.out, ← hfy.out, frames_length, frames_length]; unfold nparts
        omega)
      have hx1000 : fx.length ≤ 1000 := by have := OA.out.len1000; rw [← hfx.out, frames_length]; unfold nparts; omega
      rw [hfx.out] at hown7
      obtain ⟨AX, cX, rfl, hSX⟩ := secs_of_own hown7 rfl (fun f hf => (okX.out f hf).2.1)
      have A7 := Lib.hid (A6.out.grow hb7)
      have B7 := Lib.hid (B6.out.grow hb7)
      have T7 := Lib.hid ((Keeps.of_below (S := []) hb7).blk T6.out.lt (by simp) T6.out)
      have SX := Lib.hid hSX
      have hcX : fx.length ≤ cX ∧ cX ≤ 9223372036854775807 := by have := hSX.2.2.1; have := hSX.2.1; unfold maxLen at *; omega
      clear hb7 hown7 hSX y0 y1 y2 y3 yl A6 B6 T6
      obtain ⟨⟨y0, y1⟩, y2, y3⟩ := B7.out.y.scells
      have yl := B7.out.y.lt
      go_wp2_with (refine wpList_load_blk rfl 83 (.tmp 19) rfl w6.heap.size 0 rfl T7.out tabV (row_whole tabV) _ Try.underlying83 rfl HSZT.out ?_)
      refine (sectors_yes w7 p' bl' bv' g l' lv' s B7.out.m OB.out (OB.out.sn HT'.out) 0 (holds00 HR.out)).mono ?_
      rintro r w9 ⟨v9, rfl, hown9, hb9⟩
      rw [hfy.out, hxy.out] at hown9
      obtain ⟨AY, cY, rfl, hSY⟩ := secs_of_own hown9 hxy.out (fun f hf => (okY.out f hf).2.1)
      have A9 := Lib.hid (A7.out.grow hb9)
      have B9 := Lib.hid (B7.out.grow hb9)
      have SX9 := Lib.hid (SX.out.grow hb9)
      have SY9 := Lib.hid hSY
      have hcY : fx.length ≤ cY ∧ cY ≤ 9223372036854775807 := by have := hSY.2.2.1; have := hSY.2.1; unfold maxLen at *; omega
      obtain ⟨hcX1, hcX2⟩ := hcX
      obtain ⟨hcY1, hcY2⟩ := hcY
      clear hb9 hown9 hSY y0 y1 y2 y3 yl A7 B7 T7 SX
      go_wp2
      go_loopw [24, 82] (fun t i wr => ∃ k : Nat, k ≤ fx.length ∧ i = .int .i64 k ∧ (∃ tb : Bool, t = .bool tb ∧ (tb = true ↔ Alike fx fy k)) ∧ Below w9.heap.size w9 wr) (fun _ i _ => fx.length - (intOf i).toNat)
      case atStart => exact ⟨0, Nat.zero_le _, rfl, ⟨true, rfl, by simp [Alike]⟩, Below.refl _ _⟩
      case round =>
        obtain ⟨k, hk, rfl, ⟨tb, rfl, htb⟩, hB⟩ := hrel
        have HB := Lib.hid hB
        have HTB := Lib.hid htb
        clear htb
        by_cases hlt : k < fx.length
        · obtain ⟨f, hf⟩ : ∃ f, fx[k]? = some f := ⟨_, List.getElem?_eq_getElem hlt⟩
          obtain ⟨h, hh⟩ : ∃ h, fy[k]? = some h := ⟨_, List.getElem?_eq_getElem (by have := hxy.out; omega)⟩
          obtain ⟨b1, rfl, hb1, hg1⟩ := SX9.out.2.2.2 (by omega)
          obtain ⟨b2, rfl, hb2, hg2⟩ := SY9.out.2.2.2 (by omega)
          have hl1 : ∀ W, (∃ x : From wr, W = x.val) → W.rangeAt b1 (k * 64) (secV f).toList := by
            rintro _ ⟨x, rfl⟩; exact rangeAt_below (rangeAt_below (hg1 k f hf) hb1 hB) (Nat.lt_of_lt_of_le hb1 hB.size) x.below
          have hl2 : ∀ W, (∃ x : From wr, W = x.val) → W.rangeAt b2 (k * 64) (secV h).toList := by
            rintro _ ⟨x, rfl⟩; exact rangeAt_below (rangeAt_below (hg2 k h hh) hb2 hB) (Nat.lt_of_lt_of_le hb2 hB.size) x.below
          have okf := (okX.out f (List.mem_of_getElem? hf)).2.1
          have okh := (okY.out h (List.mem_of_getElem? hh)).2.1
          obtain ⟨d, hd⟩ : ∃ d, decide (sect f = sect h) = d := ⟨_, rfl⟩
          have heq' : ∀ W, (Op.equalIn 10000 89 (.agg (secV f)) (.agg (secV h))).run Try.prog W = .ok d W := fun W => by rw [sector_eq f h okf okh W, hd]
          have hi1 : (Try.prog.info? 89).map (·.size) = some (secV f).size := by rw [secV_size okf]; exact size_sector
          have hi2 : (Try.prog.info? 89).map (·.size) = some (secV h).size := by rw [secV_size okh]; exact size_sector
          have HSTEP : Hid (∀ tb' : Bool, tb' = (tb && d) → (tb' = true ↔ Alike fx fy (k + 1))) := Lib.hid fun tb' e => by
            rw [e, Alike.step hf hh, ← HTB.out, ← hd]; simp
          have HL1 := Lib.hid hl1
          have HL2 := Lib.hid hl2
          have HI1 := Lib.hid hi1
          have HI2 := Lib.hid hi2
          have hk0 : (0 : Int) ≤ (k : Int) := by omega
          have hk1 : (k : Int) < (fx.length : Int) := by omega
          clear hl1 hl2 hi1 hi2 okf okh hd hf hh hg1 hg2 hB
          generalize secV f = X at *
          generalize secV h = Y at *
          have hfrom := @From.cell wr
          cases tb
          · go_wp2_with fail
            refine region_from (by kernel_rfl) (by kernel_rfl) ?_
            repeat (go_big_quiet_step (fail))
            refine wpQuiet_nil ?_
            intro W hW
            have HW := Lib.hid (HB.out.trans (hW.mono HB.out.size))
            clear hW hfrom heq'
            go_wp2
            go_roundw
            case rel => exact ⟨k + 1, by omega, by simp, ⟨false, rfl, HSTEP.out false (by simp)⟩, HW.out⟩
            case measure => simp [intOf]; omega
          · go_wp2_with fail
            refine region_from (by kernel_rfl) (by kernel_rfl) ?_
            repeat (first
              | (go_big_quiet_want; refine quiet_load 89 (.tmp 89) rfl b1 (k * 64) rfl X HL1.out _ Try.underlying89 rfl HI1.out ?_; go_simp; go_big_quiet_on)
              | (go_big_quiet_want; refine quiet_load 89 (.tmp 93) rfl b2 (k * 64) rfl Y HL2.out _ Try.underlying89 rfl HI2.out ?_; go_simp; go_big_quiet_on)
              | (go_big_quiet_step (fail)))
            refine wpQuiet_nil ?_
            intro W hW
            have HW := Lib.hid (HB.out.trans (hW.mono HB.out.size))
            clear hW hfrom heq'
            go_wp2
            go_roundw
            case rel => exact ⟨k + 1, by omega, by simp, ⟨d, rfl, HSTEP.out d (by simp)⟩, HW.out⟩
            case measure => simp [intOf]; omega
        · obtain rfl : k = fx.length := by omega
          have HQ : Hid (decide (frOpt s g l = frOpt s g l') = tb) := Lib.hid (by
            have e := HTB.out.trans (Alike.all okX.out okY.out hxy.out.symm)
            unfold frOpt
            rw [HT.out, HT'.out, if_pos rfl, if_pos rfl, hfx.out, hfy.out]
            cases tb
            · have : ¬ fx = fy := fun h => by have := e.2 h; cases this
              simp [this]
            · simp [e.1 rfl])
          have A10 := Lib.hid (A9.out.grow hB)
          have B10 := Lib.hid (B9.out.grow hB)
          clear hB
          obtain ⟨⟨y0, y1⟩, y2, y3⟩ := A10.out.y.scells
          obtain ⟨⟨z0, z1⟩, z2, z3⟩ := B10.out.y.scells
          have yl := A10.out.y.lt
          have zl := B10.out.y.lt
          go_wp2_with fail
          refine (snap_same_v wr p bl bv g l lv s A10.out.m OA.out p' bl' bv' g l' lv' s B10.out.m OB.out tb HQ.out).mono ?_
          rintro r w11 ⟨rfl, hb11⟩
          have U11 := Lib.hid (A10.out.u.trans (hb11.mono A10.out.u.size))
          clear hb11 y0 y1 y2 y3 z0 z1 z2 z3
          cases tb
          · go_wp2
            go_ret
            exact ⟨rfl, U11.out⟩
          · go_wp2
            go_ret
            exact ⟨rfl, U11.out⟩
end Go.Proofs.Ytcgafnmpfdkfoaa
