/- The reference's bytes: revetmentref02.Num, revetmentref12.bytes, revetmentref12.entry. -/
import Derived.Test.YtcgafnmpfdkfoaaSnap2
import Derived.Test.YtcgafnmpfdkfoaaRef12
namespace Go.Proofs.Ytcgafnmpfdkfoaa
open Go.RowKit

def RNumPost (w : World) (n : Nat) (v : Int) (r : Ending) (w' : World) : Prop :=
  ∃ u, r = .returned u ∧ w'.ownsRow w.heap.size 5 1 u n (bys (le n v)) ∧ Below w.heap.size w w'
set_option maxRecDepth 100000 in
set_option maxHeartbeats 1000000 in
theorem ref_num (w : World) (n : Nat) (v : Int) (n7 : n ≤ 7) (h0 : 0 ≤ v) (h1 : v < 72057594037927936) :
    Calls Try.prog 89 #[.int .i64 n, .int .i64 v] w (RNumPost w n v) := by
  obtain ⟨i0, hi, hz0, hz1, hz2⟩ := info_parts info_byte
  go_enter Try.func89, Try.ntmps89
  go_wp2
  go_loopw [1, 5, 6] (fun x o i wr => ∃ k : Nat, k ≤ n ∧ x = .int .i64 (v / 256 ^ k) ∧ i = .int .i64 k ∧ wr.ownsRow w.heap.size 5 1 o k (bys (le k v)) ∧ Below w.heap.size w wr) (fun _ _ i _ => n - (intOf i).toNat)
  case atStart => exact ⟨0, Nat.zero_le _, by simp, rfl, ⟨by simp [le, bys], .inl ⟨rfl, rfl⟩⟩, Below.refl _ _⟩
  case round =>
    obtain ⟨k, hk, rfl, rfl, hown, hB⟩ := hrel
    by_cases hlt : k < n
    · have hu : 0 ≤ v / 256 ^ k := Int.ediv_nonneg h0 (Int.pow_nonneg (by omega))
      have hu1 : v / 256 ^ k < 72057594037927936 := by have := Int.ediv_le_self (256 ^ k) h0; omega
      have hs := le_snoc k v
      have hd := @Int.ediv_ediv v (256 ^ k) 256
      rw [if_neg (by have : (0 : Int) < 256 ^ k := Int.pow_pos (by omega); omega), Int.sub_zero, ← Int.pow_succ] at hd
      generalize v / 256 ^ k = u at hu hu1 hs hd ⊢
      have HD := Lib.hid hd
      have HS := Lib.hid hs
      have HB := Lib.hid hB
      have HO := Lib.hid hown
      have hm : u.tmod 256 = u % 256 := Int.tmod_eq_emod_of_nonneg hu
      have hq : u.tdiv 256 = u / 256 := Int.tdiv_eq_ediv_of_nonneg hu
      clear hs hd hB hown
      go_wp2_with (at_builtin; refine Hid.out ?_)
      refine Lib.hid ?_
      refine wpList_append_own _ rfl _ _ 106 rfl w.heap.size 5 i0 (.int .u8 0) 1 1 Try.underlying106 hi hz0 hz1 hz2 rfl (by omega) u5 k (bys (le k v)) rfl (World.ownsRow.alloc HO.out _) ⟨wr.heap.size, 0, none⟩ 1 1 [.int .u8 (u % 256)] rfl rfl (cell_one_new _ _ _) (by simp [Value.oneCell']) (by unfold maxLen; omega) (by omega) (by have := HB.out.size; simp; omega) ?_
      intro v' w10 hown' hgrow hnil
      have hB10 := Lib.hid ((HB.out.alloc HB.out.size _).grown hgrow (by have := HB.out.size; simp; omega) (fun j ej => (World.ownsRow.lt HO.out j ej).1))
      have L10 := Lib.hid (show w10.ownsRow w.heap.size 5 1 v' (k + 1) (bys (le (k + 1) v)) by rw [HS.out, bys, List.map_append]; exact hown')
      clear hown' hgrow hnil
      go_wp2
      go_roundw
      case rel => exact ⟨k + 1, by omega, by rw [HD.out], by simp, L10.out, hB10.out⟩
      case measure => simp [intOf]; omega
    · obtain rfl : k = n := by omega
      have HB := Lib.hid hB
      have HO := Lib.hid hown
      clear hB hown
      go_wp2
      go_ret
      exact ⟨_, rfl, HO.out, HB.out⟩
theorem own_lower {W : World} {base base' n size : Nat} {e : TypeId} {v : Value} {xs : List Value} (h : W.ownsRow base e size v n xs) (hb : base' ≤ base) : W.ownsRow base' e size v n xs := by
  refine ⟨h.1, ?_⟩
  rcases h.2 with h' | ⟨g, c, cur, h1, h2, h3⟩
  · exact .inl h'
  · exact .inr ⟨g, c, cur, h1, Nat.le_trans hb h2, h3⟩
/-- Bytes laid behind bytes. -/
structure RowB (w : World) (base : Nat) (b0 : Nat) (e : E) (W : World) (v : Value) (n : Nat) (xs : List Int) : Prop where
  row : W.ownsRow base 5 1 v n (bys xs)
  ent : Blk W b0 46 e.arr
  u : Below w.heap.size w W
theorem RowB.grow {w : World} {base b0 : Nat} {e : E} {W W' : World} {v : Value} {n : Nat} {xs : List Int} (h : RowB w base b0 e W v n xs) (k : Below W.heap.size W W') : RowB w base b0 e W' v n xs :=
  ⟨own_grow' h.row k, (Keeps.of_below (S := []) k).blk h.ent.lt (by simp) h.ent, h.u.trans (k.mono h.u.size)⟩
/-- What an append behind such a row leaves. -/
theorem RowB.app {w : World} {base b0 : Nat} {e : E} {W W' : World} {v v' : Value} {n m : Nat} {xs ys : List Int} (h : RowB w base b0 e W v n xs) (hb : b0 < base ∧ w.heap.size ≤ base) (hown : W'.ownsRow base 5 1 v' (n + m) (bys xs ++ bys ys)) (hg : W.grownBy W' v.ownBlock) : RowB w base b0 e W' v' (n + m) (xs ++ ys) := by
  refine ⟨by rw [bys, List.map_append]; exact hown, ?_, h.u.grown hg h.u.size (fun j ej => by have := (World.ownsRow.lt h.row j ej).1; omega)⟩
  exact (World.grownBy.block hg b0 h.ent.lt (fun ej => by have := (World.ownsRow.lt h.row b0 ej.symm).1; omega)).trans h.ent
/-- The cells of a row of bytes, as an append reads them. -/
theorem row_cells {W : World} {base g c n : Nat} {ys : List Int} (h : W.ownsRow base 5 1 (.slice (some ⟨g, 0, none⟩) n c) n (bys ys)) (hn : ys.length = n) : ∀ j u, (bys ys)[j]? = some u → W.cell? ((⟨g, 0, none⟩ : Addr).add j) = some u := by
  intro j u hu
  have hj := (List.getElem?_eq_some_iff.1 hu).1
  rw [bys_length] at hj
  rw [Addr.add_nat_zero, h.cellAt j (by omega)]
  exact hu
def REntPost (w : World) (e : E) (r : Ending) (w' : World) : Prop :=
  ∃ u, r = .returned u ∧ w'.ownsRow w.heap.size 5 1 u 16 (bys (entB e)) ∧ Below w.heap.size w w'
set_option maxRecDepth 100000 in
set_option maxHeartbeats 2000000 in
theorem ref_entry (w : World) (e : E) (he : e.Fits) : Calls Try.prog 91 #[e.v] w (REntPost w e) := by
  obtain ⟨i0, hi, hz0, hz1, hz2⟩ := info_parts info_byte
  obtain ⟨s0, s1⟩ := he.st
  obtain ⟨W0, hW0⟩ : ∃ W, (w.alloc (.cells #[.int .i64 e.st, .int .i64 e.zn, .int .i64 e.mt, .int .i64 e.off, .int .i64 e.sq, .int .i64 e.sm] 46)).alloc (.cells #[.int .u8 e.st] 5) = W := ⟨_, rfl⟩
  have R0 : Hid (RowB w (w.heap.size + 1) w.heap.size e W0 (.slice (some ⟨w.heap.size + 1, 0, none⟩) 1 1) 1 (le 1 e.st)) := by
    rw [← hW0]
    exact Lib.hid ⟨own_blk (Blk.newAt (by simp)) (Nat.le_refl _) (Nat.le_refl _) (by unfold maxLen; omega) rfl (by simp [bys, le]) (by rw [show bys (le 1 e.st) = [.int .u8 e.st] by simp [bys, le]; omega]; rfl), (Blk.newAt rfl).alloc _, (below_box _ _).alloc (by simp) _⟩
  have HE := Lib.hid he
  obtain ⟨⟨x0, x1, x2⟩, x3, x4, x5⟩ := R0.out.ent.ent
  have HW := Lib.hid hW0
  clear hW0 he
  go_enter Try.func91, Try.ntmps91
  go_wp2_with fail
  rw [HW.out]
  refine (ref_num W0 2 e.zn (by omega) HE.out.zn.1 (by have := HE.out.zn.2; omega)).mono ?_
  rintro r w1 ⟨u1, rfl, hown1, hb1⟩
  obtain ⟨g1, c1, rfl⟩ := own_succ hown1
  have R1 := Lib.hid (R0.out.grow hb1)
  have Y1 := Lib.hid (row_cells hown1 (le_length 2 e.zn))
  have S1 : Hid (w.heap.size + 1 ≤ w1.heap.size) := Lib.hid (by have := R1.out.ent.lt; omega)
  clear hown1 hb1 x0 x1 x2 x3 x4 x5
  go_wp2_with (at_builtin; refine Hid.out ?_)
  refine Lib.hid ?_
  refine wpList_append_own _ rfl _ _ 106 rfl (w.heap.size + 1) 5 i0 (.int .u8 0) 1 1 Try.underlying106 hi hz0 hz1 hz2 rfl (by omega) (.slice (some ⟨w.heap.size + 1, 0, none⟩) 1 1) 1 (bys (le 1 e.st)) rfl R1.out.row ⟨g1, 0, none⟩ 2 c1 (bys (le 2 e.zn)) rfl (by rw [bys_length, le_length]) Y1.out (bys_one _) (by unfold maxLen; omega) (by omega) S1.out ?_
  intro v1 W1 hown' hgrow hnil
  have T1 := Lib.hid (R1.out.app ⟨by omega, by omega⟩ hown' hgrow)
  clear hown' hgrow hnil
  obtain ⟨⟨x0, x1, x2⟩, x3, x4, x5⟩ := T1.out.ent.ent
  go_wp2_with fail
  refine (ref_num W1 2 e.mt (by omega) HE.out.mt.1 (by have := HE.out.mt.2; omega)).mono ?_
  rintro r w2 ⟨u2, rfl, hown2, hb2⟩
  obtain ⟨g2, c2, rfl⟩ := own_succ hown2
  have R2 := Lib.hid (T1.out.grow hb2)
  have Y2 := Lib.hid (row_cells hown2 (le_length 2 e.mt))
  have S2 : Hid (w.heap.size + 1 ≤ w2.heap.size) := Lib.hid (by have := R2.out.ent.lt; omega)
  clear hown2 hb2 x0 x1 x2 x3 x4 x5
  go_wp2_with (at_builtin; refine Hid.out ?_)
  refine Lib.hid ?_
  refine wpList_append_own _ rfl _ _ 106 rfl (w.heap.size + 1) 5 i0 (.int .u8 0) 1 1 Try.underlying106 hi hz0 hz1 hz2 rfl (by omega) v1 3 (bys (le 1 e.st ++ le 2 e.zn)) rfl R2.out.row ⟨g2, 0, none⟩ 2 c2 (bys (le 2 e.mt)) rfl (by rw [bys_length, le_length]) Y2.out (bys_one _) (by unfold maxLen; omega) (by omega) S2.out ?_
  intro v2 W2 hown' hgrow hnil
  have T2 := Lib.hid (R2.out.app ⟨by omega, by omega⟩ hown' hgrow)
  clear hown' hgrow hnil
  obtain ⟨⟨x0, x1, x2⟩, x3, x4, x5⟩ := T2.out.ent.ent
  obtain ⟨o0, o1⟩ := HE.out.off
  go_wp2_with (at_builtin; refine Hid.out ?_)
  refine Lib.hid ?_
  refine wpList_append_own _ rfl _ _ 106 rfl (w.heap.size + 1) 5 i0 (.int .u8 0) 1 1 Try.underlying106 hi hz0 hz1 hz2 rfl (by omega) v2 5 (bys (le 1 e.st ++ le 2 e.zn ++ le 2 e.mt)) rfl (T2.out.grow (below_box _ _)).row ⟨W2.heap.size, 0, none⟩ 1 1 (bys (le 1 e.off)) rfl (by rw [bys_length, le_length]) (by rw [show bys (le 1 e.off) = [.int .u8 e.off] by simp [bys, le]; omega]; exact cell_one_new _ _ _) (bys_one _) (by unfold maxLen; omega) (by omega) (by have := T2.out.ent.lt; simp; omega) ?_
  intro v3 W3 hown' hgrow hnil
  have T3 := Lib.hid ((T2.out.grow (below_box _ _)).app ⟨by omega, by omega⟩ hown' hgrow)
  clear hown' hgrow hnil x0 x1 x2 x3 x4 x5 o0 o1
  obtain ⟨⟨x0, x1, x2⟩, x3, x4, x5⟩ := T3.out.ent.ent
  go_wp2_with fail
  refine (ref_num W3 6 e.sq (by omega) HE.out.sq.1 (by have := HE.out.sq.2; omega)).mono ?_
  rintro r w4 ⟨u4, rfl, hown4, hb4⟩
  obtain ⟨g4, c4, rfl⟩ := own_succ hown4
  have R4 := Lib.hid (T3.out.grow hb4)
  have Y4 := Lib.hid (row_cells hown4 (le_length 6 e.sq))
  have S4 : Hid (w.heap.size + 1 ≤ w4.heap.size) := Lib.hid (by have := R4.out.ent.lt; omega)
  clear hown4 hb4 x0 x1 x2 x3 x4 x5
  go_wp2_with (at_builtin; refine Hid.out ?_)
  refine Lib.hid ?_
  refine wpList_append_own _ rfl _ _ 106 rfl (w.heap.size + 1) 5 i0 (.int .u8 0) 1 1 Try.underlying106 hi hz0 hz1 hz2 rfl (by omega) v3 6 (bys (le 1 e.st ++ le 2 e.zn ++ le 2 e.mt ++ le 1 e.off)) rfl R4.out.row ⟨g4, 0, none⟩ 6 c4 (bys (le 6 e.sq)) rfl (by rw [bys_length, le_length]) Y4.out (bys_one _) (by unfold maxLen; omega) (by omega) S4.out ?_
  intro v4 W4 hown' hgrow hnil
  have T4 := Lib.hid (R4.out.app ⟨by omega, by omega⟩ hown' hgrow)
  clear hown' hgrow hnil
  obtain ⟨⟨x0, x1, x2⟩, x3, x4, x5⟩ := T4.out.ent.ent
  go_wp2_with fail
  refine (ref_num W4 4 e.sm (by omega) HE.out.sm.1 (by have := HE.out.sm.2; omega)).mono ?_
  rintro r w5 ⟨u5, rfl, hown5, hb5⟩
  obtain ⟨g5, c5, rfl⟩ := own_succ hown5
  have R5 := Lib.hid (T4.out.grow hb5)
  have Y5 := Lib.hid (row_cells hown5 (le_length 4 e.sm))
  have S5 : Hid (w.heap.size + 1 ≤ w5.heap.size) := Lib.hid (by have := R5.out.ent.lt; omega)
  clear hown5 hb5 x0 x1 x2 x3 x4 x5
  go_wp2_with (at_builtin; refine Hid.out ?_)
  refine Lib.hid ?_
  refine wpList_append_own _ rfl _ _ 106 rfl (w.heap.size + 1) 5 i0 (.int .u8 0) 1 1 Try.underlying106 hi hz0 hz1 hz2 rfl (by omega) v4 12 (bys (le 1 e.st ++ le 2 e.zn ++ le 2 e.mt ++ le 1 e.off ++ le 6 e.sq)) rfl R5.out.row ⟨g5, 0, none⟩ 4 c5 (bys (le 4 e.sm)) rfl (by rw [bys_length, le_length]) Y5.out (bys_one _) (by unfold maxLen; omega) (by omega) S5.out ?_
  intro v5 W5 hown' hgrow hnil
  have T5 := Lib.hid (R5.out.app ⟨by omega, by omega⟩ hown' hgrow)
  clear hown' hgrow hnil
  go_wp2
  go_ret
  have hx := T5.out.row
  refine ⟨v5, rfl, ?_, T5.out.u⟩
  exact own_lower hx (by omega)
end Go.Proofs.Ytcgafnmpfdkfoaa
