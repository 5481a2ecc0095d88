/- The reference's frames: revetmentref12.S.Frames (under way). -/
import Derived.Test.YtcgafnmpfdkfoaaRefB2
import Derived.Test.YtcgafnmpfdkfoaaComp
import Derived.Deep.AppendLies
import Derived.Deep.RegionHeld3
namespace Go.Proofs.Ytcgafnmpfdkfoaa
open Go.RowKit

/-- A row of bytes beyond a world that stays as it was. -/
structure RowK (V0 W : World) (v : Value) (n : Nat) (xs : List Int) : Prop where
  row : W.ownsRow V0.heap.size 5 1 v n (bys xs)
  u : Below V0.heap.size V0 W
theorem RowK.grow {V0 W W' : World} {v : Value} {n : Nat} {xs : List Int} (h : RowK V0 W v n xs) (k : Below W.heap.size W W') : RowK V0 W' v n xs := ⟨own_grow' h.row k, h.u.trans (k.mono h.u.size)⟩
theorem RowK.app {V0 W W' : World} {v v' : Value} {n m : Nat} {xs ys : List Int} (h : RowK V0 W v n xs) (hown : W'.ownsRow V0.heap.size 5 1 v' (n + m) (bys xs ++ bys ys)) (hg : W.grownBy W' v.ownBlock) : RowK V0 W' v' (n + m) (xs ++ ys) :=
  ⟨by rw [bys, List.map_append]; exact hown, h.u.grown hg h.u.size (fun j ej => (World.ownsRow.lt h.row j ej).1)⟩
theorem Blk.rcells10 {w : World} {b : Nat} {t : TypeId} {s : Sn} {g : G} {v : Value} (h : Blk w b t (refArr s g v)) : ((w.cell? ⟨b, 0, none⟩ = some (.int .i64 s.gen) ∧ w.cell? ⟨b, 1, none⟩ = some (.int .i64 s.ep)) ∧ w.cell? ⟨b, 2, none⟩ = some (.int .i64 s.nx) ∧ w.cell? ⟨b, 9, none⟩ = some v) ∧
    ((w.cell? ⟨b, 3, none⟩ = some (.int .i64 g.D) ∧ w.cell? ⟨b, 4, none⟩ = some (.int .i64 g.Z) ∧ w.cell? ⟨b, 5, none⟩ = some (.int .i64 g.S)) ∧ w.cell? ⟨b, 6, none⟩ = some (.int .i64 g.B) ∧ w.cell? ⟨b, 7, none⟩ = some (.int .i64 g.P) ∧ w.cell? ⟨b, 8, none⟩ = some (.int .i64 g.O)) :=
  ⟨⟨⟨by rw [h.cell]; rfl, by rw [h.cell]; rfl⟩, by rw [h.cell]; rfl, by rw [h.cell]; rfl⟩, ⟨by rw [h.cell]; rfl, by rw [h.cell]; rfl, by rw [h.cell]; rfl⟩, by rw [h.cell]; rfl, by rw [h.cell]; rfl, by rw [h.cell]; rfl⟩

def RFramesPost (w : World) (s : Sn) (g : G) (l : List E) (z : Int) (r : Ending) (w' : World) : Prop :=
  ∃ u, r = .returned u ∧ w'.ownsRow w.heap.size 77 49 u (nparts l) (flatF (frames s g l z)) ∧ Below w.heap.size w w'
theorem build_fold_o (k z o e q : Int) (D F : Array Value) (hD : D.size = 44) (hF : Fr5 k z o e q ++ D = F) :
    Array.foldl (fun cs (x : Value × Nat) => cs.setIfInBounds (5 + x.snd) x.fst) #[.int .i64 k, .int .i64 z, .int .i64 o, .int .i64 e, .int .i64 q, .int .u8 0, .int .u8 0, .int .u8 0, .int .u8 0, .int .u8 0, .int .u8 0, .int .u8 0, .int .u8 0, .int .u8 0, .int .u8 0, .int .u8 0, .int .u8 0, .int .u8 0, .int .u8 0, .int .u8 0, .int .u8 0, .int .u8 0, .int .u8 0, .int .u8 0, .int .u8 0, .int .u8 0, .int .u8 0, .int .u8 0, .int .u8 0, .int .u8 0, .int .u8 0, .int .u8 0, .int .u8 0, .int .u8 0, .int .u8 0, .int .u8 0, .int .u8 0, .int .u8 0, .int .u8 0, .int .u8 0, .int .u8 0, .int .u8 0, .int .u8 0, .int .u8 0, .int .u8 0, .int .u8 0, .int .u8 0, .int .u8 0, .int .u8 0] D.zipIdx 0 44 = F := by
  have h := fold_over D 5 (Fr5 k z o e q ++ Z44) (by rw [Array.size_append, Z44_size, hD]; exact Nat.le_refl _)
  rw [over_frame _ _ _ _ _ _ hD, hF] at h
  simp [hD] at h
  exact h
theorem info_refF : (Try.prog.info? 77).map (fun i => (i.zero, i.size, i.bytes)) = some (some (.agg Z49), 49, 88) := by kernel_rfl
theorem size_refF : (Try.prog.info? 77).map (·.size) = some 49 := by kernel_rfl
set_option maxRecDepth 100000 in
set_option maxHeartbeats 2000000 in
theorem ref_frames (w : World) (s : Sn) (g : G) (l : List E) (lv : List Int) (hO : MapOk g l lv) (hs : s.right l = true) (rb rc : Nat) (hrow : w.ownsRow 0 46 6 (.slice (some ⟨rb, 0, none⟩) l.length rc) l.length (flat l)) (z : Int) :
    Calls Try.prog 48 #[.agg (refArr s g (.slice (some ⟨rb, 0, none⟩) l.length rc)), .int .i64 z] w (RFramesPost w s g l z) := by
  obtain ⟨i0, hi, hz0, hz1, hz2⟩ := info_parts info_byte
  obtain ⟨sv, hsv⟩ : ∃ sv : Value, Hid (.slice (some ⟨rb, 0, none⟩) l.length rc = sv) := ⟨_, Lib.hid rfl⟩
  rw [hsv.out]
  obtain ⟨V0, hV0⟩ : ∃ V, w.alloc (.cells (refArr s g sv) 55) = V := ⟨_, rfl⟩
  have k0 : Blk V0 w.heap.size 55 (refArr s g sv) := by rw [← hV0]; exact Blk.newAt rfl
  have u0 : Below w.heap.size w V0 := by rw [← hV0]; exact below_box _ _
  have K0 := Lib.hid k0
  have U0 := Lib.hid u0
  have HS := Lib.hid (G.small_of_right hO.right)
  have HN := Lib.hid (right_nx hs)
  have fa : Hid (∀ W, Below V0.heap.size V0 W → Blk W w.heap.size 55 (refArr s g sv)) := Lib.hid fun W k => (Keeps.of_below (S := []) k).blk K0.out.lt (by simp) K0.out
  obtain ⟨⟨⟨x0, x1⟩, x2, x9⟩, ⟨x3, x4, x5⟩, x6, x7, x8⟩ := k0.rcells10
  obtain ⟨d0, d1, d2, d3, d4, d5, d6, d7, d8, d9, d10, d11⟩ := HS.out
  clear k0 u0
  go_enter Try.func48, Try.ntmps48
  go_wp2_with fail
  clear hV0
  refine (ref_num V0 6 s.nx (by omega) (by have := HN.out; omega) (by have := HN.out; omega)).mono ?_
  rintro r w1 ⟨v1, rfl, hown1, hb1⟩
  have T1 : Hid (RowK V0 w1 v1 6 (le 6 s.nx)) := Lib.hid ⟨hown1, hb1⟩
  clear hown1 hb1
  clear x0 x1 x2 x9 x3 x4 x5 x6 x7 x8
  obtain ⟨⟨⟨x0, x1⟩, x2, x9⟩, ⟨x3, x4, x5⟩, x6, x7, x8⟩ := (fa.out _ T1.out.u).rcells10
  go_wp2_with (at_builtin; refine Hid.out ?_)
  refine Lib.hid ?_
  have hl2 : bys (le 1 g.D ++ le 1 g.Z ++ le 1 g.S) = [.int .u8 g.D, .int .u8 g.Z, .int .u8 g.S] := by simp [bys, le]; omega
  refine wpList_append_own _ rfl _ _ 106 rfl V0.heap.size 5 i0 (.int .u8 0) 1 1 Try.underlying106 hi hz0 hz1 hz2 rfl (by omega) v1 6 (bys (le 6 s.nx)) rfl (T1.out.grow (below_box w1 (.cells #[.int .u8 g.D, .int .u8 g.Z, .int .u8 g.S] 5))).row ⟨w1.heap.size, 0, none⟩ 3 3 (bys (le 1 g.D ++ le 1 g.Z ++ le 1 g.S)) rfl (by rw [hl2]; rfl) (by rw [hl2]; exact fun j u hu => by rw [Addr.add_nat_zero, cell_of_row _ _ j _ _ (0, 0) (World.alloc_heap_new w1 _)]; simpa using hu) (bys_one _) (by unfold maxLen; omega) (by omega) (by have := T1.out.u.size; simp; omega) ?_
  intro v2 w2 hown' hgrow hnil
  have T2 := Lib.hid ((T1.out.grow (below_box w1 (.cells #[.int .u8 g.D, .int .u8 g.Z, .int .u8 g.S] 5))).app hown' hgrow)
  clear hown' hgrow hnil hl2
  clear x0 x1 x2 x9 x3 x4 x5 x6 x7 x8
  obtain ⟨⟨⟨x0, x1⟩, x2, x9⟩, ⟨x3, x4, x5⟩, x6, x7, x8⟩ := (fa.out _ T2.out.u).rcells10
  go_wp2_with fail
  refine (ref_num w2 2 g.B (by omega) (by omega) (by omega)).mono ?_
  rintro r w3 ⟨u3, rfl, hown3, hb3⟩
  obtain ⟨g3, c3, rfl⟩ := own_succ hown3
  have R3 := Lib.hid (T2.out.grow hb3)
  have Y3 := Lib.hid (row_cells hown3 (le_length 2 g.B))
  clear hown3 hb3
  go_wp2_with (at_builtin; refine Hid.out ?_)
  refine Lib.hid ?_
  refine wpList_append_own _ rfl _ _ 106 rfl V0.heap.size 5 i0 (.int .u8 0) 1 1 Try.underlying106 hi hz0 hz1 hz2 rfl (by omega) v2 9 (bys (le 6 s.nx ++ (le 1 g.D ++ le 1 g.Z ++ le 1 g.S))) rfl R3.out.row ⟨g3, 0, none⟩ 2 c3 (bys (le 2 g.B)) rfl (by rw [bys_length, le_length]) Y3.out (bys_one _) (by unfold maxLen; omega) (by omega) R3.out.u.size ?_
  intro v4 w4 hown' hgrow hnil
  have T4 := Lib.hid (R3.out.app hown' hgrow)
  clear hown' hgrow hnil
  clear x0 x1 x2 x9 x3 x4 x5 x6 x7 x8
  obtain ⟨⟨⟨x0, x1⟩, x2, x9⟩, ⟨x3, x4, x5⟩, x6, x7, x8⟩ := (fa.out _ T4.out.u).rcells10
  go_wp2_with (at_builtin; refine Hid.out ?_)
  refine Lib.hid ?_
  have hl5 : bys (le 1 g.P ++ le 1 g.O) = [.int .u8 g.P, .int .u8 g.O] := by simp [bys, le]; omega
  refine wpList_append_own _ rfl _ _ 106 rfl V0.heap.size 5 i0 (.int .u8 0) 1 1 Try.underlying106 hi hz0 hz1 hz2 rfl (by omega) v4 11 (bys (le 6 s.nx ++ (le 1 g.D ++ le 1 g.Z ++ le 1 g.S) ++ le 2 g.B)) rfl (T4.out.grow (below_box w4 (.cells #[.int .u8 g.P, .int .u8 g.O] 5))).row ⟨w4.heap.size, 0, none⟩ 2 2 (bys (le 1 g.P ++ le 1 g.O)) rfl (by rw [hl5]; rfl) (by rw [hl5]; exact fun j u hu => by rw [Addr.add_nat_zero, cell_of_row _ _ j _ _ (0, 0) (World.alloc_heap_new w4 _)]; simpa using hu) (bys_one _) (by unfold maxLen; omega) (by omega) (by have := T4.out.u.size; simp; omega) ?_
  intro v5 w5 hown' hgrow hnil
  have T5 := Lib.hid ((T4.out.grow (below_box w4 (.cells #[.int .u8 g.P, .int .u8 g.O] 5))).app hown' hgrow)
  clear hown' hgrow hnil hl5
  obtain ⟨g5, c5, rfl⟩ := own_succ T5.out.row
  obtain ⟨D, hD⟩ : ∃ D : Array Value, Hid ((bys (headB g s.nx)).toArray = D) := ⟨_, Lib.hid rfl⟩
  have hDs : D.size = 44 := by rw [← hD.out, List.size_toArray, bys_length, headB_length]
  obtain ⟨F, hF⟩ : ∃ F : Array Value, Fr5 4 z 0 s.ep s.gen ++ D = F := ⟨_, rfl⟩
  have hbuild := build_fold 4 z s.ep s.gen D F hDs hF
  have hFs : F.size = 49 := by rw [← hF, Array.size_append, hDs]; rfl
  have hsf := slice_fold F hFs
  have hcb : Hid (∀ W, Below w5.heap.size w5 W → Calls Try.prog 90 #[.slice (some ⟨g5, 0, none⟩) 13 c5] W fun r w' => r = .returned (.agg D) ∧ Below W.heap.size W w') := Lib.hid fun W hk => by
    have hr := ((T5.out.grow hk).row)
    have hlen : (le 6 s.nx ++ (le 1 g.D ++ le 1 g.Z ++ le 1 g.S) ++ le 2 g.B ++ (le 1 g.P ++ le 1 g.O)).length = 13 := by simp [le_length]
    have hp : pad44 (le 6 s.nx ++ (le 1 g.D ++ le 1 g.Z ++ le 1 g.S) ++ le 2 g.B ++ (le 1 g.P ++ le 1 g.O)) = headB g s.nx := by unfold headB; congr 1
    rw [← hD.out, ← hp]
    refine ref_bytes W g5 c5 13 (le 6 s.nx ++ (le 1 g.D ++ le 1 g.Z ++ le 1 g.S) ++ le 2 g.B ++ (le 1 g.P ++ le 1 g.O)) (fun j v hv => ?_) (hr.lt _ rfl).2 hlen (by omega)
    have hj := (List.getElem?_eq_some_iff.1 hv).1
    rw [hr.cellAt j (by omega)]
    simp only [bys, List.getElem?_map, hv, Option.map_some]
  have HF := Lib.hid hF
  have hfrom := @From.cell w5
  have q5 := (fa.out _ T5.out.u).lt
  clear hF
  clear x0 x1 x2 x9 x3 x4 x5 x6 x7 x8
  obtain ⟨⟨⟨x0, x1⟩, x2, x9⟩, ⟨x3, x4, x5⟩, x6, x7, x8⟩ := (fa.out _ T5.out.u).rcells10
  go_wp2_with fail
  refine region_from_tail 7 (by kernel_rfl) (by kernel_rfl) ?_
  dsimp only [List.take, List.drop]
  repeat (go_big_quiet_step ((go_at_call 90; exact from_call (hcb.out _ (From.below _)))))
  refine wpQuiet_nil ?_
  intro W hW
  have HF1 : Hid ((frames s g l z).take 1 = [frameAt s g l z 0]) := Lib.hid (by
    have := frames_get s g l z 0 (by unfold nparts; omega)
    rw [List.take_add_one, this]
    rfl)
  have hst1 : ∀ X : World, (storeCells ⟨X.heap.size, 0, none⟩ F.toList 0).run Try.prog (X.alloc (.cells Z49 77)) = .ok () (X.alloc (.cells F 77)) := fun X => run_storeCells_new X 77 Z49 F (by rw [hFs]; exact size_refF) (by rw [hFs]; rfl) (by
    have := Fr.one (frameAt s g l z 0)
    rw [← HF.out, ← hD.out]
    exact this)
  have hFA : Hid (F = (frameAt s g l z 0).arr) := Lib.hid (by rw [← HF.out, ← hD.out]; rfl)
  have HFS := Lib.hid hFs
  have UW : Hid (Below V0.heap.size V0 W) := Lib.hid (T5.out.u.trans (hW.mono T5.out.u.size))
  go_wp2_with fail
  clear hbuild hsf hFs hst1 hDs hW hfrom q5 x0 x1 x2 x9 x3 x4 x5 x6 x7 x8
  go_loopw [6, 7] (fun v i wr => ∃ k : Nat, 1 ≤ k ∧ k ≤ nparts l ∧ i = .int .i64 k ∧ wr.ownsRow V0.heap.size 77 49 v k (flatF ((frames s g l z).take k)) ∧ Below V0.heap.size V0 wr) (fun _ i _ => nparts l - (intOf i).toNat)
  case atStart =>
    refine ⟨1, Nat.le_refl _, by unfold nparts; omega, rfl, ?_, UW.out.alloc UW.out.size _⟩
    rw [HF1.out]
    exact own_blk (Blk.newAt rfl) UW.out.size (Nat.le_refl _) (by unfold maxLen; omega) (by rw [HFS.out]) (by simp [flatF, ← hFA.out, HFS.out]) (by simp [flatF, ← hFA.out]; exact List.take_of_length_le (by rw [Array.length_toList, HFS.out]; exact Nat.le_refl _))
  case round =>
    obtain ⟨k, hk1, hkn, rfl, hown, hB⟩ := hrel
    have HB := Lib.hid hB
    have HO' := Lib.hid hown
    have hk1000 : k ≤ 1000 := by have := hO.len1000; unfold nparts at hkn; omega
    obtain ⟨⟨⟨x0, x1⟩, x2, x9⟩, ⟨x3, x4, x5⟩, x6, x7, x8⟩ := (fa.out _ HB.out).rcells10
    rw [← hsv.out] at x9
    have hyl := (fa.out _ HB.out).lt
    clear hB hown
    by_cases hlt : k < nparts l
    · obtain ⟨a, ha⟩ : ∃ a : Nat, 2 * (k : Int) - 2 = a := ⟨2 * (k - 1), by omega⟩
      have hal : a < l.length := by unfold nparts at hlt; omega
      have hak : Hid (a = 2 * (k - 1)) := Lib.hid (by omega)
      have Hlt := Lib.hid hlt
      obtain ⟨e0, he0⟩ : ∃ e, l[a]? = some e := ⟨_, List.getElem?_eq_getElem hal⟩
      have hfit0 := (hO.sn hs).fits e0 (List.mem_of_getElem? he0)
      have kb : (k : Int) < 256 := by have := hO.len; have := HS.out.B1; unfold nparts at hlt; omega
      have R1 : Hid (RowK wr (wr.alloc (.cells #[.int .u8 k] 5)) (.slice (some ⟨wr.heap.size, 0, none⟩) 1 1) 1 (le 1 k)) := Lib.hid ⟨own_blk (Blk.newAt rfl) (Nat.le_refl _) (Nat.le_refl _) (by unfold maxLen; omega) rfl (by simp [bys, le]) (by rw [show bys (le 1 (k : Int)) = [.int .u8 k] by simp [bys, le]; omega]; rfl), below_box _ _⟩
      have er0 : EntReads (wr.alloc (.cells #[.int .u8 k] 5)) rb a e0 := by
        have h1 : (wr.alloc (.cells #[.int .u8 k] 5)).ownsRow 0 46 6 (.slice (some ⟨rb, 0, none⟩) l.length rc) l.length (flat l) := own_grow' hrow (U0.out.trans ((HB.out.trans ((below_box _ _).mono HB.out.size)).mono U0.out.size))
        exact own_ent h1 he0
      obtain ⟨p0, p1, p2, p3, p4, p5⟩ := er0
      have HFit0 := Lib.hid hfit0
      have HE0 := Lib.hid he0
      have hrb0 : rb < w.heap.size := (hrow.lt _ rfl).2
      have hrbl : rb < wr.heap.size := Nat.lt_of_lt_of_le hrb0 (Nat.le_trans U0.out.size HB.out.size)
      clear hlt he0 hfit0
      go_wp2_with fail
      refine (ref_entry (wr.alloc (.cells #[.int .u8 k] 5)) e0 HFit0.out).mono ?_
      rintro r w6 ⟨u6', rfl, hown6, hb6⟩
      obtain ⟨g6, c6, rfl⟩ := own_succ hown6
      have R6 := Lib.hid (R1.out.grow hb6)
      have Y6 := Lib.hid (row_cells hown6 (entB_length e0))
      clear hown6 hb6 p0 p1 p2 p3 p4 p5 x0 x1 x2 x9 x3 x4 x5 x6 x7 x8
      go_wp2_with (at_builtin; refine Hid.out ?_)
      refine Lib.hid ?_
      refine wpList_append_own _ rfl _ _ 106 rfl wr.heap.size 5 i0 (.int .u8 0) 1 1 Try.underlying106 hi hz0 hz1 hz2 rfl (by omega) (.slice (some ⟨wr.heap.size, 0, none⟩) 1 1) 1 (bys (le 1 k)) rfl R6.out.row ⟨g6, 0, none⟩ 16 c6 (bys (entB e0)) rfl (by rw [bys_length, entB_length]) Y6.out (bys_one _) (by unfold maxLen; omega) (by omega) R6.out.u.size ?_
      intro v7 w7 hown' hgrow hnil
      have T7 := Lib.hid (R6.out.app hown' hgrow)
      clear hown' hgrow hnil
      have UV7 : Hid (Below V0.heap.size V0 w7) := Lib.hid (HB.out.trans (T7.out.u.mono HB.out.size))
      obtain ⟨⟨⟨x0, x1⟩, x2, x9⟩, ⟨x3, x4, x5⟩, x6, x7, x8⟩ := (fa.out _ UV7.out).rcells10
      rw [← hsv.out] at x9
      have hyl7 := (fa.out _ UV7.out).lt
      have hrb7 : rb < w7.heap.size := Nat.lt_of_lt_of_le hrbl T7.out.u.size
      have hrow7 : Hid (w7.ownsRow 0 46 6 (.slice (some ⟨rb, 0, none⟩) l.length rc) l.length (flat l)) := Lib.hid (own_grow' hrow (U0.out.trans (UV7.out.mono U0.out.size)))
      obtain ⟨b, hb⟩ : ∃ b : Nat, 2 * (k : Int) - 1 = b := ⟨2 * (k - 1) + 1, by omega⟩
      have hbk : Hid (b = 2 * (k - 1) + 1) := Lib.hid (by omega)
      by_cases hbl : b < l.length
      · obtain ⟨e1, he1⟩ : ∃ e, l[b]? = some e := ⟨_, List.getElem?_eq_getElem hbl⟩
        have HFit1 := Lib.hid ((hO.sn hs).fits e1 (List.mem_of_getElem? he1))
        have HE1 := Lib.hid he1
        obtain ⟨p0, p1, p2, p3, p4, p5⟩ := own_ent hrow7.out he1
        clear he1
        go_wp2_with fail
        refine (ref_entry w7 e1 HFit1.out).mono ?_
        rintro r w8 ⟨u8', rfl, hown8, hb8⟩
        obtain ⟨g8, c8, rfl⟩ := own_succ hown8
        have R8 := Lib.hid (T7.out.grow hb8)
        have Y8 := Lib.hid (row_cells hown8 (entB_length e1))
        clear hown8 hb8 p0 p1 p2 p3 p4 p5 x0 x1 x2 x9 x3 x4 x5 x6 x7 x8
        go_wp2_with (at_builtin; refine Hid.out ?_)
        refine Lib.hid ?_
        refine wpList_append_own _ rfl _ _ 106 rfl wr.heap.size 5 i0 (.int .u8 0) 1 1 Try.underlying106 hi hz0 hz1 hz2 rfl (by omega) v7 (1 + 16) (bys (le 1 k ++ entB e0)) rfl R8.out.row ⟨g8, 0, none⟩ 16 c8 (bys (entB e1)) rfl (by rw [bys_length, entB_length]) Y8.out (bys_one _) (by unfold maxLen; omega) (by omega) R8.out.u.size ?_
        intro v9 w9 hown' hgrow hnil
        have T9 := Lib.hid (R8.out.app hown' hgrow)
        clear hown' hgrow hnil
        obtain ⟨g9, c9, rfl⟩ := own_succ T9.out.row
        obtain ⟨D9, hD9⟩ : ∃ D : Array Value, Hid ((bys (partB l k)).toArray = D) := ⟨_, Lib.hid rfl⟩
        have hDs9 : D9.size = 44 := by rw [← hD9.out, List.size_toArray, bys_length, partB_length]
        obtain ⟨F9, hF9⟩ : ∃ F : Array Value, Fr5 5 z k s.ep s.gen ++ D9 = F := ⟨_, rfl⟩
        have hbuild9 := build_fold_o 5 z k s.ep s.gen D9 F9 hDs9 hF9
        have hFs9 : F9.size = 49 := by rw [← hF9, Array.size_append, hDs9]; rfl
        have hsf9 := slice_fold F9 hFs9
        have hFA9 : Hid (F9 = (frameAt s g l z k).arr) := Lib.hid (by rw [← hF9, ← hD9.out]; unfold frameAt Fr.arr; rw [if_neg (by omega)])
        have hst9 : ∀ X : World, (storeCells ⟨X.heap.size, 0, none⟩ F9.toList 0).run Try.prog (X.alloc (.cells Z49 77)) = .ok () (X.alloc (.cells F9 77)) := fun X => run_storeCells_new X 77 Z49 F9 (by rw [hFs9]; exact size_refF) (by rw [hFs9]; rfl) (hFA9.out ▸ Fr.one (frameAt s g l z k))
        have hone9 : ∀ u ∈ F9.toList, u.oneCell' = true := fun u hu => (Array.all_eq_true_iff_forall_mem.1 (hFA9.out ▸ Fr.one (frameAt s g l z k))) u (by simpa using hu)
        have hcb9 : Hid (∀ W, Below w9.heap.size w9 W → Calls Try.prog 90 #[.slice (some ⟨g9, 0, none⟩) 33 c9] W fun r w' => r = .returned (.agg D9) ∧ Below W.heap.size W w') := Lib.hid fun W hk => by
          have hr := ((T9.out.grow hk).row)
          have hlen : (le 1 k ++ entB e0 ++ entB e1).length = 33 := by simp [le_length, entB_length]
          have hp : pad44 (le 1 k ++ entB e0 ++ entB e1) = partB l k := by
            unfold partB
            rw [← hak.out, show a + 1 = b by have h1 := hak.out; have h2 := hbk.out; omega, List.getD_eq_getElem?_getD, List.getD_eq_getElem?_getD, HE0.out, HE1.out]
            rfl
          rw [← hD9.out, ← hp]
          refine ref_bytes W g9 c9 33 (le 1 k ++ entB e0 ++ entB e1) (fun j v hv => ?_) (hr.lt _ rfl).2 hlen (by omega)
          have hj := (List.getElem?_eq_some_iff.1 hv).1
          rw [hr.cellAt j (by omega)]
          simp only [bys, List.getElem?_map, hv, Option.map_some]
        have UV9 : Hid (Below V0.heap.size V0 w9) := Lib.hid (HB.out.trans (T9.out.u.mono HB.out.size))
        have HFS9 := Lib.hid hFs9
        have HONE9 := Lib.hid hone9
        have hfrom := @From.cell w9
        have q9 := (fa.out _ UV9.out).lt
        obtain ⟨⟨⟨x0, x1⟩, x2, x9⟩, ⟨x3, x4, x5⟩, x6, x7, x8⟩ := (fa.out _ UV9.out).rcells10
        obtain ⟨iF, hiF, hzF0, hzF1, hzF2⟩ := info_parts info_refF
        have HTK : Hid (∀ W, Below w9.heap.size w9 W → W.cell? ⟨w.heap.size, 0, none⟩ = some (.int .i64 s.gen) ∧ W.cell? ⟨w.heap.size, 1, none⟩ = some (.int .i64 s.ep)) := Lib.hid fun W hk => by have h := (fa.out W (UV9.out.trans (hk.mono UV9.out.size))).rcells10; exact ⟨h.1.1.1, h.1.1.2⟩
        have hrowF : Hid (∀ W, Below w9.heap.size w9 W → W.ownsRow V0.heap.size 77 49 u6 k (flatF ((frames s g l z).take k))) := Lib.hid fun W hk => own_grow' HO'.out (T9.out.u.trans (hk.mono T9.out.u.size))
        clear hF9 hone9
        go_wp2_with fail
        have hlk : (flatF ((frames s g l z).take k)).length = k * 49 := by rw [flatF_length (fun f hf => frames_ok s g l z f (List.mem_of_mem_take hf)), List.length_take, frames_length, Nat.min_eq_left hkn]
        have HKP : Hid (∀ W W', Below w9.heap.size w9 W → (W.alloc (.cells F9 77)).grownBy W' u6.ownBlock → W'.cell? ⟨w.heap.size, 0, none⟩ = some (.int .i64 s.gen) ∧ W'.cell? ⟨w.heap.size, 1, none⟩ = some (.int .i64 s.ep)) := Lib.hid fun W W' hk hg => by
          have h := HTK.out _ (hk.alloc hk.size (.cells F9 77))
          have hs := hk.size
          have hv0 := (fa.out _ (Below.refl _ _)).lt
          have hne : some w.heap.size ≠ u6.ownBlock := fun e => by have := (World.ownsRow.lt HO'.out _ e.symm).1; omega
          have hlt : w.heap.size < (W.alloc (.cells F9 77)).heap.size := by simp; omega
          exact ⟨(hg.cell_far ⟨w.heap.size, 0, none⟩ hlt hne).trans h.1, (hg.cell_far ⟨w.heap.size, 1, none⟩ hlt hne).trans h.2⟩
        have hsz9 : V0.heap.size ≤ w9.heap.size := UV9.out.size
        go_region_held3 (fun w' => w'.cell? ⟨w.heap.size, 0, none⟩ = some (.int .i64 s.gen) ∧ w'.cell? ⟨w.heap.size, 1, none⟩ = some (.int .i64 s.ep))
          (first | (go_keep; done) | exact HTK.out _ hB11 | exact HTK.out _ (hB11.alloc hB11.size _) | exact HKP.out _ _ hB11 hgrow)
          (first
            | (go_at_call 90; refine (hcb9.out _ (below_drew (Below.refl _ _))).mono ?_; rintro e w11 ⟨rfl, hb11⟩; have hB11 : Below w9.heap.size w9 w11 := (below_drew (Below.refl _ _)).trans hb11)
            | (refine step_append_lies _ (by rfl) _ _ _ (by rfl) V0.heap.size 77 iF (.agg Z49) 49 88 Try.underlying75 hiF hzF0 hzF1 hzF2 rfl (by omega) u6 k (flatF ((frames s g l z).take k)) (by rfl) (World.ownsRow.alloc (hrowF.out w11 hB11) _) ⟨w11.heap.size, 0, none⟩ 1 1 F9.toList (by rfl) (by rw [Array.length_toList, HFS9.out]) (fun j v hv => by rw [Addr.add_nat_zero, cell_of_row _ _ j F9 _ (0, 0) (World.alloc_heap_new w11 _)]; simpa using hv) HONE9.out (by omega) (by unfold maxLen; omega) (by omega) (by have h2 := hB11.size; simp; omega) (w11.heap.size + 1) (by simp) ?_; intro g10 c10 w10 hown' hgrow hat hlt10))
        have hBV : Below V0.heap.size V0 (w11.alloc (.cells F9 77)) := (UV9.out.trans (hB11.mono UV9.out.size)).alloc (by have h1 := UV9.out.size; have h2 := hB11.size; omega) _
        have HB10 := Lib.hid (hBV.grown hgrow hBV.size (fun j ej => (World.ownsRow.lt HO'.out j ej).1))
        have L10 : Hid (w10.ownsRow V0.heap.size 77 49 (.slice (some ⟨g10, 0, none⟩) (k + 1) c10) (k + 1) (flatF ((frames s g l z).take (k + 1)))) := Lib.hid (by
          rw [frames_snoc _ _ _ _ _ Hlt.out, flatF_append, show flatF [frameAt s g l z k] = F9.toList by rw [hFA9.out]; simp [flatF]]
          exact hown')
        clear hown' hgrow hat hlt10 hBV hB11 hb11 hbuild9 hsf9 hst9 x0 x1 x2 x9 x3 x4 x5 x6 x7 x8
        go_wp2
        go_roundw
        case rel => exact ⟨k + 1, by omega, Hlt.out, by simp, L10.out, HB10.out⟩
        case measure => have := Hlt.out; simp [intOf]; omega
      · have hz1 : l.getD (2 * (k - 1) + 1) E0 = E0 := by rw [List.getD_eq_getElem?_getD, List.getElem?_eq_none (by have := hbk.out; omega)]; rfl
        have HZ1 := Lib.hid hz1
        clear hz1
        obtain ⟨g9, c9, rfl⟩ := own_succ T7.out.row
        obtain ⟨D9, hD9⟩ : ∃ D : Array Value, Hid ((bys (partB l k)).toArray = D) := ⟨_, Lib.hid rfl⟩
        have hDs9 : D9.size = 44 := by rw [← hD9.out, List.size_toArray, bys_length, partB_length]
        obtain ⟨F9, hF9⟩ : ∃ F : Array Value, Fr5 5 z k s.ep s.gen ++ D9 = F := ⟨_, rfl⟩
        have hbuild9 := build_fold_o 5 z k s.ep s.gen D9 F9 hDs9 hF9
        have hFs9 : F9.size = 49 := by rw [← hF9, Array.size_append, hDs9]; rfl
        have hsf9 := slice_fold F9 hFs9
        have hFA9 : Hid (F9 = (frameAt s g l z k).arr) := Lib.hid (by rw [← hF9, ← hD9.out]; unfold frameAt Fr.arr; rw [if_neg (by omega)])
        have hst9 : ∀ X : World, (storeCells ⟨X.heap.size, 0, none⟩ F9.toList 0).run Try.prog (X.alloc (.cells Z49 77)) = .ok () (X.alloc (.cells F9 77)) := fun X => run_storeCells_new X 77 Z49 F9 (by rw [hFs9]; exact size_refF) (by rw [hFs9]; rfl) (hFA9.out ▸ Fr.one (frameAt s g l z k))
        have hone9 : ∀ u ∈ F9.toList, u.oneCell' = true := fun u hu => (Array.all_eq_true_iff_forall_mem.1 (hFA9.out ▸ Fr.one (frameAt s g l z k))) u (by simpa using hu)
        have hcb9 : Hid (∀ W, Below w7.heap.size w7 W → Calls Try.prog 90 #[.slice (some ⟨g9, 0, none⟩) 17 c9] W fun r w' => r = .returned (.agg D9) ∧ Below W.heap.size W w') := Lib.hid fun W hk => by
          have hr := ((T7.out.grow hk).row)
          have hlen : (le 1 k ++ entB e0).length = 17 := by simp [le_length, entB_length]
          have hp : pad44 (le 1 k ++ entB e0) = partB l k := by
            unfold partB pad44
            rw [HZ1.out, ← hak.out, List.getD_eq_getElem?_getD, HE0.out]
            simp [le_length, entB, le_zero, E0, List.append_assoc]
          rw [← hD9.out, ← hp]
          refine ref_bytes W g9 c9 17 (le 1 k ++ entB e0) (fun j v hv => ?_) (hr.lt _ rfl).2 hlen (by omega)
          have hj := (List.getElem?_eq_some_iff.1 hv).1
          rw [hr.cellAt j (by omega)]
          simp only [bys, List.getElem?_map, hv, Option.map_some]
        have UV9 : Hid (Below V0.heap.size V0 w7) := Lib.hid (HB.out.trans (T7.out.u.mono HB.out.size))
        have HFS9 := Lib.hid hFs9
        have HONE9 := Lib.hid hone9
        have hfrom := @From.cell w7
        have q9 := (fa.out _ UV9.out).lt
        obtain ⟨⟨⟨x0, x1⟩, x2, x9⟩, ⟨x3, x4, x5⟩, x6, x7, x8⟩ := (fa.out _ UV9.out).rcells10
        obtain ⟨iF, hiF, hzF0, hzF1, hzF2⟩ := info_parts info_refF
        have HTK : Hid (∀ W, Below w7.heap.size w7 W → W.cell? ⟨w.heap.size, 0, none⟩ = some (.int .i64 s.gen) ∧ W.cell? ⟨w.heap.size, 1, none⟩ = some (.int .i64 s.ep)) := Lib.hid fun W hk => by have h := (fa.out W (UV9.out.trans (hk.mono UV9.out.size))).rcells10; exact ⟨h.1.1.1, h.1.1.2⟩
        have hrowF : Hid (∀ W, Below w7.heap.size w7 W → W.ownsRow V0.heap.size 77 49 u6 k (flatF ((frames s g l z).take k))) := Lib.hid fun W hk => own_grow' HO'.out (T7.out.u.trans (hk.mono T7.out.u.size))
        clear hF9 hone9
        go_wp2_with fail
        have hlk : (flatF ((frames s g l z).take k)).length = k * 49 := by rw [flatF_length (fun f hf => frames_ok s g l z f (List.mem_of_mem_take hf)), List.length_take, frames_length, Nat.min_eq_left hkn]
        have HKP : Hid (∀ W W', Below w7.heap.size w7 W → (W.alloc (.cells F9 77)).grownBy W' u6.ownBlock → W'.cell? ⟨w.heap.size, 0, none⟩ = some (.int .i64 s.gen) ∧ W'.cell? ⟨w.heap.size, 1, none⟩ = some (.int .i64 s.ep)) := Lib.hid fun W W' hk hg => by
          have h := HTK.out _ (hk.alloc hk.size (.cells F9 77))
          have hs := hk.size
          have hv0 := (fa.out _ (Below.refl _ _)).lt
          have hne : some w.heap.size ≠ u6.ownBlock := fun e => by have := (World.ownsRow.lt HO'.out _ e.symm).1; omega
          have hlt : w.heap.size < (W.alloc (.cells F9 77)).heap.size := by simp; omega
          exact ⟨(hg.cell_far ⟨w.heap.size, 0, none⟩ hlt hne).trans h.1, (hg.cell_far ⟨w.heap.size, 1, none⟩ hlt hne).trans h.2⟩
        have hsz9 : V0.heap.size ≤ w7.heap.size := UV9.out.size
        go_region_held3 (fun w' => w'.cell? ⟨w.heap.size, 0, none⟩ = some (.int .i64 s.gen) ∧ w'.cell? ⟨w.heap.size, 1, none⟩ = some (.int .i64 s.ep))
          (first | (go_keep; done) | exact HTK.out _ hB11 | exact HTK.out _ (hB11.alloc hB11.size _) | exact HKP.out _ _ hB11 hgrow)
          (first
            | (go_at_call 90; refine (hcb9.out _ (below_drew (Below.refl _ _))).mono ?_; rintro e w11 ⟨rfl, hb11⟩; have hB11 : Below w7.heap.size w7 w11 := (below_drew (Below.refl _ _)).trans hb11)
            | (refine step_append_lies _ (by rfl) _ _ _ (by rfl) V0.heap.size 77 iF (.agg Z49) 49 88 Try.underlying75 hiF hzF0 hzF1 hzF2 rfl (by omega) u6 k (flatF ((frames s g l z).take k)) (by rfl) (World.ownsRow.alloc (hrowF.out w11 hB11) _) ⟨w11.heap.size, 0, none⟩ 1 1 F9.toList (by rfl) (by rw [Array.length_toList, HFS9.out]) (fun j v hv => by rw [Addr.add_nat_zero, cell_of_row _ _ j F9 _ (0, 0) (World.alloc_heap_new w11 _)]; simpa using hv) HONE9.out (by omega) (by unfold maxLen; omega) (by omega) (by have h2 := hB11.size; simp; omega) (w11.heap.size + 1) (by simp) ?_; intro g10 c10 w10 hown' hgrow hat hlt10))
        have hBV : Below V0.heap.size V0 (w11.alloc (.cells F9 77)) := (UV9.out.trans (hB11.mono UV9.out.size)).alloc (by have h1 := UV9.out.size; have h2 := hB11.size; omega) _
        have HB10 := Lib.hid (hBV.grown hgrow hBV.size (fun j ej => (World.ownsRow.lt HO'.out j ej).1))
        have L10 : Hid (w10.ownsRow V0.heap.size 77 49 (.slice (some ⟨g10, 0, none⟩) (k + 1) c10) (k + 1) (flatF ((frames s g l z).take (k + 1)))) := Lib.hid (by
          rw [frames_snoc _ _ _ _ _ Hlt.out, flatF_append, show flatF [frameAt s g l z k] = F9.toList by rw [hFA9.out]; simp [flatF]]
          exact hown')
        clear hown' hgrow hat hlt10 hBV hB11 hb11 hbuild9 hsf9 hst9 x0 x1 x2 x9 x3 x4 x5 x6 x7 x8
        go_wp2
        go_roundw
        case rel => exact ⟨k + 1, by omega, Hlt.out, by simp, L10.out, HB10.out⟩
        case measure => have := Hlt.out; simp [intOf]; omega
    · have hc : ¬ (2 * (k : Int) - 2 < (l.length : Int)) := by unfold nparts at hlt; omega
      have Hkn : Hid (k = nparts l) := Lib.hid (by omega)
      clear hlt hkn
      go_wp2
      go_ret
      have h1 := HO'.out
      rw [List.take_of_length_le (by rw [frames_length, Hkn.out]; exact Nat.le_refl _), Hkn.out] at h1
      exact ⟨u6, rfl, own_lower h1 U0.out.size, U0.out.trans (HB.out.mono U0.out.size)⟩
end Go.Proofs.Ytcgafnmpfdkfoaa
