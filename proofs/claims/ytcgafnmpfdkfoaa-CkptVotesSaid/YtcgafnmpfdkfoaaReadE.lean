/- An entry read off bytes: snap.take. -/
import Derived.Test.YtcgafnmpfdkfoaaReader
import Derived.Test.YtcgafnmpfdkfoaaPure12b
import Derived.Test.YtcgafnmpfdkfoaaMade0
namespace Go.Proofs.Ytcgafnmpfdkfoaa
open Go.RowKit

/-- The entry that bytes tell. -/
def unEnt (ys : List Int) : E := ⟨unle (ys.take 1), unle ((ys.drop 1).take 2), unle ((ys.drop 3).take 2), unle ((ys.drop 5).take 1), unle ((ys.drop 6).take 6), unle ((ys.drop 12).take 4)⟩
theorem Byt.drop {xs : List Int} (h : Byt xs) (k : Nat) : Byt (xs.drop k) := fun b hb => h b (List.mem_of_mem_drop hb)
theorem Byt.take {xs : List Int} (h : Byt xs) (k : Nat) : Byt (xs.take k) := fun b hb => h b (List.mem_of_mem_take hb)
theorem entB_unEnt (ys : List Int) (hy : Byt ys) (hl : 16 ≤ ys.length) : entB (unEnt ys) = ys.take 16 := by
  have key : ∀ a k, a + k ≤ ys.length → le k (unle ((ys.drop a).take k)) = (ys.drop a).take k := fun a k hk => by
    have h := le_unle ((ys.drop a).take k) ((hy.drop a).take k)
    rwa [List.length_take, List.length_drop, Nat.min_eq_left (by omega)] at h
  have k0 := key 0 1 (by omega)
  simp only [List.drop_zero] at k0
  unfold entB unEnt
  simp only [k0, key 1 2 (by omega), key 3 2 (by omega), key 5 1 (by omega), key 6 6 (by omega), key 12 4 (by omega)]
  have j : ∀ a k m, (ys.drop a).take k ++ (ys.drop (a + k)).take m = (ys.drop a).take (k + m) := fun a k m => by
    rw [List.take_add, List.drop_drop]
  have j0 : ∀ k m, ys.take k ++ (ys.drop k).take m = ys.take (k + m) := fun k m => by rw [List.take_add]
  rw [j0 1 2, j0 3 2, j0 5 1, j0 6 6, j0 12 4]
theorem unEnt_fits (ys : List Int) (hy : Byt ys) (hl : 16 ≤ ys.length) : (unEnt ys).Fits := by
  have key : ∀ a k, a + k ≤ ys.length → 0 ≤ unle ((ys.drop a).take k) ∧ unle ((ys.drop a).take k) < 256 ^ k := fun a k hk => by
    have h := unle_range ((ys.drop a).take k) ((hy.drop a).take k)
    rwa [List.length_take, List.length_drop, Nat.min_eq_left (by omega)] at h
  have k0 := key 0 1 (by omega)
  simp only [List.drop_zero] at k0
  exact ⟨k0, key 1 2 (by omega), key 3 2 (by omega), key 5 1 (by omega), key 6 6 (by omega), key 12 4 (by omega)⟩
def EntPost (B : Nat) (w : World) (r : Nat) (ys : List Int) (e : Ending) (w' : World) : Prop :=
  e = .returned (unEnt ys).v ∧ RdAt B w' r (ys.drop 16) ∧ Keeps w.heap.size [r] w w'

theorem size_entry : (Try.prog.info? 31).map (·.size) = some 6 := by kernel_rfl
abbrev zeroE : Array Value := #[.int .i64 0, .int .i64 0, .int .i64 0, .int .i64 0, .int .i64 0, .int .i64 0]
set_option maxRecDepth 100000 in
set_option maxHeartbeats 1000000 in
theorem snap_take (B : Nat) (w : World) (r : Nat) (ys : List Int) (h : RdAt B w r ys) (hy : Byt ys) (h2 : 16 < ys.length) (h3 : ys.length ≤ 1000) :
    Calls Try.prog 122 #[.pointer (some ⟨r, 0, none⟩)] w (EntPost B w r ys) := by
  obtain ⟨V0, hV0⟩ : ∃ V0, w.alloc (.cells zeroE 31) = V0 := ⟨_, rfl⟩
  have b0 : Below w.heap.size w V0 := by rw [← hV0]; exact below_box _ _
  have k0 : Blk V0 w.heap.size 31 zeroE := by rw [← hV0]; exact Blk.newAt rfl
  have R0 := Lib.hid (h.grow b0)
  have hr0 := h.lt.2
  have B0 := Lib.hid b0
  have K0 := Lib.hid k0
  have HY := Lib.hid hy
  clear b0 k0 h hy
  go_enter Try.func122, Try.ntmps122
  go_wp2_with fail
  clear hV0
  refine (rd_num B V0 r ys 1 R0.out HY.out (by omega) (by omega) (by omega) h3).mono ?_
  rintro e w1 ⟨rfl, hR1, hK1⟩
  obtain ⟨a0, ha0⟩ : ∃ a, Hid (unle (ys.take 1) = a) := ⟨_, Lib.hid rfl⟩
  rw [ha0.out]
  obtain ⟨V1, hV1⟩ : ∃ V1, w1.alloc (.cells #[.int .i64 a0, .int .i64 0, .int .i64 0, .int .i64 0, .int .i64 0, .int .i64 0] 31) = V1 := ⟨_, rfl⟩
  have b1 : Below w1.heap.size w1 V1 := by rw [← hV1]; exact below_box _ _
  have e1 : Blk V1 w1.heap.size 31 #[.int .i64 a0, .int .i64 0, .int .i64 0, .int .i64 0, .int .i64 0, .int .i64 0] := by rw [← hV1]; exact Blk.newAt rfl
  have hK1' : Keeps V0.heap.size [r] V0 V1 := hK1.trans ((Keeps.of_below b1).mono hK1.size (fun _ hi => hi))
  have R1 := Lib.hid (hR1.grow b1)
  have K1 := Lib.hid hK1'
  have E1 := Lib.hid e1
  have l1 := hK1.size
  have HV1 := Lib.hid hV1
  clear b1 e1 hR1 hK1 hK1' hV1
  go_wp2_with fail
  rw [HV1.out]
  refine (rd_num B V1 r (ys.drop 1) 2 R1.out (HY.out.drop 1) (by omega) (by omega) (by simp; omega) (by simp; omega)).mono ?_
  rintro e w2 ⟨rfl, hR2, hK2⟩
  rw [List.drop_drop] at hR2
  obtain ⟨a1, ha1⟩ : ∃ a, Hid (unle ((ys.drop 1).take 2) = a) := ⟨_, Lib.hid rfl⟩
  rw [ha1.out]
  have R2 := Lib.hid hR2
  clear hR2
  go_wp2_with fail
  refine (rd_num B w2 r (ys.drop (1 + 2)) 2 R2.out (HY.out.drop _) (by omega) (by omega) (by simp; omega) (by simp; omega)).mono ?_
  rintro e w3 ⟨rfl, hR3, hK3⟩
  rw [List.drop_drop] at hR3
  obtain ⟨a2, ha2⟩ : ∃ a, Hid (unle ((ys.drop (1 + 2)).take 2) = a) := ⟨_, Lib.hid rfl⟩
  rw [ha2.out]
  have R3 := Lib.hid hR3
  have hK23 := hK2.trans (hK3.mono hK2.size (fun _ hi => hi))
  clear hR3 hK2 hK3
  go_wp2_with fail
  refine (rd_num B w3 r (ys.drop (1 + 2 + 2)) 1 R3.out (HY.out.drop _) (by omega) (by omega) (by simp; omega) (by simp; omega)).mono ?_
  rintro e w4 ⟨rfl, hR4, hK4⟩
  rw [List.drop_drop] at hR4
  obtain ⟨a3, ha3⟩ : ∃ a, Hid (unle ((ys.drop (1 + 2 + 2)).take 1) = a) := ⟨_, Lib.hid rfl⟩
  rw [ha3.out]
  have hK24 := hK23.trans (hK4.mono hK23.size (fun _ hi => hi))
  have e4 := hK24.blk E1.out.lt (by have := K1.out.size; have := B0.out.size; simp; omega) E1.out
  have R4 := Lib.hid hR4
  have HK4 := Lib.hid hK24
  clear hR4 hK4 hK23 hK24
  obtain ⟨V4, hV4⟩ : ∃ V, ((w4.setCell ⟨w1.heap.size, 1, none⟩ (.int .i64 a1)).setCell ⟨w1.heap.size, 2, none⟩ (.int .i64 a2)).setCell ⟨w1.heap.size, 3, none⟩ (.int .i64 a3) = V := ⟨_, rfl⟩
  have HV4 := Lib.hid hV4
  have E4 : Hid (Blk V4 w1.heap.size 31 #[.int .i64 a0, .int .i64 a1, .int .i64 a2, .int .i64 a3, .int .i64 0, .int .i64 0]) := Lib.hid (by rw [← hV4]; exact ((e4.set_ 1 _).set_ 2 _).set_ 3 _)
  have hs4 : Keeps w4.heap.size [w1.heap.size] w4 V4 := by rw [← hV4]; exact (((Keeps.refl _ _ w4).setCell _ _ (.inl (by simp))).setCell _ _ (.inl (by simp))).setCell _ _ (.inl (by simp))
  have HS4 := Lib.hid hs4
  have R4' := Lib.hid (R4.out.other hs4 e4 (by decide))
  have q0 : w4.cell? ⟨w1.heap.size, 1, none⟩ = some (.int .i64 0) := by rw [e4.cell]; rfl
  have q1 : w4.cell? ⟨w1.heap.size, 2, none⟩ = some (.int .i64 0) := by rw [e4.cell]; rfl
  have q2 : w4.cell? ⟨w1.heap.size, 3, none⟩ = some (.int .i64 0) := by rw [e4.cell]; rfl
  have f0 : w4.frozen? ⟨w1.heap.size, 1, none⟩ = false := e4.frozen 1
  have f1 : w4.frozen? ⟨w1.heap.size, 2, none⟩ = false := e4.frozen 2
  have f2 : w4.frozen? ⟨w1.heap.size, 3, none⟩ = false := e4.frozen 3
  have lt4 := e4.lt
  clear e4 hV4 hs4
  go_wp2_with fail
  rw [HV4.out]
  clear q0 q1 q2 f0 f1 f2 lt4
  refine (rd_num B V4 r (ys.drop (1 + 2 + 2 + 1)) 6 R4'.out (HY.out.drop _) (by omega) (by omega) (by simp; omega) (by simp; omega)).mono ?_
  rintro e w5 ⟨rfl, hR5, hK5⟩
  rw [List.drop_drop] at hR5
  obtain ⟨a4, ha4⟩ : ∃ a, Hid (unle ((ys.drop (1 + 2 + 2 + 1)).take 6) = a) := ⟨_, Lib.hid rfl⟩
  rw [ha4.out]
  have R5 := Lib.hid hR5
  clear hR5
  go_wp2_with fail
  refine (rd_num B w5 r (ys.drop (1 + 2 + 2 + 1 + 6)) 4 R5.out (HY.out.drop _) (by omega) (by omega) (by simp; omega) (by simp; omega)).mono ?_
  rintro e w6 ⟨rfl, hR6, hK6⟩
  rw [List.drop_drop] at hR6
  obtain ⟨a5, ha5⟩ : ∃ a, Hid (unle ((ys.drop (1 + 2 + 2 + 1 + 6)).take 4) = a) := ⟨_, Lib.hid rfl⟩
  rw [ha5.out]
  have hK46 := hK5.trans (hK6.mono hK5.size (fun _ hi => hi))
  have z1 : w.heap.size < w1.heap.size := by have := K0.out.lt; omega
  have z4 : w1.heap.size < w4.heap.size := by have := HK4.out.size; have := E1.out.lt; omega
  have z5 : w4.heap.size ≤ V4.heap.size := HS4.out.size
  have e6 := hK46.blk E4.out.lt (by simp; omega) E4.out
  have o6 : Blk w6 w.heap.size 31 zeroE := by
    have o1 := K1.out.blk K0.out.lt (by simp; omega) K0.out
    have o4 := HK4.out.blk o1.lt (by simp; omega) o1
    have o5 := HS4.out.blk o4.lt (by simp; omega) o4
    exact hK46.blk o5.lt (by simp; omega) o5
  obtain ⟨V6, hV6⟩ : ∃ V, (w6.setCell ⟨w1.heap.size, 4, none⟩ (.int .i64 a4)).setCell ⟨w1.heap.size, 5, none⟩ (.int .i64 a5) = V := ⟨_, rfl⟩
  have hs6 : Keeps w6.heap.size [w1.heap.size] w6 V6 := by rw [← hV6]; exact ((Keeps.refl _ _ w6).setCell _ _ (.inl (by simp))).setCell _ _ (.inl (by simp))
  have R6 := Lib.hid (hR6.other hs6 e6 (by decide))
  have g6 : Blk V6 w1.heap.size 31 (E.arr ⟨a0, a1, a2, a3, a4, a5⟩) := by rw [← hV6]; exact (e6.set_ 4 _).set_ 5 _
  have O6 := Lib.hid (hs6.blk o6.lt (by simp; omega) o6)
  have G6 := Lib.hid g6
  have hK06 : Keeps w.heap.size [r] w V6 := by
    have t1 : Keeps w.heap.size [r] w V1 := ((Keeps.of_below (S := []) B0.out).mono (Nat.le_refl _) (by simp)).trans (K1.out.mono B0.out.size (by simp))
    have t2 := t1.trans (HK4.out.mono t1.size (by simp))
    have t3 : Keeps w.heap.size [r] w4 V4 := Keeps.drop (HS4.out.mono t2.size (S' := [w1.heap.size]) (by simp)) (by simp; omega)
    have t4 := t2.trans t3
    have t5 := t4.trans (hK46.mono t4.size (by simp))
    exact t5.trans (Keeps.drop (hs6.mono t5.size (S' := [w1.heap.size]) (by simp)) (by simp; omega))
  have HK6 := Lib.hid hK06
  have q0 : w6.cell? ⟨w1.heap.size, 4, none⟩ = some (.int .i64 0) := by rw [e6.cell]; rfl
  have q1 : w6.cell? ⟨w1.heap.size, 5, none⟩ = some (.int .i64 0) := by rw [e6.cell]; rfl
  have f0 : w6.frozen? ⟨w1.heap.size, 4, none⟩ = false := e6.frozen 4
  have f1 : w6.frozen? ⟨w1.heap.size, 5, none⟩ = false := e6.frozen 5
  have lt6 := e6.lt
  obtain ⟨⟨x0, x1, x2⟩, x3, x4, x5⟩ := g6.ent
  have o7 := O6.out
  have y0 : V6.cell? ⟨w.heap.size, 0, none⟩ = some (.int .i64 0) := by rw [o7.cell]; rfl
  have y1 : V6.cell? ⟨w.heap.size, 1, none⟩ = some (.int .i64 0) := by rw [o7.cell]; rfl
  have y2 : V6.cell? ⟨w.heap.size, 2, none⟩ = some (.int .i64 0) := by rw [o7.cell]; rfl
  have y3 : V6.cell? ⟨w.heap.size, 3, none⟩ = some (.int .i64 0) := by rw [o7.cell]; rfl
  have y4 : V6.cell? ⟨w.heap.size, 4, none⟩ = some (.int .i64 0) := by rw [o7.cell]; rfl
  have y5 : V6.cell? ⟨w.heap.size, 5, none⟩ = some (.int .i64 0) := by rw [o7.cell]; rfl
  have yf : ∀ i, V6.frozen? ⟨w.heap.size, i, none⟩ = false := fun i => o7.frozen i
  have yl := o7.lt
  clear hK5 hK6 hK46 hR6 hs6 g6 e6 o6 o7 hK06
  go_wp2_with fail
  obtain ⟨V7, hV7⟩ : ∃ V, ((((((V6.setCell ⟨w.heap.size, 0, none⟩ (.int .i64 a0)).setCell ⟨w.heap.size, 1, none⟩ (.int .i64 a1)).setCell ⟨w.heap.size, 2, none⟩ (.int .i64 a2)).setCell ⟨w.heap.size, 3, none⟩ (.int .i64 a3)).setCell ⟨w.heap.size, 4, none⟩ (.int .i64 a4)).setCell ⟨w.heap.size, 5, none⟩ (.int .i64 a5)) = V := ⟨_, rfl⟩
  have e7 : Blk V7 w.heap.size 31 (E.arr ⟨a0, a1, a2, a3, a4, a5⟩) := by rw [← hV7]; exact (((((O6.out.set_ 0 _).set_ 1 _).set_ 2 _).set_ 3 _).set_ 4 _).set_ 5 _
  have k7 : Keeps V6.heap.size [w.heap.size] V6 V7 := by rw [← hV7]; exact ((((((Keeps.refl _ _ V6).setCell _ _ (.inl (by simp))).setCell _ _ (.inl (by simp))).setCell _ _ (.inl (by simp))).setCell _ _ (.inl (by simp))).setCell _ _ (.inl (by simp))).setCell _ _ (.inl (by simp))
  rw [hV7]
  have r1 : (loadVar 31 ⟨w.heap.size, 0, none⟩).run Try.prog V7 = .ok (E.v ⟨a0, a1, a2, a3, a4, a5⟩) V7 := run_loadVar_row _ _ _ _ _ _ _ e7 Try.underlying31 rfl size_entry
  have hE : unEnt ys = ⟨a0, a1, a2, a3, a4, a5⟩ := by
    unfold unEnt
    rw [← ha0.out, ← ha1.out, ← ha2.out, ← ha3.out, ← ha4.out, ← ha5.out]
  refine bodyPost_ret (v := E.v ⟨a0, a1, a2, a3, a4, a5⟩) ?_ rfl ⟨by rw [hE], R6.out.other k7 O6.out (by decide), ?_⟩
  · simp [results, Try.results122, asAddr, r1]
  · exact HK6.out.trans (Keeps.drop (k7.mono HK6.out.size (S' := [w.heap.size]) (by simp)) (by simp))
end Go.Proofs.Ytcgafnmpfdkfoaa
