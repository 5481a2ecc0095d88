/- What a snapshot's frames bear (layer 12): the head's body, a part's. -/
import Derived.Test.YtcgafnmpfdkfoaaBody
import Derived.Test.YtcgafnmpfdkfoaaPure12b
namespace Go.Proofs.Ytcgafnmpfdkfoaa
open Go.RowKit

theorem PenAt.made (w : World) : PenAt w.heap.size (w.alloc (.cells #[.slice none 0 0, .bool false] 208)) w.heap.size [] :=
  ⟨.slice none 0 0, Blk.newAt rfl, Nat.le_refl _, World.ownsRow_nil _ _ _ _⟩
theorem EntBlk.cells {w : World} {b : Nat} {t : TypeId} {e : E} (h : Blk w b t e.arr) : (w.cell? ⟨b, 0, none⟩ = some (.int .i64 e.st) ∧ w.cell? ⟨b, 1, none⟩ = some (.int .i64 e.zn)) ∧ (w.cell? ⟨b, 2, none⟩ = some (.int .i64 e.mt) ∧ w.cell? ⟨b, 3, none⟩ = some (.int .i64 e.off)) ∧ w.cell? ⟨b, 4, none⟩ = some (.int .i64 e.sq) ∧ w.cell? ⟨b, 5, none⟩ = some (.int .i64 e.sm) :=
  ⟨⟨h.ent.1.1, h.ent.1.2.1⟩, ⟨h.ent.1.2.2, h.ent.2.1⟩, h.ent.2.2.1, h.ent.2.2.2⟩

set_option maxRecDepth 100000 in
set_option maxHeartbeats 1000000 in
theorem snap_put (B : Nat) (w : World) (p : Nat) (xs : List Int) (e : E) (h : PenAt B w p xs) (he : e.Fits) (hx : xs.length ≤ 900) :
    Calls Try.prog 119 #[.pointer (some ⟨p, 0, none⟩), e.v] w fun r w' => r = .returned (.tuple #[]) ∧ PenAt B w' p (xs ++ entB e) ∧ Below B w w' ∧ PK w w' := by
  obtain ⟨⟨f0, g0⟩, ⟨f1, g1⟩, ⟨f2, g2⟩, ⟨f3, g3⟩, ⟨f4, g4⟩, f5, g5⟩ := he
  obtain ⟨W0, hW0⟩ : ∃ W0, w.alloc e.box = W0 := ⟨_, rfl⟩
  have b0 : Blk W0 w.heap.size 31 e.arr := by rw [← hW0]; exact Blk.newAt rfl
  have P0 := Lib.hid (h.grow (by rw [← hW0]; exact below_box w _) : PenAt B W0 p xs)
  have U0 : Hid (Below B w W0) := by rw [← hW0]; exact Lib.hid ((Below.refl _ _).alloc (by have := h.lt; omega) _)
  have K0 : Hid (PK w W0) := by rw [← hW0]; exact Lib.hid (TKeeps.of_below (below_box w _))
  have B0 := Lib.hid b0
  have HX := Lib.hid hx
  obtain ⟨⟨a0, a1⟩, ⟨a2, a3⟩, a4, a5⟩ := EntBlk.cells b0
  clear h b0 hx
  go_enter Try.func119, Try.ntmps119
  go_wp2_with fail
  clear hW0
  refine (pen_num B W0 p _ 1 e.st P0.out (by omega) (by omega) f0 (by simpa using g0) (by have := HX.out; omega)).mono ?_
  rintro r w1 ⟨rfl, p1, u1, k1⟩
  have P1 := Lib.hid p1
  have U1 := Lib.hid (U0.out.trans u1)
  have K1 := Lib.hid (K0.out.trans k1)
  have B1 := Lib.hid (k1.blk B0.out (by decide))
  clear p1 u1 k1 a0 a1 a2 a3 a4 a5
  obtain ⟨⟨a0, a1⟩, ⟨a2, a3⟩, a4, a5⟩ := EntBlk.cells B1.out
  go_wp2_with fail
  refine (pen_num B w1 p _ 2 e.zn P1.out (by omega) (by omega) f1 (by simpa using g1) (by have := HX.out; simp [le_length]; omega)).mono ?_
  rintro r w2 ⟨rfl, p2, u2, k2⟩
  have P2 := Lib.hid p2
  have U2 := Lib.hid (U1.out.trans u2)
  have K2 := Lib.hid (K1.out.trans k2)
  have B2 := Lib.hid (k2.blk B1.out (by decide))
  clear p2 u2 k2 a0 a1 a2 a3 a4 a5
  obtain ⟨⟨a0, a1⟩, ⟨a2, a3⟩, a4, a5⟩ := EntBlk.cells B2.out
  go_wp2_with fail
  refine (pen_num B w2 p _ 2 e.mt P2.out (by omega) (by omega) f2 (by simpa using g2) (by have := HX.out; simp [le_length]; omega)).mono ?_
  rintro r w3 ⟨rfl, p3, u3, k3⟩
  have P3 := Lib.hid p3
  have U3 := Lib.hid (U2.out.trans u3)
  have K3 := Lib.hid (K2.out.trans k3)
  have B3 := Lib.hid (k3.blk B2.out (by decide))
  clear p3 u3 k3 a0 a1 a2 a3 a4 a5
  obtain ⟨⟨a0, a1⟩, ⟨a2, a3⟩, a4, a5⟩ := EntBlk.cells B3.out
  go_wp2_with fail
  refine (pen_num B w3 p _ 1 e.off P3.out (by omega) (by omega) f3 (by simpa using g3) (by have := HX.out; simp [le_length]; omega)).mono ?_
  rintro r w4 ⟨rfl, p4, u4, k4⟩
  have P4 := Lib.hid p4
  have U4 := Lib.hid (U3.out.trans u4)
  have K4 := Lib.hid (K3.out.trans k4)
  have B4 := Lib.hid (k4.blk B3.out (by decide))
  clear p4 u4 k4 a0 a1 a2 a3 a4 a5
  obtain ⟨⟨a0, a1⟩, ⟨a2, a3⟩, a4, a5⟩ := EntBlk.cells B4.out
  go_wp2_with fail
  refine (pen_num B w4 p _ 6 e.sq P4.out (by omega) (by omega) f4 (by simpa using g4) (by have := HX.out; simp [le_length]; omega)).mono ?_
  rintro r w5 ⟨rfl, p5, u5, k5⟩
  have P5 := Lib.hid p5
  have U5 := Lib.hid (U4.out.trans u5)
  have K5 := Lib.hid (K4.out.trans k5)
  have B5 := Lib.hid (k5.blk B4.out (by decide))
  clear p5 u5 k5 a0 a1 a2 a3 a4 a5
  obtain ⟨⟨a0, a1⟩, ⟨a2, a3⟩, a4, a5⟩ := EntBlk.cells B5.out
  go_wp2_with fail
  refine (pen_num B w5 p _ 4 e.sm P5.out (by omega) (by omega) f5 (by simpa using g5) (by have := HX.out; simp [le_length]; omega)).mono ?_
  rintro r w6 ⟨rfl, p6, u6, k6⟩
  have P6 := Lib.hid p6
  have U6 := Lib.hid (U5.out.trans u6)
  have K6 := Lib.hid (K5.out.trans k6)
  clear p6 u6 k6 a0 a1 a2 a3 a4 a5
  go_wp2
  go_end0
  refine ⟨rfl, ?_, U6.out, K6.out⟩
  have := P6.out
  simpa only [entB, List.append_assoc] using this

abbrev Sn.arr (s : Sn) (p : Nat) : Array Value := #[.int .i64 s.gen, .int .i64 s.ep, .int .i64 s.nx, .pointer (some ⟨p, 0, none⟩)]
abbrev Sn.v (s : Sn) (p : Nat) : Value := .agg #[.int .i64 s.gen, .int .i64 s.ep, .int .i64 s.nx, .pointer (some ⟨p, 0, none⟩)]
abbrev Sn.box (s : Sn) (p : Nat) : Obj := .cells #[.int .i64 s.gen, .int .i64 s.ep, .int .i64 s.nx, .pointer (some ⟨p, 0, none⟩)] 53
abbrev G.arr (g : G) : Array Value := #[.int .i64 g.D, .int .i64 g.Z, .int .i64 g.S, .int .i64 g.B, .int .i64 g.P, .int .i64 g.O]
theorem Blk.gcells {w : World} {b : Nat} {t : TypeId} {g : G} (h : Blk w b t g.arr) : (w.cell? ⟨b, 0, none⟩ = some (.int .i64 g.D) ∧ w.cell? ⟨b, 1, none⟩ = some (.int .i64 g.Z)) ∧ (w.cell? ⟨b, 2, none⟩ = some (.int .i64 g.S) ∧ w.cell? ⟨b, 3, none⟩ = some (.int .i64 g.B)) ∧ w.cell? ⟨b, 4, none⟩ = some (.int .i64 g.P) ∧ w.cell? ⟨b, 5, none⟩ = some (.int .i64 g.O) :=
  ⟨⟨by rw [h.cell]; rfl, by rw [h.cell]; rfl⟩, ⟨by rw [h.cell]; rfl, by rw [h.cell]; rfl⟩, by rw [h.cell]; rfl, by rw [h.cell]; rfl⟩
theorem Blk.scells {w : World} {b : Nat} {t : TypeId} {s : Sn} {p : Nat} (h : Blk w b t (s.arr p)) : (w.cell? ⟨b, 0, none⟩ = some (.int .i64 s.gen) ∧ w.cell? ⟨b, 1, none⟩ = some (.int .i64 s.ep)) ∧ w.cell? ⟨b, 2, none⟩ = some (.int .i64 s.nx) ∧ w.cell? ⟨b, 3, none⟩ = some (.pointer (some ⟨p, 0, none⟩)) :=
  ⟨⟨by rw [h.cell]; rfl, by rw [h.cell]; rfl⟩, by rw [h.cell]; rfl, by rw [h.cell]; rfl⟩

set_option maxRecDepth 100000 in
set_option maxHeartbeats 1000000 in
theorem snap_head (w : World) (p bl bv : Nat) (g : G) (l : List E) (lv : List Int) (s : Sn) (hM : MapAt w p bl bv g l lv) (hr : g.right = true) (n0 : 0 ≤ s.nx) (n1 : s.nx < 281474976710656) :
    Calls Try.prog 80 #[s.v p] w fun r w' => r = .returned (.agg (bys (headB g s.nx)).toArray) ∧ Below w.heap.size w w' := by
  obtain ⟨d0, d1, e0, e1, s0, s1, b0, b1, p0, p1, o0, o1⟩ := G.small_of_right hr
  obtain ⟨W0, hW0⟩ : ∃ W0, (w.alloc (s.box p)).alloc (.cells Z44 62) = W0 := ⟨_, rfl⟩
  have U0 : Below w.heap.size w W0 := by rw [← hW0]; exact (below_box w _).alloc (by simp) _
  have Y0 : Blk W0 w.heap.size 53 (s.arr p) := by rw [← hW0]; exact (Blk.newAt rfl).alloc _
  have Z0 : Blk W0 (w.heap.size + 1) 62 Z44 := by rw [← hW0]; exact Blk.newAt (by simp)
  have M0 := Lib.hid (hM.grow U0)
  obtain ⟨⟨y0, y1⟩, y2, y3⟩ := Y0.scells
  have HY0 := Lib.hid Y0
  have HZ0 := Lib.hid Z0
  have HU0 := Lib.hid U0
  clear hM U0 Y0 Z0
  go_enter Try.func80, Try.ntmps80
  go_wp2_with fail
  clear hW0
  refine (map_geom W0 p bl bv g l lv M0.out).mono ?_
  rintro r w1 ⟨rfl, hb1⟩
  obtain ⟨V0, hV0⟩ : ∃ V0, (w1.alloc g.box).alloc (.cells #[.slice none 0 0, .bool false] 208) = V0 := ⟨_, rfl⟩
  have c0 : Below W0.heap.size W0 V0 := by rw [← hV0]; exact (hb1.alloc hb1.size _).alloc (by simp; have := hb1.size; omega) _
  have G0 : Blk V0 w1.heap.size 23 g.arr := by rw [← hV0]; exact (Blk.newAt rfl).alloc _
  have P0 : Hid (PenAt (w1.alloc g.box).heap.size V0 (w1.alloc g.box).heap.size []) := by rw [← hV0]; exact Lib.hid (PenAt.made _)
  have sz : (w1.alloc g.box).heap.size = w1.heap.size + 1 := by simp
  rw [sz] at P0
  have T0 := Lib.hid ((TKeeps.of_below (T := [208, 5]) c0).blk HY0.out (by decide))
  have X0 := Lib.hid ((TKeeps.of_below (T := [208, 5]) c0).blk HZ0.out (by decide))
  have HG0 := Lib.hid G0
  have N0 : Hid (w.heap.size ≤ w1.heap.size + 1) := by have := hb1.size; have := HU0.out.size; exact Lib.hid (by omega)
  have HC0 := Lib.hid c0
  clear y0 y1 y2 y3 sz
  obtain ⟨⟨y0, y1⟩, y2, y3⟩ := T0.out.scells
  obtain ⟨⟨a0, a1⟩, ⟨a2, a3⟩, a4, a5⟩ := G0.gcells
  have Q0 : Hid (PK V0 V0) := Lib.hid (TKeeps.refl _ _)
  have L0 : Hid (Below (w1.heap.size + 1) V0 V0) := Lib.hid (Below.refl _ _)
  clear hb1 c0 G0
  go_wp2_with fail
  clear hV0
  refine (pen_num (w1.heap.size + 1) V0 (w1.heap.size + 1) _ 6 s.nx P0.out (by omega) (by omega) n0 (by simpa using n1) (by simp)).mono ?_
  rintro r V1 ⟨rfl, q, u, k⟩
  have P1 := Lib.hid q
  have L1 := Lib.hid (L0.out.trans u)
  have Q1 := Lib.hid (Q0.out.trans k)
  have HG1 := Lib.hid (k.blk HG0.out (by decide))
  clear q u k a0 a1 a2 a3 a4 a5 y0 y1 y2 y3
  obtain ⟨⟨a0, a1⟩, ⟨a2, a3⟩, a4, a5⟩ := HG1.out.gcells
  go_wp2_with fail
  refine (pen_num (w1.heap.size + 1) V1 (w1.heap.size + 1) _ 1 g.D P1.out (by omega) (by omega) (by omega) (by simp; omega) (by simp [le_length])).mono ?_
  rintro r V2 ⟨rfl, q, u, k⟩
  have P2 := Lib.hid q
  have L2 := Lib.hid (L1.out.trans u)
  have Q2 := Lib.hid (Q1.out.trans k)
  have HG2 := Lib.hid (k.blk HG1.out (by decide))
  clear q u k a0 a1 a2 a3 a4 a5 
  obtain ⟨⟨a0, a1⟩, ⟨a2, a3⟩, a4, a5⟩ := HG2.out.gcells
  go_wp2_with fail
  refine (pen_num (w1.heap.size + 1) V2 (w1.heap.size + 1) _ 1 g.Z P2.out (by omega) (by omega) (by omega) (by simp; omega) (by simp [le_length])).mono ?_
  rintro r V3 ⟨rfl, q, u, k⟩
  have P3 := Lib.hid q
  have L3 := Lib.hid (L2.out.trans u)
  have Q3 := Lib.hid (Q2.out.trans k)
  have HG3 := Lib.hid (k.blk HG2.out (by decide))
  clear q u k a0 a1 a2 a3 a4 a5 
  obtain ⟨⟨a0, a1⟩, ⟨a2, a3⟩, a4, a5⟩ := HG3.out.gcells
  go_wp2_with fail
  refine (pen_num (w1.heap.size + 1) V3 (w1.heap.size + 1) _ 1 g.S P3.out (by omega) (by omega) (by omega) (by simp; omega) (by simp [le_length])).mono ?_
  rintro r V4 ⟨rfl, q, u, k⟩
  have P4 := Lib.hid q
  have L4 := Lib.hid (L3.out.trans u)
  have Q4 := Lib.hid (Q3.out.trans k)
  have HG4 := Lib.hid (k.blk HG3.out (by decide))
  clear q u k a0 a1 a2 a3 a4 a5 
  obtain ⟨⟨a0, a1⟩, ⟨a2, a3⟩, a4, a5⟩ := HG4.out.gcells
  go_wp2_with fail
  refine (pen_num (w1.heap.size + 1) V4 (w1.heap.size + 1) _ 2 g.B P4.out (by omega) (by omega) (by omega) (by simp; omega) (by simp [le_length])).mono ?_
  rintro r V5 ⟨rfl, q, u, k⟩
  have P5 := Lib.hid q
  have L5 := Lib.hid (L4.out.trans u)
  have Q5 := Lib.hid (Q4.out.trans k)
  have HG5 := Lib.hid (k.blk HG4.out (by decide))
  clear q u k a0 a1 a2 a3 a4 a5 
  obtain ⟨⟨a0, a1⟩, ⟨a2, a3⟩, a4, a5⟩ := HG5.out.gcells
  go_wp2_with fail
  refine (pen_num (w1.heap.size + 1) V5 (w1.heap.size + 1) _ 1 g.P P5.out (by omega) (by omega) (by omega) (by simp; omega) (by simp [le_length])).mono ?_
  rintro r V6 ⟨rfl, q, u, k⟩
  have P6 := Lib.hid q
  have L6 := Lib.hid (L5.out.trans u)
  have Q6 := Lib.hid (Q5.out.trans k)
  have HG6 := Lib.hid (k.blk HG5.out (by decide))
  clear q u k a0 a1 a2 a3 a4 a5 
  obtain ⟨⟨a0, a1⟩, ⟨a2, a3⟩, a4, a5⟩ := HG6.out.gcells
  go_wp2_with fail
  refine (pen_num (w1.heap.size + 1) V6 (w1.heap.size + 1) _ 1 g.O P6.out (by omega) (by omega) (by omega) (by simp; omega) (by simp [le_length])).mono ?_
  rintro r V7 ⟨rfl, q, u, k⟩
  have P7 := Lib.hid q
  have L7 := Lib.hid (L6.out.trans u)
  have Q7 := Lib.hid (Q6.out.trans k)
  have HG7 := Lib.hid (k.blk HG6.out (by decide))
  clear q u k a0 a1 a2 a3 a4 a5 
  obtain ⟨⟨a0, a1⟩, ⟨a2, a3⟩, a4, a5⟩ := HG7.out.gcells
  go_wp2_with fail
  refine (snap_body (w1.heap.size + 1) V7 (w1.heap.size + 1) _ P7.out (by simp [le_length]) (by simp [le_length])).mono ?_
  rintro r V8 ⟨rfl, u⟩
  have X8 := Lib.hid ((TKeeps.of_below (T := [208, 5]) u).blk (Q7.out.blk X0.out (by decide)) (by decide))
  have L8 := Lib.hid (L7.out.trans (u.mono (by have := P7.out.lt.2; omega)))
  obtain ⟨D, hD⟩ : ∃ D : Array Value, D = (bys (headB g s.nx)).toArray := ⟨_, rfl⟩
  have hDs : D.size = 44 := by rw [hD, List.size_toArray, bys_length, headB_length]
  have hDi : (Try.prog.info? 62).map (·.size) = some D.size := by rw [hDs]; exact size_body
  have hD1 : D.all (·.oneCell') = true := by rw [hD]; exact all_oneCell_toArray (bys_one _)
  have hDD : (bys (pad44 (((((((([] : List Int) ++ le 6 s.nx) ++ le 1 g.D) ++ le 1 g.Z) ++ le 1 g.S) ++ le 2 g.B) ++ le 1 g.P) ++ le 1 g.O))).toArray = D := by rw [hD]; rfl
  rw [hDD]
  have HD := Lib.hid hD
  have HDI := Lib.hid hDi
  have HDS := Lib.hid hDs
  have HD1 := Lib.hid hD1
  clear u a0 a1 a2 a3 a4 a5 hD hDs hDi hD1 hDD
  go_wp2_with (refine wpList_store_blk rfl 62 (.tmp 2) (.tmp 39) rfl (w.heap.size + 1) 0 D rfl rfl X8.out (by rw [HDS.out]; decide) HDI.out HD1.out ?_; intro w3 hG3 hK3 hs3)
  refine bodyPost_ret (v := .agg D) (results_cell_row Try.results80 _ _ (w.heap.size + 1) 62 D (0, 0) _ (by simp [Act.put]) (by have := hG3.out; rwa [over_all (by rw [HDS.out]; rfl)] at this) Try.underlying62 rfl HDI.out) rfl ?_
  refine ⟨by rw [HD.out], ?_⟩
  refine ((HU0.out.trans (HC0.out.mono HU0.out.size)).trans (L8.out.mono N0.out)).trans (Keeps.below (hK3.out.mono ?_ (fun i hi => hi)) (by simp))
  have := HU0.out.size; have := HC0.out.size; have := L8.out.size
  omega
end Go.Proofs.Ytcgafnmpfdkfoaa
