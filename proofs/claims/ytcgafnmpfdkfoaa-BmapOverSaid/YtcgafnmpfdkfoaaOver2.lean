/- Law BmapOver: the walk. -/
import Derived.Test.YtcgafnmpfdkfoaaOver1
namespace Go.Proofs.Ytcgafnmpfdkfoaa
open Go.RowKit

set_option maxHeartbeats 1000000 in
theorem over_early (w : World) (g : G) (A : Option Addr) (n c : Nat) (b : Int) (h : g.right = false ∨ 60 < n ∨ b < 0 ∨ g.B ≤ b) :
    Calls Try.prog 4 #[g.v, .slice A n c, .int .i64 b] w fun r w' => r = .returned (.bool true) ∧ Below w.heap.size w w' := by
  cases hr : g.right with
  | false =>
    clear h
    go_enter Try.func4, Try.ntmps4
    go_wp2_with fail
    refine (anchor11 _).mono ?_
    rintro r w1 ⟨rfl, hb⟩
    obtain ⟨hcc, hff⟩ := bcell hb
    have hz : w.heap.size < w1.heap.size := by have := hb.size; simp at this; omega
    go_wp2_with fail
    refine (map_new_no g _ hr).mono ?_
    rintro r w2 ⟨rfl, hb2⟩
    go_wp2
    go_ret
    exact ⟨rfl, (below_then (below_box w _) (by simp) hb).trans (hb2.mono (by omega))⟩
  | true =>
    rw [hr] at h
    have h' : 60 < n ∨ b < 0 ∨ g.B ≤ b := by simpa using h
    have HH := Lib.hid h'
    clear h h'
    go_enter Try.func4, Try.ntmps4
    go_wp2_with fail
    refine (anchor11 _).mono ?_
    rintro r w1 ⟨rfl, hb⟩
    obtain ⟨hcc, hff⟩ := bcell hb
    have hz : w.heap.size < w1.heap.size := by have := hb.size; simp at this; omega
    go_wp2_with fail
    refine (map_new_yes g _ hr).mono ?_
    rintro r w2 ⟨p, bl, bv, rfl, ⟨n1, n2, n3⟩, hM, hb2⟩
    have HB : Hid (Below w.heap.size w w2) := (below_then (below_box w _) (by simp) hb).trans (hb2.mono (by omega))
    have X2 : Blk w2 w.heap.size 23 #[.int .i64 g.D, .int .i64 g.Z, .int .i64 g.S, .int .i64 g.B, .int .i64 g.P, .int .i64 g.O] :=
      (Keeps.of_below (S := []) hb2).blk (by omega) (by simp) ((Keeps.of_below (S := []) hb).blk (by simp) (by simp) (Blk.newAt rfl))
    obtain ⟨⟨x0, x1, x2⟩, x3, x4, x5⟩ := X2.geo
    clear hM hb2 hcc hff hb X2
    by_cases hlong : 60 < n
    · go_wp2
      go_ret
      exact ⟨rfl, HB.out⟩
    · by_cases hneg : b < 0
      · go_wp2
        go_ret
        exact ⟨rfl, HB.out⟩
      · have hge : g.B ≤ b := by have := HH.out; omega
        go_wp2
        go_ret
        exact ⟨rfl, HB.out⟩

/-- What the last statement reads. -/
def OverS (b0 b1 b2 : Nat) (g : G) (last : E) (w' : World) : Prop := w'.cell? ⟨b0, 3, none⟩ = some (.int .i64 g.B) ∧ w'.cell? ⟨b1, 0, none⟩ = some (.int .i64 last.st) ∧ w'.cell? ⟨b1, 1, none⟩ = some (.int .i64 last.zn) ∧ w'.cell? ⟨b1, 2, none⟩ = some (.int .i64 last.mt) ∧ w'.cell? ⟨b1, 3, none⟩ = some (.int .i64 last.off) ∧ w'.cell? ⟨b1, 4, none⟩ = some (.int .i64 last.sq) ∧ w'.cell? ⟨b1, 5, none⟩ = some (.int .i64 last.sm) ∧ w'.cell? ⟨b2, 0, none⟩ = some (.int .i64 last.st) ∧ w'.cell? ⟨b2, 1, none⟩ = some (.int .i64 last.zn) ∧ w'.cell? ⟨b2, 2, none⟩ = some (.int .i64 last.mt) ∧ w'.cell? ⟨b2, 3, none⟩ = some (.int .i64 last.off) ∧ w'.cell? ⟨b2, 4, none⟩ = some (.int .i64 last.sq) ∧ w'.cell? ⟨b2, 5, none⟩ = some (.int .i64 last.sm)
theorem OverS.keeps {b0 b1 b2 : Nat} {g : G} {last : E} {w w1 : World} {B : Nat} {S : List Nat} (h : OverS b0 b1 b2 g last w) (k : Keeps B S w w1) (h0 : b0 < B ∧ b0 ∉ S) (h1 : b1 < B ∧ b1 ∉ S) (h2 : b2 < B ∧ b2 ∉ S) : OverS b0 b1 b2 g last w1 := by
  obtain ⟨a, c0, c1, c2, c3, c4, c5, d0, d1, d2, d3, d4, d5⟩ := h
  exact ⟨(k.cell _ _ h0.1 h0.2).trans a, (k.cell _ _ h1.1 h1.2).trans c0, (k.cell _ _ h1.1 h1.2).trans c1, (k.cell _ _ h1.1 h1.2).trans c2, (k.cell _ _ h1.1 h1.2).trans c3, (k.cell _ _ h1.1 h1.2).trans c4, (k.cell _ _ h1.1 h1.2).trans c5,
    (k.cell _ _ h2.1 h2.2).trans d0, (k.cell _ _ h2.1 h2.2).trans d1, (k.cell _ _ h2.1 h2.2).trans d2, (k.cell _ _ h2.1 h2.2).trans d3, (k.cell _ _ h2.1 h2.2).trans d4, (k.cell _ _ h2.1 h2.2).trans d5⟩

theorem rdI_of {xs ys : List Int} (h : xs = ys) (j : Int) : rdI xs j = rdI ys j := by rw [h]

set_option maxHeartbeats 8000000 in
theorem over_main (w : World) (g : G) (A : Option Addr) (n c : Nat) (es : List E) (h : EntsAt w A n c es) (b : Int) (hr : g.right = true) (hn60 : n ≤ 60) (hb0 : 0 ≤ b) (hb1 : b < g.B) :
    Calls Try.prog 4 #[g.v, .slice A n c, .int .i64 b] w fun r w' => r = .returned (.bool true) ∧ Below w.heap.size w w' := by
  obtain ⟨hn, hc, hm, hcell⟩ := h
  have HN := Lib.hid hn
  have HC := Lib.hid hcell
  clear hn hcell hc hm
  go_enter Try.func4, Try.ntmps4
  go_wp2_with fail
  refine (anchor11 _).mono ?_
  rintro r w1 ⟨rfl, hb⟩
  obtain ⟨hcc, hff⟩ := bcell hb
  have hz : w.heap.size < w1.heap.size := by have := hb.size; simp at this; omega
  go_wp2_with fail
  refine (map_new_yes g _ hr).mono ?_
  rintro r w2 ⟨p, bl, bv, rfl, ⟨n1, n2, n3⟩, hM, hb2⟩
  have HM := Lib.hid hM
  have HB : Hid (Below w.heap.size w w2) := (below_then (below_box w _) (by simp) hb).trans (hb2.mono (by omega))
  have X2 : Blk w2 w.heap.size 23 #[.int .i64 g.D, .int .i64 g.Z, .int .i64 g.S, .int .i64 g.B, .int .i64 g.P, .int .i64 g.O] :=
    (Keeps.of_below (S := []) hb2).blk (by omega) (by simp) ((Keeps.of_below (S := []) hb).blk (by simp) (by simp) (Blk.newAt rfl))
  have HX2 := Lib.hid X2
  have z2 : w.heap.size < w2.heap.size := by have := hb2.size; omega
  obtain ⟨⟨x0, x1, x2⟩, x3, x4, x5⟩ := X2.geo
  obtain ⟨l1, l2, l3⟩ := HM.out.lt
  clear hM hb2 hcc hff hb X2
  go_wp2
  go_loopw [47] (fun i wr => ∃ (k : Nat) (last : E) (lastv : List Int), k ≤ n ∧ i = .int .i64 k ∧ MapAt wr p bl bv g (one g b last) lastv ∧ MapOk g (one g b last) lastv ∧ Below w.heap.size w wr ∧ Blk wr w.heap.size 23 #[.int .i64 g.D, .int .i64 g.Z, .int .i64 g.S, .int .i64 g.B, .int .i64 g.P, .int .i64 g.O] ∧ Blk wr w2.heap.size 31 last.arr) (fun i _ => n - (intOf i).toNat)
  case atStart => exact ⟨0, E0, noLive g, Nat.zero_le _, rfl, by rw [one_zero]; exact HM.out.grow (below_box _ _), by rw [one_zero]; exact MapOk.new hr, HB.out.alloc (by omega) _, HX2.out.alloc _, Blk.newAt rfl⟩
  case round =>
    clear x0 x1 x2 x3 x4 x5
    obtain ⟨k, last, lastv, hk, rfl, hM, hO, hB, hX, hL⟩ := hrel
    have zl := hL.lt
    have hM' := Lib.hid hM
    have hO' := Lib.hid hO
    have hB' := Lib.hid hB
    have hX' := Lib.hid hX
    have hL' := Lib.hid hL
    by_cases hlt : k < n
    · obtain ⟨x, hx⟩ : ∃ x, es[k]? = some x := ⟨_, List.getElem?_eq_getElem (by rw [HN.out]; exact hlt)⟩
      obtain ⟨ab, off, hA, hbl, hcs⟩ := HC.out (by omega)
      obtain ⟨c0, c1, c2, c3, c4, c5⟩ := hcs k x hx
      subst hA
      have hcw : ∀ j, wr.cell? ⟨ab, j, none⟩ = w.cell? ⟨ab, j, none⟩ := fun j => hB.cell (p := ⟨ab, j, none⟩) hbl
      rw [← hcw] at c0 c1 c2 c3 c4 c5
      have hbw : ab < wr.heap.size := by have := hB.size; omega
      clear hcs hx hcw hM hO hB hX hL
      go_wp2_with fail
      refine (map_set _ p bl bv g _ lastv (hM'.out.grow (below_box _ _)) hO'.out b x).mono ?_
      rintro r w3 ⟨rfl, hM3, hK3⟩
      have hO3 := hO'.out.setv b x
      obtain ⟨sc, sl⟩ := setL_one (e := last) (x := x) hb0 hb1
      rw [sl] at hM3 hO3
      rw [sc]
      generalize setV g (one g b last) lastv b x = xv at *
      have zr := hB'.out.size
      have z3 : wr.heap.size < w3.heap.size := by have := hK3.size; simp at this; omega
      have z3' : w.heap.size < w3.heap.size := by omega
      have z3'' : w2.heap.size < w3.heap.size := by omega
      have HB3 : Hid (Below w.heap.size w w3) := (hB'.out.alloc zr _).trans ((hK3.mono (B' := w.heap.size) (by simp; omega) (fun _ h => h)).below (by simp; omega))
      have X3 : Blk w3 w.heap.size 23 #[.int .i64 g.D, .int .i64 g.Z, .int .i64 g.S, .int .i64 g.B, .int .i64 g.P, .int .i64 g.O] := hK3.blk (by simp; omega) (by simp; omega) (hX'.out.alloc _)
      have HX3 := Lib.hid X3
      have L3 : Blk w3 w2.heap.size 31 last.arr := hK3.blk (by simp; omega) (by simp; omega) (hL'.out.alloc _)
      have HL3 := Lib.hid L3
      have B3 : Blk w3 wr.heap.size 31 x.arr := hK3.blk (by simp) (by simp; omega) (Blk.newAt rfl)
      obtain ⟨⟨x0, x1, x2⟩, x3, x4, x5⟩ := X3.geo
      obtain ⟨⟨y0, y1, y2⟩, y3, y4, y5⟩ := B3.ent
      obtain ⟨⟨v0, v1, v2⟩, v3, v4, v5⟩ := L3.ent
      have fr : ∀ j, w3.frozen? ⟨w2.heap.size, j, none⟩ = false := L3.frozen
      clear sc sl hK3 X3 L3 B3 c0 c1 c2 c3 c4 c5
      cases hxr : x.right g with
      | false =>
        simp only [hxr, if_false, Bool.false_eq_true] at hM3 hO3 ⊢
        have HM3 := Lib.hid hM3
        have HO3 := Lib.hid hO3
        clear hM3 hO3 fr y0 y1 y2 y3 y4 y5
        generalize last = lx at *
        generalize xv = lxv at *
        have HS := Lib.hid (G.small_of_right hr)
        have a0 := HS.out.all_le.1
        have a1 := HS.out.all_le.2
        go_wp2_with (go_at_call 27; refine (geom_all _ _ HS.out).mono ?_; rintro e w' ⟨rfl, rfl⟩)
        go_loop [59] (fun z => ∃ j : Nat, (j : Int) ≤ g.all ∧ z = .int .i64 j) (fun z => (g.all - intOf z).toNat)
        case atStart => exact ⟨0, by omega, rfl⟩
        case round =>
          obtain ⟨j, hj, rfl⟩ := hrel
          by_cases hlt2 : (j : Int) < g.all
          · have hlv : rdI lxv j = b2i (lx.has j) := by rw [HO3.out.live j (by omega) hlt2, one_cnt g b lx hb0 hb1]
            have live : Hid (rdI lxv j = b2i (lx.has j)) := hlv
            clear hlv
            by_cases q1 : lx.st = 1
            · by_cases q2 : (j : Int) = lx.zn
              · have m1 : (lx.st == 1) = true := by simp [q1]
                have m2 : ((j : Int) == lx.zn) = true := by simp [q2]
                have m3 : (rdI lxv j != 1) = false := by rw [live.out]; simp [E.has, q1, q2, b2i]
                clear q1 q2
                go_wp2_with (go_at_call 28; refine (map_live _ p bl bv g (one g b lx) lxv (HM3.out.grow (below_box _ _)) _ (by omega) (by have := HO3.out.lvlen; omega)).mono ?_; rintro e w' ⟨rfl, rfl⟩)
                go_round
                case rel => exact ⟨j + 1, by omega, by go_num⟩
                case measure => simp [intOf]; omega
              · by_cases q3 : (j : Int) = lx.mt
                · have m1 : (lx.st == 1) = true := by simp [q1]
                  have m2 : ((j : Int) == lx.zn) = false := by simp [q2]
                  have m4 : ((j : Int) == lx.mt) = true := by simp [q3]
                  have m3 : (rdI lxv j != 1) = false := by rw [live.out]; simp [E.has, q1, q3, b2i]
                  clear q1 q2 q3
                  go_wp2_with (go_at_call 28; refine (map_live _ p bl bv g (one g b lx) lxv (HM3.out.grow (below_box _ _)) _ (by omega) (by have := HO3.out.lvlen; omega)).mono ?_; rintro e w' ⟨rfl, rfl⟩)
                  go_round
                  case rel => exact ⟨j + 1, by omega, by go_num⟩
                  case measure => simp [intOf]; omega
                · have m1 : (lx.st == 1) = true := by simp [q1]
                  have m2 : ((j : Int) == lx.zn) = false := by simp [q2]
                  have m4 : ((j : Int) == lx.mt) = false := by simp [q3]
                  have m3 : (rdI lxv j != 0) = false := by rw [live.out]; simp [E.has, q1, b2i]; omega
                  clear q1 q2 q3
                  go_wp2_with (go_at_call 28; refine (map_live _ p bl bv g (one g b lx) lxv (HM3.out.grow (below_box _ _)) _ (by omega) (by have := HO3.out.lvlen; omega)).mono ?_; rintro e w' ⟨rfl, rfl⟩)
                  go_round
                  case rel => exact ⟨j + 1, by omega, by go_num⟩
                  case measure => simp [intOf]; omega
            · have m1 : (lx.st == 1) = false := by simp [q1]
              have m3 : (rdI lxv j != 0) = false := by rw [live.out]; simp [E.has, q1, b2i]
              clear q1
              go_wp2_with (go_at_call 28; refine (map_live _ p bl bv g (one g b lx) lxv (HM3.out.grow (below_box _ _)) _ (by omega) (by have := HO3.out.lvlen; omega)).mono ?_; rintro e w' ⟨rfl, rfl⟩)
              go_round
              case rel => exact ⟨j + 1, by omega, by go_num⟩
              case measure => simp [intOf]; omega
          · go_wp2_with fail
            have hWW : Below w3.heap.size w3 (w3.alloc g.box) := below_box _ _
            go_roundw
            case rel => exact ⟨k + 1, lx, lxv, by omega, by go_num, HM3.out.grow hWW, HO3.out, HB3.out.trans (hWW.mono (by omega)), HX3.out.alloc _, HL3.out.alloc _⟩
            case measure => simp [intOf]; omega

      | true =>
        simp only [hxr, if_true] at hM3 hO3 ⊢
        have HM3' := Lib.hid hM3
        have HO3 := Lib.hid hO3
        clear hM3 hO3
        go_wp2_with fail
        obtain ⟨W4, hW4, bp, kp⟩ : ∃ W4, World.setCell (World.setCell (World.setCell (World.setCell (World.setCell (World.setCell w3 ⟨w2.heap.size, 0, none⟩ (.int .i64 x.st)) ⟨w2.heap.size, 1, none⟩ (.int .i64 x.zn)) ⟨w2.heap.size, 2, none⟩ (.int .i64 x.mt)) ⟨w2.heap.size, 3, none⟩ (.int .i64 x.off)) ⟨w2.heap.size, 4, none⟩ (.int .i64 x.sq)) ⟨w2.heap.size, 5, none⟩ (.int .i64 x.sm) = W4 ∧ Blk W4 w2.heap.size 31 x.arr ∧ Keeps w3.heap.size [w2.heap.size] w3 W4 := ⟨_, rfl, HL3.out.put x⟩
        rw [hW4]
        clear hW4
        have HM4 : Hid (MapAt W4 p bl bv g (one g b x) xv) := HM3'.out.keeps kp ⟨by have := HM3'.out.lt; omega, by simp; omega⟩ ⟨by have := HM3'.out.lt; omega, by simp; omega⟩ ⟨by have := HM3'.out.lt; omega, by simp; omega⟩
        have HB4 : Hid (Below w.heap.size w W4) := HB3.out.trans ((kp.mono (B' := w.heap.size) (by omega) (fun _ h => h)).below (by simp; omega))
        have HX4 : Hid (Blk W4 w.heap.size 23 #[.int .i64 g.D, .int .i64 g.Z, .int .i64 g.S, .int .i64 g.B, .int .i64 g.P, .int .i64 g.O]) := kp.blk (by omega) (by simp; omega) HX3.out
        have HL4 := Lib.hid bp
        have z4 : w2.heap.size < W4.heap.size := by have := kp.size; omega
        have z4' : w.heap.size < W4.heap.size := by omega
        obtain ⟨⟨u0, u1, u2⟩, u3, u4, u5⟩ := bp.ent
        have HL3o := HL3
        have HX3o := HX3
        clear bp kp HB3 HM3' HX3 HL3 fr y0 y1 y2 y3 y4 y5 v0 v1 v2 v3 v4 v5 x0 x1 x2 x3 x4 x5
        have HM3 := HM4
        have HB3 := HB4
        have HX3 := HX4
        have HL3 := HL4
        clear HM4 HB4 HX4 HL4
        generalize x = lx at *
        generalize xv = lxv at *
        have HS := Lib.hid (G.small_of_right hr)
        have a0 := HS.out.all_le.1
        have a1 := HS.out.all_le.2
        go_wp2_with (go_at_call 27; refine (geom_all _ _ HS.out).mono ?_; rintro e w' ⟨rfl, rfl⟩)
        go_loop [59] (fun z => ∃ j : Nat, (j : Int) ≤ g.all ∧ z = .int .i64 j) (fun z => (g.all - intOf z).toNat)
        case atStart => exact ⟨0, by omega, rfl⟩
        case round =>
          obtain ⟨j, hj, rfl⟩ := hrel
          by_cases hlt2 : (j : Int) < g.all
          · have hlv : rdI lxv j = b2i (lx.has j) := by rw [HO3.out.live j (by omega) hlt2, one_cnt g b lx hb0 hb1]
            have live : Hid (rdI lxv j = b2i (lx.has j)) := hlv
            clear hlv
            by_cases q1 : lx.st = 1
            · by_cases q2 : (j : Int) = lx.zn
              · have m1 : (lx.st == 1) = true := by simp [q1]
                have m2 : ((j : Int) == lx.zn) = true := by simp [q2]
                have m3 : (rdI lxv j != 1) = false := by rw [live.out]; simp [E.has, q1, q2, b2i]
                clear q1 q2
                go_wp2_with (go_at_call 28; refine (map_live _ p bl bv g (one g b lx) lxv (HM3.out.grow (below_box _ _)) _ (by omega) (by have := HO3.out.lvlen; omega)).mono ?_; rintro e w' ⟨rfl, rfl⟩)
                go_round
                case rel => exact ⟨j + 1, by omega, by go_num⟩
                case measure => simp [intOf]; omega
              · by_cases q3 : (j : Int) = lx.mt
                · have m1 : (lx.st == 1) = true := by simp [q1]
                  have m2 : ((j : Int) == lx.zn) = false := by simp [q2]
                  have m4 : ((j : Int) == lx.mt) = true := by simp [q3]
                  have m3 : (rdI lxv j != 1) = false := by rw [live.out]; simp [E.has, q1, q3, b2i]
                  clear q1 q2 q3
                  go_wp2_with (go_at_call 28; refine (map_live _ p bl bv g (one g b lx) lxv (HM3.out.grow (below_box _ _)) _ (by omega) (by have := HO3.out.lvlen; omega)).mono ?_; rintro e w' ⟨rfl, rfl⟩)
                  go_round
                  case rel => exact ⟨j + 1, by omega, by go_num⟩
                  case measure => simp [intOf]; omega
                · have m1 : (lx.st == 1) = true := by simp [q1]
                  have m2 : ((j : Int) == lx.zn) = false := by simp [q2]
                  have m4 : ((j : Int) == lx.mt) = false := by simp [q3]
                  have m3 : (rdI lxv j != 0) = false := by rw [live.out]; simp [E.has, q1, b2i]; omega
                  clear q1 q2 q3
                  go_wp2_with (go_at_call 28; refine (map_live _ p bl bv g (one g b lx) lxv (HM3.out.grow (below_box _ _)) _ (by omega) (by have := HO3.out.lvlen; omega)).mono ?_; rintro e w' ⟨rfl, rfl⟩)
                  go_round
                  case rel => exact ⟨j + 1, by omega, by go_num⟩
                  case measure => simp [intOf]; omega
            · have m1 : (lx.st == 1) = false := by simp [q1]
              have m3 : (rdI lxv j != 0) = false := by rw [live.out]; simp [E.has, q1, b2i]
              clear q1
              go_wp2_with (go_at_call 28; refine (map_live _ p bl bv g (one g b lx) lxv (HM3.out.grow (below_box _ _)) _ (by omega) (by have := HO3.out.lvlen; omega)).mono ?_; rintro e w' ⟨rfl, rfl⟩)
              go_round
              case rel => exact ⟨j + 1, by omega, by go_num⟩
              case measure => simp [intOf]; omega
          · go_wp2_with fail
            have hWW : Below W4.heap.size W4 (W4.alloc g.box) := below_box _ _
            go_roundw
            case rel => exact ⟨k + 1, lx, lxv, by omega, by go_num, HM3.out.grow hWW, HO3.out, HB3.out.trans (hWW.mono (by omega)), HX3.out.alloc _, HL3.out.alloc _⟩
            case measure => simp [intOf]; omega

    · obtain rfl : k = n := by omega
      clear hM hO hB hX hL
      go_wp2_with fail
      refine (map_get wr p bl bv g _ lastv hM'.out b last hb0 (one_at g b last hb0 hb1)).mono ?_
      rintro r w5 ⟨rfl, hb5⟩
      have HM5 := Lib.hid (hM'.out.grow hb5)
      have HB5 := Lib.hid (hB'.out.trans (hb5.mono hB'.out.size))
      have X5 := (Keeps.of_below (S := []) hb5).blk (by have := hB'.out.size; omega) (by simp) hX'.out
      have L5 := (Keeps.of_below (S := []) hb5).blk zl (by simp) hL'.out
      have HX5 := Lib.hid X5
      have HL5 := Lib.hid L5
      obtain ⟨⟨x0, x1, x2⟩, x3, x4, x5⟩ := X5.geo
      obtain ⟨⟨v0, v1, v2⟩, v3, v4, v5⟩ := L5.ent
      have z5 : w.heap.size < w5.heap.size := by have := hb5.size; omega
      have z5' : w2.heap.size < w5.heap.size := by have := hb5.size; omega
      clear hb5 X5 L5
      have sc0 : setCode g (one g b last) b E0 = 0 := by rw [(setL_one hb0 hb1).1, E0_right]; rfl
      have st0 : states (setL g (one g b last) b E0) 0 = g.B := by rw [(setL_one hb0 hb1).2, E0_right, if_pos rfl, one_zero]; exact nones_states g (by omega)
      have HM6 : Hid (MapAt (w5.alloc last.box).drew p bl bv g (one g b last) lastv) := (HM5.out.grow (below_box _ _)).drew
      have lt5 := HM5.out.lt
      have HS0 : Hid (OverS w.heap.size w2.heap.size w5.heap.size g last (w5.alloc last.box).drew) :=
        ⟨(HX5.out.alloc last.box).geo.2.1, (HL5.out.alloc last.box).ent.1.1, (HL5.out.alloc last.box).ent.1.2.1, (HL5.out.alloc last.box).ent.1.2.2, (HL5.out.alloc last.box).ent.2.1, (HL5.out.alloc last.box).ent.2.2.1, (HL5.out.alloc last.box).ent.2.2.2,
          (Blk.newAt (w := w5) (t := 31) (cs := last.arr) rfl).ent.1.1, (Blk.newAt (w := w5) (t := 31) (cs := last.arr) rfl).ent.1.2.1, (Blk.newAt (w := w5) (t := 31) (cs := last.arr) rfl).ent.1.2.2, (Blk.newAt (w := w5) (t := 31) (cs := last.arr) rfl).ent.2.1, (Blk.newAt (w := w5) (t := 31) (cs := last.arr) rfl).ent.2.2.1, (Blk.newAt (w := w5) (t := 31) (cs := last.arr) rfl).ent.2.2.2⟩
      go_wp2_with fail
      go_region_held3 (fun w' => w'.cell? ⟨w.heap.size, 3, none⟩ = some (.int .i64 g.B) ∧ w'.cell? ⟨w2.heap.size, 0, none⟩ = some (.int .i64 last.st) ∧ w'.cell? ⟨w2.heap.size, 1, none⟩ = some (.int .i64 last.zn) ∧ w'.cell? ⟨w2.heap.size, 2, none⟩ = some (.int .i64 last.mt) ∧ w'.cell? ⟨w2.heap.size, 3, none⟩ = some (.int .i64 last.off) ∧ w'.cell? ⟨w2.heap.size, 4, none⟩ = some (.int .i64 last.sq) ∧ w'.cell? ⟨w2.heap.size, 5, none⟩ = some (.int .i64 last.sm) ∧ w'.cell? ⟨w5.heap.size, 0, none⟩ = some (.int .i64 last.st) ∧ w'.cell? ⟨w5.heap.size, 1, none⟩ = some (.int .i64 last.zn) ∧ w'.cell? ⟨w5.heap.size, 2, none⟩ = some (.int .i64 last.mt) ∧ w'.cell? ⟨w5.heap.size, 3, none⟩ = some (.int .i64 last.off) ∧ w'.cell? ⟨w5.heap.size, 4, none⟩ = some (.int .i64 last.sq) ∧ w'.cell? ⟨w5.heap.size, 5, none⟩ = some (.int .i64 last.sm))
        (first | (go_keep; done) | exact HS0.out.keeps hK6 (by simp; omega) (by simp; omega) (by simp; omega) | exact HS0.out.keeps (hK6.trans (Keeps.of_below (hb7.mono hK6.size))) (by simp; omega) (by simp; omega) (by simp; omega))
        (first | (go_at_call 26; refine (map_set _ p bl bv g _ lastv HM6.out hO'.out b E0).mono ?_; rintro r w6 ⟨rfl, hM6, hK6⟩) | (go_at_call 29; refine (map_states _ p bl bv g _ _ hM6 0).mono ?_; rintro r w7 ⟨rfl, hb7⟩))
      clear x0 x1 x2 x3 x4 x5 v0 v1 v2 v3 v4 v5
      go_wp2
      go_ret
      have k6 : Below w.heap.size w w6 := (below_drew (HB5.out.alloc (by omega) _)).trans ((hK6.mono (B' := w.heap.size) (by simp; omega) (fun _ h => h)).below (by simp; omega))
      exact ⟨rfl, k6.trans (hb7.mono k6.size)⟩
end Go.Proofs.Ytcgafnmpfdkfoaa
