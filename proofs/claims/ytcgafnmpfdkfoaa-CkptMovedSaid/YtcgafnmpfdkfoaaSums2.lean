/- Law BmapSums: the walk. -/
import Derived.Test.YtcgafnmpfdkfoaaSums1
import Derived.Test.YtcgafnmpfdkfoaaAnchor
namespace Go.Proofs.Ytcgafnmpfdkfoaa
open Go.RowKit

/-- The six cells of a geometry's own block. -/
theorem Blk.geo {w : World} {b : Nat} {t : TypeId} {g : G} (h : Blk w b t #[.int .i64 g.D, .int .i64 g.Z, .int .i64 g.S, .int .i64 g.B, .int .i64 g.P, .int .i64 g.O]) : (w.cell? ⟨b, 0, none⟩ = some (.int .i64 g.D) ∧ w.cell? ⟨b, 1, none⟩ = some (.int .i64 g.Z) ∧ w.cell? ⟨b, 2, none⟩ = some (.int .i64 g.S)) ∧
    w.cell? ⟨b, 3, none⟩ = some (.int .i64 g.B) ∧ w.cell? ⟨b, 4, none⟩ = some (.int .i64 g.P) ∧ w.cell? ⟨b, 5, none⟩ = some (.int .i64 g.O) :=
  ⟨⟨by rw [h.cell]; rfl, by rw [h.cell]; rfl, by rw [h.cell]; rfl⟩, by rw [h.cell]; rfl, by rw [h.cell]; rfl, by rw [h.cell]; rfl⟩

structure Op11 where
  b : Int
  e : E
/-- A slice of steps, as it lies. -/
def OpsAt (w : World) (A : Option Addr) (n c : Nat) (ops : List Op11) : Prop :=
  ops.length = n ∧ n ≤ c ∧ c ≤ maxLen ∧ (0 < n → ∃ b off, A = some ⟨b, off, none⟩ ∧ b < w.heap.size ∧ ∀ k o, ops[k]? = some o →
    w.cell? ⟨b, off + k * 7, none⟩ = some (.int .i64 o.b) ∧ w.cell? ⟨b, off + k * 7 + 1, none⟩ = some (.int .i64 o.e.st) ∧ w.cell? ⟨b, off + k * 7 + 2, none⟩ = some (.int .i64 o.e.zn) ∧ w.cell? ⟨b, off + k * 7 + 3, none⟩ = some (.int .i64 o.e.mt) ∧
    w.cell? ⟨b, off + k * 7 + 4, none⟩ = some (.int .i64 o.e.off) ∧ w.cell? ⟨b, off + k * 7 + 5, none⟩ = some (.int .i64 o.e.sq) ∧ w.cell? ⟨b, off + k * 7 + 6, none⟩ = some (.int .i64 o.e.sm))

theorem MapAt.from {w : World} {p bl bv : Nat} {g : G} {l : List E} {lv : List Int} (h : MapAt w p bl bv g l lv) (x : From w) : MapAt x.val p bl bv g l lv := h.grow x.below

set_option maxHeartbeats 4000000 in
theorem sums_walk (w : World) (g : G) (A : Option Addr) (n c : Nat) (ops : List Op11) (h : OpsAt w A n c ops) :
    Calls Try.prog 3 #[g.v, .slice A n c] w fun r w' => r = .returned (.bool true) ∧ Below w.heap.size w w' := by
  obtain ⟨hn, hc, hm, hcell⟩ := h
  have hm2 : n ≤ 9223372036854775807 := by unfold maxLen at hm; omega
  have HN := Lib.hid hn
  have HC := Lib.hid hcell
  clear hn hcell hc hm
  cases hr : g.right with
  | false =>
    go_enter Try.func3, Try.ntmps3
    go_wp2_with fail
    refine (anchor11 _).mono ?_
    rintro r w1 ⟨rfl, hb⟩
    obtain ⟨hcc, hff⟩ := bcell hb
    have hz : w.heap.size < w1.heap.size := by have := hb.size; simp at this; omega
    go_wp2_with fail
    refine (map_new_no g _ hr).mono ?_
    rintro r w2 ⟨rfl, hb2⟩
    go_wp2
    go_ret
    exact ⟨rfl, (below_then (below_box w _) (by simp) hb).trans (hb2.mono (by omega))⟩
  | true =>
    go_enter Try.func3, Try.ntmps3
    go_wp2_with fail
    refine (anchor11 _).mono ?_
    rintro r w1 ⟨rfl, hb⟩
    obtain ⟨hcc, hff⟩ := bcell hb
    have hz : w.heap.size < w1.heap.size := by have := hb.size; simp at this; omega
    go_wp2_with fail
    refine (map_new_yes g _ hr).mono ?_
    rintro r w2 ⟨p, bl, bv, rfl, ⟨n1, n2, n3⟩, hM, hb2⟩
    have HM := Lib.hid hM
    have HB : Hid (Below w.heap.size w w2) := (below_then (below_box w _) (by simp) hb).trans (hb2.mono (by omega))
    have X2 : Hid (Blk w2 w.heap.size 23 #[.int .i64 g.D, .int .i64 g.Z, .int .i64 g.S, .int .i64 g.B, .int .i64 g.P, .int .i64 g.O]) :=
      (Keeps.of_below (S := []) hb2).blk (by omega) (by simp) ((Keeps.of_below (S := []) hb).blk (by simp) (by simp) (Blk.newAt rfl))
    clear hM hb2 hcc hff hb
    by_cases hlong : 60 < n
    · go_wp2
      go_ret
      exact ⟨rfl, HB.out⟩
    · go_wp2
      go_loopw [38] (fun i wr => ∃ (k : Nat) (l : List E) (lv : List Int), k ≤ n ∧ i = .int .i64 k ∧ MapAt wr p bl bv g l lv ∧ MapOk g l lv ∧ Below w.heap.size w wr ∧ Blk wr w.heap.size 23 #[.int .i64 g.D, .int .i64 g.Z, .int .i64 g.S, .int .i64 g.B, .int .i64 g.P, .int .i64 g.O]) (fun i _ => n - (intOf i).toNat)
      case atStart => exact ⟨0, _, _, Nat.zero_le _, rfl, HM.out, MapOk.new hr, HB.out, X2.out⟩
      case round =>
        obtain ⟨k, l, lv, hk, rfl, hM, hO, hB, hX⟩ := hrel
        by_cases hlt : k < n
        · obtain ⟨o, ho⟩ : ∃ o, ops[k]? = some o := ⟨_, List.getElem?_eq_getElem (by rw [HN.out]; exact hlt)⟩
          obtain ⟨b, off, hA, hbl, hcs⟩ := HC.out (by omega)
          obtain ⟨c0, c1, c2, c3, c4, c5, c6⟩ := hcs k o ho
          subst hA
          have hcw : ∀ j, wr.cell? ⟨b, j, none⟩ = w.cell? ⟨b, j, none⟩ := fun j => hB.cell (p := ⟨b, j, none⟩) hbl
          rw [← hcw] at c0 c1 c2 c3 c4 c5 c6
          have hM' := Lib.hid hM
          have hO' := Lib.hid hO
          have hB' := Lib.hid hB
          have hX' := Lib.hid hX
          have hbw : b < wr.heap.size := by have := hB.size; omega
          clear hcs ho hcw hM hO hB hX
          go_wp2_with fail
          refine (map_set _ p bl bv g l lv (hM'.out.grow (below_box _ _)) hO'.out o.b o.e).mono ?_
          rintro r w3 ⟨rfl, hM3, hK3⟩
          have hO3 := hO'.out.setv o.b o.e
          generalize setL g l o.b o.e = l3 at *
          generalize setV g l lv o.b o.e = lv3 at *
          have HO3 := Lib.hid hO3
          have HM3 := Lib.hid hM3
          have zr := hB'.out.size
          have z3 : w.heap.size < w3.heap.size := by have := hK3.size; simp at this; omega
          have HB3 : Hid (Below w.heap.size w w3) := (hB'.out.alloc zr _).trans ((hK3.mono (B' := w.heap.size) (by simp; omega) (fun _ h => h)).below (by simp; omega))
          have X3 : Blk w3 w.heap.size 23 #[.int .i64 g.D, .int .i64 g.Z, .int .i64 g.S, .int .i64 g.B, .int .i64 g.P, .int .i64 g.O] := hK3.blk (by simp; omega) (by simp; omega) (hX'.out.alloc _)
          have HX3 := Lib.hid X3
          obtain ⟨⟨x0, x1, x2⟩, x3, x4, x5⟩ := X3.geo
          have HS := Lib.hid (G.small_of_right hr)
          have a0 := HS.out.all_le.1
          have a1 := HS.out.all_le.2
          clear hM3 hO3 hK3 X3 c0 c1 c2 c3 c4 c5 c6
          go_wp2_with (go_at_call 27; refine (geom_all _ _ HS.out).mono ?_; rintro e w' ⟨rfl, rfl⟩)
          go_loop [9, 50] (fun n z => ∃ j : Nat, (j : Int) ≤ g.all ∧ z = .int .i64 j ∧ n = .int .i64 (sumTo lv3 j)) (fun _ z => (g.all - intOf z).toNat)
          case atStart => exact ⟨0, by omega, rfl, rfl⟩
          case round =>
            obtain ⟨j, hj, rfl, rfl⟩ := hrel
            have hsb := HO3.out.sum_bound j hj
            by_cases hlt2 : (j : Int) < g.all
            · have hlb := HO3.out.bound j (by omega) hlt2
              have hs1 : sumTo lv3 (j + 1) = sumTo lv3 j + rdI lv3 j := rfl
              have HS1 := Lib.hid hs1
              clear hs1
              go_wp2_with (go_at_call 28; refine (map_live _ p bl bv g l3 lv3 (HM3.out.grow (below_box _ _)) _ (by omega) (by have := HO3.out.lvlen; omega)).mono ?_; rintro e w' ⟨rfl, rfl⟩)
              go_round
              case rel => exact ⟨j + 1, by omega, by go_num, by rw [HS1.out]⟩
              case measure => simp [intOf]; omega
            · rw [HO3.out.twice j (by omega)]
              have s1 := states_bound l3 1
              have s0 := states_bound l3 0
              have s2 := states_bound l3 2
              have hl3 := HO3.out.len
              have hB1 := HS.out.B1
              have hthree := HO3.out.three
              have w1' : IntKind.i64.wrap (2 * states l3 1) = 2 * states l3 1 := IntWalk.i64_in _ (by omega)
              have w2' : IntKind.i64.wrap (states l3 0 + states l3 1) = states l3 0 + states l3 1 := IntWalk.i64_in _ (by omega)
              have w3' : IntKind.i64.wrap (states l3 0 + states l3 1 + states l3 2) = g.B := (IntWalk.i64_in _ (by omega)).trans hthree
              have hlen := Lib.hid HO3.out.lvlen
              have hfrom := @From.cell (w3.alloc g.box)
              have z3' : w.heap.size < w3.heap.size + 1 := by omega
              clear hthree hl3 s0 s1 s2 hB1 hsb hj
              go_wp2_with fail
              refine region_from (by kernel_rfl) (by kernel_rfl) ?_
              repeat (go_big_quiet_step ((first
                | (go_at_call 29; exact from_call (map_states _ p bl bv g l3 lv3 (MapAt.from (HM3.out.grow (below_box _ _)) _) _))
                | (go_at_call 27; exact from_call_box (geom_all _ _ HS.out))
                | (go_at_call 28; exact from_call_same (map_live_no _ p bl bv g l3 lv3 (MapAt.from (HM3.out.grow (below_box _ _)) _) _ (.inl (by omega))))
                | (go_at_call 28; exact from_call_same (map_live_no _ p bl bv g l3 lv3 (MapAt.from (HM3.out.grow (below_box _ _)) _) _ (.inr (by rw [hlen.out]; exact Int.le_refl _)))))))
              refine wpQuiet_nil ?_
              intro W hW
              go_wp2
              have hWW : Below (w3.heap.size) w3 W := (below_box w3 g.box).trans (hW.mono (by simp))
              go_roundw
              case rel => exact ⟨k + 1, l3, lv3, by omega, by go_num, HM3.out.grow hWW, HO3.out, HB3.out.trans (hWW.mono (by omega)), (Keeps.of_below (S := []) hWW).blk (by omega) (by simp) HX3.out⟩
              case measure => simp [intOf]; omega
        · obtain rfl : k = n := by omega
          have hB' := Lib.hid hB
          clear hB
          go_wp2
          go_ret
          exact ⟨rfl, hB'.out⟩
end Go.Proofs.Ytcgafnmpfdkfoaa
