/- revetmentref11.In: the blocks that lie in a zone. -/
import Derived.Test.YtcgafnmpfdkfoaaIter3
import Derived.Test.YtcgafnmpfdkfoaaClone
import Derived.Maps.AppendAt
namespace Go.Proofs.Ytcgafnmpfdkfoaa
open Go.RowKit

def nats (xs : List Nat) : List Value := xs.map fun (x : Nat) => .int .i64 x
theorem insOf_le (z : Int) (pre : List (Nat × E)) : (insOf z pre).length ≤ pre.length := by
  unfold insOf; rw [List.length_map]; exact List.length_filter_le _ _
/-- A slice value that holds these numbers, in a block beyond n₀; or the nil slice. -/
def Nums (n₀ : Nat) (w : World) (v : Value) (xs : List Nat) : Prop := w.ownsRow n₀ 3 1 v xs.length (nats xs)
theorem nats_length (xs : List Nat) : (nats xs).length = xs.length := by simp [nats]

set_option maxRecDepth 100000 in
set_option maxHeartbeats 1000000 in
theorem ref_in (w : World) (b c : Nat) (l : List E) (hb : b < w.heap.size) (hz : l.length ≤ 1000) (he : ∀ i e, l[i]? = some e → EntReads w b i e) (z : Int) :
    Calls Try.prog 78 #[.slice (some ⟨b, 0, none⟩) l.length c, .int .i64 z] w fun r w' => Below w.heap.size w w' ∧ ∃ v, r = .returned v ∧ Nums w.heap.size w' v (insOf z (enum l)) := by
  obtain ⟨i0, hi, hz0, hz1, hz2⟩ := info_parts info_int
  have HE := Lib.hid he
  clear he
  go_enter Try.func78, Try.ntmps78
  go_wp2
  go_loopw [5, 6] (fun s i wr => ∃ (k : Nat) (v : Value), k ≤ l.length ∧ v = s ∧ i = .int .i64 k ∧ Nums w.heap.size wr v (insOf z ((enum l).take k)) ∧ Below w.heap.size w wr) (fun _ i _ => l.length - (intOf i).toNat)
  case atStart => exact ⟨0, _, Nat.zero_le _, rfl, rfl, World.ownsRow_nil _ _ _ _, Below.refl _ _⟩
  case round =>
    obtain ⟨k, v, hk, rfl, rfl, hN, hB⟩ := hrel
    by_cases hlt : k < l.length
    · have hek : l[k]? = some l[k] := List.getElem?_eq_getElem hlt
      generalize l[k] = e at hek
      obtain ⟨e0, e1, e2, e3, e4, e5⟩ := HE.out k e hek
      have hc : ∀ o, wr.cell? ⟨b, o, none⟩ = w.cell? ⟨b, o, none⟩ := fun o => hB.cell (p := ⟨b, o, none⟩) hb
      have d0 := (hc _).trans e0
      have d1 := (hc _).trans e1
      have d2 := (hc _).trans e2
      obtain ⟨t1, rest, t2⟩ := take_snoc _ _ _ (enum_get l k e hek)
      have hsr := hB.size
      have hle := Nat.le_trans (insOf_le z ((enum l).take k)) (List.length_take_le _ _)
      have hs := insOf_snoc z ((enum l).take k) (k, e)
      rw [← t1] at hs
      have HB := Lib.hid hB
      clear hc e0 e1 e2 e3 e4 e5 t1 t2 hB
      rcases has_cases z e with ⟨hh, h1, h2⟩ | ⟨hh, h1⟩
      · simp only [hh, if_true] at hs
        have f1 : (e.st == 1) = true := by simp [h1]
        clear h1 hh
        have hrow : (wr.alloc (.cells #[.int .i64 k] 3)).ownsRow w.heap.size 3 1 v (insOf z ((enum l).take k)).length (nats (insOf z ((enum l).take k))) := World.ownsRow.alloc hN _
        have fin : Hid (∀ v' w1, w1.ownsRow w.heap.size 3 1 v' ((insOf z ((enum l).take k)).length + 1) (nats (insOf z ((enum l).take k)) ++ [.int .i64 k]) → (wr.alloc (.cells #[.int .i64 k] 3)).grownBy w1 v.ownBlock →
            Nums w.heap.size w1 v' (insOf z ((enum l).take (k + 1))) ∧ Below w.heap.size w w1) := by
          refine Lib.hid fun v' w1 hown' hgrow => ⟨?_, ?_⟩
          · rw [hs]
            unfold Nums
            rw [List.length_append, List.length_singleton, nats, List.map_append]
            exact hown'
          · refine (HB.out.alloc hsr _).grown hgrow (by simp; omega) fun j ej => ?_
            rcases hrow.2 with ⟨h', _⟩ | ⟨g', c', cur, h', hb', _⟩
            · rw [h'] at ej; simp [Value.ownBlock] at ej
            · rw [h'] at ej
              obtain rfl : g' = j := by simpa [Value.ownBlock] using ej
              exact hb'
        clear hs
        rcases h2 with h2 | ⟨h2, h3⟩
        · have f2 : (e.zn == z) = true := by simp [h2]
          clear h2
          go_wp2_with (at_builtin; refine wpList_append_own _ rfl _ _ 73 rfl w.heap.size 3 i0 (.int .i64 0) 1 8 Try.underlying73 hi hz0 hz1 hz2 rfl (by omega) _ (insOf z ((enum l).take k)).length (nats (insOf z ((enum l).take k))) rfl hrow ⟨wr.heap.size, 0, none⟩ 1 1 [.int .i64 k] rfl rfl (cell_one_new _ _ _) (by simp [Value.oneCell']) (by unfold maxLen; omega) (by omega) (by simp; omega) ?_; intro v' w1 hown' hgrow hnil)
          go_round
          case rel => exact ⟨k + 1, v', by omega, rfl, by simp, fin.out _ _ hown' hgrow⟩
          case measure => simp [intOf]; omega
        · have f2 : (e.zn == z) = false := by simp [h2]
          have f3 : (e.mt == z) = true := by simp [h3]
          clear h2 h3
          go_wp2_with (at_builtin; refine wpList_append_own _ rfl _ _ 73 rfl w.heap.size 3 i0 (.int .i64 0) 1 8 Try.underlying73 hi hz0 hz1 hz2 rfl (by omega) _ (insOf z ((enum l).take k)).length (nats (insOf z ((enum l).take k))) rfl hrow ⟨wr.heap.size, 0, none⟩ 1 1 [.int .i64 k] rfl rfl (cell_one_new _ _ _) (by simp [Value.oneCell']) (by unfold maxLen; omega) (by omega) (by simp; omega) ?_; intro v' w1 hown' hgrow hnil)
          go_round
          case rel => exact ⟨k + 1, v', by omega, rfl, by simp, fin.out _ _ hown' hgrow⟩
          case measure => simp [intOf]; omega
      · have hN2 : Nums w.heap.size wr v (insOf z ((enum l).take (k + 1))) := by rw [hs, if_neg (by simp [hh])]; exact hN
        have fin := Lib.hid hN2
        clear hs hh hN hN2
        rcases h1 with h1 | ⟨h1, h2, h3⟩
        · have f1 : (e.st == 1) = false := by simp [h1]
          clear h1
          go_wp2
          go_round
          case rel => exact ⟨k + 1, v, by omega, rfl, by simp, fin.out, HB.out⟩
          case measure => simp [intOf]; omega
        · have f1 : (e.st == 1) = true := by simp [h1]
          have f2 : (e.zn == z) = false := by simp [h2]
          have f3 : (e.mt == z) = false := by simp [h3]
          clear h1 h2 h3
          go_wp2
          go_round
          case rel => exact ⟨k + 1, v, by omega, rfl, by simp, fin.out, HB.out⟩
          case measure => simp [intOf]; omega
    · obtain rfl : k = l.length := by omega
      rw [List.take_of_length_le (by rw [enum_length]; omega)] at hN
      go_wp2
      go_ret
      exact ⟨hB, v, rfl, hN⟩
end Go.Proofs.Ytcgafnmpfdkfoaa
