/- slices.Sort at a list of whole numbers: the library's contract, laid at this program in plain words. -/
import Derived.Test.YtcgafnmpfdkfoaaMap3
import Derived.Shelf.Sort.Plain
import Derived.Shelf.Slices.In.SortNone
import Derived.Sort.OwnSorted
namespace Go.Proofs.Ytcgafnmpfdkfoaa
open Go.Shelf Go.Sort Go.RowKit
def sortRen : Go.Shelf.Ren := ⟨fun | 189 => 95 | 125 => 130 | 257 => 129 | 128 => 156 | 129 => 157 | 294 => 147 | 295 => 148 | 296 => 149 | 297 => 150 | 298 => 151 | 299 => 152 | 216 => 153 | 300 => 154 | 301 => 155 | 328 => 161 | 329 => 162 | 330 => 163 | 331 => 164 | 332 => 165 | 215 => 146 | 343 => 168 | n => n, fun | 28 => 73 | 3 => 3 | 46 => 167 | 0 => 0 | 51 => 81 | 53 => 245 | 4 => 4 | 183 => 237 | 182 => 236 | 131 => 241 | 5 => 5 | 9 => 9 | 218 => 249 | 222 => 253 | 228 => 256 | 229 => 257 | n => n, fun | n => n⟩
theorem sortLays : Go.Proofs.Lays.n189 Try.prog sortRen := {
  mixed := by kernel_rfl
  f125 := Try.func130.trans (congrArg some (by kernel_rfl))
  f128 := Try.func156.trans (congrArg some (by kernel_rfl))
  f129 := Try.func157.trans (congrArg some (by kernel_rfl))
  f189 := Try.func95.trans (congrArg some (by kernel_rfl))
  f215 := Try.func146.trans (congrArg some (by kernel_rfl))
  f216 := Try.func153.trans (congrArg some (by kernel_rfl))
  f257 := Try.func129.trans (congrArg some (by kernel_rfl))
  f294 := Try.func147.trans (congrArg some (by kernel_rfl))
  f295 := Try.func148.trans (congrArg some (by kernel_rfl))
  f296 := Try.func149.trans (congrArg some (by kernel_rfl))
  f297 := Try.func150.trans (congrArg some (by kernel_rfl))
  f298 := Try.func151.trans (congrArg some (by kernel_rfl))
  f299 := Try.func152.trans (congrArg some (by kernel_rfl))
  f300 := Try.func154.trans (congrArg some (by kernel_rfl))
  f301 := Try.func155.trans (congrArg some (by kernel_rfl))
  f328 := Try.func161.trans (congrArg some (by kernel_rfl))
  f329 := Try.func162.trans (congrArg some (by kernel_rfl))
  f330 := Try.func163.trans (congrArg some (by kernel_rfl))
  f331 := Try.func164.trans (congrArg some (by kernel_rfl))
  f332 := Try.func165.trans (congrArg some (by kernel_rfl))
  f343 := Try.func168.trans (congrArg some (by kernel_rfl))
  t0 := Try.underlying0
  a0 := Try.isAgg0
  z0 := Try.sizeOf0
  v0 := Try.zeroValue0
  t3 := Try.underlying3
  a3 := Try.isAgg3
  z3 := Try.sizeOf3
  v3 := Try.zeroValue3
  t4 := Try.underlying4
  a4 := Try.isAgg4
  z4 := Try.sizeOf4
  v4 := Try.zeroValue4
  t5 := Try.underlying5
  a5 := Try.isAgg5
  z5 := Try.sizeOf5
  v5 := Try.zeroValue5
  t9 := Try.underlying9
  a9 := Try.isAgg9
  z9 := Try.sizeOf9
  v9 := Try.zeroValue9
  t28 := Try.underlying73
  a28 := Try.isAgg73
  z28 := Try.sizeOf73
  v28 := Try.zeroValue73
  t46 := Try.underlying167
  a46 := Try.isAgg167
  z46 := Try.sizeOf167
  v46 := Try.zeroValue167
  t51 := Try.underlying81
  a51 := Try.isAgg81
  z51 := Try.sizeOf81
  v51 := Try.zeroValue81
  t53 := Try.underlying245
  a53 := Try.isAgg245
  z53 := Try.sizeOf245
  v53 := Try.zeroValue245
  t131 := Try.underlying241
  a131 := Try.isAgg241
  z131 := Try.sizeOf241
  v131 := Try.zeroValue241
  t182 := Try.underlying236
  a182 := Try.isAgg236
  z182 := Try.sizeOf236
  v182 := Try.zeroValue236
  t183 := Try.underlying237
  a183 := Try.isAgg237
  z183 := Try.sizeOf237
  v183 := Try.zeroValue237
  t218 := Try.underlying249
  a218 := Try.isAgg249
  z218 := Try.sizeOf249
  v218 := Try.zeroValue249
  t222 := Try.underlying253
  a222 := Try.isAgg253
  z222 := Try.sizeOf253
  v222 := Try.zeroValue253
  t228 := Try.underlying256
  a228 := Try.isAgg256
  z228 := Try.sizeOf256
  v228 := Try.zeroValue256
  t229 := Try.underlying257
  a229 := Try.isAgg257
  z229 := Try.sizeOf257
  v229 := Try.zeroValue257 }

theorem holds_of_ints {w : World} {g : Nat} {cur : Array Value} {e : TypeId} {zs : List Int} (hb : w.heap[g]? = some (.cells cur e (0, 0))) (ht : cur.toList.take zs.length = nums zs) : Holds (Value.int .i64) w g 0 zs.toArray := by
  intro j hj
  have hj' : j < zs.length := by simpa using hj
  refine ⟨?_, by simp [World.frozen?, hb]⟩
  have h1 : (cur.toList.take zs.length)[j]? = (nums zs)[j]? := by rw [ht]
  rw [List.getElem?_take_of_lt hj'] at h1
  simp only [World.cell?, hb, Nat.zero_add]
  simpa [nums, hj'] using h1
theorem heap_sorted_i {w : World} {g n : Nat} {os : Array Obj} {cur : Array Value} {e : TypeId} {fr : Nat × Nat} (d : Array Int) (hb : w.heap[g]? = some (.cells cur e fr)) :
    (grow (putRow (Value.int .i64) (Sort.ahead w n) g 0 d) os).heap[g]? = some (.cells (putCells (Value.int .i64) 0 d cur) e fr) := by
  have hg : g < w.heap.size := (Array.getElem?_eq_some_iff.1 hb).1
  rw [heap_grow_old _ _ (by simpa using hg)]
  simp [putRow, mapBlock, Sort.ahead, Array.getElem?_modify, hb, onCells]
theorem grownBy_sorted_i {w : World} {g n : Nat} {os : Array Obj} (d : Array Int) : w.grownBy (grow (putRow (Value.int .i64) (Sort.ahead w n) g 0 d) os) (some g) := by
  refine ⟨rfl, rfl, rfl, by simp, fun k hk hne => ?_⟩
  rw [heap_grow_old _ _ (by simpa using hk)]
  have : g ≠ k := fun e => hne (by rw [e])
  simp [putRow, mapBlock, Sort.ahead, Array.getElem?_modify, this]
theorem take_putCells_i (cur : Array Value) (ts : List Int) (h : ts.length ≤ cur.size) : (putCells (Value.int .i64) 0 ts.toArray cur).toList.take ts.length = nums ts := by
  apply List.ext_getElem?
  intro j
  by_cases hj : j < ts.length
  · rw [List.getElem?_take_of_lt hj, Array.getElem?_toList]
    simp [putCells, nums, hj, show j < cur.size by omega]
  · rw [List.getElem?_take_eq_none (by omega), List.getElem?_eq_none (by simp [nums]; omega)]
def sorted (zs : List Int) : List Int := zs.mergeSort fun x y => decide (x ≤ y)
/-- slices.Sort of a list of the call's own. -/
theorem sort_own (w : World) (base : Nat) (v : Value) (n : Nat) (zs : List Int) (hown : w.ownsRow base 3 1 v n (nums zs)) (hn : zs.length = n) (hs : n < 4611686018427387904) :
    Calls Try.prog 95 #[v] w fun e w' => e = .returned (.tuple #[]) ∧ w'.ownsRow base 3 1 v n (nums (sorted zs)) ∧ w.grownBy w' v.ownBlock := by
  rcases hown.2 with ⟨rfl, rfl⟩ | ⟨g, cap, cur, rfl, hbase, hb, h1, h2, h3, h4⟩
  · refine (Any.slices_Sort_int_none sortLays none 0 w).mono ?_
    rintro e w' ⟨rfl, rfl⟩
    have hz : zs = [] := List.eq_nil_of_length_eq_zero hn
    subst hz
    refine ⟨rfl, by simpa [sorted] using hown, ⟨rfl, rfl, rfl, Nat.le_refl _, fun _ _ _ => rfl⟩⟩
  · subst hn
    have hg : g < w.heap.size := (Array.getElem?_eq_some_iff.1 hb).1
    refine (Any.slices_Sort_int sortLays g 0 cap zs w (holds_of_ints hb (by simpa using h4)) hg hs).mono ?_
    rintro e w' ⟨rfl, k, os, rfl⟩
    refine ⟨rfl, ⟨by simp [nums, sorted], .inr ⟨g, cap, _, rfl, hbase, heap_sorted_i _ hb, h1, h2, by simp [putCells, h3], ?_⟩⟩, ?_⟩
    · have hl : (sorted zs).length = zs.length := by simp [sorted]
      rw [Nat.mul_one, ← hl]
      exact take_putCells_i cur (sorted zs) (by rw [hl]; omega)
    · exact grownBy_sorted_i _
end Go.Proofs.Ytcgafnmpfdkfoaa
