/- May a snapshot be: snap.Right. -/
import Derived.Test.YtcgafnmpfdkfoaaSnap2
import Derived.Test.YtcgafnmpfdkfoaaIter4
import Derived.Test.YtcgafnmpfdkfoaaRound
namespace Go.Proofs.Ytcgafnmpfdkfoaa
open Go.RowKit Go.Shelf

attribute [local go_sem] Oper.semAt_some

theorem snap_within (n m : Int) (w : World) : Calls Try.prog 82 #[.int .i64 n, .int .i64 m] w fun e w' => e = .returned (.bool (wi n 1 m)) ∧ w = w' := by
  by_cases h1 : 1 ≤ n
  · by_cases h2 : n ≤ m
    · go_enter Try.func82, Try.ntmps82
      go_wp2
      go_ret
      exact ⟨by simp [wi, h1, h2], rfl⟩
    · go_enter Try.func82, Try.ntmps82
      go_wp2
      go_ret
      exact ⟨by simp [wi]; omega, rfl⟩
  · go_enter Try.func82, Try.ntmps82
    go_wp2
    go_ret
    exact ⟨by simp [wi]; omega, rfl⟩
theorem snap_within_b (n m : Int) (w : World) (b : Bool) (h : wi n 1 m = b) : Calls Try.prog 82 #[.int .i64 n, .int .i64 m] w fun e w' => e = .returned (.bool b) ∧ w = w' := h ▸ snap_within n m w

theorem below_putBool {w W : World} {N : Nat} (hb : Below w.heap.size w W) (hN : w.heap.size ≤ N) (v : Value) : Below w.heap.size w (W.setCell ⟨N, 0, none⟩ v) := hb.setCell hN v

set_option maxRecDepth 100000 in
theorem snap_right_a (w : World) (p : Nat) (s : Sn) (h1 : wi s.gen 1 281474976710655 = false) :
    Calls Try.prog 40 #[s.v p] w fun r w' => r = .returned (.bool false) ∧ Below w.heap.size w w' := by
  go_enter Try.func40, Try.ntmps40
  go_wp2_with fail
  refine (snap_within_b _ _ _ _ h1).mono ?_
  rintro r w' ⟨rfl, rfl⟩
  go_wp2
  exact bodyPost_ret (v := .bool false) (by simp [results, Try.results40, go_sem]) rfl ⟨rfl, ((below_box w _).alloc (by simp) _)⟩

set_option maxRecDepth 100000 in
theorem snap_right_b (w : World) (p : Nat) (s : Sn) (h1 : wi s.gen 1 281474976710655 = true) (h2 : wi s.ep 1 4294967295 = false) :
    Calls Try.prog 40 #[s.v p] w fun r w' => r = .returned (.bool false) ∧ Below w.heap.size w w' := by
  go_enter Try.func40, Try.ntmps40
  go_wp2_with fail
  refine (snap_within_b _ _ _ _ h1).mono ?_
  rintro r w' ⟨rfl, rfl⟩
  go_wp2_with fail
  refine (snap_within_b _ _ _ _ h2).mono ?_
  rintro r w' ⟨rfl, rfl⟩
  go_wp2
  exact bodyPost_ret (v := .bool false) (by simp [results, Try.results40, go_sem]) rfl ⟨rfl, ((below_box w _).alloc (by simp) _)⟩
set_option maxRecDepth 100000 in
theorem snap_right_c (w : World) (p : Nat) (s : Sn) (h1 : wi s.gen 1 281474976710655 = true) (h2 : wi s.ep 1 4294967295 = true) (h3 : wi s.nx 1 281474976710655 = false) :
    Calls Try.prog 40 #[s.v p] w fun r w' => r = .returned (.bool false) ∧ Below w.heap.size w w' := by
  go_enter Try.func40, Try.ntmps40
  go_wp2_with fail
  refine (snap_within_b _ _ _ _ h1).mono ?_
  rintro r w' ⟨rfl, rfl⟩
  go_wp2_with fail
  refine (snap_within_b _ _ _ _ h2).mono ?_
  rintro r w' ⟨rfl, rfl⟩
  go_wp2_with fail
  refine (snap_within_b _ _ _ _ h3).mono ?_
  rintro r w' ⟨rfl, rfl⟩
  go_wp2
  exact bodyPost_ret (v := .bool false) (by simp [results, Try.results40, go_sem]) rfl ⟨rfl, ((below_box w _).alloc (by simp) _)⟩

/-- Of how many entries is known that their numbers are less. -/
def Less (nx : Int) (pre : List (Nat × E)) : Prop := ∀ x ∈ pre, x.2.sq < nx
theorem less_enum {l : List E} {nx : Int} : Less nx (enum l) ↔ (l.all fun e => decide (e.sq < nx)) = true := by
  unfold Less enum
  simp only [List.all_eq_true, decide_eq_true_eq, List.mem_map, List.mem_range]
  constructor
  · intro h e he
    obtain ⟨i, hi, rfl⟩ := List.getElem_of_mem he
    have := h (i, l.getD i E0) ⟨i, hi, rfl⟩
    simpa [List.getD_eq_getElem?_getD, hi] using this
  · rintro h x ⟨i, hi, rfl⟩
    have : l.getD i E0 = l[i] := by simp [List.getD_eq_getElem?_getD, hi]
    dsimp only
    rw [this]
    exact h _ (List.getElem_mem hi)
/-- What a round leaves, and what a round that ends the loop. -/
structure RightI (w : World) (p : Nat) (s : Sn) (pre : List (Nat × E)) (W : World) : Prop where
  less : Less s.nx pre
  box : Blk W w.heap.size 53 (s.arr p)
  res : Blk W (w.heap.size + 1) 4 #[.bool false]
  below : Below w.heap.size w W
  size : w.heap.size + 2 < W.heap.size
structure RightX (w : World) (s : Sn) (c : Code) (pre : List (Nat × E)) (W : World) : Prop where
  code : c = .ret
  not : ¬ Less s.nx pre
  res : Blk W (w.heap.size + 1) 4 #[.bool false]
  below : Below w.heap.size w W
  size : w.heap.size + 2 < W.heap.size

set_option maxRecDepth 100000 in
set_option maxHeartbeats 2000000 in
theorem snap_right_d (w : World) (p bl bv : Nat) (g : G) (l : List E) (lv : List Int) (s : Sn) (hM : MapAt w p bl bv g l lv) (hz : l.length ≤ 1000) (h1 : wi s.gen 1 281474976710655 = true) (h2 : wi s.ep 1 4294967295 = true) (h3 : wi s.nx 1 281474976710655 = true) :
    Calls Try.prog 40 #[s.v p] w fun r w' => r = .returned (.bool (l.all fun e => decide (e.sq < s.nx))) ∧ Below w.heap.size w w' := by
  obtain ⟨V0, hV0⟩ : ∃ V0, (w.alloc (s.box p)).alloc (.cells #[.bool false] 4) = V0 := ⟨_, rfl⟩
  have U0 : Below w.heap.size w V0 := by rw [← hV0]; exact (below_box w _).alloc (by simp) _
  have hs0 : V0.heap.size = w.heap.size + 2 := by rw [← hV0]; simp
  have Y0 : Blk V0 w.heap.size 53 (s.arr p) := by rw [← hV0]; exact (Blk.newAt rfl).alloc _
  have R0 : Blk V0 (w.heap.size + 1) 4 #[.bool false] := by rw [← hV0]; exact Blk.newAt (by simp)
  have hM0 := hM.grow U0
  have hcall := Lib.hid (map_all_made V0 p bl bv g l lv hM0)
  have hML := hM.lt
  obtain ⟨⟨y0, y1⟩, y2, y3⟩ := Y0.scells
  have HY := Lib.hid Y0
  have HR := Lib.hid R0
  have HU := Lib.hid U0
  have HM0 := Lib.hid hM0
  have HS0 := Lib.hid hs0
  clear hM0 U0 Y0 R0 hs0
  refine (callsIn_wide (n := 0)).1 ?_
  refine callsIn_of_wp_marks Try.func40 rfl trivial ?_ rfl
  simp only [Try.ntmps40, List.size_toArray, List.length_cons, List.length_nil, Nat.reduceAdd, Nat.reduceSub, Array.replicate_succ, Array.replicate_zero, List.push_toArray, List.append_toArray, List.nil_append, List.cons_append]
  gi_wp2
  refine ⟨trivial, rfl, ?_⟩
  refine CallsIn.mono (callsIn_wide.2 (snap_within_b _ _ _ _ h1)) ?_
  rintro r w' ⟨rfl, rfl⟩
  gi_wp2
  refine ⟨trivial, rfl, ?_⟩
  refine CallsIn.mono (callsIn_wide.2 (snap_within_b _ _ _ _ h2)) ?_
  rintro r w' ⟨rfl, rfl⟩
  gi_wp2
  refine ⟨trivial, rfl, ?_⟩
  refine CallsIn.mono (callsIn_wide.2 (snap_within_b _ _ _ _ h3)) ?_
  rintro r w' ⟨rfl, rfl⟩
  gi_wp2
  refine ⟨trivial, rfl, ?_⟩
  refine CallsIn.mono (callsIn_wide.2 hcall.out) ?_
  rintro r w2 ⟨rfl, hb2, hs2, hc2⟩
  have hit := MapAt.iterW HM0.out hz hb2 hs2 hc2 [w.heap.size + 1] (by simp; omega)
  have HIT := Lib.hid hit
  have HB2 := Lib.hid hb2
  have hsz : w.heap.size + 2 < w2.heap.size := by have := HS0.out; omega
  have hrd : V0.heap.size = w.heap.size + 2 := HS0.out
  clear hit hb2 hs2 hc2 hcall hV0 y0 y1 y2 y3
  gi_wp2
  rw [HS0.out] at HIT
  refine range_go (gf := 139) (lb := #[.pointer (some ⟨w.heap.size + 2, 0, none⟩)]) (encs := fun x : Nat × E => #[.int .i64 x.1, x.2.v]) (xs := enum l) (S := [w.heap.size + 1]) rfl (enters_of Try.func139 (by kernel_rfl) rfl) HIT.out ?hS (fun _ => rfl)
    (RightI w p s) (RightX w s) ?hI ?hIx ?h0 ?hround ?hdone ?hstop
  case hS => simp; omega
  case hI =>
    rintro q X Y ⟨a, b, c, d, e⟩ hx k
    have n1 : ∀ i ∈ [w2.heap.size, w2.heap.size + 1], w.heap.size + 2 < i := by simp; omega
    exact ⟨a, k.blk b.lt (fun h => by have := n1 _ h; omega) b, k.blk c.lt (fun h => by have := n1 _ h; omega) c, d.trans (Keeps.below (k.mono (by omega) (fun i hi => hi)) (fun i hi => by have := n1 i hi; omega)), by have := k.size; omega⟩
  case hIx =>
    rintro c q X Y ⟨a, b, cc, d, e⟩ hx k
    have n1 : ∀ i ∈ [w2.heap.size, w2.heap.size + 1], w.heap.size + 2 < i := by simp; omega
    exact ⟨a, b, k.blk cc.lt (fun h => by have := n1 _ h; omega) cc, d.trans (Keeps.below (k.mono (by omega) (fun i hi => hi)) (fun i hi => by have := n1 i hi; omega)), by have := k.size; omega⟩
  case h0 => 
    have hb := HB2.out
    exact ⟨fun x hx => by simp at hx, (Keeps.of_below (S := []) hb).blk HY.out.lt (by simp) HY.out, (Keeps.of_below (S := []) hb).blk HR.out.lt (by simp) HR.out, HU.out.trans (hb.mono (by omega)), hsz⟩
  case hround =>
    rintro m l' pre ⟨k, e⟩ rest V rfl hx ⟨a, b, c, d, hv⟩ hlt1
    gi_wp2
    refine ⟨below_box _ _, fun V2 kv hsv => ?_⟩
    rw [World.size_alloc] at kv hsv
    have n1 : w.heap.size + 2 < w2.heap.size + 1 := by omega
    have b2 : Blk V2 w.heap.size 53 (s.arr p) := kv.blk (by omega) (by simp; omega) (b.alloc _)
    have c2 : Blk V2 (w.heap.size + 1) 4 #[.bool false] := kv.blk (by omega) (by simp; omega) (c.alloc _)
    have e2 : Blk V2 V.heap.size 31 e.arr := kv.blk (by omega) (by simp; omega) (Blk.newAt rfl)
    have d2 : Below w.heap.size w V2 := (d.alloc (by omega) e.box).trans (Keeps.below (kv.mono (by omega) (fun i hi => hi)) (by simp; omega))
    obtain ⟨⟨y0, y1⟩, y2, y3⟩ := b2.scells
    obtain ⟨⟨a0, a1⟩, ⟨a2, a3⟩, a4, a5⟩ := EntBlk.cells e2
    have f2 : V2.frozen? ⟨w.heap.size + 1, 0, none⟩ = false := c2.frozen 0
    have r2 : V2.cell? ⟨w.heap.size + 1, 0, none⟩ = some (.bool false) := by rw [c2.cell]; rfl
    have g2 : w.heap.size + 1 < V2.heap.size := by omega
    have HA := Lib.hid a
    have HB := Lib.hid b2
    have HC := Lib.hid c2
    have HD := Lib.hid d2
    have HZ := Lib.hid (And.intro hv (And.intro hsv (And.intro n1 hlt1)))
    clear a b c d b2 c2 e2 d2 hx kv hsv hv hlt1 n1
    by_cases hlt : e.sq < s.nx
    · gi_wp2
      refine ⟨⟨?_, HB.out, HC.out, HD.out, by have := HZ.out; omega⟩, Keeps.refl _ _ _⟩
      intro x hx
      rcases List.mem_append.1 hx with hx | hx
      · exact HA.out x hx
      · rw [List.mem_singleton] at hx; subst hx; exact hlt
    · have hge : s.nx ≤ e.sq := by omega
      gi_wp2
      have kk : Keeps V2.heap.size [w.heap.size + 1] V2 (V2.setCell ⟨w.heap.size + 1, 0, none⟩ (.bool false)) := (Keeps.refl _ _ _).setCell _ _ (.inl (by simp))
      refine ⟨⟨rfl, fun h => ?_, by simpa using HC.out.set_ 0 (.bool false), HD.out.setCell (by simp) _, by have := HZ.out; have := kk.size; omega⟩, kk.mono (by have := HZ.out; omega) (fun i hi => hi)⟩
      have := h (k, e) (by simp)
      dsimp only at this
      omega
  case hdone =>
    rintro D V hD ⟨a, b, c, d, hv⟩ hK
    have f2 : V.frozen? ⟨w.heap.size + 1, 0, none⟩ = false := c.frozen 0
    have r2 : V.cell? ⟨w.heap.size + 1, 0, none⟩ = some (.bool false) := by rw [c.cell]; rfl
    have g2 : w.heap.size + 1 < V.heap.size := by omega
    have hal : (l.all fun e => decide (e.sq < s.nx)) = true := less_enum.1 a
    have HAL := Lib.hid hal
    have HD := Lib.hid d
    have HK := Lib.hid hK
    have HC := Lib.hid c
    clear a b c d hK hal
    gi_wp2
    obtain ⟨W9, hW9⟩ : ∃ W9, V.setCell ⟨w.heap.size + 1, 0, none⟩ (.bool true) = W9 := ⟨_, rfl⟩
    have k9 : Keeps V.heap.size [w.heap.size + 1] V W9 := by rw [← hW9]; exact (Keeps.refl _ _ _).setCell _ _ (.inl (by simp))
    have c9 : Blk W9 (w.heap.size + 1) 4 #[.bool true] := by rw [← hW9]; simpa using HC.out.set_ 0 (.bool true)
    have d9 : W9.heap[D]? = some (.deferred (some [])) := (k9.block D (Array.getElem?_eq_some_iff.1 HK.out).1 (by simp; omega)).trans HK.out
    have b9 : Below w.heap.size w W9 := HD.out.trans (Keeps.below (k9.mono (by omega) (fun i hi => hi)) (by simp))
    rw [hW9]
    clear hW9
    have kF : Keeps (w.heap.size + 2) [D] W9 (W9.putObj D (.deferred none)) := (Keeps.refl _ _ W9).putObj D _ (.inl (by simp))
    have kB : Below w.heap.size W9 (W9.putObj D (.deferred none)) := Keeps.below (kF.mono (by omega) (fun i hi => hi)) (by simp; omega)
    have cF : (W9.putObj D (.deferred none)).cell? ⟨w.heap.size + 1, 0, none⟩ = some (.bool true) := by rw [(kF.blk (by omega) (by simp; omega) c9).cell]; rfl
    refine ⟨by simp, .inl ⟨_, _, rfl, run_takeDeferred d9, ?_⟩⟩
    refine ⟨.bool true, ?_, by rw [HAL.out], b9.trans kB⟩
    simp [results, Try.results40, go_sem, cF]
  case hstop =>
    rintro D c pre x rest V hD hx ⟨a, b, cc, d, hv⟩ hK
    subst a
    have hal : (l.all fun e => decide (e.sq < s.nx)) = false := by
      rw [← Bool.not_eq_true]
      intro h
      refine b fun y hy => less_enum.2 h y ?_
      rw [hx]
      rcases List.mem_append.1 hy with hy | hy
      · exact List.mem_append_left _ hy
      · rw [List.mem_singleton] at hy; subst hy; simp
    have HAL := Lib.hid hal
    have HD := Lib.hid d
    have HK := Lib.hid hK
    have HC := Lib.hid cc
    clear b cc d hK hal
    gi_wp2
    have kF : Keeps (w.heap.size + 2) [D] V (V.putObj D (.deferred none)) := (Keeps.refl _ _ V).putObj D _ (.inl (by simp))
    have kB : Below w.heap.size V (V.putObj D (.deferred none)) := Keeps.below (kF.mono (by omega) (fun i hi => hi)) (by simp; omega)
    have cF : (V.putObj D (.deferred none)).cell? ⟨w.heap.size + 1, 0, none⟩ = some (.bool false) := by rw [(kF.blk (by omega) (by simp; omega) HC.out).cell]; rfl
    refine ⟨by simp, .inl ⟨_, _, rfl, run_takeDeferred HK.out, ?_⟩⟩
    refine ⟨.bool false, ?_, by rw [HAL.out], HD.out.trans kB⟩
    simp [results, Try.results40, go_sem, cF]
theorem snap_right (w : World) (p bl bv : Nat) (g : G) (l : List E) (lv : List Int) (s : Sn) (hM : MapAt w p bl bv g l lv) (hz : l.length ≤ 1000) :
    Calls Try.prog 40 #[s.v p] w fun r w' => r = .returned (.bool (s.right l)) ∧ Below w.heap.size w w' := by
  unfold Sn.right
  cases h1 : wi s.gen 1 281474976710655 with
  | false => simpa using snap_right_a w p s h1
  | true =>
    cases h2 : wi s.ep 1 4294967295 with
    | false => simpa using snap_right_b w p s h1 h2
    | true =>
      cases h3 : wi s.nx 1 281474976710655 with
      | false => simpa using snap_right_c w p s h1 h2 h3
      | true => simpa using snap_right_d w p bl bv g l lv s hM hz h1 h2 h3
theorem snap_right_v (w : World) (p bl bv : Nat) (g : G) (l : List E) (lv : List Int) (s : Sn) (hM : MapAt w p bl bv g l lv) (hz : l.length ≤ 1000) (b : Bool) (hb : s.right l = b) :
    Calls Try.prog 40 #[s.v p] w fun r w' => r = .returned (.bool b) ∧ Below w.heap.size w w' := hb ▸ snap_right w p bl bv g l lv s hM hz
end Go.Proofs.Ytcgafnmpfdkfoaa
