/- What the law CkptMoved stands on, part 1: Round, SnapR, Frames, Made0, ReadE, Begin, Made12, Zones. No condition. -/
import Derived.Test.YtcgafnmpfdkfoaaIter
import Derived.Sort.QuietThIn
import Derived.Test.YtcgafnmpfdkfoaaSnap2
import Derived.Test.YtcgafnmpfdkfoaaIter4
import Derived.Test.YtcgafnmpfdkfoaaTail
import Derived.Test.YtcgafnmpfdkfoaaFrameV
import Derived.Deep.DeepCutAuto
import Derived.Test.YtcgafnmpfdkfoaaSums2
import Derived.Test.YtcgafnmpfdkfoaaIter2
import Derived.Test.YtcgafnmpfdkfoaaReader
import Derived.Test.YtcgafnmpfdkfoaaPure12b
import Derived.Test.YtcgafnmpfdkfoaaFrameEq
/- A region that draws its order, in a round of a range over a function: walked once, as elsewhere. -/
namespace Go.Proofs.Ytcgafnmpfdkfoaa
open Go.RowKit

theorem upon_wide {P : Program} {C : World → Prop} {w : World} {v : Value} {n : Nat} : ∀ {r : Result Next}, Oper.quietUpon P C w v r → Oper.quietUponIn Fence.wide n P C w v r
  | .ok (.value _) _, h => h
  | .ok .skip _, h => h
  | .ok (.enter _ _) _, h => ⟨h.1, wide_any, callsIn_wide.2 h.2⟩
theorem quiet_wide {P : Program} {ops : Array Oper} {C : World → Prop} {Q : Act → Prop} {n : Nat} : ∀ (l : List Oper) (a : Act), wpQuiet P ops C Q l a → wpQuietIn Fence.wide n P ops C Q l a
  | [], _, h => h
  | o :: rest, a, h => by
    unfold wpQuiet at h
    unfold wpQuietIn
    refine ⟨fun _ _ _ _ => trivial, ?_⟩
    split
    · rename_i hw
      rw [if_pos hw] at h
      obtain ⟨v, h1, h2⟩ := h
      exact ⟨v, fun w hw => upon_wide (h1 w hw), quiet_wide rest _ h2⟩
    · rename_i hw
      rw [if_neg hw] at h
      exact quiet_wide rest _ h

def noDefer (o : Oper) : Bool := match o.op with | .defer _ => false | _ => true
theorem noDefer_ne {o : Oper} (h : noDefer o = true) : ∀ c, o.op ≠ .defer c := by
  intro c hc
  simp [noDefer, hc] at h

theorem op_round {n l : Nat} {P : Program} {ops : Array Oper} {Q : Exit → Act → World → Prop} (hd : ops.all noDefer = true) (i : Nat) (K : Act → World → Prop) (a : Act) (w : World)
    (h : wpOpIn Fence.wide n P ops Q i K a w) : wpOpIn (Fence.wide.inRound l) n P ops Q i K a w := by
  unfold wpOpIn at h ⊢
  split
  · rename_i hi; rw [hi] at h; exact h
  · rename_i o hi
    rw [hi] at h
    dsimp only at h
    have hn : noDefer o = true := by
      rw [Array.all_eq_true] at hd
      obtain ⟨hi', rfl⟩ := Array.getElem?_eq_some_iff.1 hi
      exact hd i hi'
    split
    · rename_i hw
      rw [if_pos hw] at h
      refine ⟨h.1, ?_⟩
      have h2 := h.2
      rw [Oper.semAt_eq _ _ _ (noDefer_ne hn)] at h2 ⊢
      exact h2
    · rename_i hw
      rw [if_neg hw] at h
      exact h
theorem any_round {n l : Nat} {P : Program} {ops : Array Oper} {md : Region.Mode} {Q : Exit → Act → World → Prop} (hd : ops.all noDefer = true) : ∀ (fuel : Nat) (listed : Array Bool) (a : Act) (w : World),
    wpAnyIn Fence.wide n P md ops Q fuel listed a w → wpAnyIn (Fence.wide.inRound l) n P md ops Q fuel listed a w
  | 0, _, _, _, h => h
  | fuel + 1, _, a, w, h => ⟨h.1, fun i hi => op_round hd i _ a w (wpOpIn_mono (fun a' w' h' => any_round hd fuel _ a' w' h') (h.2 i hi))⟩

theorem wpIn_region_round {P : Program} {id n lo : Nat} {C : World → Prop} {Q : Exit → Act → World → Prop} {a : Act} {w : World} {ops : Array Oper} (hm : P.follows .mixedOrders = true) (hB : Region.lexB .any ops = true) (hd : ops.all noDefer = true) (hC : C { w with drawn := w.drawn + 1 })
    (h : wpQuietIn Fence.wide n P ops C (fun a' => ∀ w', C w' → Q .normal a' w') ops.toList a) : (Code.region id ops true).wpIn (Fence.wide.inRound lo) n P Q a w := by
  simp only [Region.lexB, Bool.and_eq_true] at hB
  refine wpIn_region_any hm (any_round hd _ _ _ _ (wpAnyIn_of_quiet (Q := fun a' => ∀ w', C w' → Q .normal a' w') rfl (fun _ w' hw' h => h w' hw') _ _ _ _ hC ?_))
  have := wpAnyQIn_lex (F := Fence.wide) (n := n) (C := C) (md := .any) hB.1 ops.toList 0 (Array.replicate ops.size false) a (by simp) (by simpa using hB.2) h
  simpa using this

/-- A region that draws, in a round, over the worlds From w. -/
theorem region_from_round {P : Program} {id n lo : Nat} {Q : Exit → Act → World → Prop} {a : Act} {w : World} {l : List Oper} (hm : P.follows .mixedOrders = true) (hB : Region.lexB .any l.toArray = true) (hd : l.toArray.all noDefer = true)
    (h : wpQuiet P l.toArray (fun W => ∃ x : From w, W = x.val) (fun a' => ∀ W, Below w.heap.size w W → Q .normal a' W) l a) : (Code.region id l.toArray true).wpIn (Fence.wide.inRound lo) n P Q a w := by
  refine wpIn_region_round (C := fun W => ∃ x : From w, W = x.val) hm hB hd ⟨⟨w.drew, below_drew (Below.refl _ _)⟩, rfl⟩ (quiet_wide _ _ ?_)
  have key : ∀ (m : List Oper) (b : Act), wpQuiet P l.toArray (fun W => ∃ x : From w, W = x.val) (fun a' => ∀ W, Below w.heap.size w W → Q .normal a' W) m b →
      wpQuiet P l.toArray (fun W => ∃ x : From w, W = x.val) (fun a' => ∀ W, (∃ x : From w, W = x.val) → Q .normal a' W) m b := by
    intro m
    induction m with
    | nil => intro b hb W ⟨x, hx⟩; subst hx; exact hb _ x.below
    | cons o r ih =>
      intro b hb
      unfold wpQuiet at hb ⊢
      split
      · rename_i hw
        rw [if_pos hw] at hb
        exact Oper.quiet_mono ih hb
      · rename_i hw
        rw [if_neg hw] at hb
        exact ih _ hb
  simpa using key l a h
end Go.Proofs.Ytcgafnmpfdkfoaa
/- May a snapshot be: snap.Right. -/
namespace Go.Proofs.Ytcgafnmpfdkfoaa
open Go.RowKit Go.Shelf

attribute [local go_sem] Oper.semAt_some

theorem snap_within (n m : Int) (w : World) : Calls Try.prog 82 #[.int .i64 n, .int .i64 m] w fun e w' => e = .returned (.bool (wi n 1 m)) ∧ w = w' := by
  by_cases h1 : 1 ≤ n
  · by_cases h2 : n ≤ m
    · go_enter Try.func82, Try.ntmps82
      go_wp2
      go_ret
      exact ⟨by simp [wi, h1, h2], rfl⟩
    · go_enter Try.func82, Try.ntmps82
      go_wp2
      go_ret
      exact ⟨by simp [wi]; omega, rfl⟩
  · go_enter Try.func82, Try.ntmps82
    go_wp2
    go_ret
    exact ⟨by simp [wi]; omega, rfl⟩
theorem snap_within_b (n m : Int) (w : World) (b : Bool) (h : wi n 1 m = b) : Calls Try.prog 82 #[.int .i64 n, .int .i64 m] w fun e w' => e = .returned (.bool b) ∧ w = w' := h ▸ snap_within n m w

theorem below_putBool {w W : World} {N : Nat} (hb : Below w.heap.size w W) (hN : w.heap.size ≤ N) (v : Value) : Below w.heap.size w (W.setCell ⟨N, 0, none⟩ v) := hb.setCell hN v

set_option maxRecDepth 100000 in
theorem snap_right_a (w : World) (p : Nat) (s : Sn) (h1 : wi s.gen 1 281474976710655 = false) :
    Calls Try.prog 40 #[s.v p] w fun r w' => r = .returned (.bool false) ∧ Below w.heap.size w w' := by
  go_enter Try.func40, Try.ntmps40
  go_wp2_with fail
  refine (snap_within_b _ _ _ _ h1).mono ?_
  rintro r w' ⟨rfl, rfl⟩
  go_wp2
  exact bodyPost_ret (v := .bool false) (by simp [results, Try.results40, go_sem]) rfl ⟨rfl, ((below_box w _).alloc (by simp) _)⟩

set_option maxRecDepth 100000 in
theorem snap_right_b (w : World) (p : Nat) (s : Sn) (h1 : wi s.gen 1 281474976710655 = true) (h2 : wi s.ep 1 4294967295 = false) :
    Calls Try.prog 40 #[s.v p] w fun r w' => r = .returned (.bool false) ∧ Below w.heap.size w w' := by
  go_enter Try.func40, Try.ntmps40
  go_wp2_with fail
  refine (snap_within_b _ _ _ _ h1).mono ?_
  rintro r w' ⟨rfl, rfl⟩
  go_wp2_with fail
  refine (snap_within_b _ _ _ _ h2).mono ?_
  rintro r w' ⟨rfl, rfl⟩
  go_wp2
  exact bodyPost_ret (v := .bool false) (by simp [results, Try.results40, go_sem]) rfl ⟨rfl, ((below_box w _).alloc (by simp) _)⟩
set_option maxRecDepth 100000 in
theorem snap_right_c (w : World) (p : Nat) (s : Sn) (h1 : wi s.gen 1 281474976710655 = true) (h2 : wi s.ep 1 4294967295 = true) (h3 : wi s.nx 1 281474976710655 = false) :
    Calls Try.prog 40 #[s.v p] w fun r w' => r = .returned (.bool false) ∧ Below w.heap.size w w' := by
  go_enter Try.func40, Try.ntmps40
  go_wp2_with fail
  refine (snap_within_b _ _ _ _ h1).mono ?_
  rintro r w' ⟨rfl, rfl⟩
  go_wp2_with fail
  refine (snap_within_b _ _ _ _ h2).mono ?_
  rintro r w' ⟨rfl, rfl⟩
  go_wp2_with fail
  refine (snap_within_b _ _ _ _ h3).mono ?_
  rintro r w' ⟨rfl, rfl⟩
  go_wp2
  exact bodyPost_ret (v := .bool false) (by simp [results, Try.results40, go_sem]) rfl ⟨rfl, ((below_box w _).alloc (by simp) _)⟩

/-- Of how many entries is known that their numbers are less. -/
def Less (nx : Int) (pre : List (Nat × E)) : Prop := ∀ x ∈ pre, x.2.sq < nx
theorem less_enum {l : List E} {nx : Int} : Less nx (enum l) ↔ (l.all fun e => decide (e.sq < nx)) = true := by
  unfold Less enum
  simp only [List.all_eq_true, decide_eq_true_eq, List.mem_map, List.mem_range]
  constructor
  · intro h e he
    obtain ⟨i, hi, rfl⟩ := List.getElem_of_mem he
    have := h (i, l.getD i E0) ⟨i, hi, rfl⟩
    simpa [List.getD_eq_getElem?_getD, hi] using this
  · rintro h x ⟨i, hi, rfl⟩
    have : l.getD i E0 = l[i] := by simp [List.getD_eq_getElem?_getD, hi]
    dsimp only
    rw [this]
    exact h _ (List.getElem_mem hi)
/-- What a round leaves, and what a round that ends the loop. -/
structure RightI (w : World) (p : Nat) (s : Sn) (pre : List (Nat × E)) (W : World) : Prop where
  less : Less s.nx pre
  box : Blk W w.heap.size 53 (s.arr p)
  res : Blk W (w.heap.size + 1) 4 #[.bool false]
  below : Below w.heap.size w W
  size : w.heap.size + 2 < W.heap.size
structure RightX (w : World) (s : Sn) (c : Code) (pre : List (Nat × E)) (W : World) : Prop where
  code : c = .ret
  not : ¬ Less s.nx pre
  res : Blk W (w.heap.size + 1) 4 #[.bool false]
  below : Below w.heap.size w W
  size : w.heap.size + 2 < W.heap.size

set_option maxRecDepth 100000 in
set_option maxHeartbeats 2000000 in
theorem snap_right_d (w : World) (p bl bv : Nat) (g : G) (l : List E) (lv : List Int) (s : Sn) (hM : MapAt w p bl bv g l lv) (hz : l.length ≤ 1000) (h1 : wi s.gen 1 281474976710655 = true) (h2 : wi s.ep 1 4294967295 = true) (h3 : wi s.nx 1 281474976710655 = true) :
    Calls Try.prog 40 #[s.v p] w fun r w' => r = .returned (.bool (l.all fun e => decide (e.sq < s.nx))) ∧ Below w.heap.size w w' := by
  obtain ⟨V0, hV0⟩ : ∃ V0, (w.alloc (s.box p)).alloc (.cells #[.bool false] 4) = V0 := ⟨_, rfl⟩
  have U0 : Below w.heap.size w V0 := by rw [← hV0]; exact (below_box w _).alloc (by simp) _
  have hs0 : V0.heap.size = w.heap.size + 2 := by rw [← hV0]; simp
  have Y0 : Blk V0 w.heap.size 53 (s.arr p) := by rw [← hV0]; exact (Blk.newAt rfl).alloc _
  have R0 : Blk V0 (w.heap.size + 1) 4 #[.bool false] := by rw [← hV0]; exact Blk.newAt (by simp)
  have hM0 := hM.grow U0
  have hcall := Lib.hid (map_all_made V0 p bl bv g l lv hM0)
  have hML := hM.lt
  obtain ⟨⟨y0, y1⟩, y2, y3⟩ := Y0.scells
  have HY := Lib.hid Y0
  have HR := Lib.hid R0
  have HU := Lib.hid U0
  have HM0 := Lib.hid hM0
  have HS0 := Lib.hid hs0
  clear hM0 U0 Y0 R0 hs0
  refine (callsIn_wide (n := 0)).1 ?_
  refine callsIn_of_wp_marks Try.func40 rfl trivial ?_ rfl
  simp only [Try.ntmps40, List.size_toArray, List.length_cons, List.length_nil, Nat.reduceAdd, Nat.reduceSub, Array.replicate_succ, Array.replicate_zero, List.push_toArray, List.append_toArray, List.nil_append, List.cons_append]
  gi_wp2
  refine ⟨trivial, rfl, ?_⟩
  refine CallsIn.mono (callsIn_wide.2 (snap_within_b _ _ _ _ h1)) ?_
  rintro r w' ⟨rfl, rfl⟩
  gi_wp2
  refine ⟨trivial, rfl, ?_⟩
  refine CallsIn.mono (callsIn_wide.2 (snap_within_b _ _ _ _ h2)) ?_
  rintro r w' ⟨rfl, rfl⟩
  gi_wp2
  refine ⟨trivial, rfl, ?_⟩
  refine CallsIn.mono (callsIn_wide.2 (snap_within_b _ _ _ _ h3)) ?_
  rintro r w' ⟨rfl, rfl⟩
  gi_wp2
  refine ⟨trivial, rfl, ?_⟩
  refine CallsIn.mono (callsIn_wide.2 hcall.out) ?_
  rintro r w2 ⟨rfl, hb2, hs2, hc2⟩
  have hit := MapAt.iterW HM0.out hz hb2 hs2 hc2 [w.heap.size + 1] (by simp; omega)
  have HIT := Lib.hid hit
  have HB2 := Lib.hid hb2
  have hsz : w.heap.size + 2 < w2.heap.size := by have := HS0.out; omega
  have hrd : V0.heap.size = w.heap.size + 2 := HS0.out
  clear hit hb2 hs2 hc2 hcall hV0 y0 y1 y2 y3
  gi_wp2
  rw [HS0.out] at HIT
  refine range_go (gf := 139) (lb := #[.pointer (some ⟨w.heap.size + 2, 0, none⟩)]) (encs := fun x : Nat × E => #[.int .i64 x.1, x.2.v]) (xs := enum l) (S := [w.heap.size + 1]) rfl (enters_of Try.func139 (by kernel_rfl) rfl) HIT.out ?hS (fun _ => rfl)
    (RightI w p s) (RightX w s) ?hI ?hIx ?h0 ?hround ?hdone ?hstop
  case hS => simp; omega
  case hI =>
    rintro q X Y ⟨a, b, c, d, e⟩ hx k
    have n1 : ∀ i ∈ [w2.heap.size, w2.heap.size + 1], w.heap.size + 2 < i := by simp; omega
    exact ⟨a, k.blk b.lt (fun h => by have := n1 _ h; omega) b, k.blk c.lt (fun h => by have := n1 _ h; omega) c, d.trans (Keeps.below (k.mono (by omega) (fun i hi => hi)) (fun i hi => by have := n1 i hi; omega)), by have := k.size; omega⟩
  case hIx =>
    rintro c q X Y ⟨a, b, cc, d, e⟩ hx k
    have n1 : ∀ i ∈ [w2.heap.size, w2.heap.size + 1], w.heap.size + 2 < i := by simp; omega
    exact ⟨a, b, k.blk cc.lt (fun h => by have := n1 _ h; omega) cc, d.trans (Keeps.below (k.mono (by omega) (fun i hi => hi)) (fun i hi => by have := n1 i hi; omega)), by have := k.size; omega⟩
  case h0 => 
    have hb := HB2.out
    exact ⟨fun x hx => by simp at hx, (Keeps.of_below (S := []) hb).blk HY.out.lt (by simp) HY.out, (Keeps.of_below (S := []) hb).blk HR.out.lt (by simp) HR.out, HU.out.trans (hb.mono (by omega)), hsz⟩
  case hround =>
    rintro m l' pre ⟨k, e⟩ rest V rfl hx ⟨a, b, c, d, hv⟩ hlt1
    gi_wp2
    refine ⟨below_box _ _, fun V2 kv hsv => ?_⟩
    rw [World.size_alloc] at kv hsv
    have n1 : w.heap.size + 2 < w2.heap.size + 1 := by omega
    have b2 : Blk V2 w.heap.size 53 (s.arr p) := kv.blk (by omega) (by simp; omega) (b.alloc _)
    have c2 : Blk V2 (w.heap.size + 1) 4 #[.bool false] := kv.blk (by omega) (by simp; omega) (c.alloc _)
    have e2 : Blk V2 V.heap.size 31 e.arr := kv.blk (by omega) (by simp; omega) (Blk.newAt rfl)
    have d2 : Below w.heap.size w V2 := (d.alloc (by omega) e.box).trans (Keeps.below (kv.mono (by omega) (fun i hi => hi)) (by simp; omega))
    obtain ⟨⟨y0, y1⟩, y2, y3⟩ := b2.scells
    obtain ⟨⟨a0, a1⟩, ⟨a2, a3⟩, a4, a5⟩ := EntBlk.cells e2
    have f2 : V2.frozen? ⟨w.heap.size + 1, 0, none⟩ = false := c2.frozen 0
    have r2 : V2.cell? ⟨w.heap.size + 1, 0, none⟩ = some (.bool false) := by rw [c2.cell]; rfl
    have g2 : w.heap.size + 1 < V2.heap.size := by omega
    have HA := Lib.hid a
    have HB := Lib.hid b2
    have HC := Lib.hid c2
    have HD := Lib.hid d2
    have HZ := Lib.hid (And.intro hv (And.intro hsv (And.intro n1 hlt1)))
    clear a b c d b2 c2 e2 d2 hx kv hsv hv hlt1 n1
    by_cases hlt : e.sq < s.nx
    · gi_wp2
      refine ⟨⟨?_, HB.out, HC.out, HD.out, by have := HZ.out; omega⟩, Keeps.refl _ _ _⟩
      intro x hx
      rcases List.mem_append.1 hx with hx | hx
      · exact HA.out x hx
      · rw [List.mem_singleton] at hx; subst hx; exact hlt
    · have hge : s.nx ≤ e.sq := by omega
      gi_wp2
      have kk : Keeps V2.heap.size [w.heap.size + 1] V2 (V2.setCell ⟨w.heap.size + 1, 0, none⟩ (.bool false)) := (Keeps.refl _ _ _).setCell _ _ (.inl (by simp))
      refine ⟨⟨rfl, fun h => ?_, by simpa using HC.out.set_ 0 (.bool false), HD.out.setCell (by simp) _, by have := HZ.out; have := kk.size; omega⟩, kk.mono (by have := HZ.out; omega) (fun i hi => hi)⟩
      have := h (k, e) (by simp)
      dsimp only at this
      omega
  case hdone =>
    rintro D V hD ⟨a, b, c, d, hv⟩ hK
    have f2 : V.frozen? ⟨w.heap.size + 1, 0, none⟩ = false := c.frozen 0
    have r2 : V.cell? ⟨w.heap.size + 1, 0, none⟩ = some (.bool false) := by rw [c.cell]; rfl
    have g2 : w.heap.size + 1 < V.heap.size := by omega
    have hal : (l.all fun e => decide (e.sq < s.nx)) = true := less_enum.1 a
    have HAL := Lib.hid hal
    have HD := Lib.hid d
    have HK := Lib.hid hK
    have HC := Lib.hid c
    clear a b c d hK hal
    gi_wp2
    obtain ⟨W9, hW9⟩ : ∃ W9, V.setCell ⟨w.heap.size + 1, 0, none⟩ (.bool true) = W9 := ⟨_, rfl⟩
    have k9 : Keeps V.heap.size [w.heap.size + 1] V W9 := by rw [← hW9]; exact (Keeps.refl _ _ _).setCell _ _ (.inl (by simp))
    have c9 : Blk W9 (w.heap.size + 1) 4 #[.bool true] := by rw [← hW9]; simpa using HC.out.set_ 0 (.bool true)
    have d9 : W9.heap[D]? = some (.deferred (some [])) := (k9.block D (Array.getElem?_eq_some_iff.1 HK.out).1 (by simp; omega)).trans HK.out
    have b9 : Below w.heap.size w W9 := HD.out.trans (Keeps.below (k9.mono (by omega) (fun i hi => hi)) (by simp))
    rw [hW9]
    clear hW9
    have kF : Keeps (w.heap.size + 2) [D] W9 (W9.putObj D (.deferred none)) := (Keeps.refl _ _ W9).putObj D _ (.inl (by simp))
    have kB : Below w.heap.size W9 (W9.putObj D (.deferred none)) := Keeps.below (kF.mono (by omega) (fun i hi => hi)) (by simp; omega)
    have cF : (W9.putObj D (.deferred none)).cell? ⟨w.heap.size + 1, 0, none⟩ = some (.bool true) := by rw [(kF.blk (by omega) (by simp; omega) c9).cell]; rfl
    refine ⟨by simp, .inl ⟨_, _, rfl, run_takeDeferred d9, ?_⟩⟩
    refine ⟨.bool true, ?_, by rw [HAL.out], b9.trans kB⟩
    simp [results, Try.results40, go_sem, cF]
  case hstop =>
    rintro D c pre x rest V hD hx ⟨a, b, cc, d, hv⟩ hK
    subst a
    have hal : (l.all fun e => decide (e.sq < s.nx)) = false := by
      rw [← Bool.not_eq_true]
      intro h
      refine b fun y hy => less_enum.2 h y ?_
      rw [hx]
      rcases List.mem_append.1 hy with hy | hy
      · exact List.mem_append_left _ hy
      · rw [List.mem_singleton] at hy; subst hy; simp
    have HAL := Lib.hid hal
    have HD := Lib.hid d
    have HK := Lib.hid hK
    have HC := Lib.hid cc
    clear b cc d hK hal
    gi_wp2
    have kF : Keeps (w.heap.size + 2) [D] V (V.putObj D (.deferred none)) := (Keeps.refl _ _ V).putObj D _ (.inl (by simp))
    have kB : Below w.heap.size V (V.putObj D (.deferred none)) := Keeps.below (kF.mono (by omega) (fun i hi => hi)) (by simp; omega)
    have cF : (V.putObj D (.deferred none)).cell? ⟨w.heap.size + 1, 0, none⟩ = some (.bool false) := by rw [(kF.blk (by omega) (by simp; omega) HC.out).cell]; rfl
    refine ⟨by simp, .inl ⟨_, _, rfl, run_takeDeferred HK.out, ?_⟩⟩
    refine ⟨.bool false, ?_, by rw [HAL.out], HD.out.trans kB⟩
    simp [results, Try.results40, go_sem, cF]
theorem snap_right (w : World) (p bl bv : Nat) (g : G) (l : List E) (lv : List Int) (s : Sn) (hM : MapAt w p bl bv g l lv) (hz : l.length ≤ 1000) :
    Calls Try.prog 40 #[s.v p] w fun r w' => r = .returned (.bool (s.right l)) ∧ Below w.heap.size w w' := by
  unfold Sn.right
  cases h1 : wi s.gen 1 281474976710655 with
  | false => simpa using snap_right_a w p s h1
  | true =>
    cases h2 : wi s.ep 1 4294967295 with
    | false => simpa using snap_right_b w p s h1 h2
    | true =>
      cases h3 : wi s.nx 1 281474976710655 with
      | false => simpa using snap_right_c w p s h1 h2 h3
      | true => simpa using snap_right_d w p bl bv g l lv s hM hz h1 h2 h3
theorem snap_right_v (w : World) (p bl bv : Nat) (g : G) (l : List E) (lv : List Int) (s : Sn) (hM : MapAt w p bl bv g l lv) (hz : l.length ≤ 1000) (b : Bool) (hb : s.right l = b) :
    Calls Try.prog 40 #[s.v p] w fun r w' => r = .returned (.bool b) ∧ Below w.heap.size w w' := hb ▸ snap_right w p bl bv g l lv s hM hz
end Go.Proofs.Ytcgafnmpfdkfoaa
/- A snapshot's frames: snap.Frames. -/
namespace Go.Proofs.Ytcgafnmpfdkfoaa
open Go.RowKit

theorem frames_no (w : World) (p bl bv : Nat) (g : G) (l : List E) (lv : List Int) (s : Sn) (hM : MapAt w p bl bv g l lv) (hz : l.length ≤ 1000) (z : Int) (h : s.right l = false) :
    Calls Try.prog 39 #[s.v p, .int .i64 z] w fun r w' => r = .returned (.tuple #[.slice none 0 0, .int .i64 10]) ∧ Below w.heap.size w w' := by
  have HM := Lib.hid (hM.grow (below_box w (s.box p)))
  clear hM
  go_enter Try.func39, Try.ntmps39
  go_wp2_with fail
  refine (snap_right_v _ p bl bv g l lv s HM.out hz _ h).mono ?_
  rintro r w1 ⟨rfl, hb⟩
  go_wp2
  go_ret2
  exact ⟨rfl, below_then (below_box w _) (by simp) hb⟩
theorem frames_out (w : World) (p bl bv : Nat) (g : G) (l : List E) (lv : List Int) (s : Sn) (hM : MapAt w p bl bv g l lv) (hz : l.length ≤ 1000) (z : Int) (h : s.right l = true) (hh : g.holds z 0 = false) :
    Calls Try.prog 39 #[s.v p, .int .i64 z] w fun r w' => r = .returned (.tuple #[.slice none 0 0, .int .i64 10]) ∧ Below w.heap.size w w' := by
  have HM := Lib.hid (hM.grow (below_box w (s.box p)))
  obtain ⟨W0, hW0⟩ : ∃ W0, w.alloc (s.box p) = W0 := ⟨_, rfl⟩
  have Y0 : Blk W0 w.heap.size 53 (s.arr p) := by rw [← hW0]; exact Blk.newAt rfl
  have U0 : Below w.heap.size w W0 := by rw [← hW0]; exact below_box w _
  rw [hW0] at HM
  have HY := Lib.hid Y0
  have HU := Lib.hid U0
  obtain ⟨⟨y0, y1⟩, y2, y3⟩ := Y0.scells
  clear hM Y0 U0
  go_enter Try.func39, Try.ntmps39
  go_wp2_with fail
  clear hW0
  refine (snap_right_v _ p bl bv g l lv s HM.out hz _ h).mono ?_
  rintro r w1 ⟨rfl, hb⟩
  have HB := Lib.hid hb
  have Y1 := (Keeps.of_below (S := []) hb).blk HY.out.lt (by simp) HY.out
  clear y0 y1 y2 y3 hb
  obtain ⟨⟨y0, y1⟩, y2, y3⟩ := Y1.scells
  clear Y1
  go_wp2_with fail
  refine (map_geom w1 p bl bv g l lv (HM.out.grow HB.out)).mono ?_
  rintro r w2 ⟨rfl, hb2⟩
  have HB2 := Lib.hid hb2
  clear hb2 y0 y1 y2 y3
  go_wp2_with fail
  refine (geom_holds_b g z 0 w2 _ hh).mono ?_
  rintro r w3 ⟨rfl, hb3⟩
  have HB3 := Lib.hid hb3
  clear hb3
  go_wp2
  go_ret2
  exact ⟨rfl, HU.out.trans ((HB.out.trans ((HB2.out.trans (HB3.out.mono HB2.out.size)).mono HB.out.size)).mono HU.out.size)⟩

/-- What the first frame's making leaves. -/
def CutF (w3 : World) (F : Array Value) (f : Value) (wx : World) : Prop := ∃ bf, f = .pointer (some ⟨bf, 0, none⟩) ∧ w3.heap.size ≤ bf ∧ Below w3.heap.size w3 wx ∧ Blk wx bf 64 F
/-- What Frames hands back: a list of its own. -/
def FramesPost (w : World) (fs : List Fr) (r : Ending) (w' : World) : Prop :=
  ∃ b c, r = .returned (.tuple #[.slice (some ⟨b, 0, none⟩) fs.length c, .int .i64 0]) ∧ w.heap.size ≤ b ∧ FrL 0 w' (.slice (some ⟨b, 0, none⟩) fs.length c) fs ∧ Below w.heap.size w w'
theorem framesPost_fin {w W W' : World} {base : Nat} {fs : List Fr} {v : Value} {r : Ending} (h1 : 1 ≤ fs.length) (hr : r = .returned (.tuple #[v, .int .i64 0])) (hb : w.heap.size ≤ base) (h : FrL base W v fs) (hB : Below w.heap.size w W) (k : Below W.heap.size W W') : FramesPost w fs r W' := by
  obtain ⟨m, hm⟩ : ∃ m, fs.length = m + 1 := ⟨fs.length - 1, by omega⟩
  have h0 := h
  unfold FrL at h0
  rw [hm] at h0
  obtain ⟨g, c, rfl⟩ := own_succ h0
  rw [← hm] at hr
  have hg := (World.ownsRow.lt h g rfl).1
  refine ⟨g, c, hr, by omega, ?_, hB.trans (k.mono hB.size)⟩
  rw [← hm] at h
  exact (own_grow h k).1
set_option maxRecDepth 100000 in
set_option maxHeartbeats 1000000 in
theorem frames_yes (w : World) (p bl bv : Nat) (g : G) (l : List E) (lv : List Int) (s : Sn) (hM : MapAt w p bl bv g l lv) (hO : SnOk s g l) (z : Int) (hh : g.holds z 0 = true) :
    Calls Try.prog 39 #[s.v p, .int .i64 z] w (FramesPost w (frames s g l z)) := by
  have hS := G.small_of_right hO.right
  have hz : l.length ≤ 1000 := by have := hO.len; have := hS.B1; omega
  have hsr := hO.sn
  have HM := Lib.hid (hM.grow (below_box w (s.box p)))
  obtain ⟨W0, hW0⟩ : ∃ W0, w.alloc (s.box p) = W0 := ⟨_, rfl⟩
  have Y0 : Blk W0 w.heap.size 53 (s.arr p) := by rw [← hW0]; exact Blk.newAt rfl
  have U0 : Below w.heap.size w W0 := by rw [← hW0]; exact below_box w _
  rw [hW0] at HM
  have HY := Lib.hid Y0
  have HU := Lib.hid U0
  have HO := Lib.hid hO
  have HS := Lib.hid hS
  obtain ⟨⟨y0, y1⟩, y2, y3⟩ := Y0.scells
  clear hM Y0 U0 hO hS
  go_enter Try.func39, Try.ntmps39
  go_wp2_with fail
  clear hW0
  refine (snap_right_v _ p bl bv g l lv s HM.out hz _ hsr).mono ?_
  rintro r w1 ⟨rfl, hb⟩
  have HB := Lib.hid hb
  have Y1 := (Keeps.of_below (S := []) hb).blk HY.out.lt (by simp) HY.out
  clear y0 y1 y2 y3 hb
  obtain ⟨⟨y0, y1⟩, y2, y3⟩ := Y1.scells
  clear Y1
  go_wp2_with fail
  refine (map_geom w1 p bl bv g l lv (HM.out.grow HB.out)).mono ?_
  rintro r w2 ⟨rfl, hb2⟩
  have HB2 := Lib.hid hb2
  clear hb2 y0 y1 y2 y3
  go_wp2_with fail
  refine (geom_holds_b g z 0 w2 _ hh).mono ?_
  rintro r w3 ⟨rfl, hb3⟩
  have U3 : Below W0.heap.size W0 w3 := HB.out.trans ((HB2.out.trans (hb3.mono HB2.out.size)).mono HB.out.size)
  have Y3 := (Keeps.of_below (S := []) U3).blk HY.out.lt (by simp) HY.out
  have M3 := HM.out.grow U3
  obtain ⟨⟨y0, y1⟩, y2, y3⟩ := Y3.scells
  have HU3 := Lib.hid U3
  have HY3 := Lib.hid Y3
  have HM3 := Lib.hid M3
  have hlt := Y3.lt
  have hfrom := @From.cell w3
  obtain ⟨D, hD⟩ : ∃ D : Array Value, (bys (headB g s.nx)).toArray = D := ⟨_, rfl⟩
  have hhead := Lib.hid (fun W (x : Below w3.heap.size w3 W) => snap_head W p bl bv g l lv s (HM3.out.grow x) HO.out.right (by have := HO.out.nums; omega) (by have := HO.out.nums; omega))
  rw [hD] at hhead
  have HD := Lib.hid hD
  have HT : Hid (∀ w', Below w3.heap.size w3 w' → w'.cell? ⟨w.heap.size, 0, none⟩ = some (.int .i64 s.gen) ∧ w'.cell? ⟨w.heap.size, 1, none⟩ = some (.int .i64 s.ep) ∧ w'.cell? ⟨w.heap.size, 2, none⟩ = some (.int .i64 s.nx) ∧ w'.cell? ⟨w.heap.size, 3, none⟩ = some (.pointer (some ⟨p, 0, none⟩))) :=
    Lib.hid fun w' hb => by
      have := ((Keeps.of_below (S := []) hb).blk HY3.out.lt (by simp) HY3.out).scells
      exact ⟨this.1.1, this.1.2, this.2.1, this.2.2⟩
  clear hb3 U3 Y3 M3 HB HB2 hD
  go_wp2_with fail
  have hDs : D.size = 44 := by rw [← HD.out, List.size_toArray, bys_length, headB_length]
  obtain ⟨F, hF⟩ : ∃ F : Array Value, Fr5 4 z 0 s.ep s.gen ++ D = F := ⟨_, rfl⟩
  have hbuild := build_fold 4 z s.ep s.gen D F hDs hF
  have hFs : F.size = 49 := by rw [← hF, Array.size_append, hDs]; rfl
  have hF1 : F.all (·.oneCell') = true := by
    have := Fr.one (frameAt s g l z 0)
    rw [← hF, ← HD.out]
    exact this
  have hst : ∀ (W : World) (b : Nat), W.heap[b]? = some (.cells Z49 64 (0, 0)) → (storeCells ⟨b, 0, none⟩ F.toList 0).run Try.prog W = .ok () (W.setRow b F) := fun W b h => store_row W b _ Z49 F h (by rw [hFs]; rfl) hF1
  have hst1 : ∀ W : World, (storeCells ⟨W.heap.size, 0, none⟩ F.toList 0).run Try.prog (W.alloc (.cells Z49 64)) = .ok () (W.alloc (.cells F 64)) := fun W => run_storeCells_new W 64 Z49 F (by rw [hFs]; exact size_frame) (by rw [hFs]; rfl) hF1
  have HF := Lib.hid hF
  have HFS := Lib.hid hFs
  have HF1 := Lib.hid hF1
  clear hF hFs hF1
  go_cut [6] (fun f wx => CutF w3 F f wx)
  case first =>
    go_region_held3 (fun w' => w'.cell? ⟨w.heap.size, 0, none⟩ = some (.int .i64 s.gen) ∧ w'.cell? ⟨w.heap.size, 1, none⟩ = some (.int .i64 s.ep) ∧ w'.cell? ⟨w.heap.size, 2, none⟩ = some (.int .i64 s.nx) ∧ w'.cell? ⟨w.heap.size, 3, none⟩ = some (.pointer (some ⟨p, 0, none⟩))) (first | (go_keep; done) | exact HT.out _ ((below_drew (Below.refl _ _)).trans hb4) | exact HT.out _ ((below_drew (below_box w3 _)).trans (hb4.mono (by simp))) | exact HT.out _ (((below_drew (Below.refl _ _)).trans hb4).alloc hb4.size _) | exact HT.out _ (below_setRow ((below_drew (below_box w3 _)).trans (hb4.mono (by simp))) (Nat.le_refl _) _))
      (first | (go_at_call 80; refine (hhead.out _ (below_drew (Below.refl _ _))).mono ?_; rintro e w' ⟨rfl, hb4⟩; have tok := hb4) | (go_at_call 80; refine (hhead.out _ (below_drew ((Below.refl _ _).alloc (Nat.le_refl _) _))).mono ?_; rintro e w' ⟨rfl, hb4⟩; have hk : w'.heap[w3.heap.size]? = some (.cells Z49 64 (0, 0)) := (hb4.block _ (by simp)).trans (World.alloc_heap_new w3 _)))
    · go_wp2_with fail
      go_meet
      case rel => exact ⟨_, rfl, hb4.size, ((below_drew (Below.refl _ _)).trans hb4).alloc hb4.size _, Blk.newAt rfl⟩
    · go_wp2_with fail
      go_meet
      case rel => exact ⟨_, rfl, Nat.le_refl _, below_setRow ((below_drew (below_box w3 _)).trans (hb4.mono (by simp))) (Nat.le_refl _) _, setRow_heap w' w3.heap.size _ F _ (0, 0) hk⟩
  case rest =>
    obtain ⟨bf, rfl, n4, U4, F4⟩ := hcut
    obtain ⟨W4, rfl⟩ : ∃ W4 : World, W4 = wc := ⟨_, rfl⟩
    have zF4 := F4.lt
    have HF4 := Lib.hid F4
    have HU4 : Hid (Below w.heap.size w W4) := Lib.hid ((HU.out.trans ((HU3.out.trans (U4.mono HU3.out.size)).mono HU.out.size)))
    have HY4 := Lib.hid ((Keeps.of_below (S := []) U4).blk HY3.out.lt (by simp) HY3.out)
    have HM4 := Lib.hid (HM3.out.grow U4)
    have HN : Hid (w.heap.size < bf ∧ p < bf ∧ bl < bf ∧ bv < bf) := by
      have := HM3.out.lt
      exact Lib.hid ⟨by omega, by omega, by omega, by omega⟩
    clear U4 F4 HT hhead hfrom y0 y1 y2 y3 hst hst1 hbuild HU3 HY3 HM3 HY HU HM
    have hFi : (Try.prog.info? 64).map (·.size) = some F.size := by rw [HFS.out]; exact size_frame
    have HFI := Lib.hid hFi
    have hsf := slice_fold F HFS.out
    have hfs49 := HFS.out
    clear hFi
    obtain ⟨W5, hW5⟩ : ∃ W5, W4.alloc (.cells F 64) = W5 := ⟨_, rfl⟩
    have k5 : Keeps W4.heap.size [bf] W4 W5 := by rw [← hW5]; exact Keeps.of_below (below_box _ _)
    have h5 : W5.heap.size = W4.heap.size + 1 := by rw [← hW5]; simp
    have q5 : Blk W5 W4.heap.size 64 F := by rw [← hW5]; exact Blk.newAt rfl
    have hFa : F = (frameAt s g l z 0).arr := by rw [← HF.out, ← HD.out]; rfl
    have np : 1 ≤ nparts l := by unfold nparts; omega
    have L5 : FrL W4.heap.size W5 (.slice (some ⟨W4.heap.size, 0, none⟩) 1 1) ((frames s g l z).take 1) := by
      have e1 : (frames s g l z).take 1 = [frameAt s g l z 0] := by rw [frames_snoc _ _ _ _ _ np]; rfl
      have e2 : flatF [frameAt s g l z 0] = F.toList := by rw [hFa]; simp [flatF]
      unfold FrL
      rw [e1, e2]
      exact own_blk q5 (Nat.le_refl _) (Nat.le_refl _) (by unfold maxLen; omega) (by rw [HFS.out]) (by simpa using HFS.out) (by rw [List.take_of_length_le (by rw [Array.length_toList, HFS.out]; simp)])
    have F5 : Blk W5 bf 64 (frameAt s g l z 0).arr := by rw [← hFa, ← hW5]; exact HF4.out.alloc _
    have HL5 := Lib.hid L5
    have HF5 := Lib.hid F5
    have HK5 := Lib.hid k5
    have HNP := Lib.hid np
    clear hFa L5 F5 k5 q5 h5 np
    go_wp2_with (refine wpList_load_blk rfl 64 (.tmp 6) rfl bf 0 rfl HF4.out F (row_whole F) _ Try.underlying64 rfl HFI.out ?_)
    clear hW5 hsf hfs49
    go_loopw [7, 8] (fun v i wr => ∃ (k : Nat) (u : Value), 1 ≤ k ∧ k ≤ nparts l ∧ u = v ∧ i = .int .i64 k ∧ FrL W4.heap.size wr u ((frames s g l z).take k) ∧ Blk wr bf 64 (frameAt s g l z (k - 1)).arr ∧ Keeps W4.heap.size [bf] W4 wr) (fun _ i _ => nparts l - (intOf i).toNat)
    case atStart => exact ⟨1, _, Nat.le_refl _, HNP.out, rfl, rfl, HL5.out, HF5.out, HK5.out⟩
    case round =>
      obtain ⟨k, u, hk1, hkn, rfl, rfl, hL, hF', hK⟩ := hrel
      have hY := hK.blk (by have := HN.out; omega) (by have := HN.out; simp; omega) HY4.out
      have hM := HM4.out.keeps hK (by have := HN.out; simp; omega) (by have := HN.out; simp; omega) (by have := HN.out; simp; omega)
      have hB0 : 0 ≤ g.B := by have := HS.out.B0; omega
      have hB1 : g.B ≤ 1000000 := by have := HS.out.B1; omega
      obtain ⟨⟨y0, y1⟩, y2, y3⟩ := hY.scells
      have HLr := Lib.hid hL
      have HFr := Lib.hid hF'
      have HKr := Lib.hid hK
      have HYr := Lib.hid hY
      have HMr := Lib.hid hM
      have hpe : g.parts = (nparts l : Int) := by have := HO.out.len; unfold G.parts nparts; omega
      have hn1000 : nparts l ≤ 1000 := by have := HO.out.len; have := HS.out.B1; unfold nparts; omega
      have HPE := Lib.hid hpe
      clear hL hF' hK hY hM
      by_cases hlt : k < nparts l
      · have hpl : (k : Int) < g.parts := by omega
        clear hpe
        go_wp2_with fail
        refine (map_geom wr p bl bv g l lv HMr.out).mono ?_
        rintro r w5 ⟨rfl, hb5⟩
        obtain ⟨V5, hV5⟩ : ∃ V5, w5.alloc g.box = V5 := ⟨_, rfl⟩
        have b5 : Below wr.heap.size wr V5 := by rw [← hV5]; exact hb5.alloc hb5.size _
        have Y5 := (Keeps.of_below (S := []) b5).blk HYr.out.lt (by simp) HYr.out
        have HB5 := Lib.hid b5
        have HY5 := Lib.hid Y5
        clear y0 y1 y2 y3 b5 hb5
        obtain ⟨⟨y0, y1⟩, y2, y3⟩ := Y5.scells
        clear Y5
        go_wp2_with fail
        refine (geom_parts g w5 hB0 hB1).mono ?_
        rintro r w' ⟨rfl, rfl⟩
        rw [hV5]
        clear hV5
        go_wp2_with fail
        refine (snap_part V5 p bl bv g l lv s (HMr.out.grow HB5.out) HO.out.fits k hk1 (by have := HO.out.len; have := HS.out.B1; unfold nparts at hlt; omega)).mono ?_
        rintro r w6 ⟨rfl, hb6⟩
        obtain ⟨D2, hD2⟩ : ∃ D2 : Array Value, (bys (partB l k)).toArray = D2 := ⟨_, rfl⟩
        rw [hD2]
        have b6 : Below wr.heap.size wr w6 := HB5.out.trans (hb6.mono HB5.out.size)
        have F6 := (Keeps.of_below (S := []) b6).blk HFr.out.lt (by simp) HFr.out
        have hs6 := F6.lt
        have hsz6 := Fr.size (frameAt_ok s g l z (k - 1))
        obtain ⟨kd, hkd⟩ : ∃ kd, w6.cell? ⟨bf, 0, none⟩ = some (.int .i64 kd) := ⟨(frameAt s g l z (k - 1)).kd, by rw [F6.cell]; unfold Fr.arr; simp⟩
        obtain ⟨ko, hko⟩ : ∃ ko, w6.cell? ⟨bf, 2, none⟩ = some (.int .i64 ko) := ⟨(frameAt s g l z (k - 1)).off, by rw [F6.cell]; unfold Fr.arr; simp⟩
        have f0 := F6.frozen 0
        have f2 := F6.frozen 2
        obtain ⟨w7, hw7⟩ : ∃ w7, (w6.setCell ⟨bf, 0, none⟩ (.int .i64 5)).setCell ⟨bf, 2, none⟩ (.int .i64 k) = w7 := ⟨_, rfl⟩
        have F7 : Blk w7 bf 64 (((frameAt s g l z (k - 1)).arr.setIfInBounds 0 (.int .i64 5)).setIfInBounds 2 (.int .i64 k)) := by rw [← hw7]; exact (F6.set_ 0 _).set_ 2 _
        have K7 : Keeps wr.heap.size [bf] wr w7 := by rw [← hw7]; exact ((Keeps.of_below b6).setCell _ _ (.inl (by simp))).setCell _ _ (.inl (by simp))
        have hnx := frame_next s g l z k hk1
        rw [hD2] at hnx
        have hDs2 : D2.size = 44 := by rw [← hD2, List.size_toArray, bys_length, partB_length]
        have hDi2 : (Try.prog.info? 62).map (·.size) = some D2.size := by rw [hDs2]; exact size_body
        have hD12 : D2.all (·.oneCell') = true := by rw [← hD2]; exact all_oneCell_toArray (bys_one _)
        obtain ⟨F8, hF8⟩ : ∃ F8 : Array Value, (frameAt s g l z k).arr = F8 := ⟨_, rfl⟩
        rw [hF8] at hnx
        have hFs8 : F8.size = 49 := by rw [← hF8]; exact Fr.size (frameAt_ok s g l z k)
        have hFi8 : (Try.prog.info? 64).map (·.size) = some F8.size := by rw [hFs8]; exact size_frame
        have hsf8 := slice_fold F8 hFs8
        have hds2 := hDs2
        have hfs8 := hFs8
        have HF7 := Lib.hid F7
        have HK7 := Lib.hid K7
        have HNX := Lib.hid hnx
        have HDI2 := Lib.hid hDi2
        have HD12 := Lib.hid hD12
        have HDS2 := Lib.hid hDs2
        have HF8 := Lib.hid hF8
        have HFI8 := Lib.hid hFi8
        have HFS8 := Lib.hid hFs8
        have hfit : 5 + D2.size ≤ (((frameAt s g l z (k - 1)).arr.setIfInBounds 0 (.int .i64 5)).setIfInBounds 2 (.int .i64 k)).size := by rw [Array.size_setIfInBounds, Array.size_setIfInBounds, hsz6, hDs2]; exact Nat.le_refl _
        have HFIT := Lib.hid hfit
        clear hb6 b6 F6 F7 K7 hnx hD2 hDs2 hDi2 hD12 hF8 hFi8 hsz6 hfit y0 y1 y2 y3
        obtain ⟨i0, hi, hz0, hz1, hz2⟩ := info_parts info_frame
        have hrow0 : ∀ w8, Keeps w7.heap.size [bf] w7 w8 → w8.ownsRow W4.heap.size 64 49 u ((frames s g l z).take k).length (flatF ((frames s g l z).take k)) := fun w8 K8 =>
          own_keeps_v (HK7.out.trans (K8.mono HK7.out.size (fun i hi => hi))) (fun g' hg' => by have := World.ownsRow.lt HLr.out g' hg'; refine ⟨this.2, ?_⟩; simp; omega) HLr.out
        have HROW := Lib.hid hrow0
        have hlt8 : ((frames s g l z).take k).length = k := by rw [List.length_take, frames_length]; omega
        have HLT8 := Lib.hid hlt8
        clear hrow0 hlt8
        go_wp2_with (first
          | (refine wpList_store_blk rfl 62 (.tmp 44) (.tmp 41) rfl bf 5 D2 rfl rfl HF7.out HFIT.out HDI2.out HD12.out ?_
             intro w8 hG8 hK8 hs8
             have G8 : Hid (Blk w8 bf 64 F8) := by rw [← HNX.out]; exact hG8
             obtain ⟨w9, hw9⟩ : ∃ w9, w8.alloc (.cells F8 64) = w9 := ⟨_, rfl⟩
             have R9 : Hid (w9.ownsRow W4.heap.size 64 49 u ((frames s g l z).take k).length (flatF ((frames s g l z).take k))) := by rw [← hw9]; exact Lib.hid (World.ownsRow.alloc (HROW.out w8 hK8.out) _)
             have X9 : Hid (∀ j v, F8.toList[j]? = some v → w9.cell? ((⟨w8.heap.size, 0, none⟩ : Addr).add j) = some v) := by
               rw [← hw9]
               exact Lib.hid fun j v hv => by rw [Addr.add_nat_zero, cell_of_row _ _ j F8 _ (0, 0) (World.alloc_heap_new w8 _)]; simpa using hv
             have S9 : Hid (w9.heap.size = w8.heap.size + 1) := by rw [← hw9]; exact Lib.hid (by simp)
             have B9 : Hid (Below w8.heap.size w8 w9) := by rw [← hw9]; exact Lib.hid (below_box _ _)
             have Z8 : W4.heap.size ≤ w8.heap.size := by have := HKr.out.size; have := HK7.out.size; have := hK8.out.size; omega
             have G9 : Hid (Blk w9 bf 64 F8) := Lib.hid ((Keeps.of_below (S := []) B9.out).blk G8.out.lt (by simp) G8.out))
          | (refine wpList_load_blk rfl 64 (.tmp 6) rfl bf 0 rfl G8.out F8 (row_whole F8) _ Try.underlying64 rfl HFI8.out ?_)
          | (at_builtin; refine Hid.out ?_))
        refine Lib.hid ?_
        refine wpList_append_own _ rfl _ _ 58 rfl W4.heap.size 64 i0 (.agg Z49) 49 88 Try.underlying58 hi hz0 hz1 hz2 rfl (by omega) _ ((frames s g l z).take k).length (flatF ((frames s g l z).take k)) rfl R9.out ⟨w8.heap.size, 0, none⟩ 1 1 F8.toList rfl (by rw [Array.length_toList, HFS8.out]) X9.out ?c1 (by rw [HLT8.out]; unfold maxLen; omega) (by rw [HLT8.out]; omega) (by rw [S9.out]; omega) ?_
        rotate_left
        intro v' w10 hown' hgrow hnil
        case c1 => exact fun v hv => (Array.all_eq_true_iff_forall_mem.1 (HF8.out ▸ Fr.one (frameAt s g l z k))) v (by simpa using hv)
        have hne : u.ownBlock ≠ some bf := fun h => by have := (World.ownsRow.lt R9.out bf h).1; omega
        have F10 : Blk w10 bf 64 F8 := (World.grownBy.block hgrow bf (by rw [S9.out]; have := G8.out.lt; omega) (fun e => hne e.symm)).trans G9.out
        have K10 : Keeps W4.heap.size [bf] W4 w10 := by
          refine ((HKr.out.trans (HK7.out.mono HKr.out.size (fun i hi => hi))).trans ((hK8.out.mono (by have := HKr.out.size; have := HK7.out.size; omega) (fun i hi => hi)).trans (Keeps.of_below (B9.out.mono Z8)))).trans ⟨hgrow.os, hgrow.tape, hgrow.output, hgrow.size, fun i hi _ => hgrow.block i (by rw [S9.out]; omega) (fun e => by have := (World.ownsRow.lt R9.out i e.symm).1; omega)⟩
        have L10 : FrL W4.heap.size w10 v' ((frames s g l z).take (k + 1)) := by
          unfold FrL
          have e : flatF [frameAt s g l z k] = F8.toList := by rw [← HF8.out]; simp [flatF]
          rw [frames_snoc _ _ _ _ _ hlt, flatF_append, List.length_append, e]
          exact hown'
        have HL10 := Lib.hid L10
        have HF10 := Lib.hid F10
        have HK10 := Lib.hid K10
        clear hown' hgrow hnil L10 F10 K10
        go_wp2
        go_round
        case rel => exact ⟨k + 1, v', by omega, hlt, rfl, by simp, HL10.out, by rw [Nat.add_sub_cancel, HF8.out]; exact HF10.out, HK10.out⟩
        case measure => simp [intOf]; omega
      · have hpl : ¬ (k : Int) < g.parts := by omega
        obtain rfl : k = nparts l := by omega
        clear hpe
        go_wp2_with fail
        refine (map_geom wr p bl bv g l lv HMr.out).mono ?_
        rintro r w5 ⟨rfl, hb5⟩
        have HB5 := Lib.hid hb5
        clear hb5
        go_wp2_with fail
        refine (geom_parts g w5 hB0 hB1).mono ?_
        rintro r w' ⟨rfl, rfl⟩
        go_wp2
        go_ret2
        have hL := HLr.out
        rw [List.take_of_length_le (by rw [frames_length]; exact Nat.le_refl _)] at hL
        refine framesPost_fin (by rw [frames_length]; exact HNP.out) rfl HU4.out.size hL (HU4.out.trans (Keeps.below (HKr.out.mono HU4.out.size (fun i hi => hi)) (by simp; have := HN.out; omega))) (HB5.out.alloc HB5.out.size _)
end Go.Proofs.Ytcgafnmpfdkfoaa
/- Law 12: the anchor; what 'made' makes, in plain words; a frame's own Right. -/
namespace Go.Proofs.Ytcgafnmpfdkfoaa
open Go.RowKit

/-- The entries behind a play. -/
def playL (g : G) (ops : List Op11) : List E := ops.foldl (fun l o => setL g l o.b o.e) (nones g)
theorem playL_snoc (g : G) (ops : List Op11) (k : Nat) (o : Op11) (h : ops[k]? = some o) : playL g (ops.take (k + 1)) = setL g (playL g (ops.take k)) o.b o.e := by
  unfold playL
  rw [List.take_add_one, h]
  simp [List.foldl_append]
theorem MapOk.sn {g : G} {l : List E} {lv : List Int} (h : MapOk g l lv) {s : Sn} (hs : s.right l = true) : SnOk s g l := ⟨h.right, h.len, h.all, hs⟩
theorem MapOk.len1000 {g : G} {l : List E} {lv : List Int} (h : MapOk g l lv) : l.length ≤ 1000 := by have := h.len; have := (G.small_of_right h.right).B1; omega

def gA : G := ⟨3, 8, 8, 1, 0, 4⟩
theorem gA_right : gA.right = true := by decide
theorem gA_ok : MapOk gA (nones gA) (noLive gA) := MapOk.new gA_right
theorem sA_right : (Sn.mk 1 1 1).right (nones gA) = true := by decide
theorem gA_holds : gA.holds 0 0 = true := by decide
theorem fA_len : (frames ⟨1, 1, 1⟩ gA (nones gA) 0).length = 2 := by rw [frames_length]; decide

/-- The cells of one frame in a row of frames. -/
theorem FrL.cells {w : World} {base b c : Nat} {fs : List Fr} (h : FrL base w (.slice (some ⟨b, 0, none⟩) fs.length c) fs) (hk : ∀ f ∈ fs, f.Ok) {i : Nat} {f : Fr} (hi : fs[i]? = some f) (j : Nat) (hj : j < 49) : w.cell? ⟨b, i * 49 + j, none⟩ = f.arr[j]? := by
  have hl := (List.getElem?_eq_some_iff.1 hi).1
  have hlen := flatF_length hk
  rw [World.ownsRow.cellAt h (i * 49 + j) (by omega)]
  have hg := flatF_get hk i f hi
  have : ((flatF fs).drop (i * 49)).take 49 = f.arr.toList := hg
  have h2 : (((flatF fs).drop (i * 49)).take 49)[j]? = f.arr.toList[j]? := by rw [this]
  rw [List.getElem?_take, if_pos hj, List.getElem?_drop] at h2
  rw [h2, Array.getElem?_toList]
theorem FrL.nums {w : World} {base b c : Nat} {fs : List Fr} (h : FrL base w (.slice (some ⟨b, 0, none⟩) fs.length c) fs) (hk : ∀ f ∈ fs, f.Ok) {i : Nat} {f : Fr} (hi : fs[i]? = some f) :
    (w.cell? ⟨b, i * 49, none⟩ = some (.int .i64 f.kd) ∧ w.cell? ⟨b, i * 49 + 1, none⟩ = some (.int .i64 f.zn)) ∧ (w.cell? ⟨b, i * 49 + 2, none⟩ = some (.int .i64 f.off) ∧ w.cell? ⟨b, i * 49 + 3, none⟩ = some (.int .i64 f.ep)) ∧ w.cell? ⟨b, i * 49 + 4, none⟩ = some (.int .i64 f.sq) := by
  have k := fun j hj => h.cells hk hi j hj
  exact ⟨⟨(k 0 (by omega)).trans (by unfold Fr.arr; simp), (k 1 (by omega)).trans (by unfold Fr.arr; simp)⟩, ⟨(k 2 (by omega)).trans (by unfold Fr.arr; simp), (k 3 (by omega)).trans (by unfold Fr.arr; simp)⟩, (k 4 (by omega)).trans (by unfold Fr.arr; simp)⟩
theorem FrL.lt {w : World} {base b n c : Nat} {fs : List Fr} (h : FrL base w (.slice (some ⟨b, 0, none⟩) n c) fs) : b < w.heap.size := (World.ownsRow.lt h _ rfl).2

set_option maxRecDepth 100000 in
theorem anchor12 (w : World) : Calls Try.prog 37 #[] w fun r w' => r = .returned (.bool true) ∧ Below w.heap.size w w' := by
  go_enter Try.func37, Try.ntmps37
  go_wp2_with fail
  refine (map_new_yes gA w gA_right).mono ?_
  rintro r w1 ⟨p, bl, bv, rfl, ⟨n1, n2, n3⟩, hm, hb⟩
  have HM := Lib.hid hm
  have HB := Lib.hid hb
  clear hm hb
  go_wp2_with fail
  refine (frames_yes w1 p bl bv gA _ _ ⟨1, 1, 1⟩ HM.out (gA_ok.sn sA_right) 0 gA_holds).mono ?_
  rintro r w2 ⟨b, c, rfl, hb2, hL, hB2⟩
  have hok := frames_ok ⟨1, 1, 1⟩ gA (nones gA) 0
  obtain ⟨⟨x0, _⟩, _⟩ := hL.nums hok (i := 0) (frames_get ⟨1, 1, 1⟩ gA (nones gA) 0 0 (by decide))
  obtain ⟨⟨x1, _⟩, _⟩ := hL.nums hok (i := 1) (frames_get ⟨1, 1, 1⟩ gA (nones gA) 0 1 (by decide))
  have hlt := hL.lt
  have e0 : (frameAt ⟨1, 1, 1⟩ gA (nones gA) 0 0).kd = 4 := rfl
  have e1 : (frameAt ⟨1, 1, 1⟩ gA (nones gA) 0 1).kd = 5 := rfl
  rw [e0] at x0
  rw [e1] at x1
  rw [fA_len]
  have HB2 := Lib.hid hB2
  clear hok hL e0 e1 hB2
  simp only [Nat.zero_mul, Nat.one_mul] at x0 x1
  go_wp2
  go_ret
  exact ⟨rfl, HB.out.trans (HB2.out.mono HB.out.size)⟩

theorem size_snap : (Try.prog.info? 53).map (·.size) = some 4 := by kernel_rfl
theorem size_ref12 : (Try.prog.info? 55).map (·.size) = some 10 := by kernel_rfl
/-- The empty values that 'made' hands back where there is nothing to make. -/
abbrev sn0 : Value := .agg #[.int .i64 0, .int .i64 0, .int .i64 0, .pointer none]
abbrev ref0 : Value := .agg #[.int .i64 0, .int .i64 0, .int .i64 0, .int .i64 0, .int .i64 0, .int .i64 0, .int .i64 0, .int .i64 0, .int .i64 0, .slice none 0 0]
abbrev refArr (s : Sn) (g : G) (v : Value) : Array Value := #[.int .i64 s.gen, .int .i64 s.ep, .int .i64 s.nx, .int .i64 g.D, .int .i64 g.Z, .int .i64 g.S, .int .i64 g.B, .int .i64 g.P, .int .i64 g.O, v]
/-- What 'made' makes: the map behind the play, and the reference's list of its entries. -/
def MadePost (w : World) (g : G) (ops : List Op11) (s : Sn) (t : Value) (r : Ending) (w' : World) : Prop :=
  ∃ p bl bv lv b c, r = .returned (.tuple #[s.v p, .agg (refArr s g (.slice (some ⟨b, 0, none⟩) (playL g ops).length c)), t]) ∧ MapAt w' p bl bv g (playL g ops) lv ∧ MapOk g (playL g ops) lv ∧
    w'.ownsRow 0 46 6 (.slice (some ⟨b, 0, none⟩) (playL g ops).length c) (playL g ops).length (flat (playL g ops)) ∧ (w.heap.size ≤ p ∧ w.heap.size ≤ bl ∧ w.heap.size ≤ bv ∧ w.heap.size ≤ b) ∧ Below w.heap.size w w'

theorem Keeps.drop {B : Nat} {S S' : List Nat} {w w1 : World} (h : Keeps B S w w1) (hS : ∀ i ∈ S, B ≤ i) : Keeps B S' w w1 :=
  ⟨h.os, h.tape, h.output, h.size, fun i hi _ => h.block i hi (fun hx => by have := hS i hx; omega)⟩
/-- What stands behind some rounds over the entries: the reference's own block, its list so far. -/
def MadeI (w2 : World) (M : Nat) (s : Sn) (g : G) (pre : List (Nat × E)) (W : World) : Prop :=
  ∃ v, Blk W M 55 (refArr s g v) ∧ W.ownsRow (w2.heap.size + 2) 46 6 v pre.length (flat (pre.map (·.2))) ∧ Keeps w2.heap.size [M] w2 W ∧ w2.heap.size ≤ W.heap.size
theorem MadeI.keeps {w2 X Y : World} {M : Nat} {s : Sn} {g : G} {pre : List (Nat × E)} (h : MadeI w2 M s g pre X) (hM : M < w2.heap.size) (hx : w2.heap.size ≤ X.heap.size) (k : Keeps X.heap.size [w2.heap.size, w2.heap.size + 1] X Y) : MadeI w2 M s g pre Y := by
  obtain ⟨v, a, b, c, d⟩ := h
  refine ⟨v, k.blk a.lt (by simp; omega) a, own_keeps_v k (fun g' hg' => ?_) b, c.trans ((k.mono hx (fun i hi => hi)).drop (by simp)), by have := k.size; omega⟩
  have := World.ownsRow.lt b g' hg'
  exact ⟨this.2, by simp; omega⟩
theorem info_refE : (Try.prog.info? 46).map (fun i => (i.zero, i.size, i.bytes)) = some (some E0.v, 6, 48) := by kernel_rfl

theorem enum_map (l : List E) : (enum l).map (·.2) = l := by
  unfold enum
  rw [List.map_map]
  apply List.ext_getElem
  · simp
  · intro i h1 h2
    simp [List.getD_eq_getElem?_getD, h2]
theorem own_pos {W : World} {base n : Nat} {e : TypeId} {size : Nat} {v : Value} {xs : List Value} (h : W.ownsRow base e size v n xs) (hn : 1 ≤ n) : ∃ g cap, v = .slice (some ⟨g, 0, none⟩) n cap := by
  obtain ⟨m, rfl⟩ : ∃ m, n = m + 1 := ⟨n - 1, by omega⟩
  exact own_succ h
end Go.Proofs.Ytcgafnmpfdkfoaa
/- An entry read off bytes: snap.take. -/
namespace Go.Proofs.Ytcgafnmpfdkfoaa
open Go.RowKit

/-- The entry that bytes tell. -/
def unEnt (ys : List Int) : E := ⟨unle (ys.take 1), unle ((ys.drop 1).take 2), unle ((ys.drop 3).take 2), unle ((ys.drop 5).take 1), unle ((ys.drop 6).take 6), unle ((ys.drop 12).take 4)⟩
theorem Byt.drop {xs : List Int} (h : Byt xs) (k : Nat) : Byt (xs.drop k) := fun b hb => h b (List.mem_of_mem_drop hb)
theorem Byt.take {xs : List Int} (h : Byt xs) (k : Nat) : Byt (xs.take k) := fun b hb => h b (List.mem_of_mem_take hb)
theorem entB_unEnt (ys : List Int) (hy : Byt ys) (hl : 16 ≤ ys.length) : entB (unEnt ys) = ys.take 16 := by
  have key : ∀ a k, a + k ≤ ys.length → le k (unle ((ys.drop a).take k)) = (ys.drop a).take k := fun a k hk => by
    have h := le_unle ((ys.drop a).take k) ((hy.drop a).take k)
    rwa [List.length_take, List.length_drop, Nat.min_eq_left (by omega)] at h
  have k0 := key 0 1 (by omega)
  simp only [List.drop_zero] at k0
  unfold entB unEnt
  simp only [k0, key 1 2 (by omega), key 3 2 (by omega), key 5 1 (by omega), key 6 6 (by omega), key 12 4 (by omega)]
  have j : ∀ a k m, (ys.drop a).take k ++ (ys.drop (a + k)).take m = (ys.drop a).take (k + m) := fun a k m => by
    rw [List.take_add, List.drop_drop]
  have j0 : ∀ k m, ys.take k ++ (ys.drop k).take m = ys.take (k + m) := fun k m => by rw [List.take_add]
  rw [j0 1 2, j0 3 2, j0 5 1, j0 6 6, j0 12 4]
theorem unEnt_fits (ys : List Int) (hy : Byt ys) (hl : 16 ≤ ys.length) : (unEnt ys).Fits := by
  have key : ∀ a k, a + k ≤ ys.length → 0 ≤ unle ((ys.drop a).take k) ∧ unle ((ys.drop a).take k) < 256 ^ k := fun a k hk => by
    have h := unle_range ((ys.drop a).take k) ((hy.drop a).take k)
    rwa [List.length_take, List.length_drop, Nat.min_eq_left (by omega)] at h
  have k0 := key 0 1 (by omega)
  simp only [List.drop_zero] at k0
  exact ⟨k0, key 1 2 (by omega), key 3 2 (by omega), key 5 1 (by omega), key 6 6 (by omega), key 12 4 (by omega)⟩
def EntPost (B : Nat) (w : World) (r : Nat) (ys : List Int) (e : Ending) (w' : World) : Prop :=
  e = .returned (unEnt ys).v ∧ RdAt B w' r (ys.drop 16) ∧ Keeps w.heap.size [r] w w'

theorem size_entry : (Try.prog.info? 31).map (·.size) = some 6 := by kernel_rfl
abbrev zeroE : Array Value := #[.int .i64 0, .int .i64 0, .int .i64 0, .int .i64 0, .int .i64 0, .int .i64 0]
set_option maxRecDepth 100000 in
set_option maxHeartbeats 1000000 in
theorem snap_take (B : Nat) (w : World) (r : Nat) (ys : List Int) (h : RdAt B w r ys) (hy : Byt ys) (h2 : 16 < ys.length) (h3 : ys.length ≤ 1000) :
    Calls Try.prog 122 #[.pointer (some ⟨r, 0, none⟩)] w (EntPost B w r ys) := by
  obtain ⟨V0, hV0⟩ : ∃ V0, w.alloc (.cells zeroE 31) = V0 := ⟨_, rfl⟩
  have b0 : Below w.heap.size w V0 := by rw [← hV0]; exact below_box _ _
  have k0 : Blk V0 w.heap.size 31 zeroE := by rw [← hV0]; exact Blk.newAt rfl
  have R0 := Lib.hid (h.grow b0)
  have hr0 := h.lt.2
  have B0 := Lib.hid b0
  have K0 := Lib.hid k0
  have HY := Lib.hid hy
  clear b0 k0 h hy
  go_enter Try.func122, Try.ntmps122
  go_wp2_with fail
  clear hV0
  refine (rd_num B V0 r ys 1 R0.out HY.out (by omega) (by omega) (by omega) h3).mono ?_
  rintro e w1 ⟨rfl, hR1, hK1⟩
  obtain ⟨a0, ha0⟩ : ∃ a, Hid (unle (ys.take 1) = a) := ⟨_, Lib.hid rfl⟩
  rw [ha0.out]
  obtain ⟨V1, hV1⟩ : ∃ V1, w1.alloc (.cells #[.int .i64 a0, .int .i64 0, .int .i64 0, .int .i64 0, .int .i64 0, .int .i64 0] 31) = V1 := ⟨_, rfl⟩
  have b1 : Below w1.heap.size w1 V1 := by rw [← hV1]; exact below_box _ _
  have e1 : Blk V1 w1.heap.size 31 #[.int .i64 a0, .int .i64 0, .int .i64 0, .int .i64 0, .int .i64 0, .int .i64 0] := by rw [← hV1]; exact Blk.newAt rfl
  have hK1' : Keeps V0.heap.size [r] V0 V1 := hK1.trans ((Keeps.of_below b1).mono hK1.size (fun _ hi => hi))
  have R1 := Lib.hid (hR1.grow b1)
  have K1 := Lib.hid hK1'
  have E1 := Lib.hid e1
  have l1 := hK1.size
  have HV1 := Lib.hid hV1
  clear b1 e1 hR1 hK1 hK1' hV1
  go_wp2_with fail
  rw [HV1.out]
  refine (rd_num B V1 r (ys.drop 1) 2 R1.out (HY.out.drop 1) (by omega) (by omega) (by simp; omega) (by simp; omega)).mono ?_
  rintro e w2 ⟨rfl, hR2, hK2⟩
  rw [List.drop_drop] at hR2
  obtain ⟨a1, ha1⟩ : ∃ a, Hid (unle ((ys.drop 1).take 2) = a) := ⟨_, Lib.hid rfl⟩
  rw [ha1.out]
  have R2 := Lib.hid hR2
  clear hR2
  go_wp2_with fail
  refine (rd_num B w2 r (ys.drop (1 + 2)) 2 R2.out (HY.out.drop _) (by omega) (by omega) (by simp; omega) (by simp; omega)).mono ?_
  rintro e w3 ⟨rfl, hR3, hK3⟩
  rw [List.drop_drop] at hR3
  obtain ⟨a2, ha2⟩ : ∃ a, Hid (unle ((ys.drop (1 + 2)).take 2) = a) := ⟨_, Lib.hid rfl⟩
  rw [ha2.out]
  have R3 := Lib.hid hR3
  have hK23 := hK2.trans (hK3.mono hK2.size (fun _ hi => hi))
  clear hR3 hK2 hK3
  go_wp2_with fail
  refine (rd_num B w3 r (ys.drop (1 + 2 + 2)) 1 R3.out (HY.out.drop _) (by omega) (by omega) (by simp; omega) (by simp; omega)).mono ?_
  rintro e w4 ⟨rfl, hR4, hK4⟩
  rw [List.drop_drop] at hR4
  obtain ⟨a3, ha3⟩ : ∃ a, Hid (unle ((ys.drop (1 + 2 + 2)).take 1) = a) := ⟨_, Lib.hid rfl⟩
  rw [ha3.out]
  have hK24 := hK23.trans (hK4.mono hK23.size (fun _ hi => hi))
  have e4 := hK24.blk E1.out.lt (by have := K1.out.size; have := B0.out.size; simp; omega) E1.out
  have R4 := Lib.hid hR4
  have HK4 := Lib.hid hK24
  clear hR4 hK4 hK23 hK24
  obtain ⟨V4, hV4⟩ : ∃ V, ((w4.setCell ⟨w1.heap.size, 1, none⟩ (.int .i64 a1)).setCell ⟨w1.heap.size, 2, none⟩ (.int .i64 a2)).setCell ⟨w1.heap.size, 3, none⟩ (.int .i64 a3) = V := ⟨_, rfl⟩
  have HV4 := Lib.hid hV4
  have E4 : Hid (Blk V4 w1.heap.size 31 #[.int .i64 a0, .int .i64 a1, .int .i64 a2, .int .i64 a3, .int .i64 0, .int .i64 0]) := Lib.hid (by rw [← hV4]; exact ((e4.set_ 1 _).set_ 2 _).set_ 3 _)
  have hs4 : Keeps w4.heap.size [w1.heap.size] w4 V4 := by rw [← hV4]; exact (((Keeps.refl _ _ w4).setCell _ _ (.inl (by simp))).setCell _ _ (.inl (by simp))).setCell _ _ (.inl (by simp))
  have HS4 := Lib.hid hs4
  have R4' := Lib.hid (R4.out.other hs4 e4 (by decide))
  have q0 : w4.cell? ⟨w1.heap.size, 1, none⟩ = some (.int .i64 0) := by rw [e4.cell]; rfl
  have q1 : w4.cell? ⟨w1.heap.size, 2, none⟩ = some (.int .i64 0) := by rw [e4.cell]; rfl
  have q2 : w4.cell? ⟨w1.heap.size, 3, none⟩ = some (.int .i64 0) := by rw [e4.cell]; rfl
  have f0 : w4.frozen? ⟨w1.heap.size, 1, none⟩ = false := e4.frozen 1
  have f1 : w4.frozen? ⟨w1.heap.size, 2, none⟩ = false := e4.frozen 2
  have f2 : w4.frozen? ⟨w1.heap.size, 3, none⟩ = false := e4.frozen 3
  have lt4 := e4.lt
  clear e4 hV4 hs4
  go_wp2_with fail
  rw [HV4.out]
  clear q0 q1 q2 f0 f1 f2 lt4
  refine (rd_num B V4 r (ys.drop (1 + 2 + 2 + 1)) 6 R4'.out (HY.out.drop _) (by omega) (by omega) (by simp; omega) (by simp; omega)).mono ?_
  rintro e w5 ⟨rfl, hR5, hK5⟩
  rw [List.drop_drop] at hR5
  obtain ⟨a4, ha4⟩ : ∃ a, Hid (unle ((ys.drop (1 + 2 + 2 + 1)).take 6) = a) := ⟨_, Lib.hid rfl⟩
  rw [ha4.out]
  have R5 := Lib.hid hR5
  clear hR5
  go_wp2_with fail
  refine (rd_num B w5 r (ys.drop (1 + 2 + 2 + 1 + 6)) 4 R5.out (HY.out.drop _) (by omega) (by omega) (by simp; omega) (by simp; omega)).mono ?_
  rintro e w6 ⟨rfl, hR6, hK6⟩
  rw [List.drop_drop] at hR6
  obtain ⟨a5, ha5⟩ : ∃ a, Hid (unle ((ys.drop (1 + 2 + 2 + 1 + 6)).take 4) = a) := ⟨_, Lib.hid rfl⟩
  rw [ha5.out]
  have hK46 := hK5.trans (hK6.mono hK5.size (fun _ hi => hi))
  have z1 : w.heap.size < w1.heap.size := by have := K0.out.lt; omega
  have z4 : w1.heap.size < w4.heap.size := by have := HK4.out.size; have := E1.out.lt; omega
  have z5 : w4.heap.size ≤ V4.heap.size := HS4.out.size
  have e6 := hK46.blk E4.out.lt (by simp; omega) E4.out
  have o6 : Blk w6 w.heap.size 31 zeroE := by
    have o1 := K1.out.blk K0.out.lt (by simp; omega) K0.out
    have o4 := HK4.out.blk o1.lt (by simp; omega) o1
    have o5 := HS4.out.blk o4.lt (by simp; omega) o4
    exact hK46.blk o5.lt (by simp; omega) o5
  obtain ⟨V6, hV6⟩ : ∃ V, (w6.setCell ⟨w1.heap.size, 4, none⟩ (.int .i64 a4)).setCell ⟨w1.heap.size, 5, none⟩ (.int .i64 a5) = V := ⟨_, rfl⟩
  have hs6 : Keeps w6.heap.size [w1.heap.size] w6 V6 := by rw [← hV6]; exact ((Keeps.refl _ _ w6).setCell _ _ (.inl (by simp))).setCell _ _ (.inl (by simp))
  have R6 := Lib.hid (hR6.other hs6 e6 (by decide))
  have g6 : Blk V6 w1.heap.size 31 (E.arr ⟨a0, a1, a2, a3, a4, a5⟩) := by rw [← hV6]; exact (e6.set_ 4 _).set_ 5 _
  have O6 := Lib.hid (hs6.blk o6.lt (by simp; omega) o6)
  have G6 := Lib.hid g6
  have hK06 : Keeps w.heap.size [r] w V6 := by
    have t1 : Keeps w.heap.size [r] w V1 := ((Keeps.of_below (S := []) B0.out).mono (Nat.le_refl _) (by simp)).trans (K1.out.mono B0.out.size (by simp))
    have t2 := t1.trans (HK4.out.mono t1.size (by simp))
    have t3 : Keeps w.heap.size [r] w4 V4 := Keeps.drop (HS4.out.mono t2.size (S' := [w1.heap.size]) (by simp)) (by simp; omega)
    have t4 := t2.trans t3
    have t5 := t4.trans (hK46.mono t4.size (by simp))
    exact t5.trans (Keeps.drop (hs6.mono t5.size (S' := [w1.heap.size]) (by simp)) (by simp; omega))
  have HK6 := Lib.hid hK06
  have q0 : w6.cell? ⟨w1.heap.size, 4, none⟩ = some (.int .i64 0) := by rw [e6.cell]; rfl
  have q1 : w6.cell? ⟨w1.heap.size, 5, none⟩ = some (.int .i64 0) := by rw [e6.cell]; rfl
  have f0 : w6.frozen? ⟨w1.heap.size, 4, none⟩ = false := e6.frozen 4
  have f1 : w6.frozen? ⟨w1.heap.size, 5, none⟩ = false := e6.frozen 5
  have lt6 := e6.lt
  obtain ⟨⟨x0, x1, x2⟩, x3, x4, x5⟩ := g6.ent
  have o7 := O6.out
  have y0 : V6.cell? ⟨w.heap.size, 0, none⟩ = some (.int .i64 0) := by rw [o7.cell]; rfl
  have y1 : V6.cell? ⟨w.heap.size, 1, none⟩ = some (.int .i64 0) := by rw [o7.cell]; rfl
  have y2 : V6.cell? ⟨w.heap.size, 2, none⟩ = some (.int .i64 0) := by rw [o7.cell]; rfl
  have y3 : V6.cell? ⟨w.heap.size, 3, none⟩ = some (.int .i64 0) := by rw [o7.cell]; rfl
  have y4 : V6.cell? ⟨w.heap.size, 4, none⟩ = some (.int .i64 0) := by rw [o7.cell]; rfl
  have y5 : V6.cell? ⟨w.heap.size, 5, none⟩ = some (.int .i64 0) := by rw [o7.cell]; rfl
  have yf : ∀ i, V6.frozen? ⟨w.heap.size, i, none⟩ = false := fun i => o7.frozen i
  have yl := o7.lt
  clear hK5 hK6 hK46 hR6 hs6 g6 e6 o6 o7 hK06
  go_wp2_with fail
  obtain ⟨V7, hV7⟩ : ∃ V, ((((((V6.setCell ⟨w.heap.size, 0, none⟩ (.int .i64 a0)).setCell ⟨w.heap.size, 1, none⟩ (.int .i64 a1)).setCell ⟨w.heap.size, 2, none⟩ (.int .i64 a2)).setCell ⟨w.heap.size, 3, none⟩ (.int .i64 a3)).setCell ⟨w.heap.size, 4, none⟩ (.int .i64 a4)).setCell ⟨w.heap.size, 5, none⟩ (.int .i64 a5)) = V := ⟨_, rfl⟩
  have e7 : Blk V7 w.heap.size 31 (E.arr ⟨a0, a1, a2, a3, a4, a5⟩) := by rw [← hV7]; exact (((((O6.out.set_ 0 _).set_ 1 _).set_ 2 _).set_ 3 _).set_ 4 _).set_ 5 _
  have k7 : Keeps V6.heap.size [w.heap.size] V6 V7 := by rw [← hV7]; exact ((((((Keeps.refl _ _ V6).setCell _ _ (.inl (by simp))).setCell _ _ (.inl (by simp))).setCell _ _ (.inl (by simp))).setCell _ _ (.inl (by simp))).setCell _ _ (.inl (by simp))).setCell _ _ (.inl (by simp))
  rw [hV7]
  have r1 : (loadVar 31 ⟨w.heap.size, 0, none⟩).run Try.prog V7 = .ok (E.v ⟨a0, a1, a2, a3, a4, a5⟩) V7 := run_loadVar_row _ _ _ _ _ _ _ e7 Try.underlying31 rfl size_entry
  have hE : unEnt ys = ⟨a0, a1, a2, a3, a4, a5⟩ := by
    unfold unEnt
    rw [← ha0.out, ← ha1.out, ← ha2.out, ← ha3.out, ← ha4.out, ← ha5.out]
  refine bodyPost_ret (v := E.v ⟨a0, a1, a2, a3, a4, a5⟩) ?_ rfl ⟨by rw [hE], R6.out.other k7 O6.out (by decide), ?_⟩
  · simp [results, Try.results122, asAddr, r1]
  · exact HK6.out.trans (Keeps.drop (k7.mono HK6.out.size (S' := [w.heap.size]) (by simp)) (by simp))
end Go.Proofs.Ytcgafnmpfdkfoaa
/- What the first frame tells: snap.begin. -/
namespace Go.Proofs.Ytcgafnmpfdkfoaa
open Go.RowKit

/-- The geometry that a first frame's bytes tell. -/
def unGeo (ys : List Int) : G := ⟨unle ((ys.drop 6).take 1), unle ((ys.drop 7).take 1), unle ((ys.drop 8).take 1), unle ((ys.drop 9).take 2), unle ((ys.drop 11).take 1), unle ((ys.drop 12).take 1)⟩
def unNx (ys : List Int) : Int := unle (ys.take 6)
/-- What 'begin' hands back. -/
def BeginPost (w : World) (f : Fr) (e : Ending) (w' : World) : Prop :=
  Below w.heap.size w w' ∧ if (unGeo f.bd).right = true then ∃ p bl bv, e = .returned (.tuple #[Sn.v ⟨f.sq, f.ep, unNx f.bd⟩ p, .int .i64 0]) ∧ MapAt w' p bl bv (unGeo f.bd) (nones (unGeo f.bd)) (noLive (unGeo f.bd)) ∧ w.heap.size ≤ p ∧ w.heap.size ≤ bl ∧ w.heap.size ≤ bv
    else e = .returned (.tuple #[.agg #[.int .i64 f.sq, .int .i64 f.ep, .int .i64 (unNx f.bd), .pointer none], .int .i64 20])
theorem codec_new_n (w : World) (g o c n : Nat) (xs : List Int) (hg : g < w.heap.size) (hx0 : ∀ j v, xs[j]? = some v → w.cell? ⟨g, o + j, none⟩ = some (.int .u8 v)) (hn : xs.length = n) (h1 : 1 ≤ n) (h2 : n ≤ 1000) :
    Calls Try.prog 120 #[.slice (some ⟨g, o, none⟩) n c] w (ReaderPost w xs) := by
  subst hn
  exact codec_new w g o c xs hg hx0 h1 h2
theorem Fr.byte {f : Fr} {j : Nat} {v : Int} (h : f.bd[j]? = some v) : f.arr[5 + j]? = some (.int .u8 v) := by
  unfold Fr.arr
  rw [Array.getElem?_append_right (by simp)]
  simp [bys, h]
theorem Blk.sncells {w : World} {b : Nat} {t : TypeId} {x y z v : Value} (h : Blk w b t #[x, y, z, v]) : (w.cell? ⟨b, 0, none⟩ = some x ∧ w.cell? ⟨b, 1, none⟩ = some y) ∧ w.cell? ⟨b, 2, none⟩ = some z ∧ w.cell? ⟨b, 3, none⟩ = some v :=
  ⟨⟨by rw [h.cell]; rfl, by rw [h.cell]; rfl⟩, by rw [h.cell]; rfl, by rw [h.cell]; rfl⟩
def CutB (B : Nat) (W : World) (r : Nat) (ys : List Int) (sq ep nx : Int) (v : Value) (wx : World) : Prop :=
  ∃ bs, v = .pointer (some ⟨bs, 0, none⟩) ∧ W.heap.size ≤ bs ∧ Keeps W.heap.size [r] W wx ∧ RdAt B wx r ys ∧ Blk wx bs 53 #[.int .i64 sq, .int .i64 ep, .int .i64 nx, .pointer none]

/-- What stands while 'begin' reads. -/
structure BgAt (w : World) (N1 bs : Nat) (f : Fr) (W : World) : Prop where
  u : Below w.heap.size w W
  o : Blk W N1 53 #[.int .i64 0, .int .i64 0, .int .i64 0, .pointer none]
  e : Blk W bs 53 #[.int .i64 f.sq, .int .i64 f.ep, .int .i64 (unNx f.bd), .pointer none]
theorem BgAt.keeps {w : World} {N1 bs r : Nat} {f : Fr} {W W' : World} (h : BgAt w N1 bs f W) (k : Keeps W.heap.size [r] W W') (hr : w.heap.size ≤ r) (h1 : N1 ≠ r) (h2 : bs ≠ r) : BgAt w N1 bs f W' :=
  ⟨h.u.trans (Keeps.below (k.mono h.u.size (fun _ hi => hi)) (by simpa using hr)), k.blk h.o.lt (by simpa using h1) h.o, k.blk h.e.lt (by simpa using h2) h.e⟩
theorem BgAt.grow {w : World} {N1 bs : Nat} {f : Fr} {W W' : World} (h : BgAt w N1 bs f W) (k : Below W.heap.size W W') : BgAt w N1 bs f W' :=
  ⟨h.u.trans (k.mono h.u.size), (Keeps.of_below (S := []) k).blk h.o.lt (by simp) h.o, (Keeps.of_below (S := []) k).blk h.e.lt (by simp) h.e⟩

set_option maxRecDepth 100000 in
set_option maxHeartbeats 2000000 in
theorem snap_begin (w : World) (f : Fr) (hk : f.Ok) (hb : Byt f.bd) : Calls Try.prog 85 #[f.v] w (BeginPost w f) := by
  obtain ⟨V0, hV0⟩ : ∃ V0, (w.alloc (.cells f.arr 64)).alloc (.cells #[.int .i64 0, .int .i64 0, .int .i64 0, .pointer none] 53) = V0 := ⟨_, rfl⟩
  obtain ⟨N1, hN1⟩ : ∃ N1, w.heap.size + 1 = N1 := ⟨_, rfl⟩
  have b0 : Below w.heap.size w V0 := by rw [← hV0]; exact (below_box _ _).alloc (by simp) _
  have k0 : Blk V0 w.heap.size 64 f.arr := by rw [← hV0]; exact (Blk.newAt rfl).alloc _
  have k1 : Blk V0 N1 53 #[.int .i64 0, .int .i64 0, .int .i64 0, .pointer none] := by rw [← hV0]; exact Blk.newAt (by simp; omega)
  have B0 := Lib.hid b0
  have K0 := Lib.hid k0
  have K1 := Lib.hid k1
  have HK := Lib.hid hk
  have HB := Lib.hid hb
  clear b0 k0 k1 hb
  go_enter Try.func85, Try.ntmps85
  go_wp2_with fail
  have HN1 := Lib.hid hN1
  clear hV0 hN1
  have hk44 : f.bd.length = 44 := hk
  refine (codec_new_n V0 w.heap.size 5 44 44 f.bd K0.out.lt (fun j v hj => by rw [K0.out.cell]; exact Fr.byte hj) hk (by omega) (by omega)).mono ?_
  rintro e W1 ⟨r, rfl, hR1, hb1⟩
  obtain ⟨N0, hN0⟩ : ∃ N, V0.heap.size = N := ⟨_, rfl⟩
  rw [hN0] at hR1
  have F1 := Lib.hid ((Keeps.of_below (S := []) hb1).blk K0.out.lt (by simp) K0.out)
  have O1 := Lib.hid ((Keeps.of_below (S := []) hb1).blk K1.out.lt (by simp) K1.out)
  have R1 := Lib.hid hR1
  have B1 : Hid (Below w.heap.size w W1) := Lib.hid (B0.out.trans (hb1.mono B0.out.size))
  have hr := hR1.lt
  have hfl := K0.out.lt
  have hol := K1.out.lt
  have hrf : w.heap.size < W1.heap.size := by omega
  have hrn : ¬ w.heap.size = r := by omega
  obtain ⟨⟨c0, c1⟩, ⟨c2, c3⟩, c4⟩ := F1.out.fcells
  have HT : Hid (∀ w', Keeps W1.heap.size [r] W1 w' → w'.cell? ⟨w.heap.size, 3, none⟩ = some (.int .i64 f.ep) ∧ w'.cell? ⟨w.heap.size, 4, none⟩ = some (.int .i64 f.sq)) :=
    Lib.hid fun w' k => by
      have := (k.blk F1.out.lt (by simpa using hrn) F1.out).fcells
      exact ⟨this.2.1.2, this.2.2⟩
  have hnum : Hid (∀ W, Keeps W1.heap.size [] W1 W → Calls Try.prog 121 #[.pointer (some ⟨r, 0, none⟩), .int .i64 6] W (NumPost N0 W r f.bd 6)) :=
    Lib.hid fun W k => rd_num N0 W r f.bd 6 (R1.out.keeps k (by simp)) HB.out (by omega) (by omega) (by omega) (by omega)
  clear hb1 hR1 c0 c1 c2 hk44 hk
  go_wp2_with fail
  go_cut [5] (fun f' wx => CutB N0 W1 r (f.bd.drop 6) f.sq f.ep (unNx f.bd) f' wx)
  case first =>
    go_region_held3 (fun w' => w'.cell? ⟨w.heap.size, 3, none⟩ = some (.int .i64 f.ep) ∧ w'.cell? ⟨w.heap.size, 4, none⟩ = some (.int .i64 f.sq)) (first | (go_keep; done) | exact HT.out _ hk2 | exact HT.out _ (hk2.trans ((Keeps.of_below (S := [r]) (below_box _ _)).mono hk2.size (fun _ hi => hi))) | exact HT.out _ ((((hk2.setCell _ _ (.inr (Nat.le_refl _))).setCell _ _ (.inr (Nat.le_refl _))).setCell _ _ (.inr (Nat.le_refl _))).setCell _ _ (.inr (Nat.le_refl _))) | (trace_state; fail))
      (first | (go_at_call 121; refine (hnum.out _ ((Keeps.refl _ _ W1).drew)).mono ?_; rintro e w' ⟨rfl, hR2, hK2⟩; have hk2 : Keeps W1.heap.size [r] W1 w' := (Keeps.refl _ _ W1).drew.trans hK2; have tok := hK2) | (go_at_call 121; refine (hnum.out _ ((Keeps.of_below (below_box W1 _)).drew)).mono ?_; rintro e w' ⟨rfl, hR2, hK2⟩; have hk2 : Keeps W1.heap.size [r] W1 w' := (Keeps.of_below (S := [r]) (below_box W1 _)).drew.trans (hK2.mono (by simp [World.drew]) (by simp)); have e2 : Blk w' W1.heap.size 53 #[.int .i64 0, .int .i64 0, .int .i64 0, .pointer none] := hK2.blk (by simp [World.drew]) (by simp; omega) (Blk.newAt rfl); obtain ⟨⟨u0, u1⟩, u2, u3⟩ := e2.sncells; have uf := e2.frozen; have ul := e2.lt))
    · go_wp2_with fail
      go_meet
      case rel => exact ⟨_, rfl, hk2.size, hk2.trans ((Keeps.of_below (S := [r]) (below_box _ _)).mono hk2.size (fun _ hi => hi)), hR2.grow (below_box _ _), Blk.newAt rfl⟩
    · go_wp2_with fail
      go_meet
      case rel =>
        refine ⟨_, rfl, Nat.le_refl _, (((hk2.setCell _ _ (.inr (Nat.le_refl _))).setCell _ _ (.inr (Nat.le_refl _))).setCell _ _ (.inr (Nat.le_refl _))).setCell _ _ (.inr (Nat.le_refl _)), ?_, (((e2.set_ 0 _).set_ 1 _).set_ 2 _).set_ 3 _⟩
        exact hR2.other ((((Keeps.refl _ [W1.heap.size] w').setCell _ _ (.inl (by simp))).setCell _ _ (.inl (by simp))).setCell _ _ (.inl (by simp)) |>.setCell _ _ (.inl (by simp))) e2 (by decide)
  case rest =>
    obtain ⟨bs, rfl, n2, K2, R2, E2⟩ := hcut
    obtain ⟨W2, rfl⟩ : ∃ W2 : World, W2 = wc := ⟨_, rfl⟩
    have r1 : N1 ≠ r := by omega
    have r2 : bs ≠ r := by omega
    have rw_ : w.heap.size ≤ r := by omega
    have G2 : Hid (BgAt w N1 bs f W2) := Lib.hid ⟨B1.out.trans (Keeps.below (K2.mono B1.out.size (fun _ hi => hi)) (by simpa using rw_)), K2.blk O1.out.lt (by simpa using r1) O1.out, E2⟩
    have R2' := Lib.hid R2
    have hl : f.bd.length = 44 := HK.out
    have gr : Hid (∀ W W', BgAt w N1 bs f W → Keeps W.heap.size [r] W W' → BgAt w N1 bs f W') := Lib.hid fun W W' h k => h.keeps k rw_ r1 r2
    clear K2 R2 E2 hnum HT c3 c4
    go_wp2_with fail
    refine (rd_num N0 W2 r (f.bd.drop 6) 1 R2'.out (HB.out.drop _) (by omega) (by omega) (by simp; omega) (by simp; omega)).mono ?_
    rintro e w3 ⟨rfl, hR3, hK3⟩
    rw [List.drop_drop] at hR3
    obtain ⟨a0, ha0⟩ : ∃ a, Hid (unle ((f.bd.drop 6).take 1) = a) := ⟨_, Lib.hid rfl⟩
    rw [ha0.out]
    have R3 := Lib.hid hR3
    have G3 := Lib.hid (gr.out _ _ G2.out hK3)
    clear hR3 hK3 G2 R2'
    go_wp2_with fail
    refine (rd_num N0 w3 r (f.bd.drop (6 + 1)) 1 R3.out (HB.out.drop _) (by omega) (by omega) (by simp; omega) (by simp; omega)).mono ?_
    rintro e w4 ⟨rfl, hR4, hK4⟩
    rw [List.drop_drop] at hR4
    obtain ⟨a1, ha1⟩ : ∃ a, Hid (unle ((f.bd.drop (6 + 1)).take 1) = a) := ⟨_, Lib.hid rfl⟩
    rw [ha1.out]
    have R4 := Lib.hid hR4
    have G4 := Lib.hid (gr.out _ _ G3.out hK4)
    clear hR4 hK4 G3 R3
    go_wp2_with fail
    refine (rd_num N0 w4 r (f.bd.drop (6 + 1 + 1)) 1 R4.out (HB.out.drop _) (by omega) (by omega) (by simp; omega) (by simp; omega)).mono ?_
    rintro e w5 ⟨rfl, hR5, hK5⟩
    rw [List.drop_drop] at hR5
    obtain ⟨a2, ha2⟩ : ∃ a, Hid (unle ((f.bd.drop (6 + 1 + 1)).take 1) = a) := ⟨_, Lib.hid rfl⟩
    rw [ha2.out]
    obtain ⟨V5, hV5⟩ : ∃ V, w5.alloc (.cells #[.int .i64 a0, .int .i64 a1, .int .i64 a2, .int .i64 0, .int .i64 0, .int .i64 0] 23) = V := ⟨_, rfl⟩
    have b5 : Below w5.heap.size w5 V5 := by rw [← hV5]; exact below_box _ _
    have g5 : Blk V5 w5.heap.size 23 #[.int .i64 a0, .int .i64 a1, .int .i64 a2, .int .i64 0, .int .i64 0, .int .i64 0] := by rw [← hV5]; exact Blk.newAt rfl
    have R5 := Lib.hid (hR5.grow b5)
    have G5 := Lib.hid ((gr.out _ _ G4.out hK5).grow b5)
    have M5 := Lib.hid g5
    have rn5 := Lib.hid hR5.lt.2
    have HV5 := Lib.hid hV5
    clear hR5 hK5 G4 R4 b5 g5 hV5
    go_wp2_with fail
    rw [HV5.out]
    refine (rd_num N0 V5 r (f.bd.drop (6 + 1 + 1 + 1)) 2 R5.out (HB.out.drop _) (by omega) (by omega) (by simp; omega) (by simp; omega)).mono ?_
    rintro e w6 ⟨rfl, hR6, hK6⟩
    rw [List.drop_drop] at hR6
    obtain ⟨a3, ha3⟩ : ∃ a, Hid (unle ((f.bd.drop (6 + 1 + 1 + 1)).take 2) = a) := ⟨_, Lib.hid rfl⟩
    rw [ha3.out]
    have R6 := Lib.hid hR6
    have G6 := Lib.hid (gr.out _ _ G5.out hK6)
    have M6 := Lib.hid (hK6.blk M5.out.lt (by have := rn5.out; simp; omega) M5.out)
    clear hR6 hK6 G5 R5 M5
    go_wp2_with fail
    refine (rd_num N0 w6 r (f.bd.drop (6 + 1 + 1 + 1 + 2)) 1 R6.out (HB.out.drop _) (by omega) (by omega) (by simp; omega) (by simp; omega)).mono ?_
    rintro e w7 ⟨rfl, hR7, hK7⟩
    rw [List.drop_drop] at hR7
    obtain ⟨a4, ha4⟩ : ∃ a, Hid (unle ((f.bd.drop (6 + 1 + 1 + 1 + 2)).take 1) = a) := ⟨_, Lib.hid rfl⟩
    rw [ha4.out]
    have R7 := Lib.hid hR7
    have G7 := Lib.hid (gr.out _ _ G6.out hK7)
    have M7 := Lib.hid (hK7.blk M6.out.lt (by have := rn5.out; simp; omega) M6.out)
    clear hR7 hK7 G6 R6 M6
    go_wp2_with fail
    refine (rd_num N0 w7 r (f.bd.drop (6 + 1 + 1 + 1 + 2 + 1)) 1 R7.out (HB.out.drop _) (by omega) (by omega) (by simp; omega) (by simp; omega)).mono ?_
    rintro e w8 ⟨rfl, hR8, hK8⟩
    obtain ⟨a5, ha5⟩ : ∃ a, Hid (unle ((f.bd.drop (6 + 1 + 1 + 1 + 2 + 1)).take 1) = a) := ⟨_, Lib.hid rfl⟩
    rw [ha5.out]
    have G8 := gr.out _ _ G7.out hK8
    have m8 := hK8.blk M7.out.lt (by have := rn5.out; simp; omega) M7.out
    obtain ⟨V8, hV8⟩ : ∃ V, ((w8.setCell ⟨w5.heap.size, 3, none⟩ (.int .i64 a3)).setCell ⟨w5.heap.size, 4, none⟩ (.int .i64 a4)).setCell ⟨w5.heap.size, 5, none⟩ (.int .i64 a5) = V := ⟨_, rfl⟩
    have k8 : Keeps w8.heap.size [w5.heap.size] w8 V8 := by rw [← hV8]; exact (((Keeps.refl _ _ w8).setCell _ _ (.inl (by simp))).setCell _ _ (.inl (by simp))).setCell _ _ (.inl (by simp))
    have n8 : Blk V8 w5.heap.size 23 (G.arr ⟨a0, a1, a2, a3, a4, a5⟩) := by rw [← hV8]; exact ((m8.set_ 3 _).set_ 4 _).set_ 5 _
    have G9 := Lib.hid (G8.keeps k8 (by have := rn5.out; omega) (fun h => Blk.ne_ m8 G8.o (by decide) h.symm) (fun h => Blk.ne_ m8 G8.e (by decide) h.symm))
    have q0 : w8.cell? ⟨w5.heap.size, 3, none⟩ = some (.int .i64 0) := by rw [m8.cell]; rfl
    have q1 : w8.cell? ⟨w5.heap.size, 4, none⟩ = some (.int .i64 0) := by rw [m8.cell]; rfl
    have q2 : w8.cell? ⟨w5.heap.size, 5, none⟩ = some (.int .i64 0) := by rw [m8.cell]; rfl
    have qf := m8.frozen
    have ql := m8.lt
    obtain ⟨⟨x0, x1⟩, ⟨x2, x3⟩, x4, x5⟩ := n8.gcells
    have hg : Hid (unGeo f.bd = ⟨a0, a1, a2, a3, a4, a5⟩) := Lib.hid (by unfold unGeo; rw [← ha0.out, ← ha1.out, ← ha2.out, ← ha3.out, ← ha4.out, ← ha5.out])
    clear hR8 hK8 G7 R7 M7 G8 m8 k8 n8
    go_wp2_with fail
    clear hV8 q0 q1 q2 qf ql x0 x1 x2 x3 x4 x5
    have hN1 : w.heap.size ≤ N1 ∧ N1 < bs := by have := HN1.out; omega
    have hz8 := Lib.hid (And.intro G9.out.u.size (And.intro G9.out.o.lt G9.out.e.lt))
    cases hr' : G.right ⟨a0, a1, a2, a3, a4, a5⟩ with
    | true =>
      refine (map_new_yes ⟨a0, a1, a2, a3, a4, a5⟩ V8 hr').mono ?_
      rintro e w9 ⟨p, bl, bv, rfl, ⟨n1, n2', n3⟩, hm, hb9⟩
      have M9 := Lib.hid hm
      have G10 := G9.out.grow hb9
      have q3 : w9.cell? ⟨bs, 3, none⟩ = some (.pointer none) := by rw [G10.e.cell]; rfl
      have q4 : w9.frozen? ⟨bs, 3, none⟩ = false := G10.e.frozen 3
      have q5 := G10.e.lt
      obtain ⟨V9, hV9⟩ : ∃ V, w9.setCell ⟨bs, 3, none⟩ (.pointer (some ⟨p, 0, none⟩)) = V := ⟨_, rfl⟩
      have k9 : Keeps w9.heap.size [bs] w9 V9 := by rw [← hV9]; exact (Keeps.refl _ _ w9).setCell _ _ (.inl (by simp))
      have e9 : Blk V9 bs 53 #[.int .i64 f.sq, .int .i64 f.ep, .int .i64 (unNx f.bd), .pointer (some ⟨p, 0, none⟩)] := by rw [← hV9]; exact G10.e.set_ 3 _
      have nb : bs ≠ N1 := by omega
      have o9 := k9.blk G10.o.lt (by simp; omega) G10.o
      have u9' : Below w.heap.size w V9 := G10.u.trans (Keeps.below (k9.mono G10.u.size (fun _ hi => hi)) (by simp; omega))
      obtain ⟨⟨y0, y1⟩, y2, y3⟩ := e9.sncells
      obtain ⟨⟨z0, z1⟩, z2, z3⟩ := o9.sncells
      have zf := o9.frozen
      have zl := o9.lt
      have K9 := Lib.hid k9
      have O9 := Lib.hid o9
      have U9 := Lib.hid u9'
      clear G10 k9 e9 o9 u9' hb9
      go_wp2_with fail
      obtain ⟨V10, hV10⟩ : ∃ V, (((V9.setCell ⟨N1, 0, none⟩ (.int .i64 f.sq)).setCell ⟨N1, 1, none⟩ (.int .i64 f.ep)).setCell ⟨N1, 2, none⟩ (.int .i64 (unNx f.bd))).setCell ⟨N1, 3, none⟩ (.pointer (some ⟨p, 0, none⟩)) = V := ⟨_, rfl⟩
      have e10 : Blk V10 N1 53 #[.int .i64 f.sq, .int .i64 f.ep, .int .i64 (unNx f.bd), .pointer (some ⟨p, 0, none⟩)] := by rw [← hV10]; exact (((O9.out.set_ 0 _).set_ 1 _).set_ 2 _).set_ 3 _
      have k10 : Keeps V9.heap.size [N1] V9 V10 := by rw [← hV10]; exact ((((Keeps.refl _ _ V9).setCell _ _ (.inl (by simp))).setCell _ _ (.inl (by simp))).setCell _ _ (.inl (by simp))).setCell _ _ (.inl (by simp))
      rw [hV10]
      have r1 : (loadVar 53 ⟨N1, 0, none⟩).run Try.prog V10 = .ok (.agg #[.int .i64 f.sq, .int .i64 f.ep, .int .i64 (unNx f.bd), .pointer (some ⟨p, 0, none⟩)]) V10 := run_loadVar_row _ _ _ _ _ _ _ e10 Try.underlying53 rfl size_snap
      have fb : Below w.heap.size w V10 := U9.out.trans (Keeps.below (k10.mono U9.out.size (fun _ hi => hi)) (by simp; omega))
      refine bodyPost_ret (v := .tuple #[Sn.v ⟨f.sq, f.ep, unNx f.bd⟩ p, .int .i64 0]) ?_ rfl ⟨fb, ?_⟩
      · simp [results, Try.results85, asAddr, r1]
      · rw [hg.out, if_pos hr']
        have hl9 := M9.out.lt
        have zz := hz8.out
        have m9 := M9.out.keeps K9.out (by simp; omega) (by simp; omega) (by simp; omega)
        exact ⟨p, bl, bv, rfl, m9.keeps k10 (by have := K9.out.size; simp; omega) (by have := K9.out.size; simp; omega) (by have := K9.out.size; simp; omega), by omega, by omega, by omega⟩
    | false =>
      refine (map_new_no ⟨a0, a1, a2, a3, a4, a5⟩ V8 hr').mono ?_
      rintro e w9 ⟨rfl, hb9⟩
      have G10 := G9.out.grow hb9
      have q3 : w9.cell? ⟨bs, 3, none⟩ = some (.pointer none) := by rw [G10.e.cell]; rfl
      have q4 : w9.frozen? ⟨bs, 3, none⟩ = false := G10.e.frozen 3
      have q5 := G10.e.lt
      obtain ⟨V9, hV9⟩ : ∃ V, w9.setCell ⟨bs, 3, none⟩ (.pointer none) = V := ⟨_, rfl⟩
      have k9 : Keeps w9.heap.size [bs] w9 V9 := by rw [← hV9]; exact (Keeps.refl _ _ w9).setCell _ _ (.inl (by simp))
      have e9 : Blk V9 bs 53 #[.int .i64 f.sq, .int .i64 f.ep, .int .i64 (unNx f.bd), .pointer none] := by rw [← hV9]; exact G10.e.set_ 3 _
      have nb : bs ≠ N1 := by omega
      have o9 := k9.blk G10.o.lt (by simp; omega) G10.o
      have u9' : Below w.heap.size w V9 := G10.u.trans (Keeps.below (k9.mono G10.u.size (fun _ hi => hi)) (by simp; omega))
      obtain ⟨⟨y0, y1⟩, y2, y3⟩ := e9.sncells
      obtain ⟨⟨z0, z1⟩, z2, z3⟩ := o9.sncells
      have zf := o9.frozen
      have zl := o9.lt
      have K9 := Lib.hid k9
      have O9 := Lib.hid o9
      have U9 := Lib.hid u9'
      clear G10 k9 e9 o9 u9' hb9
      go_wp2_with fail
      obtain ⟨V10, hV10⟩ : ∃ V, (((V9.setCell ⟨N1, 0, none⟩ (.int .i64 f.sq)).setCell ⟨N1, 1, none⟩ (.int .i64 f.ep)).setCell ⟨N1, 2, none⟩ (.int .i64 (unNx f.bd))).setCell ⟨N1, 3, none⟩ (.pointer none) = V := ⟨_, rfl⟩
      have e10 : Blk V10 N1 53 #[.int .i64 f.sq, .int .i64 f.ep, .int .i64 (unNx f.bd), .pointer none] := by rw [← hV10]; exact (((O9.out.set_ 0 _).set_ 1 _).set_ 2 _).set_ 3 _
      have k10 : Keeps V9.heap.size [N1] V9 V10 := by rw [← hV10]; exact ((((Keeps.refl _ _ V9).setCell _ _ (.inl (by simp))).setCell _ _ (.inl (by simp))).setCell _ _ (.inl (by simp))).setCell _ _ (.inl (by simp))
      rw [hV10]
      have r1 : (loadVar 53 ⟨N1, 0, none⟩).run Try.prog V10 = .ok (.agg #[.int .i64 f.sq, .int .i64 f.ep, .int .i64 (unNx f.bd), .pointer none]) V10 := run_loadVar_row _ _ _ _ _ _ _ e10 Try.underlying53 rfl size_snap
      have fb : Below w.heap.size w V10 := U9.out.trans (Keeps.below (k10.mono U9.out.size (fun _ hi => hi)) (by simp; omega))
      refine bodyPost_ret (v := .tuple #[.agg #[.int .i64 f.sq, .int .i64 f.ep, .int .i64 (unNx f.bd), .pointer none], .int .i64 20]) ?_ rfl ⟨fb, ?_⟩
      · simp [results, Try.results85, asAddr, r1]
      · rw [hg.out, hr', if_neg (by simp)]
end Go.Proofs.Ytcgafnmpfdkfoaa
/- Law 12's 'made': a snapshot of a map with such entries, both ways. -/
namespace Go.Proofs.Ytcgafnmpfdkfoaa
open Go.RowKit Go.Shelf

attribute [local go_sem] Oper.semAt_some

set_option maxRecDepth 100000 in
theorem made12_no (w : World) (g : G) (A : Option Addr) (n c : Nat) (gen ep nx : Int) (hr : g.right = false) :
    Calls Try.prog 38 #[g.v, .slice A n c, .int .i64 gen, .int .i64 ep, .int .i64 nx] w fun r w' => r = .returned (.tuple #[sn0, ref0, .bool false]) ∧ Below w.heap.size w w' := by
  obtain ⟨V0, hV0⟩ : ∃ V0, ((w.alloc g.box).alloc (.cells #[.int .i64 0, .int .i64 0, .int .i64 0, .pointer none] 53)).alloc (.cells #[.int .i64 0, .int .i64 0, .int .i64 0, .int .i64 0, .int .i64 0, .int .i64 0, .int .i64 0, .int .i64 0, .int .i64 0, .slice none 0 0] 55) = V0 := ⟨_, rfl⟩
  have U0 : Below w.heap.size w V0 := by rw [← hV0]; exact ((below_box w _).alloc (by simp) _).alloc (by simp <;> omega) _
  have k0 : Blk V0 w.heap.size 23 g.arr := by rw [← hV0]; exact ((Blk.newAt rfl).alloc _).alloc _
  have k1 : Blk V0 (w.heap.size + 1) 53 #[.int .i64 0, .int .i64 0, .int .i64 0, .pointer none] := by rw [← hV0]; exact (Blk.newAt (by simp)).alloc _
  have k2 : Blk V0 (w.heap.size + 2) 55 #[.int .i64 0, .int .i64 0, .int .i64 0, .int .i64 0, .int .i64 0, .int .i64 0, .int .i64 0, .int .i64 0, .int .i64 0, .slice none 0 0] := by rw [← hV0]; exact Blk.newAt (by simp)
  obtain ⟨⟨x0, x1⟩, ⟨x2, x3⟩, x4, x5⟩ := k0.gcells
  have HU := Lib.hid U0
  have K1 := Lib.hid k1
  have K2 := Lib.hid k2
  clear U0 k0 k1 k2
  go_enter Try.func38, Try.ntmps38
  go_wp2_with fail
  clear hV0
  refine (map_new_no g V0 hr).mono ?_
  rintro r w1 ⟨rfl, hb⟩
  have M1 := Lib.hid ((Keeps.of_below (S := []) hb).blk K1.out.lt (by simp) K1.out)
  have M2 := Lib.hid ((Keeps.of_below (S := []) hb).blk K2.out.lt (by simp) K2.out)
  have HB : Hid (Below w.heap.size w w1) := Lib.hid (HU.out.trans (hb.mono HU.out.size))
  clear hb x0 x1 x2 x3 x4 x5
  go_wp2_with (first
    | (refine wpList_store_blk rfl 53 (.tmp 10) (.tmp 36) rfl (w.heap.size + 1) 0 #[.int .i64 0, .int .i64 0, .int .i64 0, .pointer none] rfl rfl M1.out (Nat.le_refl 4) size_snap (by simp [Value.oneCell']) ?_; intro w2 hG2 hK2 hs2
       have M3 := Lib.hid (hK2.out.blk M2.out.lt (by simp) M2.out))
    | (refine wpList_store_blk rfl 55 (.tmp 11) (.tmp 37) rfl (w.heap.size + 2) 0 #[.int .i64 0, .int .i64 0, .int .i64 0, .int .i64 0, .int .i64 0, .int .i64 0, .int .i64 0, .int .i64 0, .int .i64 0, .slice none 0 0] rfl rfl M3.out (Nat.le_refl 10) size_ref12 (by simp [Value.oneCell']) ?_; intro w3 hG3 hK3 hs3))
  have e2 : Blk w3 (w.heap.size + 2) 55 #[.int .i64 0, .int .i64 0, .int .i64 0, .int .i64 0, .int .i64 0, .int .i64 0, .int .i64 0, .int .i64 0, .int .i64 0, .slice none 0 0] := by have := hG3.out; rwa [over_all rfl] at this
  have e1 : Blk w3 (w.heap.size + 1) 53 #[.int .i64 0, .int .i64 0, .int .i64 0, .pointer none] := by have := hG2.out; rw [over_all rfl] at this; exact hK3.out.blk this.lt (by simp) this
  have r1 : (loadVar 53 ⟨w.heap.size + 1, 0, none⟩).run Try.prog w3 = .ok sn0 w3 := run_loadVar_row _ _ _ _ _ _ _ e1 Try.underlying53 rfl size_snap
  have r2 : (loadVar 55 ⟨w.heap.size + 2, 0, none⟩).run Try.prog w3 = .ok ref0 w3 := run_loadVar_row _ _ _ _ _ _ _ e2 Try.underlying55 rfl size_ref12
  refine bodyPost_ret (v := .tuple #[sn0, ref0, .bool false]) ?_ rfl ⟨rfl, ?_⟩
  · simp [results, Try.results38, asAddr, r1, r2]
  · have kk : Keeps w.heap.size [w.heap.size + 1, w.heap.size + 2] w1 w3 := (hK2.out.mono HB.out.size (by simp)).trans (hK3.out.mono (by have := HB.out.size; have := hK2.out.size; omega) (by simp))
    exact HB.out.trans (Keeps.below kk (by simp))
set_option maxRecDepth 100000 in
theorem made12_long (w : World) (g : G) (A : Option Addr) (n c : Nat) (gen ep nx : Int) (hr : g.right = true) (hn : 60 < n) :
    Calls Try.prog 38 #[g.v, .slice A n c, .int .i64 gen, .int .i64 ep, .int .i64 nx] w fun r w' => r = .returned (.tuple #[sn0, ref0, .bool false]) ∧ Below w.heap.size w w' := by
  obtain ⟨V0, hV0⟩ : ∃ V0, ((w.alloc g.box).alloc (.cells #[.int .i64 0, .int .i64 0, .int .i64 0, .pointer none] 53)).alloc (.cells #[.int .i64 0, .int .i64 0, .int .i64 0, .int .i64 0, .int .i64 0, .int .i64 0, .int .i64 0, .int .i64 0, .int .i64 0, .slice none 0 0] 55) = V0 := ⟨_, rfl⟩
  have U0 : Below w.heap.size w V0 := by rw [← hV0]; exact ((below_box w _).alloc (by simp) _).alloc (by simp <;> omega) _
  have k0 : Blk V0 w.heap.size 23 g.arr := by rw [← hV0]; exact ((Blk.newAt rfl).alloc _).alloc _
  have k1 : Blk V0 (w.heap.size + 1) 53 #[.int .i64 0, .int .i64 0, .int .i64 0, .pointer none] := by rw [← hV0]; exact (Blk.newAt (by simp)).alloc _
  have k2 : Blk V0 (w.heap.size + 2) 55 #[.int .i64 0, .int .i64 0, .int .i64 0, .int .i64 0, .int .i64 0, .int .i64 0, .int .i64 0, .int .i64 0, .int .i64 0, .slice none 0 0] := by rw [← hV0]; exact Blk.newAt (by simp)
  obtain ⟨⟨x0, x1⟩, ⟨x2, x3⟩, x4, x5⟩ := k0.gcells
  have HU := Lib.hid U0
  have K1 := Lib.hid k1
  have K2 := Lib.hid k2
  clear U0 k0 k1 k2
  go_enter Try.func38, Try.ntmps38
  go_wp2_with fail
  clear hV0
  refine (map_new_yes g V0 hr).mono ?_
  rintro r w1 ⟨p, bl, bv, rfl, ⟨n1, n2, n3⟩, hM, hb⟩
  clear hM
  have M1 := Lib.hid ((Keeps.of_below (S := []) hb).blk K1.out.lt (by simp) K1.out)
  have M2 := Lib.hid ((Keeps.of_below (S := []) hb).blk K2.out.lt (by simp) K2.out)
  have HB : Hid (Below w.heap.size w w1) := Lib.hid (HU.out.trans (hb.mono HU.out.size))
  clear hb x0 x1 x2 x3 x4 x5
  go_wp2_with (first
    | (refine wpList_store_blk rfl 53 (.tmp 10) (.tmp 36) rfl (w.heap.size + 1) 0 #[.int .i64 0, .int .i64 0, .int .i64 0, .pointer none] rfl rfl M1.out (Nat.le_refl 4) size_snap (by simp [Value.oneCell']) ?_; intro w2 hG2 hK2 hs2
       have M3 := Lib.hid (hK2.out.blk M2.out.lt (by simp) M2.out))
    | (refine wpList_store_blk rfl 55 (.tmp 11) (.tmp 37) rfl (w.heap.size + 2) 0 #[.int .i64 0, .int .i64 0, .int .i64 0, .int .i64 0, .int .i64 0, .int .i64 0, .int .i64 0, .int .i64 0, .int .i64 0, .slice none 0 0] rfl rfl M3.out (Nat.le_refl 10) size_ref12 (by simp [Value.oneCell']) ?_; intro w3 hG3 hK3 hs3))
  have e2 : Blk w3 (w.heap.size + 2) 55 #[.int .i64 0, .int .i64 0, .int .i64 0, .int .i64 0, .int .i64 0, .int .i64 0, .int .i64 0, .int .i64 0, .int .i64 0, .slice none 0 0] := by have := hG3.out; rwa [over_all rfl] at this
  have e1 : Blk w3 (w.heap.size + 1) 53 #[.int .i64 0, .int .i64 0, .int .i64 0, .pointer none] := by have := hG2.out; rw [over_all rfl] at this; exact hK3.out.blk this.lt (by simp) this
  have r1 : (loadVar 53 ⟨w.heap.size + 1, 0, none⟩).run Try.prog w3 = .ok sn0 w3 := run_loadVar_row _ _ _ _ _ _ _ e1 Try.underlying53 rfl size_snap
  have r2 : (loadVar 55 ⟨w.heap.size + 2, 0, none⟩).run Try.prog w3 = .ok ref0 w3 := run_loadVar_row _ _ _ _ _ _ _ e2 Try.underlying55 rfl size_ref12
  refine bodyPost_ret (v := .tuple #[sn0, ref0, .bool false]) ?_ rfl ⟨rfl, ?_⟩
  · simp [results, Try.results38, asAddr, r1, r2]
  · have kk : Keeps w.heap.size [w.heap.size + 1, w.heap.size + 2] w1 w3 := (hK2.out.mono HB.out.size (by simp)).trans (hK3.out.mono (by have := HB.out.size; have := hK2.out.size; omega) (by simp))
    exact HB.out.trans (Keeps.below kk (by simp))

set_option maxRecDepth 100000 in
set_option maxHeartbeats 2000000 in
theorem made12_yes (w : World) (g : G) (A : Option Addr) (n c : Nat) (ops : List Op11) (h : OpsAt w A n c ops) (s : Sn) (hr : g.right = true) (hn60 : n ≤ 60) :
    Calls Try.prog 38 #[g.v, .slice A n c, .int .i64 s.gen, .int .i64 s.ep, .int .i64 s.nx] w (MadePost w g ops s (.bool true)) := by
  obtain ⟨hn, hc, hm, hcell⟩ := h
  have hm2 : n ≤ 9223372036854775807 := by omega
  have HN := Lib.hid hn
  have HC := Lib.hid hcell
  clear hn hcell hc hm
  obtain ⟨N1, hN1⟩ : ∃ N1, w.heap.size + 1 = N1 := ⟨_, rfl⟩
  obtain ⟨N2, hN2⟩ : ∃ N2, N1 + 1 = N2 := ⟨_, rfl⟩
  obtain ⟨V0, hV0⟩ : ∃ V0, ((w.alloc g.box).alloc (.cells #[.int .i64 0, .int .i64 0, .int .i64 0, .pointer none] 53)).alloc (.cells #[.int .i64 0, .int .i64 0, .int .i64 0, .int .i64 0, .int .i64 0, .int .i64 0, .int .i64 0, .int .i64 0, .int .i64 0, .slice none 0 0] 55) = V0 := ⟨_, rfl⟩
  have U0 : Below w.heap.size w V0 := by rw [← hV0]; exact ((below_box w _).alloc (by simp) _).alloc (by simp <;> omega) _
  have hs0 : V0.heap.size = w.heap.size + 3 := by rw [← hV0]; simp
  have k0 : Blk V0 w.heap.size 23 g.arr := by rw [← hV0]; exact ((Blk.newAt rfl).alloc _).alloc _
  have k1 : Blk V0 N1 53 #[.int .i64 0, .int .i64 0, .int .i64 0, .pointer none] := by rw [← hV0]; exact (Blk.newAt (by simp; omega)).alloc _
  have k2 : Blk V0 N2 55 #[.int .i64 0, .int .i64 0, .int .i64 0, .int .i64 0, .int .i64 0, .int .i64 0, .int .i64 0, .int .i64 0, .int .i64 0, .slice none 0 0] := by rw [← hV0]; exact Blk.newAt (by simp; omega)
  obtain ⟨⟨x0, x1⟩, ⟨x2, x3⟩, x4, x5⟩ := k0.gcells
  have HU := Lib.hid U0
  have HS0 := Lib.hid hs0
  have K0 := Lib.hid k0
  have K1 := Lib.hid k1
  have K2 := Lib.hid k2
  have HN12 := Lib.hid (And.intro hN1 hN2)
  clear U0 hs0 k0 k1 k2
  refine (callsIn_wide (n := 0)).1 ?_
  refine callsIn_of_wp_marks Try.func38 rfl trivial ?_ rfl
  simp only [Try.ntmps38, List.size_toArray, List.length_cons, List.length_nil, Nat.reduceAdd, Nat.reduceSub, Array.replicate_succ, Array.replicate_zero, List.push_toArray, List.append_toArray, List.nil_append, List.cons_append]
  gi_wp2
  refine ⟨trivial, rfl, ?_⟩
  refine CallsIn.mono (callsIn_wide.2 (map_new_yes g V0 hr)) ?_
  rintro r w1 ⟨p, bl, bv, rfl, ⟨n1, n2, n3⟩, hM, hb⟩
  have HM := Lib.hid hM
  have HB := Lib.hid hb
  have HNN : Hid (w.heap.size + 3 ≤ p ∧ w.heap.size + 3 ≤ bl ∧ w.heap.size + 3 ≤ bv) := by have := HS0.out; exact Lib.hid ⟨by omega, by omega, by omega⟩
  clear hN1 hN2 hM hb hV0 x0 x1 x2 x3 x4 x5 n1 n2 n3
  gi_wp2
  gi_loopw [40] (fun i wr => ∃ (k : Nat) (lv : List Int), k ≤ n ∧ i = .int .i64 k ∧ MapAt wr p bl bv g (playL g (ops.take k)) lv ∧ MapOk g (playL g (ops.take k)) lv ∧ Below (w.heap.size + 3) V0 wr) (fun i _ => n - (intOf i).toNat)
  case atStart => exact ⟨0, noLive g, Nat.zero_le _, rfl, HM.out, MapOk.new hr, by have := HB.out; rwa [HS0.out] at this⟩
  case round =>
    obtain ⟨k, lv, hk, rfl, hM, hO, hB⟩ := hrel
    have HMr := Lib.hid hM
    have HOr := Lib.hid hO
    have HBr := Lib.hid hB
    clear hM hO hB
    by_cases hlt : k < n
    · obtain ⟨o, ho⟩ : ∃ o, ops[k]? = some o := ⟨_, List.getElem?_eq_getElem (by rw [HN.out]; exact hlt)⟩
      obtain ⟨b, off, hA, hbl, hcs⟩ := HC.out (by omega)
      obtain ⟨c0, c1, c2, c3, c4, c5, c6⟩ := hcs k o ho
      subst hA
      have hBw : Below w.heap.size w wr := HU.out.trans (HBr.out.mono (by omega))
      have hcw : ∀ j, wr.cell? ⟨b, j, none⟩ = w.cell? ⟨b, j, none⟩ := fun j => hBw.cell (p := ⟨b, j, none⟩) hbl
      rw [← hcw] at c0 c1 c2 c3 c4 c5 c6
      have hps := playL_snoc g ops k o ho
      have HPS := Lib.hid hps
      have nbl := hBw.size
      obtain ⟨W2, hW2⟩ : ∃ W2, wr.alloc (.cells #[.int .i64 o.b, .int .i64 o.e.st, .int .i64 o.e.zn, .int .i64 o.e.mt, .int .i64 o.e.off, .int .i64 o.e.sq, .int .i64 o.e.sm] 66) = W2 := ⟨_, rfl⟩
      have q2 : Blk W2 wr.heap.size 66 #[.int .i64 o.b, .int .i64 o.e.st, .int .i64 o.e.zn, .int .i64 o.e.mt, .int .i64 o.e.off, .int .i64 o.e.sq, .int .i64 o.e.sm] := by rw [← hW2]; exact Blk.newAt rfl
      have b2 : Below wr.heap.size wr W2 := by rw [← hW2]; exact below_box _ _
      have d0 : W2.cell? ⟨wr.heap.size, 0, none⟩ = some (.int .i64 o.b) := by rw [q2.cell]; rfl
      have d1 : W2.cell? ⟨wr.heap.size, 1, none⟩ = some (.int .i64 o.e.st) := by rw [q2.cell]; rfl
      have d2 : W2.cell? ⟨wr.heap.size, 2, none⟩ = some (.int .i64 o.e.zn) := by rw [q2.cell]; rfl
      have d3 : W2.cell? ⟨wr.heap.size, 3, none⟩ = some (.int .i64 o.e.mt) := by rw [q2.cell]; rfl
      have d4 : W2.cell? ⟨wr.heap.size, 4, none⟩ = some (.int .i64 o.e.off) := by rw [q2.cell]; rfl
      have d5 : W2.cell? ⟨wr.heap.size, 5, none⟩ = some (.int .i64 o.e.sq) := by rw [q2.cell]; rfl
      have d6 : W2.cell? ⟨wr.heap.size, 6, none⟩ = some (.int .i64 o.e.sm) := by rw [q2.cell]; rfl
      have HB2 := Lib.hid b2
      clear hcs ho hcw hps hBw q2 b2
      gi_wp2
      refine ⟨trivial, rfl, ?_⟩
      clear hW2
      refine CallsIn.mono (callsIn_wide.2 (map_set W2 p bl bv g _ lv (HMr.out.grow HB2.out) HOr.out o.b o.e)) ?_
      rintro r w3 ⟨rfl, hM3, hK3⟩
      have HM3 := Lib.hid hM3
      have HK3 := Lib.hid hK3
      clear hM3 hK3 c0 c1 c2 c3 c4 c5 c6 d0 d1 d2 d3 d4 d5 d6
      gi_wp2
      go_roundw
      case rel =>
        refine ⟨k + 1, _, by omega, by simp, by rw [HPS.out]; exact HM3.out, by rw [HPS.out]; exact HOr.out.setv o.b o.e, ?_⟩
        have s2 := HB2.out.size
        exact HBr.out.trans (((HB2.out.mono (by have := HBr.out.size; have := HS0.out; omega))).trans (Keeps.below (HK3.out.mono (by have := HBr.out.size; have := HS0.out; omega) (fun i hi => hi)) (by have := HNN.out; simp; omega)))
      case measure => simp [intOf]; omega
    · obtain rfl : k = n := by omega
      have hfull : ops.take k = ops := by rw [← HN.out]; exact List.take_of_length_le (Nat.le_refl _)
      have hM := HMr.out
      have hO := HOr.out
      rw [hfull] at hM hO
      obtain ⟨l, hl⟩ : ∃ l, playL g ops = l := ⟨_, rfl⟩
      rw [hl] at hM hO
      have sr : w.heap.size + 3 ≤ wr.heap.size := by have := HBr.out.size; have := HS0.out; omega
      have r0 := (Keeps.of_below (S := []) HBr.out).blk (by have := HS0.out; omega) (by simp) K0.out
      have r1 := Lib.hid ((Keeps.of_below (S := []) HBr.out).blk (by have := HS0.out; have := HN12.out; omega) (by simp) K1.out)
      have r2 := Lib.hid ((Keeps.of_below (S := []) HBr.out).blk (by have := HS0.out; have := HN12.out; omega) (by simp) K2.out)
      obtain ⟨⟨x0, x1⟩, ⟨x2, x3⟩, x4, x5⟩ := r0.gcells
      obtain ⟨X1, hX1⟩ : ∃ X1, wr.alloc (.cells (refArr s g (.slice none 0 0)) 55) = X1 := ⟨_, rfl⟩
      have bX : Below wr.heap.size wr X1 := by rw [← hX1]; exact below_box _ _
      have mX : Blk X1 wr.heap.size 55 (refArr s g (.slice none 0 0)) := by rw [← hX1]; exact Blk.newAt rfl
      have hcall := Lib.hid (map_all_made X1 p bl bv g l lv (hM.grow bX))
      have HL := Lib.hid hl
      have HM := Lib.hid hM
      have HO := Lib.hid hO
      have HBX := Lib.hid bX
      have HMX := Lib.hid mX
      have HX1 := Lib.hid hX1
      clear hfull hM hO hl r0 bX mX HMr HOr hX1
      gi_wp2
      refine ⟨trivial, rfl, ?_⟩
      rw [HX1.out]
      refine CallsIn.mono (callsIn_wide.2 hcall.out) ?_
      rintro r w2 ⟨rfl, hb2, hs2, hc2⟩
      have hz : l.length ≤ 1000 := HO.out.len1000
      have hML := HM.out.lt
      have sX := HMX.out.lt
      have hblM : bl ≠ wr.heap.size := by omega
      have hit := MapAt.iterW (HM.out.grow HBX.out) hz hb2 hs2 hc2 [wr.heap.size] (by simp; omega)
      have HIT := Lib.hid hit
      have m2 := (Keeps.of_below (S := []) hb2).blk sX (by simp) HMX.out
      have HB2 : Hid (Below wr.heap.size wr w2) := Lib.hid (HBX.out.trans (hb2.mono HBX.out.size))
      have HM2 := Lib.hid m2
      have sM : wr.heap.size < w2.heap.size := by omega
      clear hit hb2 hs2 hc2 hcall m2 x0 x1 x2 x3 x4 x5 HMX HBX
      gi_wp2
      refine range_go (gf := 139) (lb := #[.pointer (some ⟨X1.heap.size, 0, none⟩)]) (encs := fun x : Nat × E => #[.int .i64 x.1, x.2.v]) (xs := enum l) (S := [wr.heap.size]) rfl (enters_of Try.func139 (by kernel_rfl) rfl) HIT.out ?hS (fun _ => rfl)
        (MadeI w2 wr.heap.size s g) (fun _ _ _ => False) ?hI ?hIx ?h0 ?hround ?hdone ?hstop
      case hS => simp; omega
      case hI => exact fun q X Y h hx k => MadeI.keeps h sM hx k
      case hIx => exact fun _ _ _ _ h _ _ => h
      case h0 => exact ⟨_, HM2.out, World.ownsRow_nil _ _ _ _, Keeps.refl _ _ _, by omega⟩
      case hstop => exact fun _ _ _ _ _ _ _ _ h _ => h.elim
      case hround =>
        rintro m l' pre ⟨kk, e⟩ rest V rfl hx ⟨v, a1, a2, a3, a4⟩ hlt1
        obtain ⟨i0, hi, hz0, hz1, hz2⟩ := info_parts info_refE
        have hpl : pre.length ≤ 1000 := by
          have := congrArg List.length hx
          rw [enum_length, List.length_append] at this
          omega
        gi_wp2
        refine ⟨below_box _ _, fun V2 kv hsv => ?_⟩
        rw [World.size_alloc] at kv hsv
        have kvv : Keeps V.heap.size [w2.heap.size, w2.heap.size + 1] V V2 := (Keeps.of_below (below_box V e.box)).trans (kv.mono (by omega) (by simp))
        have b1 := kvv.blk a1.lt (by simp; omega) a1
        have e2 : Blk V2 V.heap.size 31 e.arr := kv.blk (by omega) (by simp; omega) (Blk.newAt rfl)
        have o2 := own_keeps_v kvv (fun g' hg' => by have := World.ownsRow.lt a2 g' hg'; exact ⟨this.2, by simp; omega⟩) a2
        obtain ⟨⟨y0, y1⟩, ⟨y2, y3⟩, y4, y5⟩ := EntBlk.cells e2
        have c9 : V2.cell? ⟨wr.heap.size, 9, none⟩ = some v := by rw [b1.cell]; rfl
        have hBV := Lib.hid b1
        have HE2 := Lib.hid e2
        have HO2 := Lib.hid o2
        have HK2 := Lib.hid (kvv.size)
        have HA3 := Lib.hid a3
        have sV : wr.heap.size < V2.heap.size := by omega
        have sV2 : w2.heap.size + 2 ≤ V2.heap.size := by omega
        have HKV : Hid (Keeps w2.heap.size [wr.heap.size] V V2) := Lib.hid (((Keeps.of_below (below_box V e.box)).mono (by omega) (fun i hi => hi)).trans ((kv.mono (B' := w2.heap.size) (S' := [w2.heap.size + 1]) (by omega) (by simp)).drop (by simp)))
        clear a1 a2 a3 hx kv kvv b1 e2 o2 hsv
        obtain ⟨V3, hV3⟩ : ∃ V3, V2.alloc (.cells #[.int .i64 e.st, .int .i64 e.zn, .int .i64 e.mt, .int .i64 e.off, .int .i64 e.sq, .int .i64 e.sm] 46) = V3 := ⟨_, rfl⟩
        have R3 : Hid (V3.ownsRow (w2.heap.size + 2) 46 6 v pre.length (flat (pre.map (·.2)))) := by rw [← hV3]; exact Lib.hid (World.ownsRow.alloc HO2.out _)
        have X3 : Hid (∀ j u, e.cells[j]? = some u → V3.cell? ((⟨V2.heap.size, 0, none⟩ : Addr).add j) = some u) := by
          rw [← hV3]
          exact Lib.hid fun j u hu => by rw [Addr.add_nat_zero, cell_of_row _ _ j e.arr _ (0, 0) (World.alloc_heap_new V2 _)]; simpa using hu
        have S3 : Hid (V3.heap.size = V2.heap.size + 1) := by rw [← hV3]; exact Lib.hid (by simp)
        have B3 : Hid (Below V2.heap.size V2 V3) := by rw [← hV3]; exact Lib.hid (below_box _ _)
        have N3 := Lib.hid ((Keeps.of_below (S := []) B3.out).blk sV (by simp) hBV.out)
        gi_wp2_with (gi_at_builtin; refine Hid.out ?_)
        refine Lib.hid ?_
        clear hV3
        refine wpListIn_append_own _ rfl _ _ 44 rfl (w2.heap.size + 2) 46 i0 E0.v 6 48 Try.underlying44 hi hz0 hz1 hz2 rfl (by omega) v pre.length (flat (pre.map fun x : Nat × E => x.2)) rfl R3.out ⟨V2.heap.size, 0, none⟩ 1 1 e.cells rfl rfl X3.out (by simp [Value.oneCell']) (by unfold maxLen; omega) (by omega) (by have := S3.out; omega) ?_
        intro v' W5 hown' hgrow hnil
        have hne : v.ownBlock ≠ some wr.heap.size := fun h => by have := (World.ownsRow.lt R3.out _ h).1; omega
        have m5 : Blk W5 wr.heap.size 55 (refArr s g v) := (World.grownBy.block hgrow _ (by have := S3.out; omega) (fun e => hne e.symm)).trans N3.out
        have k5 : Keeps w2.heap.size [wr.heap.size] V W5 := by
          refine (HKV.out.trans (Keeps.of_below (B3.out.mono (by omega)))).trans ⟨hgrow.os, hgrow.tape, hgrow.output, hgrow.size, fun i hi _ => hgrow.block i (by have := S3.out; omega) (fun e => by have := (World.ownsRow.lt R3.out i e.symm).1; omega)⟩
        obtain ⟨g5, c5, rfl⟩ := own_succ hown'
        have z9 : W5.cell? ⟨wr.heap.size, 9, none⟩ = some v := by rw [m5.cell]; rfl
        have f9 := m5.frozen 9
        have l9 := m5.lt
        have k6 : Keeps w2.heap.size [wr.heap.size] V (W5.setCell ⟨wr.heap.size, 9, none⟩ (.slice (some ⟨g5, 0, none⟩) (pre.length + 1) c5)) := k5.setCell _ _ (.inl (by simp))
        have m6 : Blk (W5.setCell ⟨wr.heap.size, 9, none⟩ (.slice (some ⟨g5, 0, none⟩) (pre.length + 1) c5)) wr.heap.size 55 (refArr s g (.slice (some ⟨g5, 0, none⟩) (pre.length + 1) c5)) := by simpa using m5.set_ 9 _
        have o6 : (W5.setCell ⟨wr.heap.size, 9, none⟩ (.slice (some ⟨g5, 0, none⟩) (pre.length + 1) c5)).ownsRow (w2.heap.size + 2) 46 6 (.slice (some ⟨g5, 0, none⟩) (pre.length + 1) c5) (pre.length + 1) (flat (pre.map (·.2)) ++ e.cells) :=
          own_keeps_v (B := W5.heap.size) (S := [wr.heap.size]) ((Keeps.refl _ _ _).setCell _ _ (.inl (by simp))) (fun g' hg' => by have := World.ownsRow.lt hown' g' hg'; exact ⟨this.2, by simp; omega⟩) hown'
        have z6 := k6.size
        have M6 := Lib.hid m6
        have K6 := Lib.hid k6
        have O6 := Lib.hid o6
        have K5 : Hid (Keeps (w2.heap.size + 2) [wr.heap.size] V2 (W5.setCell ⟨wr.heap.size, 9, none⟩ (.slice (some ⟨g5, 0, none⟩) (pre.length + 1) c5))) := by
          refine Lib.hid (Keeps.setCell ?_ _ _ (.inl (by simp)))
          exact (Keeps.of_below (B3.out.mono (by omega))).trans ⟨hgrow.os, hgrow.tape, hgrow.output, hgrow.size, fun i hi _ => hgrow.block i (by have := S3.out; omega) (fun e => by have := (World.ownsRow.lt R3.out i e.symm).1; omega)⟩
        clear hown' hgrow hnil m5 k5 k6 m6 o6
        gi_wp2
        refine ⟨⟨_, M6.out, ?_, HA3.out.trans K6.out, by omega⟩, K5.out⟩
        have e1 : flat ((pre ++ [(kk, e)]).map (·.2)) = flat (pre.map (·.2)) ++ e.cells := by rw [List.map_append, flat_append]; simp [flat]
        rw [e1, List.length_append]
        exact O6.out
      case hdone =>
        rintro D V hD ⟨v, a1, a2, a3, a4⟩ hK
        rw [enum_length, enum_map] at a2
        have hB1 := (G.small_of_right hr).B0
        obtain ⟨g6, c6, rfl⟩ := own_pos a2 (by have := HO.out.len; omega)
        have bV : Below wr.heap.size wr V := HB2.out.trans (Keeps.below (a3.mono (by omega) (fun i hi => hi)) (by simp))
        have s1 := (Keeps.of_below (S := []) bV).blk r1.out.lt (by simp) r1.out
        have s2 := (Keeps.of_below (S := []) bV).blk r2.out.lt (by simp) r2.out
        have mV := HM.out.grow bV
        have hrest : Hid (Below w.heap.size w V ∧ w.heap.size + 3 ≤ wr.heap.size ∧ wr.heap.size < V.heap.size ∧ w2.heap.size + 2 ≤ g6 ∧ g6 < V.heap.size) := by
          have h1 := World.ownsRow.lt a2 g6 rfl
          exact Lib.hid ⟨HU.out.trans ((HBr.out.mono (by omega)).trans (bV.mono (by omega))), sr, by have := a1.lt; omega, h1.1, h1.2⟩
        have hfrom := @From.cell V
        have nM := a1.lt
        have m0 : V.cell? ⟨wr.heap.size, 0, none⟩ = some (.int .i64 s.gen) := by rw [a1.cell]; rfl
        have m1 : V.cell? ⟨wr.heap.size, 1, none⟩ = some (.int .i64 s.ep) := by rw [a1.cell]; rfl
        have m2 : V.cell? ⟨wr.heap.size, 2, none⟩ = some (.int .i64 s.nx) := by rw [a1.cell]; rfl
        have m3 : V.cell? ⟨wr.heap.size, 3, none⟩ = some (.int .i64 g.D) := by rw [a1.cell]; rfl
        have m4 : V.cell? ⟨wr.heap.size, 4, none⟩ = some (.int .i64 g.Z) := by rw [a1.cell]; rfl
        have m5 : V.cell? ⟨wr.heap.size, 5, none⟩ = some (.int .i64 g.S) := by rw [a1.cell]; rfl
        have m6 : V.cell? ⟨wr.heap.size, 6, none⟩ = some (.int .i64 g.B) := by rw [a1.cell]; rfl
        have m7 : V.cell? ⟨wr.heap.size, 7, none⟩ = some (.int .i64 g.P) := by rw [a1.cell]; rfl
        have m8 : V.cell? ⟨wr.heap.size, 8, none⟩ = some (.int .i64 g.O) := by rw [a1.cell]; rfl
        have m9 : V.cell? ⟨wr.heap.size, 9, none⟩ = some (.slice (some ⟨g6, 0, none⟩) l.length c6) := by rw [a1.cell]; rfl
        have HA2 := Lib.hid a2
        have HS1 := Lib.hid s1
        have HS2 := Lib.hid s2
        have HMV := Lib.hid mV
        have HKV := Lib.hid hK
        clear a1 a2 a3 a4 bV s1 s2 mV hK hB1
        gi_wp2_with fail
        refine wpIn_wide.2 ?_
        have ne1 : ¬ N1 = wr.heap.size := by have := HN12.out; omega
        have ne2 : ¬ N2 = wr.heap.size := by have := HN12.out; omega
        have ne1' : ¬ wr.heap.size = N1 := by have := HN12.out; omega
        have ne2' : ¬ wr.heap.size = N2 := by have := HN12.out; omega
        have ne3 : ¬ N1 = N2 := by have := HN12.out; omega
        have ne3' : ¬ N2 = N1 := by have := HN12.out; omega
        have fz1 := fun j => HS1.out.frozen j
        have fz2 := fun j => HS2.out.frozen j
        have a0 : V.cell? ⟨N1, 0, none⟩ = some (.int .i64 0) := by rw [HS1.out.cell]; rfl
        have a1 : V.cell? ⟨N1, 1, none⟩ = some (.int .i64 0) := by rw [HS1.out.cell]; rfl
        have a2 : V.cell? ⟨N1, 2, none⟩ = some (.int .i64 0) := by rw [HS1.out.cell]; rfl
        have a3 : V.cell? ⟨N1, 3, none⟩ = some (.pointer none) := by rw [HS1.out.cell]; rfl
        have b0 : V.cell? ⟨N2, 0, none⟩ = some (.int .i64 0) := by rw [HS2.out.cell]; rfl
        have b1 : V.cell? ⟨N2, 1, none⟩ = some (.int .i64 0) := by rw [HS2.out.cell]; rfl
        have b2 : V.cell? ⟨N2, 2, none⟩ = some (.int .i64 0) := by rw [HS2.out.cell]; rfl
        have b3 : V.cell? ⟨N2, 3, none⟩ = some (.int .i64 0) := by rw [HS2.out.cell]; rfl
        have b4 : V.cell? ⟨N2, 4, none⟩ = some (.int .i64 0) := by rw [HS2.out.cell]; rfl
        have b5 : V.cell? ⟨N2, 5, none⟩ = some (.int .i64 0) := by rw [HS2.out.cell]; rfl
        have b6 : V.cell? ⟨N2, 6, none⟩ = some (.int .i64 0) := by rw [HS2.out.cell]; rfl
        have b7 : V.cell? ⟨N2, 7, none⟩ = some (.int .i64 0) := by rw [HS2.out.cell]; rfl
        have b8 : V.cell? ⟨N2, 8, none⟩ = some (.int .i64 0) := by rw [HS2.out.cell]; rfl
        have b9 : V.cell? ⟨N2, 9, none⟩ = some (.slice none 0 0) := by rw [HS2.out.cell]; rfl
        go_region_held3 (fun w' => w'.cell? ⟨wr.heap.size, 0, none⟩ = some (.int .i64 s.gen) ∧ w'.cell? ⟨wr.heap.size, 1, none⟩ = some (.int .i64 s.ep) ∧ w'.cell? ⟨wr.heap.size, 2, none⟩ = some (.int .i64 s.nx) ∧ w'.cell? ⟨wr.heap.size, 3, none⟩ = some (.int .i64 g.D) ∧ w'.cell? ⟨wr.heap.size, 4, none⟩ = some (.int .i64 g.Z) ∧ w'.cell? ⟨wr.heap.size, 5, none⟩ = some (.int .i64 g.S) ∧ w'.cell? ⟨wr.heap.size, 6, none⟩ = some (.int .i64 g.B) ∧ w'.cell? ⟨wr.heap.size, 7, none⟩ = some (.int .i64 g.P) ∧ w'.cell? ⟨wr.heap.size, 8, none⟩ = some (.int .i64 g.O) ∧ w'.cell? ⟨wr.heap.size, 9, none⟩ = some (.slice (some ⟨g6, 0, none⟩) l.length c6)) (go_keep) (fail)
        obtain ⟨w5, h5⟩ : ∃ w5, ((((V).setCell ⟨N1, 0, none⟩ (.int .i64 s.gen)).setCell ⟨N1, 1, none⟩ (.int .i64 s.ep)).setCell ⟨N1, 2, none⟩ (.int .i64 s.nx)).setCell ⟨N1, 3, none⟩ (.pointer (some ⟨p, 0, none⟩)) = w5 := ⟨_, rfl⟩
        obtain ⟨w6, h6⟩ : ∃ w6, ((((((((((w5).setCell ⟨N2, 0, none⟩ (.int .i64 s.gen)).setCell ⟨N2, 1, none⟩ (.int .i64 s.ep)).setCell ⟨N2, 2, none⟩ (.int .i64 s.nx)).setCell ⟨N2, 3, none⟩ (.int .i64 g.D)).setCell ⟨N2, 4, none⟩ (.int .i64 g.Z)).setCell ⟨N2, 5, none⟩ (.int .i64 g.S)).setCell ⟨N2, 6, none⟩ (.int .i64 g.B)).setCell ⟨N2, 7, none⟩ (.int .i64 g.P)).setCell ⟨N2, 8, none⟩ (.int .i64 g.O)).setCell ⟨N2, 9, none⟩ (.slice (some ⟨g6, 0, none⟩) l.length c6) = w6 := ⟨_, rfl⟩
        have q1 : Blk w5 N1 53 (s.arr p) := by rw [← h5]; simpa using ((((HS1.out).set_ 0 _).set_ 1 _).set_ 2 _).set_ 3 _
        have k5 : Keeps V.heap.size [N1] V w5 := by rw [← h5]; exact (((((Keeps.refl _ _ _).setCell _ _ (.inl (by simp))).setCell _ _ (.inl (by simp))).setCell _ _ (.inl (by simp))).setCell _ _ (.inl (by simp)))
        have q2 : Blk w6 N2 55 (refArr s g (.slice (some ⟨g6, 0, none⟩) l.length c6)) := by rw [← h6]; simpa using (((((((((((k5.blk HS2.out.lt (by simpa using ne3') HS2.out)).set_ 0 _).set_ 1 _).set_ 2 _).set_ 3 _).set_ 4 _).set_ 5 _).set_ 6 _).set_ 7 _).set_ 8 _).set_ 9 _
        have k6 : Keeps w5.heap.size [N2] w5 w6 := by rw [← h6]; exact (((((((((((Keeps.refl _ _ _).setCell _ _ (.inl (by simp))).setCell _ _ (.inl (by simp))).setCell _ _ (.inl (by simp))).setCell _ _ (.inl (by simp))).setCell _ _ (.inl (by simp))).setCell _ _ (.inl (by simp))).setCell _ _ (.inl (by simp))).setCell _ _ (.inl (by simp))).setCell _ _ (.inl (by simp))).setCell _ _ (.inl (by simp)))
        have z5 : w5.heap.size = V.heap.size := by rw [← h5]; simp
        have z6 : w6.heap.size = V.heap.size := by rw [← h6]; simp [z5]
        rw [h5, h6]
        have kk : Keeps V.heap.size [N1, N2] V w6.drew := ((k5.mono (Nat.le_refl _) (by simp)).trans (k6.mono (by omega) (by simp))).drew
        have p1 : Blk w6.drew N1 53 (s.arr p) := k6.blk q1.lt (by simpa using ne3) q1
        have p2 : Blk w6.drew N2 55 (refArr s g (.slice (some ⟨g6, 0, none⟩) l.length c6)) := q2
        have hDn : D ≠ N1 ∧ D ≠ N2 := by have := HN12.out; omega
        have d9 : w6.drew.heap[D]? = some (.deferred (some [])) := (kk.block D (Array.getElem?_eq_some_iff.1 HKV.out).1 (by simpa using hDn)).trans HKV.out
        have hrs := hrest.out
        have hDV : D < V.heap.size := (Array.getElem?_eq_some_iff.1 HKV.out).1
        have z7 : w6.drew.heap.size = V.heap.size := z6
        obtain ⟨W9, hW9⟩ : ∃ W9, w6.drew = W9 := ⟨_, rfl⟩
        rw [hW9] at kk p1 p2 d9 z7 ⊢
        have KK := Lib.hid kk
        have P1 := Lib.hid p1
        have P2 := Lib.hid p2
        have D9 := Lib.hid d9
        have Z7 := Lib.hid z7
        clear h5 h6 q1 k5 q2 k6 z5 z6 kk p1 p2 d9 z7 hW9 a0 a1 a2 a3 b0 b1 b2 b3 b4 b5 b6 b7 b8 b9 m0 m1 m2 m3 m4 m5 m6 m7 m8 m9 hfrom fz1 fz2
        gi_wp2
        have kF : Keeps V.heap.size [N1, N2, D] V (W9.putObj D (.deferred none)) := (KK.out.mono (Nat.le_refl _) (by simp)).putObj D _ (.inl (by simp))
        have kG : Keeps W9.heap.size [D] W9 (W9.putObj D (.deferred none)) := (Keeps.refl _ _ _).putObj D _ (.inl (by simp))
        have e1 := kG.blk P1.out.lt (by simpa using fun h => hDn.1 h.symm) P1.out
        have e2 := kG.blk P2.out.lt (by simpa using fun h => hDn.2 h.symm) P2.out
        have r1 : (loadVar 53 ⟨N1, 0, none⟩).run Try.prog (W9.putObj D (.deferred none)) = .ok (s.v p) _ := run_loadVar_row _ _ _ _ _ _ _ e1 Try.underlying53 rfl size_snap
        have r2 : (loadVar 55 ⟨N2, 0, none⟩).run Try.prog (W9.putObj D (.deferred none)) = .ok (.agg (refArr s g (.slice (some ⟨g6, 0, none⟩) l.length c6))) _ := run_loadVar_row _ _ _ _ _ _ _ e2 Try.underlying55 rfl size_ref12
        refine ⟨by simp, .inl ⟨_, _, rfl, run_takeDeferred D9.out, ?_⟩⟩
        refine ⟨.tuple #[s.v p, .agg (refArr s g (.slice (some ⟨g6, 0, none⟩) l.length c6)), .bool true], ?_, ?_⟩
        · simp [results, Try.results38, asAddr, r1, r2]
        · have n12 := HN12.out
          have nn := HNN.out
          refine ⟨p, bl, bv, lv, g6, c6, by rw [HL.out], ?_, by rw [HL.out]; exact HO.out, ?_, ⟨by omega, by omega, by omega, by omega⟩, ?_⟩
          · rw [HL.out]
            have hml := HM.out.lt
            exact HMV.out.keeps kF ⟨by omega, by simp; omega⟩ ⟨by omega, by simp; omega⟩ ⟨by omega, by simp; omega⟩
          · rw [HL.out]
            have ho := own_keeps_v kF (fun g' hg' => by
              have := World.ownsRow.lt HA2.out g' hg'
              obtain rfl : g6 = g' := by simpa [Value.ownBlock] using hg'
              refine ⟨this.2, ?_⟩
              simp
              refine ⟨by omega, by omega, ?_⟩
              rintro rfl
              have hd := HKV.out
              obtain ⟨_, c', cur, e', _, hh, _⟩ := (HA2.out.2).resolve_left (by rintro ⟨h, _⟩; cases h)
              injection e' with e' _ _
              injection e' with e'
              injection e' with e' _ _
              rw [← e'] at hh
              rw [hh] at hd
              cases hd) HA2.out
            exact (own_grow (w1 := W9.putObj D (.deferred none)) ho (Below.refl _ _)).1
          · exact hrs.1.trans (Keeps.below (kF.mono hrs.1.size (fun i hi => hi)) (by simp; omega))
end Go.Proofs.Ytcgafnmpfdkfoaa
/- Law SnapZones: the walk. -/
namespace Go.Proofs.Ytcgafnmpfdkfoaa
open Go.RowKit

theorem geom_holds_z (g : G) (z o : Int) (w : World) (b : Bool) (h : g.holds z o = b) : Calls Try.prog 41 #[g.v, .int .i64 z, .int .i64 o] w fun e w' => e = .returned (.bool b) ∧ Below w.heap.size w w' := h ▸ geom_holds g z o w
/-- Frames, whatever the snapshot. -/
theorem frames_err (w : World) (p bl bv : Nat) (g : G) (l : List E) (lv : List Int) (s : Sn) (hM : MapAt w p bl bv g l lv) (hz : l.length ≤ 1000) (z : Int) (h : s.right l = false ∨ g.holds z 0 = false) :
    Calls Try.prog 39 #[s.v p, .int .i64 z] w fun r w' => r = .returned (.tuple #[.slice none 0 0, .int .i64 10]) ∧ Below w.heap.size w w' := by
  cases hr : s.right l with
  | false => exact frames_no w p bl bv g l lv s hM hz z hr
  | true => exact frames_out w p bl bv g l lv s hM hz z hr (h.resolve_left (by rw [hr]; simp))
theorem frame_zone (s : Sn) (g : G) (l : List E) (a b : Int) (k : Nat) : (frameAt s g l b k).arr.setIfInBounds 1 (.int .i64 a) = (frameAt s g l a k).arr := by
  unfold frameAt Fr.arr
  split <;> (apply Array.ext'; simp)
theorem frameAt_nums (s : Sn) (g : G) (l : List E) (z : Int) (k : Nat) : (frameAt s g l z k).arr[2]? = some (.int .i64 k) ∧ (frameAt s g l z k).arr[1]? = some (.int .i64 z) := by
  unfold frameAt Fr.arr
  split
  · rename_i h; subst h; exact ⟨by simp, by simp⟩
  · exact ⟨by simp, by simp⟩
theorem G.holds_range {g : G} {z : Int} (h : g.holds z 0 = true) : 0 ≤ z ∧ z < g.all := by
  unfold G.holds at h
  simp only [Bool.and_eq_true, wi_true] at h
  omega
theorem frame_right_true (s : Sn) (g : G) (l : List E) (z : Int) (k : Nat) (hz : 0 ≤ z ∧ z < g.all) (hr : g.right = true) (hk : k ≤ 60000) (hs : 0 ≤ s.gen ∧ s.gen ≤ 281474976710655) (he : 1 ≤ s.ep ∧ s.ep ≤ 4294967295) : (frameAt s g l z k).right = true := by
  have ha := (G.small_of_right hr).all_le
  unfold frameAt Fr.right
  split <;> simp only [Bool.and_eq_true, wi_true] <;> exact ⟨⟨⟨⟨by omega, by omega⟩, by omega⟩, he⟩, hs⟩
def sZ : Sn := ⟨3, 2, 281474976710655⟩

set_option maxRecDepth 100000 in
set_option maxHeartbeats 2000000 in
theorem zones_walk (w : World) (g : G) (A : Option Addr) (n c : Nat) (ops : List Op11) (h : OpsAt w A n c ops) (a b : Int) :
    Calls Try.prog 6 #[g.v, .slice A n c, .int .i64 a, .int .i64 b] w fun r w' => r = .returned (.bool true) ∧ Below w.heap.size w w' := by
  obtain ⟨W0, hW0⟩ : ∃ W0, w.alloc g.box = W0 := ⟨_, rfl⟩
  have k0 : Blk W0 w.heap.size 23 g.arr := by rw [← hW0]; exact Blk.newAt rfl
  have U0 : Below w.heap.size w W0 := by rw [← hW0]; exact below_box _ _
  have HU := Lib.hid U0
  have K0 := Lib.hid k0
  have HO := Lib.hid h
  clear h U0 k0
  go_enter Try.func6, Try.ntmps6
  go_wp2_with fail
  clear hW0
  refine (anchor12 W0).mono ?_
  rintro r w1 ⟨rfl, hb1⟩
  have K1 := Lib.hid ((Keeps.of_below (S := []) hb1).blk K0.out.lt (by simp) K0.out)
  have U1 : Hid (Below w.heap.size w w1) := Lib.hid (HU.out.trans (hb1.mono HU.out.size))
  obtain ⟨⟨x0, x1⟩, ⟨x2, x3⟩, x4, x5⟩ := K1.out.gcells
  clear hb1
  go_wp2_with fail
  by_cases hbad : g.right = false ∨ 60 < n
  · have hmade : Hid (Calls Try.prog 38 #[g.v, .slice A n c, .int .i64 3, .int .i64 2, .int .i64 281474976710655] w1 fun r w' => r = .returned (.tuple #[sn0, ref0, .bool false]) ∧ Below w1.heap.size w1 w') := by
      cases hr : g.right with
      | false => exact Lib.hid (made12_no w1 g A n c _ _ _ hr)
      | true => exact Lib.hid (made12_long w1 g A n c _ _ _ hr (hbad.resolve_left (by rw [hr]; simp)))
    refine hmade.out.mono ?_
    rintro r w2 ⟨rfl, hb2⟩
    have U2 : Hid (Below w.heap.size w w2) := Lib.hid (U1.out.trans (hb2.mono U1.out.size))
    clear hb2 x0 x1 x2 x3 x4 x5 hmade hbad
    go_wp2
    go_ret
    exact ⟨rfl, (U2.out.alloc U2.out.size _).alloc (by have := U2.out.size; simp; omega) _⟩
  · have hr : g.right = true := by cases hr : g.right with | true => rfl | false => exact absurd (.inl hr) hbad
    have hn : n ≤ 60 := by omega
    have hops : OpsAt w1 A n c ops := by
      obtain ⟨h1, h2, h3, h4⟩ := HO.out
      refine ⟨h1, h2, h3, fun hp => ?_⟩
      obtain ⟨b', off, e1, e2, e3⟩ := h4 hp
      have hk : ∀ o, w1.cell? ⟨b', o, none⟩ = w.cell? ⟨b', o, none⟩ := fun o => U1.out.cell (p := ⟨b', o, none⟩) e2
      exact ⟨b', off, e1, Nat.lt_of_lt_of_le e2 U1.out.size, fun k o ho => by simpa only [hk] using e3 k o ho⟩
    refine (made12_yes w1 g A n c ops hops sZ hr hn).mono ?_
    rintro r w2 ⟨p, bl, bv, lv, rb, rc, rfl, hM, hOk, _, _, hb2⟩
    obtain ⟨l, hl⟩ : ∃ l, playL g ops = l := ⟨_, rfl⟩
    rw [hl] at hM hOk ⊢
    obtain ⟨V2, hV2⟩ : ∃ V2, (w2.alloc (sZ.box p)).alloc (.cells (refArr sZ g (.slice (some ⟨rb, 0, none⟩) l.length rc)) 55) = V2 := ⟨_, rfl⟩
    have b3 : Below w2.heap.size w2 V2 := by rw [← hV2]; exact (below_box _ _).alloc (by simp) _
    have y3 : Blk V2 w2.heap.size 53 (sZ.arr p) := by rw [← hV2]; exact (Blk.newAt rfl).alloc _
    have M3 := Lib.hid (hM.grow b3)
    have U3 : Hid (Below w.heap.size w V2) := Lib.hid (U1.out.trans ((hb2.trans (b3.mono hb2.size)).mono U1.out.size))
    have K3 := Lib.hid ((Keeps.of_below (S := []) (hb2.trans (b3.mono hb2.size))).blk K1.out.lt (by simp) K1.out)
    have HOk := Lib.hid hOk
    have HY := Lib.hid y3
    have HR := Lib.hid hr
    obtain ⟨⟨y0, y1⟩, y2, y3⟩ := y3.scells
    clear hM hOk hb2 b3 hl hbad hops x0 x1 x2 x3 x4 x5 hr
    have hz := HOk.out.len1000
    by_cases hab : sZ.right l = false ∨ g.holds a 0 = false ∨ g.holds b 0 = false
    · have fin : Hid (∀ w4 w5, Below V2.heap.size V2 w4 → Below w4.heap.size w4 w5 → MapAt w5 p bl bv g l lv ∧ Blk w5 w2.heap.size 53 (sZ.arr p) ∧ Blk w5 w.heap.size 23 g.arr ∧ Below w.heap.size w w5) := Lib.hid fun w4 w5 h4 h5 => by
        have hb := h4.trans (h5.mono h4.size)
        exact ⟨M3.out.grow hb, (Keeps.of_below (S := []) hb).blk HY.out.lt (by simp) HY.out, (Keeps.of_below (S := []) hb).blk K3.out.lt (by simp) K3.out, U3.out.trans (hb.mono U3.out.size)⟩
      cases hsr : sZ.right l with
      | false =>
        go_wp2_with fail
        clear hV2
        refine (frames_err V2 p bl bv g l lv sZ M3.out hz a (.inl hsr)).mono ?_
        rintro r w4 ⟨rfl, hb4⟩
        obtain ⟨m4, s4, g4, u4⟩ := fin.out w4 w4 hb4 (Below.refl _ _)
        have H4 := Lib.hid hb4
        have M4 := Lib.hid m4
        clear y0 y1 y2 y3 hb4 m4 u4 g4
        obtain ⟨⟨y0, y1⟩, y2, y3⟩ := s4.scells
        clear s4
        go_wp2_with fail
        refine (frames_err w4 p bl bv g l lv sZ M4.out hz b (.inl hsr)).mono ?_
        rintro r w5 ⟨rfl, hb5⟩
        obtain ⟨m5, s5, g5, u5⟩ := fin.out w4 w5 H4.out hb5
        have M5 := Lib.hid m5
        have U5 := Lib.hid u5
        clear y0 y1 y2 y3 hb5 m5 u5 g5
        obtain ⟨⟨y0, y1⟩, y2, y3⟩ := s5.scells
        clear s5
        go_wp2_with fail
        refine (snap_right_v w5 p bl bv g l lv sZ M5.out hz _ hsr).mono ?_
        rintro r w6 ⟨rfl, hb6⟩
        go_wp2
        go_ret
        exact ⟨rfl, U5.out.trans (hb6.mono U5.out.size)⟩
      | true =>
        have hok := HOk.out.sn hsr
        have HK := Lib.hid hok
        clear hok
        cases ha : g.holds a 0 with
        | false =>
          go_wp2_with fail
          clear hV2
          refine (frames_err V2 p bl bv g l lv sZ M3.out hz a (.inr ha)).mono ?_
          rintro r w4 ⟨rfl, hb4⟩
          obtain ⟨m4, s4, g4, u4⟩ := fin.out w4 w4 hb4 (Below.refl _ _)
          have H4 := Lib.hid hb4
          have M4 := Lib.hid m4
          clear y0 y1 y2 y3 hb4 m4 u4 g4
          obtain ⟨⟨y0, y1⟩, y2, y3⟩ := s4.scells
          clear s4
          go_wp2_with fail
          have hfr : Hid (Calls Try.prog 39 #[sZ.v p, .int .i64 b] w4 fun r w' => (∃ v e, r = .returned (.tuple #[v, .int .i64 e])) ∧ Below w4.heap.size w4 w') := by
            cases hb : g.holds b 0 with
            | false => exact Lib.hid ((frames_err w4 p bl bv g l lv sZ M4.out hz b (.inr hb)).mono fun r w' h => ⟨⟨_, _, h.1⟩, h.2⟩)
            | true => exact Lib.hid ((frames_yes w4 p bl bv g l lv sZ M4.out HK.out b hb).mono fun r w' h => by obtain ⟨x, y, h1, _, _, h2⟩ := h; exact ⟨⟨_, _, h1⟩, h2⟩)
          refine hfr.out.mono ?_
          rintro r w5 ⟨⟨v5, e5, rfl⟩, hb5⟩
          obtain ⟨m5, s5, g5, u5⟩ := fin.out w4 w5 H4.out hb5
          have M5 := Lib.hid m5
          have U5 := Lib.hid u5
          have G5 := Lib.hid g5
          clear y0 y1 y2 y3 hb5 m5 u5 g5 hfr
          obtain ⟨⟨y0, y1⟩, y2, y3⟩ := s5.scells
          clear s5
          go_wp2_with fail
          refine (snap_right_v w5 p bl bv g l lv sZ M5.out hz _ hsr).mono ?_
          rintro r w6 ⟨rfl, hb6⟩
          have G6 := (Keeps.of_below (S := []) hb6).blk G5.out.lt (by simp) G5.out
          have U6 := Lib.hid (U5.out.trans (hb6.mono U5.out.size))
          obtain ⟨⟨x0, x1⟩, ⟨x2, x3⟩, x4, x5⟩ := G6.gcells
          clear y0 y1 y2 y3 hb6 G6
          go_wp2_with fail
          refine (geom_holds_z g a 0 w6 _ ha).mono ?_
          rintro r w7 ⟨rfl, hb7⟩
          go_wp2
          go_ret
          exact ⟨rfl, U6.out.trans (hb7.mono U6.out.size)⟩
        | true =>
          have hbf : g.holds b 0 = false := (hab.resolve_left (by rw [hsr]; simp)).resolve_left (by rw [ha]; simp)
          go_wp2_with fail
          clear hV2
          refine (frames_yes V2 p bl bv g l lv sZ M3.out HK.out a ha).mono ?_
          rintro r w4 ⟨b1, c1, rfl, _, hL1, hb4⟩
          obtain ⟨m4, s4, g4, u4⟩ := fin.out w4 w4 hb4 (Below.refl _ _)
          have H4 := Lib.hid hb4
          have M4 := Lib.hid m4
          clear y0 y1 y2 y3 hb4 m4 u4 g4 hL1
          obtain ⟨⟨y0, y1⟩, y2, y3⟩ := s4.scells
          clear s4
          go_wp2_with fail
          refine (frames_err w4 p bl bv g l lv sZ M4.out hz b (.inr hbf)).mono ?_
          rintro r w5 ⟨rfl, hb5⟩
          obtain ⟨m5, s5, g5, u5⟩ := fin.out w4 w5 H4.out hb5
          have M5 := Lib.hid m5
          have U5 := Lib.hid u5
          have G5 := Lib.hid g5
          clear y0 y1 y2 y3 hb5 m5 u5 g5
          obtain ⟨⟨y0, y1⟩, y2, y3⟩ := s5.scells
          clear s5
          go_wp2_with fail
          refine (snap_right_v w5 p bl bv g l lv sZ M5.out hz _ hsr).mono ?_
          rintro r w6 ⟨rfl, hb6⟩
          have G6 := (Keeps.of_below (S := []) hb6).blk G5.out.lt (by simp) G5.out
          have U6 := Lib.hid (U5.out.trans (hb6.mono U5.out.size))
          have HG6 := Lib.hid G6
          obtain ⟨⟨x0, x1⟩, ⟨x2, x3⟩, x4, x5⟩ := G6.gcells
          clear y0 y1 y2 y3 hb6 G6
          go_wp2_with fail
          refine (geom_holds_z g a 0 w6 _ ha).mono ?_
          rintro r w7 ⟨rfl, hb7⟩
          have G7 := (Keeps.of_below (S := []) hb7).blk HG6.out.lt (by simp) HG6.out
          have U7 := Lib.hid (U6.out.trans (hb7.mono U6.out.size))
          clear x0 x1 x2 x3 x4 x5 hb7
          obtain ⟨⟨x0, x1⟩, ⟨x2, x3⟩, x4, x5⟩ := G7.gcells
          clear G7
          go_wp2_with fail
          refine (geom_holds_z g b 0 w7 _ hbf).mono ?_
          rintro r w8 ⟨rfl, hb8⟩
          go_wp2
          go_ret
          exact ⟨rfl, U7.out.trans (hb8.mono U7.out.size)⟩
    · have hsr : sZ.right l = true := by cases hx : sZ.right l with | true => rfl | false => exact absurd (.inl hx) hab
      have ha : g.holds a 0 = true := by cases hx : g.holds a 0 with | true => rfl | false => exact absurd (.inr (.inl hx)) hab
      have hbt : g.holds b 0 = true := by cases hx : g.holds b 0 with | true => rfl | false => exact absurd (.inr (.inr hx)) hab
      have HK := Lib.hid (HOk.out.sn hsr)
      clear hab
      go_wp2_with fail
      clear hV2
      refine (frames_yes V2 p bl bv g l lv sZ M3.out HK.out a ha).mono ?_
      rintro r w4 ⟨b1, c1, rfl, _, hL1, hb4⟩
      have M4 := Lib.hid (M3.out.grow hb4)
      have Y4 := (Keeps.of_below (S := []) hb4).blk HY.out.lt (by simp) HY.out
      have G4 := Lib.hid ((Keeps.of_below (S := []) hb4).blk K3.out.lt (by simp) K3.out)
      have U4 := Lib.hid (U3.out.trans (hb4.mono U3.out.size))
      have L4 := Lib.hid hL1
      clear y0 y1 y2 y3 hb4 hL1
      obtain ⟨⟨y0, y1⟩, y2, y3⟩ := Y4.scells
      clear Y4
      go_wp2_with fail
      refine (frames_yes w4 p bl bv g l lv sZ M4.out HK.out b hbt).mono ?_
      rintro r w5 ⟨b2, c2, rfl, _, hL2, hb5⟩
      have G5 := Lib.hid ((Keeps.of_below (S := []) hb5).blk G4.out.lt (by simp) G4.out)
      have U5 := Lib.hid (U4.out.trans (hb5.mono U4.out.size))
      have L5 := Lib.hid ((own_grow L4.out hb5).1)
      have L6 := Lib.hid hL2
      clear y0 y1 y2 y3 hb5 hL2
      obtain ⟨np, hnp⟩ : ∃ np, nparts l = np := ⟨_, rfl⟩
      have hn1 : np ≤ 1000 := by have := HK.out.len; have := (G.small_of_right HR.out).B1; unfold nparts at hnp; omega
      rw [frames_length, frames_length, hnp]
      have HNP := Lib.hid hnp
      clear hnp
      go_wp2
      go_loopw [64] (fun i wr => ∃ k : Nat, k ≤ np ∧ i = .int .i64 k ∧ Below w5.heap.size w5 wr) (fun i _ => np - (intOf i).toNat)
      case atStart => exact ⟨0, Nat.zero_le _, rfl, Below.refl _ _⟩
      case round =>
        obtain ⟨k, hk, rfl, hB⟩ := hrel
        by_cases hlt : k < np
        · have hk1 := HNP.out
          have o5 := (own_grow L5.out hB).1
          have o6 := (own_grow L6.out hB).1
          have okX := frames_ok sZ g l a
          have okY := frames_ok sZ g l b
          have gX := frames_get sZ g l a k (by omega)
          have gY := frames_get sZ g l b k (by omega)
          have hset := frame_zone sZ g l a b k
          have hszX := Fr.size (frameAt_ok sZ g l a k)
          have hszY := Fr.size (frameAt_ok sZ g l b k)
          have h1Y := Fr.one (frameAt sZ g l b k)
          have hright := Lib.hid (frame_right_true sZ g l a k ((G.holds_range ha)) (HR.out) (by omega) (by decide) (by decide))
          have heq := fun W => frame_eq (frameAt sZ g l a k) (frameAt sZ g l a k) (frameAt_ok sZ g l a k) (frameAt_ok sZ g l a k) W
          have cX := fun j hj => FrL.cells o5 okX gX j hj
          have cY := fun j hj => FrL.cells o6 okY gY j hj
          have ltX := FrL.lt o5
          have ltY := FrL.lt o6
          have hcall := Lib.hid (fun W => frame_right (frameAt sZ g l a k) W)
          rw [frame_right_true sZ g l a k ((G.holds_range ha)) (HR.out) (by omega) (by decide) (by decide)] at hcall
          unfold Fr.v at hcall
          have nX : (frameAt sZ g l a k).arr[2]? = some (.int .i64 k) ∧ (frameAt sZ g l a k).arr[1]? = some (.int .i64 a) := frameAt_nums sZ g l a k
          have nY : (frameAt sZ g l b k).arr[1]? = some (.int .i64 b) := (frameAt_nums sZ g l b k).2
          generalize (frameAt sZ g l a k).arr = X at *
          generalize (frameAt sZ g l b k).arr = Y at *
          have hBw := Lib.hid (U5.out.trans (hB.mono U5.out.size))
          have HB := Lib.hid hB
          have hst1 : ∀ W : World, (storeCells ⟨W.heap.size, 0, none⟩ Y.toList 0).run Try.prog (W.alloc (.cells Z49 64)) = .ok () (W.alloc (.cells Y 64)) := fun W => run_storeCells_new W 64 Z49 Y (by rw [hszY]; exact size_frame) (by rw [hszY]; rfl) h1Y
          obtain ⟨V6, hV6⟩ : ∃ V6, wr.alloc (.cells Y 64) = V6 := ⟨_, rfl⟩
          obtain ⟨V7, hV7⟩ : ∃ V7, V6.setCell ⟨wr.heap.size, 1, none⟩ (.int .i64 a) = V7 := ⟨_, rfl⟩
          have q6 : Blk V6 wr.heap.size 64 Y := by rw [← hV6]; exact Blk.newAt rfl
          have b6 : Below wr.heap.size wr V6 := by rw [← hV6]; exact below_box _ _
          have q7 : Blk V7 wr.heap.size 64 X := by rw [← hV7, ← hset]; exact q6.set_ 1 _
          have b7 : Below wr.heap.size wr V7 := by rw [← hV7]; exact b6.setCell (Nat.le_refl _) _
          have d1 : V6.cell? ⟨wr.heap.size, 1, none⟩ = some (.int .i64 b) := by rw [q6.cell]; exact nY
          have df : V6.frozen? ⟨wr.heap.size, 1, none⟩ = false := q6.frozen 1
          have dl := q6.lt
          have dl7 := q7.lt
          have hiX : (Try.prog.info? 64).map (·.size) = some X.size := by rw [hszX]; exact size_frame
          have hiY : (Try.prog.info? 64).map (·.size) = some Y.toList.length := by rw [Array.length_toList, hszY]; exact size_frame
          have rY : wr.rangeAt b2 (k * 49) Y.toList := fun j v hv => by
            have hj := (List.getElem?_eq_some_iff.1 hv).1
            rw [Array.length_toList, hszY] at hj
            rw [cY j hj]
            simpa using hv
          have ltX7 : b1 < V7.heap.size := by have := b7.size; omega
          have eX1 : V7.cell? ⟨b1, k * 49 + 1, none⟩ = some (.int .i64 a) := by rw [b7.cell (p := ⟨b1, k * 49 + 1, none⟩) ltX, cX 1 (by omega)]; exact nX.2
          have eX2 : V7.cell? ⟨b1, k * 49 + 2, none⟩ = some (.int .i64 k) := by rw [b7.cell (p := ⟨b1, k * 49 + 2, none⟩) ltX, cX 2 (by omega)]; exact nX.1
          have hl1 : ∀ W, (∃ x : From V7, W = x.val) → W.rangeAt b1 (k * 49) X.toList := by
            rintro _ ⟨x, rfl⟩ j v hv
            have hj := (List.getElem?_eq_some_iff.1 hv).1
            rw [Array.length_toList, hszX] at hj
            rw [x.cell b1 _ ltX7, b7.cell (p := ⟨b1, k * 49 + j, none⟩) ltX, cX j hj]
            simpa using hv
          have hl2 : ∀ W, (∃ x : From V7, W = x.val) → W.rangeAt wr.heap.size 0 X.toList := by
            rintro _ ⟨x, rfl⟩ j v hv
            rw [x.cell wr.heap.size _ dl7, Nat.zero_add, q7.cell]
            simpa using hv
          have HL1 := Lib.hid hl1
          have HL2 := Lib.hid hl2
          have HIX := Lib.hid hiX
          clear hl1 hl2
          have heq' : ∀ W, (Op.equalIn 10000 64 (.agg X) (.agg X)).run Try.prog W = .ok true W := fun W => by rw [heq W]; simp
          have hfrom := @From.cell V7
          have HRY := Lib.hid rY
          have HIY := Lib.hid hiY
          have HB7 := Lib.hid b7
          clear hB o5 o6 okX okY gX gY hset h1Y heq cX cY nX nY q6 b6 q7 b7 rY hiX hiY
          go_wp2_with (refine wpList_load_mid rfl 64 (.tmp 69) rfl b2 (k * 49) rfl Y.toList _ HRY.out Try.underlying64 rfl HIY.out ?_)
          clear hV6 hV7 d1 df dl hszY hst1
          refine region_from (by kernel_rfl) (by kernel_rfl) ?_
          repeat (first
            | (go_big_quiet_want; refine quiet_load 64 (.tmp 75) rfl b1 (k * 49) rfl X HL1.out _ Try.underlying64 rfl HIX.out ?_; go_simp; go_big_quiet_on)
            | (go_big_quiet_want; refine quiet_load 64 (.tmp 17) rfl wr.heap.size 0 rfl X HL2.out _ Try.underlying64 rfl HIX.out ?_; go_simp; go_big_quiet_on)
            | (go_big_quiet_want; refine quiet_load 64 (.tmp 100) rfl b1 (k * 49) rfl X HL1.out _ Try.underlying64 rfl HIX.out ?_; go_simp; go_big_quiet_on)
            | (go_big_quiet_step ((first | (go_at_call 42; exact from_call (hcall.out _))))))
          refine wpQuiet_nil ?_
          intro W hW
          have HW : Hid (Below w5.heap.size w5 W) := Lib.hid ((HB.out.trans (HB7.out.mono HB.out.size)).trans (hW.mono (by have := HB.out.size; have := HB7.out.size; omega)))
          clear hW hfrom heq' eX1 eX2
          go_wp2
          go_roundw
          case rel => exact ⟨k + 1, by omega, by simp, HW.out⟩
          case measure => simp [intOf]; omega
        · obtain rfl : k = np := by omega
          have G6 := (Keeps.of_below (S := []) hB).blk G5.out.lt (by simp) G5.out
          obtain ⟨⟨x0, x1⟩, ⟨x2, x3⟩, x4, x5⟩ := G6.gcells
          have hpe : ((k : Int) == g.parts) = true := by
            have h1 := HNP.out
            have h2 := HK.out.len
            simp only [beq_iff_eq]
            unfold G.parts
            unfold nparts at h1
            omega
          have hB0 : 0 ≤ g.B := by have := (G.small_of_right HR.out).B0; omega
          have hB1 : g.B ≤ 1000000 := by have := (G.small_of_right HR.out).B1; omega
          have HB := Lib.hid (U5.out.trans (hB.mono U5.out.size))
          clear hB G6
          go_wp2_with (go_at_call 43; refine (geom_parts g _ hB0 hB1).mono ?_; rintro r w' ⟨rfl, rfl⟩)
          go_ret
          exact ⟨rfl, HB.out.alloc HB.out.size _⟩
end Go.Proofs.Ytcgafnmpfdkfoaa
