/- The iterator over the blocks that lie in a zone: it goes over all entries. -/
import Derived.Test.YtcgafnmpfdkfoaaIter2
namespace Go.Proofs.Ytcgafnmpfdkfoaa
open Go.RowKit Go.Shelf

attribute [local go_sem] Oper.semAt_some

/-- The blocks of these that lie in a zone. -/
def insOf (z : Int) (xs : List (Nat × E)) : List Nat := (xs.filter fun x => x.2.has z).map (·.1)
theorem insOf_snoc (z : Int) (pre : List (Nat × E)) (x : Nat × E) : insOf z (pre ++ [x]) = if x.2.has z = true then insOf z pre ++ [x.1] else insOf z pre := by
  unfold insOf
  rw [List.filter_append, List.map_append]
  by_cases h : x.2.has z = true
  · rw [if_pos h]; simp [h]
  · rw [if_neg h]; simp [h]
theorem insOf_split (z : Int) (pre rest : List (Nat × E)) (x : Nat × E) (h : x.2.has z = true) : insOf z (pre ++ x :: rest) = insOf z pre ++ x.1 :: insOf z rest := by
  simp [insOf, h]
theorem has_cases (z : Int) (e : E) : (e.has z = true ∧ (e.st = 1 ∧ (e.zn = z ∨ ¬ e.zn = z ∧ e.mt = z))) ∨ (e.has z = false ∧ (¬ e.st = 1 ∨ e.st = 1 ∧ ¬ e.zn = z ∧ ¬ e.mt = z)) := by
  by_cases h : e.has z = true
  · refine .inl ⟨h, ?_⟩
    simp only [E.has, decide_eq_true_eq] at h
    omega
  · refine .inr ⟨by simpa using h, ?_⟩
    simp only [E.has, decide_eq_true_eq] at h
    omega

set_option maxRecDepth 100000 in
set_option maxHeartbeats 1000000 in
theorem in_iter (w : World) (p bl bv Bm Bz : Nat) (g : G) (l : List E) (lv : List Int) (hM : MapAt w p bl bv g l lv) (hz : l.length ≤ 1000) (z : Int) (S : List Nat) (cm : w.cell? ⟨Bm, 0, none⟩ = some (.pointer (some ⟨p, 0, none⟩))) (cz : w.cell? ⟨Bz, 0, none⟩ = some (.int .i64 z))
    (hm : Bm < w.heap.size) (hzz : Bz < w.heap.size) (hS : ∀ i ∈ S, i < w.heap.size) (hlS : bl ∉ S) (hzS : Bz ∉ S) :
    Iter Try.prog 116 #[.pointer (some ⟨Bm, 0, none⟩), .pointer (some ⟨Bz, 0, none⟩)] (fun b : Nat => #[.int .i64 b]) (insOf z (enum l)) S w := by
  intro n lo J W hW hlo hlt hJ hY h0
  have cm' := (hW.cell (p := ⟨Bm, 0, none⟩) hm).trans cm
  have hM' := hM.grow hW
  have hsW := hW.size
  refine callsIn_of_wp_marks Try.func116 rfl trivial ?_ rfl
  simp only [Try.ntmps116, List.size_toArray, List.length_cons, List.length_nil, Nat.reduceAdd, Nat.reduceSub, Array.replicate_succ, Array.replicate_zero, List.push_toArray, List.append_toArray, List.nil_append, List.cons_append]
  obtain ⟨W1, hW1⟩ : ∃ W1, W.alloc (.cells #[.func (.yield lo) #[] #[]] 205) = W1 := ⟨_, rfl⟩
  have hb1 : Below W.heap.size W W1 := by rw [← hW1]; exact below_box _ _
  have hs1 : W1.heap.size = W.heap.size + 1 := by rw [← hW1]; simp
  have c3 : W1.cell? ⟨W.heap.size, 0, none⟩ = some (.func (.yield lo) #[] #[]) := by rw [← hW1]; simp
  have cm1 := (hb1.cell (p := ⟨Bm, 0, none⟩) (Nat.lt_of_lt_of_le hm hsW)).trans cm'
  have hcall := map_all_made W1 p bl bv g l lv (hM'.grow hb1)
  gi_wp2
  refine ⟨trivial, wide_any, ?_⟩
  refine CallsIn.mono (callsIn_wide.2 hcall) ?_
  clear hcall
  rintro r w2 ⟨rfl, hb2, hs2, hc2⟩
  gi_wp2
  have hn1 : bl ∉ lo :: S := by have := hM.lt; simp; exact ⟨by omega, hlS⟩
  have hit := MapAt.iter (hM'.grow hb1) hz hb2 hs2 hc2 (lo :: S) hn1
  rw [hs1] at hit hs2 hb2
  refine range_run (gf := 139) (lb := #[.pointer (some ⟨W.heap.size + 1, 0, none⟩)]) (encs := fun x : Nat × E => #[.int .i64 x.1, x.2.v]) (xs := enum l) (S := lo :: S) rfl (enters_of Try.func139 (by kernel_rfl) rfl) hit ?hS (fun _ => rfl)
    (fun pre W2 => J (insOf z pre) W2 ∧ Keeps W.heap.size (lo :: S) W W2 ∧ W2.cell? ⟨W.heap.size, 0, none⟩ = some (.func (.yield lo) #[] #[]) ∧ W.heap.size + 1 < W2.heap.size) ?hI ?h0 ?hround ?hdone
  case hS =>
    intro i hi
    rcases List.mem_cons.1 hi with rfl | hi
    · omega
    · have := hS i hi; omega
  case hI =>
    rintro s X Y ⟨a, b, c, d⟩ hb
    have hsb := hb.size
    exact ⟨hJ _ _ _ a (hb.mono (by omega)), b.trans (Keeps.of_below (hb.mono (by omega))), (hb.cell (p := ⟨W.heap.size, 0, none⟩) (show W.heap.size < _ by omega)).trans c, by omega⟩
  case h0 =>
    have hbb : Below W.heap.size W w2 := hb1.trans (hb2.mono (by omega))
    exact ⟨hJ _ _ _ h0 hbb, Keeps.of_below hbb, (hb2.cell (p := ⟨W.heap.size, 0, none⟩) (show W.heap.size < _ by omega)).trans c3, hs2⟩
  case hround =>
    rintro m l' pre x rest V rfl hx ⟨hJ1, hk1, hc1, hz1⟩ hlt1
    have hsk := hk1.size
    have cz1 : V.cell? ⟨Bz, 0, none⟩ = some (.int .i64 z) := by
      rw [hk1.cell Bz 0 (by omega) (by simp; exact ⟨by omega, hzS⟩)]
      exact (hW.cell (p := ⟨Bz, 0, none⟩) hzz).trans cz
    gi_wp2
    refine ⟨below_box _ _, fun V2 kv hsv => ?_⟩
    rw [World.size_alloc] at kv hsv
    have kc : ∀ b o, b < V.heap.size → b ≠ w2.heap.size + 1 → V2.cell? ⟨b, o, none⟩ = V.cell? ⟨b, o, none⟩ := fun b o h1 h2 =>
      (kv.cell b o (by omega) (by simpa using h2)).trans ((below_box V x.2.box).cell (p := ⟨b, o, none⟩) h1)
    have kn : ∀ o, V2.cell? ⟨V.heap.size, o, none⟩ = x.2.cells.toArray[o]? := fun o => by
      rw [kv.cell _ _ (by omega) (by simp; omega)]
      exact cell_of_row _ _ _ _ _ _ (World.alloc_heap_new V x.2.box)
    have d0 := kn 0
    have d1 := kn 1
    have d2 := kn 2
    have d3 := (kc W.heap.size 0 (by omega) (by omega)).trans hc1
    have d4 := (kc Bz 0 (by omega) (by omega)).trans cz1
    simp only [List.getElem?_toArray, List.getElem?_cons_zero, List.getElem?_cons_succ] at d0 d1 d2
    have hbv : Below W.heap.size V V2 := ((Below.refl W.heap.size V).alloc (by omega) x.2.box).trans (Keeps.below (kv.mono (by omega) (fun i hi => hi)) (by simp; omega))
    have hJ2 := hJ _ _ _ hJ1 hbv
    have hk2 : Keeps W.heap.size (lo :: S) W V2 := hk1.trans (Keeps.of_below hbv)
    clear kc kn hc1 cz1 hJ1 hk1 kv hit hM hM'
    have fin : ∀ W', J (insOf z (pre ++ [x])) W' → Keeps V2.heap.size (lo :: S) V2 W' →
        (J (insOf z (pre ++ [x])) W' ∧ Keeps W.heap.size (lo :: S) W W' ∧ W'.cell? ⟨W.heap.size, 0, none⟩ = some (.func (.yield lo) #[] #[]) ∧ W.heap.size + 1 < W'.heap.size) ∧ Keeps V2.heap.size (lo :: S) V2 W' := by
      intro W' h1 h2
      have := h2.size
      exact ⟨⟨h1, hk2.trans (h2.mono (by omega) (fun i hi => hi)), (h2.cell W.heap.size 0 (by omega) (by simp; exact ⟨by omega, fun h => by have := hS _ h; omega⟩)).trans d3, by omega⟩, h2⟩
    have fin := Lib.hid fin
    rcases has_cases z x.2 with ⟨hh, h1, h2⟩ | ⟨hh, h1⟩
    · obtain ⟨fn, tmps, assign, body, hy, hR⟩ := hY (m - 1) (insOf z pre) x.1 (insOf z rest) V2 (by rw [hx]; exact insOf_split z pre rest x hh) hJ2 (by omega)
      have f1 : (x.2.st == 1) = true := by simp [h1]
      have hR' : RoundIn (Fence.wide.inRound (w2.heap.size + 1)) (m - 1) Try.prog lo fn tmps assign body V2 (fun e W' => e = .returned (.bool true) ∧ (J (insOf z (pre ++ [x])) W' ∧ Keeps W.heap.size (lo :: S) W W' ∧ W'.cell? ⟨W.heap.size, 0, none⟩ = some (.func (.yield lo) #[] #[]) ∧ W.heap.size + 1 < W'.heap.size) ∧ Keeps V2.heap.size (lo :: S) V2 W') := by
        refine RoundIn.mono (F := Fence.wide.inRound (w2.heap.size + 1)) hR ?_
        rintro e W' ⟨rfl, a, b⟩
        exact ⟨rfl, fin.out W' (by rw [insOf_snoc, if_pos hh]; exact a) b⟩
      clear fin hR hh h1
      rcases h2 with h2 | ⟨h2, h3⟩
      · have f2 : (x.2.zn == z) = true := by simp [h2]
        clear h2
        gi_wp2
        refine ⟨wide_any, hR'.mono ?_⟩
        clear hR'
        rintro e W' ⟨rfl, hq⟩
        have hq := Lib.hid hq
        gi_wp2
        exact hq.out
      · have f2 : (x.2.zn == z) = false := by simp [h2]
        have f3 : (x.2.mt == z) = true := by simp [h3]
        clear h2 h3
        gi_wp2
        refine ⟨wide_any, hR'.mono ?_⟩
        clear hR'
        rintro e W' ⟨rfl, hq⟩
        have hq := Lib.hid hq
        gi_wp2
        exact hq.out
    · have hq := Lib.hid (fin.out V2 (by rw [insOf_snoc, if_neg (by simp [hh])]; exact hJ2) (Keeps.refl _ _ _))
      clear fin hh
      rcases h1 with h1 | ⟨h1, h2, h3⟩
      · have f1 : (x.2.st == 1) = false := by simp [h1]
        clear h1
        gi_wp2
        refine ⟨fun _ h => (by cases h), ?_⟩
        gi_wp2
        exact hq.out
      · have f1 : (x.2.st == 1) = true := by simp [h1]
        have f2 : (x.2.zn == z) = false := by simp [h2]
        have f3 : (x.2.mt == z) = false := by simp [h3]
        clear h1 h2 h3
        gi_wp2
        refine ⟨fun _ h => (by cases h), ?_⟩
        gi_wp2
        exact hq.out
  case hdone =>
    rintro D V hD ⟨hJ1, hk1, hc1, hz1⟩ hK
    gi_wp2
    refine ⟨by simp, .inl ⟨_, _, rfl, run_takeDeferred hK, ?_⟩⟩
    exact ⟨_, results_none rfl _ _ _, ⟨_, rfl⟩, hJ _ _ _ hJ1 (Keeps.below ((Keeps.refl W.heap.size [D] V).putObj D _ (.inl (by simp))) (by simp; omega))⟩
end Go.Proofs.Ytcgafnmpfdkfoaa
